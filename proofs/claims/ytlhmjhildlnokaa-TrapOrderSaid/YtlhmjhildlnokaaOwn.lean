/-
  What a call has of its own: a list of resources (blocks of cells, slices that grow, rows that are read) in a world that has grown; laws of this claim's own. Nothing of the program stands here.
-/
import Derived.Test.YtlhmjhildlnokaaTail
import Derived.Laws.AppendOwn
import Derived.Deep.MidRow
namespace Go.Proofs.Ytlhmjhildlnokaa
set_option linter.unusedVariables false
open Go.RowKit

/-- A later world, in which all blocks are as they were. -/
abbrev Ext (w w' : World) : Prop := Below w.heap.size w w'
theorem Ext.drew (w : World) : Ext w w.drew := (Below.refl _ _).drew

/-- A resource. -/
inductive Res where
  /-- a block of cells, which may be written -/
  | cells (b : Nat) (row : List Value)
  /-- a slice that may grow: element type, its cells, the value, its length, all its cells -/
  | grow (e size : Nat) (v : Value) (n : Nat) (xs : List Value)
  /-- cells that are read: they lie behind the address A, which is ⟨b, off⟩ if there are any -/
  | rd (A : Option Addr) (b off : Nat) (xs : List Value)
  /-- anything else that hangs on some blocks -/
  | any (ro : Bool) (foot : Nat → Prop) (P : World → Prop)
def Res.holds : Res → World → Prop
  | .cells b row, w => ∃ T, w.heap[b]? = some (.cells row.toArray T (0, 0))
  | .grow e size v n xs, w => w.ownsRow 0 e size v n xs
  | .rd A b off xs, w => (0 < xs.length → A = some ⟨b, off, none⟩) ∧ ∀ j v, xs[j]? = some v → w.cell? ⟨b, off + j, none⟩ = some v
  | .any _ foot P, w => ∀ w', (∀ k, foot k → w'.heap[k]? = w.heap[k]?) → P w'
def Res.foot : Res → Nat → Prop
  | .cells b _, k => k = b
  | .grow _ _ v _ _, k => v.ownBlock = some k
  | .rd _ b _ xs, k => k = b ∧ 0 < xs.length
  | .any _ foot _, k => foot k
def Res.ro : Res → Bool
  | .rd _ _ _ _ => true
  | .any ro _ _ => ro
  | _ => false
theorem Res.holds_stable {r : Res} {w w' : World} (h : r.holds w) (hf : ∀ k, r.foot k → w'.heap[k]? = w.heap[k]?) : r.holds w' := by
  cases r with
  | cells b row => obtain ⟨T, hT⟩ := h; exact ⟨T, by rw [hf b rfl]; exact hT⟩
  | grow e size v n xs =>
    refine ⟨h.1, ?_⟩
    rcases h.2 with hn | ⟨g, cap, cur, rfl, hb, hgg, rest⟩
    · exact .inl hn
    · exact .inr ⟨g, cap, cur, rfl, hb, by rw [hf g rfl]; exact hgg, rest⟩
  | rd A b off xs =>
    refine ⟨h.1, fun j v hv => ?_⟩
    have h1 := h.2 j v hv
    have hp : 0 < xs.length := Nat.lt_of_le_of_lt (Nat.zero_le _) (List.getElem?_eq_some_iff.1 hv).1
    rw [World.cell?_of_block (w := w) (hf b ⟨rfl, hp⟩)]
    exact h1
  | any ro foot P =>
    intro w'' hw''
    exact h w'' fun k hk => (hw'' k hk).trans (hf k hk)

/-- The call began in world w0, with B blocks; now the world is w; of the blocks from B on the resources l are known; what was there when the call began is as it was. -/
structure Own (B : Nat) (w0 w : World) (l : List Res) : Prop where
  below : Below B w0 w
  base : B ≤ w.heap.size
  holds : ∀ r ∈ l, r.holds w
  lt : ∀ r ∈ l, ∀ k, r.foot k → k < w.heap.size ∧ (r.ro = false → B ≤ k)
  apart : l.Pairwise fun r r' => (r.ro = true ∧ r'.ro = true) ∨ ∀ k, r.foot k → ¬ r'.foot k

theorem Own.start (w : World) : Own w.heap.size w w [] := ⟨Below.refl _ _, Nat.le_refl _, by simp, by simp, .nil⟩

variable {B : Nat} {w0 w w' : World} {l l' : List Res}

theorem Own.ext (H : Own B w0 w l) (h : Below w.heap.size w w') : Own B w0 w' l := by
  refine ⟨H.below.trans (h.mono H.base), Nat.le_trans H.base h.size, fun r hr => ?_, fun r hr k hk => ?_, H.apart⟩
  · exact Res.holds_stable (H.holds r hr) fun k hk => h.block k (H.lt r hr k hk).1
  · exact ⟨Nat.lt_of_lt_of_le (H.lt r hr k hk).1 h.size, (H.lt r hr k hk).2⟩
theorem Own.drew (H : Own B w0 w l) : Own B w0 w.drew l := H.ext (Ext.drew w)
theorem Own.drewN (H : Own B w0 w l) (n : Nat) : Own B w0 (w.drewN n) l := H.ext (below_drewN (Below.refl _ _) n)

/-- A resource more. -/
theorem Own.add (H : Own B w0 w l) (r : Res) (h : r.holds w) (hlt : ∀ k, r.foot k → k < w.heap.size ∧ (r.ro = false → B ≤ k)) (hap : ∀ r' ∈ l, (r.ro = true ∧ r'.ro = true) ∨ ∀ k, r.foot k → ¬ r'.foot k) : Own B w0 w (r :: l) :=
  ⟨H.below, H.base, List.forall_mem_cons.2 ⟨h, H.holds⟩, List.forall_mem_cons.2 ⟨hlt, H.lt⟩, .cons hap H.apart⟩
/-- One less. -/
theorem Own.tail {r : Res} (H : Own B w0 w (r :: l)) : Own B w0 w l :=
  ⟨H.below, H.base, fun r' hr' => H.holds r' (List.mem_cons_of_mem _ hr'), fun r' hr' => H.lt r' (List.mem_cons_of_mem _ hr'), (List.pairwise_cons.1 H.apart).2⟩
/-- Fewer. -/
theorem Own.sub (H : Own B w0 w l) (h : l'.Sublist l) : Own B w0 w l' :=
  ⟨H.below, H.base, fun r hr => H.holds r (h.subset hr), fun r hr => H.lt r (h.subset hr), H.apart.sublist h⟩
theorem Own.none_ (H : Own B w0 w l) : Own B w0 w [] := H.sub (by simp)
/-- In another order. -/
theorem Own.perm (H : Own B w0 w l) (h : l'.Perm l) : Own B w0 w l' := by
  refine ⟨H.below, H.base, fun r hr => H.holds r (h.subset hr), fun r hr => H.lt r (h.subset hr), (h.pairwise_iff (fun hxy => ?_)).2 H.apart⟩
  rcases hxy with h | h
  · exact .inl ⟨h.2, h.1⟩
  · exact .inr fun k hk hk' => h k hk' hk

/-- A new block. -/
theorem Own.alloc (H : Own B w0 w l) (C : Array Value) (T : TypeId) : Own B w0 (w.alloc (.cells C T)) (.cells w.heap.size C.toList :: l) := by
  refine (H.ext (below_alloc1 w _)).add _ ⟨T, heap_alloc_new w _⟩ (fun k hk => ?_) (fun r' hr' => .inr fun k hk hk' => ?_)
  · obtain rfl : k = w.heap.size := hk
    exact ⟨by simp, fun _ => H.base⟩
  · obtain rfl : k = w.heap.size := hk
    exact absurd (H.lt r' hr' _ hk').1 (Nat.lt_irrefl _)

/-- One resource of a list is changed for another. -/
inductive Rep (r r' : Res) : List Res → List Res → Prop
  | here {m : List Res} : Rep r r' (r :: m) (r' :: m)
  | there {x : Res} {m m' : List Res} : Rep r r' m m' → Rep r r' (x :: m) (x :: m')
theorem Rep.mem {r r' : Res} (h : Rep r r' l l') : r ∈ l := by induction h with | here => simp | there _ ih => exact List.mem_cons_of_mem _ ih
theorem Rep.mem' {r r' x : Res} (h : Rep r r' l l') (hx : x ∈ l') : x = r' ∨ x ∈ l := by
  induction h with
  | here => exact (List.mem_cons.1 hx).imp id (List.mem_cons_of_mem _)
  | there _ ih =>
    rcases List.mem_cons.1 hx with rfl | h
    · exact .inr (by simp)
    · exact (ih h).imp id (List.mem_cons_of_mem _)

/-- A resource is changed; of all other blocks that were there nothing turns. -/
theorem Own.change {r r' : Res} (H : Own B w0 w l) (hrep : Rep r r' l l') (hro : r.ro = false) (hro' : r'.ro = false) (hw : Below B w w') (hb : ∀ k, k < w.heap.size → ¬ r.foot k → w'.heap[k]? = w.heap[k]?)
    (h' : r'.holds w') (hlt : ∀ k, r'.foot k → k < w'.heap.size) (hf : ∀ k, r'.foot k → r.foot k ∨ w.heap.size ≤ k) : Own B w0 w' l' := by
  obtain ⟨h1, h2, h3, h4, h5⟩ := H
  refine ⟨h1.trans hw, Nat.le_trans h2 hw.size, ?_, ?_, ?_⟩
  · induction hrep with
    | here =>
      intro x hx
      rcases List.mem_cons.1 hx with rfl | hx
      · exact h'
      · refine Res.holds_stable (h3 x (List.mem_cons_of_mem _ hx)) fun k hk => ?_
        rcases (List.pairwise_cons.1 h5).1 x hx with h | h
        · rw [hro] at h; cases h.1
        · exact hb k (h4 x (List.mem_cons_of_mem _ hx) k hk).1 fun h0 => h k h0 hk
    | there hrep ih =>
      rename_i y m m'
      intro x hx
      rcases List.mem_cons.1 hx with rfl | hx
      · refine Res.holds_stable (h3 x (by simp)) fun k hk => ?_
        rcases (List.pairwise_cons.1 h5).1 r hrep.mem with h | h
        · rw [hro] at h; cases h.2
        · exact hb k (h4 x (by simp) k hk).1 (h k hk)
      · exact ih (fun z hz => h3 z (List.mem_cons_of_mem _ hz)) (fun z hz => h4 z (List.mem_cons_of_mem _ hz)) (List.pairwise_cons.1 h5).2 x hx
  · intro x hx k hk
    rcases hrep.mem' hx with rfl | hx
    · refine ⟨hlt k hk, fun _ => ?_⟩
      rcases hf k hk with h | h
      · exact (h4 r hrep.mem k h).2 hro
      · exact Nat.le_trans h2 h
    · exact ⟨Nat.lt_of_lt_of_le (h4 x hx k hk).1 hw.size, (h4 x hx k hk).2⟩
  · have key : ∀ x ∈ l, (x.ro = true ∧ r.ro = true ∨ ∀ k, x.foot k → ¬ r.foot k) → (x.ro = true ∧ r'.ro = true ∨ ∀ k, x.foot k → ¬ r'.foot k) := by
      intro x hx h
      rcases h with h | h
      · rw [hro] at h; cases h.2
      · refine .inr fun k hk hk' => ?_
        rcases hf k hk' with h' | h'
        · exact h k hk h'
        · exact absurd (h4 x hx k hk).1 (Nat.not_lt.2 h')
    clear h3
    induction hrep with
    | here =>
      refine .cons (fun x hx => ?_) (List.pairwise_cons.1 h5).2
      have h := (List.pairwise_cons.1 h5).1 x hx
      rcases h with h | h
      · rw [hro] at h; cases h.1
      · rcases key x (List.mem_cons_of_mem _ hx) (.inr fun k hk hk' => h k hk' hk) with h | h
        · rw [hro'] at h; cases h.2
        · exact .inr fun k hk hk' => h k hk' hk
    | there hrep ih =>
      rename_i y m m'
      refine .cons (fun x hx => ?_) (ih (fun z hz => h4 z (List.mem_cons_of_mem _ hz)) (List.pairwise_cons.1 h5).2 (fun z hz => key z (List.mem_cons_of_mem _ hz)))
      rcases hrep.mem' hx with rfl | hx
      · exact key y (by simp) ((List.pairwise_cons.1 h5).1 r hrep.mem)
      · exact (List.pairwise_cons.1 h5).1 x hx
theorem Own.front1 {x0 x1 : Res} (H : Own B w0 w (x0 :: x1 :: l)) : Own B w0 w (x1 :: x0 :: l) := H.perm (by simpa using (List.perm_middle (l₁ := [x0]) (a := x1) (l₂ := l)).symm)
theorem Own.front2 {x0 x1 x2 : Res} (H : Own B w0 w (x0 :: x1 :: x2 :: l)) : Own B w0 w (x2 :: x0 :: x1 :: l) := H.perm (by simpa using (List.perm_middle (l₁ := [x0, x1]) (a := x2) (l₂ := l)).symm)
theorem Own.front3 {x0 x1 x2 x3 : Res} (H : Own B w0 w (x0 :: x1 :: x2 :: x3 :: l)) : Own B w0 w (x3 :: x0 :: x1 :: x2 :: l) := H.perm (by simpa using (List.perm_middle (l₁ := [x0, x1, x2]) (a := x3) (l₂ := l)).symm)
theorem Own.front4 {x0 x1 x2 x3 x4 : Res} (H : Own B w0 w (x0 :: x1 :: x2 :: x3 :: x4 :: l)) : Own B w0 w (x4 :: x0 :: x1 :: x2 :: x3 :: l) := H.perm (by simpa using (List.perm_middle (l₁ := [x0, x1, x2, x3]) (a := x4) (l₂ := l)).symm)
theorem Own.front5 {x0 x1 x2 x3 x4 x5 : Res} (H : Own B w0 w (x0 :: x1 :: x2 :: x3 :: x4 :: x5 :: l)) : Own B w0 w (x5 :: x0 :: x1 :: x2 :: x3 :: x4 :: l) := H.perm (by simpa using (List.perm_middle (l₁ := [x0, x1, x2, x3, x4]) (a := x5) (l₂ := l)).symm)
theorem Own.front6 {x0 x1 x2 x3 x4 x5 x6 : Res} (H : Own B w0 w (x0 :: x1 :: x2 :: x3 :: x4 :: x5 :: x6 :: l)) : Own B w0 w (x6 :: x0 :: x1 :: x2 :: x3 :: x4 :: x5 :: l) := H.perm (by simpa using (List.perm_middle (l₁ := [x0, x1, x2, x3, x4, x5]) (a := x6) (l₂ := l)).symm)
theorem Own.front7 {x0 x1 x2 x3 x4 x5 x6 x7 : Res} (H : Own B w0 w (x0 :: x1 :: x2 :: x3 :: x4 :: x5 :: x6 :: x7 :: l)) : Own B w0 w (x7 :: x0 :: x1 :: x2 :: x3 :: x4 :: x5 :: x6 :: l) := H.perm (by simpa using (List.perm_middle (l₁ := [x0, x1, x2, x3, x4, x5, x6]) (a := x7) (l₂ := l)).symm)
theorem Own.front8 {x0 x1 x2 x3 x4 x5 x6 x7 x8 : Res} (H : Own B w0 w (x0 :: x1 :: x2 :: x3 :: x4 :: x5 :: x6 :: x7 :: x8 :: l)) : Own B w0 w (x8 :: x0 :: x1 :: x2 :: x3 :: x4 :: x5 :: x6 :: x7 :: l) := H.perm (by simpa using (List.perm_middle (l₁ := [x0, x1, x2, x3, x4, x5, x6, x7]) (a := x8) (l₂ := l)).symm)
theorem Own.front9 {x0 x1 x2 x3 x4 x5 x6 x7 x8 x9 : Res} (H : Own B w0 w (x0 :: x1 :: x2 :: x3 :: x4 :: x5 :: x6 :: x7 :: x8 :: x9 :: l)) : Own B w0 w (x9 :: x0 :: x1 :: x2 :: x3 :: x4 :: x5 :: x6 :: x7 :: x8 :: l) := H.perm (by simpa using (List.perm_middle (l₁ := [x0, x1, x2, x3, x4, x5, x6, x7, x8]) (a := x9) (l₂ := l)).symm)
theorem Own.front10 {x0 x1 x2 x3 x4 x5 x6 x7 x8 x9 x10 : Res} (H : Own B w0 w (x0 :: x1 :: x2 :: x3 :: x4 :: x5 :: x6 :: x7 :: x8 :: x9 :: x10 :: l)) : Own B w0 w (x10 :: x0 :: x1 :: x2 :: x3 :: x4 :: x5 :: x6 :: x7 :: x8 :: x9 :: l) := H.perm (by simpa using (List.perm_middle (l₁ := [x0, x1, x2, x3, x4, x5, x6, x7, x8, x9]) (a := x10) (l₂ := l)).symm)
theorem Own.swap {x y : Res} (H : Own B w0 w (x :: y :: l)) : Own B w0 w (y :: x :: l) := H.perm (.swap _ _ _)
theorem Own.swap1 {x y z : Res} (H : Own B w0 w (x :: y :: z :: l)) : Own B w0 w (x :: z :: y :: l) := H.perm (.cons _ (.swap _ _ _))
theorem m0 {r  : Res} {l : List Res} : r ∈ r :: l := .head _
theorem m1 {r x0 : Res} {l : List Res} : r ∈ x0 :: r :: l := .tail _ (.head _)
theorem m2 {r x0 x1 : Res} {l : List Res} : r ∈ x0 :: x1 :: r :: l := .tail _ (.tail _ (.head _))
theorem m3 {r x0 x1 x2 : Res} {l : List Res} : r ∈ x0 :: x1 :: x2 :: r :: l := .tail _ (.tail _ (.tail _ (.head _)))
theorem m4 {r x0 x1 x2 x3 : Res} {l : List Res} : r ∈ x0 :: x1 :: x2 :: x3 :: r :: l := .tail _ (.tail _ (.tail _ (.tail _ (.head _))))
theorem m5 {r x0 x1 x2 x3 x4 : Res} {l : List Res} : r ∈ x0 :: x1 :: x2 :: x3 :: x4 :: r :: l := .tail _ (.tail _ (.tail _ (.tail _ (.tail _ (.head _)))))
theorem m6 {r x0 x1 x2 x3 x4 x5 : Res} {l : List Res} : r ∈ x0 :: x1 :: x2 :: x3 :: x4 :: x5 :: r :: l := .tail _ (.tail _ (.tail _ (.tail _ (.tail _ (.tail _ (.head _))))))
theorem m7 {r x0 x1 x2 x3 x4 x5 x6 : Res} {l : List Res} : r ∈ x0 :: x1 :: x2 :: x3 :: x4 :: x5 :: x6 :: r :: l := .tail _ (.tail _ (.tail _ (.tail _ (.tail _ (.tail _ (.tail _ (.head _)))))))
theorem m8 {r x0 x1 x2 x3 x4 x5 x6 x7 : Res} {l : List Res} : r ∈ x0 :: x1 :: x2 :: x3 :: x4 :: x5 :: x6 :: x7 :: r :: l := .tail _ (.tail _ (.tail _ (.tail _ (.tail _ (.tail _ (.tail _ (.tail _ (.head _))))))))
theorem m9 {r x0 x1 x2 x3 x4 x5 x6 x7 x8 : Res} {l : List Res} : r ∈ x0 :: x1 :: x2 :: x3 :: x4 :: x5 :: x6 :: x7 :: x8 :: r :: l := .tail _ (.tail _ (.tail _ (.tail _ (.tail _ (.tail _ (.tail _ (.tail _ (.tail _ (.head _)))))))))
/-- Which of two resources stands where. -/
theorem r0 {r r'  : Res} {l : List Res} : Rep r r' (r :: l) (r' :: l) := .here
theorem r1 {r r' x0 : Res} {l : List Res} : Rep r r' (x0 :: r :: l) (x0 :: r' :: l) := .there (.here)
theorem r2 {r r' x0 x1 : Res} {l : List Res} : Rep r r' (x0 :: x1 :: r :: l) (x0 :: x1 :: r' :: l) := .there (.there (.here))
theorem r3 {r r' x0 x1 x2 : Res} {l : List Res} : Rep r r' (x0 :: x1 :: x2 :: r :: l) (x0 :: x1 :: x2 :: r' :: l) := .there (.there (.there (.here)))
theorem r4 {r r' x0 x1 x2 x3 : Res} {l : List Res} : Rep r r' (x0 :: x1 :: x2 :: x3 :: r :: l) (x0 :: x1 :: x2 :: x3 :: r' :: l) := .there (.there (.there (.there (.here))))
theorem r5 {r r' x0 x1 x2 x3 x4 : Res} {l : List Res} : Rep r r' (x0 :: x1 :: x2 :: x3 :: x4 :: r :: l) (x0 :: x1 :: x2 :: x3 :: x4 :: r' :: l) := .there (.there (.there (.there (.there (.here)))))
theorem r6 {r r' x0 x1 x2 x3 x4 x5 : Res} {l : List Res} : Rep r r' (x0 :: x1 :: x2 :: x3 :: x4 :: x5 :: r :: l) (x0 :: x1 :: x2 :: x3 :: x4 :: x5 :: r' :: l) := .there (.there (.there (.there (.there (.there (.here))))))
theorem r7 {r r' x0 x1 x2 x3 x4 x5 x6 : Res} {l : List Res} : Rep r r' (x0 :: x1 :: x2 :: x3 :: x4 :: x5 :: x6 :: r :: l) (x0 :: x1 :: x2 :: x3 :: x4 :: x5 :: x6 :: r' :: l) := .there (.there (.there (.there (.there (.there (.there (.here)))))))
theorem r8 {r r' x0 x1 x2 x3 x4 x5 x6 x7 : Res} {l : List Res} : Rep r r' (x0 :: x1 :: x2 :: x3 :: x4 :: x5 :: x6 :: x7 :: r :: l) (x0 :: x1 :: x2 :: x3 :: x4 :: x5 :: x6 :: x7 :: r' :: l) := .there (.there (.there (.there (.there (.there (.there (.there (.here))))))))
theorem r9 {r r' x0 x1 x2 x3 x4 x5 x6 x7 x8 : Res} {l : List Res} : Rep r r' (x0 :: x1 :: x2 :: x3 :: x4 :: x5 :: x6 :: x7 :: x8 :: r :: l) (x0 :: x1 :: x2 :: x3 :: x4 :: x5 :: x6 :: x7 :: x8 :: r' :: l) := .there (.there (.there (.there (.there (.there (.there (.there (.there (.here)))))))))
end Go.Proofs.Ytlhmjhildlnokaa
