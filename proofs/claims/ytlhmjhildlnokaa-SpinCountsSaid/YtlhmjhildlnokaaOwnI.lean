/-
  Resources: a map that is ranged over (nothing is laid into it meanwhile): what is left, what came out last. Nothing of the program stands here.
-/
import Derived.Test.YtlhmjhildlnokaaOwnA
import Derived.Maps.RangeRun
namespace Go.Proofs.Ytlhmjhildlnokaa
set_option linter.unusedVariables false
set_option linter.unusedSimpArgs false
open Go.RowKit Go.MapKept

variable {K V : Type}
/-- The map in block b has the entries A; the iterator in block r has those of left still to hand out; the one that came out last is cur. -/
def ItAs (kf : K → Value) (vf : V → Value) (b r : Nat) (A left : List (K × V)) (cur : Option (K × V)) (w : World) : Prop :=
  ∃ es clock, ∃ (L LL : List (K × V)) (seen : Array Nat), w.heap[b]? = some (.map es clock) ∧ w.heap[r]? = some (.mapIter (some b) clock seen clock) ∧
    es.toList.map (fun e => (e.key, e.val)) = L.map (fun p => (kf p.1, vf p.2)) ∧ L.Perm A ∧ (A.map (·.1)).Nodup ∧ (es.toList.map (·.born)).Nodup ∧ (∀ e ∈ es.toList, e.born < clock) ∧
    (leftOf es seen).toList.map (fun e => (e.key, e.val)) = LL.map (fun p => (kf p.1, vf p.2)) ∧ LL.Perm left ∧
    ∀ p, cur = some p → ∃ (e : MapEntry) (seen0 : Array Nat), seen = seen0.push e.born ∧ e ∈ es.toList ∧ e.key = kf p.1 ∧ e.val = vf p.2
def itA (kf : K → Value) (vf : V → Value) (b r : Nat) (A left : List (K × V)) (cur : Option (K × V)) : Res := .any false (fun k => k = b ∨ k = r) (ItAs kf vf b r A left cur)
variable {P : Program} {kt : TypeId} {kf : K → Value} {vf : V → Value} {B : Nat} {w0 w w' : World} {l l' l0 : List Res} {ty et : TypeId} {b r : Nat} {A left : List (K × V)} {cur : Option (K × V)}
theorem itA_holds (h : ItAs kf vf b r A left cur w) : (itA kf vf b r A left cur).holds w := by
  intro w' hw
  obtain ⟨es, c, L, LL, seen, h1, h2, h3⟩ := h
  exact ⟨es, c, L, LL, seen, by rw [hw b (.inl rfl)]; exact h1, by rw [hw r (.inr rfl)]; exact h2, h3⟩
theorem Own.asI (H : Own B w0 w l) (hm : itA kf vf b r A left cur ∈ l) : ItAs kf vf b r A left cur w := H.holds _ hm w fun _ _ => rfl
theorem Own.swapRes {r1 r2 : Res} (H : Own B w0 w l) (hrep : Rep r1 r2 l l0) (h1 : r1.ro = false) (h2 : r2.ro = false) (h : r1.holds w → r2.holds w) (hf : ∀ k, r2.foot k → r1.foot k) : Own B w0 w l0 :=
  H.change hrep h1 h2 ((Below.refl _ _).mono H.base) (fun _ _ _ => rfl) (h (H.holds _ hrep.mem)) (fun k hk => (H.lt _ hrep.mem k (hf k hk)).1) (fun k hk => .inl (hf k hk))
/-- Behind the loop it is a map again. -/
theorem Own.endI (H : Own B w0 w l) (hrep : Rep (itA kf vf b r A left cur) (mapA kf vf b A) l l0) : Own B w0 w l0 :=
  H.swapRes hrep rfl rfl (fun h => by
    obtain ⟨es, c, L, LL, seen, h1, h2, h3, h4, h5, h6, h7, _⟩ := h w fun _ _ => rfl
    exact mapA_holds ⟨es, c, L, h1, h3, h4, h5, h6, h7⟩) (fun k hk => .inl hk)
theorem Own.permI {left' : List (K × V)} (H : Own B w0 w l) (hp : left.Perm left') (hrep : Rep (itA kf vf b r A left cur) (itA kf vf b r A left' cur) l l0) : Own B w0 w l0 :=
  H.swapRes hrep rfl rfl (fun h => by
    obtain ⟨es, c, L, LL, seen, h1, h2, h3, h4, h5, h6, h7, h8, h9, h10⟩ := h w fun _ _ => rfl
    exact itA_holds ⟨es, c, L, LL, seen, h1, h2, h3, h4, h5, h6, h7, h8, h9.trans hp, h10⟩) (fun k hk => hk)
theorem leftOf_none (es : Array MapEntry) : leftOf es #[] = es := by
  unfold leftOf
  rw [Array.filter_eq_self]
  intro x _
  simp
section
variable {o : Oper} {a : Act} {Q : Exit → Act → World → Prop} {x : Operand} {C : Act → World → Prop}
/-- 'range m'. -/
theorem o_range (ho : o.op = .range ty x) (hx : a.eval x = .map (some b)) (ht : P.underlying ty = some (.map kt et)) (H : Own B w0 w l) (l0 : Nat → List Res) (hrep : ∀ r, Rep (mapA kf vf b A) (itA kf vf b r A A none) l (l0 r))
    (hk : ∀ w' r, Own B w0 w' (l0 r) → C (a.put o.dst (.pointer (some ⟨r, 0, none⟩))) w') : o.wp P a w C Q := by
  obtain ⟨es, c, L, h1, h2, h3, h4, h5, h6⟩ := H.asA (hrep 0).mem
  have hb := H.lt _ (hrep 0).mem b rfl
  have hrun : (Instr.range ty (.map (some b))).run P w = .ok (.pointer (some ⟨w.heap.size, 0, none⟩)) (w.alloc (.mapIter (some b) c #[] c)) := by
    unfold Instr.range
    simp only [Sem.run_bind, run_underlying ht, Result.andThen_ok, MapKept.run_getObj_map h1, Sem.run_pure]
    rfl
  unfold Oper.wp execOp
  simp only [ho, hx, Sem.run_bind, hrun, Result.andThen_ok, Sem.run_pure]
  refine hk _ w.heap.size (H.change (hrep _) rfl rfl ((below_alloc1 w _).mono H.base) (fun k hk _ => (below_alloc1 w _).block k hk) (itA_holds ?_) (fun k hk => ?_) (fun k hk => ?_))
  · exact ⟨es, c, L, L, #[], by rw [(below_alloc1 w _).block b hb.1]; exact h1, heap_alloc_new w _, h2, h3, h4, h5, h6, by rw [leftOf_none]; exact h2, h3, fun p hp => by cases hp⟩
  · rcases hk with hk | hk
    · rw [hk]; have := (below_alloc1 w (.mapIter (some b) c #[] c)).size; have := hb.1; omega
    · rw [hk]; simp
  · rcases hk with rfl | rfl
    · exact .inl rfl
    · exact .inr (Nat.le_refl _)
theorem left_push {es : Array MapEntry} (seen : Array Nat) (e : MapEntry) : (leftOf es (seen.push e.born)).toList = (leftOf es seen).toList.filter fun x => decide (x.born ≠ e.born) := by
  unfold leftOf
  rw [Array.toList_filter, Array.toList_filter, List.filter_filter]
  congr 1
  funext x
  simp [Array.contains_push, Bool.and_comm]
theorem born_split {X : List MapEntry} (hn : (X.map (·.born)).Nodup) {e : MapEntry} (he : e ∈ X) : ∃ X1 X2, X = X1 ++ e :: X2 ∧ (X.filter fun x => decide (x.born ≠ e.born)) = X1 ++ X2 := by
  obtain ⟨X1, X2, rfl⟩ := List.append_of_mem he
  refine ⟨X1, X2, rfl, ?_⟩
  simp only [List.map_append, List.map_cons, List.nodup_append, List.nodup_cons] at hn
  have h1 : X1.filter (fun x => decide (x.born ≠ e.born)) = X1 := List.filter_eq_self.2 fun x hx => by
    simp; exact fun h => hn.2.2 x.born (List.mem_map.2 ⟨x, hx, rfl⟩) e.born (by simp) h
  have h2 : X2.filter (fun x => decide (x.born ≠ e.born)) = X2 := List.filter_eq_self.2 fun x hx => by
    simp; exact fun h => hn.2.1.1 (List.mem_map.2 ⟨x, hx, h⟩)
  rw [List.filter_append, List.filter_cons, h1, h2]
  simp
/-- The step: nothing is left, or one of those that are left comes out. -/
theorem o_next (ho : o.op = .next x false) (hx : a.eval x = .pointer (some ⟨r, 0, none⟩)) (H : Own B w0 w l) (l0 : List (K × V) → Option (K × V) → List Res) (hrep : ∀ left' cur', Rep (itA kf vf b r A left cur) (itA kf vf b r A left' cur') l (l0 left' cur'))
    (hDone : left = [] → ∀ w', Own B w0 w' l → C (a.put o.dst (.tuple #[.bool false])) w')
    (hMore : ∀ k v left' w', left.Perm ((k, v) :: left') → Own B w0 w' (l0 left' (some (k, v))) → C (a.put o.dst (.tuple #[.bool true, kf k, vf v])) w') : o.wp P a w C Q := by
  obtain ⟨es, c, L, LL, seen, h1, h2, h3, h4, h5, h6, h7, h8, h9, h10⟩ := H.asI (hrep [] none).mem
  have hlt := H.lt _ (hrep [] none).mem
  rcases run_next_at (P := P) w o.type r b c c seen es c h2 h1 h7 (Nat.le_refl _) with ⟨g0, hrun⟩ | ⟨e, he, w1, hw1, hrun⟩
  · unfold Oper.wp execOp
    simp only [ho, hx, Sem.run_bind, hrun, Result.andThen_ok, Sem.run_pure]
    refine hDone ?_ w H
    have : LL = [] := by
      have := congrArg List.length h8
      simp only [List.length_map, Array.length_toList, g0] at this
      exact List.eq_nil_of_length_eq_zero this.symm
    rw [this] at h9
    exact h9.symm.eq_nil
  · unfold Oper.wp execOp
    simp only [ho, hx, Sem.run_bind, hrun, Result.andThen_ok, Sem.run_pure]
    have hn : ((leftOf es seen).toList.map (·.born)).Nodup := by
      unfold leftOf; rw [Array.toList_filter]; exact h6.sublist (List.Sublist.map _ List.filter_sublist)
    obtain ⟨X1, X2, hX, hF⟩ := born_split hn he
    have hes : e ∈ es.toList := by unfold leftOf at he; rw [Array.toList_filter] at he; exact (List.mem_filter.1 he).1
    rw [hX] at h8
    rw [List.map_append, List.map_cons] at h8
    obtain ⟨Y1, Y2', hY, hY1, hY2⟩ := List.append_eq_map_iff.1 h8
    obtain ⟨p, Y2, rfl, hp, hY2⟩ := List.map_eq_cons_iff.1 hY2
    injection hp with hpk hpv
    have hperm : left.Perm ((p.1, p.2) :: (Y1 ++ Y2)) := by
      rw [hY] at h9
      exact h9.symm.trans List.perm_middle
    have hH : Own B w0 (Go.ChangeMaps.setBlock w1 r (.mapIter (some b) c (seen.push e.born) c)) (l0 (Y1 ++ Y2) (some (p.1, p.2))) := by
      have H1 : Own B w0 w1 l := by rcases hw1 with rfl | rfl <;> first | exact H | exact H.drew
      have hb1 : w1.heap[b]? = some (.map es c) := by rcases hw1 with rfl | rfl <;> exact h1
      have hr1 : w1.heap[r]? = some (.mapIter (some b) c seen c) := by rcases hw1 with rfl | rfl <;> exact h2
      have hlt1 := H1.lt _ (hrep [] none).mem
      obtain ⟨g1, g2⟩ := heap_set (o' := .mapIter (some b) c (seen.push e.born) c) hr1
      have hbr : b ≠ r := fun e => by rw [e, hr1] at hb1; cases hb1
      refine H1.change (hrep _ _) rfl rfl (.mk6 rfl rfl rfl (by simp [Go.ChangeMaps.setBlock]) (fun k hk => g2 k (by have := (hlt1 r (.inr rfl)).2 rfl; omega)) (Nat.le_refl _)) (fun k _ hne => g2 k fun h => hne (.inr h)) (itA_holds ?_) (fun k hk => ?_) (fun k hk => .inl hk)
      · exact ⟨es, c, L, Y1 ++ Y2, seen.push e.born, by show (w1.heap.setIfInBounds r _)[b]? = _; rw [g2 b hbr]; exact hb1, g1, h3, h4, h5, h6, h7, by rw [left_push, hF, List.map_append, List.map_append, hY1, hY2], .refl _, fun q hq => by
          injection hq with hq; subst hq; exact ⟨e, seen, rfl, hes, hpk.symm, hpv.symm⟩⟩
      · have := (hlt1 k hk).1
        simpa [Go.ChangeMaps.setBlock] using this
    have := hMore p.1 p.2 (Y1 ++ Y2) _ hperm hH
    rw [← hpk, ← hpv]
    exact this
/-- What came out last, read again. -/
theorem o_entry {k : K} {v : V} (ho : o.op = .entry x) (hx : a.eval x = .pointer (some ⟨r, 0, none⟩)) (H : Own B w0 w l) (hm : itA kf vf b r A left (some (k, v)) ∈ l) (hk : C (a.put o.dst (.tuple #[kf k, vf v])) w) : o.wp P a w C Q := by
  obtain ⟨es, c, L, LL, seen, h1, h2, h3, h4, h5, h6, h7, h8, h9, h10⟩ := H.asI hm
  obtain ⟨e, seen0, rfl, he, e1, e2⟩ := h10 _ rfl
  have hrun := run_entry_at (P := P) w r b c seen0 es c e h2 h1 he h6
  unfold Oper.wp execOp
  simp only [ho, hx, Sem.run_bind, hrun, Result.andThen_ok, Sem.run_pure, e1, e2]
  exact hk
end
end Go.Proofs.Ytlhmjhildlnokaa
