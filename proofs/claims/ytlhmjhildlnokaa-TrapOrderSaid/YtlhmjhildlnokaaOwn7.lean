/-
  Resources: a slice grows by what stands in another one that is read. Nothing of the program stands here.
-/
import Derived.Test.YtlhmjhildlnokaaOwn5
namespace Go.Proofs.Ytlhmjhildlnokaa
set_option linter.unusedVariables false
open Go.RowKit
variable {P : Program} {B : Nat} {w0 w w' : World} {l l' : List Res} {o : Oper} {a : Act} {Q : Exit → Act → World → Prop}
theorem run_append_none {t ty e : TypeId} {i : TypeInfo} (ht : P.underlying t = some (.slice e)) (hi : P.info? e = some i) {v : Value} {n : Nat} {xs : List Value} (hown : w.ownsRow 0 e i.size v n xs) (c : Nat) :
    (Builtin.append_ #[t, t] ty #[v, .slice none 0 c]).run P w = .ok v w := by
  rcases hown.2 with ⟨rfl, rfl⟩ | ⟨g, cap, cur, rfl, hbg, hg, hnc, hcm, hcs, htake⟩
  · simp [Builtin.append_, run_underlying ht, sizeOf, typeInfo, hi, Builtin.lenOf, Builtin.firstCells]
  · simp [Builtin.append_, run_underlying ht, sizeOf, typeInfo, hi, Builtin.lenOf, Builtin.firstCells, hnc, storeCells]
theorem o_appendR {K : Act → World → Prop} {s x' : Operand} {t e : TypeId} {z : Value} {size bytes : Nat} {v : Value} {n m c bb off : Nat} {A : Option Addr} {xs news : List Value} {l' : Value → List Res} (hinfo : (P.info? e).map (fun i => (i.zero, i.size, i.bytes)) = some (some z, size, bytes))
    (ho : o.op = .call { callee := .builtin .append, args := #[s, x'], argTypes := #[t, t] }) (hs : a.eval s = v) (hx : a.eval x' = .slice A m c) (H : Own B w0 w l)
    (hm : Res.rd A bb off news ∈ l) (hl : news.length = m * size)
    (hrep : ∀ v', Rep (.grow e size v n xs) (.grow e size v' (n + m) (xs ++ news)) l (l' v')) (ht : P.underlying t = some (.slice e)) (hzs : z.cells.size = size) (hsz : 0 < size) (h1 : news.all (·.oneCell') = true)
    (h63 : n + m ≤ maxLen) (hbytes : (n + m) * bytes ≤ 140737488355328)
    (hk : ∀ v' w', Own B w0 w' (l' v') → (v' = .slice none 0 0 ↔ v = .slice none 0 0 ∧ m = 0) → K (a.put o.dst v') w') : o.wp P a w K Q := by
  cases hi : P.info? e with
  | none => simp [hi] at hinfo
  | some i =>
    simp only [hi, Option.map_some, Option.some.injEq, Prod.mk.injEq] at hinfo
    obtain ⟨hz, rfl, rfl⟩ := hinfo
    have hg := H.holds _ (hrep v).mem
    have hgl := H.lt _ (hrep v).mem
    have hr := H.holds _ hm
    have h1' : ∀ u ∈ news, u.oneCell' = true := fun u hu => List.all_eq_true.1 h1 u hu
    have key : ∃ v' w', (Builtin.append_ #[t, t] o.type #[v, .slice A m c]).run P w = .ok v' w' ∧ w'.ownsRow 0 e i.size v' (n + m) (xs ++ news) ∧ (∀ k, k < w.heap.size → v.ownBlock ≠ some k → w'.heap[k]? = w.heap[k]?) ∧ Below B w w' ∧
        (v' = .slice none 0 0 ↔ v = .slice none 0 0 ∧ m = 0) ∧ ∀ k, v'.ownBlock = some k → v.ownBlock = some k ∨ w.heap.size ≤ k := by
      have hold : ∀ k, v.ownBlock = some k → k < w.heap.size ∧ B ≤ k := fun k hk => ⟨(hgl k hk).1, (hgl k hk).2 rfl⟩
      cases A with
      | none =>
        have h0 : m = 0 := by
          by_cases hp : 0 < news.length
          · have := hr.1 hp; cases this
          · have : m * i.size = 0 := by omega
            rcases Nat.mul_eq_zero.1 this with h | h
            · exact h
            · omega
        subst h0
        have hn : news = [] := List.eq_nil_of_length_eq_zero (by omega)
        subst hn
        refine ⟨v, w, run_append_none ht hi hg c, by rw [Nat.add_zero, List.append_nil]; exact hg, fun _ _ _ => rfl, Below.refl _ _, by simp, fun k hk => .inl hk⟩
      | some ad =>
        have hnews : ∀ j u, news[j]? = some u → w.cell? (ad.add j) = some u := fun j u hu => by
          have hp : 0 < news.length := Nat.lt_of_le_of_lt (Nat.zero_le _) (List.getElem?_eq_some_iff.1 hu).1
          have := hr.1 hp
          injection this with this
          rw [this, Addr.add_mid]
          exact hr.2 j u hu
        obtain ⟨v', w', hrun, hown, hgrow, hnil⟩ := run_append_own (P := P) w 0 t o.type e i z _ _ ht hi hz rfl rfl hzs hsz v n xs hg ad m c news hl hnews h1' h63 hbytes (Nat.zero_le _)
        have hplace := append_place ht hi hz hg hl hnews h1' h63 hbytes hrun
        exact ⟨v', w', hrun, hown, fun k hk hne => hgrow.block k hk (fun e => hne e.symm), (.mk6 hgrow.os hgrow.tape hgrow.output hgrow.size (fun k hk' => hgrow.block k (Nat.lt_of_lt_of_le hk' H.base) (fun e => by have := (hold k e.symm).2; omega)) (append_drawn ht hi hz hg hl hnews h1' h63 hbytes hrun)), hnil, hplace⟩
    obtain ⟨v', w', hrun, hown, hblk, hbel, hnil, hplace⟩ := key
    unfold Oper.wp execOp
    simp only [ho, resolve, invoke, builtin, Sem.run_bind, Sem.run_pure, Result.andThen_ok, List.map_toArray, List.map_cons, List.map_nil, hs, hx, hrun]
    refine hk v' w' ?_ hnil
    exact H.change (hrep v') rfl rfl hbel (fun k hk' hne => hblk k hk' hne) hown (fun k hk' => (hown.lt k hk').2) hplace
/-- What a callee has made. -/
theorem Own.join (H : Own B w0 w l) (H' : Own w.heap.size w w' l') (hr : l'.all (fun r => !r.ro) = true) : Own B w0 w' (l' ++ l) := by
  have H1 := H.ext H'.below
  have ge : ∀ r ∈ l', ∀ k, r.foot k → w.heap.size ≤ k := fun r hm k hk => (H'.lt r hm k hk).2 (by have := List.all_eq_true.1 hr r hm; simpa using this)
  refine ⟨H1.below, H1.base, fun r hm => ?_, fun r hm k hk => ?_, List.pairwise_append.2 ⟨H'.apart, H1.apart, fun r hm r' hm' => .inr fun k hk hk' => ?_⟩⟩
  · rcases List.mem_append.1 hm with h | h
    · exact H'.holds r h
    · exact H1.holds r h
  · rcases List.mem_append.1 hm with h | h
    · exact ⟨(H'.lt r h k hk).1, fun _ => Nat.le_trans H.base (ge r h k hk)⟩
    · exact H1.lt r h k hk
  · have := ge r hm k hk
    have := (H.lt r' hm' k hk').1
    omega
/-- A slice of the call's own that is not empty. -/
theorem Own.growSome {e size n : Nat} {v : Value} {xs : List Value} (H : Own B w0 w l) (hm : Res.grow e size v n xs ∈ l) (hn : 0 < n) (hs : 0 < size) : ∃ b cap, v = .slice (some ⟨b, 0, none⟩) n cap := by
  have h := H.holds _ hm
  rcases h.2 with ⟨rfl, rfl⟩ | ⟨g, cap, cur, rfl, _⟩
  · have h1 := h.1
    simp at h1
    have := Nat.mul_pos hn hs
    omega
  · exact ⟨g, cap, rfl⟩
theorem at_grow {e size n b c o : Nat} {xs cs : List Value} (h : (xs.drop o).take cs.length = cs) : (Res.grow e size (.slice (some ⟨b, 0, none⟩) n c) n xs).at b o cs := ⟨rfl, h⟩
theorem Sl.cons_ro {F : Nat → Prop} {A : Option Addr} {xs : List Value} (r : Res) (hr : r.ro = true) (h : Sl (FW F l) w A xs) : Sl (FW F (r :: l)) w A xs := h.fewer fun k hk => by
  rcases hk with hk | ⟨x, hx, h1, h2⟩
  · exact .inl hk
  · rcases List.mem_cons.1 hx with rfl | hx
    · rw [hr] at h1; cases h1
    · exact .inr ⟨x, hx, h1, h2⟩
theorem Own.moreRo {F : Nat → Prop} {A : Option Addr} {xs : List Value} {r : Res} (H : Own B w0 w (r :: l)) (hr : r.ro = true) (h : Sl (FW F l) w A xs) : Sl (FW F (r :: l)) w A xs := h.cons_ro r hr
end Go.Proofs.Ytlhmjhildlnokaa
