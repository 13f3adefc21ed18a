/-
  The steps of a walk over the resources of a call: loads, stores, new blocks, slices that grow. Nothing of the program stands here.
-/
import Derived.Test.YtlhmjhildlnokaaReg
namespace Go.Proofs.Ytlhmjhildlnokaa
set_option linter.unusedVariables false
open Go.RowKit
variable {P : Program} {B : Nat} {w0 w : World} {l l' : List Res}

/-! ### What stands in a cell -/
/-- The resource gives the cells from offset o of block b on. -/
def Res.at : Res → Nat → Nat → List Value → Prop
  | .cells b row, b', o, cs => b' = b ∧ (row.drop o).take cs.length = cs
  | .grow _ _ v _ xs, b', o, cs => v.ownBlock = some b' ∧ (xs.drop o).take cs.length = cs
  | .rd _ b off xs, b', o, cs => b' = b ∧ ∃ j, o = off + j ∧ (xs.drop j).take cs.length = cs
  | .any _ _ _, _, _, _ => False
theorem take_get {xs cs : List Value} {o : Nat} (h : (xs.drop o).take cs.length = cs) {j : Nat} {v : Value} (hv : cs[j]? = some v) : xs[o + j]? = some v := by
  have hj : j < cs.length := (List.getElem?_eq_some_iff.1 hv).1
  rw [← h] at hv
  simpa [List.getElem?_take, hj] using hv
theorem Own.range (H : Own B w0 w l) {r : Res} (hm : r ∈ l) {b o : Nat} {cs : List Value} (hc : r.at b o cs) : w.rangeAt b o cs := by
  have h := H.holds r hm
  cases r with
  | cells b' row =>
    obtain ⟨rfl, hc⟩ := hc
    obtain ⟨T, hT⟩ := h
    intro j v hv
    rw [cell_of_row w b (o + j) row.toArray T (0, 0) hT]
    simpa using take_get hc hv
  | grow e size v n xs =>
    obtain ⟨hb, hc⟩ := hc
    intro j u hu
    have := h.cells hb (o + j) u (take_get hc hu)
    rwa [Addr.add_mid, Nat.zero_add] at this
  | rd A b' off xs =>
    obtain ⟨rfl, j, rfl, hc⟩ := hc
    intro i v hv
    have := h.2 (j + i) v (take_get hc hv)
    rwa [← Nat.add_assoc] at this
  | any ro foot Q => exact hc.elim
theorem at_cells {b : Nat} {row : List Value} {o : Nat} {v : Value} (h : row[o]? = some v) : (Res.cells b row).at b o [v] := by
  refine ⟨rfl, ?_⟩
  obtain ⟨hlt, rfl⟩ := List.getElem?_eq_some_iff.1 h
  rw [List.drop_eq_getElem_cons hlt]
  rfl
theorem at_block {b : Nat} {row : List Value} : (Res.cells b row).at b 0 row := ⟨rfl, by simp⟩
theorem at_part {b : Nat} {row : List Value} (o n : Nat) (h : o + n ≤ row.length) : (Res.cells b row).at b o ((row.drop o).take n) := by
  refine ⟨rfl, ?_⟩
  rw [List.length_take, List.length_drop, Nat.min_eq_left (by omega)]
theorem at_rd {A : Option Addr} {b off : Nat} {xs : List Value} {j : Nat} {v : Value} (h : xs[j]? = some v) : (Res.rd A b off xs).at b (off + j) [v] := by
  refine ⟨rfl, j, rfl, ?_⟩
  obtain ⟨hlt, rfl⟩ := List.getElem?_eq_some_iff.1 h
  rw [List.drop_eq_getElem_cons hlt]
  rfl
theorem at_rdN {A : Option Addr} {b off : Nat} {xs : List Value} {j : Nat} {cs : List Value} (h : (xs.drop j).take cs.length = cs) : (Res.rd A b off xs).at b (off + j) cs := ⟨rfl, j, rfl, h⟩

/-! ### Loads -/
theorem run_load1 {b o : Nat} {v : Value} {ty : TypeId} (h : w.rangeAt b o [v]) (ha : (isAgg ty).run P w = .ok false w) : (Instr.loadAt ty (.pointer (some ⟨b, o, none⟩))).run P w = .ok v w := by
  have h0 : w.cell? ⟨b, o, none⟩ = some v := by simpa using h 0 v rfl
  simp [Instr.loadAt, Instr.sureAddr, loadVar, ha, h0]
theorem run_loadN {b o : Nat} {cs : List Value} {ty : TypeId} (h : w.rangeAt b o cs) (ha : (isAgg ty).run P w = .ok true w) (hs : (sizeOf ty).run P w = .ok cs.length w) : (Instr.loadAt ty (.pointer (some ⟨b, o, none⟩))).run P w = .ok (.agg cs.toArray) w := by
  have hl : (loadCells ⟨b, o, none⟩ cs.length).run P w = .ok cs.toArray w :=
    run_loadCells_list (P := P) w ⟨b, o, none⟩ cs (fun j v hv => by rw [Addr.add_mid]; exact h j v hv)
  simp [Instr.loadAt, Instr.sureAddr, loadVar, ha, hs, hl]

/-- A result that lies in a block of the call's own. -/
theorem Own.loadVarN {ty : TypeId} {b : Nat} {row : List Value} (H : Own B w0 w l) (hm : Res.cells b row ∈ l) (ha : (isAgg ty).run P w = .ok true w) (hs : (sizeOf ty).run P w = .ok row.length w) : (loadVar ty ⟨b, 0, none⟩).run P w = .ok (.agg row.toArray) w := by
  have h := run_loadN (P := P) (H.range (r := .cells b row) hm (b := b) (o := 0) (cs := row) at_block) ha hs
  simpa [Instr.loadAt, Instr.sureAddr] using h
theorem Own.loadVar1 {ty : TypeId} {b : Nat} {v : Value} (H : Own B w0 w l) (hm : Res.cells b [v] ∈ l) (ha : (isAgg ty).run P w = .ok false w) : (loadVar ty ⟨b, 0, none⟩).run P w = .ok v w := by
  have h := run_load1 (P := P) (H.range (r := .cells b [v]) hm (b := b) (o := 0) (cs := [v]) at_block) ha
  simpa [Instr.loadAt, Instr.sureAddr] using h
section
variable {o : Oper} {a : Act} {Q : Exit → Act → World → Prop} {ty : TypeId} {x y : Operand} {b off : Nat}
/-- In a region that draws its order: one cell is read. -/
theorem q_load {lf : List Res} {K : Act → Prop} {v : Value} {r : Res} (ho : o.op = .load ty x) (hx : a.eval x = .pointer (some ⟨b, off, none⟩)) (hc : r.at b off [v]) (hm : r ∈ lf)
    (ha : ∀ w, (isAgg ty).run P w = .ok false w) (hk : K (a.put o.dst v)) : o.quiet P a (Keeps B w0 lf) K :=
  ⟨v, fun w' ⟨l, H, hs⟩ => by
    unfold Oper.quietAt execOp
    simp only [ho, hx, Sem.run_bind, run_load1 (H.range (hs.mem hm) hc) (ha w')]
    exact ⟨rfl, rfl⟩, hk⟩
theorem q_loadN {lf : List Res} {K : Act → Prop} {cs : List Value} {r : Res} (ho : o.op = .load ty x) (hx : a.eval x = .pointer (some ⟨b, off, none⟩)) (hc : r.at b off cs) (hm : r ∈ lf)
    (ha : ∀ w, (isAgg ty).run P w = .ok true w) (hs : ∀ w, (sizeOf ty).run P w = .ok cs.length w) (hk : K (a.put o.dst (.agg cs.toArray))) : o.quiet P a (Keeps B w0 lf) K :=
  ⟨.agg cs.toArray, fun w' ⟨l, H, hss⟩ => by
    unfold Oper.quietAt execOp
    simp only [ho, hx, Sem.run_bind, run_loadN (H.range (hss.mem hm) hc) (ha w') (hs w')]
    exact ⟨rfl, rfl⟩, hk⟩
/-- Elsewhere. -/
theorem o_load {K : Act → World → Prop} {v : Value} {r : Res} (ho : o.op = .load ty x) (hx : a.eval x = .pointer (some ⟨b, off, none⟩)) (H : Own B w0 w l) (hc : r.at b off [v]) (hm : r ∈ l)
    (ha : ∀ w, (isAgg ty).run P w = .ok false w) (hk : K (a.put o.dst v) w) : o.wp P a w K Q := by
  unfold Oper.wp execOp
  simp only [ho, hx, Sem.run_bind, run_load1 (H.range hm hc) (ha w)]
  exact hk
theorem o_loadN {K : Act → World → Prop} {cs : List Value} {r : Res} (ho : o.op = .load ty x) (hx : a.eval x = .pointer (some ⟨b, off, none⟩)) (H : Own B w0 w l) (hc : r.at b off cs) (hm : r ∈ l)
    (ha : ∀ w, (isAgg ty).run P w = .ok true w) (hs : ∀ w, (sizeOf ty).run P w = .ok cs.length w) (hk : K (a.put o.dst (.agg cs.toArray)) w) : o.wp P a w K Q := by
  unfold Oper.wp execOp
  simp only [ho, hx, Sem.run_bind, run_loadN (H.range hm hc) (ha w) (hs w)]
  exact hk

theorem q_loadC {lf : List Res} {K : Act → Prop} {v : Value} {row : List Value} (ho : o.op = .load ty x) (hx : a.eval x = .pointer (some ⟨b, off, none⟩)) (hm : Res.cells b row ∈ lf) (hv : row[off]? = some v)
    (ha : ∀ w, (isAgg ty).run P w = .ok false w) (hk : K (a.put o.dst v)) : o.quiet P a (Keeps B w0 lf) K := q_load ho hx (at_cells hv) hm ha hk
theorem o_loadC {K : Act → World → Prop} {v : Value} {row : List Value} (ho : o.op = .load ty x) (hx : a.eval x = .pointer (some ⟨b, off, none⟩)) (H : Own B w0 w l) (hm : Res.cells b row ∈ l) (hv : row[off]? = some v)
    (ha : ∀ w, (isAgg ty).run P w = .ok false w) (hk : K (a.put o.dst v) w) : o.wp P a w K Q := o_load ho hx H (at_cells hv) hm ha hk
theorem q_loadNC {lf : List Res} {K : Act → Prop} {row : List Value} (ho : o.op = .load ty x) (hx : a.eval x = .pointer (some ⟨b, 0, none⟩)) (hm : Res.cells b row ∈ lf)
    (ha : ∀ w, (isAgg ty).run P w = .ok true w) (hs : ∀ w, (sizeOf ty).run P w = .ok row.length w) (hk : K (a.put o.dst (.agg row.toArray))) : o.quiet P a (Keeps B w0 lf) K := q_loadN ho hx at_block hm ha hs hk
theorem o_loadNC {K : Act → World → Prop} {row : List Value} (ho : o.op = .load ty x) (hx : a.eval x = .pointer (some ⟨b, 0, none⟩)) (H : Own B w0 w l) (hm : Res.cells b row ∈ l)
    (ha : ∀ w, (isAgg ty).run P w = .ok true w) (hs : ∀ w, (sizeOf ty).run P w = .ok row.length w) (hk : K (a.put o.dst (.agg row.toArray)) w) : o.wp P a w K Q := o_loadN ho hx H at_block hm ha hs hk

/-! ### Stores -/
/-- vs written into the row from o on. -/
def setL : List Value → Nat → List Value → List Value
  | row, _, [] => row
  | row, o, v :: r => setL (row.set o v) (o + 1) r
theorem setL_eq : ∀ (vs : List Value) (row : List Value) (o : Nat), o + vs.length ≤ row.length → setL row o vs = row.take o ++ vs ++ row.drop (o + vs.length)
  | [], row, o, _ => by simp [setL]
  | v :: r, row, o, h => by
    simp only [List.length_cons] at h
    rw [setL, setL_eq r _ _ (by simpa using (by omega : o + 1 + r.length ≤ row.length)), list_seg_step row o v r h]
    simp
theorem setL_length (vs row : List Value) (o : Nat) (h : o + vs.length ≤ row.length) : (setL row o vs).length = row.length := by
  rw [setL_eq vs row o h]; simp; omega
theorem Own.setRow {vs row : List Value} (H : Own B w0 w l) (hrep : Rep (.cells b row) (.cells b (setL row off vs)) l l') : Own B w0 (w.setRow b (setL row off vs).toArray) l' := by
  obtain ⟨T, hT⟩ := H.holds _ hrep.mem
  have hlt := H.lt _ hrep.mem b rfl
  have hs : (w.setRow b (setL row off vs).toArray).heap.size = w.heap.size := by simp [World.setRow]
  have hk : ∀ k, k ≠ b → (w.setRow b (setL row off vs).toArray).heap[k]? = w.heap[k]? := fun k hk => by
    simp only [World.setRow, Array.getElem?_modify]
    rw [if_neg (fun e => hk e.symm)]
  refine H.change hrep rfl rfl (.mk6 rfl rfl rfl (Nat.le_of_eq hs.symm) (fun k hk' => hk k (by have := hlt.2 rfl; omega)) (Nat.le_refl _)) (fun k _ hne => hk k hne) ⟨T, setRow_heap w b _ _ T (0, 0) hT⟩ (fun k hk' => ?_) (fun k hk' => .inl hk')
  obtain rfl : k = b := hk'
  rw [hs]; exact hlt.1
theorem run_storeO {row vs : List Value} {v : Value} (hv : v.cells.toList = vs) (H : Own B w0 w l) (hm : Res.cells b row ∈ l) (hs : (sizeOf ty).run P w = .ok vs.length w) (hfit : off + vs.length ≤ row.length) (h1 : vs.all (·.oneCell') = true) :
    (Instr.storeAt ty (.pointer (some ⟨b, off, none⟩)) v).run P w = .ok () (w.setRow b (setL row off vs).toArray) := by
  obtain ⟨T, hT⟩ := H.holds _ hm
  have h2 := run_storeCells_at P b off T vs 0 row.toArray w hT (by simpa using hfit) (fun u hu => List.all_eq_true.1 h1 u hu)
  rw [setL_eq vs row off hfit]
  have hl : v.cells.size = vs.length := by rw [← hv]; simp
  simp only [Nat.add_zero] at h2
  simp only [Instr.storeAt, Instr.sureAddr, storeVar, Sem.run_bind, Sem.run_pure, Result.andThen_ok, hs, hl, ne_eq, not_true_eq_false, if_false, hv]
  simpa using h2
theorem o_store {K : Act → World → Prop} {row vs : List Value} (ho : o.op = .store ty x y) (hx : a.eval x = .pointer (some ⟨b, off, none⟩)) (H : Own B w0 w l) (hv : (a.eval y).cells.toList = vs)
    (hrep : Rep (.cells b row) (.cells b (setL row off vs)) l l') (hs : ∀ w, (sizeOf ty).run P w = .ok vs.length w) (hfit : off + vs.length ≤ row.length) (h1 : vs.all (·.oneCell') = true)
    (hk : ∀ w', Own B w0 w' l' → K (a.put o.dst undef) w') : o.wp P a w K Q := by
  unfold Oper.wp execOp
  simp only [ho, hx, Sem.run_bind, run_storeO hv H hrep.mem (hs w) hfit h1]
  exact hk _ (H.setRow hrep)

/-! ### New blocks -/
theorem o_new {K : Act → World → Prop} {T : TypeId} {C : Array Value} {row : List Value} {v : World → Value} (H : Own B w0 w l) (hrun : ∀ w : World, (execOp a.eval o).run P w = .ok (.value (v w)) (w.alloc (.cells C T))) (hrow : C.toList = row)
    (hk : ∀ w' b, Ext w w' → b = w.heap.size → Own B w0 w' (.cells b row :: l) → K (a.put o.dst (v w)) w') : o.wp P a w K Q := by
  unfold Oper.wp
  rw [hrun w]
  subst hrow
  exact hk _ _ (below_alloc1 w _) rfl (H.alloc C T)
theorem o_alloc {K : Act → World → Prop} {z : Value} {row : List Value} (ho : o.op = .alloc ty) (hz : ∀ w, (zeroValue ty).run P w = .ok z w) (H : Own B w0 w l) (hrow : z.cells.toList = row)
    (hk : ∀ w' b, Ext w w' → Own B w0 w' (.cells b row :: l) → K (a.put o.dst (.pointer (some ⟨b, 0, none⟩))) w') : o.wp P a w K Q := by
  unfold Oper.wp execOp
  subst hrow
  have : (Instr.alloc ty true (.tuple #[])).run P w = .ok (.pointer (some ⟨w.heap.size, 0, none⟩)) (w.alloc (.cells z.cells ty)) := by
    simp [Instr.alloc, hz w, newVar, newRow]
  simp only [ho, Sem.run_bind, this]
  exact hk _ _ (below_alloc1 w _) (H.alloc z.cells ty)
theorem o_box {K : Act → World → Prop} {row : List Value} (ho : o.op = .box ty x) (H : Own B w0 w l) (hrow : (a.eval x).cells.toList = row)
    (hk : ∀ w' b, Ext w w' → Own B w0 w' (.cells b row :: l) → K (a.put o.dst (.pointer (some ⟨b, 0, none⟩))) w') : o.wp P a w K Q := by
  unfold Oper.wp execOp
  subst hrow
  have : (Instr.box ty (a.eval x)).run P w = .ok (.pointer (some ⟨w.heap.size, 0, none⟩)) (w.alloc (.cells (a.eval x).cells ty)) := by
    simp [Instr.box, newVar, newRow]
  simp only [ho, Sem.run_bind, this]
  exact hk _ _ (below_alloc1 w _) (H.alloc (a.eval x).cells ty)
theorem o_buildSlice {K : Act → World → Prop} {t E : TypeId} {n : Nat} {parts : Array (Nat × Operand)} {ps : Array (Nat × Value)} {C : Array Value} {row : List Value} (ho : o.op = .buildSlice t n parts) (hp : parts.map (fun q => (q.1, a.eval q.2)) = ps)
    (H : Own B w0 w l) (hrun : ∀ w : World, (Instr.buildSlice t n ps).run P w = .ok (.slice (some ⟨w.heap.size, 0, none⟩) n n) (w.alloc (.cells C E))) (hrow : C.toList = row)
    (hk : ∀ w' b, Ext w w' → Own B w0 w' (.cells b row :: l) → K (a.put o.dst (.slice (some ⟨b, 0, none⟩) n n)) w') : o.wp P a w K Q := by
  unfold Oper.wp execOp
  subst hp hrow
  simp only [ho, Sem.run_bind, hrun w]
  exact hk _ _ (below_alloc1 w _) (H.alloc C E)

/-! ### Slices that grow -/
/-- A slice that is nil may grow. -/
theorem Own.grow_nil (H : Own B w0 w l) (e size : Nat) : Own B w0 w (.grow e size (.slice none 0 0) 0 [] :: l) :=
  H.add _ (World.ownsRow_nil w 0 e size) (fun k hk => by cases hk) (fun r hr => .inr fun k hk => by cases hk)
theorem Own.grow_row {b : Nat} {C : Array Value} (e size cap n : Nat) (hm : cap ≤ maxLen) (hn : n ≤ cap) (hC : C.size = cap * size) (H : Own B w0 w l) :
    Own B w0 (w.alloc (.cells C e)) (.grow e size (.slice (some ⟨w.heap.size, 0, none⟩) n cap) n (C.toList.take (n * size)) :: l) := by
  refine (H.ext (below_alloc1 w _)).add _ ⟨?_, .inr ⟨w.heap.size, cap, C, rfl, Nat.zero_le _, heap_alloc_new w _, hn, hm, hC, rfl⟩⟩ (fun k hk => ?_) (fun r' hr' => .inr fun k hk hk' => ?_)
  · have : n * size ≤ cap * size := Nat.mul_le_mul_right _ hn
    simp; omega
  · obtain rfl : w.heap.size = k := by injection hk
    exact ⟨by simp, fun _ => H.base⟩
  · obtain rfl : w.heap.size = k := by injection hk
    exact absurd (H.lt r' hr' _ hk').1 (Nat.lt_irrefl _)
/-- Where the slice lies behind an append: where it lay, or in a new block. -/
theorem append_place {t ty e : TypeId} {i : TypeInfo} {z : Value} (ht : P.underlying t = some (.slice e)) (hi : P.info? e = some i) (hz : i.zero = some z)
    {v : Value} {n : Nat} {xs : List Value} (hown : w.ownsRow 0 e i.size v n xs) {ad : Addr} {m c : Nat} {news : List Value} (hl : news.length = m * i.size) (hnews : ∀ j u, news[j]? = some u → w.cell? (ad.add j) = some u) (h1 : ∀ u ∈ news, u.oneCell' = true)
    (h63 : n + m ≤ maxLen) (hbytes : (n + m) * i.bytes ≤ 140737488355328) {v' : Value} {w' : World} (hr : (Builtin.append_ #[t, t] ty #[v, .slice (some ad) m c]).run P w = .ok v' w') :
    ∀ k, v'.ownBlock = some k → v.ownBlock = some k ∨ w.heap.size ≤ k := by
  have hsmall : n + m ≤ 9223372036854775807 := by simp only [maxLen] at h63; omega
  rcases hown.2 with ⟨rfl, rfl⟩ | ⟨g, cap, cur, rfl, hbg, hg, hnc, hcm, hcs, htake⟩
  · by_cases hm : m = 0
    · subst hm
      have h2 : (Builtin.append_ #[t, t] ty #[.slice none 0 0, .slice (some ad) 0 c]).run P w = .ok (.slice none 0 0) w := by
        simp [Builtin.append_, run_underlying ht, sizeOf, typeInfo, hi, Builtin.lenOf, Builtin.firstCells, loadCells, loadCellsFrom]
      rw [h2] at hr
      injection hr with h3 h4
      subst h3
      intro k hk; cases hk
    · have h2 := run_append_nil (P := P) w t ty e i z ht hi hz ad m c news hl hnews (by omega) (by omega) (by have hb := hbytes; simp only [Nat.zero_add] at hb; omega)
      rw [h2] at hr
      injection hr with h3 h4
      subst h3
      intro k hk
      injection hk with hk
      exact .inr (Nat.le_of_eq hk)
  · by_cases hroom : n + m ≤ cap
    · have hfit : n * i.size + news.length ≤ cur.size := by rw [hl, hcs, ← Nat.add_mul]; exact Nat.mul_le_mul_right _ hroom
      have h2 := run_append_room (P := P) w t ty e i ht hi g n cap cur hg ad m c news hl hnews h1 hroom hfit
      rw [h2] at hr
      injection hr with h3 h4
      subst h3
      intro k hk
      exact .inl hk
    · have holds : ∀ j u, xs[j]? = some u → w.cell? ((⟨g, 0, none⟩ : Addr).add j) = some u := hown.cells (g := g) rfl
      have h2 := run_append_grow (P := P) w t ty e i z ht hi hz ⟨g, 0, none⟩ n cap xs hown.1 holds ad m c news hl hnews (by omega) (by omega) (growslice_fits (by omega) hbytes)
      rw [h2] at hr
      injection hr with h3 h4
      subst h3
      intro k hk
      injection hk with hk
      exact .inr (Nat.le_of_eq hk)
/-- What an append has drawn. -/
theorem append_drawn {t ty e : TypeId} {i : TypeInfo} {z : Value} (ht : P.underlying t = some (.slice e)) (hi : P.info? e = some i) (hz : i.zero = some z)
    {v : Value} {n : Nat} {xs : List Value} (hown : w.ownsRow 0 e i.size v n xs) {ad : Addr} {m c : Nat} {news : List Value} (hl : news.length = m * i.size) (hnews : ∀ j u, news[j]? = some u → w.cell? (ad.add j) = some u) (h1 : ∀ u ∈ news, u.oneCell' = true)
    (h63 : n + m ≤ maxLen) (hbytes : (n + m) * i.bytes ≤ 140737488355328) {v' : Value} {w' : World} (hr : (Builtin.append_ #[t, t] ty #[v, .slice (some ad) m c]).run P w = .ok v' w') : w.drawn ≤ w'.drawn := by
  have hsmall : n + m ≤ 9223372036854775807 := by simp only [maxLen] at h63; omega
  rcases hown.2 with ⟨rfl, rfl⟩ | ⟨g, cap, cur, rfl, hbg, hg, hnc, hcm, hcs, htake⟩
  · by_cases hm : m = 0
    · subst hm
      have h2 : (Builtin.append_ #[t, t] ty #[.slice none 0 0, .slice (some ad) 0 c]).run P w = .ok (.slice none 0 0) w := by
        simp [Builtin.append_, run_underlying ht, sizeOf, typeInfo, hi, Builtin.lenOf, Builtin.firstCells, loadCells, loadCellsFrom]
      rw [h2] at hr
      injection hr with h3 h4
      rw [← h4]; exact Nat.le_refl _
    · have h2 := run_append_nil (P := P) w t ty e i z ht hi hz ad m c news hl hnews (by omega) (by omega) (by have hb := hbytes; simp only [Nat.zero_add] at hb; omega)
      rw [h2] at hr
      injection hr with h3 h4
      rw [← h4]; exact Nat.le_succ _
  · by_cases hroom : n + m ≤ cap
    · have hfit : n * i.size + news.length ≤ cur.size := by rw [hl, hcs, ← Nat.add_mul]; exact Nat.mul_le_mul_right _ hroom
      have h2 := run_append_room (P := P) w t ty e i ht hi g n cap cur hg ad m c news hl hnews h1 hroom hfit
      rw [h2] at hr
      injection hr with h3 h4
      rw [← h4]; exact Nat.le_refl _
    · have holds : ∀ j u, xs[j]? = some u → w.cell? ((⟨g, 0, none⟩ : Addr).add j) = some u := hown.cells (g := g) rfl
      have h2 := run_append_grow (P := P) w t ty e i z ht hi hz ⟨g, 0, none⟩ n cap xs hown.1 holds ad m c news hl hnews (by omega) (by omega) (growslice_fits (by omega) hbytes)
      rw [h2] at hr
      injection hr with h3 h4
      rw [← h4]; exact Nat.le_succ _
theorem o_append {K : Act → World → Prop} {s x' : Operand} {t e : TypeId} {z : Value} {size bytes : Nat} {v : Value} {n m c bb : Nat} {xs news row : List Value} {l' : Value → List Res} (hinfo : (P.info? e).map (fun i => (i.zero, i.size, i.bytes)) = some (some z, size, bytes))
    (ho : o.op = .call { callee := .builtin .append, args := #[s, x'], argTypes := #[t, t] }) (hs : a.eval s = v) (hx : a.eval x' = .slice (some ⟨bb, 0, none⟩) m c) (H : Own B w0 w l)
    (hm : Res.cells bb row ∈ l) (hrow : row.take (m * size) = news) (hlen : m * size ≤ row.length)
    (hrep : ∀ v', Rep (.grow e size v n xs) (.grow e size v' (n + m) (xs ++ news)) l (l' v')) (ht : P.underlying t = some (.slice e)) (hzs : z.cells.size = size) (hsz : 0 < size) (h1 : news.all (·.oneCell') = true)
    (h63 : n + m ≤ maxLen) (hbytes : (n + m) * bytes ≤ 140737488355328)
    (hk : ∀ v' w', Own B w0 w' (l' v') → (v' = .slice none 0 0 ↔ v = .slice none 0 0 ∧ m = 0) → K (a.put o.dst v') w') : o.wp P a w K Q := by
  cases hi : P.info? e with
  | none => simp [hi] at hinfo
  | some i =>
    simp only [hi, Option.map_some, Option.some.injEq, Prod.mk.injEq] at hinfo
    obtain ⟨hz, rfl, rfl⟩ := hinfo
    have hg := H.holds _ (hrep v).mem
    have hgl := H.lt _ (hrep v).mem
    have hr := (H.range hm at_block)
    have hl : news.length = m * i.size := by rw [← hrow, List.length_take]; omega
    have hnews : ∀ j u, news[j]? = some u → w.cell? ((⟨bb, 0, none⟩ : Addr).add j) = some u := fun j u hu => by rw [Addr.add_mid]; exact hr j u (by rw [← hrow, List.getElem?_take] at hu; split at hu <;> first | exact hu | cases hu)
    have h1' : ∀ u ∈ news, u.oneCell' = true := fun u hu => List.all_eq_true.1 h1 u hu
    obtain ⟨v', w', hrun, hown, hgrow, hnil⟩ := run_append_own (P := P) w 0 t o.type e i z _ _ ht hi hz rfl rfl hzs hsz v n xs hg ⟨bb, 0, none⟩ m c news hl hnews h1' h63 hbytes (Nat.zero_le _)
    have hplace := append_place ht hi hz hg hl hnews h1' h63 hbytes hrun
    unfold Oper.wp execOp
    simp only [ho, resolve, invoke, builtin, Sem.run_bind, Sem.run_pure, Result.andThen_ok, List.map_toArray, List.map_cons, List.map_nil, hs, hx, hrun]
    refine hk v' w' ?_ hnil
    have hold : ∀ k, v.ownBlock = some k → k < w.heap.size ∧ B ≤ k := fun k hk => ⟨(hgl k hk).1, (hgl k hk).2 rfl⟩
    refine H.change (hrep v') rfl rfl (.mk6 hgrow.os hgrow.tape hgrow.output hgrow.size (fun k hk' => hgrow.block k (Nat.lt_of_lt_of_le hk' H.base) (fun e => by have := (hold k e.symm).2; omega)) (append_drawn ht hi hz hg hl hnews h1' h63 hbytes hrun))
      (fun k hk' hne => hgrow.block k hk' (fun e => hne e.symm)) hown (fun k hk' => (hown.lt k hk').2) hplace
end
end Go.Proofs.Ytlhmjhildlnokaa
