/-
  The index's put, as lists: what a round makes.
-/
import Derived.Test.YtlhmjhildlnokaaGreatMd6b25c4b
import Derived.Test.YtlhmjhildlnokaaGreatMc8910ffd
import Derived.Test.YtlhmjhildlnokaaGreatLayJ
import Derived.Shelf.SlSortCmp.NoneTotal
import Derived.Deep.DeepCutAuto
namespace Go.Proofs.YtlhmjhildlnokaaGreat
set_option linter.unusedVariables false
set_option linter.unusedSimpArgs false
open Go.RowKit Go.Sort Go.Shelf
theorem trap2r1 {P Q : Prop} (k : Q) (h : Hold Q → InR 1 0 (.q 0 (.q 1 (.q 2 (.q 3 (.q 4 (.q 5 (.q 6 (.q 7 (.q 8 (.q 9 (.q 10 (.q 11 (.q 12 (.q 13 (.q 14 (.q 15 (.q 16 (.q 17 .nil)))))))))))))))))) P := by exact aRC0) : P := h ⟨k⟩
theorem p_at {P : List Pc} {i : Nat} {p : Pc} (h : P[i]? = some p) : ((pR P).drop (i * 10)).take 8 = tz8 p.t := by
 have := flatN_sub (f := pc10) (k := 10) (fun _ => rfl) h 0 8 (by omega)
 rw [Nat.add_zero] at this
 unfold pR
 rw [this]; rfl
theorem grow_rd {e size n b cap : Nat} {xs : List Value} {w : World} (h : (Res.grow e size (.slice (some ⟨b, 0, none⟩) n cap) n xs).holds w) : (Res.rd (some ⟨b, 0, none⟩) b 0 xs).holds w := by
 refine ⟨fun _ => rfl, fun j v hv => ?_⟩
 have := World.ownsRow.cells (g := b) h rfl j v hv
 rwa [Addr.add_mid] at this
theorem cells_rd {b : Nat} {row : List Value} {w : World} (h : (Res.cells b row).holds w) : (Res.rd (some ⟨b, 0, none⟩) b 0 row).holds w := by
 obtain ⟨T, hT⟩ := h
 refine ⟨fun _ => rfl, fun j v hv => ?_⟩
 have hj := (List.getElem?_eq_some_iff.1 hv).1
 simp only [World.cell?, World.frozen?, hT, Nat.zero_add]
 simp [hv]
theorem own_rds {w : World} : ∀ {l : List Res}, (∀ r ∈ l, r.ro = true) → (∀ r ∈ l, r.holds w ∧ ∀ j, r.foot j → j < w.heap.size) → Own w.heap.size w w l
 | [], _, _ => Own.start w
 | r :: l, hro, h => by
  have ih := own_rds (l := l) (fun r hr => hro r (by simp [hr])) (fun r hr => h r (by simp [hr]))
  refine ih.add r (h r (by simp)).1 (fun k hk => ⟨(h r (by simp)).2 k hk, fun h0 => by rw [hro r (by simp)] at h0; cases h0⟩) (fun r' hr' => .inl ⟨hro r (by simp), hro r' (by simp [hr'])⟩)
set_option maxRecDepth 100000 in
set_option maxHeartbeats 8000000 in
theorem cmpC_any {B : Nat} {w0 w : World} {l : List Res} {bc bx bp m cp : Nat} {u0 u2 u3 : Value} {P : List Pc} {i k : Nat} {p q : Pc} (hi : P[i]? = some p) (hk : P[k]? = some q) (hm : m = P.length)
  (H : Own B w0 w (.rd (some ⟨bc, 0, none⟩) bc 0 [.pointer (some ⟨bx, 0, none⟩)] :: .rd (some ⟨bx, 0, none⟩) bx 0 [u0, .slice (some ⟨bp, 0, none⟩) m cp, u2, u3] :: .rd (some ⟨bp, 0, none⟩) bp 0 (pR P) :: l)) :
  Calls Tryz.prog 59 #[.int .i64 (i : Int), .int .i64 (k : Int), .pointer (some ⟨bc, 0, none⟩)] w fun r w' => r = .returned (.int .i64 (leftsZ p.t q.t)) ∧ Below B w0 w' := by
 have hil : i < m := by rw [hm]; exact (List.getElem?_eq_some_iff.1 hi).1
 have hkl : k < m := by rw [hm]; exact (List.getElem?_eq_some_iff.1 hk).1
 have h1 := fun w => lefts_any p.t q.t w
 have p0 : (Res.rd (some ⟨bc, 0, none⟩) bc 0 [.pointer (some ⟨bx, 0, none⟩)]).at bc 0 [.pointer (some ⟨bx, 0, none⟩)] := ⟨rfl, 0, rfl, rfl⟩
 have p1 : (Res.rd (some ⟨bx, 0, none⟩) bx 0 [u0, .slice (some ⟨bp, 0, none⟩) m cp, u2, u3]).at bx 1 [.slice (some ⟨bp, 0, none⟩) m cp] := ⟨rfl, 1, rfl, rfl⟩
 have p2 : (Res.rd (some ⟨bp, 0, none⟩) bp 0 (pR P)).at bp (i * 10) (tz8 p.t) := ⟨rfl, i * 10, by omega, p_at hi⟩
 have p3 : (Res.rd (some ⟨bp, 0, none⟩) bp 0 (pR P)).at bp (k * 10) (tz8 q.t) := ⟨rfl, k * 10, by omega, p_at hk⟩
 simp only [tz8] at p2 p3
 clear hi hk hm
 go_enter Tryz.func59, Tryz.ntmps59
 go_wp2_with (first
  | (guard_target = Code.wp _ (Code.region 1 _ true) _ _ _; refine trap2r1 ?_; clear H; (try clear w2); intro w2 H)
  | ((guard_target = wpTreeC _ _ _ _ _ _ _); (first | (refine aaad3d59 ?_) | (guard_target = wpTreeC _ _ _ (Tr.q _ _) _ _ _; (with_reducible refine treeC_call (v := ?_) (o := ?_) (aK H) ?_ ?_ (fun w3 H K hK => ?_) ?_); rotate_left 2; exact rfl; exact rfl; (focus (simp only [List.getElem_toArray, List.getElem_cons_succ, List.getElem_cons_zero]; (go_big_op; (go_at_call 35; (with_reducible refine (h1 _).mono ?_); rintro e w3 ⟨rfl, hb⟩; dsimp only; exact aE)))); refine a75ac28e ?_) | (guard_target = wpTreeC _ _ _ Tr.nil _ _ _; refine treeC_nil H ?_; clear H; (try clear w2); intro w2 H))))
 go_ret
 exact ⟨rfl, H.below⟩
abbrev PcAt (P : List Pc) : Type := {i : Nat // i < P.length}
def pcT (P : List Pc) (x : PcAt P) : Tz := (P[x.1]'x.2).t
def cfC (P : List Pc) (x y : PcAt P) : Int := leftsZ (pcT P x) (pcT P y)
def ltT (s t : Tz) : Bool := decide (leftsZ s t < 0)
theorem ltT_iff (s t : Tz) : ltT s t = true ↔ (s.hl = false ∧ t.hl = true) ∨ (s.hl = true ∧ t.hl = true ∧ lessB s.l t.l = true) := by
 unfold ltT leftsZ
 rw [decide_eq_true_eq]
 cases s.hl <;> cases t.hl <;> simp
 cases lessB s.l t.l <;> cases lessB t.l s.l <;> simp
theorem lessB_swo : (∀ a : Pt, lessB a a = false) ∧ (∀ a b c : Pt, lessB a b = true → lessB b c = true → lessB a c = true) ∧ (∀ a b c : Pt, lessB a b = false → lessB b c = false → lessB a c = false) := by
 refine ⟨fun a => ?_, fun a b c h1 h2 => ?_, fun a b c h1 h2 => ?_⟩
 ·rw [Bool.eq_false_iff, ne_eq, less_iff]; omega
 ·rw [less_iff] at *; omega
 ·rw [Bool.eq_false_iff, ne_eq, less_iff] at *; omega
theorem ltT_swo : (∀ s : Tz, ltT s s = false) ∧ (∀ s t u : Tz, ltT s t = true → ltT t u = true → ltT s u = true) ∧ (∀ s t u : Tz, ltT s t = false → ltT t u = false → ltT s u = false) := by
 obtain ⟨l1, l2, l3⟩ := lessB_swo
 refine ⟨fun s => ?_, fun s t u h1 h2 => ?_, fun s t u h1 h2 => ?_⟩
 ·rw [Bool.eq_false_iff, ne_eq, ltT_iff, l1]; cases s.hl <;> simp
 ·rw [ltT_iff] at *
  rcases h1 with h1 | h1 <;> rcases h2 with h2 | h2
  ·rw [h1.2] at h2; cases h2.1
  ·exact .inl ⟨h1.1, h2.2.1⟩
  ·rw [h1.2.1] at h2; cases h2.1
  ·exact .inr ⟨h1.1, h2.2.1, l2 _ _ _ h1.2.2 h2.2.2⟩
 ·have e : ∀ s t, ltT s t = false ↔ ¬ ((s.hl = false ∧ t.hl = true) ∨ (s.hl = true ∧ t.hl = true ∧ lessB s.l t.l = true)) := fun s t => by rw [Bool.eq_false_iff, ne_eq, ltT_iff]
  rw [e] at *
  have l3' := l3 s.l t.l u.l
  cases hs : s.hl <;> cases ht : t.hl <;> cases hu : u.hl <;> simp [hs, ht, hu] at h1 h2 ⊢
  exact l3' h1 h2
theorem cfC_swo (P : List Pc) : SWO (ltOf (cfC P)) := by
 obtain ⟨l1, l2, l3⟩ := ltT_swo
 exact ⟨fun x => l1 _, fun x y z h1 h2 => l2 _ (pcT P y) _ h1 h2, fun x y z h1 h2 => l3 _ (pcT P y) _ h1 h2⟩
def SortC (P : List Pc) (all : List Nat) : Prop := all.Pairwise fun i k => ∀ p q, P[i]? = some p → P[k]? = some q → ltT q.t p.t = false
theorem enter_cmpC (args : Array Value) (w : World) : (callFunc 59 args).run Tryz.prog w = .ok (.enter 59 args) w := by kernel_rfl
def nR1 (l : List Nat) : List Value := l.map fun i : Nat => Value.int .i64 (i : Int)
theorem lift_pc {P : List Pc} : ∀ {all : List Nat}, (∀ i ∈ all, i < P.length) → ∃ xs : List (PcAt P), xs.map (·.1) = all
 | [], _ => ⟨[], rfl⟩
 | i :: all, h => by
  obtain ⟨xs, hx⟩ := lift_pc (all := all) fun j hj => h j (by simp [hj])
  exact ⟨⟨i, h i (by simp)⟩ :: xs, by simp [hx]⟩
theorem sortC_any {B : Nat} {w0 w : World} {rest : List Res} {bc bx bp m cp n : Nat} {u0 u2 u3 v : Value} {P : List Pc} {all : List Nat} (hall : ∀ i ∈ all, i < P.length) (hm : m = P.length) (hn : n = all.length) (hl : n ≤ 1000000)
  (h1 : Res.cells bc [.pointer (some ⟨bx, 0, none⟩)] ∈ rest) (h2 : Res.cells bx [u0, .slice (some ⟨bp, 0, none⟩) m cp, u2, u3] ∈ rest) (h3 : Res.grow 80 10 (.slice (some ⟨bp, 0, none⟩) m cp) m (pR P) ∈ rest)
  (H : Own B w0 w (.grow 3 1 v n (nR1 all) :: rest)) :
  Calls Tryz.prog 58 #[v, .func (.func 59) #[] #[.pointer (some ⟨bc, 0, none⟩)]] w fun r w' =>
   r = .returned (.tuple #[]) ∧ ∃ all' : List Nat, all'.Perm all ∧ SortC P all' ∧ Own B w0 w' (.grow 3 1 v n (nR1 all') :: rest) := by
 obtain ⟨xs, hxs⟩ := lift_pc hall
 cases xs with
 | nil =>
  have hnil : all = [] := hxs.symm
  subst hnil
  obtain rfl : n = 0 := hn
  obtain ⟨A, c, rfl⟩ := H.growForm m0
  refine (AnyF.slices_SortFunc_none (P := Tryz.prog) { sortJ with } A c _ w).mono ?_
  rintro r w' ⟨rfl, rfl⟩
  exact ⟨rfl, [], .refl _, .nil, H⟩
 | cons x0 xs0 =>
  letI : Inhabited (PcAt P) := ⟨x0⟩
  have hpos : 0 < n := by rw [hn, ← hxs]; simp
  generalize x0 :: xs0 = xs at hxs
  obtain ⟨b, cap, rfl⟩ := H.growSome m0 hpos (by decide)
  have hn2 : n = xs.length := by rw [hn, ← hxs, List.length_map]
  have hrow : nR1 all = xs.map fun x : PcAt P => Value.int .i64 (x.1 : Int) := by rw [← hxs]; unfold nR1; rw [List.map_map]; rfl
  rw [hrow] at H
  refine (sort1_any (enc := fun x : PcAt P => Value.int .i64 (x.1 : Int)) sortJ (fun _ => rfl) (cfC P) (cfC_swo P) 59 #[.pointer (some ⟨bc, 0, none⟩)] enter_cmpC hn2 hl H ?_).mono ?_
  ·intro W hW x y
   have H4 := own_rds (w := W) (l := [.rd (some ⟨bc, 0, none⟩) bc 0 [.pointer (some ⟨bx, 0, none⟩)], .rd (some ⟨bx, 0, none⟩) bx 0 [u0, .slice (some ⟨bp, 0, none⟩) m cp, u2, u3], .rd (some ⟨bp, 0, none⟩) bp 0 (pR P)])
    (fun r hr => by
     simp only [List.mem_cons, List.not_mem_nil, or_false] at hr
     rcases hr with rfl | rfl | rfl <;> rfl)
    (fun r hr => by
     simp only [List.mem_cons, List.not_mem_nil, or_false] at hr
     rcases hr with rfl | rfl | rfl
     ·exact ⟨cells_rd (hW _ h1).1, fun j hj => (hW _ h1).2 j hj.1⟩
     ·exact ⟨cells_rd (hW _ h2).1, fun j hj => (hW _ h2).2 j hj.1⟩
     ·exact ⟨grow_rd (hW _ h3).1, fun j hj => (hW _ h3).2 j (by rw [hj.1]; rfl)⟩)
   exact cmpC_any (l := []) (List.getElem?_eq_getElem x.2) (List.getElem?_eq_getElem y.2) hm H4
  ·rintro r w' ⟨rfl, ys, hys, hsort, H'⟩
   refine ⟨rfl, ys.map (·.1), ?_, ?_, ?_⟩
   ·rw [← hxs]; exact hys.map _
   ·unfold SortC
    rw [List.pairwise_map]
    refine hsort.imp fun {a b} h p q hp hq => ?_
    have e1 : pcT P a = p.t := by unfold pcT; rw [(List.getElem?_eq_some_iff.1 hp).2]
    have e2 : pcT P b = q.t := by unfold pcT; rw [(List.getElem?_eq_some_iff.1 hq).2]
    rw [← e1, ← e2]; exact h
   ·have : nR1 (ys.map (·.1)) = ys.map fun x : PcAt P => Value.int .i64 (x.1 : Int) := by unfold nR1; rw [List.map_map]; rfl
    rw [this]; exact H'
theorem trap3x1 {P Q : Prop} (k : Q) (h : Hold Q → P := by (intro kk; guard_target = wpList _ _ _ (Oper.mk _ (.load _ _) _ _ _ _ :: _) _ _; (with_reducible refine BigFrame.wpList_want ?_ (fun K hK => ?_)); exact rfl; (first | (refine o_loadPl (t0 := ?_) (t1 := ?_) (t2 := ?_) (t3 := ?_) (t4 := ?_) (t5 := ?_) (t6 := ?_) (t7 := ?_) (t8 := ?_) (t9 := ?_) rfl rfl H ?_ ?_ ?_ (hK _ _ ?_); rotate_left 10; (repeat first | exact .head _ | apply List.Mem.tail); (focus (intro _; simp; done)); (focus (intro _; simp; done))) | (refine o_loadPr (t0 := ?_) (t1 := ?_) (t2 := ?_) (t3 := ?_) (t4 := ?_) (t5 := ?_) (t6 := ?_) (t7 := ?_) (t8 := ?_) (t9 := ?_) rfl rfl H ?_ ?_ ?_ (hK _ _ ?_); rotate_left 10; (repeat first | exact .head _ | apply List.Mem.tail); (focus (intro _; simp; done)); (focus (intro _; simp; done))) | (refine o_loadSa (t0 := ?_) (t1 := ?_) (t2 := ?_) (t3 := ?_) rfl rfl H ?_ ?_ ?_ (hK _ _ ?_); rotate_left 4; (repeat first | exact .head _ | apply List.Mem.tail); (focus (intro _; simp; done)); (focus (intro _; simp; done))) | (refine o_loadSb (t0 := ?_) (t1 := ?_) (t2 := ?_) (t3 := ?_) rfl rfl H ?_ ?_ ?_ (hK _ _ ?_); rotate_left 4; (repeat first | exact .head _ | apply List.Mem.tail); (focus (intro _; simp; done)); (focus (intro _; simp; done)))); clear hK K; simp only [Act.put, List.setIfInBounds_toArray, List.set_cons_succ, List.set_cons_zero]; exact kk.out)) : P := h ⟨k⟩
theorem trap3g2 {P Q : Prop} (k : Q) (h : Hold Q → P := by (intro kk; (first | (guard_target = wpList _ _ _ (Oper.mk _ (.load _ _) _ _ _ _ :: _) _ _; exact trap3x1 kk.out) | (guard_target = wpList _ _ _ (Oper.mk _ (.load _ _) _ _ _ _ :: _) _ _; exact a15dc6b3 kk.out)))) : P := h ⟨k⟩
theorem trap3x5 {P Q : Prop} (k : Q) (h : Hold Q → P := by (intro kk; guard_target = wpTreeC _ _ _ (Tr.q _ _) _ _ _; (with_reducible refine treeC_quiet (o := ?_) (aK H) ?_ ?_ ?_ (fun K hK => ?_)); rotate_left 1; exact rfl; exact rfl; exact rfl; simp only [List.getElem_toArray, List.getElem_cons_succ, List.getElem_cons_zero]; (guard_target = Oper.quiet _ (Oper.mk _ (.lookup _ _ _ _) _ _ _ _) _ _ _; (refine q_segGet (m := ?_) rfl rfl rfl ?_ (hK _ ?_); rotate_left 1; (repeat first | exact .head _ | apply List.Mem.tail)); clear hK K; simp only [Act.put, List.setIfInBounds_toArray, List.set_cons_succ, List.set_cons_zero]); exact kk.out)) : P := h ⟨k⟩
theorem trap3g6 {P Q : Prop} (k : Q) (h : Hold Q → P := by (intro kk; (first | (guard_target = wpTreeC _ _ _ (Tr.q _ _) _ _ _; exact trap3x5 kk.out) | (guard_target = wpTreeC _ _ _ (Tr.q _ _) _ _ _; exact a9e94fc6 kk.out)))) : P := h ⟨k⟩
theorem trap3g11 {P Q : Prop} (k : Q) (h : Hold Q → P := by (intro kk; (guard_target = wpTreeC _ _ _ (Tr.e _ _) _ _ _; exact ac5de4b8 kk.out))) : P := h ⟨k⟩
theorem trap3x14 {P Q : Prop} (k : Q) (h : Hold Q → P := by (intro kk; guard_target = wpList _ _ _ (Oper.mk _ (.call { callee := .builtin .append, args := _, argTypes := _ }) _ _ _ _ :: _) _ _; (with_reducible refine BigFrame.wpList_want ?_ (fun K hK => ?_)); exact rfl; refine o_append (row := ?_) (n := ?_) (xs := ?_) (l' := ?_) infoIt rfl rfl rfl H ?_ rfl ?_ ?_ (by kernel_rfl) rfl (by decide) ?_ ?_ ?_ (fun v2 w3 H2 hn => hK _ _ ?_); rotate_left 4; (repeat first | exact .head _ | apply List.Mem.tail); (focus (simp; done)); (focus (intro _; (exact r2))); exact rfl; exact (by unfold maxLen; omega); exact (by omega); clear hK K hn; simp only [List.take_succ_cons, List.take_zero, Nat.one_mul] at H2; (obtain ⟨A9, c9, rfl⟩ := H2.growForm (v := v2) (by repeat first | exact .head _ | apply List.Mem.tail)); simp only [Act.put, List.setIfInBounds_toArray, List.set_cons_succ, List.set_cons_zero]; revert H2; revert w3; revert c9; revert A9; exact kk.out)) : P := h ⟨k⟩
theorem trap3r1 {P Q : Prop} (k : Q) (h : Hold Q → InR 8 0 (.q 0 (.q 1 (.q 2 (.q 3 (.q 4 (.q 5 (.q 9 (.q 10 (.q 11 (.q 13 (.e 6 (.q 7 (.q 8 (.q 12 (.q 14 (.q 15 (.q 16 (.q 17 .nil)))))))))))))))))) P := by exact aRC0) : P := h ⟨k⟩
theorem trap3r2 {P Q : Prop} (k : Q) (h : Hold Q → InR 9 0 (.q 0 (.q 1 (.q 2 (.q 3 (.q 4 (.q 5 (.q 9 (.q 10 (.q 11 (.q 13 (.e 6 (.q 7 (.q 8 (.q 12 (.q 14 (.q 15 (.q 16 (.q 17 .nil)))))))))))))))))) P := by exact aRC0) : P := h ⟨k⟩
def sgOf (S : List (Int × Sg)) (id : Int) : Sg := (getA S id).getD zSg
def hitB (S : List (Int × Sg)) (s : Sg) (p : Pc) : Bool :=
 !p.g && (!(p.t.hl && !lessB p.t.l s.b) && (!(p.t.hr && !lessB s.a p.t.r) && (!((p.t.bot != 0) && decide (sideZ (sgOf S p.t.bot) s < 0)) && !((p.t.top != 0) && decide (sideZ (sgOf S p.t.top) s > 0)))))
def hitAt (P : List Pc) (S : List (Int × Sg)) (s : Sg) (i : Nat) : Bool := match P[i]? with | some p => hitB S s p | none => false
def crossL (P : List Pc) (S : List (Int × Sg)) (s : Sg) (j : Nat) : List Nat := (List.range j).filter (hitAt P S s)
theorem crossL_step {P : List Pc} {S : List (Int × Sg)} {s : Sg} {j : Nat} {p : Pc} (h : P[j]? = some p) : crossL P S s (j + 1) = if hitB S s p = true then crossL P S s j ++ [j] else crossL P S s j := by
 have e : hitAt P S s j = hitB S s p := by unfold hitAt; rw [h]
 unfold crossL
 rw [List.range_succ, List.filter_append]
 cases hb : hitB S s p <;> simp [e, hb]
theorem crossL_lt {P : List Pc} {S : List (Int × Sg)} {s : Sg} {j i : Nat} (h : i ∈ crossL P S s j) : i < j := by
 have := (List.mem_filter.1 h).1
 simpa using this
theorem crossL_len (P : List Pc) (S : List (Int × Sg)) (s : Sg) (j : Nat) : (crossL P S s j).length ≤ j := by
 have := List.length_filter_le (hitAt P S s) (List.range j)
 rwa [List.length_range] at this
theorem nR1_app (l m : List Nat) : nR1 (l ++ m) = nR1 l ++ nR1 m := by simp [nR1]
def CrossP (P : List Pc) (S : List (Int × Sg)) (s : Sg) (all : List Nat) : Prop := all.Perm (crossL P S s P.length) ∧ SortC P all
theorem p_grow {P : List Pc} {j n b c : Nat} {p : Pc} (h : P[j]? = some p) : (Res.grow 80 10 (.slice (some ⟨b, 0, none⟩) n c) n (pR P)).at b (j * 10) (pc10 p) := at_grow (flatN_at (f := pc10) (k := 10) (fun _ => rfl) P j _ h)
section
variable {Pg : Program} {o : Oper} {a : Act} {w w0 : World} {B : Nat} {l : List Res} {Q : Exit → Act → World → Prop} {ty : TypeId} {x y : Operand} {b : Nat} {t0 t1 t2 t3 t4 t5 t6 t7 t8 t9 : Value}
theorem q_loadPl {lf : List Res} {K : Act → Prop} (ho : o.op = .load ty x) (hx : a.eval x = .pointer (some ⟨b, 4, none⟩)) (hm : Res.cells b [t0, t1, t2, t3, t4, t5, t6, t7, t8, t9] ∈ lf)
  (ha : ∀ w, (isAgg ty).run Pg w = .ok true w) (hs : ∀ w, (sizeOf ty).run Pg w = .ok 2 w) (hk : K (a.put o.dst (.agg #[t4, t5]))) : o.quiet Pg a (Keeps B w0 lf) K := q_loadN (r := .cells b [t0, t1, t2, t3, t4, t5, t6, t7, t8, t9]) (cs := [t4, t5]) ho hx ⟨rfl, rfl⟩ hm ha hs hk
theorem o_loadPl {K : Act → World → Prop} (ho : o.op = .load ty x) (hx : a.eval x = .pointer (some ⟨b, 4, none⟩)) (H : Own B w0 w l) (hm : Res.cells b [t0, t1, t2, t3, t4, t5, t6, t7, t8, t9] ∈ l)
  (ha : ∀ w, (isAgg ty).run Pg w = .ok true w) (hs : ∀ w, (sizeOf ty).run Pg w = .ok 2 w) (hk : K (a.put o.dst (.agg #[t4, t5])) w) : o.wp Pg a w K Q := o_loadN (r := .cells b [t0, t1, t2, t3, t4, t5, t6, t7, t8, t9]) (cs := [t4, t5]) ho hx H ⟨rfl, rfl⟩ hm ha hs hk
theorem o_loadPr {K : Act → World → Prop} (ho : o.op = .load ty x) (hx : a.eval x = .pointer (some ⟨b, 6, none⟩)) (H : Own B w0 w l) (hm : Res.cells b [t0, t1, t2, t3, t4, t5, t6, t7, t8, t9] ∈ l)
  (ha : ∀ w, (isAgg ty).run Pg w = .ok true w) (hs : ∀ w, (sizeOf ty).run Pg w = .ok 2 w) (hk : K (a.put o.dst (.agg #[t6, t7])) w) : o.wp Pg a w K Q := o_loadN (r := .cells b [t0, t1, t2, t3, t4, t5, t6, t7, t8, t9]) (cs := [t6, t7]) ho hx H ⟨rfl, rfl⟩ hm ha hs hk
end
set_option maxRecDepth 100000 in
set_option maxHeartbeats 16000000 in
theorem tcrossed_any {B : Nat} {w0 w : World} {l : List Res} {bx bp ks ke n m cn cp : Nat} {An : Option Addr} {N : List Nd} {P : List Pc} {S : List (Int × Sg)} (s : Sg) (hm : m = P.length) (hmp : 0 < m) (hml : m ≤ 1000000)
  (H : Own B w0 w (.cells bx [.slice An n cn, .slice (some ⟨bp, 0, none⟩) m cp, .map (some ks), .map (some ke)] :: .grow 75 6 (.slice An n cn) n (nR N) :: .grow 80 10 (.slice (some ⟨bp, 0, none⟩) m cp) m (pR P) :: mSeg ks S :: l)) :
  Calls Tryz.prog 40 #[.pointer (some ⟨bx, 0, none⟩), sgV s] w fun e w' => ∃ A k c all, e = .returned (.slice A k c) ∧ CrossP P S s all ∧ k = all.length ∧
   Own B w0 w' (.grow 3 1 (.slice A k c) k (nR1 all) :: .cells bx [.slice An n cn, .slice (some ⟨bp, 0, none⟩) m cp, .map (some ks), .map (some ke)] :: .grow 75 6 (.slice An n cn) n (nR N) :: .grow 80 10 (.slice (some ⟨bp, 0, none⟩) m cp) m (pR P) :: mSeg ks S :: l) := by
 obtain ⟨⟨ax, ay⟩, ⟨bx', by'⟩⟩ := s
 simp only [sgV]
 have HM := Lib.hid hm
 clear hm
 go_enter Tryz.func40, Tryz.ntmps40
 have tk0 : True := trivial
 have tk1 : True := trivial
 go_wp2_with (guard_target = wpList _ _ _ (_ :: _) _ _; (first | (refine a15dc6b3 ?_) | (refine a9475ade ?_; intro b2; clear H; (try clear w2); intro w2 H; (first | (clear tk0; rename Nat => b1) | (clear tk1; rename Nat => b2)))))
 have H := H.grow_nil 3 1
 go_loopg [13, 5] m (fun k i v wr => k ≤ m ∧ i = .int .i64 ((m - k : Nat) : Int) ∧ ∃ q, q = (crossL P S ⟨⟨ax, ay⟩, ⟨bx', by'⟩⟩ (m - k)).length ∧ Own B w0 wr (.grow 3 1 v q (nR1 (crossL P S ⟨⟨ax, ay⟩, ⟨bx', by'⟩⟩ (m - k))) :: .cells b2 [.int .i64 ax, .int .i64 ay, .int .i64 bx', .int .i64 by'] :: .cells b1 [.pointer (some ⟨bx, 0, none⟩)] :: .cells bx [.slice An n cn, .slice (some ⟨bp, 0, none⟩) m cp, .map (some ks), .map (some ke)] :: .grow 75 6 (.slice An n cn) n (nR N) :: .grow 80 10 (.slice (some ⟨bp, 0, none⟩) m cp) m (pR P) :: mSeg ks S :: l))
 case atStart => exact ⟨Nat.le_refl _, by simp, 0, by rw [Nat.sub_self]; rfl, by rw [Nat.sub_self]; exact H⟩
 case round =>
  clear H
  obtain ⟨hk, rfl, q, hq, H⟩ := hrel
  by_cases hlt : 0 < gk
  ·obtain ⟨j, hj⟩ : ∃ j, m - gk = j := ⟨_, rfl⟩
   have hjl : j < m := by omega
   rw [hj] at H hq ⊢
   obtain ⟨p, he⟩ : ∃ p, P[j]? = some p := ⟨_, List.getElem?_eq_getElem (by have := HM.out; omega)⟩
   obtain ⟨⟨tp, bt, hl, hr, ⟨lx, ly⟩, ⟨rx, ry⟩⟩, nd, gn⟩ := p
   have hp := p_grow (n := m) (b := bp) (c := cp) he
   simp only [pc10] at hp
   have hst := crossL_step (S := S) (s := ⟨⟨ax, ay⟩, ⟨bx', by'⟩⟩) he
   have hql : q ≤ j := by rw [hq]; exact crossL_len _ _ _ _
   generalize crossL P S ⟨⟨ax, ay⟩, ⟨bx', by'⟩⟩ j = D at H hq hst
   have HST := Lib.hid hst
   have HJ := Lib.hid hj
   have HQ := Lib.hid hq
   clear he hst hj hq
   cases gn
   ·obtain ⟨v1, hv1⟩ : ∃ v, lessB ⟨lx, ly⟩ ⟨bx', by'⟩ = v := ⟨_, rfl⟩
    have h1 := fun w => geomLess_any lx ly bx' by' w
    rw [hv1] at h1
    obtain ⟨v2, hv2⟩ : ∃ v, lessB ⟨ax, ay⟩ ⟨rx, ry⟩ = v := ⟨_, rfl⟩
    have h2 := fun w => geomLess_any ax ay rx ry w
    rw [hv2] at h2
    have h3 := fun w => side_any (sgOf S bt) ⟨⟨ax, ay⟩, ⟨bx', by'⟩⟩ w
    have h4 := fun w => side_any (sgOf S tp) ⟨⟨ax, ay⟩, ⟨bx', by'⟩⟩ w
    obtain ⟨s1, hs1⟩ : ∃ s, sgOf S bt = s := ⟨_, rfl⟩
    obtain ⟨s2, hs2⟩ : ∃ s, sgOf S tp = s := ⟨_, rfl⟩
    have hb : hitB S ⟨⟨ax, ay⟩, ⟨bx', by'⟩⟩ ⟨⟨tp, bt, hl, hr, ⟨lx, ly⟩, ⟨rx, ry⟩⟩, nd, false⟩ = (!(hl && !v1) && (!(hr && !v2) && (!((bt != 0) && decide (sideZ s1 ⟨⟨ax, ay⟩, ⟨bx', by'⟩⟩ < 0)) && !((tp != 0) && decide (0 < sideZ s2 ⟨⟨ax, ay⟩, ⟨bx', by'⟩⟩))))) := by
     unfold hitB; simp only [hv1, hv2, hs1, hs2]; rfl
    rw [hs1] at h3
    rw [hs2] at h4
    have g1 : (getA S bt).getD zSg = s1 := hs1
    have g2 : (getA S tp).getD zSg = s2 := hs2
    have HB := Lib.hid hb
    clear hb hv1 hv2 hs1 hs2
    have tk0 : True := trivial
    go_upto_region 6 with (guard_target = wpList _ _ _ (_ :: _) _ _; (first | (refine a15dc6b3 ?_) | (refine a181aa22 ?_; clear H; (try clear w2); intro w2 H) | (refine a9475ade ?_; intro b2; clear H; (try clear w2); intro w2 H; (clear tk0; rename Nat => b4))))
    go_cut [18] (fun v wx => v = .bool (hl && !v1) ∧ Own B w0 wx (.cells b4 [.int .i64 tp, .int .i64 bt, .bool hl, .bool hr, .int .i64 lx, .int .i64 ly, .int .i64 rx, .int .i64 ry, .int .i64 nd, .bool false] :: .grow 3 1 u5 q (nR1 D) :: .cells b2 [.int .i64 ax, .int .i64 ay, .int .i64 bx', .int .i64 by'] :: .cells b1 [.pointer (some ⟨bx, 0, none⟩)] :: .cells bx [.slice An n cn, .slice (some ⟨bp, 0, none⟩) m cp, .map (some ks), .map (some ke)] :: .grow 75 6 (.slice An n cn) n (nR N) :: .grow 80 10 (.slice (some ⟨bp, 0, none⟩) m cp) m (pR P) :: mSeg ks S :: l))
    case first =>
     cases hl
     ·go_wp2_with (first
       | go_big_skip
       | (guard_target = wpList _ _ _ (_ :: _) _ _; (refine trap3g2 ?_)))
      go_meet
      case rel => exact ⟨rfl, H⟩
     ·go_wp2_with (first
       | (go_at_call 25; (with_reducible refine (h1 _).mono ?_); rintro e w3 ⟨rfl, hb⟩; replace H := H.ext hb; clear hb; dsimp only)
       | (guard_target = wpList _ _ _ (_ :: _) _ _; (refine trap3g2 ?_)))
      go_meet
      case rel => exact ⟨rfl, H⟩
    case rest =>
     clear H
     obtain ⟨rfl, H⟩ := hcut
     obtain ⟨c1, hc1⟩ : ∃ v, (hl && !v1) = v := ⟨_, rfl⟩
     rw [hc1]
     have HC1 := Lib.hid hc1
     clear hc1
     cases c1
     ·go_upto_region 7 with (first | fail)
      go_cut [18] (fun v wx => v = .bool (hr && !v2) ∧ Own B w0 wx (.cells b4 [.int .i64 tp, .int .i64 bt, .bool hl, .bool hr, .int .i64 lx, .int .i64 ly, .int .i64 rx, .int .i64 ry, .int .i64 nd, .bool false] :: .grow 3 1 u5 q (nR1 D) :: .cells b2 [.int .i64 ax, .int .i64 ay, .int .i64 bx', .int .i64 by'] :: .cells b1 [.pointer (some ⟨bx, 0, none⟩)] :: .cells bx [.slice An n cn, .slice (some ⟨bp, 0, none⟩) m cp, .map (some ks), .map (some ke)] :: .grow 75 6 (.slice An n cn) n (nR N) :: .grow 80 10 (.slice (some ⟨bp, 0, none⟩) m cp) m (pR P) :: mSeg ks S :: l))
      case first =>
       cases hr
       ·go_wp2_with (first
         | go_big_skip
         | (guard_target = wpList _ _ _ (_ :: _) _ _; (refine trap3g2 ?_)))
        go_meet
        case rel => exact ⟨rfl, H⟩
       ·go_wp2_with (first
         | (go_at_call 25; (with_reducible refine (h2 _).mono ?_); rintro e w3 ⟨rfl, hb⟩; replace H := H.ext hb; clear hb; dsimp only)
         | (guard_target = wpList _ _ _ (_ :: _) _ _; (refine trap3g2 ?_)))
        go_meet
        case rel => exact ⟨rfl, H⟩
      case rest =>
       clear H
       obtain ⟨rfl, H⟩ := hcut
       obtain ⟨c2, hc2⟩ : ∃ v, (hr && !v2) = v := ⟨_, rfl⟩
       rw [hc2]
       have HC2 := Lib.hid hc2
       clear hc2
       cases c2
       ·go_upto_region 8 with (first | fail)
        go_cut [45] (fun v wx => v = .bool ((bt != 0) && decide (sideZ s1 ⟨⟨ax, ay⟩, ⟨bx', by'⟩⟩ < 0)) ∧ Own B w0 wx (.cells b4 [.int .i64 tp, .int .i64 bt, .bool hl, .bool hr, .int .i64 lx, .int .i64 ly, .int .i64 rx, .int .i64 ry, .int .i64 nd, .bool false] :: .grow 3 1 u5 q (nR1 D) :: .cells b2 [.int .i64 ax, .int .i64 ay, .int .i64 bx', .int .i64 by'] :: .cells b1 [.pointer (some ⟨bx, 0, none⟩)] :: .cells bx [.slice An n cn, .slice (some ⟨bp, 0, none⟩) m cp, .map (some ks), .map (some ke)] :: .grow 75 6 (.slice An n cn) n (nR N) :: .grow 80 10 (.slice (some ⟨bp, 0, none⟩) m cp) m (pR P) :: mSeg ks S :: l))
        case first =>
         obtain ⟨vz, hvz⟩ : ∃ v, (bt != 0) = v := ⟨_, rfl⟩
         cases vz
         ·go_wp2_with (first
           | (guard_target = Code.wp _ (Code.region 8 _ true) _ _ _; refine trap3r1 ?_; clear H; (try clear w2); intro w2 H)
           | ((guard_target = wpTreeC _ _ _ _ _ _ _); (first | (refine trap3g6 ?_) | (refine trap3g11 ?_; clear H; (try clear w2); intro w2 H) | (guard_target = wpTreeC _ _ _ Tr.nil _ _ _; refine treeC_nil H ?_; clear H; (try clear w2); intro w2 H))))
          go_meet
          case rel => exact ⟨by rw [hvz]; rfl, H⟩
         ·go_wp2_with (first
           | (guard_target = Code.wp _ (Code.region 8 _ true) _ _ _; refine trap3r1 ?_; clear H; (try clear w2); intro w2 H)
           | ((guard_target = wpTreeC _ _ _ _ _ _ _); (first | (refine trap3g6 ?_) | (guard_target = wpTreeC _ _ _ (Tr.q _ _) _ _ _; (with_reducible refine treeC_call (v := ?_) (o := ?_) (aK H) ?_ ?_ (fun w3 H K hK => ?_) ?_); rotate_left 2; exact rfl; exact rfl; (focus (simp only [List.getElem_toArray, List.getElem_cons_succ, List.getElem_cons_zero]; (go_big_op; (go_at_call 57; (with_reducible refine (h3 _).mono ?_); rintro e w3 ⟨rfl, hb⟩; dsimp only; exact aE)))); refine a75ac28e ?_) | (guard_target = wpTreeC _ _ _ Tr.nil _ _ _; refine treeC_nil H ?_; clear H; (try clear w2); intro w2 H) | (refine a9d8d0a4 ?_; clear H; (try clear w2); intro w2 H))))
          go_meet
          case rel => exact ⟨by rw [hvz]; rfl, H⟩
        case rest =>
         clear H
         obtain ⟨rfl, H⟩ := hcut
         obtain ⟨c3, hc3⟩ : ∃ v, ((bt != 0) && decide (sideZ s1 ⟨⟨ax, ay⟩, ⟨bx', by'⟩⟩ < 0)) = v := ⟨_, rfl⟩
         rw [hc3]
         have HC3 := Lib.hid hc3
         clear hc3
         cases c3
         ·go_upto_region 9 with (first | fail)
          go_cut [45] (fun v wx => v = .bool ((tp != 0) && decide (0 < sideZ s2 ⟨⟨ax, ay⟩, ⟨bx', by'⟩⟩)) ∧ Own B w0 wx (.cells b4 [.int .i64 tp, .int .i64 bt, .bool hl, .bool hr, .int .i64 lx, .int .i64 ly, .int .i64 rx, .int .i64 ry, .int .i64 nd, .bool false] :: .grow 3 1 u5 q (nR1 D) :: .cells b2 [.int .i64 ax, .int .i64 ay, .int .i64 bx', .int .i64 by'] :: .cells b1 [.pointer (some ⟨bx, 0, none⟩)] :: .cells bx [.slice An n cn, .slice (some ⟨bp, 0, none⟩) m cp, .map (some ks), .map (some ke)] :: .grow 75 6 (.slice An n cn) n (nR N) :: .grow 80 10 (.slice (some ⟨bp, 0, none⟩) m cp) m (pR P) :: mSeg ks S :: l))
          case first =>
           obtain ⟨vz, hvz⟩ : ∃ v, (tp != 0) = v := ⟨_, rfl⟩
           cases vz
           ·go_wp2_with (first
             | (guard_target = Code.wp _ (Code.region 9 _ true) _ _ _; refine trap3r2 ?_; clear H; (try clear w2); intro w2 H)
             | ((guard_target = wpTreeC _ _ _ _ _ _ _); (first | (refine trap3g6 ?_) | (refine trap3g11 ?_; clear H; (try clear w2); intro w2 H) | (guard_target = wpTreeC _ _ _ Tr.nil _ _ _; refine treeC_nil H ?_; clear H; (try clear w2); intro w2 H))))
            go_meet
            case rel => exact ⟨by rw [hvz]; rfl, H⟩
           ·go_wp2_with (first
             | (guard_target = Code.wp _ (Code.region 9 _ true) _ _ _; refine trap3r2 ?_; clear H; (try clear w2); intro w2 H)
             | ((guard_target = wpTreeC _ _ _ _ _ _ _); (first | (refine trap3g6 ?_) | (guard_target = wpTreeC _ _ _ (Tr.q _ _) _ _ _; (with_reducible refine treeC_call (v := ?_) (o := ?_) (aK H) ?_ ?_ (fun w3 H K hK => ?_) ?_); rotate_left 2; exact rfl; exact rfl; (focus (simp only [List.getElem_toArray, List.getElem_cons_succ, List.getElem_cons_zero]; (go_big_op; (go_at_call 57; (with_reducible refine (h4 _).mono ?_); rintro e w3 ⟨rfl, hb⟩; dsimp only; exact aE)))); refine a75ac28e ?_) | (guard_target = wpTreeC _ _ _ Tr.nil _ _ _; refine treeC_nil H ?_; clear H; (try clear w2); intro w2 H) | (refine a9d8d0a4 ?_; clear H; (try clear w2); intro w2 H))))
            go_meet
            case rel => exact ⟨by rw [hvz]; rfl, H⟩
          case rest =>
           clear H
           obtain ⟨rfl, H⟩ := hcut
           obtain ⟨c4, hc4⟩ : ∃ v, ((tp != 0) && decide (0 < sideZ s2 ⟨⟨ax, ay⟩, ⟨bx', by'⟩⟩)) = v := ⟨_, rfl⟩
           rw [hc4]
           have HC4 := Lib.hid hc4
           clear hc4
           cases c4
           ·go_wp2_with (guard_target = wpList _ _ _ (_ :: _) _ _; (first | (refine trap3x14 ?_; intro A7 c7; clear H; (try clear w2); intro w2 H) | (refine a9475ade ?_; intro b2; clear H; (try clear w2); intro w2 H)))
            go_roundg (gk - 1)
            case rel =>
             refine ⟨by omega, by have := HJ.out; congr 1; omega, q + 1, ?_, ?_⟩
             ·rw [show m - (gk - 1) = j + 1 by have := HJ.out; omega, HST.out, if_pos (by rw [HB.out, HC1.out, HC2.out, HC3.out, HC4.out]; rfl), HQ.out]; simp
             ·rw [show m - (gk - 1) = j + 1 by have := HJ.out; omega, HST.out, if_pos (by rw [HB.out, HC1.out, HC2.out, HC3.out, HC4.out]; rfl), nR1_app]
              exact H.tail.tail
            case measure => omega
           ·go_wp2_with (first | fail)
            go_roundg (gk - 1)
            case rel =>
             refine ⟨by omega, by have := HJ.out; congr 1; omega, q, ?_, ?_⟩
             ·rw [show m - (gk - 1) = j + 1 by have := HJ.out; omega, HST.out, if_neg (by rw [HB.out]; rw [HC4.out]; simp)]; exact HQ.out
             ·rw [show m - (gk - 1) = j + 1 by have := HJ.out; omega, HST.out, if_neg (by rw [HB.out]; rw [HC4.out]; simp)]; exact H.tail
            case measure => omega
         ·go_wp2_with (first | fail)
          go_roundg (gk - 1)
          case rel =>
           refine ⟨by omega, by have := HJ.out; congr 1; omega, q, ?_, ?_⟩
           ·rw [show m - (gk - 1) = j + 1 by have := HJ.out; omega, HST.out, if_neg (by rw [HB.out]; rw [HC3.out]; simp)]; exact HQ.out
           ·rw [show m - (gk - 1) = j + 1 by have := HJ.out; omega, HST.out, if_neg (by rw [HB.out]; rw [HC3.out]; simp)]; exact H.tail
          case measure => omega
       ·go_wp2_with (first | fail)
        go_roundg (gk - 1)
        case rel =>
         refine ⟨by omega, by have := HJ.out; congr 1; omega, q, ?_, ?_⟩
         ·rw [show m - (gk - 1) = j + 1 by have := HJ.out; omega, HST.out, if_neg (by rw [HB.out]; rw [HC2.out]; simp)]; exact HQ.out
         ·rw [show m - (gk - 1) = j + 1 by have := HJ.out; omega, HST.out, if_neg (by rw [HB.out]; rw [HC2.out]; simp)]; exact H.tail
        case measure => omega
     ·go_wp2_with (first | fail)
      go_roundg (gk - 1)
      case rel =>
       refine ⟨by omega, by have := HJ.out; congr 1; omega, q, ?_, ?_⟩
       ·rw [show m - (gk - 1) = j + 1 by have := HJ.out; omega, HST.out, if_neg (by rw [HB.out]; rw [HC1.out]; simp)]; exact HQ.out
       ·rw [show m - (gk - 1) = j + 1 by have := HJ.out; omega, HST.out, if_neg (by rw [HB.out]; rw [HC1.out]; simp)]; exact H.tail
      case measure => omega
   ·have tk0 : True := trivial
    go_wp2_with (guard_target = wpList _ _ _ (_ :: _) _ _; (first | (refine a15dc6b3 ?_) | (refine a181aa22 ?_; clear H; (try clear w2); intro w2 H) | (refine a9475ade ?_; intro b2; clear H; (try clear w2); intro w2 H; (clear tk0; rename Nat => b4))))
    go_roundg (gk - 1)
    case rel =>
     refine ⟨by omega, by have := HJ.out; congr 1; omega, q, ?_, ?_⟩
     ·rw [show m - (gk - 1) = j + 1 by have := HJ.out; omega, HST.out]; exact HQ.out
     ·rw [show m - (gk - 1) = j + 1 by have := HJ.out; omega, HST.out]; exact H.tail
    case measure => omega
  ·obtain rfl : gk = 0 := by omega
   rw [Nat.sub_zero] at H hq
   have hall : ∀ i ∈ crossL P S ⟨⟨ax, ay⟩, ⟨bx', by'⟩⟩ m, i < P.length := fun i hi => by have := crossL_lt hi; have := HM.out; omega
   have hql : q ≤ m := by rw [hq]; exact crossL_len _ _ _ _
   have HQ := Lib.hid hq
   have HALL := Lib.hid hall
   clear hall hq
   generalize hD : crossL P S ⟨⟨ax, ay⟩, ⟨bx', by'⟩⟩ m = D at H HQ HALL
   have HD := Lib.hid hD
   clear hD
   go_wp2_with (go_at_call 58; (with_reducible refine (sortC_any HALL.out HM.out HQ.out (by omega) m1 m2 m4 H).mono ?_); rintro e w3 ⟨rfl, all, hperm, hsort, H2⟩; replace H := H2; clear H2; dsimp only)
   obtain ⟨A7, c7, rfl⟩ := H.growForm m0
   go_ret
   exact ⟨A7, q, c7, all, rfl, ⟨by rw [← HM.out, HD.out]; exact hperm, hsort⟩, by rw [HQ.out]; exact hperm.length_eq.symm, H.sub (.cons_cons _ (.cons _ (.cons _ (List.Sublist.refl _))))⟩
theorem trap4x3 {P Q : Prop} (k : Q) (h : Hold Q → P := by (intro kk; guard_target = wpTreeC _ _ _ (Tr.e _ _) _ _ _; (with_reducible refine treeC_one (o := ?_) H ?_ ?_ (fun w3 H2 K hK => ?_)); rotate_left 1; exact rfl; exact rfl; simp only [List.getElem_toArray, List.getElem_cons_succ, List.getElem_cons_zero]; guard_target = Oper.wp _ (Oper.mk _ (.call { callee := .builtin .append, args := _, argTypes := _ }) _ _ _ _) _ _ _ _; refine o_append (row := ?_) (n := ?_) (xs := ?_) (l' := ?_) infoNd rfl rfl rfl H2 ?_ rfl ?_ ?_ (by kernel_rfl) rfl (by decide) ?_ ?_ ?_ (fun v2 w4 H3 hn => hK _ _ (aM H3 ?_) ?_); rotate_left 4; (repeat first | exact .head _ | apply List.Mem.tail); (focus (simp; done)); (focus (intro _; (exact r1))); exact rfl; exact (by unfold maxLen; omega); exact (by omega); (guard_target = Suf _ _; repeat first | exact .here | apply Suf.there); clear hK K hn; simp only [List.take_succ_cons, List.take_zero, Nat.one_mul] at H3; (obtain ⟨A9, c9, rfl⟩ := H3.growForm (v := v2) (by repeat first | exact .head _ | apply List.Mem.tail)); simp only [Act.put, List.setIfInBounds_toArray, List.set_cons_succ, List.set_cons_zero]; revert H3; revert w4; revert c9; revert A9; exact kk.out)) : P := h ⟨k⟩
theorem trap4g4 {P Q : Prop} (k : Q) (h : Hold Q → P := by (intro kk; (guard_target = wpTreeC _ _ _ (Tr.e _ _) _ _ _; exact trap4x3 kk.out))) : P := h ⟨k⟩
theorem trap4x7 {P Q : Prop} (k : Q) (h : Hold Q → P := by (intro kk; guard_target = wpTreeC _ _ _ (Tr.e _ _) _ _ _; (with_reducible refine treeC_one (o := ?_) H ?_ ?_ (fun w3 H2 K hK => ?_)); rotate_left 1; exact rfl; exact rfl; simp only [List.getElem_toArray, List.getElem_cons_succ, List.getElem_cons_zero]; guard_target = Oper.wp _ (Oper.mk _ (.call { callee := .builtin .append, args := _, argTypes := _ }) _ _ _ _) _ _ _ _; refine o_append (row := ?_) (n := ?_) (xs := ?_) (l' := ?_) infoPc rfl rfl rfl H2 ?_ rfl ?_ ?_ (by kernel_rfl) rfl (by decide) ?_ ?_ ?_ (fun v2 w4 H3 hn => hK _ _ (aM H3 ?_) ?_); rotate_left 4; (repeat first | exact .head _ | apply List.Mem.tail); (focus (simp; done)); (focus (intro _; (exact r1))); exact rfl; exact (by unfold maxLen; omega); exact (by omega); (guard_target = Suf _ _; repeat first | exact .here | apply Suf.there); clear hK K hn; simp only [List.take_succ_cons, List.take_zero, Nat.one_mul] at H3; (obtain ⟨A9, c9, rfl⟩ := H3.growForm (v := v2) (by repeat first | exact .head _ | apply List.Mem.tail)); simp only [Act.put, List.setIfInBounds_toArray, List.set_cons_succ, List.set_cons_zero]; revert H3; revert w4; revert c9; revert A9; exact kk.out)) : P := h ⟨k⟩
theorem trap4g8 {P Q : Prop} (k : Q) (h : Hold Q → P := by (intro kk; (guard_target = wpTreeC _ _ _ (Tr.e _ _) _ _ _; exact trap4x7 kk.out))) : P := h ⟨k⟩
theorem trap4x14 {P Q : Prop} (k : Q) (h : Hold Q → P := by (intro kk; guard_target = wpList _ _ _ (Oper.mk _ (.makeMap _ _) _ _ _ _ :: _) _ _; (with_reducible refine BigFrame.wpList_want ?_ (fun K hK => ?_)); exact rfl; refine o_segMake rfl H (fun w3 b2 he H2 => hK _ _ ?_); clear hK K he; simp only [Act.put, List.setIfInBounds_toArray, List.set_cons_succ, List.set_cons_zero]; revert H2; revert w3; revert b2; exact kk.out)) : P := h ⟨k⟩
theorem trap4g19 {P Q : Prop} (k : Q) (h : Hold Q → P := by (intro kk; (guard_target = wpList _ _ _ (Oper.mk _ (.store _ _ _) _ _ _ _ :: _) _ _; exact a181aa22 kk.out))) : P := h ⟨k⟩
theorem trap4x20 {P Q : Prop} (k : Q) (h : Hold Q → P := by (intro kk; guard_target = wpList _ _ _ (Oper.mk _ (.makeMap _ _) _ _ _ _ :: _) _ _; (with_reducible refine BigFrame.wpList_want ?_ (fun K hK => ?_)); exact rfl; refine o_endMake rfl H (fun w3 b2 he H2 => hK _ _ ?_); clear hK K he; simp only [Act.put, List.setIfInBounds_toArray, List.set_cons_succ, List.set_cons_zero]; revert H2; revert w3; revert b2; exact kk.out)) : P := h ⟨k⟩
theorem trap4g21 {P Q : Prop} (k : Q) (h : Hold Q → P := by (intro kk; (first | (exact a9475ade kk.out) | (guard_target = wpList _ _ _ (Oper.mk _ (.makeMap _ _) _ _ _ _ :: _) _ _; exact trap4x14 kk.out) | (guard_target = wpList _ _ _ (Oper.mk _ (.makeMap _ _) _ _ _ _ :: _) _ _; exact trap4x20 kk.out)))) : P := h ⟨k⟩
theorem trap4r1 {P Q : Prop} (k : Q) (h : Hold Q → InR 2 1 (.q 0 (.q 1 (.q 2 (.q 3 (.q 4 (.q 5 (.q 6 (.q 7 (.q 8 (.q 9 (.q 10 (.e 11 (.e 12 (.q 13 (.q 14 (.e 15 .nil)))))))))))))))) P := by exact aRC) : P := h ⟨k⟩
theorem trap4r2 {P Q : Prop} (k : Q) (h : Hold Q → InR 3 1 (.q 0 (.q 1 (.q 2 (.q 3 (.q 4 (.q 5 (.q 6 (.q 7 (.e 8 (.e 9 (.q 10 (.q 11 (.e 12 .nil))))))))))))) P := by exact aRC) : P := h ⟨k⟩
theorem trap4r3 {P Q : Prop} (k : Q) (h : Hold Q → InR 1 1 (.q 0 (.q 1 (.q 2 (.q 3 (.q 4 (.q 5 (.e 6 (.e 7 (.q 8 (.q 9 (.e 10 .nil))))))))))) P := by exact aRC) : P := h ⟨k⟩
theorem nR_one (q : Nd) : nR [q] = [.int .i64 q.k, .int .i64 q.id, .int .i64 q.p.x, .int .i64 q.p.y, .int .i64 q.a, .int .i64 q.b] := rfl
theorem pR_one (p : Pc) : pR [p] = [.int .i64 p.t.top, .int .i64 p.t.bot, .bool p.t.hl, .bool p.t.hr, .int .i64 p.t.l.x, .int .i64 p.t.l.y, .int .i64 p.t.r.x, .int .i64 p.t.r.y, .int .i64 p.n, .bool p.g] := rfl
abbrev xB (bx ks ke n m cn cp dn dp : Nat) : Res := .cells bx [.slice (some ⟨dn, 0, none⟩) n cn, .slice (some ⟨dp, 0, none⟩) m cp, .map (some ks), .map (some ke)]
abbrev nG (dn n cn : Nat) (N : List Nd) : Res := .grow 75 6 (.slice (some ⟨dn, 0, none⟩) n cn) n (nR N)
abbrev pG (dp m cp : Nat) (P : List Pc) : Res := .grow 80 10 (.slice (some ⟨dp, 0, none⟩) m cp) m (pR P)
set_option maxRecDepth 100000 in
set_option maxHeartbeats 8000000 in
theorem leafOf_any {B : Nat} {w0 w : World} {l : List Res} {bx ks ke n m cn cp dn dp : Nat} {N : List Nd} {P : List Pc} (t : Tz) (hnl : n ≤ 1000000) (hml : m ≤ 1000000)
  (H : Own B w0 w (xB bx ks ke n m cn cp dn dp :: nG dn n cn N :: pG dp m cp P :: l)) :
  Calls Tryz.prog 41 #[.pointer (some ⟨bx, 0, none⟩), tzV t] w fun e w' => ∃ dn' dp' cn' cp', e = .returned (.int .i64 (n : Int)) ∧
   Own B w0 w' (xB bx ks ke (n + 1) (m + 1) cn' cp' dn' dp' :: nG dn' (n + 1) cn' (N ++ [⟨0, (m : Int), ⟨0, 0⟩, 0, 0⟩]) :: pG dp' (m + 1) cp' (P ++ [⟨t, (n : Int), false⟩]) :: l) := by
 obtain ⟨tp, bt, hl, hr, ⟨lx, ly⟩, ⟨rx, ry⟩⟩ := t
 simp only [tzV, xB, nG, pG, nR_app, pR_app, nR_one, pR_one] at H ⊢
 generalize nR N = LN at *
 generalize pR P = LP at *
 go_enter Tryz.func41, Tryz.ntmps41
 have tk0 : True := trivial
 go_wp2_with (first
  | (guard_target = Code.wp _ (Code.region 2 _ true) _ _ _; replace H:Own _ _ _ (Res.grow 75 _ _ _ _ :: _) := aF; refine trap4r1 ?_; clear H; (try clear w2); intro w2 H)
  | (guard_target = Code.wp _ (Code.region 3 _ true) _ _ _; replace H:Own _ _ _ (Res.grow 80 _ _ _ _ :: _) := aF; refine trap4r2 ?_; clear H; (try clear w2); intro w2 H)
  | ((first | guard_target = wpList _ _ _ (_ :: _) _ _ | guard_target = wpTreeC _ _ _ _ _ _ _); (first | (refine trap4g4 ?_; intro A7 c7; clear H; (try clear w2); intro w2 H) | (refine trap4g8 ?_; intro A8 c8; clear H; (try clear w2); intro w2 H) | (refine aaad3d59 ?_) | (refine a09b8db2 ?_; clear H; (try clear w2); intro w2 H) | (refine aeebfb80 ?_; intro b2; clear H; (try clear w2); intro w2 H; (first | (clear tk0; rename Nat => b1) | (skip))) | (guard_target = wpTreeC _ _ _ Tr.nil _ _ _; refine treeC_nil H ?_; clear H; (try clear w2); intro w2 H))))
 go_ret
 obtain ⟨d7, c7', he⟩ := H.growSome (n := n + 1) (v := .slice A7 (n + 1) c7) (e := 75) (size := 6) (by exact m3) (by omega) (by decide)
 injection he with hA h1 h2
 subst hA
 clear h1 h2
 obtain ⟨d8, c8', he⟩ := H.growSome (n := m + 1) (v := .slice A8 (m + 1) c8) (e := 80) (size := 10) (by exact m1) (by omega) (by decide)
 injection he with hA h1 h2
 subst hA
 clear h1 h2
 refine ⟨d7, d8, c7, c8, rfl, ?_⟩
 replace H:Own _ _ _ (Res.grow 80 _ _ _ _ :: _) := aF
 replace H:Own _ _ _ (Res.grow 75 _ _ _ _ :: _) := aF
 replace H:Own _ _ _ (Res.cells bx _ :: _) := aF
 exact (aW H)
set_option maxRecDepth 100000 in
set_option maxHeartbeats 8000000 in
theorem ask_any {B : Nat} {w0 w : World} {l : List Res} {bx ks ke n m cn cp dn dp : Nat} {N : List Nd} (q : Nd) (hnl : n ≤ 1000000)
  (H : Own B w0 w (xB bx ks ke n m cn cp dn dp :: nG dn n cn N :: l)) :
  Calls Tryz.prog 42 #[.pointer (some ⟨bx, 0, none⟩), ndV q] w fun e w' => ∃ dn' cn', e = .returned (.int .i64 (n : Int)) ∧
   Own B w0 w' (xB bx ks ke (n + 1) m cn' cp dn' dp :: nG dn' (n + 1) cn' (N ++ [q]) :: l) := by
 obtain ⟨k0, id0, ⟨px, py⟩, a0, b0⟩ := q
 simp only [ndV, xB, nG, nR_app, nR_one] at H ⊢
 generalize nR N = LN at *
 have e1 : IntKind.i64.wrap ((n : Int) + 1 - 1) = (n : Int) := by rw [show (n : Int) + 1 - 1 = (n : Int) by omega]; exact IntWalk.i64_in _ (by omega)
 have e2 : (n : Int) + 1 - 1 = (n : Int) := by omega
 go_enter Tryz.func42, Tryz.ntmps42
 have tk0 : True := trivial
 go_wp2_with (first
  | (guard_target = Code.wp _ (Code.region 1 _ true) _ _ _; replace H:Own _ _ _ (Res.grow 75 _ _ _ _ :: _) := aF; refine trap4r3 ?_; clear H; (try clear w2); intro w2 H)
  | ((first | guard_target = wpList _ _ _ (_ :: _) _ _ | guard_target = wpTreeC _ _ _ _ _ _ _); (first | (refine trap4g4 ?_; intro A7 c7; clear H; (try clear w2); intro w2 H) | (refine aaad3d59 ?_) | (refine a09b8db2 ?_; clear H; (try clear w2); intro w2 H) | (refine aeebfb80 ?_; intro b2; clear H; (try clear w2); intro w2 H; (first | (clear tk0; rename Nat => b1) | (skip))) | (guard_target = wpTreeC _ _ _ Tr.nil _ _ _; refine treeC_nil H ?_; clear H; (try clear w2); intro w2 H))))
 go_ret
 obtain ⟨d7, c7', he⟩ := H.growSome (n := n + 1) (v := .slice A7 (n + 1) c7) (e := 75) (size := 6) (by exact m1) (by omega) (by decide)
 injection he with hA h1 h2
 subst hA
 clear h1 h2
 refine ⟨d7, c7, ?_, ?_⟩
 ·simp [e1, e2]
 replace H:Own _ _ _ (Res.grow 75 _ _ _ _ :: _) := aF
 replace H:Own _ _ _ (Res.cells bx _ :: _) := aF
 exact (aW H)
theorem o_buildSliceG {Pg : Program} {o : Oper} {a : Act} {w w0 : World} {B : Nat} {l : List Res} {Q : Exit → Act → World → Prop} {K : Act → World → Prop} {t e : TypeId} {n size : Nat} {parts : Array (Nat × Operand)} {ps : Array (Nat × Value)} {C : Array Value} {row : List Value} (ho : o.op = .buildSlice t n parts) (hp : parts.map (fun q => (q.1, a.eval q.2)) = ps)
  (H : Own B w0 w l) (hrun : ∀ w : World, (Instr.buildSlice t n ps).run Pg w = .ok (.slice (some ⟨w.heap.size, 0, none⟩) n n) (w.alloc (.cells C e))) (hrow : C.toList = row) (hsz : row.length = n * size) (hm : n ≤ maxLen)
  (hk : ∀ w' b, Own B w0 w' (.grow e size (.slice (some ⟨b, 0, none⟩) n n) n row :: l) → K (a.put o.dst (.slice (some ⟨b, 0, none⟩) n n)) w') : o.wp Pg a w K Q := by
 unfold Oper.wp execOp
 subst hp hrow
 simp only [ho, Sem.run_bind, hrun w]
 have := H.grow_row (b := 0) (C := C) e size n n hm (Nat.le_refl _) (by simpa using hsz)
 rw [List.take_of_length_le (by omega)] at this
 exact hk _ _ this
def nd0 : Nd := ⟨0, 0, ⟨0, 0⟩, 0, 0⟩
def pc0 : Pc := ⟨⟨0, 0, false, false, ⟨0, 0⟩, ⟨0, 0⟩⟩, 0, false⟩
set_option maxRecDepth 100000 in
set_option maxHeartbeats 8000000 in
theorem fresh_any (w : World) : Calls Tryz.prog 14 #[] w fun e w' => ∃ bx ks ke cn cp dn dp, e = .returned (.pointer (some ⟨bx, 0, none⟩)) ∧
  Own w.heap.size w w' [xB bx ks ke 1 1 cn cp dn dp, nG dn 1 cn [nd0], pG dp 1 cp [pc0], mSeg ks [], mEnd ke []] := by
 have H := Own.start w
 go_enter Tryz.func14, Tryz.ntmps14
 have tk0 : True := trivial
 have tk1 : True := trivial
 have tk2 : True := trivial
 have tk3 : True := trivial
 have tk4 : True := trivial
 go_wp2_with (first
  | (guard_target = wpList _ _ _ (Oper.mk _ (.buildSlice _ _ _) _ _ _ _ :: _) _ _; refine BigFrame.wpList_want rfl (fun K hK => ?_); (first | (refine o_buildSliceG (C := ?_) (e := 75) (size := 6) rfl rfl H ?_ rfl ?_ (by decide) (fun w3 b2 H2 => hK _ _ ?_); rotate_left 1; (focus (intro _; simp [go_sem, Instr.buildSlice]; with_reducible exact rfl)); (focus (exact rfl))) | (refine o_buildSliceG (C := ?_) (e := 80) (size := 10) rfl rfl H ?_ rfl ?_ (by decide) (fun w3 b2 H2 => hK _ _ ?_); rotate_left 1; (focus (intro _; simp [go_sem, Instr.buildSlice]; with_reducible exact rfl)); (focus (exact rfl)))); clear hK K; (clear H; (try clear w2); revert w3; intro w2 H); (try simp only [Array.toList] at H); (first | (clear tk3; rename Nat => b4) | (clear tk4; rename Nat => b5)); simp only [Act.put, List.setIfInBounds_toArray, List.set_cons_succ, List.set_cons_zero])
  | (guard_target = wpList _ _ _ (_ :: _) _ _; (first | (refine trap4g19 ?_; clear H; (try clear w2); intro w2 H) | (refine trap4g21 ?_; intro b2; clear H; (try clear w2); intro w2 H; (first | (clear tk0; rename Nat => k1) | (clear tk1; rename Nat => k2) | (clear tk2; rename Nat => b3))))))
 go_ret
 refine ⟨b3, k1, k2, 1, 1, b4, b5, rfl, ?_⟩
 replace H:Own _ _ _ (mSeg _ _ :: _) := aF
 replace H:Own _ _ _ (Res.grow 80 _ _ _ _ :: _) := aF
 replace H:Own _ _ _ (Res.grow 75 _ _ _ _ :: _) := aF
 replace H:Own _ _ _ (Res.cells b3 _ :: _) := aF
 exact H
def lfN (i : Nat) : Nd := ⟨0, (i : Int), ⟨0, 0⟩, 0, 0⟩
structure PSt where
 N : List Nd
 P : List Pc
 u : Nat
 d : Nat
def idN (N : List Nd) (u : Nat) : Nat := ((N[u]?).getD nd0).id.toNat
def setR (P : List Pc) (i : Nat) (r : Pt) : List Pc := match P[i]? with | some p => P.set i { p with t := { p.t with hr := true, r := r } } | none => P
def setG (P : List Pc) (i : Nat) : List Pc := match P[i]? with | some p => P.set i { p with g := true } | none => P
def upS (c : Bool) (t : Tz) (X : PSt) : PSt := if c then ⟨X.N ++ [lfN X.P.length], X.P ++ [⟨t, (X.N.length : Int), false⟩], X.N.length, X.d⟩ else X
def loS (c : Bool) (t : Tz) (X : PSt) : PSt := if c then ⟨X.N ++ [lfN X.P.length], X.P ++ [⟨t, (X.N.length : Int), false⟩], X.u, X.N.length⟩ else X
def rtS (r : Pt) (n : Nat) (X : PSt) : PSt := ⟨X.N, setG (setR (setR X.P (idN X.N X.u) r) (idN X.N X.d) r) n, X.u, X.d⟩
def endS (c : Bool) (t : Tz) (b : Pt) (X : PSt × Nd) : PSt × Nd :=
 if c then (⟨X.1.N ++ [X.2] ++ [lfN X.1.P.length], X.1.P ++ [⟨t, (X.1.N.length + 1 : Nat), false⟩], X.1.u, X.1.d⟩, ⟨1, 0, b, (X.1.N.length : Int), (X.1.N.length + 1 : Nat)⟩) else X
def begS (c : Bool) (t : Tz) (a : Pt) (X : PSt × Nd) : PSt × Nd :=
 if c then (⟨X.1.N ++ [lfN X.1.P.length] ++ [X.2], X.1.P ++ [⟨t, (X.1.N.length : Int), false⟩], X.1.u, X.1.d⟩, ⟨1, 0, a, (X.1.N.length : Int), (X.1.N.length + 1 : Nat)⟩) else X
def nodeS (i : Nat) (X : PSt × Nd) : PSt := ⟨X.1.N.set i X.2, X.1.P, X.1.u, X.1.d⟩
def roundS (id : Int) (s : Sg) (f la : Bool) (n : Nat) (X : PSt) : PSt :=
 let p := (X.P[n]?).getD pc0
 let t := p.t
 let X1 := upS (f || decide (0 < turnB s.a s.b t.l)) ⟨t.top, id, true, false, if f then s.a else t.l, ⟨0, 0⟩⟩ X
 let X2 := loS (f || decide (turnB s.a s.b t.l < 0)) ⟨id, t.bot, true, false, if f then s.a else t.l, ⟨0, 0⟩⟩ X1
 let X3 := rtS (if la then s.b else t.r) n X2
 let X4 := endS (la && (!t.hr || lessB s.b t.r)) { t with hl := true, l := s.b } s.b (X3, ⟨2, id, ⟨0, 0⟩, (X3.u : Int), (X3.d : Int)⟩)
 let X5 := begS (f && (!t.hl || lessB t.l s.a)) { t with hr := true, r := s.a } s.a X4
 nodeS p.n.toNat X5
def roundsS (id : Int) (s : Sg) (all : List Nat) : Nat → PSt → PSt
 | 0, X => X
 | j + 1, X => roundS id s (decide (j = 0)) (decide (j + 1 = all.length)) ((all[j]?).getD 0) (roundsS id s all j X)
structure Kp (X Y : PSt) : Prop where
 nl : X.N.length ≤ Y.N.length
 pl : X.P.length ≤ Y.P.length
 n : ∀ i, i < X.N.length → Y.N[i]? = X.N[i]?
 p : ∀ i, i < X.P.length → Y.P[i]? = X.P[i]?
theorem Kp.refl (X : PSt) : Kp X X := ⟨Nat.le_refl _, Nat.le_refl _, fun _ _ => rfl, fun _ _ => rfl⟩
theorem Kp.trans {X Y Z : PSt} (h : Kp X Y) (g : Kp Y Z) : Kp X Z := ⟨Nat.le_trans h.nl g.nl, Nat.le_trans h.pl g.pl, fun i hi => (g.n i (Nat.lt_of_lt_of_le hi h.nl)).trans (h.n i hi), fun i hi => (g.p i (Nat.lt_of_lt_of_le hi h.pl)).trans (h.p i hi)⟩
theorem kp_app {X : PSt} {N : List Nd} {P : List Pc} {u d : Nat} : Kp X ⟨X.N ++ N, X.P ++ P, u, d⟩ := ⟨by simp, by simp, fun i hi => List.getElem?_append_left hi, fun i hi => List.getElem?_append_left hi⟩
theorem upS_kp (c : Bool) (t : Tz) (X : PSt) : Kp X (upS c t X) := by
 unfold upS; split
 ·exact kp_app
 ·exact .refl _
theorem loS_kp (c : Bool) (t : Tz) (X : PSt) : Kp X (loS c t X) := by
 unfold loS; split
 ·exact kp_app
 ·exact .refl _
theorem endS_kp (c : Bool) (t : Tz) (b : Pt) (X : PSt × Nd) : Kp X.1 (endS c t b X).1 := by
 unfold endS; split
 ·simp only [List.append_assoc]; exact kp_app
 ·exact .refl _
theorem begS_kp (c : Bool) (t : Tz) (b : Pt) (X : PSt × Nd) : Kp X.1 (begS c t b X).1 := by
 unfold begS; split
 ·simp only [List.append_assoc]; exact kp_app
 ·exact .refl _
structure LeafIn (N0 P0 : Nat) (X : PSt) (u : Nat) : Prop where
 ex : ∃ pu p, X.N[u]? = some (lfN pu) ∧ X.P[pu]? = some p ∧ P0 ≤ pu
 lo : N0 ≤ u
theorem LeafIn.keep {N0 P0 u : Nat} {X Y : PSt} (h : LeafIn N0 P0 X u) (k : Kp X Y) : LeafIn N0 P0 Y u := by
 obtain ⟨⟨pu, p, h1, h2, h3⟩, h4⟩ := h
 exact ⟨⟨pu, p, (k.n u (List.getElem?_eq_some_iff.1 h1).1).trans h1, (k.p pu (List.getElem?_eq_some_iff.1 h2).1).trans h2, h3⟩, h4⟩
theorem LeafIn.lt {N0 P0 u : Nat} {X : PSt} (h : LeafIn N0 P0 X u) : u < X.N.length := by
 obtain ⟨⟨pu, p, h1, _⟩, _⟩ := h
 exact (List.getElem?_eq_some_iff.1 h1).1
theorem LeafIn.id {N0 P0 u : Nat} {X : PSt} (h : LeafIn N0 P0 X u) : ∃ p, X.N[u]? = some (lfN (idN X.N u)) ∧ X.P[idN X.N u]? = some p ∧ P0 ≤ idN X.N u := by
 obtain ⟨⟨pu, p, h1, h2, h3⟩, _⟩ := h
 have : idN X.N u = pu := by unfold idN; rw [h1]; simp [lfN]
 rw [this]
 exact ⟨p, h1, h2, h3⟩
theorem upS_leaf {N0 P0 : Nat} {c : Bool} {t : Tz} {X : PSt} (hn : N0 ≤ X.N.length) (hp : P0 ≤ X.P.length) (h : c = false → LeafIn N0 P0 X X.u) : LeafIn N0 P0 (upS c t X) (upS c t X).u := by
 cases c
 ·exact h rfl
 ·exact ⟨⟨X.P.length, ⟨t, (X.N.length : Int), false⟩, by simp [upS], by simp [upS], hp⟩, hn⟩
theorem loS_leaf {N0 P0 : Nat} {c : Bool} {t : Tz} {X : PSt} (hn : N0 ≤ X.N.length) (hp : P0 ≤ X.P.length) (h : c = false → LeafIn N0 P0 X X.d) : LeafIn N0 P0 (loS c t X) (loS c t X).d := by
 cases c
 ·exact h rfl
 ·exact ⟨⟨X.P.length, ⟨t, (X.N.length : Int), false⟩, by simp [loS], by simp [loS], hp⟩, hn⟩
theorem upS_d (c : Bool) (t : Tz) (X : PSt) : (upS c t X).d = X.d := by unfold upS; split <;> rfl
theorem loS_u (c : Bool) (t : Tz) (X : PSt) : (loS c t X).u = X.u := by unfold loS; split <;> rfl
theorem setR_len (P : List Pc) (i : Nat) (r : Pt) : (setR P i r).length = P.length := by unfold setR; split <;> simp
theorem setG_len (P : List Pc) (i : Nat) : (setG P i).length = P.length := by unfold setG; split <;> simp
theorem setR_ne {P : List Pc} {i j : Nat} (r : Pt) (h : j ≠ i) : (setR P i r)[j]? = P[j]? := by
 unfold setR; split
 ·rw [List.getElem?_set]; simp [Ne.symm h]
 ·rfl
theorem setG_ne {P : List Pc} {i j : Nat} (h : j ≠ i) : (setG P i)[j]? = P[j]? := by
 unfold setG; split
 ·rw [List.getElem?_set]; simp [Ne.symm h]
 ·rfl
theorem setR_some {P : List Pc} {i j : Nat} (r : Pt) {p : Pc} (h : P[j]? = some p) : ∃ p', (setR P i r)[j]? = some p' := by
 have := (List.getElem?_eq_some_iff.1 h).1
 exact ⟨_, List.getElem?_eq_getElem (by rw [setR_len]; exact this)⟩
theorem setG_some {P : List Pc} {i j : Nat} {p : Pc} (h : P[j]? = some p) : ∃ p', (setG P i)[j]? = some p' := by
 have := (List.getElem?_eq_some_iff.1 h).1
 exact ⟨_, List.getElem?_eq_getElem (by rw [setG_len]; exact this)⟩
theorem rtS_leaf {N0 P0 u : Nat} {r : Pt} {n : Nat} {X : PSt} (h : LeafIn N0 P0 X u) : LeafIn N0 P0 (rtS r n X) u := by
 obtain ⟨⟨pu, p, h1, h2, h3⟩, h4⟩ := h
 obtain ⟨p1, e1⟩ := setR_some (i := idN X.N X.u) r h2
 obtain ⟨p2, e2⟩ := setR_some (i := idN X.N X.d) r e1
 obtain ⟨p3, e3⟩ := setG_some (i := n) e2
 exact ⟨⟨pu, p3, h1, e3, h3⟩, h4⟩
theorem rtS_len (r : Pt) (n : Nat) (X : PSt) : (rtS r n X).N.length = X.N.length ∧ (rtS r n X).P.length = X.P.length := ⟨rfl, by unfold rtS; simp only [setG_len, setR_len]⟩
structure PInv (N0 : Nat) (Pa : List Pc) (rest : List Nat) (X : PSt) : Prop where
 nN : N0 ≤ X.N.length
 nP : Pa.length ≤ X.P.length
 rest : ∀ n ∈ rest, n < Pa.length ∧ X.P[n]? = Pa[n]?
 nodes : ∀ p ∈ Pa, 0 ≤ p.n ∧ p.n < N0
theorem roundS_inv {N0 : Nat} {Pa : List Pc} {rest : List Nat} {n : Nat} {id : Int} {s : Sg} {f la : Bool} {X : PSt} (I : PInv N0 Pa (n :: rest) X) (hnd : n ∉ rest) (hu : f = false → LeafIn N0 Pa.length X X.u ∧ LeafIn N0 Pa.length X X.d) :
  PInv N0 Pa rest (roundS id s f la n X) ∧ LeafIn N0 Pa.length (roundS id s f la n X) (roundS id s f la n X).u ∧ LeafIn N0 Pa.length (roundS id s f la n X) (roundS id s f la n X).d ∧
   (roundS id s f la n X).N.length ≤ X.N.length + 6 ∧ (roundS id s f la n X).P.length ≤ X.P.length + 6 := by
 obtain ⟨hnl, hnp⟩ := I.rest n (by simp)
 obtain ⟨p, hp⟩ : ∃ p, Pa[n]? = some p := ⟨_, List.getElem?_eq_getElem hnl⟩
 have hpn := I.nodes p (List.mem_of_getElem? hp)
 have hXn : (X.P[n]?).getD pc0 = p := by rw [hnp, hp]; rfl
 unfold roundS
 simp only [hXn]
 generalize h1 : upS (f || decide (0 < turnB s.a s.b p.t.l)) ⟨p.t.top, id, true, false, if f then s.a else p.t.l, ⟨0, 0⟩⟩ X = X1
 generalize h2 : loS (f || decide (turnB s.a s.b p.t.l < 0)) ⟨id, p.t.bot, true, false, if f then s.a else p.t.l, ⟨0, 0⟩⟩ X1 = X2
 generalize h3 : rtS (if la then s.b else p.t.r) n X2 = X3
 generalize h4 : endS (la && (!p.t.hr || lessB s.b p.t.r)) { p.t with hl := true, l := s.b } s.b (X3, ⟨2, id, ⟨0, 0⟩, (X3.u : Int), (X3.d : Int)⟩) = X4
 generalize h5 : begS (f && (!p.t.hl || lessB p.t.l s.a)) { p.t with hr := true, r := s.a } s.a X4 = X5
 have k1 : Kp X X1 := by rw [← h1]; exact upS_kp _ _ _
 have k2 : Kp X1 X2 := by rw [← h2]; exact loS_kp _ _ _
 have k4 : Kp X3 X4.1 := by rw [← h4]; exact endS_kp _ _ _ (X3, _)
 have k5 : Kp X4.1 X5.1 := by rw [← h5]; exact begS_kp _ _ _ _
 have l1 : LeafIn N0 Pa.length X1 X1.u := by rw [← h1]; exact upS_leaf I.nN I.nP fun hc => (hu (by cases f; rfl; simp at hc)).1
 have l2 : LeafIn N0 Pa.length X2 X2.d := by
  rw [← h2]
  refine loS_leaf (Nat.le_trans I.nN k1.nl) (Nat.le_trans I.nP k1.pl) fun hc => ?_
  have e : X1.d = X.d := by rw [← h1]; exact upS_d _ _ _
  rw [e]
  exact (hu (by cases f; rfl; simp at hc)).2.keep k1
 have l3 : LeafIn N0 Pa.length X2 X2.u := by
  have e : X2.u = X1.u := by rw [← h2]; exact loS_u _ _ _
  rw [e]; exact l1.keep k2
 have b1 : X1.N.length ≤ X.N.length + 1 ∧ X1.P.length ≤ X.P.length + 1 := by rw [← h1]; unfold upS; split <;> simp
 have b2 : X2.N.length ≤ X1.N.length + 1 ∧ X2.P.length ≤ X1.P.length + 1 := by rw [← h2]; unfold loS; split <;> simp
 have b3 : X3.N.length = X2.N.length ∧ X3.P.length = X2.P.length := by rw [← h3]; exact rtS_len _ _ _
 have b4 : X4.1.N.length ≤ X3.N.length + 2 ∧ X4.1.P.length ≤ X3.P.length + 1 := by rw [← h4]; unfold endS; split <;> simp
 have b5 : X5.1.N.length ≤ X4.1.N.length + 2 ∧ X5.1.P.length ≤ X4.1.P.length + 1 := by rw [← h5]; unfold begS; split <;> simp
 have u3 : X3.u = X2.u ∧ X3.d = X2.d := by rw [← h3]; exact ⟨rfl, rfl⟩
 have u4 : X4.1.u = X3.u ∧ X4.1.d = X3.d := by rw [← h4]; unfold endS; split <;> exact ⟨rfl, rfl⟩
 have u5 : X5.1.u = X4.1.u ∧ X5.1.d = X4.1.d := by rw [← h5]; unfold begS; split <;> exact ⟨rfl, rfl⟩
 have m3 : LeafIn N0 Pa.length X3 X3.u ∧ LeafIn N0 Pa.length X3 X3.d := by rw [u3.1, u3.2, ← h3]; exact ⟨rtS_leaf l3, rtS_leaf l2⟩
 have m5 : LeafIn N0 Pa.length X5.1 X5.1.u ∧ LeafIn N0 Pa.length X5.1 X5.1.d := by
  rw [u5.1, u5.2, u4.1, u4.2]
  exact ⟨(m3.1.keep k4).keep k5, (m3.2.keep k4).keep k5⟩
 have hnode : ∀ v, LeafIn N0 Pa.length X5.1 v → LeafIn N0 Pa.length (nodeS p.n.toNat X5) v := by
  intro v ⟨⟨pu, pc, g1, g2, g3⟩, g4⟩
  refine ⟨⟨pu, pc, ?_, g2, g3⟩, g4⟩
  show (X5.1.N.set _ _)[v]? = _
  rw [List.getElem?_set, if_neg (by omega)]; exact g1
 have old : ∀ i, i < Pa.length → i ≠ n → X5.1.P[i]? = X.P[i]? := by
  intro i hi hne
  have e1 : X2.P[i]? = X.P[i]? := (k1.trans k2).p i (Nat.lt_of_lt_of_le hi I.nP)
  have e2 : X3.P[i]? = X2.P[i]? := by
   rw [← h3]
   obtain ⟨_, _, _, q1⟩ := l3.id
   obtain ⟨_, _, _, q2⟩ := l2.id
   unfold rtS
   simp only
   rw [setG_ne hne, setR_ne _ (by omega), setR_ne _ (by omega)]
  rw [(k4.trans k5).p i (by rw [b3.2]; have := (k1.trans k2).pl; have := I.nP; omega), e2, e1]
 have q1 := k1.nl
 have q2 := k2.nl
 have q4 := k4.nl
 have q5 := k5.nl
 have r1 := k1.pl
 have r2 := k2.pl
 have r4 := k4.pl
 have r5 := k5.pl
 have i1 := I.nN
 have i2 := I.nP
 refine ⟨⟨?_, ?_, fun i hi => ?_, I.nodes⟩, hnode _ m5.1, hnode _ m5.2, ?_, ?_⟩
 ·show N0 ≤ (X5.1.N.set _ _).length
  rw [List.length_set]; omega
 ·show Pa.length ≤ X5.1.P.length
  omega
 ·obtain ⟨j1, j2⟩ := I.rest i (by simp [hi])
  refine ⟨j1, ?_⟩
  show X5.1.P[i]? = _
  rw [old i j1 (by rintro rfl; exact hnd hi)]; exact j2
 ·show (X5.1.N.set _ _).length ≤ _
  rw [List.length_set]; omega
 ·show X5.1.P.length ≤ _
  omega
end Go.Proofs.YtlhmjhildlnokaaGreat
