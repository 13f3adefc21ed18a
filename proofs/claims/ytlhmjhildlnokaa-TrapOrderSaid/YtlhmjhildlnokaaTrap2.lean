/-
  The function that trap.crossed sorts by; what it sorts.
-/
import Derived.Test.YtlhmjhildlnokaaTrap1
import Derived.Test.YtlhmjhildlnokaaSort1
import Derived.Test.YtlhmjhildlnokaaLayJ
import Derived.Shelf.SlSortCmp.NoneTotal
namespace Go.Proofs.Ytlhmjhildlnokaa
set_option linter.unusedVariables false
set_option linter.unusedSimpArgs false
open Go.RowKit Go.Sort Go.Shelf

theorem fldZ (a0 a1 a2 a3 a4 a5 a6 a7 : Value) (p : Pc) : tz8 p.t = (pc10 p).take 8 := rfl
theorem p_at {P : List Pc} {i : Nat} {p : Pc} (h : P[i]? = some p) : ((pR P).drop (i * 10)).take 8 = tz8 p.t := by
  have := flatN_sub (f := pc10) (k := 10) (fun _ => rfl) h 0 8 (by omega)
  rw [Nat.add_zero] at this
  unfold pR
  rw [this]; rfl
/-- What has grown, read. -/
theorem grow_rd {e size n b cap : Nat} {xs : List Value} {w : World} (h : (Res.grow e size (.slice (some ⟨b, 0, none⟩) n cap) n xs).holds w) : (Res.rd (some ⟨b, 0, none⟩) b 0 xs).holds w := by
  refine ⟨fun _ => rfl, fun j v hv => ?_⟩
  have := World.ownsRow.cells (g := b) h rfl j v hv
  rwa [Addr.add_mid] at this
theorem cells_rd {b : Nat} {row : List Value} {w : World} (h : (Res.cells b row).holds w) : (Res.rd (some ⟨b, 0, none⟩) b 0 row).holds w := by
  obtain ⟨T, hT⟩ := h
  refine ⟨fun _ => rfl, fun j v hv => ?_⟩
  have hj := (List.getElem?_eq_some_iff.1 hv).1
  simp only [World.cell?, World.frozen?, hT, Nat.zero_add]
  simp [hv]
/-- Resources that are read, in a world of their own. -/
theorem own_rds {w : World} : ∀ {l : List Res}, (∀ r ∈ l, r.ro = true) → (∀ r ∈ l, r.holds w ∧ ∀ j, r.foot j → j < w.heap.size) → Own w.heap.size w w l
  | [], _, _ => Own.start w
  | r :: l, hro, h => by
    have ih := own_rds (l := l) (fun r hr => hro r (by simp [hr])) (fun r hr => h r (by simp [hr]))
    refine ih.add r (h r (by simp)).1 (fun k hk => ⟨(h r (by simp)).2 k hk, fun h0 => by rw [hro r (by simp)] at h0; cases h0⟩) (fun r' hr' => .inl ⟨hro r (by simp), hro r' (by simp [hr'])⟩)
set_option maxRecDepth 100000 in
set_option maxHeartbeats 8000000 in
theorem cmpC_any {B : Nat} {w0 w : World} {l : List Res} {bc bx bp m cp : Nat} {u0 u2 u3 : Value} {P : List Pc} {i k : Nat} {p q : Pc} (hi : P[i]? = some p) (hk : P[k]? = some q) (hm : m = P.length)
    (H : Own B w0 w (.rd (some ⟨bc, 0, none⟩) bc 0 [.pointer (some ⟨bx, 0, none⟩)] :: .rd (some ⟨bx, 0, none⟩) bx 0 [u0, .slice (some ⟨bp, 0, none⟩) m cp, u2, u3] :: .rd (some ⟨bp, 0, none⟩) bp 0 (pR P) :: l)) :
    Calls Try.prog 96 #[.int .i64 (i : Int), .int .i64 (k : Int), .pointer (some ⟨bc, 0, none⟩)] w fun r w' => r = .returned (.int .i64 (leftsZ p.t q.t)) ∧ Below B w0 w' := by
  have hil : i < m := by rw [hm]; exact (List.getElem?_eq_some_iff.1 hi).1
  have hkl : k < m := by rw [hm]; exact (List.getElem?_eq_some_iff.1 hk).1
  have h1 := fun w => lefts_any p.t q.t w
  have p0 : (Res.rd (some ⟨bc, 0, none⟩) bc 0 [.pointer (some ⟨bx, 0, none⟩)]).at bc 0 [.pointer (some ⟨bx, 0, none⟩)] := ⟨rfl, 0, rfl, rfl⟩
  have p1 : (Res.rd (some ⟨bx, 0, none⟩) bx 0 [u0, .slice (some ⟨bp, 0, none⟩) m cp, u2, u3]).at bx 1 [.slice (some ⟨bp, 0, none⟩) m cp] := ⟨rfl, 1, rfl, rfl⟩
  have p2 : (Res.rd (some ⟨bp, 0, none⟩) bp 0 (pR P)).at bp (i * 10) (tz8 p.t) := ⟨rfl, i * 10, by omega, p_at hi⟩
  have p3 : (Res.rd (some ⟨bp, 0, none⟩) bp 0 (pR P)).at bp (k * 10) (tz8 q.t) := ⟨rfl, k * 10, by omega, p_at hk⟩
  simp only [tz8] at p2 p3
  clear hi hk hm
  go_enter Try.func96, Try.ntmps96
  go_wp2_with (first
    | go_big_skip
    | (go_at_call 67; (with_reducible refine (h1 _).mono ?_); rintro e w3 ⟨rfl, hb⟩; replace H := H.ext hb; clear hb; dsimp only; (first | (refine hK _ _ ⟨_, H, by repeat first | exact .here | apply Suf.there⟩ ?_; clear hK K; (try simp only [Act.put, List.setIfInBounds_toArray, List.set_cons_succ, List.set_cons_zero])) | skip))
    | (guard_target =~ Code.wp _ (Code.region 1 _ true) _ _ _; refine region_treeC0 1 (G := True) (.q 0 (.q 1 (.q 2 (.q 3 (.q 4 (.q 5 (.q 6 (.q 7 (.q 8 (.q 9 (.q 10 (.q 11 (.q 12 (.q 13 (.q 14 (.q 15 (.q 16 (.q 17 .nil)))))))))))))))))) (by kernel_rfl) (by intro c a d v w h; cases d <;> exact h) (by kernel_rfl) H ⟨trivial⟩ (fun _ w3 H2 => ?_); (clear H; (try clear w2); revert w3; intro w2 H))
    | (guard_target =~ wpList _ _ _ (_ :: _) _ _; (first | (guard_target =~ wpList _ _ _ (Oper.mk _ (.load _ _) _ _ _ _ :: _) _ _; refine BigFrame.wpList_want rfl (fun K hK => ?_); (first | (refine o_load (v := ?_) (r := ?_) rfl rfl H ?_ ?_ ?_ (hK _ _ ?_); rotate_left 2; (with_reducible assumption); (repeat first | exact .head _ | apply List.Mem.tail); (focus (intro _; simp; done))) | (refine o_loadC (v := ?_) (row := ?_) rfl rfl H ?_ ?_ ?_ (hK _ _ ?_); rotate_left 2; (repeat first | exact .head _ | apply List.Mem.tail); (first | exact rfl | with_reducible assumption); (focus (intro _; simp; done))) | (refine o_loadN (cs := ?_) (r := ?_) rfl rfl H ?_ ?_ ?_ ?_ (hK _ _ ?_); rotate_left 2; (with_reducible assumption); (repeat first | exact .head _ | apply List.Mem.tail); (focus (intro _; simp; done)); (focus (intro _; simp; done))) | (refine o_loadNC (row := ?_) rfl rfl H ?_ ?_ ?_ (hK _ _ ?_); rotate_left 1; (repeat first | exact .head _ | apply List.Mem.tail); (focus (intro _; simp; done)); (focus (intro _; simp; done)))); clear hK K) | (guard_target =~ wpList _ _ _ (Oper.mk _ (.store _ _ _) _ _ _ _ :: _) _ _; refine BigFrame.wpList_want rfl (fun K hK => ?_); refine o_store (l' := ?_) (row := ?_) rfl rfl H rfl ?_ ?_ ?_ ?_ (fun w3 H2 => hK _ _ ?_); rotate_left 2; (first | exact r0 | exact r1 | exact r2 | exact r3 | exact r4 | exact r5 | exact r6 | exact r7 | exact r8 | exact r9 | exact r10 | exact r11 | exact r12 | exact r13 | exact r14 | exact r15); (focus (intro _; simp [Act.eval, Value.cells]; done)); (focus (first | (simp [Act.eval, Value.cells]; done) | ((try simp [Act.eval, Value.cells]); omega))); (first | exact rfl | (focus (simp [Act.eval, Value.cells]; done))); clear hK K; clear H; (try clear w2); revert w3; intro w2 H; simp [Act.eval, Value.cells, setL, List.getD] at H) | ((first | (guard_target =~ wpList _ _ _ (Oper.mk _ (.alloc _) _ _ _ _ :: _) _ _; refine BigFrame.wpList_want rfl (fun K hK => ?_); refine o_alloc (z := ?_) rfl ?_ H rfl (fun w3 b2 he H2 => hK _ _ ?_); rotate_left 1; (focus (intro _; simp; with_reducible exact rfl))) | (guard_target =~ wpList _ _ _ (Oper.mk _ (.box _ _) _ _ _ _ :: _) _ _; refine BigFrame.wpList_want rfl (fun K hK => ?_); refine o_box rfl H rfl (fun w3 b2 he H2 => hK _ _ ?_)) | (guard_target =~ wpList _ _ _ (Oper.mk _ (.buildSlice _ _ _) _ _ _ _ :: _) _ _; refine BigFrame.wpList_want rfl (fun K hK => ?_); refine o_buildSlice (C := ?_) (E := ?_) rfl rfl H ?_ rfl (fun w3 b2 he H2 => hK _ _ ?_); rotate_left 2; (focus (intro _; simp [go_sem, Instr.buildSlice]; with_reducible exact rfl)))); clear hK K he; clear H; (try clear w2); revert w3; intro w2 H; simp [Act.eval, Value.cells, setL, List.getD] at H)); simp only [Act.put, List.setIfInBounds_toArray, List.set_cons_succ, List.set_cons_zero])
    | (guard_target =~ wpTreeC _ _ _ _ _ _ _; first | (guard_target =~ wpTreeC _ _ _ (Tr.e _ Tr.nil) _ _ _; refine treeC_last (by decide +kernel) H rfl rfl (fun w3 H2 K hK => ?_); clear H; (try clear w2); (revert w3; intro w2 H); simp only [List.getElem_toArray, List.getElem_cons_succ, List.getElem_cons_zero]; (first | (guard_target =~ Oper.wp _ (Oper.mk _ (.store _ _ _) _ _ _ _) _ _ _ _; refine o_store (l' := ?_) (row := ?_) rfl rfl H rfl ?_ ?_ ?_ ?_ (fun w3 H2 => hK _ _ ?_); rotate_left 2; (first | exact r0 | exact r1 | exact r2 | exact r3 | exact r4 | exact r5 | exact r6 | exact r7 | exact r8 | exact r9 | exact r10 | exact r11 | exact r12 | exact r13 | exact r14 | exact r15); (focus (intro _; simp [Act.eval, Value.cells]; done)); (focus (first | (simp [Act.eval, Value.cells]; done) | ((try simp [Act.eval, Value.cells]); omega))); (first | exact rfl | (focus (simp [Act.eval, Value.cells]; done))); clear hK K; clear H; (try clear w2); revert w3; intro w2 H; simp [Act.eval, Value.cells, setL, List.getD] at H) | (guard_target =~ Oper.wp _ (Oper.mk _ (.load _ _) _ _ _ _) _ _ _ _; (first | (refine o_load (v := ?_) (r := ?_) rfl rfl H ?_ ?_ ?_ (hK _ _ ?_); rotate_left 2; (with_reducible assumption); (repeat first | exact .head _ | apply List.Mem.tail); (focus (intro _; simp; done))) | (refine o_loadC (v := ?_) (row := ?_) rfl rfl H ?_ ?_ ?_ (hK _ _ ?_); rotate_left 2; (repeat first | exact .head _ | apply List.Mem.tail); (first | exact rfl | with_reducible assumption); (focus (intro _; simp; done))) | (refine o_loadN (cs := ?_) (r := ?_) rfl rfl H ?_ ?_ ?_ ?_ (hK _ _ ?_); rotate_left 2; (with_reducible assumption); (repeat first | exact .head _ | apply List.Mem.tail); (focus (intro _; simp; done)); (focus (intro _; simp; done))) | (refine o_loadNC (row := ?_) rfl rfl H ?_ ?_ ?_ (hK _ _ ?_); rotate_left 1; (repeat first | exact .head _ | apply List.Mem.tail); (focus (intro _; simp; done)); (focus (intro _; simp; done)))); clear hK K) | ((first | (guard_target =~ Oper.wp _ (Oper.mk _ (.alloc _) _ _ _ _) _ _ _ _; refine o_alloc (z := ?_) rfl ?_ H rfl (fun w3 b2 he H2 => hK _ _ ?_); rotate_left 1; (focus (intro _; simp; with_reducible exact rfl))) | (guard_target =~ Oper.wp _ (Oper.mk _ (.box _ _) _ _ _ _) _ _ _ _; refine o_box rfl H rfl (fun w3 b2 he H2 => hK _ _ ?_)) | (guard_target =~ Oper.wp _ (Oper.mk _ (.buildSlice _ _ _) _ _ _ _) _ _ _ _; refine o_buildSlice (C := ?_) (E := ?_) rfl rfl H ?_ rfl (fun w3 b2 he H2 => hK _ _ ?_); rotate_left 2; (focus (intro _; simp [go_sem, Instr.buildSlice]; with_reducible exact rfl)))); clear hK K he; clear H; (try clear w2); revert w3; intro w2 H; simp [Act.eval, Value.cells, setL, List.getD] at H)); simp only [Act.put, List.setIfInBounds_toArray, List.set_cons_succ, List.set_cons_zero]) | (guard_target =~ wpTreeC _ _ _ (Tr.q _ _) _ _ _; first | (refine treeC_quiet ⟨_, H, by repeat first | exact .here | apply Suf.there⟩ rfl rfl rfl (fun K hK => ?_); simp only [List.getElem_toArray, List.getElem_cons_succ, List.getElem_cons_zero]; first | (guard_target =~ Oper.quiet _ (Oper.mk _ (.load _ _) _ _ _ _) _ _ _; (first | (refine q_load (v := ?_) (r := ?_) rfl rfl ?_ ?_ ?_ (hK _ ?_); rotate_left 2; (with_reducible assumption); (repeat first | exact .head _ | apply List.Mem.tail); (focus (intro _; simp; done))) | (refine q_loadC (v := ?_) (row := ?_) rfl rfl ?_ ?_ ?_ (hK _ ?_); rotate_left 2; (repeat first | exact .head _ | apply List.Mem.tail); (first | exact rfl | with_reducible assumption); (focus (intro _; simp; done))) | (refine q_loadN (cs := ?_) (r := ?_) rfl rfl ?_ ?_ ?_ ?_ (hK _ ?_); rotate_left 2; (with_reducible assumption); (repeat first | exact .head _ | apply List.Mem.tail); (focus (intro _; simp; done)); (focus (intro _; simp; done))) | (refine q_loadNC (row := ?_) rfl rfl ?_ ?_ ?_ (hK _ ?_); rotate_left 1; (repeat first | exact .head _ | apply List.Mem.tail); (focus (intro _; simp; done)); (focus (intro _; simp; done)))); clear hK K; simp only [Act.put, List.setIfInBounds_toArray, List.set_cons_succ, List.set_cons_zero]) | (go_big_quiet_op; (try refine ⟨_, fun _ _ => rfl, ?_⟩); refine hK _ ?_; clear hK K)) | (refine treeC_call (v := ?_) ⟨_, H, by repeat first | exact .here | apply Suf.there⟩ rfl rfl (fun w3 H K hK => ?_) ?_; rotate_left 1; (focus (simp only [List.getElem_toArray, List.getElem_cons_succ, List.getElem_cons_zero]; first | (go_big_op; first | exact hK _ (Ext.refl _) | (go_at_call 67; (with_reducible refine (h1 _).mono ?_); rintro e w3 ⟨rfl, hb⟩; dsimp only; first | exact hK _ hb | exact hK _ (Ext.refl _))))); simp only [List.getElem_toArray, List.getElem_cons_succ, List.getElem_cons_zero, Act.put, List.setIfInBounds_toArray, List.set_cons_succ, List.set_cons_zero]) | (refine treeC_skip ⟨_, H, by repeat first | exact .here | apply Suf.there⟩ rfl rfl ?_; simp only [List.getElem_toArray, List.getElem_cons_succ, List.getElem_cons_zero, Act.put, List.setIfInBounds_toArray, List.set_cons_succ, List.set_cons_zero])) | (guard_target =~ wpTreeC _ _ _ (Tr.both _ _) _ _ _; refine treeC_both ?_ ?_) | (guard_target =~ wpTreeC _ _ _ (Tr.e _ _) _ _ _; first | (refine treeC_one H rfl rfl (fun w3 H2 K hK => ?_); clear H; (try clear w2); (revert w3; intro w2 H); simp only [List.getElem_toArray, List.getElem_cons_succ, List.getElem_cons_zero]; first | ((first | (guard_target =~ Oper.wp _ (Oper.mk _ (.store _ _ _) _ _ _ _) _ _ _ _; refine o_store (l' := ?_) (row := ?_) rfl rfl H rfl ?_ ?_ ?_ ?_ (fun w3 H2 => hK _ _ ⟨_, H2, ?_⟩ ?_); rotate_left 2; (first | exact r0 | exact r1 | exact r2 | exact r3 | exact r4 | exact r5 | exact r6 | exact r7 | exact r8 | exact r9 | exact r10 | exact r11 | exact r12 | exact r13 | exact r14 | exact r15); (focus (intro _; simp [Act.eval, Value.cells]; done)); (focus (first | (simp [Act.eval, Value.cells]; done) | ((try simp [Act.eval, Value.cells]); omega))); (first | exact rfl | (focus (simp [Act.eval, Value.cells]; done))); (first | (guard_target =~ Suf _ _; repeat first | exact .here | apply Suf.there) | (rotate_left; repeat first | exact .here | apply Suf.there)); clear hK K; clear H; (try clear w2); revert w3; intro w2 H; simp [Act.eval, Value.cells, setL, List.getD] at H) | (guard_target =~ Oper.wp _ (Oper.mk _ (.load _ _) _ _ _ _) _ _ _ _; (first | (refine o_load (v := ?_) (r := ?_) rfl rfl H ?_ ?_ ?_ (hK _ _ ⟨_, H, by repeat first | exact .here | apply Suf.there⟩ ?_); rotate_left 2; (with_reducible assumption); (repeat first | exact .head _ | apply List.Mem.tail); (focus (intro _; simp; done))) | (refine o_loadC (v := ?_) (row := ?_) rfl rfl H ?_ ?_ ?_ (hK _ _ ⟨_, H, by repeat first | exact .here | apply Suf.there⟩ ?_); rotate_left 2; (repeat first | exact .head _ | apply List.Mem.tail); (first | exact rfl | with_reducible assumption); (focus (intro _; simp; done))) | (refine o_loadN (cs := ?_) (r := ?_) rfl rfl H ?_ ?_ ?_ ?_ (hK _ _ ⟨_, H, by repeat first | exact .here | apply Suf.there⟩ ?_); rotate_left 2; (with_reducible assumption); (repeat first | exact .head _ | apply List.Mem.tail); (focus (intro _; simp; done)); (focus (intro _; simp; done))) | (refine o_loadNC (row := ?_) rfl rfl H ?_ ?_ ?_ (hK _ _ ⟨_, H, by repeat first | exact .here | apply Suf.there⟩ ?_); rotate_left 1; (repeat first | exact .head _ | apply List.Mem.tail); (focus (intro _; simp; done)); (focus (intro _; simp; done)))); clear hK K) | ((first | (guard_target =~ Oper.wp _ (Oper.mk _ (.alloc _) _ _ _ _) _ _ _ _; refine o_alloc (z := ?_) rfl ?_ H rfl (fun w3 b2 he H2 => hK _ _ ⟨_, H2, ?_⟩ ?_); rotate_left 1; (focus (intro _; simp; with_reducible exact rfl))) | (guard_target =~ Oper.wp _ (Oper.mk _ (.box _ _) _ _ _ _) _ _ _ _; refine o_box rfl H rfl (fun w3 b2 he H2 => hK _ _ ⟨_, H2, ?_⟩ ?_)) | (guard_target =~ Oper.wp _ (Oper.mk _ (.buildSlice _ _ _) _ _ _ _) _ _ _ _; refine o_buildSlice (C := ?_) (E := ?_) rfl rfl H ?_ rfl (fun w3 b2 he H2 => hK _ _ ⟨_, H2, ?_⟩ ?_); rotate_left 2; (focus (intro _; simp [go_sem, Instr.buildSlice]; with_reducible exact rfl)))); (first | (guard_target =~ Suf _ _; repeat first | exact .here | apply Suf.there) | (rotate_left; repeat first | exact .here | apply Suf.there)); clear hK K he; clear H; (try clear w2); revert w3; intro w2 H; simp [Act.eval, Value.cells, setL, List.getD] at H)); simp only [Act.put, List.setIfInBounds_toArray, List.set_cons_succ, List.set_cons_zero]) | (go_big_op; (first | (refine hK _ _ ⟨_, H, by repeat first | exact .here | apply Suf.there⟩ ?_; clear hK K; (try simp only [Act.put, List.setIfInBounds_toArray, List.set_cons_succ, List.set_cons_zero])) | skip))) | (refine treeC_one_skip (fun w3 hx => ⟨_, H.ext hx, by repeat first | exact .here | apply Suf.there⟩) rfl rfl (fun w3 hx => ?_); replace H := H.ext hx; clear hx; (try clear w2); revert w3; intro w2 H; simp only [List.getElem_toArray, List.getElem_cons_succ, List.getElem_cons_zero, Act.put, List.setIfInBounds_toArray, List.set_cons_succ, List.set_cons_zero])) | (guard_target =~ wpTreeC _ _ _ Tr.nil _ _ _; refine treeC_nil H (fun w3 H2 => ?_); clear H; (try clear w2); revert w3; intro w2 H)))
  go_ret
  exact ⟨rfl, H.below⟩
/-! ### The sort of the trapezes that are crossed -/
abbrev PcAt (P : List Pc) : Type := {i : Nat // i < P.length}
def pcT (P : List Pc) (x : PcAt P) : Tz := (P[x.1]'x.2).t
def cfC (P : List Pc) (x y : PcAt P) : Int := leftsZ (pcT P x) (pcT P y)
def ltT (s t : Tz) : Bool := decide (leftsZ s t < 0)
theorem ltT_iff (s t : Tz) : ltT s t = true ↔ (s.hl = false ∧ t.hl = true) ∨ (s.hl = true ∧ t.hl = true ∧ lessB s.l t.l = true) := by
  unfold ltT leftsZ
  rw [decide_eq_true_eq]
  cases s.hl <;> cases t.hl <;> simp
  cases lessB s.l t.l <;> cases lessB t.l s.l <;> simp
theorem lessB_swo : (∀ a : Pt, lessB a a = false) ∧ (∀ a b c : Pt, lessB a b = true → lessB b c = true → lessB a c = true) ∧ (∀ a b c : Pt, lessB a b = false → lessB b c = false → lessB a c = false) := by
  refine ⟨fun a => ?_, fun a b c h1 h2 => ?_, fun a b c h1 h2 => ?_⟩
  · rw [Bool.eq_false_iff, ne_eq, less_iff]; omega
  · rw [less_iff] at *; omega
  · rw [Bool.eq_false_iff, ne_eq, less_iff] at *; omega
theorem ltT_swo : (∀ s : Tz, ltT s s = false) ∧ (∀ s t u : Tz, ltT s t = true → ltT t u = true → ltT s u = true) ∧ (∀ s t u : Tz, ltT s t = false → ltT t u = false → ltT s u = false) := by
  obtain ⟨l1, l2, l3⟩ := lessB_swo
  refine ⟨fun s => ?_, fun s t u h1 h2 => ?_, fun s t u h1 h2 => ?_⟩
  · rw [Bool.eq_false_iff, ne_eq, ltT_iff, l1]; cases s.hl <;> simp
  · rw [ltT_iff] at *
    rcases h1 with h1 | h1 <;> rcases h2 with h2 | h2
    · rw [h1.2] at h2; cases h2.1
    · exact .inl ⟨h1.1, h2.2.1⟩
    · rw [h1.2.1] at h2; cases h2.1
    · exact .inr ⟨h1.1, h2.2.1, l2 _ _ _ h1.2.2 h2.2.2⟩
  · have e : ∀ s t, ltT s t = false ↔ ¬ ((s.hl = false ∧ t.hl = true) ∨ (s.hl = true ∧ t.hl = true ∧ lessB s.l t.l = true)) := fun s t => by rw [Bool.eq_false_iff, ne_eq, ltT_iff]
    rw [e] at *
    have l3' := l3 s.l t.l u.l
    cases hs : s.hl <;> cases ht : t.hl <;> cases hu : u.hl <;> simp [hs, ht, hu] at h1 h2 ⊢
    exact l3' h1 h2
theorem cfC_swo (P : List Pc) : SWO (ltOf (cfC P)) := by
  obtain ⟨l1, l2, l3⟩ := ltT_swo
  exact ⟨fun x => l1 _, fun x y z h1 h2 => l2 _ (pcT P y) _ h1 h2, fun x y z h1 h2 => l3 _ (pcT P y) _ h1 h2⟩
/-- Sorted by what is at their left. -/
def SortC (P : List Pc) (all : List Nat) : Prop := all.Pairwise fun i k => ∀ p q, P[i]? = some p → P[k]? = some q → ltT q.t p.t = false
theorem enter_cmpC (args : Array Value) (w : World) : (callFunc 96 args).run Try.prog w = .ok (.enter 96 args) w := by kernel_rfl
def nR1 (l : List Nat) : List Value := l.map fun i : Nat => Value.int .i64 (i : Int)
theorem lift_pc {P : List Pc} : ∀ {all : List Nat}, (∀ i ∈ all, i < P.length) → ∃ xs : List (PcAt P), xs.map (·.1) = all
  | [], _ => ⟨[], rfl⟩
  | i :: all, h => by
    obtain ⟨xs, hx⟩ := lift_pc (all := all) fun j hj => h j (by simp [hj])
    exact ⟨⟨i, h i (by simp)⟩ :: xs, by simp [hx]⟩
theorem sortC_any {B : Nat} {w0 w : World} {rest : List Res} {bc bx bp m cp n : Nat} {u0 u2 u3 v : Value} {P : List Pc} {all : List Nat} (hall : ∀ i ∈ all, i < P.length) (hm : m = P.length) (hn : n = all.length) (hl : n ≤ 1000000)
    (h1 : Res.cells bc [.pointer (some ⟨bx, 0, none⟩)] ∈ rest) (h2 : Res.cells bx [u0, .slice (some ⟨bp, 0, none⟩) m cp, u2, u3] ∈ rest) (h3 : Res.grow 121 10 (.slice (some ⟨bp, 0, none⟩) m cp) m (pR P) ∈ rest)
    (H : Own B w0 w (.grow 3 1 v n (nR1 all) :: rest)) :
    Calls Try.prog 95 #[v, .func (.func 96) #[] #[.pointer (some ⟨bc, 0, none⟩)]] w fun r w' =>
      r = .returned (.tuple #[]) ∧ ∃ all' : List Nat, all'.Perm all ∧ SortC P all' ∧ Own B w0 w' (.grow 3 1 v n (nR1 all') :: rest) := by
  obtain ⟨xs, hxs⟩ := lift_pc hall
  cases xs with
  | nil =>
    have hnil : all = [] := hxs.symm
    subst hnil
    obtain rfl : n = 0 := hn
    obtain ⟨A, c, rfl⟩ := H.growForm m0
    refine (AnyF.slices_SortFunc_none (P := Try.prog) { sortJ with } A c _ w).mono ?_
    rintro r w' ⟨rfl, rfl⟩
    exact ⟨rfl, [], .refl _, .nil, H⟩
  | cons x0 xs0 =>
    letI : Inhabited (PcAt P) := ⟨x0⟩
    have hpos : 0 < n := by rw [hn, ← hxs]; simp
    generalize x0 :: xs0 = xs at hxs
    obtain ⟨b, cap, rfl⟩ := H.growSome m0 hpos (by decide)
    have hn2 : n = xs.length := by rw [hn, ← hxs, List.length_map]
    have hrow : nR1 all = xs.map fun x : PcAt P => Value.int .i64 (x.1 : Int) := by rw [← hxs]; unfold nR1; rw [List.map_map]; rfl
    rw [hrow] at H
    refine (sort1_any (enc := fun x : PcAt P => Value.int .i64 (x.1 : Int)) sortJ (fun _ => rfl) (cfC P) (cfC_swo P) 96 #[.pointer (some ⟨bc, 0, none⟩)] enter_cmpC hn2 hl H ?_).mono ?_
    · intro W hW x y
      have H4 := own_rds (w := W) (l := [.rd (some ⟨bc, 0, none⟩) bc 0 [.pointer (some ⟨bx, 0, none⟩)], .rd (some ⟨bx, 0, none⟩) bx 0 [u0, .slice (some ⟨bp, 0, none⟩) m cp, u2, u3], .rd (some ⟨bp, 0, none⟩) bp 0 (pR P)])
        (fun r hr => by
          simp only [List.mem_cons, List.not_mem_nil, or_false] at hr
          rcases hr with rfl | rfl | rfl <;> rfl)
        (fun r hr => by
          simp only [List.mem_cons, List.not_mem_nil, or_false] at hr
          rcases hr with rfl | rfl | rfl
          · exact ⟨cells_rd (hW _ h1).1, fun j hj => (hW _ h1).2 j hj.1⟩
          · exact ⟨cells_rd (hW _ h2).1, fun j hj => (hW _ h2).2 j hj.1⟩
          · exact ⟨grow_rd (hW _ h3).1, fun j hj => (hW _ h3).2 j (by rw [hj.1]; rfl)⟩)
      exact cmpC_any (l := []) (List.getElem?_eq_getElem x.2) (List.getElem?_eq_getElem y.2) hm H4
    · rintro r w' ⟨rfl, ys, hys, hsort, H'⟩
      refine ⟨rfl, ys.map (·.1), ?_, ?_, ?_⟩
      · rw [← hxs]; exact hys.map _
      · unfold SortC
        rw [List.pairwise_map]
        refine hsort.imp fun {a b} h p q hp hq => ?_
        have e1 : pcT P a = p.t := by unfold pcT; rw [(List.getElem?_eq_some_iff.1 hp).2]
        have e2 : pcT P b = q.t := by unfold pcT; rw [(List.getElem?_eq_some_iff.1 hq).2]
        rw [← e1, ← e2]; exact h
      · have : nR1 (ys.map (·.1)) = ys.map fun x : PcAt P => Value.int .i64 (x.1 : Int) := by unfold nR1; rw [List.map_map]; rfl
        rw [this]; exact H'
end Go.Proofs.Ytlhmjhildlnokaa
