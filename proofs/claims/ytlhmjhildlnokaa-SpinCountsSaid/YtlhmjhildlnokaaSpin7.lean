/-
  The walks of spin: Ends, Out, Next.
-/
import Derived.Test.YtlhmjhildlnokaaSpin3
import Derived.Test.YtlhmjhildlnokaaPlan4
namespace Go.Proofs.Ytlhmjhildlnokaa
set_option linter.unusedVariables false
set_option linter.unusedSimpArgs false
open Go.RowKit

theorem rightB_P {vs : List Vt} {es : List Eg} (h : rightB vs es = true) : RightP vs es := (right_iff vs es).1 (by rw [← right_same]; exact h)
/-- What a function answers whose answer is a list of halves. -/
def RetH (F : Nat → Prop) (w : World) (L : List Hf) (e : Ending) (w' : World) : Prop :=
  ∃ A c, e = .returned (.slice A L.length c) ∧ Below w.heap.size w w' ∧ Sl F w' A (hR L) ∧ L.length ≤ c ∧ c ≤ maxLen
/-- What follows alone. -/
theorem sturnN_any (vs : List Vt) (es : List Eg) (A A2 : Option Addr) (n m c c2 : Nat) (F : Nat → Prop) (w : World) (hn : n = vs.length) (hm : m = es.length) (hR : RightP vs es) (hs : Sl F w A (vR vs)) (hs2 : Sl F w A2 (eR es)) :
    Calls Try.prog 47 #[.agg #[.slice A n c, .slice A2 m c2]] w fun e w' => ∃ k1 k2 k3 k4, e = .returned (.agg #[.map (some k1), .map (some k2), .map (some k3), .map (some k4)]) ∧ Own w.heap.size w w' [mNxt k4 (nxM vs es)] := by
  subst hn hm
  refine (sturn_any vs es A A2 c c2 F w hR hs hs2).mono ?_
  rintro e w' ⟨k1, k2, k3, k4, os, rfl, _, H⟩
  exact ⟨k1, k2, k3, k4, rfl, H.sub (.cons_cons _ (List.nil_sublist _))⟩
theorem nxM_no {vs : List Vt} {es : List Eg} {h : Hf} (hh : h ∉ halves es) : nxM vs es h = none := by unfold nxM; rw [if_neg hh]
theorem nxM_yes {vs : List Vt} {es : List Eg} {h : Hf} (hh : h ∈ halves es) : nxM vs es h = some (nextZ vs es h) := by unfold nxM; rw [if_pos hh]
theorem fldW (a b c d : Value) (w : World) : (Instr.field 89 (.agg #[a, b, c, d]) 3).run Try.prog w = .ok d w := by kernel_rfl
theorem q_fldW {B : Nat} {w0 : World} {lf : List Res} {K : Act → Prop} {o : Oper} {a : Act} {x : Operand} {p q r s : Value} (ho : o.op = .field 89 x 3) (hx : a.eval x = .agg #[p, q, r, s]) (hk : K (a.put o.dst s)) : o.quiet Try.prog a (Keeps B w0 lf) K :=
  ⟨_, fun w' _ => by
    unfold Oper.quietAt execOp
    simp only [ho, hx, Sem.run_bind, fldW]
    exact ⟨rfl, rfl⟩, hk⟩
set_option maxRecDepth 100000 in
set_option maxHeartbeats 8000000 in
theorem snext_any (vs : List Vt) (es : List Eg) (A A2 : Option Addr) (n m c c2 : Nat) (F : Nat → Prop) (e0 : Int) (b0' : Bool) (w : World) (hn : n = vs.length) (hm : m = es.length) (hs : Sl F w A (vR vs)) (hs2 : Sl F w A2 (eR es)) (hl : n ≤ 1000000) (hl2 : m ≤ 1000000) (hc2 : m ≤ c2) (hcc : c2 ≤ maxLen) :
    Calls Try.prog 28 #[.agg #[.slice A n c, .slice A2 m c2], .agg #[.int .i64 e0, .bool b0']] w fun e w' =>
      e = .returned (.tuple #[hV (if rightB vs es then (nxM vs es ⟨e0, b0'⟩).getD ⟨0, false⟩ else ⟨0, false⟩), .bool (rightB vs es && (nxM vs es ⟨e0, b0'⟩).isSome)]) ∧ Below w.heap.size w w' := by
  obtain ⟨b0, o0, H1, f0⟩ := (Own.start w).addSl (hs.ro (by rfl))
  obtain ⟨b9, o9, H, f9⟩ := H1.addSl (hs2.ro (by rfl))
  clear hs hs2 H1
  have h1 := fun F w h1 h2 => right_any vs es A A2 n m c c2 F w hn hm h1 h2 hl hl2 hc2 hcc
  have h2 := fun F w hR h1 h2 => sturnN_any vs es A A2 n m c c2 F w hn hm hR h1 h2
  have hRR : rightB vs es = true → RightP vs es := rightB_P
  clear hn hm
  generalize rightB vs es = r at h1 hRR
  cases r
  · go_enter Try.func28, Try.ntmps28
    have tk0 : True := trivial
    have tk1 : True := trivial
    have tk2 : True := trivial
    go_wp2_with (first
      | (go_at_call 25; (with_reducible refine (h1 _ _ (by exact H.giveRd m4 f0) (by exact H.giveRd m3 f9)).mono ?_); rintro e w3 ⟨rfl, hb⟩; replace H := H.ext hb; clear hb; dsimp only; (skip))
      | (guard_target =~ wpList _ _ _ (_ :: _) _ _; (first | (guard_target =~ wpList _ _ _ (Oper.mk _ (.load _ _) _ _ _ _ :: _) _ _; refine BigFrame.wpList_want rfl (fun K hK => ?_); (refine o_loadNC (row := ?_) rfl rfl H ?_ ?_ ?_ (hK _ _ ?_); rotate_left 1; (repeat first | exact .head _ | apply List.Mem.tail); (focus (intro _; simp; done)); (focus (intro _; simp; done))); clear hK K) | (guard_target =~ wpList _ _ _ (Oper.mk _ (.store _ _ _) _ _ _ _ :: _) _ _; refine BigFrame.wpList_want rfl (fun K hK => ?_); refine o_store (l' := ?_) (row := ?_) rfl rfl H rfl ?_ ?_ ?_ ?_ (fun w3 H2 => hK _ _ ?_); rotate_left 2; (exact r0); (focus (intro _; simp [Act.eval, Value.cells]; done)); (focus (simp [Act.eval, Value.cells]; done)); (exact rfl); clear hK K; clear H; (try clear w2); revert w3; intro w2 H; simp [Act.eval, Value.cells, setL, List.getD] at H) | ((first | (guard_target =~ wpList _ _ _ (Oper.mk _ (.alloc _) _ _ _ _ :: _) _ _; refine BigFrame.wpList_want rfl (fun K hK => ?_); refine o_alloc (z := ?_) rfl ?_ H rfl (fun w3 b2 he H2 => hK _ _ ?_); rotate_left 1; (focus (intro _; simp; with_reducible exact rfl))) | (guard_target =~ wpList _ _ _ (Oper.mk _ (.box _ _) _ _ _ _ :: _) _ _; refine BigFrame.wpList_want rfl (fun K hK => ?_); refine o_box rfl H rfl (fun w3 b2 he H2 => hK _ _ ?_))); clear hK K he; clear H; (try clear w2); revert w3; intro w2 H; simp [Act.eval, Value.cells, setL, List.getD] at H; (first | (clear tk0; rename Nat => b1) | (clear tk1; rename Nat => b2) | (clear tk2; rename Nat => b3)))); simp only [Act.put, List.setIfInBounds_toArray, List.set_cons_succ, List.set_cons_zero]))
    have hr := H.loadVarN (P := Try.prog) (ty := 36) (b := b3) m0 (by simp) (by simp)
    exact bodyPost_ret (v := .tuple #[hV ⟨0, false⟩, .bool false]) (by simp [results, Try.results28, asAddr, hr]) rfl ⟨rfl, H.below⟩
  · have HR := Lib.hid (hRR rfl)
    clear hRR
    generalize nxM vs es = nx at h2
    obtain ⟨o, ho⟩ : ∃ o, nx ⟨e0, b0'⟩ = o := ⟨_, rfl⟩
    simp only [ho]
    go_enter Try.func28, Try.ntmps28
    have tk0 : True := trivial
    have tk1 : True := trivial
    have tk2 : True := trivial
    go_wp2_with (first
      | (go_at_call 25; (with_reducible refine (h1 _ _ (by exact H.giveRd m4 f0) (by exact H.giveRd m3 f9)).mono ?_); rintro e w3 ⟨rfl, hb⟩; replace H := H.ext hb; clear hb; dsimp only; (skip))
      | (go_at_call 47; (with_reducible refine (h2 _ _ HR.out (by first | exact H.giveRd m4 f0 | exact H.giveRd m5 f0) (by first | exact H.giveRd m3 f9 | exact H.giveRd m4 f9)).mono ?_); rintro e w3 ⟨k1, k2, k3, k4, rfl, H2⟩; replace H := H.join H2 (by rfl); clear H2; simp only [List.cons_append, List.nil_append] at H; dsimp only; (refine hK _ _ ⟨_, H, by repeat first | exact .here | apply Suf.there⟩ ?_; clear hK K; (try simp only [Act.put, List.setIfInBounds_toArray, List.set_cons_succ, List.set_cons_zero, ho])))
      | (guard_target =~ Code.wp _ (Code.region 3 _ true) _ _ _; refine region_tree0 3 (G := ?_) (.q 0 (.q 3 (.both (.e 1 (.q 2 (.both (.e 4 (.q 5 (.q 6 (.q 7 (.e 8 (.e 9 (.q 10 .nil))))))) (.e 8 (.e 4 (.q 5 (.q 6 (.q 7 (.e 9 (.q 10 .nil)))))))))) (.e 8 (.e 1 (.q 2 (.e 4 (.q 5 (.q 6 (.q 7 (.e 9 (.q 10 .nil)))))))))))) (by kernel_rfl) (by intro c a d v w h; cases d <;> exact h) (by kernel_rfl) H ?_ (fun key3 w3 H2 => ?_); rotate_left 2; (revert w3; intro w2 H))
      | (guard_target =~ Key 3 _; refine ⟨?_⟩; intro k1 k2 k3 k4 nb8 w2 H)
      | (guard_target =~ wpList _ _ _ (_ :: _) _ _; (first | (guard_target =~ wpList _ _ _ (Oper.mk _ (.load _ _) _ _ _ _ :: _) _ _; refine BigFrame.wpList_want rfl (fun K hK => ?_); (refine o_loadNC (row := ?_) rfl rfl H ?_ ?_ ?_ (hK _ _ ?_); rotate_left 1; (repeat first | exact .head _ | apply List.Mem.tail); (focus (intro _; simp [ho]; done)); (focus (intro _; simp [ho]; done))); clear hK K) | (guard_target =~ wpList _ _ _ (Oper.mk _ (.store _ _ _) _ _ _ _ :: _) _ _; refine BigFrame.wpList_want rfl (fun K hK => ?_); refine o_store (l' := ?_) (row := ?_) rfl rfl H rfl ?_ ?_ ?_ ?_ (fun w3 H2 => hK _ _ ?_); rotate_left 2; (exact r2); (focus (intro _; (simp [Act.eval, Value.cells, List.getD, ho]; done))); (focus (simp [Act.eval, Value.cells, List.getD, ho]; done)); (exact rfl); clear hK K; clear H; (try clear w2); revert w3; intro w2 H; (try simp [Act.eval, List.getD, ho] at H); (try simp [Value.cells, setL, ho] at H)) | ((first | (guard_target =~ wpList _ _ _ (Oper.mk _ (.alloc _) _ _ _ _ :: _) _ _; refine BigFrame.wpList_want rfl (fun K hK => ?_); refine o_alloc (z := ?_) rfl ?_ H rfl (fun w3 b2 he H2 => hK _ _ ?_); rotate_left 1; (focus (intro _; simp; with_reducible exact rfl))) | (guard_target =~ wpList _ _ _ (Oper.mk _ (.box _ _) _ _ _ _ :: _) _ _; refine BigFrame.wpList_want rfl (fun K hK => ?_); refine o_box rfl H rfl (fun w3 b2 he H2 => hK _ _ ?_))); clear hK K he; clear H; (try clear w2); revert w3; intro w2 H; (try simp [Act.eval, List.getD, ho] at H); (try simp [Value.cells, setL, ho] at H); (first | (clear tk0; rename Nat => b1) | (clear tk1; rename Nat => b2) | (clear tk2; rename Nat => b3)))); simp only [Act.put, List.setIfInBounds_toArray, List.set_cons_succ, List.set_cons_zero, ho])
      | (guard_target =~ wpTree _ _ _ _ _ _ _; first | (guard_target =~ wpTree _ _ _ (Tr.q _ _) _ _ _; first | (refine tree_quiet ⟨_, H, by repeat first | exact .here | apply Suf.there⟩ rfl rfl rfl (fun K hK => ?_); simp only [List.getElem_toArray, List.getElem_cons_succ, List.getElem_cons_zero]; first | (guard_target =~ Oper.quiet _ (Oper.mk _ (.lookup _ _ _ false) _ _ _ _) _ _ _; refine q_nxtGet (m := ?_) rfl rfl rfl ?_ (hK _ ?_); rotate_left 1; (repeat first | exact .head _ | apply List.Mem.tail); clear hK K; simp only [Act.put, List.setIfInBounds_toArray, List.set_cons_succ, List.set_cons_zero, ho]) | (guard_target =~ Oper.quiet _ (Oper.mk _ (.lookup _ _ _ true) _ _ _ _) _ _ _; refine q_nxtOk (m := ?_) rfl rfl rfl ?_ (hK _ ?_); rotate_left 1; (repeat first | exact .head _ | apply List.Mem.tail); clear hK K; simp only [Act.put, List.setIfInBounds_toArray, List.set_cons_succ, List.set_cons_zero, ho]) | ((guard_target =~ Oper.quiet _ (Oper.mk _ (.field _ _ 3) _ _ _ _) _ _ _; refine q_fldW rfl rfl (hK _ ?_)); clear hK K; simp only [Act.put, List.setIfInBounds_toArray, List.set_cons_succ, List.set_cons_zero, ho]) | (guard_target =~ Oper.quiet _ (Oper.mk _ (.load _ _) _ _ _ _) _ _ _; (refine q_loadNC (row := ?_) rfl rfl ?_ ?_ ?_ (hK _ ?_); rotate_left 1; (repeat first | exact .head _ | apply List.Mem.tail); (focus (intro _; simp [ho]; done)); (focus (intro _; simp [ho]; done))); clear hK K; simp only [Act.put, List.setIfInBounds_toArray, List.set_cons_succ, List.set_cons_zero, ho]) | (go_big_quiet_op; (try refine ⟨_, fun _ _ => rfl, ?_⟩); refine hK _ ?_; clear hK K)) | (refine tree_skip ⟨_, H, by repeat first | exact .here | apply Suf.there⟩ rfl rfl ?_; simp only [List.getElem_toArray, List.getElem_cons_succ, List.getElem_cons_zero, Act.put, List.setIfInBounds_toArray, List.set_cons_succ, List.set_cons_zero, ho])) | (guard_target =~ wpTree _ _ _ (Tr.e _ _) _ _ _; (guard_target =~ wpTree _ _ _ (Tr.e 8 _) _ _ _; refine tree_one rfl rfl (fun K hK => ?_); simp only [List.getElem_toArray, List.getElem_cons_succ, List.getElem_cons_zero]; ((guard_target =~ Oper.wp _ (Oper.mk _ (.alloc _) _ _ _ _) _ _ _ _; refine o_alloc (z := ?_) rfl ?_ H rfl (fun w3 b2 he H2 => hK _ _ ⟨_, H2, ?_⟩ ?_); rotate_left 1; (focus (intro _; simp; with_reducible exact rfl))); (guard_target =~ Suf _ _; repeat first | exact .here | apply Suf.there); clear hK K he; clear H; (try clear w2); revert w3; intro w2 H; (try simp [Act.eval, List.getD, ho] at H); (try simp [Value.cells, setL, ho] at H)); simp only [Act.put, List.setIfInBounds_toArray, List.set_cons_succ, List.set_cons_zero, ho]; rename Nat => nb8)) | (guard_target =~ wpTree _ _ _ (Tr.both _ _) _ _ _; refine tree_both ?_ ?_) | (guard_target =~ wpTree _ _ _ (Tr.e _ _) _ _ _; first | (refine tree_one rfl rfl (fun K hK => ?_); simp only [List.getElem_toArray, List.getElem_cons_succ, List.getElem_cons_zero]; first | ((first | (guard_target =~ Oper.wp _ (Oper.mk _ (.store _ _ _) _ _ _ _) _ _ _ _; refine o_store (l' := ?_) (row := ?_) rfl rfl H rfl ?_ ?_ ?_ ?_ (fun w3 H2 => hK _ _ ⟨_, H2, ?_⟩ ?_); rotate_left 2; (first | exact r0 | exact r1); (focus (intro _; (simp [Act.eval, Value.cells, List.getD, ho]; done))); (focus (simp [Act.eval, Value.cells, List.getD, ho]; done)); (exact rfl); (guard_target =~ Suf _ _; repeat first | exact .here | apply Suf.there); clear hK K; clear H; (try clear w2); revert w3; intro w2 H; (try simp [Act.eval, List.getD, ho] at H); (try simp [Value.cells, setL, ho] at H)) | (guard_target =~ Oper.wp _ (Oper.mk _ (.lookup _ _ _ true) _ _ _ _) _ _ _ _; refine o_nxtOk (m := ?_) rfl rfl rfl H ?_ (hK _ _ ⟨_, H, by repeat first | exact .here | apply Suf.there⟩ ?_); rotate_left 1; (repeat first | exact .head _ | apply List.Mem.tail); clear hK K)); simp only [Act.put, List.setIfInBounds_toArray, List.set_cons_succ, List.set_cons_zero, ho]) | (go_big_op; (skip))) | (refine tree_one_skip ⟨_, H, by repeat first | exact .here | apply Suf.there⟩ rfl rfl ?_; simp only [List.getElem_toArray, List.getElem_cons_succ, List.getElem_cons_zero, Act.put, List.setIfInBounds_toArray, List.set_cons_succ, List.set_cons_zero, ho])) | (refine tree_nil ?_; (first | replace H : Own _ _ _ (Res.cells nb8 _ :: _) := H | replace H : Own _ _ _ (Res.cells nb8 _ :: _) := H.front1); revert w2; revert nb8; revert k4; revert k3; revert k2; revert k1; exact key3.out) | (guard_target =~ wpTree _ _ _ Tr.nil _ _ _; refine tree_nil ?_)))
    have hr := H.loadVarN (P := Try.prog) (ty := 36) (b := b3) m2 (by simp) (by simp)
    exact bodyPost_ret (v := .tuple #[hV (o.getD ⟨0, false⟩), .bool o.isSome]) (by simp [results, Try.results28, asAddr, hr]) rfl ⟨rfl, H.below⟩
/-- What leaves a vertex, by the lists. -/
theorem outS_get {vs : List Vt} {es : List Eg} {os : List OutE} (H : RightP vs es) (hS : OutS vs es os) (v : Int) : (outZ vs es v = [] ∧ (getA (os.map oE) v).getD slZ = slZ) ∨ ∃ o ∈ os, (getA (os.map oE) v).getD slZ = o.s ∧ o.l = outZ vs es v := by
  have hn : ((os.map oE).map (·.1)).Nodup := by rw [oE_keys]; exact hS.nodup
  by_cases hv : v ∈ os.map (·.v)
  · obtain ⟨o, ho, rfl⟩ := List.mem_map.1 hv
    refine .inr ⟨o, ho, ?_, (hS.each o ho).2⟩
    rw [(getA_some hn).2 (List.mem_map.2 ⟨o, ho, rfl⟩)]; rfl
  · refine .inl ⟨?_, ?_⟩
    · have hno : ∀ h, h ∉ outZ vs es v := fun h hh => by
        obtain ⟨h1, h2⟩ := (mem_outZ H).1 hh
        obtain ⟨o, ho, e⟩ := hS.all h h1
        exact hv (List.mem_map.2 ⟨o, ho, by rw [e, h2]⟩)
      exact List.eq_nil_iff_forall_not_mem.2 hno
    · rw [getA_none.2 (by rw [oE_keys]; exact hv)]; rfl
theorem outS_ret {vs : List Vt} {es : List Eg} {os : List OutE} {B : Nat} {w0 w : World} {l : List Res} {F : Nat → Prop} (H : Own B w0 w (os.map oB ++ l)) (hR0 : RightP vs es) (hS : OutS vs es os) (v : Int) (hF : ∀ k, F k → k < B) :
    ∃ A c, (getA (os.map oE) v).getD slZ = .slice A (outZ vs es v).length c ∧ Sl F w A (hR (outZ vs es v)) ∧ (outZ vs es v).length ≤ c ∧ c ≤ maxLen := by
  rcases outS_get hR0 hS v with ⟨h1, h2⟩ | ⟨o, ho, h1, h2⟩
  · rw [h1, h2]
    exact ⟨none, 0, rfl, Sl.nil_ _ _ _, Nat.le_refl _, Nat.zero_le _⟩
  · obtain ⟨A, c, h3, h4, h5, h6⟩ := H.giveGrow (e := 36) (size := 2) (v := o.s) (n := o.l.length) (xs := Go.Proofs.Ytlhmjhildlnokaa.hR o.l) (List.mem_append_left _ (List.mem_map.2 ⟨o, ho, rfl⟩)) hF
    rw [h1, h3, ← h2]
    exact ⟨A, c, rfl, h6, h4, h5⟩
theorem wheel_rw {os : List OutE} : (os.map oB).all (fun r => !r.ro) = true := by
  rw [List.all_eq_true]; intro r hr
  obtain ⟨o, _, rfl⟩ := List.mem_map.1 hr
  rfl
theorem wheel_rw4 {os : List OutE} {k1 k2 k3 k4 : Nat} {x1 : Hf → Option Hf} {x2 : List (Int × Value)} {x3 : Hf → Option Int} {x4 : Int → Option Vt} : (mNxt k4 x1 :: mOut k3 x2 :: mFrom k2 x3 :: mVat k1 x4 :: os.map oB).all (fun r => !r.ro) = true := by
  have := wheel_rw (os := os)
  simp only [List.all_cons, this]
  rfl
theorem fldW2 (a b c d : Value) (w : World) : (Instr.field 89 (.agg #[a, b, c, d]) 2).run Try.prog w = .ok c w := by kernel_rfl
theorem o_fldW2 {o : Oper} {a : Act} {w : World} {x : Operand} {C : Act → World → Prop} {Q : Exit → Act → World → Prop} {p q r s : Value} (ho : o.op = .field 89 x 2) (hx : a.eval x = .agg #[p, q, r, s]) (hk : C (a.put o.dst r) w) : o.wp Try.prog a w C Q := by
  unfold Oper.wp execOp
  simp only [ho, hx, Sem.run_bind, fldW2]
  exact hk
set_option maxRecDepth 100000 in
set_option maxHeartbeats 8000000 in
theorem sout_any (vs : List Vt) (es : List Eg) (A A2 : Option Addr) (n m c c2 : Nat) (F : Nat → Prop) (id : Int) (w : World) (hn : n = vs.length) (hm : m = es.length) (hs : Sl F w A (vR vs)) (hs2 : Sl F w A2 (eR es)) (hF : ∀ k, F k → k < w.heap.size) (hl : n ≤ 1000000) (hl2 : m ≤ 1000000) (hc2 : m ≤ c2) (hcc : c2 ≤ maxLen) :
    Calls Try.prog 23 #[.agg #[.slice A n c, .slice A2 m c2], .int .i64 id] w (RetH F w (if rightB vs es then outZ vs es id else [])) := by
  obtain ⟨b0, o0, H1, f0⟩ := (Own.start w).addSl (hs.ro (by rfl))
  obtain ⟨b9, o9, H, f9⟩ := H1.addSl (hs2.ro (by rfl))
  clear hs hs2 H1
  have h1 := fun F w h1 h2 => right_any vs es A A2 n m c c2 F w hn hm h1 h2 hl hl2 hc2 hcc
  have h2 : ∀ F w, RightP vs es → Sl F w A (vR vs) → Sl F w A2 (eR es) → _ := fun F w hR h1 h2 => by
    have := sturn_any vs es A A2 c c2 F w hR h1 h2
    rwa [← hn, ← hm] at this
  have hRR : rightB vs es = true → RightP vs es := rightB_P
  clear hn hm
  generalize rightB vs es = r at h1 hRR
  cases r
  · go_enter Try.func23, Try.ntmps23
    have tk0 : True := trivial
    go_wp2_with (first
      | (go_at_call 25; (with_reducible refine (h1 _ _ (by exact H.giveRd m2 f0) (by exact H.giveRd m1 f9)).mono ?_); rintro e w3 ⟨rfl, hb⟩; replace H := H.ext hb; clear hb; dsimp only)
      | (guard_target =~ wpList _ _ _ (_ :: _) _ _; (first | (guard_target =~ wpList _ _ _ (Oper.mk _ (.load _ _) _ _ _ _ :: _) _ _; refine BigFrame.wpList_want rfl (fun K hK => ?_); (refine o_loadNC (row := ?_) rfl rfl H ?_ ?_ ?_ (hK _ _ ?_); rotate_left 1; (repeat first | exact .head _ | apply List.Mem.tail); (focus (intro _; simp; done)); (focus (intro _; simp; done))); clear hK K) | ((guard_target =~ wpList _ _ _ (Oper.mk _ (.box _ _) _ _ _ _ :: _) _ _; refine BigFrame.wpList_want rfl (fun K hK => ?_); refine o_box rfl H rfl (fun w3 b2 he H2 => hK _ _ ?_)); clear hK K he; clear H; (try clear w2); revert w3; intro w2 H; simp [Act.eval, Value.cells, setL, List.getD] at H; (clear tk0; rename Nat => b1))); simp only [Act.put, List.setIfInBounds_toArray, List.set_cons_succ, List.set_cons_zero]))
    go_ret
    exact ⟨none, 0, rfl, H.below, Sl.nil_ _ _ _, Nat.le_refl _, Nat.zero_le _⟩
  · have HR := Lib.hid (hRR rfl)
    have HF := Lib.hid hF
    clear hRR hF
    go_enter Try.func23, Try.ntmps23
    have tk0 : True := trivial
    go_wp2_with (first
      | (guard_target =~ wpList _ _ _ (Oper.mk _ (.field _ _ 2) _ _ _ _ :: _) _ _; refine BigFrame.wpList_want rfl (fun K hK => ?_); refine o_fldW2 rfl rfl (hK _ _ ?_); clear hK K; simp only [Act.put, List.setIfInBounds_toArray, List.set_cons_succ, List.set_cons_zero])
      | (go_at_call 25; (with_reducible refine (h1 _ _ (by exact H.giveRd m2 f0) (by exact H.giveRd m1 f9)).mono ?_); rintro e w3 ⟨rfl, hb⟩; replace H := H.ext hb; clear hb; dsimp only)
      | (go_at_call 47; (with_reducible refine (h2 _ _ HR.out (by exact H.giveRd m2 f0) (by exact H.giveRd m1 f9)).mono ?_); rintro e w3 ⟨k1, k2, k3, k4, os, rfl, hS, H2⟩; have HS := Lib.hid hS; clear hS; replace H := H.join (l' := _ :: _ :: _ :: _ :: os.map oB) H2 wheel_rw4; clear H2; simp only [List.cons_append, List.nil_append] at H; dsimp only)
      | (guard_target =~ wpList _ _ _ (_ :: _) _ _; (first | (guard_target =~ wpList _ _ _ (Oper.mk _ (.load _ _) _ _ _ _ :: _) _ _; refine BigFrame.wpList_want rfl (fun K hK => ?_); (refine o_loadNC (row := ?_) rfl rfl H ?_ ?_ ?_ (hK _ _ ?_); rotate_left 1; (repeat first | exact .head _ | apply List.Mem.tail); (focus (intro _; simp; done)); (focus (intro _; simp; done))); clear hK K) | ((guard_target =~ wpList _ _ _ (Oper.mk _ (.box _ _) _ _ _ _ :: _) _ _; refine BigFrame.wpList_want rfl (fun K hK => ?_); refine o_box rfl H rfl (fun w3 b2 he H2 => hK _ _ ?_)); clear hK K he; clear H; (try clear w2); revert w3; intro w2 H; simp [Act.eval, Value.cells, setL, List.getD] at H; (clear tk0; rename Nat => b1)) | (guard_target =~ wpList _ _ _ (Oper.mk _ (.lookup _ _ _ false) _ _ _ _ :: _) _ _; refine BigFrame.wpList_want rfl (fun K hK => ?_); refine o_outGet (m := ?_) rfl rfl rfl H ?_ (hK _ _ ?_); rotate_left 1; (repeat first | exact .head _ | apply List.Mem.tail); clear hK K)); simp only [Act.put, List.setIfInBounds_toArray, List.set_cons_succ, List.set_cons_zero]))
    obtain ⟨Ar, cr, h3, h4, h5, h6⟩ := outS_ret H.tail.tail.tail.tail HR.out HS.out id HF.out
    simp only [h3]
    go_ret
    exact ⟨Ar, cr, rfl, H.below, h4, h5, h6⟩
end Go.Proofs.Ytlhmjhildlnokaa
