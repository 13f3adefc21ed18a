/-
  The walk of the document's Out.
-/
import Derived.Test.YtlhmjhildlnokaaSpin11
namespace Go.Proofs.Ytlhmjhildlnokaa
set_option linter.unusedVariables false
set_option linter.unusedSimpArgs false
open Go.RowKit

def insS (lt : Hf → Hf → Bool) (x : Hf) (st : List Hf × Bool) (y : Hf) : List Hf × Bool := if (!st.2 && lt x y) = true then (st.1 ++ [x, y], true) else (st.1 ++ [y], st.2)
def insE (x : Hf) (st : List Hf × Bool) : List Hf := if st.2 then st.1 else st.1 ++ [x]
theorem insS_done (lt : Hf → Hf → Bool) (x : Hf) : ∀ (ys l : List Hf), ys.foldl (insS lt x) (l, true) = (l ++ ys, true)
  | [], l => by simp
  | y :: ys, l => by
    have : insS lt x (l, true) y = (l ++ [y], true) := by simp [insS]
    rw [List.foldl_cons, this, insS_done lt x ys]; simp
theorem insS_eq (lt : Hf → Hf → Bool) (x : Hf) : ∀ (ys l : List Hf), insE x (ys.foldl (insS lt x) (l, false)) = l ++ insH lt x ys
  | [], l => by simp [insE, insH]
  | y :: ys, l => by
    rw [List.foldl_cons]
    unfold insH
    by_cases h : lt x y = true
    · have : insS lt x (l, false) y = (l ++ [x, y], true) := by simp [insS, h]
      rw [this, insS_done, if_pos h]
      simp [insE]
    · have : insS lt x (l, false) y = (l ++ [y], false) := by simp [insS, h]
      rw [this, insS_eq lt x ys, if_neg h]
      simp
theorem insS_len (lt : Hf → Hf → Bool) (x : Hf) (st : List Hf × Bool) (y : Hf) : (insS lt x st y).1.length ≤ st.1.length + 2 := by
  unfold insS; split <;> simp
theorem insS_lens (lt : Hf → Hf → Bool) (x : Hf) : ∀ (ys : List Hf) (st : List Hf × Bool), (ys.foldl (insS lt x) st).1.length ≤ st.1.length + 2 * ys.length
  | [], st => by simp
  | y :: ys, st => by
    rw [List.foldl_cons]
    have h1 := insS_lens lt x ys (insS lt x st y)
    have h2 := insS_len lt x st y
    rw [List.length_cons]; omega
/-- What leaves a vertex, so far. -/
def outF (vs : List Vt) (es : List Eg) (v : Int) (hs : List Hf) : List Hf := hs.foldl (fun out h => if fromZ es h = v then insH (ltAt vs es v) h out else out) []
theorem outF_all (vs : List Vt) (es : List Eg) (v : Int) : outF vs es v (halves es) = outZ vs es v := rfl
theorem outF_step (vs : List Vt) (es : List Eg) (v : Int) {hs : List Hf} {h : Hf} : outF vs es v (hs ++ [h]) = if fromZ es h = v then insH (ltAt vs es v) h (outF vs es v hs) else outF vs es v hs := by unfold outF; rw [List.foldl_append]; rfl
theorem insH_mem {lt : Hf → Hf → Bool} {x y : Hf} {l : List Hf} : y ∈ insH lt x l ↔ y = x ∨ y ∈ l := by rw [(insH_perm x l).mem_iff, List.mem_cons]
theorem outF_at (vs : List Vt) (es : List Eg) (v : Int) (hs : List Hf) (hh : ∀ h ∈ hs, h ∈ halves es) : (∀ y ∈ outF vs es v hs, y ∈ halves es ∧ fromZ es y = v) ∧ (outF vs es v hs).length ≤ hs.length := by
  obtain ⟨n, hn⟩ : ∃ n, hs.length = n := ⟨_, rfl⟩
  induction n generalizing hs with
  | zero => obtain rfl := List.eq_nil_of_length_eq_zero hn; simp [outF]
  | succ n ih =>
    rcases List.eq_nil_or_concat hs with rfl | ⟨hs, h, rfl⟩
    · simp at hn
    rw [List.concat_eq_append] at hh hn ⊢
    have R := ih hs (fun x hx => hh x (by simp [hx])) (by simpa using hn)
    rw [outF_step]
    split
    · rename_i hf
      refine ⟨fun y hy => ?_, by rw [(insH_perm h _).length_eq]; simp; exact R.2⟩
      rcases insH_mem.1 hy with rfl | hy
      · exact ⟨hh _ (by simp), hf⟩
      · exact R.1 y hy
    · exact ⟨R.1, by rw [List.length_append]; have := R.2; omega⟩
theorem eg_idx {vs : List Vt} {es : List Eg} (H : RightP vs es) {j : Nat} {e : Eg} (hj : es[j]? = some e) : es.findIdx? (fun v => v.id == e.id) = some j := by
  have hlt := (List.getElem?_eq_some_iff.1 hj)
  rw [List.findIdx?_eq_some_iff_getElem]
  refine ⟨hlt.1, by simp [hlt.2], fun k hk => ?_⟩
  have hkl : k < es.length := Nat.lt_trans hk hlt.1
  have h1 : es[k].id < e.id := (pairwise_get _).1 H.ids k j _ _ hk (List.getElem?_eq_getElem hkl) hj
  simp; omega
set_option maxRecDepth 100000 in
theorem fromR_any {vs : List Vt} {es : List Eg} (H : RightP vs es) (A A2 : Option Addr) (n m c c2 : Nat) (F : Nat → Prop) (e0 : Int) (b0' : Bool) (z : Int) (w : World) (hm : m = es.length) (hs2 : Sl F w A2 (eR es)) (hh : (⟨e0, b0'⟩ : Hf) ∈ halves es) (hz : fromZ es ⟨e0, b0'⟩ = z) :
    Calls Try.prog 32 #[.agg #[.slice A n c, .slice A2 m c2], .agg #[.int .i64 e0, .bool b0']] w fun e w' => e = .returned (.int .i64 z) ∧ Below w.heap.size w w' := by
  obtain ⟨e, he, h1⟩ := mem_halves.1 hh
  obtain ⟨j, hj⟩ := List.getElem?_of_mem he
  obtain ⟨i, x, y⟩ := e
  obtain rfl : e0 = i := h1
  have hf := eg_idx H hj
  have := from_any es A A2 n m c c2 F e0 b0' w hm hs2 (by have := H.few.2; omega) hj hf
  refine this.mono ?_
  rintro r w' ⟨rfl, hb⟩
  refine ⟨?_, hb⟩
  have hs := from_step H hj
  rw [← hz]
  cases b0'
  · rw [hs.1]; rfl
  · rw [hs.2]; rfl
set_option maxRecDepth 100000 in
theorem atR_any {vs : List Vt} {es : List Eg} (H : RightP vs es) (A A2 : Option Addr) (n m c c2 : Nat) (F : Nat → Prop) (id x y : Int) (w : World) (hn : n = vs.length) (hs : Sl F w A (vR vs)) (hi : (vs.find? fun v => v.id == id).isSome = true) (hr : rpt vs id = ⟨x, y⟩) :
    Calls Try.prog 33 #[.agg #[.slice A n c, .slice A2 m c2], .int .i64 id] w fun e w' => e = .returned (pV x y) ∧ Below w.heap.size w w' := by
  unfold rpt at hr
  cases hf : (vs.find? fun v => v.id == id) with
  | none => rw [hf] at hi; cases hi
  | some v =>
    obtain ⟨i, ⟨x', y'⟩⟩ := v
    rw [hf] at hr
    have hr : (⟨x', y'⟩ : Pt) = ⟨x, y⟩ := hr
    injection hr with e1 e2
    subst e1 e2
    exact refAt_any vs A A2 n m c c2 F id i x' y' w hn hs (by have := H.few.1; omega) hf
/-- Three points of directions out of a vertex. -/
theorem aroundO_any {vs : List Vt} {es : List Eg} (H : RightP vs es) {v : Int} {g h : Hf} (hg : g ∈ halves es ∧ fromZ es g = v) (hh : h ∈ halves es ∧ fromZ es h = v) {ox oy ax ay bx b_y : Int} (h1 : rpt vs v = ⟨ox, oy⟩) (h2 : rpt vs (toZ es g) = ⟨ax, ay⟩) (h3 : rpt vs (toZ es h) = ⟨bx, b_y⟩) (w : World) :
    Calls Try.prog 54 #[pV ox oy, pV ax ay, pV bx b_y] w fun e w' => e = .returned (.int .i64 (aroundZ (rpt vs v) (farP vs es g) (farP vs es h))) ∧ Below w.heap.size w w' := by
  have eg := half_ends H hg.1
  have eh := half_ends H hh.1
  have e1 := around_at H hg hh
  have i1 : inB (rpt vs v) = true := by rw [← hg.2]; exact rpt_in H.verts eg.1
  have i2 := rpt_in H.verts eg.2.1
  have i3 := rpt_in H.verts eh.2.1
  rw [e1.1, around_wedge e1.2.1 e1.2.2]
  unfold farP
  rw [h1] at i1
  rw [h2] at i2
  rw [h3] at i3
  rw [h1, h2, h3]
  exact refAround_any ox oy ax ay bx b_y (inB_P i1) (inB_P i2) (inB_P i3) w
def OutRel (lt : Hf → Hf → Bool) (x : Hf) (L : List Hf) (n : Nat) (B : Nat) (w0 : World) (x1 : Res) (l : List Res) (k : Nat) (u dn i : Value) (wr : World) : Prop :=
  ∃ l2 d, (L.take (n - k)).foldl (insS lt x) ([], false) = (l2, d) ∧ k ≤ n ∧ dn = .bool d ∧ i = .int .i64 ((n - k : Nat) : Int) ∧ Own B w0 wr (.grow 36 2 u l2.length (hR l2) :: x1 :: l)
theorem foldl_take {α β : Type} (f : β → α → β) (b : β) {L : List α} {j : Nat} {a : α} (h : L[j]? = some a) : (L.take (j + 1)).foldl f b = f ((L.take j).foldl f b) a := by
  rw [List.take_add_one, h, List.foldl_append]; rfl
set_option maxRecDepth 100000 in
set_option maxHeartbeats 16000000 in
theorem rout_any (vs : List Vt) (es : List Eg) (A A2 : Option Addr) (n m c c2 : Nat) (F : Nat → Prop) (id : Int) (w : World) (hR0 : RightP vs es) (hn : n = vs.length) (hm : m = es.length) (hs : Sl F w A (vR vs)) (hs2 : Sl F w A2 (eR es)) (hF : ∀ k, F k → k < w.heap.size) :
    Calls Try.prog 24 #[.agg #[.slice A n c, .slice A2 m c2], .int .i64 id] w (RetH F w (outZ vs es id)) := by
  obtain ⟨b0, o0, H1, f0⟩ := (Own.start w).addSl (hs.ro (by rfl))
  obtain ⟨b9, o9, H, f9⟩ := H1.addSl (hs2.ro (by rfl))
  clear hs hs2 H1
  have h1 := fun F w h1 hF => halves_any vs es A A2 n m c c2 F w hm h1 hF (by have := hR0.few.2; omega)
  have hF1 := fun F w e0 b0' z h1 h2 h3 => fromR_any hR0 A A2 n m c c2 F e0 b0' z w hm h1 h2 h3
  have hA1 := fun F w id x y h1 h2 h3 => atR_any hR0 A A2 n m c c2 F id x y w hn h1 h2 h3
  have HR := Lib.hid hR0
  have hS := few_halves hR0
  have HF := Lib.hid hF
  clear hn hm hR0 hF
  go_enter Try.func24, Try.ntmps24
  have tk0 : True := trivial
  go_wp2_with (first
    | (go_at_call 53; (with_reducible refine (h1 _ _ (by exact H.giveRd m1 f9) (H.fw_lt rfl HF.out)).mono ?_); rintro e w3 ⟨A3, c3, rfl, hb, s3, q3, q4⟩; replace H := H.ext hb; clear hb; obtain ⟨b3, o3, H4, f3⟩ := H.addSl s3; clear H s3; have H := H4; clear H4; dsimp only; (skip))
    | (guard_target =~ wpList _ _ _ (_ :: _) _ _; (first | (guard_target =~ wpList _ _ _ (Oper.mk _ (.load _ _) _ _ _ _ :: _) _ _; refine BigFrame.wpList_want rfl (fun K hK => ?_); (refine o_loadNC (row := ?_) rfl rfl H ?_ ?_ ?_ (hK _ _ ?_); rotate_left 1; (repeat first | exact .head _ | apply List.Mem.tail); (focus (intro _; simp; done)); (focus (intro _; simp; done))); clear hK K) | ((guard_target =~ wpList _ _ _ (Oper.mk _ (.box _ _) _ _ _ _ :: _) _ _; refine BigFrame.wpList_want rfl (fun K hK => ?_); refine o_box rfl H rfl (fun w3 b2 he H2 => hK _ _ ?_)); clear hK K he; clear H; (try clear w2); revert w3; intro w2 H; simp [Act.eval, Value.cells, setL, List.getD] at H; (clear tk0; rename Nat => b1))); simp only [Act.put, List.setIfInBounds_toArray, List.set_cons_succ, List.set_cons_zero]))
  have hsz : (halves es).length ≤ 2048 := hS
  generalize hN : (halves es).length = N at hsz ⊢
  have HN := Lib.hid hN
  clear hN hS
  have H := (H.grow_nil 36 2)
  go_loopg [7, 5] N (fun k i u wr => ∃ L, L = outF vs es id ((halves es).take (N - k)) ∧ k ≤ N ∧ i = .int .i64 ((N - k : Nat) : Int) ∧ Own w.heap.size w wr (.grow 36 2 u L.length (hR L) :: .rd A3 b3 o3 (hR (halves es)) :: .cells b1 [.slice A n c, .slice A2 m c2] :: .rd A2 b9 o9 (eR es) :: .rd A b0 o0 (vR vs) :: []))
  case atStart => exact ⟨[], by rw [Nat.sub_self]; rfl, Nat.le_refl _, by simp, H⟩
  case round =>
    clear H
    obtain ⟨L, hL, hk, rfl, H⟩ := hrel
    by_cases hlt : 0 < gk
    · obtain ⟨j, hj⟩ : ∃ j, N - gk = j := ⟨_, rfl⟩
      have hjl : j < N := by omega
      rw [hj] at hL ⊢
      obtain ⟨e, b, he⟩ := hf_get (by have := HN.out; omega : j < (halves es).length)
      obtain rfl := H.rdAddr m1 (hR_pos (by have := HN.out; omega : j < (halves es).length))
      have hp := h_at (A := some ⟨b3, o3, none⟩) (bb := b3) (off := o3) he
      have hmem : (⟨e, b⟩ : Hf) ∈ halves es := List.mem_of_getElem? he
      have hLs := outF_at vs es id ((halves es).take j) fun h hh => List.mem_of_mem_take hh
      rw [← hL] at hLs
      have hLl : L.length ≤ 2048 := by have := hLs.2; rw [List.length_take] at this; omega
      have hst : outF vs es id ((halves es).take (j + 1)) = if fromZ es ⟨e, b⟩ = id then insH (ltAt vs es id) ⟨e, b⟩ L else L := by rw [List.take_add_one, he, hL]; exact outF_step vs es id
      obtain ⟨z, hz⟩ : ∃ z, fromZ es ⟨e, b⟩ = z := ⟨_, rfl⟩
      have hf1 := fun F w h1 => hF1 F w e b z h1 hmem hz
      rw [hz] at hst
      have HST := Lib.hid hst
      have HJ := Lib.hid hj
      have HMEM := Lib.hid hmem
      have HZ := Lib.hid hz
      have HLS := Lib.hid hLs
      clear he hL hst hmem hz hj hLs
      by_cases hzi : z = id
      · subst hzi
        rw [if_pos rfl] at HST
        have hxz : (z != z) = false := by simp
        go_wp2_with (first
          | (guard_target =~ Code.wp _ (Code.region 6 _ true) _ _ _; refine region_treeC0 6 (G := True) (.q 0 (.q 1 (.q 2 (.q 3 (.q 4 (.q 5 (.q 6 (.q 7 .nil)))))))) (by kernel_rfl) (by intro c a d v w h; cases d <;> exact h) (by kernel_rfl) H ⟨trivial⟩ (fun _ w3 H2 => ?_); (clear H; (try clear w2); revert w3; intro w2 H))
          | (guard_target =~ wpTreeC _ _ _ _ _ _ _; first | (guard_target =~ wpTreeC _ _ _ (Tr.e _ Tr.nil) _ _ _; refine treeC_last (by decide +kernel) H rfl rfl (fun w3 H2 K hK => ?_); clear H; (try clear w2); (revert w3; intro w2 H); simp only [List.getElem_toArray, List.getElem_cons_succ, List.getElem_cons_zero]; (first | fail); simp only [Act.put, List.setIfInBounds_toArray, List.set_cons_succ, List.set_cons_zero]) | (guard_target =~ wpTreeC _ _ _ (Tr.q _ _) _ _ _; first | (refine treeC_quiet ⟨_, H, by repeat first | exact .here | apply Suf.there⟩ rfl rfl rfl (fun K hK => ?_); simp only [List.getElem_toArray, List.getElem_cons_succ, List.getElem_cons_zero]; first | (guard_target =~ Oper.quiet _ (Oper.mk _ (.load _ _) _ _ _ _) _ _ _; (first | (refine q_loadN (cs := ?_) (r := ?_) rfl rfl ?_ ?_ ?_ ?_ (hK _ ?_); rotate_left 2; (with_reducible assumption); (repeat first | exact .head _ | apply List.Mem.tail); (focus (intro _; simp; done)); (focus (intro _; simp; done))) | (refine q_loadNC (row := ?_) rfl rfl ?_ ?_ ?_ (hK _ ?_); rotate_left 1; (repeat first | exact .head _ | apply List.Mem.tail); (focus (intro _; simp; done)); (focus (intro _; simp; done)))); clear hK K; simp only [Act.put, List.setIfInBounds_toArray, List.set_cons_succ, List.set_cons_zero]) | (go_big_quiet_op; (try refine ⟨_, fun _ _ => rfl, ?_⟩); refine hK _ ?_; clear hK K)) | (refine treeC_call (v := ?_) ⟨_, H, by repeat first | exact .here | apply Suf.there⟩ rfl rfl (fun w3 H K hK => ?_) ?_; rotate_left 1; (focus (simp only [List.getElem_toArray, List.getElem_cons_succ, List.getElem_cons_zero]; first | (go_big_op; first | exact hK _ (Ext.refl _) | (go_at_call 32; (with_reducible refine (hf1 _ _ (by exact H.giveRd m3 f9)).mono ?_); rintro e w3 ⟨rfl, hb⟩; dsimp only; first | exact hK _ hb | exact hK _ (Ext.refl _))))); simp only [List.getElem_toArray, List.getElem_cons_succ, List.getElem_cons_zero, Act.put, List.setIfInBounds_toArray, List.set_cons_succ, List.set_cons_zero]) | (refine treeC_skip ⟨_, H, by repeat first | exact .here | apply Suf.there⟩ rfl rfl ?_; simp only [List.getElem_toArray, List.getElem_cons_succ, List.getElem_cons_zero, Act.put, List.setIfInBounds_toArray, List.set_cons_succ, List.set_cons_zero])) | (guard_target =~ wpTreeC _ _ _ (Tr.both _ _) _ _ _; refine treeC_both ?_ ?_) | (guard_target =~ wpTreeC _ _ _ (Tr.e _ _) _ _ _; first | (refine treeC_one H rfl rfl (fun w3 H2 K hK => ?_); clear H; (try clear w2); (revert w3; intro w2 H); simp only [List.getElem_toArray, List.getElem_cons_succ, List.getElem_cons_zero]; first | ((first | fail); simp only [Act.put, List.setIfInBounds_toArray, List.set_cons_succ, List.set_cons_zero]) | (go_big_op; (first | fail))) | (refine treeC_one_skip (fun w3 hx => ⟨_, H.ext hx, by repeat first | exact .here | apply Suf.there⟩) rfl rfl (fun w3 hx => ?_); replace H := H.ext hx; clear hx; (try clear w2); revert w3; intro w2 H; simp only [List.getElem_toArray, List.getElem_cons_succ, List.getElem_cons_zero, Act.put, List.setIfInBounds_toArray, List.set_cons_succ, List.set_cons_zero])) | (guard_target =~ wpTreeC _ _ _ Tr.nil _ _ _; refine treeC_nil H (fun w3 H2 => ?_); clear H; (try clear w2); revert w3; intro w2 H)))
        have hx : (⟨e, b⟩ : Hf) ∈ halves es ∧ fromZ es ⟨e, b⟩ = z := ⟨HMEM.out, HZ.out⟩
        have ex := half_ends HR.out hx.1
        obtain ⟨x2, hx2⟩ : ∃ x2, fromZ es ⟨e, !b⟩ = x2 := ⟨_, rfl⟩
        obtain ⟨ox, oy, ho⟩ : ∃ ox oy, rpt vs z = ⟨ox, oy⟩ := ⟨_, _, rfl⟩
        obtain ⟨ax, ay, ha⟩ : ∃ ax ay, rpt vs x2 = ⟨ax, ay⟩ := ⟨_, _, rfl⟩
        have hf2 := fun F w h1 => hF1 F w e (!b) x2 h1 (twin_mem hx.1) hx2
        have ha1 := fun F w h1 => hA1 F w z ox oy h1 (by rw [← hx.2]; exact ex.1) ho
        have ha2 := fun F w h1 => hA1 F w x2 ax ay h1 (by rw [← hx2]; exact ex.2.1) ha
        have HX := Lib.hid hx
        have HX2 := Lib.hid hx2
        have HO := Lib.hid ho
        have HAa := Lib.hid ha
        clear hx ex hx2 ho ha
        have ⟨gkA, hgA⟩ : ∃ g, g = gk := ⟨_, rfl⟩
        obtain ⟨Ao, co, rfl⟩ := H.growForm m0
        generalize hLn : L.length = n2 at H hLl ⊢
        have HLN := Lib.hid hLn
        clear hLn
        have H := (H.grow_nil 36 2)
        go_loopg [8, 9, 10] n2 (OutRel (ltAt vs es z) ⟨e, b⟩ L n2 w.heap.size w (.grow 36 2 (.slice Ao n2 co) n2 (hR L)) (.rd (some ⟨b3, o3, none⟩) b3 o3 (hR (halves es)) :: .cells b1 [.slice A n c, .slice A2 m c2] :: .rd A2 b9 o9 (eR es) :: .rd A b0 o0 (vR vs) :: []))
        case atStart => exact ⟨[], false, by simp, Nat.le_refl _, rfl, by simp, H⟩
        case round =>
          clear H
          obtain ⟨l2, d2, hfold, hk2, rfl, rfl, H⟩ := hrel
          have hl2 : l2.length ≤ 4096 := by
            have := insS_lens (ltAt vs es z) ⟨e, b⟩ (L.take (n2 - gk)) ([], false)
            rw [hfold, List.length_take] at this
            simp only [List.length_nil] at this
            omega
          by_cases hlt2 : 0 < gk
          · obtain ⟨q, hq⟩ : ∃ q, n2 - gk = q := ⟨_, rfl⟩
            have hql : q < n2 := by omega
            rw [hq] at hfold ⊢
            obtain ⟨f, d, hf⟩ := hf_get (by have := HLN.out; omega : q < L.length)
            obtain ⟨bo, cq, ho⟩ := H.growSome m1 (by omega) (by decide)
            injection ho with ho1 ho2 ho3
            subst ho1 ho3
            have hp2 : (Res.grow 36 2 (.slice (some ⟨bo, 0, none⟩) n2 co) n2 (hR L)).at bo (q * 2) [.int .i64 f, .bool d] := at_grow (hR_at hf)
            have hy := HLS.out.1 _ (List.mem_of_getElem? hf)
            have ey := half_ends HR.out hy.1
            obtain ⟨y2, hy2⟩ : ∃ y2, fromZ es ⟨f, !d⟩ = y2 := ⟨_, rfl⟩
            obtain ⟨bx, b_y, hb2⟩ : ∃ bx b_y, rpt vs y2 = ⟨bx, b_y⟩ := ⟨_, _, rfl⟩
            have hf3 := fun F w h1 => hF1 F w f (!d) y2 h1 (twin_mem hy.1) hy2
            have ha3 := fun F w h1 => hA1 F w y2 bx b_y h1 (by rw [← hy2]; exact ey.2.1) hb2
            have har := fun w => aroundO_any HR.out HX.out hy HO.out (show rpt vs (toZ es ⟨e, b⟩) = ⟨ax, ay⟩ by rw [← HAa.out, ← HX2.out]; rfl) (show rpt vs (toZ es ⟨f, d⟩) = ⟨bx, b_y⟩ by rw [← hb2, ← hy2]; rfl) w
            have hlt3 : ltAt vs es z ⟨e, b⟩ ⟨f, d⟩ = decide (aroundZ (rpt vs z) (farP vs es ⟨e, b⟩) (farP vs es ⟨f, d⟩) < 0) := rfl
            generalize aroundZ (rpt vs z) (farP vs es ⟨e, b⟩) (farP vs es ⟨f, d⟩) = av at har hlt3
            have hst2 := foldl_take (insS (ltAt vs es z) ⟨e, b⟩) ([], false) hf
            rw [hfold] at hst2
            obtain ⟨v, hv⟩ : ∃ v, decide (av < 0) = v := ⟨_, rfl⟩
            rw [show insS (ltAt vs es z) ⟨e, b⟩ (l2, d2) ⟨f, d⟩ = (if (!d2 && v) = true then (l2 ++ [⟨e, b⟩, ⟨f, d⟩], true) else (l2 ++ [⟨f, d⟩], d2)) by rw [← hv, ← hlt3]; rfl] at hst2
            have HQ := Lib.hid hq
            generalize hl3 : l2.length = n3 at H hl2
            have HL3 := Lib.hid hl3
            generalize hX3 : hR l2 = X3 at H
            have HX3 := Lib.hid hX3
            clear hf hy ey hy2 hb2 hlt3 hfold hq hl3 hX3
            cases d2
            · cases v
              · have HS2 := Lib.hid hst2
                clear hst2
                have tk0 : True := trivial
                have tk1 : True := trivial
                go_wp2_with (first
                  | (guard_target =~ Code.wp _ (Code.region 12 _ true) _ _ _; refine region_treeC0 12 (G := True) (.q 0 (.q 1 (.q 2 (.q 3 (.q 4 (.q 5 (.q 6 (.q 7 (.q 8 (.q 9 (.q 10 (.q 11 (.q 12 (.q 13 (.q 14 (.q 15 (.q 16 (.q 17 (.q 18 (.q 19 (.q 20 (.q 21 (.q 22 (.q 23 (.q 24 (.q 25 (.q 26 .nil))))))))))))))))))))))))))) (by kernel_rfl) (by intro c a d v w h; cases d <;> exact h) (by kernel_rfl) H ⟨trivial⟩ (fun _ w3 H2 => ?_); (clear H; (try clear w2); revert w3; intro w2 H))
                  | (guard_target =~ wpList _ _ _ (_ :: _) _ _; (first | (guard_target =~ wpList _ _ _ (Oper.mk _ (.call { callee := .builtin .append, args := _, argTypes := _ }) _ _ _ _ :: _) _ _; refine BigFrame.wpList_want rfl (fun K hK => ?_); refine o_append (row := ?_) (n := ?_) (xs := ?_) (l' := ?_) infoHf rfl rfl rfl H ?_ rfl ?_ ?_ (by kernel_rfl) rfl (by decide) ?_ ?_ ?_ (fun v2 w3 H2 hn => hK _ _ ?_); rotate_left 4; (repeat first | exact .head _ | apply List.Mem.tail); (focus (simp; done)); (focus (intro _; (exact r1))); exact rfl; exact (by unfold maxLen; omega); exact (by omega); clear hK K hn; clear H; (try clear w2); revert w3; intro w2 H; simp only [List.take_succ_cons, List.take_zero, Nat.one_mul] at H; (obtain ⟨A7, c7, rfl⟩ := H.growForm (v := v2) (by repeat first | exact .head _ | apply List.Mem.tail))) | (guard_target =~ wpList _ _ _ (Oper.mk _ (.load _ _) _ _ _ _ :: _) _ _; refine BigFrame.wpList_want rfl (fun K hK => ?_); (refine o_loadN (cs := ?_) (r := ?_) rfl rfl H ?_ ?_ ?_ ?_ (hK _ _ ?_); rotate_left 2; (with_reducible assumption); (repeat first | exact .head _ | apply List.Mem.tail); (focus (intro _; simp; done)); (focus (intro _; simp; done))); clear hK K) | ((guard_target =~ wpList _ _ _ (Oper.mk _ (.buildSlice _ _ _) _ _ _ _ :: _) _ _; refine BigFrame.wpList_want rfl (fun K hK => ?_); refine o_buildSlice (C := ?_) (E := ?_) rfl rfl H ?_ rfl (fun w3 b2 he H2 => hK _ _ ?_); rotate_left 2; (focus (intro _; simp [go_sem, Instr.buildSlice]; with_reducible exact rfl))); clear hK K he; clear H; (try clear w2); revert w3; intro w2 H; simp [Act.eval, Value.cells, setL, List.getD] at H; (clear tk0; rename Nat => b4))); simp only [Act.put, List.setIfInBounds_toArray, List.set_cons_succ, List.set_cons_zero])
                  | (guard_target =~ wpTreeC _ _ _ _ _ _ _; first | (guard_target =~ wpTreeC _ _ _ (Tr.e _ Tr.nil) _ _ _; refine treeC_last (by decide +kernel) H rfl rfl (fun w3 H2 K hK => ?_); clear H; (try clear w2); (revert w3; intro w2 H); simp only [List.getElem_toArray, List.getElem_cons_succ, List.getElem_cons_zero]; (first | fail); simp only [Act.put, List.setIfInBounds_toArray, List.set_cons_succ, List.set_cons_zero]) | (guard_target =~ wpTreeC _ _ _ (Tr.q _ _) _ _ _; first | (refine treeC_quiet ⟨_, H, by repeat first | exact .here | apply Suf.there⟩ rfl rfl rfl (fun K hK => ?_); simp only [List.getElem_toArray, List.getElem_cons_succ, List.getElem_cons_zero]; first | (guard_target =~ Oper.quiet _ (Oper.mk _ (.load _ _) _ _ _ _) _ _ _; (first | (refine q_loadN (cs := ?_) (r := ?_) rfl rfl ?_ ?_ ?_ ?_ (hK _ ?_); rotate_left 2; (with_reducible assumption); (repeat first | exact .head _ | apply List.Mem.tail); (focus (intro _; simp; done)); (focus (intro _; simp; done))) | (refine q_loadNC (row := ?_) rfl rfl ?_ ?_ ?_ (hK _ ?_); rotate_left 1; (repeat first | exact .head _ | apply List.Mem.tail); (focus (intro _; simp; done)); (focus (intro _; simp; done)))); clear hK K; simp only [Act.put, List.setIfInBounds_toArray, List.set_cons_succ, List.set_cons_zero]) | (go_big_quiet_op; (try refine ⟨_, fun _ _ => rfl, ?_⟩); refine hK _ ?_; clear hK K)) | (refine treeC_call (v := ?_) ⟨_, H, by repeat first | exact .here | apply Suf.there⟩ rfl rfl (fun w3 H K hK => ?_) ?_; rotate_left 1; (focus (simp only [List.getElem_toArray, List.getElem_cons_succ, List.getElem_cons_zero]; first | (go_big_op; first | exact hK _ (Ext.refl _) | (go_at_call 32; (with_reducible refine (hf2 _ _ (by exact H.giveRd m4 f9)).mono ?_); rintro e w3 ⟨rfl, hb⟩; dsimp only; first | exact hK _ hb | exact hK _ (Ext.refl _)) | (go_at_call 32; (with_reducible refine (hf3 _ _ (by exact H.giveRd m4 f9)).mono ?_); rintro e w3 ⟨rfl, hb⟩; dsimp only; first | exact hK _ hb | exact hK _ (Ext.refl _)) | (go_at_call 20; (with_reducible refine (rtwin_any _ _ _).mono ?_); rintro e w3 ⟨rfl, hb⟩; dsimp only; first | exact hK _ hb | exact hK _ (Ext.refl _)) | (go_at_call 33; (with_reducible refine (ha1 _ _ (by exact H.giveRd m5 f0)).mono ?_); rintro e w3 ⟨rfl, hb⟩; dsimp only; first | exact hK _ hb | exact hK _ (Ext.refl _)) | (go_at_call 33; (with_reducible refine (ha2 _ _ (by exact H.giveRd m5 f0)).mono ?_); rintro e w3 ⟨rfl, hb⟩; dsimp only; first | exact hK _ hb | exact hK _ (Ext.refl _)) | (go_at_call 33; (with_reducible refine (ha3 _ _ (by exact H.giveRd m5 f0)).mono ?_); rintro e w3 ⟨rfl, hb⟩; dsimp only; first | exact hK _ hb | exact hK _ (Ext.refl _)) | (go_at_call 54; (with_reducible refine (har _).mono ?_); rintro e w3 ⟨rfl, hb⟩; dsimp only; first | exact hK _ hb | exact hK _ (Ext.refl _))))); simp only [List.getElem_toArray, List.getElem_cons_succ, List.getElem_cons_zero, Act.put, List.setIfInBounds_toArray, List.set_cons_succ, List.set_cons_zero]) | (refine treeC_skip ⟨_, H, by repeat first | exact .here | apply Suf.there⟩ rfl rfl ?_; simp only [List.getElem_toArray, List.getElem_cons_succ, List.getElem_cons_zero, Act.put, List.setIfInBounds_toArray, List.set_cons_succ, List.set_cons_zero])) | (guard_target =~ wpTreeC _ _ _ (Tr.both _ _) _ _ _; refine treeC_both ?_ ?_) | (guard_target =~ wpTreeC _ _ _ (Tr.e _ _) _ _ _; first | (refine treeC_one H rfl rfl (fun w3 H2 K hK => ?_); clear H; (try clear w2); (revert w3; intro w2 H); simp only [List.getElem_toArray, List.getElem_cons_succ, List.getElem_cons_zero]; first | ((first | fail); simp only [Act.put, List.setIfInBounds_toArray, List.set_cons_succ, List.set_cons_zero]) | (go_big_op; (first | fail))) | (refine treeC_one_skip (fun w3 hx => ⟨_, H.ext hx, by repeat first | exact .here | apply Suf.there⟩) rfl rfl (fun w3 hx => ?_); replace H := H.ext hx; clear hx; (try clear w2); revert w3; intro w2 H; simp only [List.getElem_toArray, List.getElem_cons_succ, List.getElem_cons_zero, Act.put, List.setIfInBounds_toArray, List.set_cons_succ, List.set_cons_zero])) | (guard_target =~ wpTreeC _ _ _ Tr.nil _ _ _; refine treeC_nil H (fun w3 H2 => ?_); clear H; (try clear w2); revert w3; intro w2 H)))
                go_roundg (gk - 1)
                case rel =>
                  refine ⟨l2 ++ [⟨f, d⟩], false, by rw [show n2 - (gk - 1) = q + 1 by have := HQ.out; omega]; simpa using HS2.out, by omega, rfl, by have := HQ.out; congr 1; omega, ?_⟩
                  have H4 := H.tail
                  rw [← HX3.out] at H4
                  rw [show (l2 ++ [(⟨f, d⟩ : Hf)]).length = n3 + 1 by rw [← HL3.out]; simp, show hR (l2 ++ [(⟨f, d⟩ : Hf)]) = hR l2 ++ [.int .i64 f, .bool d] by simp [hR, h2]]
                  exact H4
                case measure => omega
              · have HS2 := Lib.hid hst2
                clear hst2
                have tk0 : True := trivial
                have tk1 : True := trivial
                go_wp2_with (first
                  | (guard_target =~ Code.wp _ (Code.region 12 _ true) _ _ _; refine region_treeC0 12 (G := True) (.q 0 (.q 1 (.q 2 (.q 3 (.q 4 (.q 5 (.q 6 (.q 7 (.q 8 (.q 9 (.q 10 (.q 11 (.q 12 (.q 13 (.q 14 (.q 15 (.q 16 (.q 17 (.q 18 (.q 19 (.q 20 (.q 21 (.q 22 (.q 23 (.q 24 (.q 25 (.q 26 .nil))))))))))))))))))))))))))) (by kernel_rfl) (by intro c a d v w h; cases d <;> exact h) (by kernel_rfl) H ⟨trivial⟩ (fun _ w3 H2 => ?_); (clear H; (try clear w2); revert w3; intro w2 H))
                  | (guard_target =~ wpList _ _ _ (_ :: _) _ _; (first | (guard_target =~ wpList _ _ _ (Oper.mk _ (.call { callee := .builtin .append, args := _, argTypes := _ }) _ _ _ _ :: _) _ _; refine BigFrame.wpList_want rfl (fun K hK => ?_); refine o_append (row := ?_) (n := ?_) (xs := ?_) (l' := ?_) infoHf rfl rfl rfl H ?_ rfl ?_ ?_ (by kernel_rfl) rfl (by decide) ?_ ?_ ?_ (fun v2 w3 H2 hn => hK _ _ ?_); rotate_left 4; (repeat first | exact .head _ | apply List.Mem.tail); (focus (simp; done)); (focus (intro _; (first | exact r1 | exact r2))); exact rfl; exact (by unfold maxLen; omega); exact (by omega); clear hK K hn; clear H; (try clear w2); revert w3; intro w2 H; simp only [List.take_succ_cons, List.take_zero, Nat.one_mul] at H; (obtain ⟨A7, c7, rfl⟩ := H.growForm (v := v2) (by repeat first | exact .head _ | apply List.Mem.tail))) | (guard_target =~ wpList _ _ _ (Oper.mk _ (.load _ _) _ _ _ _ :: _) _ _; refine BigFrame.wpList_want rfl (fun K hK => ?_); (refine o_loadN (cs := ?_) (r := ?_) rfl rfl H ?_ ?_ ?_ ?_ (hK _ _ ?_); rotate_left 2; (with_reducible assumption); (repeat first | exact .head _ | apply List.Mem.tail); (focus (intro _; simp; done)); (focus (intro _; simp; done))); clear hK K) | ((guard_target =~ wpList _ _ _ (Oper.mk _ (.buildSlice _ _ _) _ _ _ _ :: _) _ _; refine BigFrame.wpList_want rfl (fun K hK => ?_); refine o_buildSlice (C := ?_) (E := ?_) rfl rfl H ?_ rfl (fun w3 b2 he H2 => hK _ _ ?_); rotate_left 2; (focus (intro _; simp [go_sem, Instr.buildSlice]; with_reducible exact rfl))); clear hK K he; clear H; (try clear w2); revert w3; intro w2 H; simp [Act.eval, Value.cells, setL, List.getD] at H; (first | (clear tk0; rename Nat => b4) | (clear tk1; rename Nat => b5)))); simp only [Act.put, List.setIfInBounds_toArray, List.set_cons_succ, List.set_cons_zero])
                  | (guard_target =~ wpTreeC _ _ _ _ _ _ _; first | (guard_target =~ wpTreeC _ _ _ (Tr.e _ Tr.nil) _ _ _; refine treeC_last (by decide +kernel) H rfl rfl (fun w3 H2 K hK => ?_); clear H; (try clear w2); (revert w3; intro w2 H); simp only [List.getElem_toArray, List.getElem_cons_succ, List.getElem_cons_zero]; (first | fail); simp only [Act.put, List.setIfInBounds_toArray, List.set_cons_succ, List.set_cons_zero]) | (guard_target =~ wpTreeC _ _ _ (Tr.q _ _) _ _ _; first | (refine treeC_quiet ⟨_, H, by repeat first | exact .here | apply Suf.there⟩ rfl rfl rfl (fun K hK => ?_); simp only [List.getElem_toArray, List.getElem_cons_succ, List.getElem_cons_zero]; first | (guard_target =~ Oper.quiet _ (Oper.mk _ (.load _ _) _ _ _ _) _ _ _; (first | (refine q_loadN (cs := ?_) (r := ?_) rfl rfl ?_ ?_ ?_ ?_ (hK _ ?_); rotate_left 2; (with_reducible assumption); (repeat first | exact .head _ | apply List.Mem.tail); (focus (intro _; simp; done)); (focus (intro _; simp; done))) | (refine q_loadNC (row := ?_) rfl rfl ?_ ?_ ?_ (hK _ ?_); rotate_left 1; (repeat first | exact .head _ | apply List.Mem.tail); (focus (intro _; simp; done)); (focus (intro _; simp; done)))); clear hK K; simp only [Act.put, List.setIfInBounds_toArray, List.set_cons_succ, List.set_cons_zero]) | (go_big_quiet_op; (try refine ⟨_, fun _ _ => rfl, ?_⟩); refine hK _ ?_; clear hK K)) | (refine treeC_call (v := ?_) ⟨_, H, by repeat first | exact .here | apply Suf.there⟩ rfl rfl (fun w3 H K hK => ?_) ?_; rotate_left 1; (focus (simp only [List.getElem_toArray, List.getElem_cons_succ, List.getElem_cons_zero]; first | (go_big_op; first | exact hK _ (Ext.refl _) | (go_at_call 32; (with_reducible refine (hf2 _ _ (by exact H.giveRd m4 f9)).mono ?_); rintro e w3 ⟨rfl, hb⟩; dsimp only; first | exact hK _ hb | exact hK _ (Ext.refl _)) | (go_at_call 32; (with_reducible refine (hf3 _ _ (by exact H.giveRd m4 f9)).mono ?_); rintro e w3 ⟨rfl, hb⟩; dsimp only; first | exact hK _ hb | exact hK _ (Ext.refl _)) | (go_at_call 20; (with_reducible refine (rtwin_any _ _ _).mono ?_); rintro e w3 ⟨rfl, hb⟩; dsimp only; first | exact hK _ hb | exact hK _ (Ext.refl _)) | (go_at_call 33; (with_reducible refine (ha1 _ _ (by exact H.giveRd m5 f0)).mono ?_); rintro e w3 ⟨rfl, hb⟩; dsimp only; first | exact hK _ hb | exact hK _ (Ext.refl _)) | (go_at_call 33; (with_reducible refine (ha2 _ _ (by exact H.giveRd m5 f0)).mono ?_); rintro e w3 ⟨rfl, hb⟩; dsimp only; first | exact hK _ hb | exact hK _ (Ext.refl _)) | (go_at_call 33; (with_reducible refine (ha3 _ _ (by exact H.giveRd m5 f0)).mono ?_); rintro e w3 ⟨rfl, hb⟩; dsimp only; first | exact hK _ hb | exact hK _ (Ext.refl _)) | (go_at_call 54; (with_reducible refine (har _).mono ?_); rintro e w3 ⟨rfl, hb⟩; dsimp only; first | exact hK _ hb | exact hK _ (Ext.refl _))))); simp only [List.getElem_toArray, List.getElem_cons_succ, List.getElem_cons_zero, Act.put, List.setIfInBounds_toArray, List.set_cons_succ, List.set_cons_zero]) | (refine treeC_skip ⟨_, H, by repeat first | exact .here | apply Suf.there⟩ rfl rfl ?_; simp only [List.getElem_toArray, List.getElem_cons_succ, List.getElem_cons_zero, Act.put, List.setIfInBounds_toArray, List.set_cons_succ, List.set_cons_zero])) | (guard_target =~ wpTreeC _ _ _ (Tr.both _ _) _ _ _; refine treeC_both ?_ ?_) | (guard_target =~ wpTreeC _ _ _ (Tr.e _ _) _ _ _; first | (refine treeC_one H rfl rfl (fun w3 H2 K hK => ?_); clear H; (try clear w2); (revert w3; intro w2 H); simp only [List.getElem_toArray, List.getElem_cons_succ, List.getElem_cons_zero]; first | ((first | fail); simp only [Act.put, List.setIfInBounds_toArray, List.set_cons_succ, List.set_cons_zero]) | (go_big_op; (first | fail))) | (refine treeC_one_skip (fun w3 hx => ⟨_, H.ext hx, by repeat first | exact .here | apply Suf.there⟩) rfl rfl (fun w3 hx => ?_); replace H := H.ext hx; clear hx; (try clear w2); revert w3; intro w2 H; simp only [List.getElem_toArray, List.getElem_cons_succ, List.getElem_cons_zero, Act.put, List.setIfInBounds_toArray, List.set_cons_succ, List.set_cons_zero])) | (guard_target =~ wpTreeC _ _ _ Tr.nil _ _ _; refine treeC_nil H (fun w3 H2 => ?_); clear H; (try clear w2); revert w3; intro w2 H)))
                go_roundg (gk - 1)
                case rel =>
                  refine ⟨l2 ++ [⟨e, b⟩, ⟨f, d⟩], true, by rw [show n2 - (gk - 1) = q + 1 by have := HQ.out; omega]; simpa using HS2.out, by omega, rfl, by have := HQ.out; congr 1; omega, ?_⟩
                  have H4 := H.tail.tail
                  rw [← HX3.out] at H4
                  rw [show (l2 ++ [(⟨e, b⟩ : Hf), ⟨f, d⟩]).length = n3 + 2 by rw [← HL3.out]; simp, show hR (l2 ++ [(⟨e, b⟩ : Hf), ⟨f, d⟩]) = hR l2 ++ [.int .i64 e, .bool b, .int .i64 f, .bool d] by simp [hR, h2]]
                  simpa using H4
                case measure => omega
            · have HS2 := Lib.hid hst2
              clear hst2
              have tk0 : True := trivial
              have tk1 : True := trivial
              go_wp2_with (first
                | (guard_target =~ Code.wp _ (Code.region 12 _ true) _ _ _; refine region_treeC0 12 (G := True) (.q 0 (.q 1 (.q 2 (.q 3 (.q 4 (.q 5 (.q 6 (.q 7 (.q 8 (.q 9 (.q 10 (.q 11 (.q 12 (.q 13 (.q 14 (.q 15 (.q 16 (.q 17 (.q 18 (.q 19 (.q 20 (.q 21 (.q 22 (.q 23 (.q 24 (.q 25 (.q 26 .nil))))))))))))))))))))))))))) (by kernel_rfl) (by intro c a d v w h; cases d <;> exact h) (by kernel_rfl) H ⟨trivial⟩ (fun _ w3 H2 => ?_); (clear H; (try clear w2); revert w3; intro w2 H))
                | (guard_target =~ wpList _ _ _ (_ :: _) _ _; (first | (guard_target =~ wpList _ _ _ (Oper.mk _ (.call { callee := .builtin .append, args := _, argTypes := _ }) _ _ _ _ :: _) _ _; refine BigFrame.wpList_want rfl (fun K hK => ?_); refine o_append (row := ?_) (n := ?_) (xs := ?_) (l' := ?_) infoHf rfl rfl rfl H ?_ rfl ?_ ?_ (by kernel_rfl) rfl (by decide) ?_ ?_ ?_ (fun v2 w3 H2 hn => hK _ _ ?_); rotate_left 4; (repeat first | exact .head _ | apply List.Mem.tail); (focus (simp; done)); (focus (intro _; (exact r1))); exact rfl; exact (by unfold maxLen; omega); exact (by omega); clear hK K hn; clear H; (try clear w2); revert w3; intro w2 H; simp only [List.take_succ_cons, List.take_zero, Nat.one_mul] at H; (obtain ⟨A7, c7, rfl⟩ := H.growForm (v := v2) (by repeat first | exact .head _ | apply List.Mem.tail))) | (guard_target =~ wpList _ _ _ (Oper.mk _ (.load _ _) _ _ _ _ :: _) _ _; refine BigFrame.wpList_want rfl (fun K hK => ?_); (refine o_loadN (cs := ?_) (r := ?_) rfl rfl H ?_ ?_ ?_ ?_ (hK _ _ ?_); rotate_left 2; (with_reducible assumption); (repeat first | exact .head _ | apply List.Mem.tail); (focus (intro _; simp; done)); (focus (intro _; simp; done))); clear hK K) | ((guard_target =~ wpList _ _ _ (Oper.mk _ (.buildSlice _ _ _) _ _ _ _ :: _) _ _; refine BigFrame.wpList_want rfl (fun K hK => ?_); refine o_buildSlice (C := ?_) (E := ?_) rfl rfl H ?_ rfl (fun w3 b2 he H2 => hK _ _ ?_); rotate_left 2; (focus (intro _; simp [go_sem, Instr.buildSlice]; with_reducible exact rfl))); clear hK K he; clear H; (try clear w2); revert w3; intro w2 H; simp [Act.eval, Value.cells, setL, List.getD] at H; (clear tk0; rename Nat => b4))); simp only [Act.put, List.setIfInBounds_toArray, List.set_cons_succ, List.set_cons_zero])
                | (guard_target =~ wpTreeC _ _ _ _ _ _ _; first | (guard_target =~ wpTreeC _ _ _ (Tr.e _ Tr.nil) _ _ _; refine treeC_last (by decide +kernel) H rfl rfl (fun w3 H2 K hK => ?_); clear H; (try clear w2); (revert w3; intro w2 H); simp only [List.getElem_toArray, List.getElem_cons_succ, List.getElem_cons_zero]; (first | fail); simp only [Act.put, List.setIfInBounds_toArray, List.set_cons_succ, List.set_cons_zero]) | (guard_target =~ wpTreeC _ _ _ (Tr.q _ _) _ _ _; first | (refine treeC_quiet ⟨_, H, by repeat first | exact .here | apply Suf.there⟩ rfl rfl rfl (fun K hK => ?_); simp only [List.getElem_toArray, List.getElem_cons_succ, List.getElem_cons_zero]; first | (guard_target =~ Oper.quiet _ (Oper.mk _ (.load _ _) _ _ _ _) _ _ _; (first | fail); clear hK K; simp only [Act.put, List.setIfInBounds_toArray, List.set_cons_succ, List.set_cons_zero]) | (go_big_quiet_op; (try refine ⟨_, fun _ _ => rfl, ?_⟩); refine hK _ ?_; clear hK K)) | (refine treeC_call (v := ?_) ⟨_, H, by repeat first | exact .here | apply Suf.there⟩ rfl rfl (fun w3 H K hK => ?_) ?_; rotate_left 1; (focus (simp only [List.getElem_toArray, List.getElem_cons_succ, List.getElem_cons_zero]; first | (go_big_op; first | exact hK _ (Ext.refl _) | (go_at_call 32; (with_reducible refine (hf2 _ _ (by first | fail)).mono ?_); rintro e w3 ⟨rfl, hb⟩; dsimp only; first | exact hK _ hb | exact hK _ (Ext.refl _)) | (go_at_call 32; (with_reducible refine (hf3 _ _ (by first | fail)).mono ?_); rintro e w3 ⟨rfl, hb⟩; dsimp only; first | exact hK _ hb | exact hK _ (Ext.refl _)) | (go_at_call 20; (with_reducible refine (rtwin_any _ _ _).mono ?_); rintro e w3 ⟨rfl, hb⟩; dsimp only; first | exact hK _ hb | exact hK _ (Ext.refl _)) | (go_at_call 33; (with_reducible refine (ha1 _ _ (by first | fail)).mono ?_); rintro e w3 ⟨rfl, hb⟩; dsimp only; first | exact hK _ hb | exact hK _ (Ext.refl _)) | (go_at_call 33; (with_reducible refine (ha2 _ _ (by first | fail)).mono ?_); rintro e w3 ⟨rfl, hb⟩; dsimp only; first | exact hK _ hb | exact hK _ (Ext.refl _)) | (go_at_call 33; (with_reducible refine (ha3 _ _ (by first | fail)).mono ?_); rintro e w3 ⟨rfl, hb⟩; dsimp only; first | exact hK _ hb | exact hK _ (Ext.refl _)) | (go_at_call 54; (with_reducible refine (har _).mono ?_); rintro e w3 ⟨rfl, hb⟩; dsimp only; first | exact hK _ hb | exact hK _ (Ext.refl _))))); simp only [List.getElem_toArray, List.getElem_cons_succ, List.getElem_cons_zero, Act.put, List.setIfInBounds_toArray, List.set_cons_succ, List.set_cons_zero]) | (refine treeC_skip ⟨_, H, by repeat first | exact .here | apply Suf.there⟩ rfl rfl ?_; simp only [List.getElem_toArray, List.getElem_cons_succ, List.getElem_cons_zero, Act.put, List.setIfInBounds_toArray, List.set_cons_succ, List.set_cons_zero])) | (guard_target =~ wpTreeC _ _ _ (Tr.both _ _) _ _ _; refine treeC_both ?_ ?_) | (guard_target =~ wpTreeC _ _ _ (Tr.e _ _) _ _ _; first | (refine treeC_one H rfl rfl (fun w3 H2 K hK => ?_); clear H; (try clear w2); (revert w3; intro w2 H); simp only [List.getElem_toArray, List.getElem_cons_succ, List.getElem_cons_zero]; first | ((first | fail); simp only [Act.put, List.setIfInBounds_toArray, List.set_cons_succ, List.set_cons_zero]) | (go_big_op; (first | fail))) | (refine treeC_one_skip (fun w3 hx => ⟨_, H.ext hx, by repeat first | exact .here | apply Suf.there⟩) rfl rfl (fun w3 hx => ?_); replace H := H.ext hx; clear hx; (try clear w2); revert w3; intro w2 H; simp only [List.getElem_toArray, List.getElem_cons_succ, List.getElem_cons_zero, Act.put, List.setIfInBounds_toArray, List.set_cons_succ, List.set_cons_zero])) | (guard_target =~ wpTreeC _ _ _ Tr.nil _ _ _; refine treeC_nil H (fun w3 H2 => ?_); clear H; (try clear w2); revert w3; intro w2 H)))
              go_roundg (gk - 1)
              case rel =>
                refine ⟨l2 ++ [⟨f, d⟩], true, by rw [show n2 - (gk - 1) = q + 1 by have := HQ.out; omega]; simpa using HS2.out, by omega, rfl, by have := HQ.out; congr 1; omega, ?_⟩
                have H4 := H.tail
                rw [← HX3.out] at H4
                rw [show (l2 ++ [(⟨f, d⟩ : Hf)]).length = n3 + 1 by rw [← HL3.out]; simp, show hR (l2 ++ [(⟨f, d⟩ : Hf)]) = hR l2 ++ [.int .i64 f, .bool d] by simp [hR, h2]]
                exact H4
              case measure => omega
          · obtain rfl : gk = 0 := by omega
            rw [Nat.sub_zero, List.take_of_length_le (by have := HLN.out; omega)] at hfold
            have hE := insS_eq (ltAt vs es z) ⟨e, b⟩ L []
            rw [hfold, List.nil_append] at hE
            unfold insE at hE
            generalize hl3 : l2.length = n3 at H hl2
            have HL3 := Lib.hid hl3
            generalize hX3 : hR l2 = X3 at H
            have HX3 := Lib.hid hX3
            clear hfold hl3 hX3
            cases d2
            · have HEE := Lib.hid hE
              clear hE
              have tk0 : True := trivial
              have tk1 : True := trivial
              go_wp2_with (guard_target =~ wpList _ _ _ (_ :: _) _ _; (first | (guard_target =~ wpList _ _ _ (Oper.mk _ (.call { callee := .builtin .append, args := _, argTypes := _ }) _ _ _ _ :: _) _ _; refine BigFrame.wpList_want rfl (fun K hK => ?_); refine o_append (row := ?_) (n := ?_) (xs := ?_) (l' := ?_) infoHf rfl rfl rfl H ?_ rfl ?_ ?_ (by kernel_rfl) rfl (by decide) ?_ ?_ ?_ (fun v2 w3 H2 hn => hK _ _ ?_); rotate_left 4; (repeat first | exact .head _ | apply List.Mem.tail); (focus (simp; done)); (focus (intro _; (exact r1))); exact rfl; exact (by unfold maxLen; omega); exact (by omega); clear hK K hn; clear H; (try clear w2); revert w3; intro w2 H; simp only [List.take_succ_cons, List.take_zero, Nat.one_mul] at H; (obtain ⟨A7, c7, rfl⟩ := H.growForm (v := v2) (by repeat first | exact .head _ | apply List.Mem.tail))) | (guard_target =~ wpList _ _ _ (Oper.mk _ (.load _ _) _ _ _ _ :: _) _ _; refine BigFrame.wpList_want rfl (fun K hK => ?_); (refine o_loadN (cs := ?_) (r := ?_) rfl rfl H ?_ ?_ ?_ ?_ (hK _ _ ?_); rotate_left 2; (with_reducible assumption); (repeat first | exact .head _ | apply List.Mem.tail); (focus (intro _; simp; done)); (focus (intro _; simp; done))); clear hK K) | ((guard_target =~ wpList _ _ _ (Oper.mk _ (.buildSlice _ _ _) _ _ _ _ :: _) _ _; refine BigFrame.wpList_want rfl (fun K hK => ?_); refine o_buildSlice (C := ?_) (E := ?_) rfl rfl H ?_ rfl (fun w3 b2 he H2 => hK _ _ ?_); rotate_left 2; (focus (intro _; simp [go_sem, Instr.buildSlice]; with_reducible exact rfl))); clear hK K he; clear H; (try clear w2); revert w3; intro w2 H; simp [Act.eval, Value.cells, setL, List.getD] at H; (clear tk0; rename Nat => b4))); simp only [Act.put, List.setIfInBounds_toArray, List.set_cons_succ, List.set_cons_zero])
              go_roundg (gkA - 1)
              case rel =>
                refine ⟨l2 ++ [⟨e, b⟩], by rw [show N - (gkA - 1) = j + 1 by have := HJ.out; omega, HST.out, ← HEE.out]; simp, by omega, by have := HJ.out; congr 1; omega, ?_⟩
                have H4 := H.tail.swap.tail
                rw [← HX3.out] at H4
                rw [show (l2 ++ [(⟨e, b⟩ : Hf)]).length = n3 + 1 by rw [← HL3.out]; simp, show hR (l2 ++ [(⟨e, b⟩ : Hf)]) = hR l2 ++ [.int .i64 e, .bool b] by simp [hR, h2]]
                exact H4
              case measure => omega
            · have HEE := Lib.hid hE
              clear hE
              have tk0 : True := trivial
              have tk1 : True := trivial
              go_wp2_with (first | fail)
              go_roundg (gkA - 1)
              case rel =>
                refine ⟨l2, by rw [show N - (gkA - 1) = j + 1 by have := HJ.out; omega, HST.out, ← HEE.out]; simp, by omega, by have := HJ.out; congr 1; omega, ?_⟩
                rw [HL3.out, HX3.out]
                exact H.swap.tail
              case measure => omega
      · rw [if_neg hzi] at HST
        have hxz : (z == id) = false := by simpa using hzi
        have HZI := Lib.hid hzi
        clear hzi
        go_wp2_with (first
          | (guard_target =~ Code.wp _ (Code.region 6 _ true) _ _ _; refine region_treeC0 6 (G := True) (.q 0 (.q 1 (.q 2 (.q 3 (.q 4 (.q 5 (.q 6 (.q 7 .nil)))))))) (by kernel_rfl) (by intro c a d v w h; cases d <;> exact h) (by kernel_rfl) H ⟨trivial⟩ (fun _ w3 H2 => ?_); (clear H; (try clear w2); revert w3; intro w2 H))
          | (guard_target =~ wpTreeC _ _ _ _ _ _ _; first | (guard_target =~ wpTreeC _ _ _ (Tr.e _ Tr.nil) _ _ _; refine treeC_last (by decide +kernel) H rfl rfl (fun w3 H2 K hK => ?_); clear H; (try clear w2); (revert w3; intro w2 H); simp only [List.getElem_toArray, List.getElem_cons_succ, List.getElem_cons_zero]; (first | fail); simp only [Act.put, List.setIfInBounds_toArray, List.set_cons_succ, List.set_cons_zero]) | (guard_target =~ wpTreeC _ _ _ (Tr.q _ _) _ _ _; first | (refine treeC_quiet ⟨_, H, by repeat first | exact .here | apply Suf.there⟩ rfl rfl rfl (fun K hK => ?_); simp only [List.getElem_toArray, List.getElem_cons_succ, List.getElem_cons_zero]; first | (guard_target =~ Oper.quiet _ (Oper.mk _ (.load _ _) _ _ _ _) _ _ _; (first | (refine q_loadN (cs := ?_) (r := ?_) rfl rfl ?_ ?_ ?_ ?_ (hK _ ?_); rotate_left 2; (with_reducible assumption); (repeat first | exact .head _ | apply List.Mem.tail); (focus (intro _; simp; done)); (focus (intro _; simp; done))) | (refine q_loadNC (row := ?_) rfl rfl ?_ ?_ ?_ (hK _ ?_); rotate_left 1; (repeat first | exact .head _ | apply List.Mem.tail); (focus (intro _; simp; done)); (focus (intro _; simp; done)))); clear hK K; simp only [Act.put, List.setIfInBounds_toArray, List.set_cons_succ, List.set_cons_zero]) | (go_big_quiet_op; (try refine ⟨_, fun _ _ => rfl, ?_⟩); refine hK _ ?_; clear hK K)) | (refine treeC_call (v := ?_) ⟨_, H, by repeat first | exact .here | apply Suf.there⟩ rfl rfl (fun w3 H K hK => ?_) ?_; rotate_left 1; (focus (simp only [List.getElem_toArray, List.getElem_cons_succ, List.getElem_cons_zero]; first | (go_big_op; first | exact hK _ (Ext.refl _) | (go_at_call 32; (with_reducible refine (hf1 _ _ (by exact H.giveRd m3 f9)).mono ?_); rintro e w3 ⟨rfl, hb⟩; dsimp only; first | exact hK _ hb | exact hK _ (Ext.refl _))))); simp only [List.getElem_toArray, List.getElem_cons_succ, List.getElem_cons_zero, Act.put, List.setIfInBounds_toArray, List.set_cons_succ, List.set_cons_zero]) | (refine treeC_skip ⟨_, H, by repeat first | exact .here | apply Suf.there⟩ rfl rfl ?_; simp only [List.getElem_toArray, List.getElem_cons_succ, List.getElem_cons_zero, Act.put, List.setIfInBounds_toArray, List.set_cons_succ, List.set_cons_zero])) | (guard_target =~ wpTreeC _ _ _ (Tr.both _ _) _ _ _; refine treeC_both ?_ ?_) | (guard_target =~ wpTreeC _ _ _ (Tr.e _ _) _ _ _; first | (refine treeC_one H rfl rfl (fun w3 H2 K hK => ?_); clear H; (try clear w2); (revert w3; intro w2 H); simp only [List.getElem_toArray, List.getElem_cons_succ, List.getElem_cons_zero]; first | ((first | fail); simp only [Act.put, List.setIfInBounds_toArray, List.set_cons_succ, List.set_cons_zero]) | (go_big_op; (first | fail))) | (refine treeC_one_skip (fun w3 hx => ⟨_, H.ext hx, by repeat first | exact .here | apply Suf.there⟩) rfl rfl (fun w3 hx => ?_); replace H := H.ext hx; clear hx; (try clear w2); revert w3; intro w2 H; simp only [List.getElem_toArray, List.getElem_cons_succ, List.getElem_cons_zero, Act.put, List.setIfInBounds_toArray, List.set_cons_succ, List.set_cons_zero])) | (guard_target =~ wpTreeC _ _ _ Tr.nil _ _ _; refine treeC_nil H (fun w3 H2 => ?_); clear H; (try clear w2); revert w3; intro w2 H)))
        go_roundg (gk - 1)
        case rel => exact ⟨L, by rw [show N - (gk - 1) = j + 1 by have := HJ.out; omega, HST.out], by omega, by have := HJ.out; congr 1; omega, H⟩
        case measure => omega
    · obtain rfl : gk = 0 := by omega
      rw [Nat.sub_zero, List.take_of_length_le (by have := HN.out; omega), outF_all] at hL
      subst hL
      go_wp2_with (first | fail)
      obtain ⟨Ar, cr, rfl, h4, h5, h6⟩ := H.giveGrow m0 HF.out
      go_ret
      exact ⟨Ar, cr, rfl, H.below, h6, h4, h5⟩
end Go.Proofs.Ytlhmjhildlnokaa
