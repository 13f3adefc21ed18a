/-
  The walk of the document's Out.
-/
import Derived.Test.YtlhmjhildlnokaaSpin11
import Derived.Test.YtlhmjhildlnokaaOwn7
import Derived.Test.YtlhmjhildlnokaaPlan7
import Derived.Test.YtlhmjhildlnokaaBase
import Derived.Test.YtlhmjhildlnokaaPlan0
import Derived.ChangeArms
import Derived.Test.YtlhmjhildlnokaaSpin9
import Derived.Test.YtlhmjhildlnokaaGeo2
import Derived.Test.YtlhmjhildlnokaaGeo
namespace Go.Proofs.Ytlhmjhildlnokaa
set_option linter.unusedVariables false
set_option linter.unusedSimpArgs false
open Go.RowKit

def insS (lt : Hf → Hf → Bool) (x : Hf) (st : List Hf × Bool) (y : Hf) : List Hf × Bool := if (!st.2 && lt x y) = true then (st.1 ++ [x, y], true) else (st.1 ++ [y], st.2)
def insE (x : Hf) (st : List Hf × Bool) : List Hf := if st.2 then st.1 else st.1 ++ [x]
theorem insS_done (lt : Hf → Hf → Bool) (x : Hf) : ∀ (ys l : List Hf), ys.foldl (insS lt x) (l, true) = (l ++ ys, true)
  | [], l => by simp
  | y :: ys, l => by
    have : insS lt x (l, true) y = (l ++ [y], true) := by simp [insS]
    rw [List.foldl_cons, this, insS_done lt x ys]; simp
theorem insS_eq (lt : Hf → Hf → Bool) (x : Hf) : ∀ (ys l : List Hf), insE x (ys.foldl (insS lt x) (l, false)) = l ++ insH lt x ys
  | [], l => by simp [insE, insH]
  | y :: ys, l => by
    rw [List.foldl_cons]
    unfold insH
    by_cases h : lt x y = true
    · have : insS lt x (l, false) y = (l ++ [x, y], true) := by simp [insS, h]
      rw [this, insS_done, if_pos h]
      simp [insE]
    · have : insS lt x (l, false) y = (l ++ [y], false) := by simp [insS, h]
      rw [this, insS_eq lt x ys, if_neg h]
      simp
theorem insS_len (lt : Hf → Hf → Bool) (x : Hf) (st : List Hf × Bool) (y : Hf) : (insS lt x st y).1.length ≤ st.1.length + 2 := by
  unfold insS; split <;> simp
theorem insS_lens (lt : Hf → Hf → Bool) (x : Hf) : ∀ (ys : List Hf) (st : List Hf × Bool), (ys.foldl (insS lt x) st).1.length ≤ st.1.length + 2 * ys.length
  | [], st => by simp
  | y :: ys, st => by
    rw [List.foldl_cons]
    have h1 := insS_lens lt x ys (insS lt x st y)
    have h2 := insS_len lt x st y
    rw [List.length_cons]; omega
/-- What leaves a vertex, so far. -/
def outF (vs : List Vt) (es : List Eg) (v : Int) (hs : List Hf) : List Hf := hs.foldl (fun out h => if fromZ es h = v then insH (ltAt vs es v) h out else out) []
theorem outF_all (vs : List Vt) (es : List Eg) (v : Int) : outF vs es v (halves es) = outZ vs es v := rfl
theorem outF_step (vs : List Vt) (es : List Eg) (v : Int) {hs : List Hf} {h : Hf} : outF vs es v (hs ++ [h]) = if fromZ es h = v then insH (ltAt vs es v) h (outF vs es v hs) else outF vs es v hs := by unfold outF; rw [List.foldl_append]; rfl
theorem insH_mem {lt : Hf → Hf → Bool} {x y : Hf} {l : List Hf} : y ∈ insH lt x l ↔ y = x ∨ y ∈ l := by rw [(insH_perm x l).mem_iff, List.mem_cons]
theorem outF_at (vs : List Vt) (es : List Eg) (v : Int) (hs : List Hf) (hh : ∀ h ∈ hs, h ∈ halves es) : (∀ y ∈ outF vs es v hs, y ∈ halves es ∧ fromZ es y = v) ∧ (outF vs es v hs).length ≤ hs.length := by
  obtain ⟨n, hn⟩ : ∃ n, hs.length = n := ⟨_, rfl⟩
  induction n generalizing hs with
  | zero => obtain rfl := List.eq_nil_of_length_eq_zero hn; simp [outF]
  | succ n ih =>
    rcases List.eq_nil_or_concat hs with rfl | ⟨hs, h, rfl⟩
    · simp at hn
    rw [List.concat_eq_append] at hh hn ⊢
    have R := ih hs (fun x hx => hh x (by simp [hx])) (by simpa using hn)
    rw [outF_step]
    split
    · rename_i hf
      refine ⟨fun y hy => ?_, by rw [(insH_perm h _).length_eq]; simp; exact R.2⟩
      rcases insH_mem.1 hy with rfl | hy
      · exact ⟨hh _ (by simp), hf⟩
      · exact R.1 y hy
    · exact ⟨R.1, by rw [List.length_append]; have := R.2; omega⟩
theorem eg_idx {vs : List Vt} {es : List Eg} (H : RightP vs es) {j : Nat} {e : Eg} (hj : es[j]? = some e) : es.findIdx? (fun v => v.id == e.id) = some j := by
  have hlt := (List.getElem?_eq_some_iff.1 hj)
  rw [List.findIdx?_eq_some_iff_getElem]
  refine ⟨hlt.1, by simp [hlt.2], fun k hk => ?_⟩
  have hkl : k < es.length := Nat.lt_trans hk hlt.1
  have h1 : es[k].id < e.id := (pairwise_get _).1 H.ids k j _ _ hk (List.getElem?_eq_getElem hkl) hj
  simp; omega
set_option maxRecDepth 100000 in
theorem fromR_any {vs : List Vt} {es : List Eg} (H : RightP vs es) (A A2 : Option Addr) (n m c c2 : Nat) (F : Nat → Prop) (e0 : Int) (b0' : Bool) (z : Int) (w : World) (hm : m = es.length) (hs2 : Sl F w A2 (eR es)) (hh : (⟨e0, b0'⟩ : Hf) ∈ halves es) (hz : fromZ es ⟨e0, b0'⟩ = z) :
    Calls Try.prog 32 #[.agg #[.slice A n c, .slice A2 m c2], .agg #[.int .i64 e0, .bool b0']] w fun e w' => e = .returned (.int .i64 z) ∧ Below w.heap.size w w' := by
  obtain ⟨e, he, h1⟩ := mem_halves.1 hh
  obtain ⟨j, hj⟩ := List.getElem?_of_mem he
  obtain ⟨i, x, y⟩ := e
  obtain rfl : e0 = i := h1
  have hf := eg_idx H hj
  have := from_any es A A2 n m c c2 F e0 b0' w hm hs2 (by have := H.few.2; omega) hj hf
  refine this.mono ?_
  rintro r w' ⟨rfl, hb⟩
  refine ⟨?_, hb⟩
  have hs := from_step H hj
  rw [← hz]
  cases b0'
  · rw [hs.1]; rfl
  · rw [hs.2]; rfl
set_option maxRecDepth 100000 in
theorem atR_any {vs : List Vt} {es : List Eg} (H : RightP vs es) (A A2 : Option Addr) (n m c c2 : Nat) (F : Nat → Prop) (id x y : Int) (w : World) (hn : n = vs.length) (hs : Sl F w A (vR vs)) (hi : (vs.find? fun v => v.id == id).isSome = true) (hr : rpt vs id = ⟨x, y⟩) :
    Calls Try.prog 33 #[.agg #[.slice A n c, .slice A2 m c2], .int .i64 id] w fun e w' => e = .returned (pV x y) ∧ Below w.heap.size w w' := by
  unfold rpt at hr
  cases hf : (vs.find? fun v => v.id == id) with
  | none => rw [hf] at hi; cases hi
  | some v =>
    obtain ⟨i, ⟨x', y'⟩⟩ := v
    rw [hf] at hr
    have hr : (⟨x', y'⟩ : Pt) = ⟨x, y⟩ := hr
    injection hr with e1 e2
    subst e1 e2
    exact refAt_any vs A A2 n m c c2 F id i x' y' w hn hs (by have := H.few.1; omega) hf
/-- Three points of directions out of a vertex. -/
theorem aroundO_any {vs : List Vt} {es : List Eg} (H : RightP vs es) {v : Int} {g h : Hf} (hg : g ∈ halves es ∧ fromZ es g = v) (hh : h ∈ halves es ∧ fromZ es h = v) {ox oy ax ay bx b_y : Int} (h1 : rpt vs v = ⟨ox, oy⟩) (h2 : rpt vs (toZ es g) = ⟨ax, ay⟩) (h3 : rpt vs (toZ es h) = ⟨bx, b_y⟩) (w : World) :
    Calls Try.prog 54 #[pV ox oy, pV ax ay, pV bx b_y] w fun e w' => e = .returned (.int .i64 (aroundZ (rpt vs v) (farP vs es g) (farP vs es h))) ∧ Below w.heap.size w w' := by
  have eg := half_ends H hg.1
  have eh := half_ends H hh.1
  have e1 := around_at H hg hh
  have i1 : inB (rpt vs v) = true := by rw [← hg.2]; exact rpt_in H.verts eg.1
  have i2 := rpt_in H.verts eg.2.1
  have i3 := rpt_in H.verts eh.2.1
  rw [e1.1, around_wedge e1.2.1 e1.2.2]
  unfold farP
  rw [h1] at i1
  rw [h2] at i2
  rw [h3] at i3
  rw [h1, h2, h3]
  exact refAround_any ox oy ax ay bx b_y (inB_P i1) (inB_P i2) (inB_P i3) w
def OutRel (lt : Hf → Hf → Bool) (x : Hf) (L : List Hf) (n : Nat) (B : Nat) (w0 : World) (x1 : Res) (l : List Res) (k : Nat) (u dn i : Value) (wr : World) : Prop :=
  ∃ l2 d, (L.take (n - k)).foldl (insS lt x) ([], false) = (l2, d) ∧ k ≤ n ∧ dn = .bool d ∧ i = .int .i64 ((n - k : Nat) : Int) ∧ Own B w0 wr (.grow 36 2 u l2.length (hR l2) :: x1 :: l)
theorem foldl_take {α β : Type} (f : β → α → β) (b : β) {L : List α} {j : Nat} {a : α} (h : L[j]? = some a) : (L.take (j + 1)).foldl f b = f ((L.take j).foldl f b) a := by
  rw [List.take_add_one, h, List.foldl_append]; rfl
set_option maxRecDepth 100000 in
set_option maxHeartbeats 16000000 in
theorem rout_any (vs : List Vt) (es : List Eg) (A A2 : Option Addr) (n m c c2 : Nat) (F : Nat → Prop) (id : Int) (w : World) (hR0 : RightP vs es) (hn : n = vs.length) (hm : m = es.length) (hs : Sl F w A (vR vs)) (hs2 : Sl F w A2 (eR es)) (hF : ∀ k, F k → k < w.heap.size) :
    Calls Try.prog 24 #[.agg #[.slice A n c, .slice A2 m c2], .int .i64 id] w (RetH F w (outZ vs es id)) := by
  obtain ⟨b0, o0, H1, f0⟩ := (Own.start w).addSl (hs.ro (by rfl))
  obtain ⟨b9, o9, H, f9⟩ := H1.addSl (hs2.ro (by rfl))
  clear hs hs2 H1
  have h1 := fun F w h1 hF => halves_any vs es A A2 n m c c2 F w hm h1 hF (by have := hR0.few.2; omega)
  have hF1 := fun F w e0 b0' z h1 h2 h3 => fromR_any hR0 A A2 n m c c2 F e0 b0' z w hm h1 h2 h3
  have hA1 := fun F w id x y h1 h2 h3 => atR_any hR0 A A2 n m c c2 F id x y w hn h1 h2 h3
  have HR := Lib.hid hR0
  have hS := few_halves hR0
  have HF := Lib.hid hF
  clear hn hm hR0 hF
  go_enter Try.func24, Try.ntmps24
  have tk0 : True := trivial
  go_wp2_with (first
    | (go_at_call 53; (with_reducible refine (h1 _ _ (by exact H.giveRd m1 f9) (H.fw_lt rfl HF.out)).mono ?_); rintro e w3 ⟨A3, c3, rfl, hb, s3, q3, q4⟩; replace H := H.ext hb; clear hb; obtain ⟨b3, o3, H4, f3⟩ := H.addSl s3; clear H s3; have H := H4; clear H4; dsimp only; (skip))
    | (guard_target =~ wpList _ _ _ (_ :: _) _ _; (first | (guard_target =~ wpList _ _ _ (Oper.mk _ (.load _ _) _ _ _ _ :: _) _ _; refine BigFrame.wpList_want rfl (fun K hK => ?_); (refine o_loadNC (row := ?_) rfl rfl H ?_ ?_ ?_ (hK _ _ ?_); rotate_left 1; (repeat first | exact .head _ | apply List.Mem.tail); (focus (intro _; simp; done)); (focus (intro _; simp; done))); clear hK K) | ((guard_target =~ wpList _ _ _ (Oper.mk _ (.box _ _) _ _ _ _ :: _) _ _; refine BigFrame.wpList_want rfl (fun K hK => ?_); refine o_box rfl H rfl (fun w3 b2 he H2 => hK _ _ ?_)); clear hK K he; clear H; (try clear w2); revert w3; intro w2 H; simp [Act.eval, Value.cells, setL, List.getD] at H; (clear tk0; rename Nat => b1))); simp only [Act.put, List.setIfInBounds_toArray, List.set_cons_succ, List.set_cons_zero]))
  have hsz : (halves es).length ≤ 2048 := hS
  generalize hN : (halves es).length = N at hsz ⊢
  have HN := Lib.hid hN
  clear hN hS
  have H := (H.grow_nil 36 2)
  go_loopg [7, 5] N (fun k i u wr => ∃ L, L = outF vs es id ((halves es).take (N - k)) ∧ k ≤ N ∧ i = .int .i64 ((N - k : Nat) : Int) ∧ Own w.heap.size w wr (.grow 36 2 u L.length (hR L) :: .rd A3 b3 o3 (hR (halves es)) :: .cells b1 [.slice A n c, .slice A2 m c2] :: .rd A2 b9 o9 (eR es) :: .rd A b0 o0 (vR vs) :: []))
  case atStart => exact ⟨[], by rw [Nat.sub_self]; rfl, Nat.le_refl _, by simp, H⟩
  case round =>
    clear H
    obtain ⟨L, hL, hk, rfl, H⟩ := hrel
    by_cases hlt : 0 < gk
    · obtain ⟨j, hj⟩ : ∃ j, N - gk = j := ⟨_, rfl⟩
      have hjl : j < N := by omega
      rw [hj] at hL ⊢
      obtain ⟨e, b, he⟩ := hf_get (by have := HN.out; omega : j < (halves es).length)
      obtain rfl := H.rdAddr m1 (hR_pos (by have := HN.out; omega : j < (halves es).length))
      have hp := h_at (A := some ⟨b3, o3, none⟩) (bb := b3) (off := o3) he
      have hmem : (⟨e, b⟩ : Hf) ∈ halves es := List.mem_of_getElem? he
      have hLs := outF_at vs es id ((halves es).take j) fun h hh => List.mem_of_mem_take hh
      rw [← hL] at hLs
      have hLl : L.length ≤ 2048 := by have := hLs.2; rw [List.length_take] at this; omega
      have hst : outF vs es id ((halves es).take (j + 1)) = if fromZ es ⟨e, b⟩ = id then insH (ltAt vs es id) ⟨e, b⟩ L else L := by rw [List.take_add_one, he, hL]; exact outF_step vs es id
      obtain ⟨z, hz⟩ : ∃ z, fromZ es ⟨e, b⟩ = z := ⟨_, rfl⟩
      have hf1 := fun F w h1 => hF1 F w e b z h1 hmem hz
      rw [hz] at hst
      have HST := Lib.hid hst
      have HJ := Lib.hid hj
      have HMEM := Lib.hid hmem
      have HZ := Lib.hid hz
      have HLS := Lib.hid hLs
      clear he hL hst hmem hz hj hLs
      by_cases hzi : z = id
      · subst hzi
        rw [if_pos rfl] at HST
        have hxz : (z != z) = false := by simp
        go_wp2_with (first
          | (guard_target =~ Code.wp _ (Code.region 6 _ true) _ _ _; refine region_treeC0 6 (G := True) (.q 0 (.q 1 (.q 2 (.q 3 (.q 4 (.q 5 (.q 6 (.q 7 .nil)))))))) (by kernel_rfl) (by intro c a d v w h; cases d <;> exact h) (by kernel_rfl) H ⟨trivial⟩ (fun _ w3 H2 => ?_); (clear H; (try clear w2); revert w3; intro w2 H))
          | (guard_target =~ wpTreeC _ _ _ _ _ _ _; first | (guard_target =~ wpTreeC _ _ _ (Tr.e _ Tr.nil) _ _ _; refine treeC_last (by decide +kernel) H rfl rfl (fun w3 H2 K hK => ?_); clear H; (try clear w2); (revert w3; intro w2 H); simp only [List.getElem_toArray, List.getElem_cons_succ, List.getElem_cons_zero]; (first | fail); simp only [Act.put, List.setIfInBounds_toArray, List.set_cons_succ, List.set_cons_zero]) | (guard_target =~ wpTreeC _ _ _ (Tr.q _ _) _ _ _; first | (refine treeC_quiet ⟨_, H, by repeat first | exact .here | apply Suf.there⟩ rfl rfl rfl (fun K hK => ?_); simp only [List.getElem_toArray, List.getElem_cons_succ, List.getElem_cons_zero]; first | (guard_target =~ Oper.quiet _ (Oper.mk _ (.load _ _) _ _ _ _) _ _ _; (first | (refine q_loadN (cs := ?_) (r := ?_) rfl rfl ?_ ?_ ?_ ?_ (hK _ ?_); rotate_left 2; (with_reducible assumption); (repeat first | exact .head _ | apply List.Mem.tail); (focus (intro _; simp; done)); (focus (intro _; simp; done))) | (refine q_loadNC (row := ?_) rfl rfl ?_ ?_ ?_ (hK _ ?_); rotate_left 1; (repeat first | exact .head _ | apply List.Mem.tail); (focus (intro _; simp; done)); (focus (intro _; simp; done)))); clear hK K; simp only [Act.put, List.setIfInBounds_toArray, List.set_cons_succ, List.set_cons_zero]) | (go_big_quiet_op; (try refine ⟨_, fun _ _ => rfl, ?_⟩); refine hK _ ?_; clear hK K)) | (refine treeC_call (v := ?_) ⟨_, H, by repeat first | exact .here | apply Suf.there⟩ rfl rfl (fun w3 H K hK => ?_) ?_; rotate_left 1; (focus (simp only [List.getElem_toArray, List.getElem_cons_succ, List.getElem_cons_zero]; first | (go_big_op; first | exact hK _ (Ext.refl _) | (go_at_call 32; (with_reducible refine (hf1 _ _ (by exact H.giveRd m3 f9)).mono ?_); rintro e w3 ⟨rfl, hb⟩; dsimp only; first | exact hK _ hb | exact hK _ (Ext.refl _))))); simp only [List.getElem_toArray, List.getElem_cons_succ, List.getElem_cons_zero, Act.put, List.setIfInBounds_toArray, List.set_cons_succ, List.set_cons_zero]) | (refine treeC_skip ⟨_, H, by repeat first | exact .here | apply Suf.there⟩ rfl rfl ?_; simp only [List.getElem_toArray, List.getElem_cons_succ, List.getElem_cons_zero, Act.put, List.setIfInBounds_toArray, List.set_cons_succ, List.set_cons_zero])) | (guard_target =~ wpTreeC _ _ _ (Tr.both _ _) _ _ _; refine treeC_both ?_ ?_) | (guard_target =~ wpTreeC _ _ _ (Tr.e _ _) _ _ _; first | (refine treeC_one H rfl rfl (fun w3 H2 K hK => ?_); clear H; (try clear w2); (revert w3; intro w2 H); simp only [List.getElem_toArray, List.getElem_cons_succ, List.getElem_cons_zero]; first | ((first | fail); simp only [Act.put, List.setIfInBounds_toArray, List.set_cons_succ, List.set_cons_zero]) | (go_big_op; (first | fail))) | (refine treeC_one_skip (fun w3 hx => ⟨_, H.ext hx, by repeat first | exact .here | apply Suf.there⟩) rfl rfl (fun w3 hx => ?_); replace H := H.ext hx; clear hx; (try clear w2); revert w3; intro w2 H; simp only [List.getElem_toArray, List.getElem_cons_succ, List.getElem_cons_zero, Act.put, List.setIfInBounds_toArray, List.set_cons_succ, List.set_cons_zero])) | (guard_target =~ wpTreeC _ _ _ Tr.nil _ _ _; refine treeC_nil H (fun w3 H2 => ?_); clear H; (try clear w2); revert w3; intro w2 H)))
        have hx : (⟨e, b⟩ : Hf) ∈ halves es ∧ fromZ es ⟨e, b⟩ = z := ⟨HMEM.out, HZ.out⟩
        have ex := half_ends HR.out hx.1
        obtain ⟨x2, hx2⟩ : ∃ x2, fromZ es ⟨e, !b⟩ = x2 := ⟨_, rfl⟩
        obtain ⟨ox, oy, ho⟩ : ∃ ox oy, rpt vs z = ⟨ox, oy⟩ := ⟨_, _, rfl⟩
        obtain ⟨ax, ay, ha⟩ : ∃ ax ay, rpt vs x2 = ⟨ax, ay⟩ := ⟨_, _, rfl⟩
        have hf2 := fun F w h1 => hF1 F w e (!b) x2 h1 (twin_mem hx.1) hx2
        have ha1 := fun F w h1 => hA1 F w z ox oy h1 (by rw [← hx.2]; exact ex.1) ho
        have ha2 := fun F w h1 => hA1 F w x2 ax ay h1 (by rw [← hx2]; exact ex.2.1) ha
        have HX := Lib.hid hx
        have HX2 := Lib.hid hx2
        have HO := Lib.hid ho
        have HAa := Lib.hid ha
        clear hx ex hx2 ho ha
        have ⟨gkA, hgA⟩ : ∃ g, g = gk := ⟨_, rfl⟩
        obtain ⟨Ao, co, rfl⟩ := H.growForm m0
        generalize hLn : L.length = n2 at H hLl ⊢
        have HLN := Lib.hid hLn
        clear hLn
        have H := (H.grow_nil 36 2)
        go_loopg [8, 9, 10] n2 (OutRel (ltAt vs es z) ⟨e, b⟩ L n2 w.heap.size w (.grow 36 2 (.slice Ao n2 co) n2 (hR L)) (.rd (some ⟨b3, o3, none⟩) b3 o3 (hR (halves es)) :: .cells b1 [.slice A n c, .slice A2 m c2] :: .rd A2 b9 o9 (eR es) :: .rd A b0 o0 (vR vs) :: []))
        case atStart => exact ⟨[], false, by simp, Nat.le_refl _, rfl, by simp, H⟩
        case round =>
          clear H
          obtain ⟨l2, d2, hfold, hk2, rfl, rfl, H⟩ := hrel
          have hl2 : l2.length ≤ 4096 := by
            have := insS_lens (ltAt vs es z) ⟨e, b⟩ (L.take (n2 - gk)) ([], false)
            rw [hfold, List.length_take] at this
            simp only [List.length_nil] at this
            omega
          by_cases hlt2 : 0 < gk
          · obtain ⟨q, hq⟩ : ∃ q, n2 - gk = q := ⟨_, rfl⟩
            have hql : q < n2 := by omega
            rw [hq] at hfold ⊢
            obtain ⟨f, d, hf⟩ := hf_get (by have := HLN.out; omega : q < L.length)
            obtain ⟨bo, cq, ho⟩ := H.growSome m1 (by omega) (by decide)
            injection ho with ho1 ho2 ho3
            subst ho1 ho3
            have hp2 : (Res.grow 36 2 (.slice (some ⟨bo, 0, none⟩) n2 co) n2 (hR L)).at bo (q * 2) [.int .i64 f, .bool d] := at_grow (hR_at hf)
            have hy := HLS.out.1 _ (List.mem_of_getElem? hf)
            have ey := half_ends HR.out hy.1
            obtain ⟨y2, hy2⟩ : ∃ y2, fromZ es ⟨f, !d⟩ = y2 := ⟨_, rfl⟩
            obtain ⟨bx, b_y, hb2⟩ : ∃ bx b_y, rpt vs y2 = ⟨bx, b_y⟩ := ⟨_, _, rfl⟩
            have hf3 := fun F w h1 => hF1 F w f (!d) y2 h1 (twin_mem hy.1) hy2
            have ha3 := fun F w h1 => hA1 F w y2 bx b_y h1 (by rw [← hy2]; exact ey.2.1) hb2
            have har := fun w => aroundO_any HR.out HX.out hy HO.out (show rpt vs (toZ es ⟨e, b⟩) = ⟨ax, ay⟩ by rw [← HAa.out, ← HX2.out]; rfl) (show rpt vs (toZ es ⟨f, d⟩) = ⟨bx, b_y⟩ by rw [← hb2, ← hy2]; rfl) w
            have hlt3 : ltAt vs es z ⟨e, b⟩ ⟨f, d⟩ = decide (aroundZ (rpt vs z) (farP vs es ⟨e, b⟩) (farP vs es ⟨f, d⟩) < 0) := rfl
            generalize aroundZ (rpt vs z) (farP vs es ⟨e, b⟩) (farP vs es ⟨f, d⟩) = av at har hlt3
            have hst2 := foldl_take (insS (ltAt vs es z) ⟨e, b⟩) ([], false) hf
            rw [hfold] at hst2
            obtain ⟨v, hv⟩ : ∃ v, decide (av < 0) = v := ⟨_, rfl⟩
            rw [show insS (ltAt vs es z) ⟨e, b⟩ (l2, d2) ⟨f, d⟩ = (if (!d2 && v) = true then (l2 ++ [⟨e, b⟩, ⟨f, d⟩], true) else (l2 ++ [⟨f, d⟩], d2)) by rw [← hv, ← hlt3]; rfl] at hst2
            have HQ := Lib.hid hq
            generalize hl3 : l2.length = n3 at H hl2
            have HL3 := Lib.hid hl3
            generalize hX3 : hR l2 = X3 at H
            have HX3 := Lib.hid hX3
            clear hf hy ey hy2 hb2 hlt3 hfold hq hl3 hX3
            cases d2
            · cases v
              · have HS2 := Lib.hid hst2
                clear hst2
                have tk0 : True := trivial
                have tk1 : True := trivial
                go_wp2_with (first
                  | (guard_target =~ Code.wp _ (Code.region 12 _ true) _ _ _; refine region_treeC0 12 (G := True) (.q 0 (.q 1 (.q 2 (.q 3 (.q 4 (.q 5 (.q 6 (.q 7 (.q 8 (.q 9 (.q 10 (.q 11 (.q 12 (.q 13 (.q 14 (.q 15 (.q 16 (.q 17 (.q 18 (.q 19 (.q 20 (.q 21 (.q 22 (.q 23 (.q 24 (.q 25 (.q 26 .nil))))))))))))))))))))))))))) (by kernel_rfl) (by intro c a d v w h; cases d <;> exact h) (by kernel_rfl) H ⟨trivial⟩ (fun _ w3 H2 => ?_); (clear H; (try clear w2); revert w3; intro w2 H))
                  | (guard_target =~ wpList _ _ _ (_ :: _) _ _; (first | (guard_target =~ wpList _ _ _ (Oper.mk _ (.call { callee := .builtin .append, args := _, argTypes := _ }) _ _ _ _ :: _) _ _; refine BigFrame.wpList_want rfl (fun K hK => ?_); refine o_append (row := ?_) (n := ?_) (xs := ?_) (l' := ?_) infoHf rfl rfl rfl H ?_ rfl ?_ ?_ (by kernel_rfl) rfl (by decide) ?_ ?_ ?_ (fun v2 w3 H2 hn => hK _ _ ?_); rotate_left 4; (repeat first | exact .head _ | apply List.Mem.tail); (focus (simp; done)); (focus (intro _; (exact r1))); exact rfl; exact (by unfold maxLen; omega); exact (by omega); clear hK K hn; clear H; (try clear w2); revert w3; intro w2 H; simp only [List.take_succ_cons, List.take_zero, Nat.one_mul] at H; (obtain ⟨A7, c7, rfl⟩ := H.growForm (v := v2) (by repeat first | exact .head _ | apply List.Mem.tail))) | (guard_target =~ wpList _ _ _ (Oper.mk _ (.load _ _) _ _ _ _ :: _) _ _; refine BigFrame.wpList_want rfl (fun K hK => ?_); (refine o_loadN (cs := ?_) (r := ?_) rfl rfl H ?_ ?_ ?_ ?_ (hK _ _ ?_); rotate_left 2; (with_reducible assumption); (repeat first | exact .head _ | apply List.Mem.tail); (focus (intro _; simp; done)); (focus (intro _; simp; done))); clear hK K) | ((guard_target =~ wpList _ _ _ (Oper.mk _ (.buildSlice _ _ _) _ _ _ _ :: _) _ _; refine BigFrame.wpList_want rfl (fun K hK => ?_); refine o_buildSlice (C := ?_) (E := ?_) rfl rfl H ?_ rfl (fun w3 b2 he H2 => hK _ _ ?_); rotate_left 2; (focus (intro _; simp [go_sem, Instr.buildSlice]; with_reducible exact rfl))); clear hK K he; clear H; (try clear w2); revert w3; intro w2 H; simp [Act.eval, Value.cells, setL, List.getD] at H; (clear tk0; rename Nat => b4))); simp only [Act.put, List.setIfInBounds_toArray, List.set_cons_succ, List.set_cons_zero])
                  | (guard_target =~ wpTreeC _ _ _ _ _ _ _; first | (guard_target =~ wpTreeC _ _ _ (Tr.e _ Tr.nil) _ _ _; refine treeC_last (by decide +kernel) H rfl rfl (fun w3 H2 K hK => ?_); clear H; (try clear w2); (revert w3; intro w2 H); simp only [List.getElem_toArray, List.getElem_cons_succ, List.getElem_cons_zero]; (first | fail); simp only [Act.put, List.setIfInBounds_toArray, List.set_cons_succ, List.set_cons_zero]) | (guard_target =~ wpTreeC _ _ _ (Tr.q _ _) _ _ _; first | (refine treeC_quiet ⟨_, H, by repeat first | exact .here | apply Suf.there⟩ rfl rfl rfl (fun K hK => ?_); simp only [List.getElem_toArray, List.getElem_cons_succ, List.getElem_cons_zero]; first | (guard_target =~ Oper.quiet _ (Oper.mk _ (.load _ _) _ _ _ _) _ _ _; (first | (refine q_loadN (cs := ?_) (r := ?_) rfl rfl ?_ ?_ ?_ ?_ (hK _ ?_); rotate_left 2; (with_reducible assumption); (repeat first | exact .head _ | apply List.Mem.tail); (focus (intro _; simp; done)); (focus (intro _; simp; done))) | (refine q_loadNC (row := ?_) rfl rfl ?_ ?_ ?_ (hK _ ?_); rotate_left 1; (repeat first | exact .head _ | apply List.Mem.tail); (focus (intro _; simp; done)); (focus (intro _; simp; done)))); clear hK K; simp only [Act.put, List.setIfInBounds_toArray, List.set_cons_succ, List.set_cons_zero]) | (go_big_quiet_op; (try refine ⟨_, fun _ _ => rfl, ?_⟩); refine hK _ ?_; clear hK K)) | (refine treeC_call (v := ?_) ⟨_, H, by repeat first | exact .here | apply Suf.there⟩ rfl rfl (fun w3 H K hK => ?_) ?_; rotate_left 1; (focus (simp only [List.getElem_toArray, List.getElem_cons_succ, List.getElem_cons_zero]; first | (go_big_op; first | exact hK _ (Ext.refl _) | (go_at_call 32; (with_reducible refine (hf2 _ _ (by exact H.giveRd m4 f9)).mono ?_); rintro e w3 ⟨rfl, hb⟩; dsimp only; first | exact hK _ hb | exact hK _ (Ext.refl _)) | (go_at_call 32; (with_reducible refine (hf3 _ _ (by exact H.giveRd m4 f9)).mono ?_); rintro e w3 ⟨rfl, hb⟩; dsimp only; first | exact hK _ hb | exact hK _ (Ext.refl _)) | (go_at_call 20; (with_reducible refine (rtwin_any _ _ _).mono ?_); rintro e w3 ⟨rfl, hb⟩; dsimp only; first | exact hK _ hb | exact hK _ (Ext.refl _)) | (go_at_call 33; (with_reducible refine (ha1 _ _ (by exact H.giveRd m5 f0)).mono ?_); rintro e w3 ⟨rfl, hb⟩; dsimp only; first | exact hK _ hb | exact hK _ (Ext.refl _)) | (go_at_call 33; (with_reducible refine (ha2 _ _ (by exact H.giveRd m5 f0)).mono ?_); rintro e w3 ⟨rfl, hb⟩; dsimp only; first | exact hK _ hb | exact hK _ (Ext.refl _)) | (go_at_call 33; (with_reducible refine (ha3 _ _ (by exact H.giveRd m5 f0)).mono ?_); rintro e w3 ⟨rfl, hb⟩; dsimp only; first | exact hK _ hb | exact hK _ (Ext.refl _)) | (go_at_call 54; (with_reducible refine (har _).mono ?_); rintro e w3 ⟨rfl, hb⟩; dsimp only; first | exact hK _ hb | exact hK _ (Ext.refl _))))); simp only [List.getElem_toArray, List.getElem_cons_succ, List.getElem_cons_zero, Act.put, List.setIfInBounds_toArray, List.set_cons_succ, List.set_cons_zero]) | (refine treeC_skip ⟨_, H, by repeat first | exact .here | apply Suf.there⟩ rfl rfl ?_; simp only [List.getElem_toArray, List.getElem_cons_succ, List.getElem_cons_zero, Act.put, List.setIfInBounds_toArray, List.set_cons_succ, List.set_cons_zero])) | (guard_target =~ wpTreeC _ _ _ (Tr.both _ _) _ _ _; refine treeC_both ?_ ?_) | (guard_target =~ wpTreeC _ _ _ (Tr.e _ _) _ _ _; first | (refine treeC_one H rfl rfl (fun w3 H2 K hK => ?_); clear H; (try clear w2); (revert w3; intro w2 H); simp only [List.getElem_toArray, List.getElem_cons_succ, List.getElem_cons_zero]; first | ((first | fail); simp only [Act.put, List.setIfInBounds_toArray, List.set_cons_succ, List.set_cons_zero]) | (go_big_op; (first | fail))) | (refine treeC_one_skip (fun w3 hx => ⟨_, H.ext hx, by repeat first | exact .here | apply Suf.there⟩) rfl rfl (fun w3 hx => ?_); replace H := H.ext hx; clear hx; (try clear w2); revert w3; intro w2 H; simp only [List.getElem_toArray, List.getElem_cons_succ, List.getElem_cons_zero, Act.put, List.setIfInBounds_toArray, List.set_cons_succ, List.set_cons_zero])) | (guard_target =~ wpTreeC _ _ _ Tr.nil _ _ _; refine treeC_nil H (fun w3 H2 => ?_); clear H; (try clear w2); revert w3; intro w2 H)))
                go_roundg (gk - 1)
                case rel =>
                  refine ⟨l2 ++ [⟨f, d⟩], false, by rw [show n2 - (gk - 1) = q + 1 by have := HQ.out; omega]; simpa using HS2.out, by omega, rfl, by have := HQ.out; congr 1; omega, ?_⟩
                  have H4 := H.tail
                  rw [← HX3.out] at H4
                  rw [show (l2 ++ [(⟨f, d⟩ : Hf)]).length = n3 + 1 by rw [← HL3.out]; simp, show hR (l2 ++ [(⟨f, d⟩ : Hf)]) = hR l2 ++ [.int .i64 f, .bool d] by simp [hR, h2]]
                  exact H4
                case measure => omega
              · have HS2 := Lib.hid hst2
                clear hst2
                have tk0 : True := trivial
                have tk1 : True := trivial
                go_wp2_with (first
                  | (guard_target =~ Code.wp _ (Code.region 12 _ true) _ _ _; refine region_treeC0 12 (G := True) (.q 0 (.q 1 (.q 2 (.q 3 (.q 4 (.q 5 (.q 6 (.q 7 (.q 8 (.q 9 (.q 10 (.q 11 (.q 12 (.q 13 (.q 14 (.q 15 (.q 16 (.q 17 (.q 18 (.q 19 (.q 20 (.q 21 (.q 22 (.q 23 (.q 24 (.q 25 (.q 26 .nil))))))))))))))))))))))))))) (by kernel_rfl) (by intro c a d v w h; cases d <;> exact h) (by kernel_rfl) H ⟨trivial⟩ (fun _ w3 H2 => ?_); (clear H; (try clear w2); revert w3; intro w2 H))
                  | (guard_target =~ wpList _ _ _ (_ :: _) _ _; (first | (guard_target =~ wpList _ _ _ (Oper.mk _ (.call { callee := .builtin .append, args := _, argTypes := _ }) _ _ _ _ :: _) _ _; refine BigFrame.wpList_want rfl (fun K hK => ?_); refine o_append (row := ?_) (n := ?_) (xs := ?_) (l' := ?_) infoHf rfl rfl rfl H ?_ rfl ?_ ?_ (by kernel_rfl) rfl (by decide) ?_ ?_ ?_ (fun v2 w3 H2 hn => hK _ _ ?_); rotate_left 4; (repeat first | exact .head _ | apply List.Mem.tail); (focus (simp; done)); (focus (intro _; (first | exact r1 | exact r2))); exact rfl; exact (by unfold maxLen; omega); exact (by omega); clear hK K hn; clear H; (try clear w2); revert w3; intro w2 H; simp only [List.take_succ_cons, List.take_zero, Nat.one_mul] at H; (obtain ⟨A7, c7, rfl⟩ := H.growForm (v := v2) (by repeat first | exact .head _ | apply List.Mem.tail))) | (guard_target =~ wpList _ _ _ (Oper.mk _ (.load _ _) _ _ _ _ :: _) _ _; refine BigFrame.wpList_want rfl (fun K hK => ?_); (refine o_loadN (cs := ?_) (r := ?_) rfl rfl H ?_ ?_ ?_ ?_ (hK _ _ ?_); rotate_left 2; (with_reducible assumption); (repeat first | exact .head _ | apply List.Mem.tail); (focus (intro _; simp; done)); (focus (intro _; simp; done))); clear hK K) | ((guard_target =~ wpList _ _ _ (Oper.mk _ (.buildSlice _ _ _) _ _ _ _ :: _) _ _; refine BigFrame.wpList_want rfl (fun K hK => ?_); refine o_buildSlice (C := ?_) (E := ?_) rfl rfl H ?_ rfl (fun w3 b2 he H2 => hK _ _ ?_); rotate_left 2; (focus (intro _; simp [go_sem, Instr.buildSlice]; with_reducible exact rfl))); clear hK K he; clear H; (try clear w2); revert w3; intro w2 H; simp [Act.eval, Value.cells, setL, List.getD] at H; (first | (clear tk0; rename Nat => b4) | (clear tk1; rename Nat => b5)))); simp only [Act.put, List.setIfInBounds_toArray, List.set_cons_succ, List.set_cons_zero])
                  | (guard_target =~ wpTreeC _ _ _ _ _ _ _; first | (guard_target =~ wpTreeC _ _ _ (Tr.e _ Tr.nil) _ _ _; refine treeC_last (by decide +kernel) H rfl rfl (fun w3 H2 K hK => ?_); clear H; (try clear w2); (revert w3; intro w2 H); simp only [List.getElem_toArray, List.getElem_cons_succ, List.getElem_cons_zero]; (first | fail); simp only [Act.put, List.setIfInBounds_toArray, List.set_cons_succ, List.set_cons_zero]) | (guard_target =~ wpTreeC _ _ _ (Tr.q _ _) _ _ _; first | (refine treeC_quiet ⟨_, H, by repeat first | exact .here | apply Suf.there⟩ rfl rfl rfl (fun K hK => ?_); simp only [List.getElem_toArray, List.getElem_cons_succ, List.getElem_cons_zero]; first | (guard_target =~ Oper.quiet _ (Oper.mk _ (.load _ _) _ _ _ _) _ _ _; (first | (refine q_loadN (cs := ?_) (r := ?_) rfl rfl ?_ ?_ ?_ ?_ (hK _ ?_); rotate_left 2; (with_reducible assumption); (repeat first | exact .head _ | apply List.Mem.tail); (focus (intro _; simp; done)); (focus (intro _; simp; done))) | (refine q_loadNC (row := ?_) rfl rfl ?_ ?_ ?_ (hK _ ?_); rotate_left 1; (repeat first | exact .head _ | apply List.Mem.tail); (focus (intro _; simp; done)); (focus (intro _; simp; done)))); clear hK K; simp only [Act.put, List.setIfInBounds_toArray, List.set_cons_succ, List.set_cons_zero]) | (go_big_quiet_op; (try refine ⟨_, fun _ _ => rfl, ?_⟩); refine hK _ ?_; clear hK K)) | (refine treeC_call (v := ?_) ⟨_, H, by repeat first | exact .here | apply Suf.there⟩ rfl rfl (fun w3 H K hK => ?_) ?_; rotate_left 1; (focus (simp only [List.getElem_toArray, List.getElem_cons_succ, List.getElem_cons_zero]; first | (go_big_op; first | exact hK _ (Ext.refl _) | (go_at_call 32; (with_reducible refine (hf2 _ _ (by exact H.giveRd m4 f9)).mono ?_); rintro e w3 ⟨rfl, hb⟩; dsimp only; first | exact hK _ hb | exact hK _ (Ext.refl _)) | (go_at_call 32; (with_reducible refine (hf3 _ _ (by exact H.giveRd m4 f9)).mono ?_); rintro e w3 ⟨rfl, hb⟩; dsimp only; first | exact hK _ hb | exact hK _ (Ext.refl _)) | (go_at_call 20; (with_reducible refine (rtwin_any _ _ _).mono ?_); rintro e w3 ⟨rfl, hb⟩; dsimp only; first | exact hK _ hb | exact hK _ (Ext.refl _)) | (go_at_call 33; (with_reducible refine (ha1 _ _ (by exact H.giveRd m5 f0)).mono ?_); rintro e w3 ⟨rfl, hb⟩; dsimp only; first | exact hK _ hb | exact hK _ (Ext.refl _)) | (go_at_call 33; (with_reducible refine (ha2 _ _ (by exact H.giveRd m5 f0)).mono ?_); rintro e w3 ⟨rfl, hb⟩; dsimp only; first | exact hK _ hb | exact hK _ (Ext.refl _)) | (go_at_call 33; (with_reducible refine (ha3 _ _ (by exact H.giveRd m5 f0)).mono ?_); rintro e w3 ⟨rfl, hb⟩; dsimp only; first | exact hK _ hb | exact hK _ (Ext.refl _)) | (go_at_call 54; (with_reducible refine (har _).mono ?_); rintro e w3 ⟨rfl, hb⟩; dsimp only; first | exact hK _ hb | exact hK _ (Ext.refl _))))); simp only [List.getElem_toArray, List.getElem_cons_succ, List.getElem_cons_zero, Act.put, List.setIfInBounds_toArray, List.set_cons_succ, List.set_cons_zero]) | (refine treeC_skip ⟨_, H, by repeat first | exact .here | apply Suf.there⟩ rfl rfl ?_; simp only [List.getElem_toArray, List.getElem_cons_succ, List.getElem_cons_zero, Act.put, List.setIfInBounds_toArray, List.set_cons_succ, List.set_cons_zero])) | (guard_target =~ wpTreeC _ _ _ (Tr.both _ _) _ _ _; refine treeC_both ?_ ?_) | (guard_target =~ wpTreeC _ _ _ (Tr.e _ _) _ _ _; first | (refine treeC_one H rfl rfl (fun w3 H2 K hK => ?_); clear H; (try clear w2); (revert w3; intro w2 H); simp only [List.getElem_toArray, List.getElem_cons_succ, List.getElem_cons_zero]; first | ((first | fail); simp only [Act.put, List.setIfInBounds_toArray, List.set_cons_succ, List.set_cons_zero]) | (go_big_op; (first | fail))) | (refine treeC_one_skip (fun w3 hx => ⟨_, H.ext hx, by repeat first | exact .here | apply Suf.there⟩) rfl rfl (fun w3 hx => ?_); replace H := H.ext hx; clear hx; (try clear w2); revert w3; intro w2 H; simp only [List.getElem_toArray, List.getElem_cons_succ, List.getElem_cons_zero, Act.put, List.setIfInBounds_toArray, List.set_cons_succ, List.set_cons_zero])) | (guard_target =~ wpTreeC _ _ _ Tr.nil _ _ _; refine treeC_nil H (fun w3 H2 => ?_); clear H; (try clear w2); revert w3; intro w2 H)))
                go_roundg (gk - 1)
                case rel =>
                  refine ⟨l2 ++ [⟨e, b⟩, ⟨f, d⟩], true, by rw [show n2 - (gk - 1) = q + 1 by have := HQ.out; omega]; simpa using HS2.out, by omega, rfl, by have := HQ.out; congr 1; omega, ?_⟩
                  have H4 := H.tail.tail
                  rw [← HX3.out] at H4
                  rw [show (l2 ++ [(⟨e, b⟩ : Hf), ⟨f, d⟩]).length = n3 + 2 by rw [← HL3.out]; simp, show hR (l2 ++ [(⟨e, b⟩ : Hf), ⟨f, d⟩]) = hR l2 ++ [.int .i64 e, .bool b, .int .i64 f, .bool d] by simp [hR, h2]]
                  simpa using H4
                case measure => omega
            · have HS2 := Lib.hid hst2
              clear hst2
              have tk0 : True := trivial
              have tk1 : True := trivial
              go_wp2_with (first
                | (guard_target =~ Code.wp _ (Code.region 12 _ true) _ _ _; refine region_treeC0 12 (G := True) (.q 0 (.q 1 (.q 2 (.q 3 (.q 4 (.q 5 (.q 6 (.q 7 (.q 8 (.q 9 (.q 10 (.q 11 (.q 12 (.q 13 (.q 14 (.q 15 (.q 16 (.q 17 (.q 18 (.q 19 (.q 20 (.q 21 (.q 22 (.q 23 (.q 24 (.q 25 (.q 26 .nil))))))))))))))))))))))))))) (by kernel_rfl) (by intro c a d v w h; cases d <;> exact h) (by kernel_rfl) H ⟨trivial⟩ (fun _ w3 H2 => ?_); (clear H; (try clear w2); revert w3; intro w2 H))
                | (guard_target =~ wpList _ _ _ (_ :: _) _ _; (first | (guard_target =~ wpList _ _ _ (Oper.mk _ (.call { callee := .builtin .append, args := _, argTypes := _ }) _ _ _ _ :: _) _ _; refine BigFrame.wpList_want rfl (fun K hK => ?_); refine o_append (row := ?_) (n := ?_) (xs := ?_) (l' := ?_) infoHf rfl rfl rfl H ?_ rfl ?_ ?_ (by kernel_rfl) rfl (by decide) ?_ ?_ ?_ (fun v2 w3 H2 hn => hK _ _ ?_); rotate_left 4; (repeat first | exact .head _ | apply List.Mem.tail); (focus (simp; done)); (focus (intro _; (exact r1))); exact rfl; exact (by unfold maxLen; omega); exact (by omega); clear hK K hn; clear H; (try clear w2); revert w3; intro w2 H; simp only [List.take_succ_cons, List.take_zero, Nat.one_mul] at H; (obtain ⟨A7, c7, rfl⟩ := H.growForm (v := v2) (by repeat first | exact .head _ | apply List.Mem.tail))) | (guard_target =~ wpList _ _ _ (Oper.mk _ (.load _ _) _ _ _ _ :: _) _ _; refine BigFrame.wpList_want rfl (fun K hK => ?_); (refine o_loadN (cs := ?_) (r := ?_) rfl rfl H ?_ ?_ ?_ ?_ (hK _ _ ?_); rotate_left 2; (with_reducible assumption); (repeat first | exact .head _ | apply List.Mem.tail); (focus (intro _; simp; done)); (focus (intro _; simp; done))); clear hK K) | ((guard_target =~ wpList _ _ _ (Oper.mk _ (.buildSlice _ _ _) _ _ _ _ :: _) _ _; refine BigFrame.wpList_want rfl (fun K hK => ?_); refine o_buildSlice (C := ?_) (E := ?_) rfl rfl H ?_ rfl (fun w3 b2 he H2 => hK _ _ ?_); rotate_left 2; (focus (intro _; simp [go_sem, Instr.buildSlice]; with_reducible exact rfl))); clear hK K he; clear H; (try clear w2); revert w3; intro w2 H; simp [Act.eval, Value.cells, setL, List.getD] at H; (clear tk0; rename Nat => b4))); simp only [Act.put, List.setIfInBounds_toArray, List.set_cons_succ, List.set_cons_zero])
                | (guard_target =~ wpTreeC _ _ _ _ _ _ _; first | (guard_target =~ wpTreeC _ _ _ (Tr.e _ Tr.nil) _ _ _; refine treeC_last (by decide +kernel) H rfl rfl (fun w3 H2 K hK => ?_); clear H; (try clear w2); (revert w3; intro w2 H); simp only [List.getElem_toArray, List.getElem_cons_succ, List.getElem_cons_zero]; (first | fail); simp only [Act.put, List.setIfInBounds_toArray, List.set_cons_succ, List.set_cons_zero]) | (guard_target =~ wpTreeC _ _ _ (Tr.q _ _) _ _ _; first | (refine treeC_quiet ⟨_, H, by repeat first | exact .here | apply Suf.there⟩ rfl rfl rfl (fun K hK => ?_); simp only [List.getElem_toArray, List.getElem_cons_succ, List.getElem_cons_zero]; first | (guard_target =~ Oper.quiet _ (Oper.mk _ (.load _ _) _ _ _ _) _ _ _; (first | fail); clear hK K; simp only [Act.put, List.setIfInBounds_toArray, List.set_cons_succ, List.set_cons_zero]) | (go_big_quiet_op; (try refine ⟨_, fun _ _ => rfl, ?_⟩); refine hK _ ?_; clear hK K)) | (refine treeC_call (v := ?_) ⟨_, H, by repeat first | exact .here | apply Suf.there⟩ rfl rfl (fun w3 H K hK => ?_) ?_; rotate_left 1; (focus (simp only [List.getElem_toArray, List.getElem_cons_succ, List.getElem_cons_zero]; first | (go_big_op; first | exact hK _ (Ext.refl _) | (go_at_call 32; (with_reducible refine (hf2 _ _ (by first | fail)).mono ?_); rintro e w3 ⟨rfl, hb⟩; dsimp only; first | exact hK _ hb | exact hK _ (Ext.refl _)) | (go_at_call 32; (with_reducible refine (hf3 _ _ (by first | fail)).mono ?_); rintro e w3 ⟨rfl, hb⟩; dsimp only; first | exact hK _ hb | exact hK _ (Ext.refl _)) | (go_at_call 20; (with_reducible refine (rtwin_any _ _ _).mono ?_); rintro e w3 ⟨rfl, hb⟩; dsimp only; first | exact hK _ hb | exact hK _ (Ext.refl _)) | (go_at_call 33; (with_reducible refine (ha1 _ _ (by first | fail)).mono ?_); rintro e w3 ⟨rfl, hb⟩; dsimp only; first | exact hK _ hb | exact hK _ (Ext.refl _)) | (go_at_call 33; (with_reducible refine (ha2 _ _ (by first | fail)).mono ?_); rintro e w3 ⟨rfl, hb⟩; dsimp only; first | exact hK _ hb | exact hK _ (Ext.refl _)) | (go_at_call 33; (with_reducible refine (ha3 _ _ (by first | fail)).mono ?_); rintro e w3 ⟨rfl, hb⟩; dsimp only; first | exact hK _ hb | exact hK _ (Ext.refl _)) | (go_at_call 54; (with_reducible refine (har _).mono ?_); rintro e w3 ⟨rfl, hb⟩; dsimp only; first | exact hK _ hb | exact hK _ (Ext.refl _))))); simp only [List.getElem_toArray, List.getElem_cons_succ, List.getElem_cons_zero, Act.put, List.setIfInBounds_toArray, List.set_cons_succ, List.set_cons_zero]) | (refine treeC_skip ⟨_, H, by repeat first | exact .here | apply Suf.there⟩ rfl rfl ?_; simp only [List.getElem_toArray, List.getElem_cons_succ, List.getElem_cons_zero, Act.put, List.setIfInBounds_toArray, List.set_cons_succ, List.set_cons_zero])) | (guard_target =~ wpTreeC _ _ _ (Tr.both _ _) _ _ _; refine treeC_both ?_ ?_) | (guard_target =~ wpTreeC _ _ _ (Tr.e _ _) _ _ _; first | (refine treeC_one H rfl rfl (fun w3 H2 K hK => ?_); clear H; (try clear w2); (revert w3; intro w2 H); simp only [List.getElem_toArray, List.getElem_cons_succ, List.getElem_cons_zero]; first | ((first | fail); simp only [Act.put, List.setIfInBounds_toArray, List.set_cons_succ, List.set_cons_zero]) | (go_big_op; (first | fail))) | (refine treeC_one_skip (fun w3 hx => ⟨_, H.ext hx, by repeat first | exact .here | apply Suf.there⟩) rfl rfl (fun w3 hx => ?_); replace H := H.ext hx; clear hx; (try clear w2); revert w3; intro w2 H; simp only [List.getElem_toArray, List.getElem_cons_succ, List.getElem_cons_zero, Act.put, List.setIfInBounds_toArray, List.set_cons_succ, List.set_cons_zero])) | (guard_target =~ wpTreeC _ _ _ Tr.nil _ _ _; refine treeC_nil H (fun w3 H2 => ?_); clear H; (try clear w2); revert w3; intro w2 H)))
              go_roundg (gk - 1)
              case rel =>
                refine ⟨l2 ++ [⟨f, d⟩], true, by rw [show n2 - (gk - 1) = q + 1 by have := HQ.out; omega]; simpa using HS2.out, by omega, rfl, by have := HQ.out; congr 1; omega, ?_⟩
                have H4 := H.tail
                rw [← HX3.out] at H4
                rw [show (l2 ++ [(⟨f, d⟩ : Hf)]).length = n3 + 1 by rw [← HL3.out]; simp, show hR (l2 ++ [(⟨f, d⟩ : Hf)]) = hR l2 ++ [.int .i64 f, .bool d] by simp [hR, h2]]
                exact H4
              case measure => omega
          · obtain rfl : gk = 0 := by omega
            rw [Nat.sub_zero, List.take_of_length_le (by have := HLN.out; omega)] at hfold
            have hE := insS_eq (ltAt vs es z) ⟨e, b⟩ L []
            rw [hfold, List.nil_append] at hE
            unfold insE at hE
            generalize hl3 : l2.length = n3 at H hl2
            have HL3 := Lib.hid hl3
            generalize hX3 : hR l2 = X3 at H
            have HX3 := Lib.hid hX3
            clear hfold hl3 hX3
            cases d2
            · have HEE := Lib.hid hE
              clear hE
              have tk0 : True := trivial
              have tk1 : True := trivial
              go_wp2_with (guard_target =~ wpList _ _ _ (_ :: _) _ _; (first | (guard_target =~ wpList _ _ _ (Oper.mk _ (.call { callee := .builtin .append, args := _, argTypes := _ }) _ _ _ _ :: _) _ _; refine BigFrame.wpList_want rfl (fun K hK => ?_); refine o_append (row := ?_) (n := ?_) (xs := ?_) (l' := ?_) infoHf rfl rfl rfl H ?_ rfl ?_ ?_ (by kernel_rfl) rfl (by decide) ?_ ?_ ?_ (fun v2 w3 H2 hn => hK _ _ ?_); rotate_left 4; (repeat first | exact .head _ | apply List.Mem.tail); (focus (simp; done)); (focus (intro _; (exact r1))); exact rfl; exact (by unfold maxLen; omega); exact (by omega); clear hK K hn; clear H; (try clear w2); revert w3; intro w2 H; simp only [List.take_succ_cons, List.take_zero, Nat.one_mul] at H; (obtain ⟨A7, c7, rfl⟩ := H.growForm (v := v2) (by repeat first | exact .head _ | apply List.Mem.tail))) | (guard_target =~ wpList _ _ _ (Oper.mk _ (.load _ _) _ _ _ _ :: _) _ _; refine BigFrame.wpList_want rfl (fun K hK => ?_); (refine o_loadN (cs := ?_) (r := ?_) rfl rfl H ?_ ?_ ?_ ?_ (hK _ _ ?_); rotate_left 2; (with_reducible assumption); (repeat first | exact .head _ | apply List.Mem.tail); (focus (intro _; simp; done)); (focus (intro _; simp; done))); clear hK K) | ((guard_target =~ wpList _ _ _ (Oper.mk _ (.buildSlice _ _ _) _ _ _ _ :: _) _ _; refine BigFrame.wpList_want rfl (fun K hK => ?_); refine o_buildSlice (C := ?_) (E := ?_) rfl rfl H ?_ rfl (fun w3 b2 he H2 => hK _ _ ?_); rotate_left 2; (focus (intro _; simp [go_sem, Instr.buildSlice]; with_reducible exact rfl))); clear hK K he; clear H; (try clear w2); revert w3; intro w2 H; simp [Act.eval, Value.cells, setL, List.getD] at H; (clear tk0; rename Nat => b4))); simp only [Act.put, List.setIfInBounds_toArray, List.set_cons_succ, List.set_cons_zero])
              go_roundg (gkA - 1)
              case rel =>
                refine ⟨l2 ++ [⟨e, b⟩], by rw [show N - (gkA - 1) = j + 1 by have := HJ.out; omega, HST.out, ← HEE.out]; simp, by omega, by have := HJ.out; congr 1; omega, ?_⟩
                have H4 := H.tail.swap.tail
                rw [← HX3.out] at H4
                rw [show (l2 ++ [(⟨e, b⟩ : Hf)]).length = n3 + 1 by rw [← HL3.out]; simp, show hR (l2 ++ [(⟨e, b⟩ : Hf)]) = hR l2 ++ [.int .i64 e, .bool b] by simp [hR, h2]]
                exact H4
              case measure => omega
            · have HEE := Lib.hid hE
              clear hE
              have tk0 : True := trivial
              have tk1 : True := trivial
              go_wp2_with (first | fail)
              go_roundg (gkA - 1)
              case rel =>
                refine ⟨l2, by rw [show N - (gkA - 1) = j + 1 by have := HJ.out; omega, HST.out, ← HEE.out]; simp, by omega, by have := HJ.out; congr 1; omega, ?_⟩
                rw [HL3.out, HX3.out]
                exact H.swap.tail
              case measure => omega
      · rw [if_neg hzi] at HST
        have hxz : (z == id) = false := by simpa using hzi
        have HZI := Lib.hid hzi
        clear hzi
        go_wp2_with (first
          | (guard_target =~ Code.wp _ (Code.region 6 _ true) _ _ _; refine region_treeC0 6 (G := True) (.q 0 (.q 1 (.q 2 (.q 3 (.q 4 (.q 5 (.q 6 (.q 7 .nil)))))))) (by kernel_rfl) (by intro c a d v w h; cases d <;> exact h) (by kernel_rfl) H ⟨trivial⟩ (fun _ w3 H2 => ?_); (clear H; (try clear w2); revert w3; intro w2 H))
          | (guard_target =~ wpTreeC _ _ _ _ _ _ _; first | (guard_target =~ wpTreeC _ _ _ (Tr.e _ Tr.nil) _ _ _; refine treeC_last (by decide +kernel) H rfl rfl (fun w3 H2 K hK => ?_); clear H; (try clear w2); (revert w3; intro w2 H); simp only [List.getElem_toArray, List.getElem_cons_succ, List.getElem_cons_zero]; (first | fail); simp only [Act.put, List.setIfInBounds_toArray, List.set_cons_succ, List.set_cons_zero]) | (guard_target =~ wpTreeC _ _ _ (Tr.q _ _) _ _ _; first | (refine treeC_quiet ⟨_, H, by repeat first | exact .here | apply Suf.there⟩ rfl rfl rfl (fun K hK => ?_); simp only [List.getElem_toArray, List.getElem_cons_succ, List.getElem_cons_zero]; first | (guard_target =~ Oper.quiet _ (Oper.mk _ (.load _ _) _ _ _ _) _ _ _; (first | (refine q_loadN (cs := ?_) (r := ?_) rfl rfl ?_ ?_ ?_ ?_ (hK _ ?_); rotate_left 2; (with_reducible assumption); (repeat first | exact .head _ | apply List.Mem.tail); (focus (intro _; simp; done)); (focus (intro _; simp; done))) | (refine q_loadNC (row := ?_) rfl rfl ?_ ?_ ?_ (hK _ ?_); rotate_left 1; (repeat first | exact .head _ | apply List.Mem.tail); (focus (intro _; simp; done)); (focus (intro _; simp; done)))); clear hK K; simp only [Act.put, List.setIfInBounds_toArray, List.set_cons_succ, List.set_cons_zero]) | (go_big_quiet_op; (try refine ⟨_, fun _ _ => rfl, ?_⟩); refine hK _ ?_; clear hK K)) | (refine treeC_call (v := ?_) ⟨_, H, by repeat first | exact .here | apply Suf.there⟩ rfl rfl (fun w3 H K hK => ?_) ?_; rotate_left 1; (focus (simp only [List.getElem_toArray, List.getElem_cons_succ, List.getElem_cons_zero]; first | (go_big_op; first | exact hK _ (Ext.refl _) | (go_at_call 32; (with_reducible refine (hf1 _ _ (by exact H.giveRd m3 f9)).mono ?_); rintro e w3 ⟨rfl, hb⟩; dsimp only; first | exact hK _ hb | exact hK _ (Ext.refl _))))); simp only [List.getElem_toArray, List.getElem_cons_succ, List.getElem_cons_zero, Act.put, List.setIfInBounds_toArray, List.set_cons_succ, List.set_cons_zero]) | (refine treeC_skip ⟨_, H, by repeat first | exact .here | apply Suf.there⟩ rfl rfl ?_; simp only [List.getElem_toArray, List.getElem_cons_succ, List.getElem_cons_zero, Act.put, List.setIfInBounds_toArray, List.set_cons_succ, List.set_cons_zero])) | (guard_target =~ wpTreeC _ _ _ (Tr.both _ _) _ _ _; refine treeC_both ?_ ?_) | (guard_target =~ wpTreeC _ _ _ (Tr.e _ _) _ _ _; first | (refine treeC_one H rfl rfl (fun w3 H2 K hK => ?_); clear H; (try clear w2); (revert w3; intro w2 H); simp only [List.getElem_toArray, List.getElem_cons_succ, List.getElem_cons_zero]; first | ((first | fail); simp only [Act.put, List.setIfInBounds_toArray, List.set_cons_succ, List.set_cons_zero]) | (go_big_op; (first | fail))) | (refine treeC_one_skip (fun w3 hx => ⟨_, H.ext hx, by repeat first | exact .here | apply Suf.there⟩) rfl rfl (fun w3 hx => ?_); replace H := H.ext hx; clear hx; (try clear w2); revert w3; intro w2 H; simp only [List.getElem_toArray, List.getElem_cons_succ, List.getElem_cons_zero, Act.put, List.setIfInBounds_toArray, List.set_cons_succ, List.set_cons_zero])) | (guard_target =~ wpTreeC _ _ _ Tr.nil _ _ _; refine treeC_nil H (fun w3 H2 => ?_); clear H; (try clear w2); revert w3; intro w2 H)))
        go_roundg (gk - 1)
        case rel => exact ⟨L, by rw [show N - (gk - 1) = j + 1 by have := HJ.out; omega, HST.out], by omega, by have := HJ.out; congr 1; omega, H⟩
        case measure => omega
    · obtain rfl : gk = 0 := by omega
      rw [Nat.sub_zero, List.take_of_length_le (by have := HN.out; omega), outF_all] at hL
      subst hL
      go_wp2_with (first | fail)
      obtain ⟨Ar, cr, rfl, h4, h5, h6⟩ := H.giveGrow m0 HF.out
      go_ret
      exact ⟨Ar, cr, rfl, H.below, h6, h4, h5⟩
end Go.Proofs.Ytlhmjhildlnokaa

/-
  The walk of the document's Next.
-/
namespace Go.Proofs.Ytlhmjhildlnokaa
set_option linter.unusedVariables false
set_option linter.unusedSimpArgs false
open Go.RowKit

theorem outZ_len (vs : List Vt) (es : List Eg) (v : Int) : (outZ vs es v).length ≤ (halves es).length := (outF_at vs es v (halves es) (fun _ h => h)).2
set_option maxRecDepth 100000 in
set_option maxHeartbeats 16000000 in
theorem rnext_any (vs : List Vt) (es : List Eg) (A A2 : Option Addr) (n m c c2 : Nat) (F : Nat → Prop) (e0 : Int) (b0' : Bool) (w : World) (hR0 : RightP vs es) (hn : n = vs.length) (hm : m = es.length) (hs : Sl F w A (vR vs)) (hs2 : Sl F w A2 (eR es)) (hF : ∀ k, F k → k < w.heap.size) (hh : (⟨e0, b0'⟩ : Hf) ∈ halves es) :
    Calls Try.prog 31 #[.agg #[.slice A n c, .slice A2 m c2], .agg #[.int .i64 e0, .bool b0']] w fun e w' => e = .returned (hV (nextZ vs es ⟨e0, b0'⟩)) ∧ Below w.heap.size w w' := by
  obtain ⟨b0, o0, H1, f0⟩ := (Own.start w).addSl (hs.ro (by rfl))
  obtain ⟨b9, o9, H, f9⟩ := H1.addSl (hs2.ro (by rfl))
  clear hs hs2 H1
  have h1 := fun F w h1 h2 hF => rout_any vs es A A2 n m c c2 F (toZ es ⟨e0, b0'⟩) w hR0 hn hm h1 h2 hF
  have hf1 := fun F w h1 => fromR_any hR0 A A2 n m c c2 F e0 (!b0') (toZ es ⟨e0, b0'⟩) w hm h1 (twin_mem hh) rfl
  have hq := eqH_eql
  have hg := eqH_guard
  obtain ⟨nh, hnx⟩ : ∃ nh, nextZ vs es ⟨e0, b0'⟩ = nh := ⟨_, rfl⟩
  obtain ⟨ne, nb⟩ := nh
  have hnd := outZ_nodup hR0 (toZ es ⟨e0, b0'⟩)
  have htw := twin_out hR0 hh
  have hpr : ∀ i : Nat, (outZ vs es (toZ es ⟨e0, b0'⟩))[i]? = some ⟨e0, !b0'⟩ → (outZ vs es (toZ es ⟨e0, b0'⟩))[(i + (outZ vs es (toZ es ⟨e0, b0'⟩)).length - 1) % (outZ vs es (toZ es ⟨e0, b0'⟩)).length]? = some ⟨ne, nb⟩ := fun i hi => by
    have h1 := prevC_at hnd hi
    have h2 : prevC (outZ vs es (toZ es ⟨e0, b0'⟩)) ⟨e0, !b0'⟩ = ⟨ne, nb⟩ := hnx
    rw [h2] at h1
    have hl : 0 < (outZ vs es (toZ es ⟨e0, b0'⟩)).length := Nat.lt_of_le_of_lt (Nat.zero_le _) (List.getElem?_eq_some_iff.1 hi).1
    rw [List.getElem?_eq_getElem (Nat.mod_lt _ hl)] at h1 ⊢
    exact congrArg some h1.symm
  have hll : (outZ vs es (toZ es ⟨e0, b0'⟩)).length ≤ 2048 := Nat.le_trans (outZ_len _ _ _) (few_halves hR0)
  rw [hnx]
  generalize toZ es ⟨e0, b0'⟩ = z at h1 hf1 hpr htw hll
  generalize outZ vs es z = L at h1 hpr htw hll
  have HPR := Lib.hid hpr
  have HTW := Lib.hid htw
  have HF := Lib.hid hF
  clear hn hm hR0 hF hnx hnd hpr htw hh
  go_enter Try.func31, Try.ntmps31
  have tk0 : True := trivial
  have tk1 : True := trivial
  have tk2 : True := trivial
  go_wp2_with (first
    | (go_at_call 24; (with_reducible refine (h1 _ _ (by exact H.giveRd m4 f0) (by exact H.giveRd m3 f9) (H.fw_lt rfl HF.out)).mono ?_); rintro e w3 ⟨A3, c3, rfl, hb, s3, q3, q4⟩; replace H := H.ext hb; clear hb; obtain ⟨b3, o3, H4, f3⟩ := H.addSl s3; clear H s3; have H := H4; clear H4; dsimp only; (refine hK _ _ ⟨_, H, by repeat first | exact .here | apply Suf.there⟩ ?_; clear hK K; (try simp only [Act.put, List.setIfInBounds_toArray, List.set_cons_succ, List.set_cons_zero])))
    | (guard_target =~ Code.wp _ (Code.region 1 _ true) _ _ _; refine region_treeC0 1 (G := True) (.q 0 (.q 1 (.q 2 (.q 3 (.q 4 (.e 5 (.q 6 .nil))))))) (by kernel_rfl) (by intro c a d v w h; cases d <;> exact h) (by kernel_rfl) H ⟨trivial⟩ (fun _ w3 H2 => ?_); (clear H; (try clear w2); revert w3; intro w2 H))
    | (guard_target =~ wpList _ _ _ (_ :: _) _ _; ((first | (guard_target =~ wpList _ _ _ (Oper.mk _ (.alloc _) _ _ _ _ :: _) _ _; refine BigFrame.wpList_want rfl (fun K hK => ?_); refine o_alloc (z := ?_) rfl ?_ H rfl (fun w3 b2 he H2 => hK _ _ ?_); rotate_left 1; (focus (intro _; simp; with_reducible exact rfl))) | (guard_target =~ wpList _ _ _ (Oper.mk _ (.box _ _) _ _ _ _ :: _) _ _; refine BigFrame.wpList_want rfl (fun K hK => ?_); refine o_box rfl H rfl (fun w3 b2 he H2 => hK _ _ ?_))); clear hK K he; clear H; (try clear w2); revert w3; intro w2 H; simp [Act.eval, Value.cells, setL, List.getD] at H; (first | (clear tk0; rename Nat => b1) | (clear tk1; rename Nat => b2) | (clear tk2; rename Nat => b4))); simp only [Act.put, List.setIfInBounds_toArray, List.set_cons_succ, List.set_cons_zero])
    | (guard_target =~ wpTreeC _ _ _ _ _ _ _; first | (guard_target =~ wpTreeC _ _ _ (Tr.e _ Tr.nil) _ _ _; refine treeC_last (by decide +kernel) H rfl rfl (fun w3 H2 K hK => ?_); clear H; (try clear w2); (revert w3; intro w2 H); simp only [List.getElem_toArray, List.getElem_cons_succ, List.getElem_cons_zero]; (first | fail); simp only [Act.put, List.setIfInBounds_toArray, List.set_cons_succ, List.set_cons_zero]) | (guard_target =~ wpTreeC _ _ _ (Tr.q _ _) _ _ _; first | (refine treeC_quiet ⟨_, H, by repeat first | exact .here | apply Suf.there⟩ rfl rfl rfl (fun K hK => ?_); simp only [List.getElem_toArray, List.getElem_cons_succ, List.getElem_cons_zero]; first | (guard_target =~ Oper.quiet _ (Oper.mk _ (.load _ _) _ _ _ _) _ _ _; (refine q_loadNC (row := ?_) rfl rfl ?_ ?_ ?_ (hK _ ?_); rotate_left 1; (repeat first | exact .head _ | apply List.Mem.tail); (focus (intro _; simp; done)); (focus (intro _; simp; done))); clear hK K; simp only [Act.put, List.setIfInBounds_toArray, List.set_cons_succ, List.set_cons_zero]) | (go_big_quiet_op; (try refine ⟨_, fun _ _ => rfl, ?_⟩); refine hK _ ?_; clear hK K)) | (refine treeC_call (v := ?_) ⟨_, H, by repeat first | exact .here | apply Suf.there⟩ rfl rfl (fun w3 H K hK => ?_) ?_; rotate_left 1; (focus (simp only [List.getElem_toArray, List.getElem_cons_succ, List.getElem_cons_zero]; first | (go_big_op; first | exact hK _ (Ext.refl _) | (go_at_call 20; (with_reducible refine (rtwin_any _ _ _).mono ?_); rintro e w3 ⟨rfl, hb⟩; dsimp only; first | exact hK _ hb | exact hK _ (Ext.refl _)) | (go_at_call 32; (with_reducible refine (hf1 _ _ (by exact H.giveRd m3 f9)).mono ?_); rintro e w3 ⟨rfl, hb⟩; dsimp only; first | exact hK _ hb | exact hK _ (Ext.refl _)) | (go_at_call 24; (with_reducible refine (h1 _ _ (by first | fail) (by first | fail) (H.fw_lt rfl HF.out)).mono ?_); rintro e w3 ⟨A3, c3, rfl, hb, s3, q3, q4⟩; dsimp only; first | exact hK _ hb | exact hK _ (Ext.refl _))))); simp only [List.getElem_toArray, List.getElem_cons_succ, List.getElem_cons_zero, Act.put, List.setIfInBounds_toArray, List.set_cons_succ, List.set_cons_zero]) | (refine treeC_skip ⟨_, H, by repeat first | exact .here | apply Suf.there⟩ rfl rfl ?_; simp only [List.getElem_toArray, List.getElem_cons_succ, List.getElem_cons_zero, Act.put, List.setIfInBounds_toArray, List.set_cons_succ, List.set_cons_zero])) | (guard_target =~ wpTreeC _ _ _ (Tr.both _ _) _ _ _; refine treeC_both ?_ ?_) | (guard_target =~ wpTreeC _ _ _ (Tr.e _ _) _ _ _; first | (refine treeC_one H rfl rfl (fun w3 H2 K hK => ?_); clear H; (try clear w2); (revert w3; intro w2 H); simp only [List.getElem_toArray, List.getElem_cons_succ, List.getElem_cons_zero]; first | ((first | fail); simp only [Act.put, List.setIfInBounds_toArray, List.set_cons_succ, List.set_cons_zero]) | (go_big_op; (skip))) | (refine treeC_one_skip (fun w3 hx => ⟨_, H.ext hx, by repeat first | exact .here | apply Suf.there⟩) rfl rfl (fun w3 hx => ?_); replace H := H.ext hx; clear hx; (try clear w2); revert w3; intro w2 H; simp only [List.getElem_toArray, List.getElem_cons_succ, List.getElem_cons_zero, Act.put, List.setIfInBounds_toArray, List.set_cons_succ, List.set_cons_zero])) | (guard_target =~ wpTreeC _ _ _ Tr.nil _ _ _; refine treeC_nil H (fun w3 H2 => ?_); clear H; (try clear w2); revert w3; intro w2 H)))
  generalize hN : L.length = n2 at hll ⊢
  have HN := Lib.hid hN
  go_loopg [6] n2 (fun k i wr => k ≤ n2 ∧ i = .int .i64 ((n2 - k : Nat) : Int) ∧ (⟨e0, !b0'⟩ : Hf) ∉ L.take (n2 - k) ∧ Own w.heap.size w wr [.rd A3 b3 o3 (hR L), .cells b4 [.int .i64 0, .bool false], .cells b2 [.int .i64 e0, .bool b0'], .cells b1 [.slice A n c, .slice A2 m c2], .rd A2 b9 o9 (eR es), .rd A b0 o0 (vR vs)])
  case atStart => exact ⟨Nat.le_refl _, by simp, by simp, H⟩
  case round =>
    clear H
    obtain ⟨hk, rfl, hno, H⟩ := hrel
    have HNO := Lib.hid hno
    clear hno
    by_cases hlt : 0 < gk
    · obtain ⟨j, hj⟩ : ∃ j, n2 - gk = j := ⟨_, rfl⟩
      have hjl : j < n2 := by omega
      rw [hj] at HNO ⊢
      obtain ⟨f, d, he⟩ := hf_get (by omega : j < L.length)
      obtain rfl := H.rdAddr m0 (hR_pos (by omega : j < L.length))
      have hp := h_at (A := some ⟨b3, o3, none⟩) (bb := b3) (off := o3) he
      have HJ := Lib.hid hj
      have HE := Lib.hid he
      clear hj he hN
      by_cases hd : (⟨f, d⟩ : Hf) = ⟨e0, !b0'⟩
      · have hq2 : (decide (f = e0) && decide (d = !b0')) = true := (hf_eq ⟨f, d⟩ ⟨e0, !b0'⟩).trans (decide_eq_true hd)
        have hx := HPR.out j (by rw [← hd]; exact HE.out)
        have HD := Lib.hid hd
        clear hd
        rw [HN.out] at hx
        by_cases hj0 : j = 0
        · subst hj0
          obtain ⟨p, rfl⟩ : ∃ p, n2 = p + 1 := ⟨n2 - 1, by omega⟩
          rw [show (0 + (p + 1) - 1) % (p + 1) = p by rw [show 0 + (p + 1) - 1 = p by omega]; exact Nat.mod_eq_of_lt (by omega)] at hx
          have hp2 := h_at (A := some ⟨b3, o3, none⟩) (bb := b3) (off := o3) hx
          clear hx
          rw [Nat.zero_mul, Nat.add_zero] at hp
          have hz0 : ((0 : Int) == 0) = true := rfl
          have hz1 : ((p + 1 : Nat) : Int) - 1 = (p : Int) := by omega
          go_wp2_with (first
            | (guard_target =~ Code.wp _ (Code.region 5 _ true) _ _ _; refine region_treeC0 5 (G := True) (.q 0 (.q 1 (.q 2 (.q 3 (.q 4 (.q 5 (.q 6 .nil))))))) (by kernel_rfl) (by intro c a d v w h; cases d <;> exact h) (by kernel_rfl) H ⟨trivial⟩ (fun _ w3 H2 => ?_); (clear H; (try clear w2); revert w3; intro w2 H))
            | (guard_target =~ wpList _ _ _ (_ :: _) _ _; (first | (guard_target =~ wpList _ _ _ (Oper.mk _ (.load _ _) _ _ _ _ :: _) _ _; refine BigFrame.wpList_want rfl (fun K hK => ?_); (refine o_loadN (cs := ?_) (r := ?_) rfl rfl H ?_ ?_ ?_ ?_ (hK _ _ ?_); rotate_left 2; (with_reducible assumption); (repeat first | exact .head _ | apply List.Mem.tail); (focus (intro _; simp [hq2]; done)); (focus (intro _; simp [hq2]; done))); clear hK K) | (guard_target =~ wpList _ _ _ (Oper.mk _ (.store _ _ _) _ _ _ _ :: _) _ _; refine BigFrame.wpList_want rfl (fun K hK => ?_); refine o_store (l' := ?_) (row := ?_) rfl rfl H rfl ?_ ?_ ?_ ?_ (fun w3 H2 => hK _ _ ?_); rotate_left 2; (exact r1); (focus (intro _; (simp [Act.eval, Value.cells, List.getD, hq2]; done))); (focus (simp [Act.eval, Value.cells, List.getD, hq2]; done)); (exact rfl); clear hK K; clear H; (try clear w2); revert w3; intro w2 H; (try simp [Act.eval, List.getD, hq2] at H); (try simp [Value.cells, setL, hq2] at H))); simp only [Act.put, List.setIfInBounds_toArray, List.set_cons_succ, List.set_cons_zero, hq2])
            | (guard_target =~ wpTreeC _ _ _ _ _ _ _; first | (guard_target =~ wpTreeC _ _ _ (Tr.e _ Tr.nil) _ _ _; refine treeC_last (by decide +kernel) H rfl rfl (fun w3 H2 K hK => ?_); clear H; (try clear w2); (revert w3; intro w2 H); simp only [List.getElem_toArray, List.getElem_cons_succ, List.getElem_cons_zero]; (first | fail); simp only [Act.put, List.setIfInBounds_toArray, List.set_cons_succ, List.set_cons_zero, hq2]) | (guard_target =~ wpTreeC _ _ _ (Tr.q _ _) _ _ _; first | (refine treeC_quiet ⟨_, H, by repeat first | exact .here | apply Suf.there⟩ rfl rfl rfl (fun K hK => ?_); simp only [List.getElem_toArray, List.getElem_cons_succ, List.getElem_cons_zero]; first | (guard_target =~ Oper.quiet _ (Oper.mk _ (.load _ _) _ _ _ _) _ _ _; (first | (refine q_loadN (cs := ?_) (r := ?_) rfl rfl ?_ ?_ ?_ ?_ (hK _ ?_); rotate_left 2; (with_reducible assumption); (repeat first | exact .head _ | apply List.Mem.tail); (focus (intro _; simp [hq2]; done)); (focus (intro _; simp [hq2]; done))) | (refine q_loadNC (row := ?_) rfl rfl ?_ ?_ ?_ (hK _ ?_); rotate_left 1; (repeat first | exact .head _ | apply List.Mem.tail); (focus (intro _; simp [hq2]; done)); (focus (intro _; simp [hq2]; done)))); clear hK K; simp only [Act.put, List.setIfInBounds_toArray, List.set_cons_succ, List.set_cons_zero, hq2]) | (go_big_quiet_op; (try refine ⟨_, fun _ _ => rfl, ?_⟩); refine hK _ ?_; clear hK K)) | (refine treeC_call (v := ?_) ⟨_, H, by repeat first | exact .here | apply Suf.there⟩ rfl rfl (fun w3 H K hK => ?_) ?_; rotate_left 1; (focus (simp only [List.getElem_toArray, List.getElem_cons_succ, List.getElem_cons_zero]; first | (go_big_op; first | exact hK _ (Ext.refl _) | (go_at_call 20; (with_reducible refine (rtwin_any _ _ _).mono ?_); rintro e w3 ⟨rfl, hb⟩; dsimp only; first | exact hK _ hb | exact hK _ (Ext.refl _))))); simp only [List.getElem_toArray, List.getElem_cons_succ, List.getElem_cons_zero, Act.put, List.setIfInBounds_toArray, List.set_cons_succ, List.set_cons_zero, hq2]) | (refine treeC_skip ⟨_, H, by repeat first | exact .here | apply Suf.there⟩ rfl rfl ?_; simp only [List.getElem_toArray, List.getElem_cons_succ, List.getElem_cons_zero, Act.put, List.setIfInBounds_toArray, List.set_cons_succ, List.set_cons_zero, hq2])) | (guard_target =~ wpTreeC _ _ _ (Tr.both _ _) _ _ _; refine treeC_both ?_ ?_) | (guard_target =~ wpTreeC _ _ _ (Tr.e _ _) _ _ _; first | (refine treeC_one H rfl rfl (fun w3 H2 K hK => ?_); clear H; (try clear w2); (revert w3; intro w2 H); simp only [List.getElem_toArray, List.getElem_cons_succ, List.getElem_cons_zero]; first | ((first | fail); simp only [Act.put, List.setIfInBounds_toArray, List.set_cons_succ, List.set_cons_zero, hq2]) | (go_big_op; (first | fail))) | (refine treeC_one_skip (fun w3 hx => ⟨_, H.ext hx, by repeat first | exact .here | apply Suf.there⟩) rfl rfl (fun w3 hx => ?_); replace H := H.ext hx; clear hx; (try clear w2); revert w3; intro w2 H; simp only [List.getElem_toArray, List.getElem_cons_succ, List.getElem_cons_zero, Act.put, List.setIfInBounds_toArray, List.set_cons_succ, List.set_cons_zero, hq2])) | (guard_target =~ wpTreeC _ _ _ Tr.nil _ _ _; refine treeC_nil H (fun w3 H2 => ?_); clear H; (try clear w2); revert w3; intro w2 H)))
          have hr := H.loadVarN (P := Try.prog) (ty := 36) (b := b4) m1 (by simp) (by simp)
          exact bodyPost_ret (v := hV ⟨ne, nb⟩) (by simp [results, Try.results31, asAddr, hr]) rfl ⟨rfl, H.below⟩
        · obtain ⟨p, rfl⟩ : ∃ p, j = p + 1 := ⟨j - 1, by omega⟩
          rw [show (p + 1 + n2 - 1) % n2 = p by rw [show p + 1 + n2 - 1 = p + n2 by omega, Nat.add_mod_right]; exact Nat.mod_eq_of_lt (by omega)] at hx
          have hp2 := h_at (A := some ⟨b3, o3, none⟩) (bb := b3) (off := o3) hx
          clear hx
          have hz0 : (((p + 1 : Nat) : Int) == 0) = false := by simpa using (by omega : ¬ ((p : Int) + 1 = 0))
          have hz1 : ((p + 1 : Nat) : Int) - 1 = (p : Int) := by omega
          go_wp2_with (first
            | (guard_target =~ Code.wp _ (Code.region 5 _ true) _ _ _; refine region_treeC0 5 (G := True) (.q 0 (.q 1 (.q 2 (.q 3 (.q 4 (.q 5 (.q 6 .nil))))))) (by kernel_rfl) (by intro c a d v w h; cases d <;> exact h) (by kernel_rfl) H ⟨trivial⟩ (fun _ w3 H2 => ?_); (clear H; (try clear w2); revert w3; intro w2 H))
            | (guard_target =~ wpList _ _ _ (_ :: _) _ _; (first | (guard_target =~ wpList _ _ _ (Oper.mk _ (.load _ _) _ _ _ _ :: _) _ _; refine BigFrame.wpList_want rfl (fun K hK => ?_); (refine o_loadN (cs := ?_) (r := ?_) rfl rfl H ?_ ?_ ?_ ?_ (hK _ _ ?_); rotate_left 2; (with_reducible assumption); (repeat first | exact .head _ | apply List.Mem.tail); (focus (intro _; simp [hq2]; done)); (focus (intro _; simp [hq2]; done))); clear hK K) | (guard_target =~ wpList _ _ _ (Oper.mk _ (.store _ _ _) _ _ _ _ :: _) _ _; refine BigFrame.wpList_want rfl (fun K hK => ?_); refine o_store (l' := ?_) (row := ?_) rfl rfl H rfl ?_ ?_ ?_ ?_ (fun w3 H2 => hK _ _ ?_); rotate_left 2; (exact r1); (focus (intro _; (simp [Act.eval, Value.cells, List.getD, hq2]; done))); (focus (simp [Act.eval, Value.cells, List.getD, hq2]; done)); (exact rfl); clear hK K; clear H; (try clear w2); revert w3; intro w2 H; (try simp [Act.eval, List.getD, hq2] at H); (try simp [Value.cells, setL, hq2] at H))); simp only [Act.put, List.setIfInBounds_toArray, List.set_cons_succ, List.set_cons_zero, hq2])
            | (guard_target =~ wpTreeC _ _ _ _ _ _ _; first | (guard_target =~ wpTreeC _ _ _ (Tr.e _ Tr.nil) _ _ _; refine treeC_last (by decide +kernel) H rfl rfl (fun w3 H2 K hK => ?_); clear H; (try clear w2); (revert w3; intro w2 H); simp only [List.getElem_toArray, List.getElem_cons_succ, List.getElem_cons_zero]; (first | fail); simp only [Act.put, List.setIfInBounds_toArray, List.set_cons_succ, List.set_cons_zero, hq2]) | (guard_target =~ wpTreeC _ _ _ (Tr.q _ _) _ _ _; first | (refine treeC_quiet ⟨_, H, by repeat first | exact .here | apply Suf.there⟩ rfl rfl rfl (fun K hK => ?_); simp only [List.getElem_toArray, List.getElem_cons_succ, List.getElem_cons_zero]; first | (guard_target =~ Oper.quiet _ (Oper.mk _ (.load _ _) _ _ _ _) _ _ _; (first | (refine q_loadN (cs := ?_) (r := ?_) rfl rfl ?_ ?_ ?_ ?_ (hK _ ?_); rotate_left 2; (with_reducible assumption); (repeat first | exact .head _ | apply List.Mem.tail); (focus (intro _; simp [hq2]; done)); (focus (intro _; simp [hq2]; done))) | (refine q_loadNC (row := ?_) rfl rfl ?_ ?_ ?_ (hK _ ?_); rotate_left 1; (repeat first | exact .head _ | apply List.Mem.tail); (focus (intro _; simp [hq2]; done)); (focus (intro _; simp [hq2]; done)))); clear hK K; simp only [Act.put, List.setIfInBounds_toArray, List.set_cons_succ, List.set_cons_zero, hq2]) | (go_big_quiet_op; (try refine ⟨_, fun _ _ => rfl, ?_⟩); refine hK _ ?_; clear hK K)) | (refine treeC_call (v := ?_) ⟨_, H, by repeat first | exact .here | apply Suf.there⟩ rfl rfl (fun w3 H K hK => ?_) ?_; rotate_left 1; (focus (simp only [List.getElem_toArray, List.getElem_cons_succ, List.getElem_cons_zero]; first | (go_big_op; first | exact hK _ (Ext.refl _) | (go_at_call 20; (with_reducible refine (rtwin_any _ _ _).mono ?_); rintro e w3 ⟨rfl, hb⟩; dsimp only; first | exact hK _ hb | exact hK _ (Ext.refl _))))); simp only [List.getElem_toArray, List.getElem_cons_succ, List.getElem_cons_zero, Act.put, List.setIfInBounds_toArray, List.set_cons_succ, List.set_cons_zero, hq2]) | (refine treeC_skip ⟨_, H, by repeat first | exact .here | apply Suf.there⟩ rfl rfl ?_; simp only [List.getElem_toArray, List.getElem_cons_succ, List.getElem_cons_zero, Act.put, List.setIfInBounds_toArray, List.set_cons_succ, List.set_cons_zero, hq2])) | (guard_target =~ wpTreeC _ _ _ (Tr.both _ _) _ _ _; refine treeC_both ?_ ?_) | (guard_target =~ wpTreeC _ _ _ (Tr.e _ _) _ _ _; first | (refine treeC_one H rfl rfl (fun w3 H2 K hK => ?_); clear H; (try clear w2); (revert w3; intro w2 H); simp only [List.getElem_toArray, List.getElem_cons_succ, List.getElem_cons_zero]; first | ((first | fail); simp only [Act.put, List.setIfInBounds_toArray, List.set_cons_succ, List.set_cons_zero, hq2]) | (go_big_op; (first | fail))) | (refine treeC_one_skip (fun w3 hx => ⟨_, H.ext hx, by repeat first | exact .here | apply Suf.there⟩) rfl rfl (fun w3 hx => ?_); replace H := H.ext hx; clear hx; (try clear w2); revert w3; intro w2 H; simp only [List.getElem_toArray, List.getElem_cons_succ, List.getElem_cons_zero, Act.put, List.setIfInBounds_toArray, List.set_cons_succ, List.set_cons_zero, hq2])) | (guard_target =~ wpTreeC _ _ _ Tr.nil _ _ _; refine treeC_nil H (fun w3 H2 => ?_); clear H; (try clear w2); revert w3; intro w2 H)))
          have hr := H.loadVarN (P := Try.prog) (ty := 36) (b := b4) m1 (by simp) (by simp)
          exact bodyPost_ret (v := hV ⟨ne, nb⟩) (by simp [results, Try.results31, asAddr, hr]) rfl ⟨rfl, H.below⟩
      · have hq2 : (decide (f = e0) && decide (d = !b0')) = false := (hf_eq ⟨f, d⟩ ⟨e0, !b0'⟩).trans (decide_eq_false hd)
        have HD := Lib.hid hd
        clear hd
        go_wp2_with (first
          | (guard_target =~ Code.wp _ (Code.region 5 _ true) _ _ _; refine region_treeC0 5 (G := True) (.q 0 (.q 1 (.q 2 (.q 3 (.q 4 (.q 5 (.q 6 .nil))))))) (by kernel_rfl) (by intro c a d v w h; cases d <;> exact h) (by kernel_rfl) H ⟨trivial⟩ (fun _ w3 H2 => ?_); (clear H; (try clear w2); revert w3; intro w2 H))
          | (guard_target =~ wpTreeC _ _ _ _ _ _ _; first | (guard_target =~ wpTreeC _ _ _ (Tr.e _ Tr.nil) _ _ _; refine treeC_last (by decide +kernel) H rfl rfl (fun w3 H2 K hK => ?_); clear H; (try clear w2); (revert w3; intro w2 H); simp only [List.getElem_toArray, List.getElem_cons_succ, List.getElem_cons_zero]; (first | fail); simp only [Act.put, List.setIfInBounds_toArray, List.set_cons_succ, List.set_cons_zero, hq2]) | (guard_target =~ wpTreeC _ _ _ (Tr.q _ _) _ _ _; first | (refine treeC_quiet ⟨_, H, by repeat first | exact .here | apply Suf.there⟩ rfl rfl rfl (fun K hK => ?_); simp only [List.getElem_toArray, List.getElem_cons_succ, List.getElem_cons_zero]; first | (guard_target =~ Oper.quiet _ (Oper.mk _ (.load _ _) _ _ _ _) _ _ _; (first | (refine q_loadN (cs := ?_) (r := ?_) rfl rfl ?_ ?_ ?_ ?_ (hK _ ?_); rotate_left 2; (with_reducible assumption); (repeat first | exact .head _ | apply List.Mem.tail); (focus (intro _; simp [hq2]; done)); (focus (intro _; simp [hq2]; done))) | (refine q_loadNC (row := ?_) rfl rfl ?_ ?_ ?_ (hK _ ?_); rotate_left 1; (repeat first | exact .head _ | apply List.Mem.tail); (focus (intro _; simp [hq2]; done)); (focus (intro _; simp [hq2]; done)))); clear hK K; simp only [Act.put, List.setIfInBounds_toArray, List.set_cons_succ, List.set_cons_zero, hq2]) | (go_big_quiet_op; (try refine ⟨_, fun _ _ => rfl, ?_⟩); refine hK _ ?_; clear hK K)) | (refine treeC_call (v := ?_) ⟨_, H, by repeat first | exact .here | apply Suf.there⟩ rfl rfl (fun w3 H K hK => ?_) ?_; rotate_left 1; (focus (simp only [List.getElem_toArray, List.getElem_cons_succ, List.getElem_cons_zero]; first | (go_big_op; first | exact hK _ (Ext.refl _) | (go_at_call 20; (with_reducible refine (rtwin_any _ _ _).mono ?_); rintro e w3 ⟨rfl, hb⟩; dsimp only; first | exact hK _ hb | exact hK _ (Ext.refl _))))); simp only [List.getElem_toArray, List.getElem_cons_succ, List.getElem_cons_zero, Act.put, List.setIfInBounds_toArray, List.set_cons_succ, List.set_cons_zero, hq2]) | (refine treeC_skip ⟨_, H, by repeat first | exact .here | apply Suf.there⟩ rfl rfl ?_; simp only [List.getElem_toArray, List.getElem_cons_succ, List.getElem_cons_zero, Act.put, List.setIfInBounds_toArray, List.set_cons_succ, List.set_cons_zero, hq2])) | (guard_target =~ wpTreeC _ _ _ (Tr.both _ _) _ _ _; refine treeC_both ?_ ?_) | (guard_target =~ wpTreeC _ _ _ (Tr.e _ _) _ _ _; first | (refine treeC_one H rfl rfl (fun w3 H2 K hK => ?_); clear H; (try clear w2); (revert w3; intro w2 H); simp only [List.getElem_toArray, List.getElem_cons_succ, List.getElem_cons_zero]; first | ((first | fail); simp only [Act.put, List.setIfInBounds_toArray, List.set_cons_succ, List.set_cons_zero, hq2]) | (go_big_op; (first | fail))) | (refine treeC_one_skip (fun w3 hx => ⟨_, H.ext hx, by repeat first | exact .here | apply Suf.there⟩) rfl rfl (fun w3 hx => ?_); replace H := H.ext hx; clear hx; (try clear w2); revert w3; intro w2 H; simp only [List.getElem_toArray, List.getElem_cons_succ, List.getElem_cons_zero, Act.put, List.setIfInBounds_toArray, List.set_cons_succ, List.set_cons_zero, hq2])) | (guard_target =~ wpTreeC _ _ _ Tr.nil _ _ _; refine treeC_nil H (fun w3 H2 => ?_); clear H; (try clear w2); revert w3; intro w2 H)))
        go_roundg (gk - 1)
        case rel => exact ⟨by omega, by have := HJ.out; congr 1; omega, by rw [show n2 - (gk - 1) = j + 1 by have := HJ.out; omega]; exact has_step HE.out HNO.out HD.out, H⟩
        case measure => omega
    · obtain rfl : gk = 0 := by omega
      exact absurd HTW.out (by have := HNO.out; rwa [Nat.sub_zero, List.take_of_length_le (by have := HN.out; omega)] at this)
end Go.Proofs.Ytlhmjhildlnokaa

/-
  Resources: a slice grows by what stands in another slice of the call's own. Nothing of the program stands here.
-/
namespace Go.Proofs.Ytlhmjhildlnokaa
set_option linter.unusedVariables false
open Go.RowKit
variable {P : Program} {B : Nat} {w0 w w' : World} {l l' : List Res} {o : Oper} {a : Act} {Q : Exit → Act → World → Prop}
/-- A slice of the call's own, as it is handed to a function that only reads. -/
theorem Own.slGrow {e size n c : Nat} {A : Option Addr} {xs : List Value} (H : Own B w0 w l) (hm : Res.grow e size (.slice A n c) n xs ∈ l) : Sl (fun _ => False) w A xs := by
  obtain ⟨A', cap, h, _, _, hs⟩ := H.giveGrow hm (F := fun _ => False) (fun _ h => h.elim)
  injection h with h1 h2 h3
  rw [h1]; exact hs
theorem o_appendS {K : Act → World → Prop} {s x' : Operand} {t e : TypeId} {z : Value} {size bytes : Nat} {v : Value} {n m c : Nat} {A : Option Addr} {xs news : List Value} {l' : Value → List Res} (hinfo : (P.info? e).map (fun i => (i.zero, i.size, i.bytes)) = some (some z, size, bytes))
    (ho : o.op = .call { callee := .builtin .append, args := #[s, x'], argTypes := #[t, t] }) (hs : a.eval s = v) (hx : a.eval x' = .slice A m c) (H : Own B w0 w l)
    (hSl : Sl (fun _ => False) w A news) (hl : news.length = m * size)
    (hrep : ∀ v', Rep (.grow e size v n xs) (.grow e size v' (n + m) (xs ++ news)) l (l' v')) (ht : P.underlying t = some (.slice e)) (hzs : z.cells.size = size) (hsz : 0 < size) (h1 : news.all (·.oneCell') = true)
    (h63 : n + m ≤ maxLen) (hbytes : (n + m) * bytes ≤ 140737488355328)
    (hk : ∀ v' w', Own B w0 w' (l' v') → (v' = .slice none 0 0 ↔ v = .slice none 0 0 ∧ m = 0) → K (a.put o.dst v') w') : o.wp P a w K Q := by
  cases hi : P.info? e with
  | none => simp [hi] at hinfo
  | some i =>
    simp only [hi, Option.map_some, Option.some.injEq, Prod.mk.injEq] at hinfo
    obtain ⟨hz, rfl, rfl⟩ := hinfo
    have hg := H.holds _ (hrep v).mem
    have hgl := H.lt _ (hrep v).mem
    obtain ⟨bb, off, hr1, hr2⟩ := hSl
    have hr : (0 < news.length → A = some ⟨bb, off, none⟩) ∧ ∀ j v, news[j]? = some v → w.cell? ⟨bb, off + j, none⟩ = some v := ⟨fun hp => (hr1 hp).1, hr2⟩
    have h1' : ∀ u ∈ news, u.oneCell' = true := fun u hu => List.all_eq_true.1 h1 u hu
    have key : ∃ v' w', (Builtin.append_ #[t, t] o.type #[v, .slice A m c]).run P w = .ok v' w' ∧ w'.ownsRow 0 e i.size v' (n + m) (xs ++ news) ∧ (∀ k, k < w.heap.size → v.ownBlock ≠ some k → w'.heap[k]? = w.heap[k]?) ∧ Below B w w' ∧
        (v' = .slice none 0 0 ↔ v = .slice none 0 0 ∧ m = 0) ∧ ∀ k, v'.ownBlock = some k → v.ownBlock = some k ∨ w.heap.size ≤ k := by
      have hold : ∀ k, v.ownBlock = some k → k < w.heap.size ∧ B ≤ k := fun k hk => ⟨(hgl k hk).1, (hgl k hk).2 rfl⟩
      cases A with
      | none =>
        have h0 : m = 0 := by
          by_cases hp : 0 < news.length
          · have := hr.1 hp; cases this
          · have : m * i.size = 0 := by omega
            rcases Nat.mul_eq_zero.1 this with h | h
            · exact h
            · omega
        subst h0
        have hn : news = [] := List.eq_nil_of_length_eq_zero (by omega)
        subst hn
        refine ⟨v, w, run_append_none ht hi hg c, by rw [Nat.add_zero, List.append_nil]; exact hg, fun _ _ _ => rfl, Below.refl _ _, by simp, fun k hk => .inl hk⟩
      | some ad =>
        have hnews : ∀ j u, news[j]? = some u → w.cell? (ad.add j) = some u := fun j u hu => by
          have hp : 0 < news.length := Nat.lt_of_le_of_lt (Nat.zero_le _) (List.getElem?_eq_some_iff.1 hu).1
          have := hr.1 hp
          injection this with this
          rw [this, Addr.add_mid]
          exact hr.2 j u hu
        obtain ⟨v', w', hrun, hown, hgrow, hnil⟩ := run_append_own (P := P) w 0 t o.type e i z _ _ ht hi hz rfl rfl hzs hsz v n xs hg ad m c news hl hnews h1' h63 hbytes (Nat.zero_le _)
        have hplace := append_place ht hi hz hg hl hnews h1' h63 hbytes hrun
        exact ⟨v', w', hrun, hown, fun k hk hne => hgrow.block k hk (fun e => hne e.symm), (.mk6 hgrow.os hgrow.tape hgrow.output hgrow.size (fun k hk' => hgrow.block k (Nat.lt_of_lt_of_le hk' H.base) (fun e => by have := (hold k e.symm).2; omega)) (append_drawn ht hi hz hg hl hnews h1' h63 hbytes hrun)), hnil, hplace⟩
    obtain ⟨v', w', hrun, hown, hblk, hbel, hnil, hplace⟩ := key
    unfold Oper.wp execOp
    simp only [ho, resolve, invoke, builtin, Sem.run_bind, Sem.run_pure, Result.andThen_ok, List.map_toArray, List.map_cons, List.map_nil, hs, hx, hrun]
    refine hk v' w' ?_ hnil
    exact H.change (hrep v') rfl rfl hbel (fun k hk' hne => hblk k hk' hne) hown (fun k hk' => (hown.lt k hk').2) hplace
end Go.Proofs.Ytlhmjhildlnokaa

/-
  The walk of the document's Rings.
-/
namespace Go.Proofs.Ytlhmjhildlnokaa
set_option linter.unusedVariables false
set_option linter.unusedSimpArgs false
open Go.RowKit

structure KInv (nx : Hf → Hf) (S : List Hf) (h0 : Hf) (r : List Hf) (h : Hf) : Prop where
  way : Way nx S h0 r h
  ring : ringF nx (S.length - r.length) r h = ringF nx S.length [] h0
theorem kinv_step {nx : Hf → Hf} {S : List Hf} (O : OneOne nx S) {h0 h : Hf} {r : List Hf} (I : KInv nx S h0 r h) (hq : r.length < S.length) (hn : h ∉ r) : KInv nx S h0 (r ++ [h]) (nx h) := by
  refine ⟨way_step O I.way hn, ?_⟩
  rw [← I.ring]
  obtain ⟨m, hm⟩ : ∃ m, S.length - r.length = m + 1 := ⟨S.length - r.length - 1, by omega⟩
  rw [hm, show S.length - (r ++ [h]).length = m by rw [List.length_append]; simp; omega]
  conv => rhs; unfold ringF
  rw [if_neg hn]
theorem kinv_end {nx : Hf → Hf} {S : List Hf} {h0 h : Hf} {r : List Hf} (I : KInv nx S h0 r h) (hq : S.length ≤ r.length ∨ h ∈ r) : r = ringF nx S.length [] h0 := by
  rw [← I.ring]
  cases hm : S.length - r.length with
  | zero => rfl
  | succ m =>
    rcases hq with hq | hq
    · omega
    · unfold ringF; rw [if_pos hq]
def RrRel (vs : List Vt) (es : List Eg) (N : Nat) (B : Nat) (w0 : World) (l : List Res) (k : Nat) (i out met : Value) (wr : World) : Prop :=
  ∃ os : List RgE, os.map (·.l) = ringsL (nextZ vs es) (halves es) ((halves es).take (N - k)) [] ∧ k ≤ N ∧ i = .int .i64 ((N - k : Nat) : Int) ∧
    Own B w0 wr (.grow 34 1 out os.length (os.map (·.s)) :: .grow 36 2 met (os.map (·.l)).flatten.length (hR (os.map (·.l)).flatten) :: (l ++ os.map rB))
theorem hR_app (l m : List Hf) : hR (l ++ m) = hR l ++ hR m := by simp [hR]
theorem hR_one (l : List Hf) : (hR l).all (·.oneCell') = true := by
  rw [List.all_eq_true]; intro v hv
  obtain ⟨a, _, ha⟩ := List.mem_flatMap.1 hv
  simp only [h2, List.mem_cons, List.not_mem_nil, or_false] at ha
  rcases ha with rfl | rfl <;> rfl
theorem rr_len {r : List Hf} {X : List Value} {q : Nat} (h1 : hR r = X) (h2 : q = r.length) : X.length = q * 2 := by rw [← h1, hR_len, h2]
theorem rr_one {r : List Hf} {X : List Value} (h1 : hR r = X) : X.all (·.oneCell') = true := by rw [← h1]; exact hR_one r
set_option maxRecDepth 100000 in
set_option maxHeartbeats 16000000 in
theorem rrings_any (vs : List Vt) (es : List Eg) (A A2 : Option Addr) (n m c c2 : Nat) (F : Nat → Prop) (w : World) (hR0 : RightP vs es) (hn : n = vs.length) (hm : m = es.length) (hs : Sl F w A (vR vs)) (hs2 : Sl F w A2 (eR es)) (hF : ∀ k, F k → k < w.heap.size) :
    Calls Try.prog 17 #[.agg #[.slice A n c, .slice A2 m c2]] w (RetR F w (ringsZ vs es)) := by
  obtain ⟨b0, o0, H1, f0⟩ := (Own.start w).addSl (hs.ro (by rfl))
  obtain ⟨b9, o9, H, f9⟩ := H1.addSl (hs2.ro (by rfl))
  clear hs hs2 H1
  have h1 := fun F w h1 hF => halves_any vs es A A2 n m c c2 F w hm h1 hF (by have := hR0.few.2; omega)
  have h2' := fun F w e0 b0' h1 h2 hF hh => rnext_any vs es A A2 n m c c2 F e0 b0' w hR0 hn hm h1 h2 hF hh
  have hfw := few_halves hR0
  have HR := Lib.hid hR0
  have HF := Lib.hid hF
  clear hn hm hR0 hF
  go_enter Try.func17, Try.ntmps17
  have tk0 : True := trivial
  go_wp2_with (first
    | (go_at_call 53; (with_reducible refine (h1 _ _ (by exact H.giveRd m1 f9) (H.fw_lt rfl HF.out)).mono ?_); rintro e w3 ⟨A3, c3, rfl, hb, s3, q3, q4⟩; replace H := H.ext hb; clear hb; obtain ⟨b3, o3, H4, f3⟩ := H.addSl s3; clear H s3; have H := H4; clear H4; dsimp only; (skip))
    | (guard_target =~ wpList _ _ _ (_ :: _) _ _; (first | (guard_target =~ wpList _ _ _ (Oper.mk _ (.load _ _) _ _ _ _ :: _) _ _; refine BigFrame.wpList_want rfl (fun K hK => ?_); (refine o_loadNC (row := ?_) rfl rfl H ?_ ?_ ?_ (hK _ _ ?_); rotate_left 1; (repeat first | exact .head _ | apply List.Mem.tail); (focus (intro _; simp; done)); (focus (intro _; simp; done))); clear hK K) | ((guard_target =~ wpList _ _ _ (Oper.mk _ (.box _ _) _ _ _ _ :: _) _ _; refine BigFrame.wpList_want rfl (fun K hK => ?_); refine o_box rfl H rfl (fun w3 b2 he H2 => hK _ _ ?_)); clear hK K he; clear H; (try clear w2); revert w3; intro w2 H; simp [Act.eval, Value.cells, setL, List.getD] at H; (clear tk0; rename Nat => b1))); simp only [Act.put, List.setIfInBounds_toArray, List.set_cons_succ, List.set_cons_zero]))
  generalize hN : (halves es).length = N at hfw ⊢
  have HN := Lib.hid hN
  clear hN
  have H := ((H.grow_nil 36 2).grow_nil 34 1)
  go_loopg [6, 3, 4] N (RrRel vs es N w.heap.size w [.rd A3 b3 o3 (hR (halves es)), .cells b1 [.slice A n c, .slice A2 m c2], .rd A2 b9 o9 (eR es), .rd A b0 o0 (vR vs)])
  case atStart => exact ⟨[], by rw [Nat.sub_self]; rfl, Nat.le_refl _, by simp, H⟩
  case round =>
    clear H
    obtain ⟨os, hos, hk, rfl, H⟩ := hrel
    simp only [List.cons_append, List.nil_append] at H
    by_cases hlt : 0 < gk
    · obtain ⟨j, hj⟩ : ∃ j, N - gk = j := ⟨_, rfl⟩
      have hjl : j < N := by omega
      rw [hj] at hos ⊢
      obtain ⟨e, b, he⟩ := hf_get (by have := HN.out; omega : j < (halves es).length)
      obtain rfl := H.rdAddr m2 (hR_pos (by have := HN.out; omega : j < (halves es).length))
      have hp := h_at (A := some ⟨b3, o3, none⟩) (bb := b3) (off := o3) he
      have hmem : (⟨e, b⟩ : Hf) ∈ halves es := List.mem_of_getElem? he
      have hRs := rings_of (next_one HR.out) ((halves es).take j) fun h hh => List.mem_of_mem_take hh
      have hst := ringsL_step (nx := nextZ vs es) (S := halves es) ((halves es).take j) ⟨e, b⟩ []
      rw [← hos] at hRs hst
      rw [show (halves es).take j ++ [⟨e, b⟩] = (halves es).take (j + 1) by rw [List.take_add_one, he]; rfl] at hst
      have hfl : (os.map (·.l)).flatten.length ≤ 2048 := by
        have := nodup_len (S := halves es) hRs.nodup fun x hx => by
          obtain ⟨r, hr, hx⟩ := List.mem_flatten.1 hx
          obtain ⟨h, P⟩ := hRs.each r hr
          exact P.sub x hx
        have := HN.out
        omega
      have hol : os.length ≤ 2048 := by have := rings_few hRs; have := HN.out; simp at *; omega
      have HST := Lib.hid hst
      have HMEM := Lib.hid hmem
      have HJ := Lib.hid hj
      have HOM := Lib.hid (rfl : os.length = os.length)
      obtain ⟨Am, cm, rfl⟩ := H.growForm m1
      obtain ⟨vh, hvh⟩ : ∃ v, decide ((⟨e, b⟩ : Hf) ∈ (os.map (·.l)).flatten) = v := ⟨_, rfl⟩
      have hH1 := fun w h => has_any (os.map (·.l)).flatten Am (os.map (·.l)).flatten.length cm (fun _ => False) e b w rfl h (by omega)
      rw [hvh] at hH1
      have HVH := Lib.hid hvh
      clear he hos hst hmem hj hRs HOM hvh
      generalize hol2 : os.length = ol at H hol
      generalize hfl2 : (os.map (·.l)).flatten.length = fn at H hH1 hfl ⊢
      have HOL := Lib.hid hol2
      have HFL := Lib.hid hfl2
      clear hol2 hfl2
      cases vh
      · have ⟨gkA, hgA⟩ : ∃ g, g = gk := ⟨_, rfl⟩
        have tk0 : True := trivial
        go_wp2_with (first
          | (go_at_call 34; (with_reducible refine (hH1 _ (H.slGrow m1)).mono ?_); rintro e w3 ⟨rfl, hb⟩; replace H := H.ext hb; clear hb; dsimp only; (skip))
          | (guard_target =~ wpList _ _ _ (_ :: _) _ _; (first | (guard_target =~ wpList _ _ _ (Oper.mk _ (.load _ _) _ _ _ _ :: _) _ _; refine BigFrame.wpList_want rfl (fun K hK => ?_); (refine o_loadN (cs := ?_) (r := ?_) rfl rfl H ?_ ?_ ?_ ?_ (hK _ _ ?_); rotate_left 2; (with_reducible assumption); (repeat first | exact .head _ | apply List.Mem.tail); (focus (intro _; simp; done)); (focus (intro _; simp; done))); clear hK K) | (guard_target =~ wpList _ _ _ (Oper.mk _ (.store _ _ _) _ _ _ _ :: _) _ _; refine BigFrame.wpList_want rfl (fun K hK => ?_); refine o_store (l' := ?_) (row := ?_) rfl rfl H rfl ?_ ?_ ?_ ?_ (fun w3 H2 => hK _ _ ?_); rotate_left 2; (exact r0); (focus (intro _; simp [Act.eval, Value.cells]; done)); (focus (simp [Act.eval, Value.cells]; done)); (exact rfl); clear hK K; clear H; (try clear w2); revert w3; intro w2 H; simp [Act.eval, Value.cells, setL, List.getD] at H) | ((guard_target =~ wpList _ _ _ (Oper.mk _ (.alloc _) _ _ _ _ :: _) _ _; refine BigFrame.wpList_want rfl (fun K hK => ?_); refine o_alloc (z := ?_) rfl ?_ H rfl (fun w3 b2 he H2 => hK _ _ ?_); rotate_left 1; (focus (intro _; simp; with_reducible exact rfl))); clear hK K he; clear H; (try clear w2); revert w3; intro w2 H; simp [Act.eval, Value.cells, setL, List.getD] at H; (clear tk0; rename Nat => bh))); simp only [Act.put, List.setIfInBounds_toArray, List.set_cons_succ, List.set_cons_zero]))
        clear hH1
        have H := (H.grow_nil 36 2)
        generalize hom : os.map (·.s) = om at H
        have HOM := Lib.hid hom
        generalize hof : (os.map (·.l)).flatten = fl at H
        have HOF := Lib.hid hof
        clear hom hof
        go_loopg [7, 9] N (fun k v i wr => ∃ r h q, q = r.length ∧ q + k = N ∧ KInv (nextZ vs es) (halves es) ⟨e, b⟩ r h ∧ i = .int .i64 (q : Int) ∧ Own w.heap.size w wr (.grow 36 2 v q (hR r) :: .cells bh [.int .i64 h.e, .bool h.b] :: .grow 34 1 u3 ol om :: .grow 36 2 (.slice Am fn cm) fn (hR fl) :: .rd (some ⟨b3, o3, none⟩) b3 o3 (hR (halves es)) :: .cells b1 [.slice A n c, .slice A2 m c2] :: .rd A2 b9 o9 (eR es) :: .rd A b0 o0 (vR vs) :: os.map rB))
        case atStart => exact ⟨[], ⟨e, b⟩, 0, rfl, by omega, ⟨way_start HMEM.out, rfl⟩, by simp, H⟩
        case round =>
          clear H
          obtain ⟨r, ⟨f, d⟩, q, hq, hqk, hI, rfl, H⟩ := hrel
          have HI := Lib.hid hI
          have hqN : q ≤ N := by omega
          have HQ := Lib.hid hq
          have hmm := hI.way.now
          obtain ⟨Ar, cr, rfl⟩ := H.growForm m0
          have hH2 := fun w h => has_any r Ar q cr (fun _ => False) f d w hq h (by omega)
          obtain ⟨v2, hv2⟩ : ∃ v, decide ((⟨f, d⟩ : Hf) ∈ r) = v := ⟨_, rfl⟩
          rw [hv2] at hH2
          have HV2 := Lib.hid hv2
          have hnx := fun F w h1 h2 hF => h2' F w f d h1 h2 hF hmm
          generalize hne : nextZ vs es ⟨f, d⟩ = h' at hnx
          obtain ⟨e', b'⟩ := h'
          have HNE := Lib.hid hne
          generalize hX : hR r = X at H hH2
          have HX := Lib.hid hX
          clear hI hq hmm hv2 hne hX
          by_cases hgo : q < N ∧ v2 = false
          · obtain ⟨hqN2, rfl⟩ := hgo
            have tk0 : True := trivial
            go_wp2_with (first
              | (go_at_call 34; (with_reducible refine (hH2 _ (H.slGrow m0)).mono ?_); rintro e w3 ⟨rfl, hb⟩; replace H := H.ext hb; clear hb; dsimp only; (skip))
              | (go_at_call 31; (with_reducible refine (hnx _ _ (by exact H.giveRd m8 f0) (by exact H.giveRd m7 f9) (H.fw_lt rfl HF.out)).mono ?_); rintro e w3 ⟨rfl, hb⟩; replace H := H.ext hb; clear hb; dsimp only; (skip))
              | (guard_target =~ wpList _ _ _ (_ :: _) _ _; (first | (guard_target =~ wpList _ _ _ (Oper.mk _ (.call { callee := .builtin .append, args := _, argTypes := _ }) _ _ _ _ :: _) _ _; refine BigFrame.wpList_want rfl (fun K hK => ?_); refine o_append (row := ?_) (n := ?_) (xs := ?_) (l' := ?_) infoHf rfl rfl rfl H ?_ rfl ?_ ?_ (by kernel_rfl) rfl (by decide) ?_ ?_ ?_ (fun v2 w3 H2 hn => hK _ _ ?_); rotate_left 4; (repeat first | exact .head _ | apply List.Mem.tail); (focus (simp; done)); (focus (intro _; (exact r1))); exact rfl; exact (by unfold maxLen; omega); exact (by omega); clear hK K hn; clear H; (try clear w2); revert w3; intro w2 H; simp only [List.take_succ_cons, List.take_zero, Nat.one_mul] at H; (obtain ⟨A7, c7, rfl⟩ := H.growForm (v := v2) (by repeat first | exact .head _ | apply List.Mem.tail))) | (guard_target =~ wpList _ _ _ (Oper.mk _ (.load _ _) _ _ _ _ :: _) _ _; refine BigFrame.wpList_want rfl (fun K hK => ?_); (refine o_loadNC (row := ?_) rfl rfl H ?_ ?_ ?_ (hK _ _ ?_); rotate_left 1; (repeat first | exact .head _ | apply List.Mem.tail); (focus (intro _; simp [hV]; done)); (focus (intro _; simp [hV]; done))); clear hK K) | (guard_target =~ wpList _ _ _ (Oper.mk _ (.store _ _ _) _ _ _ _ :: _) _ _; refine BigFrame.wpList_want rfl (fun K hK => ?_); refine o_store (l' := ?_) (row := ?_) rfl rfl H rfl ?_ ?_ ?_ ?_ (fun w3 H2 => hK _ _ ?_); rotate_left 2; (exact r2); (focus (intro _; (simp [Act.eval, Value.cells, List.getD, hV]; done))); (focus (simp [Act.eval, Value.cells, List.getD, hV]; done)); (exact rfl); clear hK K; clear H; (try clear w2); revert w3; intro w2 H; (try simp [Act.eval, List.getD, hV] at H); (try simp [Value.cells, setL, hV] at H)) | ((guard_target =~ wpList _ _ _ (Oper.mk _ (.buildSlice _ _ _) _ _ _ _ :: _) _ _; refine BigFrame.wpList_want rfl (fun K hK => ?_); refine o_buildSlice (C := ?_) (E := ?_) rfl rfl H ?_ rfl (fun w3 b2 he H2 => hK _ _ ?_); rotate_left 2; (focus (intro _; simp [go_sem, Instr.buildSlice]; with_reducible exact rfl))); clear hK K he; clear H; (try clear w2); revert w3; intro w2 H; (try simp [Act.eval, List.getD, hV] at H); (try simp [Value.cells, setL, hV] at H); (clear tk0; rename Nat => b4))); simp only [Act.put, List.setIfInBounds_toArray, List.set_cons_succ, List.set_cons_zero, hV]))
            go_roundg (gk - 1)
            case rel =>
              have hs := kinv_step (next_one HR.out) HI.out (by have := HQ.out; have := HN.out; omega) (by simpa using HV2.out)
              rw [HNE.out] at hs
              refine ⟨r ++ [⟨f, d⟩], ⟨e', b'⟩, q + 1, by rw [HQ.out]; simp, by omega, hs, by simp, ?_⟩
              have H4 := H.tail
              rw [← HX.out, ← hR_add1] at H4
              exact H4
            case measure => omega
          · have hnz : (decide (q < N) && !v2) = false := by
              rw [Bool.and_eq_false_iff]
              by_cases h : q < N
              · right
                cases v2
                · exact absurd ⟨h, rfl⟩ hgo
                · rfl
              · left; simpa using h
            have hend := kinv_end (S := halves es) HI.out (by
              have := HQ.out; have := HN.out
              by_cases h : q < N
              · right
                cases v2
                · exact absurd ⟨h, rfl⟩ hgo
                · simpa using HV2.out
              · left; omega)
            have HEND := Lib.hid hend
            clear hend
            by_cases hqN2 : q < N
            · obtain rfl : v2 = true := by
                cases v2
                · exact absurd ⟨hqN2, rfl⟩ hgo
                · rfl
              clear hgo hnz
              have tk0 : True := trivial
              go_wp2_with (first
                | (go_at_call 34; (with_reducible refine (hH2 _ (H.slGrow m0)).mono ?_); rintro e w3 ⟨rfl, hb⟩; replace H := H.ext hb; clear hb; dsimp only; (skip))
                | (guard_target =~ wpList _ _ _ (_ :: _) _ _; (first | (guard_target =~ wpList _ _ _ (Oper.mk _ (.call { callee := .builtin .append, args := _, argTypes := _ }) _ _ _ _ :: _) _ _; refine BigFrame.wpList_want rfl (fun K hK => ?_); refine o_appendS (news := ?_) (n := ?_) (xs := ?_) (l' := ?_) infoHf rfl rfl rfl H ?_ ?_ ?_ (by kernel_rfl) rfl (by decide) ?_ ?_ ?_ (fun v2 w3 H2 hn => hK _ _ ?_); rotate_left 4; (focus (refine H.slGrow (e := 36) (size := 2) (n := ?_) (c := ?_) ?_; rotate_left 2; (repeat first | exact .head _ | apply List.Mem.tail))); exact (rr_len HX.out HQ.out); (focus (intro _; (exact r3))); exact (rr_one HX.out); exact (by unfold maxLen; omega); exact (by omega); clear hK K hn; clear H; (try clear w2); revert w3; intro w2 H; simp only [List.nil_append, Nat.zero_add] at H; (obtain ⟨A8, c8, rfl⟩ := H.growForm (v := v2) (by repeat first | exact .head _ | apply List.Mem.tail))) | (guard_target =~ wpList _ _ _ (Oper.mk _ (.call { callee := .builtin .append, args := _, argTypes := _ }) _ _ _ _ :: _) _ _; refine BigFrame.wpList_want rfl (fun K hK => ?_); refine o_append (row := ?_) (n := ?_) (xs := ?_) (l' := ?_) infoSl rfl rfl rfl H ?_ rfl ?_ ?_ (by kernel_rfl) rfl (by decide) ?_ ?_ ?_ (fun v2 w3 H2 hn => hK _ _ ?_); rotate_left 4; (repeat first | exact .head _ | apply List.Mem.tail); (focus (simp; done)); (focus (intro _; (exact r3))); exact rfl; exact (by unfold maxLen; omega); exact (by omega); clear hK K hn; clear H; (try clear w2); revert w3; intro w2 H; simp only [List.take_succ_cons, List.take_zero, Nat.one_mul] at H; (obtain ⟨A7, c7, rfl⟩ := H.growForm (v := v2) (by repeat first | exact .head _ | apply List.Mem.tail))) | (guard_target =~ wpList _ _ _ (Oper.mk _ (.load _ _) _ _ _ _ :: _) _ _; refine BigFrame.wpList_want rfl (fun K hK => ?_); (refine o_loadNC (row := ?_) rfl rfl H ?_ ?_ ?_ (hK _ _ ?_); rotate_left 1; (repeat first | exact .head _ | apply List.Mem.tail); (focus (intro _; simp; done)); (focus (intro _; simp; done))); clear hK K) | ((guard_target =~ wpList _ _ _ (Oper.mk _ (.buildSlice _ _ _) _ _ _ _ :: _) _ _; refine BigFrame.wpList_want rfl (fun K hK => ?_); refine o_buildSlice (C := ?_) (E := ?_) rfl rfl H ?_ rfl (fun w3 b2 he H2 => hK _ _ ?_); rotate_left 2; (focus (intro _; simp [go_sem, Instr.buildSlice]; with_reducible exact rfl))); clear hK K he; clear H; (try clear w2); revert w3; intro w2 H; simp [Act.eval, Value.cells, setL, List.getD] at H; (clear tk0; rename Nat => b4))); simp only [Act.put, List.setIfInBounds_toArray, List.set_cons_succ, List.set_cons_zero]))
              go_roundg (gkA - 1)
              case rel =>
                refine ⟨os ++ [⟨.slice Ar q cr, r⟩], ?_, by omega, by have := HJ.out; congr 1; omega, ?_⟩
                · rw [show N - (gkA - 1) = j + 1 by have := HJ.out; omega, HST.out, if_neg (by simpa using HVH.out), List.map_append, ← HEND.out]; rfl
                · have H4 := H.tail.swap.tail
                  rw [← HOM.out, ← HX.out, ← hR_app] at H4
                  have H5 := (H4.swap.swap1).putEnd (L := [_, _, _, _])
                  rw [show (os ++ [(⟨.slice Ar q cr, r⟩ : RgE)]).length = ol + 1 by rw [← HOL.out]; simp, show (os ++ [(⟨.slice Ar q cr, r⟩ : RgE)]).map (·.s) = os.map (·.s) ++ [.slice Ar q cr] by simp,
                    show (os ++ [(⟨.slice Ar q cr, r⟩ : RgE)]).map rB = os.map rB ++ [rB ⟨.slice Ar q cr, r⟩] by rw [List.map_append]; rfl,
                    show ((os ++ [(⟨.slice Ar q cr, r⟩ : RgE)]).map (·.l)).flatten = fl ++ r by rw [← HOF.out]; simp,
                    show (fl ++ r).length = fn + q by rw [List.length_append, ← HFL.out, HQ.out, HOF.out]]
                  rw [show Res.grow 36 2 (.slice Ar q cr) q (hR r) = rB ⟨.slice Ar q cr, r⟩ by rw [HQ.out]] at H5
                  exact H5
              case measure => omega
            · clear hgo hnz
              have tk0 : True := trivial
              go_wp2_with (guard_target =~ wpList _ _ _ (_ :: _) _ _; (first | (guard_target =~ wpList _ _ _ (Oper.mk _ (.call { callee := .builtin .append, args := _, argTypes := _ }) _ _ _ _ :: _) _ _; refine BigFrame.wpList_want rfl (fun K hK => ?_); refine o_appendS (news := ?_) (n := ?_) (xs := ?_) (l' := ?_) infoHf rfl rfl rfl H ?_ ?_ ?_ (by kernel_rfl) rfl (by decide) ?_ ?_ ?_ (fun v2 w3 H2 hn => hK _ _ ?_); rotate_left 4; (focus (refine H.slGrow (e := 36) (size := 2) (n := ?_) (c := ?_) ?_; rotate_left 2; (repeat first | exact .head _ | apply List.Mem.tail))); exact (rr_len HX.out HQ.out); (focus (intro _; (exact r3))); exact (rr_one HX.out); exact (by unfold maxLen; omega); exact (by omega); clear hK K hn; clear H; (try clear w2); revert w3; intro w2 H; simp only [List.nil_append, Nat.zero_add] at H; (obtain ⟨A8, c8, rfl⟩ := H.growForm (v := v2) (by repeat first | exact .head _ | apply List.Mem.tail))) | (guard_target =~ wpList _ _ _ (Oper.mk _ (.call { callee := .builtin .append, args := _, argTypes := _ }) _ _ _ _ :: _) _ _; refine BigFrame.wpList_want rfl (fun K hK => ?_); refine o_append (row := ?_) (n := ?_) (xs := ?_) (l' := ?_) infoSl rfl rfl rfl H ?_ rfl ?_ ?_ (by kernel_rfl) rfl (by decide) ?_ ?_ ?_ (fun v2 w3 H2 hn => hK _ _ ?_); rotate_left 4; (repeat first | exact .head _ | apply List.Mem.tail); (focus (simp; done)); (focus (intro _; (exact r3))); exact rfl; exact (by unfold maxLen; omega); exact (by omega); clear hK K hn; clear H; (try clear w2); revert w3; intro w2 H; simp only [List.take_succ_cons, List.take_zero, Nat.one_mul] at H; (obtain ⟨A7, c7, rfl⟩ := H.growForm (v := v2) (by repeat first | exact .head _ | apply List.Mem.tail))) | ((guard_target =~ wpList _ _ _ (Oper.mk _ (.buildSlice _ _ _) _ _ _ _ :: _) _ _; refine BigFrame.wpList_want rfl (fun K hK => ?_); refine o_buildSlice (C := ?_) (E := ?_) rfl rfl H ?_ rfl (fun w3 b2 he H2 => hK _ _ ?_); rotate_left 2; (focus (intro _; simp [go_sem, Instr.buildSlice]; with_reducible exact rfl))); clear hK K he; clear H; (try clear w2); revert w3; intro w2 H; simp [Act.eval, Value.cells, setL, List.getD] at H; (clear tk0; rename Nat => b4))); simp only [Act.put, List.setIfInBounds_toArray, List.set_cons_succ, List.set_cons_zero])
              go_roundg (gkA - 1)
              case rel =>
                refine ⟨os ++ [⟨.slice Ar q cr, r⟩], ?_, by omega, by have := HJ.out; congr 1; omega, ?_⟩
                · rw [show N - (gkA - 1) = j + 1 by have := HJ.out; omega, HST.out, if_neg (by simpa using HVH.out), List.map_append, ← HEND.out]; rfl
                · have H4 := H.tail.swap.tail
                  rw [← HOM.out, ← HX.out, ← hR_app] at H4
                  have H5 := (H4.swap.swap1).putEnd (L := [_, _, _, _])
                  rw [show (os ++ [(⟨.slice Ar q cr, r⟩ : RgE)]).length = ol + 1 by rw [← HOL.out]; simp, show (os ++ [(⟨.slice Ar q cr, r⟩ : RgE)]).map (·.s) = os.map (·.s) ++ [.slice Ar q cr] by simp,
                    show (os ++ [(⟨.slice Ar q cr, r⟩ : RgE)]).map rB = os.map rB ++ [rB ⟨.slice Ar q cr, r⟩] by rw [List.map_append]; rfl,
                    show ((os ++ [(⟨.slice Ar q cr, r⟩ : RgE)]).map (·.l)).flatten = fl ++ r by rw [← HOF.out]; simp,
                    show (fl ++ r).length = fn + q by rw [List.length_append, ← HFL.out, HQ.out, HOF.out]]
                  rw [show Res.grow 36 2 (.slice Ar q cr) q (hR r) = rB ⟨.slice Ar q cr, r⟩ by rw [HQ.out]] at H5
                  exact H5
              case measure => omega
      · have tk0 : True := trivial
        go_wp2_with (first
          | (go_at_call 34; (with_reducible refine (hH1 _ (H.slGrow m1)).mono ?_); rintro e w3 ⟨rfl, hb⟩; replace H := H.ext hb; clear hb; dsimp only; (skip))
          | (guard_target =~ wpList _ _ _ (_ :: _) _ _; (guard_target =~ wpList _ _ _ (Oper.mk _ (.load _ _) _ _ _ _ :: _) _ _; refine BigFrame.wpList_want rfl (fun K hK => ?_); (refine o_loadN (cs := ?_) (r := ?_) rfl rfl H ?_ ?_ ?_ ?_ (hK _ _ ?_); rotate_left 2; (with_reducible assumption); (repeat first | exact .head _ | apply List.Mem.tail); (focus (intro _; simp; done)); (focus (intro _; simp; done))); clear hK K); simp only [Act.put, List.setIfInBounds_toArray, List.set_cons_succ, List.set_cons_zero]))
        go_roundg (gk - 1)
        case rel =>
          refine ⟨os, ?_, by omega, by have := HJ.out; congr 1; omega, ?_⟩
          · rw [show N - (gk - 1) = j + 1 by have := HJ.out; omega, HST.out, if_pos (by simpa using HVH.out)]
          · rw [HOL.out, HFL.out]; exact H
        case measure => omega
    · obtain rfl : gk = 0 := by omega
      rw [Nat.sub_zero, List.take_of_length_le (by have := HN.out; omega)] at hos
      go_wp2_with (first | fail)
      obtain ⟨Ar, cr, rfl, h4, h5, h6⟩ := H.giveGrow m0 HF.out
      go_ret
      refine ⟨Ar, cr, os.map (·.s), ?_, H.below, h6, ?_, fun i r hr => ?_, ?_, h5⟩
      · have hlen : (ringsZ vs es).length = os.length := by unfold ringsZ; rw [← hos]; simp
        simp [hlen]
      · unfold ringsZ; rw [← hos]; simp
      · unfold ringsZ at hr
        rw [← hos, List.getElem?_map] at hr
        cases ho : os[i]? with
        | none => rw [ho] at hr; cases hr
        | some o =>
          rw [ho] at hr
          obtain rfl : o.l = r := by simpa using hr
          obtain ⟨A3, c3, e3, _, _, h3⟩ := H.giveGrow (e := 36) (size := 2) (v := o.s) (n := o.l.length) (xs := hR o.l) (by
            have : rB o ∈ os.map rB := List.mem_map.2 ⟨o, List.mem_of_getElem? ho, rfl⟩
            simp [this]) HF.out
          exact ⟨A3, c3, by rw [List.getElem?_map, ho]; simp [e3], h3⟩
      · unfold ringsZ; rw [← hos]; simpa using h4
end Go.Proofs.Ytlhmjhildlnokaa

/-
  The walks of the small functions of spin's statements: few, plain, awake.
-/
namespace Go.Proofs.Ytlhmjhildlnokaa
set_option linter.unusedVariables false
set_option linter.unusedSimpArgs false
open Go.RowKit

abbrev plV16 (A A2 : Option Addr) (n m c c2 : Nat) : Value := .agg #[.slice A n c, .slice A2 m c2]
set_option maxRecDepth 100000 in
theorem few16_any (A A2 : Option Addr) (n m c c2 : Nat) (w : World) :
    Calls Try.prog 12 #[.agg #[.slice A n c, .slice A2 m c2]] w fun e w' => e = .returned (.bool (decide (n ≤ 40) && decide (m ≤ 40))) ∧ Below w.heap.size w w' := by
  have H := Own.start w
  obtain ⟨v, hv⟩ : ∃ v, (decide (n ≤ 40) && decide (m ≤ 40)) = v := ⟨_, rfl⟩
  have HV := Lib.hid hv
  rw [hv]; clear hv
  go_enter Try.func12, Try.ntmps12
  have tk0 : True := trivial
  go_wp2_with (first
    | go_big_skip
    | (guard_target =~ wpList _ _ _ (_ :: _) _ _; (first | (guard_target =~ wpList _ _ _ (Oper.mk _ (.load _ _) _ _ _ _ :: _) _ _; refine BigFrame.wpList_want rfl (fun K hK => ?_); (refine o_loadC (v := ?_) (row := ?_) rfl rfl H ?_ ?_ ?_ (hK _ _ ?_); rotate_left 2; (repeat first | exact .head _ | apply List.Mem.tail); (exact rfl); (focus (intro _; simp; done))); clear hK K) | ((guard_target =~ wpList _ _ _ (Oper.mk _ (.box _ _) _ _ _ _ :: _) _ _; refine BigFrame.wpList_want rfl (fun K hK => ?_); refine o_box rfl H rfl (fun w3 b2 he H2 => hK _ _ ?_)); clear hK K he; clear H; (try clear w2); revert w3; intro w2 H; simp [Act.eval, Value.cells, setL, List.getD] at H; (clear tk0; rename Nat => b1))); simp only [Act.put, List.setIfInBounds_toArray, List.set_cons_succ, List.set_cons_zero]))
  all_goals
    go_ret
    exact ⟨ret_b (by rw [← HV.out, Bool.eq_iff_iff]; simp only [Bool.and_eq_true, decide_eq_true_eq, Bool.false_eq_true, false_iff]; omega), H.below⟩
set_option maxRecDepth 100000 in
theorem plain16_any (A A2 : Option Addr) (n m c c2 : Nat) (w : World) :
    Calls Try.prog 15 #[.agg #[.slice A n c, .slice A2 m c2]] w fun e w' => e = .returned (.agg #[.slice A n c, .slice A2 m c2]) ∧ Below w.heap.size w w' := by
  have H := Own.start w
  go_enter Try.func15, Try.ntmps15
  have tk0 : True := trivial
  have tk1 : True := trivial
  go_wp2_with (guard_target =~ wpList _ _ _ (_ :: _) _ _; (first | (guard_target =~ wpList _ _ _ (Oper.mk _ (.load _ _) _ _ _ _ :: _) _ _; refine BigFrame.wpList_want rfl (fun K hK => ?_); (refine o_loadC (v := ?_) (row := ?_) rfl rfl H ?_ ?_ ?_ (hK _ _ ?_); rotate_left 2; (repeat first | exact .head _ | apply List.Mem.tail); (exact rfl); (focus (intro _; simp; done))); clear hK K) | (guard_target =~ wpList _ _ _ (Oper.mk _ (.store _ _ _) _ _ _ _ :: _) _ _; refine BigFrame.wpList_want rfl (fun K hK => ?_); refine o_store (l' := ?_) (row := ?_) rfl rfl H rfl ?_ ?_ ?_ ?_ (fun w3 H2 => hK _ _ ?_); rotate_left 2; (exact r0); (focus (intro _; simp [Act.eval, Value.cells]; done)); (focus (simp [Act.eval, Value.cells]; done)); (exact rfl); clear hK K; clear H; (try clear w2); revert w3; intro w2 H; simp [Act.eval, Value.cells, setL, List.getD] at H) | ((first | (guard_target =~ wpList _ _ _ (Oper.mk _ (.alloc _) _ _ _ _ :: _) _ _; refine BigFrame.wpList_want rfl (fun K hK => ?_); refine o_alloc (z := ?_) rfl ?_ H rfl (fun w3 b2 he H2 => hK _ _ ?_); rotate_left 1; (focus (intro _; simp; with_reducible exact rfl))) | (guard_target =~ wpList _ _ _ (Oper.mk _ (.box _ _) _ _ _ _ :: _) _ _; refine BigFrame.wpList_want rfl (fun K hK => ?_); refine o_box rfl H rfl (fun w3 b2 he H2 => hK _ _ ?_))); clear hK K he; clear H; (try clear w2); revert w3; intro w2 H; simp [Act.eval, Value.cells, setL, List.getD] at H; (first | (clear tk0; rename Nat => b1) | (clear tk1; rename Nat => b2)))); simp only [Act.put, List.setIfInBounds_toArray, List.set_cons_succ, List.set_cons_zero])
  have hr := H.loadVarN (P := Try.prog) (ty := 30) m0 (by kernel_rfl) (by kernel_rfl)
  exact bodyPost_ret (v := .agg #[.slice A n c, .slice A2 m c2]) (by simp [results, Try.results15, asAddr, hr]) rfl ⟨rfl, H.below⟩
def vs16 : List Vt := [⟨1, ⟨0, 0⟩⟩, ⟨2, ⟨4, 0⟩⟩]
def es16 : List Eg := [⟨1, 1, 2⟩]
theorem vR16 : vR vs16 = [.int .i64 1, .int .i64 0, .int .i64 0, .int .i64 2, .int .i64 4, .int .i64 0] := rfl
theorem eR16 : eR es16 = [.int .i64 1, .int .i64 1, .int .i64 2] := rfl
theorem aw16_r : rightB vs16 es16 = true := by decide +kernel
theorem aw16_l : ringsZ vs16 es16 = [[⟨1, false⟩, ⟨1, true⟩]] := by decide +kernel
/-- One ring. -/
theorem retR_one {F : Nat → Prop} {w : World} {r : List Hf} {e : Ending} {w' : World} (h : RetR F w [r] e w') : ∃ A c A1 c1, e = .returned (.slice A 1 c) ∧ Below w.heap.size w w' ∧ Sl F w' A [.slice A1 r.length c1] ∧ Sl F w' A1 (hR r) := by
  obtain ⟨A, c, hs, rfl, hb, h1, h2, h3, h4, h5⟩ := h
  obtain ⟨A1, c1, h6, h7⟩ := h3 0 r rfl
  match hs, h2, h6 with
  | [x], _, h6 =>
    obtain rfl : x = .slice A1 r.length c1 := by simpa using h6
    exact ⟨A, c, A1, c1, rfl, hb, h1, h7⟩
theorem at_rdN0 (b o : Nat) (A : Option Addr) (n c : Nat) : (Res.rd (some ⟨b, o, none⟩) b o [.slice A n c]).at b o [.slice A n c] := ⟨rfl, 0, rfl, rfl⟩
set_option maxRecDepth 100000 in
set_option maxHeartbeats 4000000 in
theorem awake16_any (w : World) :
    Calls Try.prog 13 #[] w fun e w' => e = .returned (.bool true) ∧ Below w.heap.size w w' := by
  have H := Own.start w
  obtain ⟨F0, hno⟩ : ∃ F0 : Nat → Prop, ∀ k, ¬ F0 k := ⟨fun _ => False, fun _ h => h⟩
  have h1 := fun F w b b' h h' hF => (srings_any vs16 es16 (some ⟨b, 0, none⟩) (some ⟨b', 0, none⟩) 2 1 2 1 F w rfl rfl h h' hF (by omega) (by omega) (by omega) (by unfold maxLen; omega))
  simp only [aw16_r, aw16_l, if_true] at h1
  rw [vR16, eR16] at h1
  have h2 := fun w b b' h h' => (h1 F0 w b b' h h' (fun k h => absurd h (hno k))).mono (fun _ _ h => retR_one h)
  clear h1
  have hsm := fun F w A A2 c c2 (h : Sl F w A (hR [⟨1, false⟩, ⟨1, true⟩])) (h' : Sl F0 w A2 [.int .i64 1, .bool false, .int .i64 1, .bool true]) => same_any [⟨1, false⟩, ⟨1, true⟩] [⟨1, false⟩, ⟨1, true⟩] A A2 2 2 c c2 (fun _ => False) w rfl rfl h.none_of h'.none_of (by omega) (by omega)
  simp only [decide_true] at hsm
  go_enter Try.func13, Try.ntmps13
  have tk0 : True := trivial
  have tk1 : True := trivial
  have tk2 : True := trivial
  have tk3 : True := trivial
  go_wp2_with (first
    | (go_at_call 14; (with_reducible refine (h2 _ _ _ (H.giveCells m2 (fun k h => absurd h (hno k)) 0 rfl) (H.giveCells m1 (fun k h => absurd h (hno k)) 0 rfl)).mono ?_); rintro e w3 ⟨A3, c3, A4, c4, rfl, hb, s3, s4⟩; replace H := H.ext hb; clear hb; replace H := H.none_; replace s3 := s3.ro (l := []) rfl; obtain ⟨b3, o3, H4, f3⟩ := H.addSl s3; clear H s3; have H := H4; clear H4; replace s4 := H.moreRo rfl (s4.ro (l := []) rfl); obtain ⟨b4, o4, H4, f4⟩ := H.addSl s4; clear H s4; have H := H4; clear H4; obtain rfl := H.rdAddr m1 (by simp); have p1 := at_rdN0 b3 o3 A4 2 c4; dsimp only; (skip))
    | (go_at_call 18; (with_reducible refine (hsm _ _ _ _ _ _ (by exact H.giveRd m1 f4) (H.giveCells m0 (fun k h => absurd h (hno k)) 0 rfl)).mono ?_); rintro e w3 ⟨rfl, hb⟩; replace H := H.ext hb; clear hb; dsimp only; (skip))
    | (guard_target =~ wpList _ _ _ (_ :: _) _ _; (first | (guard_target =~ wpList _ _ _ (Oper.mk _ (.load _ _) _ _ _ _ :: _) _ _; refine BigFrame.wpList_want rfl (fun K hK => ?_); (first | (refine o_load (v := ?_) (r := ?_) rfl rfl H ?_ ?_ ?_ (hK _ _ ?_); rotate_left 2; (with_reducible assumption); (repeat first | exact .head _ | apply List.Mem.tail); (focus (intro _; simp; done))) | (refine o_loadNC (row := ?_) rfl rfl H ?_ ?_ ?_ (hK _ _ ?_); rotate_left 1; (repeat first | exact .head _ | apply List.Mem.tail); (focus (intro _; simp; done)); (focus (intro _; simp; done)))); clear hK K) | (guard_target =~ wpList _ _ _ (Oper.mk _ (.store _ _ _) _ _ _ _ :: _) _ _; refine BigFrame.wpList_want rfl (fun K hK => ?_); refine o_store (l' := ?_) (row := ?_) rfl rfl H rfl ?_ ?_ ?_ ?_ (fun w3 H2 => hK _ _ ?_); rotate_left 2; (exact r0); (focus (intro _; simp [Act.eval, Value.cells]; done)); (focus (simp [Act.eval, Value.cells]; done)); (exact rfl); clear hK K; clear H; (try clear w2); revert w3; intro w2 H; simp [Act.eval, Value.cells, setL, List.getD] at H) | ((first | (guard_target =~ wpList _ _ _ (Oper.mk _ (.alloc _) _ _ _ _ :: _) _ _; refine BigFrame.wpList_want rfl (fun K hK => ?_); refine o_alloc (z := ?_) rfl ?_ H rfl (fun w3 b2 he H2 => hK _ _ ?_); rotate_left 1; (focus (intro _; simp; with_reducible exact rfl))) | (guard_target =~ wpList _ _ _ (Oper.mk _ (.buildSlice _ _ _) _ _ _ _ :: _) _ _; refine BigFrame.wpList_want rfl (fun K hK => ?_); refine o_buildSlice (C := ?_) (E := ?_) rfl rfl H ?_ rfl (fun w3 b2 he H2 => hK _ _ ?_); rotate_left 2; (focus (intro _; simp [go_sem, Instr.buildSlice]; with_reducible exact rfl)))); clear hK K he; clear H; (try clear w2); revert w3; intro w2 H; simp [Act.eval, Value.cells, setL, List.getD] at H; (first | (clear tk0; rename Nat => b1) | (clear tk1; rename Nat => b2) | (clear tk2; rename Nat => b5) | (clear tk3; rename Nat => b6)))); simp only [Act.put, List.setIfInBounds_toArray, List.set_cons_succ, List.set_cons_zero]))
  go_ret
  exact ⟨rfl, H.below⟩
end Go.Proofs.Ytlhmjhildlnokaa

/-
  An argument that is a plan: two rows of structs of three integers.
-/
namespace Go.Proofs.Ytlhmjhildlnokaa
set_option linter.unusedVariables false
set_option linter.constructorNameAsVariable false
open Go.RowKit Go.WideShapes Go.ChangeShapes
theorem add_add (a : Addr) (m j : Nat) : (a.add m).add j = a.add (m + j) := by
  by_cases hm : m = 0
  · subst hm; simp [Addr.add]
  · by_cases hj : j = 0
    · subst hj; simp [Addr.add]
    · simp [Addr.add, hm, hj, Nat.add_assoc]
theorem len2 {l : List Value} (h : l.length = 2) : ∃ a b, l = [a, b] := by
  match l, h with
  | [a, b], _ => exact ⟨a, b, rfl⟩
theorem len3 {l : List Value} (h : l.length = 3) : ∃ a b c, l = [a, b, c] := by
  match l, h with
  | [a, b, c], _ => exact ⟨a, b, c, rfl⟩
section
variable {H : Type} {enc : TypeId × Value → H} {P : Program} {w : World} {base : Nat} {spare : Nat → Bool} {held : Bool}
/-- A row of elements, each of three cells. -/
theorem trod_rows {α : Type} {f : α → List Value} {Q : α → Prop} {t e : TypeId} {n : Nat} {cs : List Value} {y : DataW H × List MemPlace} (ht : P.underlying t = some (.slice e)) (hc : P.cellsOf e = 3) (hf3 : ∀ a, (f a).length = 3)
    (hE : ∀ (n : Nat) cs x, DataW.trod enc P w base spare held n e cs = some x → ∃ a, cs = f a ∧ Q a) (h : DataW.trod enc P w base spare held n t cs = some y) :
    ∃ (A : Option Addr) (cap : Nat) (L : List α), cs = [.slice A L.length cap] ∧ L.length ≤ cap ∧ cap ≤ maxLen ∧ (∀ a ∈ L, Q a) ∧ Row w A (L.flatMap f) := by
  rcases DataW.trod_slice ht h with ⟨rfl, _⟩ | ⟨a, len, cap, elems, rest, n', _, rfl, _, hb, hl, hm, hlen, hel, _⟩
  · exact ⟨none, 0, [], rfl, Nat.le_refl _, Nat.zero_le _, by simp, Row.nil_ _ _⟩
  · have each : ∀ i, i < len → ∃ v : α, Q v ∧ ∀ j u, (f v)[j]? = some u → w.cell? (a.add (i * 3 + j)) = some u := by
      intro i hi
      have h1 := hel i hi
      have h2 : elems[i]? = some elems[i] := List.getElem?_eq_getElem (by omega)
      rw [h2, Option.bind_eq_some_iff] at h1
      obtain ⟨cs', h3, h4⟩ := h1
      obtain ⟨v, rfl, hq⟩ := hE _ _ _ h4
      refine ⟨v, hq, fun j u hj => ?_⟩
      have h5 := World.cells?_some h3
      rw [hc] at h5
      have hj3 : j < 3 := by have := (List.getElem?_eq_some_iff.1 hj).1; rw [hf3] at this; exact this
      have := h5.2.2 j hj3
      rw [hj] at this
      rw [← this, add_add]
    have choose : ∀ k, k ≤ len → ∃ L : List α, L.length = k ∧ (∀ v ∈ L, Q v) ∧ ∀ i v, L[i]? = some v → ∀ j u, (f v)[j]? = some u → w.cell? (a.add (i * 3 + j)) = some u := by
      intro k
      induction k with
      | zero => exact fun _ => ⟨[], rfl, by simp, by simp⟩
      | succ k ih =>
        intro hk
        obtain ⟨L, h1, h2, h3⟩ := ih (by omega)
        obtain ⟨v, h4, h5⟩ := each k (by omega)
        refine ⟨L ++ [v], by simp [h1], fun u hu => ?_, fun i u hi => ?_⟩
        · rcases List.mem_append.1 hu with hu | hu
          · exact h2 u hu
          · obtain rfl := List.mem_singleton.1 hu; exact h4
        · rw [List.getElem?_append] at hi
          split at hi
          · exact h3 i u hi
          · rename_i hik
            have : i - L.length = 0 := by
              by_cases h0 : i - L.length = 0
              · exact h0
              · rw [List.getElem?_eq_none (by simp; omega)] at hi; cases hi
            rw [this] at hi
            obtain rfl : v = u := by simpa using hi
            obtain rfl : i = k := by omega
            exact h5
    obtain ⟨L, h1, h2, h3⟩ := choose len (Nat.le_refl _)
    refine ⟨some a, cap, L, by rw [h1], by omega, hm, h2, Row.of_cells fun j v hv => ?_⟩
    have hj : j < L.length * 3 := by have := (List.getElem?_eq_some_iff.1 hv).1; rwa [flat3_len f hf3] at this
    have hi : j / 3 < L.length := by omega
    have hg : L[j / 3]? = some L[j / 3] := List.getElem?_eq_getElem hi
    have hat := flat3_at f hf3 L (j / 3) _ hg
    have := h3 (j / 3) _ hg (j % 3) v (by
      rw [← hat, List.getElem?_take, if_pos (Nat.mod_lt _ (by omega)), List.getElem?_drop, show j / 3 * 3 + j % 3 = j by omega]; exact hv)
    rwa [show j / 3 * 3 + j % 3 = j by omega] at this
/-- Fields of a struct. -/
theorem trod_flds {fs : Array Field} {t : TypeId} {n : Nat} {cs : List Value} {y : DataW H × List MemPlace} {l : List (TypeId × Nat)} (hu : P.underlying t = some (.struct fs)) (hfs : fs.toList.map (fun f => (f.type, f.offset)) = l)
    (h : DataW.trod enc P w base spare held n t cs = some y) : cs.length = P.cellsOf t ∧ ∀ u o, (u, o) ∈ l → ∃ n' x, DataW.trod enc P w base spare held n' u ((cs.drop o).take (P.cellsOf u)) = some x := by
  obtain ⟨xs, n', _, _, hlen, hxl, hx⟩ := DataW.trod_struct hu h
  refine ⟨hlen, fun u o hm => ?_⟩
  rw [← hfs] at hm
  obtain ⟨f, hf, e⟩ := List.mem_map.1 hm
  simp only [Prod.mk.injEq] at e
  obtain ⟨rfl, rfl⟩ := e
  obtain ⟨i, hi⟩ := List.getElem?_of_mem hf
  have hi' : fs[i]? = some f := by simpa using hi
  have := hx i f hi'
  have hil : i < xs.length := by rw [hxl]; exact (Array.getElem?_eq_some_iff.1 hi').1
  rw [List.getElem?_eq_getElem hil] at this
  exact ⟨n', _, this⟩
end
section
variable {H : Type} {enc : TypeId × Value → H} {w : World} {base : Nat} {spare : Nat → Bool} {held : Bool}
theorem wf64 {n : Int} (h : (Lit.int .i64 n).wf = true) : -9223372036854775808 ≤ n ∧ n ≤ 9223372036854775807 := bounds_i64 h
def In64 (n : Int) : Prop := -9223372036854775808 ≤ n ∧ n ≤ 9223372036854775807
theorem trod_pt {n : Nat} {cs : List Value} {y : DataW H × List MemPlace} (h : DataW.trod enc Try.prog w base spare held n 47 cs = some y) : ∃ a b, cs = [.int .i64 a, .int .i64 b] ∧ In64 a ∧ In64 b := by
  have hu : Try.prog.underlying 47 = some (.struct (Try.prog.fieldsOf 47)) := by kernel_rfl
  have hf : (Try.prog.fieldsOf 47).toList.map (fun f => (f.type, f.offset)) = [(3, 0), (3, 1)] := by kernel_rfl
  have hi : Try.prog.underlying 3 = some (.int .i64) := by kernel_rfl
  have hc : Try.prog.cellsOf 3 = 1 := by kernel_rfl
  have hC : Try.prog.cellsOf 47 = 2 := by kernel_rfl
  obtain ⟨hl, hx⟩ := trod_flds hu hf h
  rw [hC] at hl
  obtain ⟨c0, c1, rfl⟩ := len2 hl
  obtain ⟨_, _, h0⟩ := hx 3 0 (by simp)
  obtain ⟨_, _, h1⟩ := hx 3 1 (by simp)
  rw [hc] at h0 h1
  obtain ⟨a, ea, _, wa⟩ := DataW.trod_int hi h0
  obtain ⟨b, eb, _, wb⟩ := DataW.trod_int hi h1
  simp at ea eb
  subst ea eb
  exact ⟨a, b, rfl, bounds_i64 wa, bounds_i64 wb⟩
theorem trod_vt (n : Nat) (cs : List Value) (y : DataW H × List MemPlace) (h : DataW.trod enc Try.prog w base spare held n 49 cs = some y) : ∃ v : Vt, cs = t3 v.id v.p.x v.p.y ∧ (In64 v.id ∧ In64 v.p.x ∧ In64 v.p.y) := by
  have hu : Try.prog.underlying 49 = some (.struct (Try.prog.fieldsOf 49)) := by kernel_rfl
  have hf : (Try.prog.fieldsOf 49).toList.map (fun f => (f.type, f.offset)) = [(3, 0), (47, 1)] := by kernel_rfl
  have hi : Try.prog.underlying 3 = some (.int .i64) := by kernel_rfl
  have hc : Try.prog.cellsOf 3 = 1 := by kernel_rfl
  have hc2 : Try.prog.cellsOf 47 = 2 := by kernel_rfl
  have hC : Try.prog.cellsOf 49 = 3 := by kernel_rfl
  obtain ⟨hl, hx⟩ := trod_flds hu hf h
  rw [hC] at hl
  obtain ⟨c0, c1, c2, rfl⟩ := len3 hl
  obtain ⟨_, _, h0⟩ := hx 3 0 (by simp)
  obtain ⟨_, _, h1⟩ := hx 47 1 (by simp)
  rw [hc] at h0
  rw [hc2] at h1
  obtain ⟨a, ea, _, wa⟩ := DataW.trod_int hi h0
  obtain ⟨b, c, eb, wb, wc⟩ := trod_pt h1
  simp at ea eb
  obtain ⟨e1, e2⟩ := eb
  subst ea e1 e2
  exact ⟨⟨a, ⟨b, c⟩⟩, rfl, bounds_i64 wa, wb, wc⟩
theorem trod_eg (n : Nat) (cs : List Value) (y : DataW H × List MemPlace) (h : DataW.trod enc Try.prog w base spare held n 79 cs = some y) : ∃ v : Eg, cs = t3 v.id v.a v.b ∧ (In64 v.id ∧ In64 v.a ∧ In64 v.b) := by
  have hu : Try.prog.underlying 79 = some (.struct (Try.prog.fieldsOf 79)) := by kernel_rfl
  have hf : (Try.prog.fieldsOf 79).toList.map (fun f => (f.type, f.offset)) = [(3, 0), (3, 1), (3, 2)] := by kernel_rfl
  have hi : Try.prog.underlying 3 = some (.int .i64) := by kernel_rfl
  have hc : Try.prog.cellsOf 3 = 1 := by kernel_rfl
  have hC : Try.prog.cellsOf 79 = 3 := by kernel_rfl
  obtain ⟨hl, hx⟩ := trod_flds hu hf h
  rw [hC] at hl
  obtain ⟨c0, c1, c2, rfl⟩ := len3 hl
  obtain ⟨_, _, h0⟩ := hx 3 0 (by simp)
  obtain ⟨_, _, h1⟩ := hx 3 1 (by simp)
  obtain ⟨_, _, h2⟩ := hx 3 2 (by simp)
  rw [hc] at h0 h1 h2
  obtain ⟨a, ea, _, wa⟩ := DataW.trod_int hi h0
  obtain ⟨b, eb, _, wb⟩ := DataW.trod_int hi h1
  obtain ⟨c, ec, _, wc⟩ := DataW.trod_int hi h2
  simp at ea eb ec
  subst ea eb ec
  exact ⟨⟨a, b, c⟩, rfl, bounds_i64 wa, bounds_i64 wb, bounds_i64 wc⟩
theorem row_sl {A : Option Addr} {xs : List Value} (h : Row w A xs) : Sl (fun _ => False) w A xs := by
  by_cases hp : 0 < xs.length
  · obtain ⟨b, off, rfl, hc⟩ := h hp
    have h0 := hc 0 _ (List.getElem?_eq_getElem hp)
    exact ⟨b, off, fun _ => ⟨rfl, World.block_lt_of_cell? w _ h0, id⟩, hc⟩
  · have : xs = [] := by cases xs with | nil => rfl | cons => simp at hp
    subst this
    exact Sl.nil_ _ _ _
/-- What is handed over in an argument that is a plan. -/
structure PlArg (w : World) (A A2 : Option Addr) (c c2 : Nat) (vs : List Vt) (es : List Eg) : Prop where
  sv : Sl (fun _ => False) w A (vR vs)
  se : Sl (fun _ => False) w A2 (eR es)
  cv : vs.length ≤ c ∧ c ≤ maxLen
  ce : es.length ≤ c2 ∧ c2 ≤ maxLen
  wv : ∀ v ∈ vs, In64 v.id ∧ In64 v.p.x ∧ In64 v.p.y
  we : ∀ e ∈ es, In64 e.id ∧ In64 e.a ∧ In64 e.b
theorem open_plan {r : Reach} {b0 : Nat} {v : Value} {d : DataW H} {p : List MemPlace} (hv : Value.okWide Try.prog w r b0 25 v) (h : DataW.Trod enc Try.prog w base spare held 25 v d p) :
    ∃ A A2 c c2 vs es, v = .agg #[.slice A (vs : List Vt).length c, .slice A2 (es : List Eg).length c2] ∧ PlArg w A A2 c c2 vs es := by
  have hu : Try.prog.underlying 25 = some (.struct (Try.prog.fieldsOf 25)) := by kernel_rfl
  have hf : (Try.prog.fieldsOf 25).toList.map (fun f => (f.type, f.offset)) = [(22, 0), (23, 1)] := by kernel_rfl
  have hC : Try.prog.cellsOf 25 = 2 := by kernel_rfl
  have hc1 : Try.prog.cellsOf 22 = 1 := by kernel_rfl
  have hc2 : Try.prog.cellsOf 23 = 1 := by kernel_rfl
  have hs1 : Try.prog.underlying 22 = some (.slice 49) := by kernel_rfl
  have hs2 : Try.prog.underlying 23 = some (.slice 79) := by kernel_rfl
  simp only [Value.okWide, hu] at hv
  obtain ⟨cs, rfl, hsz, _⟩ := hv
  obtain ⟨fuel, hx⟩ := h
  obtain ⟨hl, hx⟩ := trod_flds hu hf hx
  rw [hC] at hsz
  obtain ⟨l⟩ := cs
  simp only [List.size_toArray] at hsz
  obtain ⟨e0, e1, rfl⟩ := len2 hsz
  obtain ⟨_, _, h0⟩ := hx 22 0 (by simp)
  obtain ⟨_, _, h1⟩ := hx 23 1 (by simp)
  rw [hc1] at h0
  rw [hc2] at h1
  obtain ⟨A, c, vs, k1, k2, k3, k4, k5⟩ := trod_rows hs1 (by kernel_rfl) (fun _ => rfl) trod_vt h0
  obtain ⟨A2, c2, es, l1, l2, l3, l4, l5⟩ := trod_rows hs2 (by kernel_rfl) (fun _ => rfl) trod_eg h1
  simp [Value.cells] at k1 l1
  subst k1 l1
  exact ⟨A, A2, c, c2, vs, es, rfl, row_sl k5, row_sl l5, ⟨k2, k3⟩, ⟨l2, l3⟩, k4, l4⟩
theorem open_pt {r : Reach} {b0 : Nat} {v : Value} {d : DataW H} {p : List MemPlace} (hv : Value.okWide Try.prog w r b0 47 v) (h : DataW.Trod enc Try.prog w base spare held 47 v d p) :
    ∃ a b, v = pV a b ∧ In64 a ∧ In64 b := by
  have hu : Try.prog.underlying 47 = some (.struct (Try.prog.fieldsOf 47)) := by kernel_rfl
  simp only [Value.okWide, hu] at hv
  obtain ⟨cs, rfl, hsz, _⟩ := hv
  obtain ⟨fuel, hx⟩ := h
  obtain ⟨a, b, e, wa, wb⟩ := trod_pt hx
  obtain ⟨l⟩ := cs
  simp [Value.cells] at e
  subst e
  exact ⟨a, b, rfl, wa, wb⟩
end
end Go.Proofs.Ytlhmjhildlnokaa

/-
  An argument that is a half: a number and a truth.
-/
namespace Go.Proofs.Ytlhmjhildlnokaa
set_option linter.unusedVariables false
set_option linter.constructorNameAsVariable false
open Go.RowKit Go.WideShapes Go.ChangeShapes
section
variable {H : Type} {enc : TypeId × Value → H} {w : World} {base : Nat} {spare : Nat → Bool} {held : Bool}
theorem open_half {r : Reach} {b0 : Nat} {v : Value} {d : DataW H} {p : List MemPlace} (hv : Value.okWide Try.prog w r b0 36 v) (h : DataW.Trod enc Try.prog w base spare held 36 v d p) :
    ∃ a b, v = .agg #[.int .i64 a, .bool b] ∧ In64 a := by
  have hu : Try.prog.underlying 36 = some (.struct (Try.prog.fieldsOf 36)) := by kernel_rfl
  have hf : (Try.prog.fieldsOf 36).toList.map (fun f => (f.type, f.offset)) = [(3, 0), (4, 1)] := by kernel_rfl
  have hi : Try.prog.underlying 3 = some (.int .i64) := by kernel_rfl
  have hb : Try.prog.underlying 4 = some .bool := by kernel_rfl
  have hc : Try.prog.cellsOf 3 = 1 := by kernel_rfl
  have hcb : Try.prog.cellsOf 4 = 1 := by kernel_rfl
  have hC : Try.prog.cellsOf 36 = 2 := by kernel_rfl
  simp only [Value.okWide, hu] at hv
  obtain ⟨cs, rfl, hsz, _⟩ := hv
  obtain ⟨fuel, hx⟩ := h
  obtain ⟨hl, hx⟩ := trod_flds hu hf hx
  rw [hC] at hsz
  obtain ⟨l⟩ := cs
  simp only [List.size_toArray] at hsz
  obtain ⟨e0, e1, rfl⟩ := len2 hsz
  obtain ⟨_, _, h0⟩ := hx 3 0 (by simp)
  obtain ⟨_, _, h1⟩ := hx 4 1 (by simp)
  rw [hc] at h0
  rw [hcb] at h1
  obtain ⟨a, ea, _, wa⟩ := DataW.trod_int hi h0
  obtain ⟨b, eb, _⟩ := DataW.trod_bool hb h1
  simp [Value.cells] at ea eb
  subst ea eb
  exact ⟨a, b, rfl, bounds_i64 wa⟩
end
end Go.Proofs.Ytlhmjhildlnokaa

/-
  The walks of spin's statements: orders, out, next.
-/
namespace Go.Proofs.Ytlhmjhildlnokaa
set_option linter.unusedVariables false
set_option linter.unusedSimpArgs false
open Go.RowKit

set_option maxRecDepth 200000 in
set_option maxHeartbeats 16000000 in
theorem law_SpinOrders (e : Int) (b : Bool) (f : Int) (c : Bool) (w : World) :
    Calls Try.prog 4 #[.agg #[.int .i64 e, .bool b], .agg #[.int .i64 f, .bool c]] w fun e w' => e = .returned (.bool true) ∧ Below w.heap.size w w' := by
  have H := Own.start w
  have hq : ∀ w, (binOp .eql 36 (.agg #[.int .i64 e, .bool (!b)]) (.agg #[.int .i64 e, .bool (!b)])).run Try.prog w = .ok (.bool true) w := fun w => by
    rw [eqH_eql]; simp
  have hg := eqH_guard
  have h1 := fun w => sless_any e f b c w
  have h2 := fun w => rsless_any e f b c w
  generalize lessH ⟨e, b⟩ ⟨f, c⟩ = v at h1 h2
  go_enter Try.func4, Try.ntmps4
  have tk0 : True := trivial
  have tk1 : True := trivial
  go_wp2_with (first
    | (guard_target =~ Code.wp _ (Code.region 1 _ true) _ _ _; refine region_treeC0 1 (G := True) (.q 0 (.q 1 (.q 2 (.q 3 (.q 4 (.q 5 (.q 6 (.q 7 (.q 8 (.q 9 (.q 10 (.q 11 (.q 12 (.q 13 (.q 14 (.q 15 (.q 16 (.q 17 .nil)))))))))))))))))) (by kernel_rfl) (by intro c a d v w h; cases d <;> exact h) (by kernel_rfl) H ⟨trivial⟩ (fun _ w3 H2 => ?_); (clear H; (try clear w2); revert w3; intro w2 H))
    | (guard_target =~ wpList _ _ _ (_ :: _) _ _; ((guard_target =~ wpList _ _ _ (Oper.mk _ (.box _ _) _ _ _ _ :: _) _ _; refine BigFrame.wpList_want rfl (fun K hK => ?_); refine o_box rfl H rfl (fun w3 b2 he H2 => hK _ _ ?_)); clear hK K he; clear H; (try clear w2); revert w3; intro w2 H; simp [Act.eval, Value.cells, setL, List.getD] at H; (first | (clear tk0; rename Nat => b1) | (clear tk1; rename Nat => b2))); simp only [Act.put, List.setIfInBounds_toArray, List.set_cons_succ, List.set_cons_zero])
    | (guard_target =~ wpTreeC _ _ _ _ _ _ _; first | (guard_target =~ wpTreeC _ _ _ (Tr.e _ Tr.nil) _ _ _; refine treeC_last (by decide +kernel) H rfl rfl (fun w3 H2 K hK => ?_); clear H; (try clear w2); (revert w3; intro w2 H); simp only [List.getElem_toArray, List.getElem_cons_succ, List.getElem_cons_zero]; (first | fail); simp only [Act.put, List.setIfInBounds_toArray, List.set_cons_succ, List.set_cons_zero]) | (guard_target =~ wpTreeC _ _ _ (Tr.q _ _) _ _ _; first | (refine treeC_quiet ⟨_, H, by repeat first | exact .here | apply Suf.there⟩ rfl rfl rfl (fun K hK => ?_); simp only [List.getElem_toArray, List.getElem_cons_succ, List.getElem_cons_zero]; first | (guard_target =~ Oper.quiet _ (Oper.mk _ (.load _ _) _ _ _ _) _ _ _; (refine q_loadNC (row := ?_) rfl rfl ?_ ?_ ?_ (hK _ ?_); rotate_left 1; (repeat first | exact .head _ | apply List.Mem.tail); (focus (intro _; simp; done)); (focus (intro _; simp; done))); clear hK K; simp only [Act.put, List.setIfInBounds_toArray, List.set_cons_succ, List.set_cons_zero]) | (go_big_quiet_op; (try refine ⟨_, fun _ _ => rfl, ?_⟩); refine hK _ ?_; clear hK K)) | (refine treeC_call (v := ?_) ⟨_, H, by repeat first | exact .here | apply Suf.there⟩ rfl rfl (fun w3 H K hK => ?_) ?_; rotate_left 1; (focus (simp only [List.getElem_toArray, List.getElem_cons_succ, List.getElem_cons_zero]; first | (go_big_op; first | exact hK _ (Ext.refl _) | (go_at_call 13; (with_reducible refine (awake16_any _).mono ?_); rintro e w3 ⟨rfl, hb⟩; dsimp only; first | exact hK _ hb | exact hK _ (Ext.refl _)) | (go_at_call 19; (with_reducible refine (twin_any _ _ _).mono ?_); rintro e w3 ⟨rfl, hb⟩; dsimp only; first | exact hK _ hb | exact hK _ (Ext.refl _)) | (go_at_call 20; (with_reducible refine (rtwin_any _ _ _).mono ?_); rintro e w3 ⟨rfl, hb⟩; dsimp only; first | exact hK _ hb | exact hK _ (Ext.refl _)) | (go_at_call 21; (with_reducible refine (h1 _).mono ?_); rintro e w3 ⟨rfl, hb⟩; dsimp only; first | exact hK _ hb | exact hK _ (Ext.refl _)) | (go_at_call 22; (with_reducible refine (h2 _).mono ?_); rintro e w3 ⟨rfl, hb⟩; dsimp only; first | exact hK _ hb | exact hK _ (Ext.refl _))))); simp only [List.getElem_toArray, List.getElem_cons_succ, List.getElem_cons_zero, Act.put, List.setIfInBounds_toArray, List.set_cons_succ, List.set_cons_zero]) | (refine treeC_skip ⟨_, H, by repeat first | exact .here | apply Suf.there⟩ rfl rfl ?_; simp only [List.getElem_toArray, List.getElem_cons_succ, List.getElem_cons_zero, Act.put, List.setIfInBounds_toArray, List.set_cons_succ, List.set_cons_zero])) | (guard_target =~ wpTreeC _ _ _ (Tr.both _ _) _ _ _; refine treeC_both ?_ ?_) | (guard_target =~ wpTreeC _ _ _ (Tr.e _ _) _ _ _; first | (refine treeC_one H rfl rfl (fun w3 H2 K hK => ?_); clear H; (try clear w2); (revert w3; intro w2 H); simp only [List.getElem_toArray, List.getElem_cons_succ, List.getElem_cons_zero]; first | ((first | fail); simp only [Act.put, List.setIfInBounds_toArray, List.set_cons_succ, List.set_cons_zero]) | (go_big_op; (first | fail))) | (refine treeC_one_skip (fun w3 hx => ⟨_, H.ext hx, by repeat first | exact .here | apply Suf.there⟩) rfl rfl (fun w3 hx => ?_); replace H := H.ext hx; clear hx; (try clear w2); revert w3; intro w2 H; simp only [List.getElem_toArray, List.getElem_cons_succ, List.getElem_cons_zero, Act.put, List.setIfInBounds_toArray, List.set_cons_succ, List.set_cons_zero])) | (guard_target =~ wpTreeC _ _ _ Tr.nil _ _ _; refine treeC_nil H (fun w3 H2 => ?_); clear H; (try clear w2); revert w3; intro w2 H)))
  exact bodyPost_ret (v := .bool true) (by simp [results, Try.results4]) rfl ⟨rfl, H.below⟩
set_option maxRecDepth 200000 in
set_option maxHeartbeats 16000000 in
theorem law_SpinOut (A A2 : Option Addr) (c c2 : Nat) (vs : List Vt) (es : List Eg) (id : Int) (w : World) (hp : PlArg w A A2 c c2 vs es) :
    Calls Try.prog 5 #[.agg #[.slice A vs.length c, .slice A2 es.length c2], .int .i64 id] w fun e w' => e = .returned (.bool true) ∧ Below w.heap.size w w' := by
  obtain ⟨hs, hs2, hcv, hce, _, _⟩ := hp
  obtain ⟨F0, hF0⟩ : ∃ F0 : Nat → Prop, F0 = fun _ => False := ⟨_, rfl⟩
  have hFF : ∀ k, F0 k → k < w.heap.size := fun k h => by rw [hF0] at h; exact h.elim
  rw [← hF0] at hs hs2
  clear hF0
  obtain ⟨b0, o0, H1, f0⟩ := (Own.start w).addSl (hs.ro (by rfl))
  obtain ⟨b9, o9, H, f9⟩ := H1.addSl (hs2.ro (by rfl))
  clear hs hs2 H1
  have hfw := few16_any A A2 vs.length es.length c c2
  obtain ⟨v0, hv0⟩ : ∃ v, (decide (vs.length ≤ 40) && decide (es.length ≤ 40)) = v := ⟨_, rfl⟩
  rw [hv0] at hfw
  cases v0
  · clear hv0
    go_enter Try.func5, Try.ntmps5
    have tk0 : True := trivial
    go_wp2_with (first
      | (go_at_call 12; (with_reducible refine (hfw _).mono ?_); rintro e w3 ⟨rfl, hb⟩; replace H := H.ext hb; clear hb; dsimp only; (skip))
      | (go_at_call 13; (with_reducible refine (awake16_any _).mono ?_); rintro e w3 ⟨rfl, hb⟩; replace H := H.ext hb; clear hb; dsimp only; (skip))
      | (guard_target =~ wpList _ _ _ (_ :: _) _ _; (first | (guard_target =~ wpList _ _ _ (Oper.mk _ (.load _ _) _ _ _ _ :: _) _ _; refine BigFrame.wpList_want rfl (fun K hK => ?_); (refine o_loadNC (row := ?_) rfl rfl H ?_ ?_ ?_ (hK _ _ ?_); rotate_left 1; (repeat first | exact .head _ | apply List.Mem.tail); (focus (intro _; simp; done)); (focus (intro _; simp; done))); clear hK K) | ((guard_target =~ wpList _ _ _ (Oper.mk _ (.box _ _) _ _ _ _ :: _) _ _; refine BigFrame.wpList_want rfl (fun K hK => ?_); refine o_box rfl H rfl (fun w3 b2 he H2 => hK _ _ ?_)); clear hK K he; clear H; (try clear w2); revert w3; intro w2 H; simp [Act.eval, Value.cells, setL, List.getD] at H; (clear tk0; rename Nat => b1))); simp only [Act.put, List.setIfInBounds_toArray, List.set_cons_succ, List.set_cons_zero]))
    go_ret
    exact ⟨rfl, H.below⟩
  · have hl : vs.length ≤ 1000000 := by simp at hv0; omega
    have hl2 : es.length ≤ 1000000 := by simp at hv0; omega
    clear hv0
    have hc2 := hce.1
    have hcc := hce.2
    have h1 := fun F w h1 h2 hF => sout_any vs es A A2 vs.length es.length c c2 F id w rfl rfl h1 h2 hF hl hl2 hc2 hcc
    have h2 := fun F w h1 h2 => refRight_any vs es A A2 vs.length es.length c c2 F w rfl rfl h1 h2 hl hl2 hc2 hcc
    rw [← right_same] at h2
    have hRR : rightB vs es = true → RightP vs es := rightB_P
    generalize rightB vs es = r at h1 h2 hRR
    cases r
    · go_enter Try.func5, Try.ntmps5
      have tk0 : True := trivial
      go_wp2_with (first
        | (go_at_call 12; (with_reducible refine (hfw _).mono ?_); rintro e w3 ⟨rfl, hb⟩; replace H := H.ext hb; clear hb; dsimp only; (skip))
        | (go_at_call 13; (with_reducible refine (awake16_any _).mono ?_); rintro e w3 ⟨rfl, hb⟩; replace H := H.ext hb; clear hb; dsimp only; (skip))
        | (go_at_call 15; (with_reducible refine (plain16_any _ _ _ _ _ _ _).mono ?_); rintro e w3 ⟨rfl, hb⟩; replace H := H.ext hb; clear hb; dsimp only; (skip))
        | (go_at_call 23; (with_reducible refine (h1 (FW F0 _) _ (by exact H.giveRd m2 f0) (by exact H.giveRd m1 f9) (H.fw_lt rfl hFF)).mono ?_); rintro e w3 ⟨A3, c3, rfl, hb, s3, q3, q4⟩; replace H := H.ext hb; clear hb; obtain ⟨b3, o3, H4, f3⟩ := H.addSl s3; clear H s3; have H := H4; clear H4; dsimp only; (skip))
        | (go_at_call 16; (with_reducible refine (h2 _ _ (by exact H.giveRd m3 f0) (by exact H.giveRd m2 f9)).mono ?_); rintro e w3 ⟨rfl, hb⟩; replace H := H.ext hb; clear hb; dsimp only; (skip))
        | (guard_target =~ wpList _ _ _ (_ :: _) _ _; (first | (guard_target =~ wpList _ _ _ (Oper.mk _ (.load _ _) _ _ _ _ :: _) _ _; refine BigFrame.wpList_want rfl (fun K hK => ?_); (refine o_loadNC (row := ?_) rfl rfl H ?_ ?_ ?_ (hK _ _ ?_); rotate_left 1; (repeat first | exact .head _ | apply List.Mem.tail); (focus (intro _; simp; done)); (focus (intro _; simp; done))); clear hK K) | ((guard_target =~ wpList _ _ _ (Oper.mk _ (.box _ _) _ _ _ _ :: _) _ _; refine BigFrame.wpList_want rfl (fun K hK => ?_); refine o_box rfl H rfl (fun w3 b2 he H2 => hK _ _ ?_)); clear hK K he; clear H; (try clear w2); revert w3; intro w2 H; simp [Act.eval, Value.cells, setL, List.getD] at H; (clear tk0; rename Nat => b1))); simp only [Act.put, List.setIfInBounds_toArray, List.set_cons_succ, List.set_cons_zero]))
      exact bodyPost_ret (v := .bool true) (by simp [results, Try.results5]) rfl ⟨rfl, H.below⟩
    · have HR := Lib.hid (hRR rfl)
      clear hRR
      have h3 := fun F w h1 h2 hF => rout_any vs es A A2 vs.length es.length c c2 F id w HR.out rfl rfl h1 h2 hF
      have hL : (outZ vs es id).length ≤ 1000000 := Nat.le_trans (outZ_len _ _ _) (Nat.le_trans (few_halves HR.out) (by omega))
      simp only [if_true] at h1
      generalize outZ vs es id = L at h1 h3 hL
      have hsm := fun F w A A2 n m c c2 (hn : n = L.length) (hm : m = L.length) h h' => same_any L L A A2 n m c c2 F w hn hm h h' (by omega) (by omega)
      simp only [decide_true] at hsm
      go_enter Try.func5, Try.ntmps5
      have tk0 : True := trivial
      go_wp2_with (first
        | (go_at_call 12; (with_reducible refine (hfw _).mono ?_); rintro e w3 ⟨rfl, hb⟩; replace H := H.ext hb; clear hb; dsimp only; (skip))
        | (go_at_call 13; (with_reducible refine (awake16_any _).mono ?_); rintro e w3 ⟨rfl, hb⟩; replace H := H.ext hb; clear hb; dsimp only; (skip))
        | (go_at_call 15; (with_reducible refine (plain16_any _ _ _ _ _ _ _).mono ?_); rintro e w3 ⟨rfl, hb⟩; replace H := H.ext hb; clear hb; dsimp only; (skip))
        | (go_at_call 23; (with_reducible refine (h1 (FW F0 _) _ (by exact H.giveRd m2 f0) (by exact H.giveRd m1 f9) (H.fw_lt rfl hFF)).mono ?_); rintro e w3 ⟨A3, c3, rfl, hb, s3, q3, q4⟩; replace H := H.ext hb; clear hb; obtain ⟨b3, o3, H4, f3⟩ := H.addSl s3; clear H s3; have H := H4; clear H4; dsimp only; (skip))
        | (go_at_call 16; (with_reducible refine (h2 _ _ (by exact H.giveRd m3 f0) (by exact H.giveRd m2 f9)).mono ?_); rintro e w3 ⟨rfl, hb⟩; replace H := H.ext hb; clear hb; dsimp only; (skip))
        | (go_at_call 24; (with_reducible refine (h3 (FW F0 _) _ (by exact H.giveRd m3 f0) (by exact H.giveRd m2 f9) (H.fw_lt rfl hFF)).mono ?_); rintro e w3 ⟨A4, c4, rfl, hb, s4, q5, q6⟩; replace H := H.ext hb; clear hb; obtain ⟨b4, o4, H4, f4⟩ := H.addSl s4; clear H s4; have H := H4; clear H4; dsimp only; (skip))
        | (go_at_call 18; (with_reducible refine (hsm _ _ _ _ _ _ _ _ rfl rfl (by exact H.giveRd m1 f3) (by exact H.giveRd m0 f4)).mono ?_); rintro e w3 ⟨rfl, hb⟩; replace H := H.ext hb; clear hb; dsimp only; (skip))
        | (guard_target =~ wpList _ _ _ (_ :: _) _ _; (first | (guard_target =~ wpList _ _ _ (Oper.mk _ (.load _ _) _ _ _ _ :: _) _ _; refine BigFrame.wpList_want rfl (fun K hK => ?_); (refine o_loadNC (row := ?_) rfl rfl H ?_ ?_ ?_ (hK _ _ ?_); rotate_left 1; (repeat first | exact .head _ | apply List.Mem.tail); (focus (intro _; simp; done)); (focus (intro _; simp; done))); clear hK K) | ((guard_target =~ wpList _ _ _ (Oper.mk _ (.box _ _) _ _ _ _ :: _) _ _; refine BigFrame.wpList_want rfl (fun K hK => ?_); refine o_box rfl H rfl (fun w3 b2 he H2 => hK _ _ ?_)); clear hK K he; clear H; (try clear w2); revert w3; intro w2 H; simp [Act.eval, Value.cells, setL, List.getD] at H; (clear tk0; rename Nat => b1))); simp only [Act.put, List.setIfInBounds_toArray, List.set_cons_succ, List.set_cons_zero]))
      exact bodyPost_ret (v := .bool true) (by simp [results, Try.results5]) rfl ⟨rfl, H.below⟩
end Go.Proofs.Ytlhmjhildlnokaa

/-
  Lists of halves that stand in a list: a resource that is read. No walk stands here.
-/
namespace Go.Proofs.Ytlhmjhildlnokaa
set_option linter.unusedVariables false
set_option linter.unusedSimpArgs false
open Go.RowKit

def RsP (hs : List Value) (rs : List (List Hf)) (w : World) : Prop := ∀ (i : Nat) (r : List Hf), rs[i]? = some r → ∃ A c, hs[i]? = some (Value.slice A r.length c) ∧ Sl (fun _ => False) w A (hR r)
def rsFoot (hs : List Value) (rs : List (List Hf)) (k : Nat) : Prop := ∃ (i : Nat) (r : List Hf) (off c : Nat), rs[i]? = some r ∧ 0 < (hR r).length ∧ hs[i]? = some (Value.slice (some ⟨k, off, none⟩) r.length c)
def RsR (hs : List Value) (rs : List (List Hf)) : Res := .any true (rsFoot hs rs) (RsP hs rs)
variable {B : Nat} {w0 w : World} {l : List Res} {hs : List Value} {rs : List (List Hf)} {F : Nat → Prop}
theorem rsP_keeps (h : RsP hs rs w) : (RsR hs rs).holds w := by
  intro w' hw i r hr
  obtain ⟨A, c, h1, b, off, h2, h3⟩ := h i r hr
  refine ⟨A, c, h1, b, off, fun hp => ?_, fun j v hv => ?_⟩
  · obtain ⟨rfl, h4, h5⟩ := h2 hp
    refine ⟨rfl, ?_, h5⟩
    have := hw b ⟨i, r, off, c, hr, hp, h1⟩
    exact Decidable.byContradiction fun q => by
      rw [Array.getElem?_eq_none (by omega), Array.getElem?_eq_getElem h4] at this
      cases this
  · have hp : 0 < (hR r).length := Nat.lt_of_le_of_lt (Nat.zero_le _) (List.getElem?_eq_some_iff.1 hv).1
    obtain ⟨rfl, h4, h5⟩ := h2 hp
    rw [World.cell?_of_block (w := w) (hw b ⟨i, r, off, c, hr, hp, h1⟩)]
    exact h3 j v hv
theorem Own.addRs (H : Own B w0 w l) (h : ∀ (i : Nat) (r : List Hf), rs[i]? = some r → ∃ A c, hs[i]? = some (Value.slice A r.length c) ∧ Sl (FW F l) w A (hR r)) : Own B w0 w (RsR hs rs :: l) := by
  have blk : ∀ k, rsFoot hs rs k → k < w.heap.size ∧ ¬ FW F l k := fun k ⟨i, r, off, c, h1, h2, h3⟩ => by
    obtain ⟨A, c', h4, b, off', h5, _⟩ := h i r h1
    rw [h3] at h4
    injection h4 with h4
    injection h4 with h4 _ _
    obtain ⟨h6, h7, h8⟩ := h5 h2
    rw [← h4] at h6
    injection h6 with h6
    injection h6 with h6 _ _
    subst h6
    exact ⟨h7, h8⟩
  refine H.add _ (rsP_keeps fun i r hr => ?_) (fun k hk => ⟨(blk k hk).1, fun q => by cases q⟩) (fun r' hr' => ?_)
  · obtain ⟨A, c, h1, h2⟩ := h i r hr
    exact ⟨A, c, h1, h2.fewer fun _ q => q.elim⟩
  · cases hro : r'.ro with
    | true => exact .inl ⟨rfl, rfl⟩
    | false => exact .inr fun k hk hk' => (blk k hk).2 (.inr ⟨r', hr', hro, hk'⟩)
theorem Own.giveRs (H : Own B w0 w l) (hm : RsR hs rs ∈ l) : RsP hs rs w := H.holds _ hm w fun _ _ => rfl
/-- The parts of an answer that is a list of lists. -/
theorem Own.addRet {A : Option Addr} (H : Own B w0 w l) (h1 : Sl (FW F l) w A hs) (h2 : ∀ (i : Nat) (r : List Hf), rs[i]? = some r → ∃ Ai ci, hs[i]? = some (Value.slice Ai r.length ci) ∧ Sl (FW F l) w Ai (hR r)) : ∃ b off, Own B w0 w (RsR hs rs :: .rd A b off hs :: l) := by
  obtain ⟨b, off, H2, _⟩ := H.addSl h1
  exact ⟨b, off, H2.addRs (F := F) fun i r hr => by
    obtain ⟨A', c, h3, h4⟩ := h2 i r hr
    exact ⟨A', c, h3, h4.cons_ro _ rfl⟩⟩
end Go.Proofs.Ytlhmjhildlnokaa

/-
  Lines, seen a little from the side (of two points the lesser one stands left): how high they stand at a place; those that don't meet keep their order. No walk stands here.
-/
namespace Go.Proofs.Ytlhmjhildlnokaa
set_option linter.unusedVariables false
set_option linter.unusedSimpArgs false

theorem rat_pos_of_mul {a b : Rat} (h : 0 < a * b) (hb : 0 < b) : 0 < a := by
  by_cases ha : 0 < a
  · exact ha
  · have h1 : 0 ≤ -a := by grind
    have := Rat.mul_nonneg h1 (Rat.le_of_lt hb)
    grind
theorem rat_mul_pos {a b : Rat} (ha : 0 < a) (hb : 0 < b) : 0 < a * b := Rat.mul_pos ha hb
theorem rat_zero_of_mul {a b : Rat} (h : a * b = 0) (hb : 0 < b) : a = 0 := by
  rcases Rat.mul_eq_zero.1 h with h | h
  · exact h
  · grind
structure Ln where
  x1 : Rat
  y1 : Rat
  x2 : Rat
  y2 : Rat
def Ln.m (s : Ln) : Rat := (s.y2 - s.y1) / (s.x2 - s.x1)
def Ln.at (s : Ln) (x : Rat) : Rat := s.y1 + s.m * (x - s.x1)
def Ln.spans (s : Ln) (x : Rat) : Prop := s.x1 < x ∧ x < s.x2
theorem Ln.at_1 (s : Ln) : s.at s.x1 = s.y1 := by unfold Ln.at; grind
theorem Ln.at_2 (s : Ln) (h : s.x1 < s.x2) : s.at s.x2 = s.y2 := by
  unfold Ln.at Ln.m
  have : s.x2 - s.x1 ≠ 0 := by grind
  grind
theorem Ln.affine (s : Ln) (x y : Rat) : s.at y - s.at x = s.m * (y - x) := by unfold Ln.at; grind
/-- They don't cross. -/
def Ln.Sep (s t : Ln) : Prop := ∀ x, s.spans x → t.spans x → s.at x ≠ t.at x
theorem Ln.Sep.symm {s t : Ln} (h : s.Sep t) : t.Sep s := fun x h1 h2 e => h x h2 h1 e.symm
/-- What stands above stays above. -/
theorem Ln.Sep.keeps {s t : Ln} (h : s.Sep t) {x y : Rat} (sx : s.spans x) (tx : t.spans x) (sy : s.spans y) (ty : t.spans y) (hlt : s.at x < t.at x) : s.at y < t.at y := by
  by_cases hy : s.at y < t.at y
  · exact hy
  exfalso
  have hne := h y sy ty
  -- where they cross
  generalize hd : t.at x - s.at x = d
  generalize he : s.at y - t.at y = e
  have d0 : 0 < d := by grind
  have e0 : 0 < e := by grind
  have de : 0 < d + e := by grind
  have de' : d + e ≠ 0 := by grind
  generalize hz : (x * e + y * d) / (d + e) = z
  have hz' : z * (d + e) = x * e + y * d := by rw [← hz]; exact Rat.div_mul_cancel de'
  have a1 := s.affine x z
  have a2 := t.affine x z
  have a3 := s.affine x y
  have a4 := t.affine x y
  have lo : ∀ c : Rat, c < x → c < y → c < z := fun c h1 h2 => by
    have p1 := rat_mul_pos (by grind : 0 < x - c) e0
    have p2 := rat_mul_pos (by grind : 0 < y - c) d0
    have : 0 < (z - c) * (d + e) := by grind
    have := rat_pos_of_mul this de
    grind
  have hi : ∀ c : Rat, x < c → y < c → z < c := fun c h1 h2 => by
    have p1 := rat_mul_pos (by grind : 0 < c - x) e0
    have p2 := rat_mul_pos (by grind : 0 < c - y) d0
    have : 0 < (c - z) * (d + e) := by grind
    have := rat_pos_of_mul this de
    grind
  have sz : s.spans z := ⟨lo _ sx.1 sy.1, hi _ sx.2 sy.2⟩
  have tz : t.spans z := ⟨lo _ tx.1 ty.1, hi _ tx.2 ty.2⟩
  refine h z sz tz ?_
  -- (s - t) at z, times d + e
  have e1 : (s.at z - t.at z) * (d + e) = 0 := by
    have b1 : s.at z - t.at z = (s.m - t.m) * (z - x) - d := by grind
    have b2 : (s.m - t.m) * (y - x) = d + e := by grind
    have b3 : (z - x) * (d + e) = (y - x) * d := by grind
    have : (s.at z - t.at z) * (d + e) = (s.m - t.m) * ((z - x) * (d + e)) - d * (d + e) := by rw [b1]; grind
    rw [this, b3]
    grind
  have := rat_zero_of_mul e1 de
  grind
def Xi (p : Pt) : Int := p.x * 1073741824 + p.y
def Xr (p : Pt) : Rat := (Xi p : Rat)
def Yr (p : Pt) : Rat := (p.y : Rat)
theorem less_Xi {a b : Pt} (ha : InP a) (hb : InP b) : LessP a b ↔ Xi a < Xi b := by
  unfold LessP Xi InP at *; omega
theorem Xi_inj {a b : Pt} (ha : InP a) (hb : InP b) (h : Xi a = Xi b) : a = b := by
  obtain ⟨x, y⟩ := a; obtain ⟨u, v⟩ := b
  unfold Xi InP at *
  simp only at *
  have : x = u := by omega
  have : y = v := by omega
  simp [*]
theorem less_Xr {a b : Pt} (ha : InP a) (hb : InP b) : LessP a b ↔ Xr a < Xr b := by
  rw [less_Xi ha hb]; unfold Xr; exact Rat.intCast_lt_intCast.symm
theorem cross_r (a b c : Pt) : (Xr b - Xr a) * (Yr c - Yr a) - (Yr b - Yr a) * (Xr c - Xr a) = 1073741824 * (crossZ a b c : Rat) := by
  unfold Xr Yr Xi crossZ
  simp only [Rat.intCast_add, Rat.intCast_mul, Rat.intCast_sub]
  grind
def lnOf (a b : Pt) : Ln := ⟨Xr a, Yr a, Xr b, Yr b⟩
theorem at_cross {a b : Pt} (h : Xr a < Xr b) (c : Pt) : (Yr c - (lnOf a b).at (Xr c)) * (Xr b - Xr a) = 1073741824 * (crossZ a b c : Rat) := by
  rw [← cross_r]
  unfold Ln.at Ln.m lnOf
  simp only
  have : Xr b - Xr a ≠ 0 := by grind
  grind
theorem at_pos {a b : Pt} (h : Xr a < Xr b) (c : Pt) : (lnOf a b).at (Xr c) < Yr c ↔ 0 < crossZ a b c := by
  have e := at_cross h c
  have hp : 0 < Xr b - Xr a := by grind
  rw [← Rat.intCast_lt_intCast]
  constructor
  · intro h1
    have := rat_mul_pos (by grind : 0 < Yr c - (lnOf a b).at (Xr c)) hp
    grind
  · intro h1
    have : 0 < (Yr c - (lnOf a b).at (Xr c)) * (Xr b - Xr a) := by grind
    have := rat_pos_of_mul this hp
    grind
theorem at_neg {a b : Pt} (h : Xr a < Xr b) (c : Pt) : Yr c < (lnOf a b).at (Xr c) ↔ crossZ a b c < 0 := by
  have e := at_cross h c
  have hp : 0 < Xr b - Xr a := by grind
  rw [← Rat.intCast_lt_intCast]
  constructor
  · intro h1
    have := rat_mul_pos (by grind : 0 < (lnOf a b).at (Xr c) - Yr c) hp
    grind
  · intro h1
    have : 0 < ((lnOf a b).at (Xr c) - Yr c) * (Xr b - Xr a) := by grind
    have := rat_pos_of_mul this hp
    grind
theorem at_zero {a b : Pt} (h : Xr a < Xr b) (c : Pt) : Yr c = (lnOf a b).at (Xr c) ↔ crossZ a b c = 0 := by
  have h1 := at_pos h c
  have h2 := at_neg h c
  constructor
  · intro e
    have h3 : ¬ (lnOf a b).at (Xr c) < Yr c := by grind
    have h4 : ¬ Yr c < (lnOf a b).at (Xr c) := by grind
    rw [h1] at h3
    rw [h2] at h4
    omega
  · intro e
    have h3 : ¬ 0 < crossZ a b c := by omega
    have h4 : ¬ crossZ a b c < 0 := by omega
    rw [← h1] at h3
    rw [← h2] at h4
    grind
theorem tsgn_pos {n : Int} (h : 0 < n) : sgnZ n = 1 := by unfold sgnZ; rw [if_neg (by omega), if_pos h]
theorem tsgn_neg {n : Int} (h : n < 0) : sgnZ n = -1 := by unfold sgnZ; rw [if_pos h]
theorem tsgn_zero {n : Int} (h : n = 0) : sgnZ n = 0 := by subst h; rfl
theorem on_no {p a b : Pt} (ip : InP p) (ia : InP a) (ib : InP b) (hz : crossZ a b p = 0) (h : onL p a b = false) : ¬ (Xr a < Xr p ∧ Xr p < Xr b) := by
  rintro ⟨h1, h2⟩
  unfold onL turnZ betwB lessB at h
  rw [tsgn_zero hz, decide_eq_true ((less_Xr ia ip).2 h1), decide_eq_true ((less_Xr ip ib).2 h2)] at h
  simp at h
/-- Two lines that don't meet don't cross. -/
theorem sep_of {a b c d : Pt} (ia : InP a) (ib : InP b) (ic : InP c) (id : InP d) (hab : Xr a < Xr b) (hcd : Xr c < Xr d) (h : meetL a b c d = false) : (lnOf a b).Sep (lnOf c d) := by
  intro x s t e
  have s1 : Xr a < x := s.1
  have s2 : x < Xr b := s.2
  have t1 : Xr c < x := t.1
  have t2 : x < Xr d := t.2
  have aa : (lnOf a b).at (Xr a) = Yr a := (lnOf a b).at_1
  have ab : (lnOf a b).at (Xr b) = Yr b := (lnOf a b).at_2 hab
  have cc : (lnOf c d).at (Xr c) = Yr c := (lnOf c d).at_1
  have cd : (lnOf c d).at (Xr d) = Yr d := (lnOf c d).at_2 hcd
  have ea := (lnOf a b).affine x (Xr a)
  have eb := (lnOf a b).affine x (Xr b)
  have ec := (lnOf a b).affine x (Xr c)
  have ed := (lnOf a b).affine x (Xr d)
  have fa := (lnOf c d).affine x (Xr a)
  have fb := (lnOf c d).affine x (Xr b)
  have fc := (lnOf c d).affine x (Xr c)
  have fd := (lnOf c d).affine x (Xr d)
  generalize hm : (lnOf a b).m = m at *
  generalize hk : (lnOf c d).m = k at *
  simp only [meetL, Bool.or_eq_false_iff] at h
  obtain ⟨⟨o1, o2, o3, o4⟩, sm, ap⟩ := h
  have pa := at_pos hcd a
  have na := at_neg hcd a
  have za := at_zero hcd a
  have pb := at_pos hcd b
  have nb := at_neg hcd b
  have zb := at_zero hcd b
  have pc := at_pos hab c
  have nc := at_neg hab c
  have zc := at_zero hab c
  have pd := at_pos hab d
  have nd := at_neg hab d
  have zd := at_zero hab d
  have tri : k < m ∨ m < k ∨ m = k := by grind
  rcases tri with hlt | hlt | heq
  · have q1 := rat_mul_pos (by grind : 0 < m - k) (by grind : 0 < x - Xr a)
    have q2 := rat_mul_pos (by grind : 0 < m - k) (by grind : 0 < Xr b - x)
    have q3 := rat_mul_pos (by grind : 0 < m - k) (by grind : 0 < x - Xr c)
    have q4 := rat_mul_pos (by grind : 0 < m - k) (by grind : 0 < Xr d - x)
    have r1 := na.1 (by grind)
    have r2 := pb.1 (by grind)
    have r3 := pc.1 (by grind)
    have r4 := nd.1 (by grind)
    unfold apartB turnZ at ap
    rw [tsgn_neg r1, tsgn_pos r2, tsgn_pos r3, tsgn_neg r4] at ap
    simp at ap
  · have q1 := rat_mul_pos (by grind : 0 < k - m) (by grind : 0 < x - Xr a)
    have q2 := rat_mul_pos (by grind : 0 < k - m) (by grind : 0 < Xr b - x)
    have q3 := rat_mul_pos (by grind : 0 < k - m) (by grind : 0 < x - Xr c)
    have q4 := rat_mul_pos (by grind : 0 < k - m) (by grind : 0 < Xr d - x)
    have r1 := pa.1 (by grind)
    have r2 := nb.1 (by grind)
    have r3 := nc.1 (by grind)
    have r4 := pd.1 (by grind)
    unfold apartB turnZ at ap
    rw [tsgn_pos r1, tsgn_neg r2, tsgn_neg r3, tsgn_pos r4] at ap
    simp at ap
  · subst heq
    have r1 := za.1 (by grind)
    have r2 := zb.1 (by grind)
    have r3 := zc.1 (by grind)
    have r4 := zd.1 (by grind)
    have n1 := on_no ia ic id r1 o1
    have n2 := on_no ib ic id r2 o2
    have n3 := on_no ic ia ib r3 o3
    have n4 := on_no id ia ib r4 o4
    clear ea eb ec ed fa fb fc fd pa na za pb nb zb pc nc zc pd nd zd aa ab cc cd e r1 r2 r3 r4 o1 o2 o3 o4 ap hm hk
    have eac : Xr a = Xr c := by grind
    have ebd : Xr b = Xr d := by grind
    have hac : a = c := Xi_inj ia ic (Rat.intCast_inj.1 eac)
    have hbd : b = d := Xi_inj ib id (Rat.intCast_inj.1 ebd)
    subst hac hbd
    simp [sameB] at sm
end Go.Proofs.Ytlhmjhildlnokaa

/-
  Graphs and their duals: what hangs together, counted from both sides; the least that each hangs together with, found in rounds. No walk stands here.
-/
namespace Go.Proofs.Ytlhmjhildlnokaa
set_option linter.unusedVariables false
set_option linter.unusedSimpArgs false
/-! ### Sums of bits -/
def xs {α : Type} (l : List α) (f : α → Bool) : Bool := l.foldr (fun a s => f a ^^ s) false
variable {α β : Type}
@[simp] theorem xs_nil (f : α → Bool) : xs [] f = false := rfl
@[simp] theorem xs_cons (a : α) (l : List α) (f : α → Bool) : xs (a :: l) f = (f a ^^ xs l f) := rfl
theorem xs_append (l m : List α) (f : α → Bool) : xs (l ++ m) f = (xs l f ^^ xs m f) := by
  induction l with
  | nil => simp
  | cons a l ih => simp [ih]
theorem xs_congr {l : List α} {f g : α → Bool} (h : ∀ a ∈ l, f a = g a) : xs l f = xs l g := by
  induction l with
  | nil => rfl
  | cons a l ih => rw [xs_cons, xs_cons, h a (by simp), ih fun b hb => h b (by simp [hb])]
theorem xs_xor (l : List α) (f g : α → Bool) : xs l (fun a => f a ^^ g a) = (xs l f ^^ xs l g) := by
  induction l with
  | nil => rfl
  | cons a l ih => rw [xs_cons, xs_cons, xs_cons, ih]; cases f a <;> cases g a <;> cases xs l f <;> cases xs l g <;> rfl
theorem xs_false (l : List α) : xs l (fun _ => false) = false := by
  induction l with
  | nil => rfl
  | cons a l ih => simpa using ih
theorem xs_and (c : Bool) (l : List α) (f : α → Bool) : xs l (fun a => c && f a) = (c && xs l f) := by
  cases c
  · simp [xs_false]
  · simp
theorem xs_swap (l : List α) (m : List β) (f : α → β → Bool) : xs l (fun a => xs m (f a)) = xs m (fun b => xs l fun a => f a b) := by
  induction l with
  | nil => simp [xs_false]
  | cons a l ih => simp only [xs_cons]; rw [ih, xs_xor]
theorem xs_map (l : List α) (g : α → β) (f : β → Bool) : xs (l.map g) f = xs l (fun a => f (g a)) := by
  induction l with
  | nil => rfl
  | cons a l ih => simp [ih]
theorem xs_flatMap (l : List α) (g : α → List β) (f : β → Bool) : xs (l.flatMap g) f = xs l (fun a => xs (g a) f) := by
  induction l with
  | nil => rfl
  | cons a l ih => rw [List.flatMap_cons, xs_append, ih, xs_cons]
theorem xs_filter (l : List α) (p f : α → Bool) : xs (l.filter p) f = xs l (fun a => p a && f a) := by
  induction l with
  | nil => rfl
  | cons a l ih =>
    rw [List.filter_cons]
    cases h : p a <;> simp [h, ih]
theorem xs_perm {l m : List α} (h : l.Perm m) (f : α → Bool) : xs l f = xs m f := by
  induction h with
  | nil => rfl
  | cons a _ ih => simp [ih]
  | swap a b l => simp only [xs_cons]; cases f a <;> cases f b <;> cases xs l f <;> rfl
  | trans _ _ h1 h2 => rw [h1, h2]
/-- One element's part. -/
theorem xs_one [DecidableEq α] {l : List α} (hn : l.Nodup) {a : α} (ha : a ∈ l) (f : α → Bool) : xs l (fun b => decide (b = a) && f b) = f a := by
  induction l with
  | nil => cases ha
  | cons b l ih =>
    have hn' := List.nodup_cons.1 hn
    rw [xs_cons]
    rcases List.mem_cons.1 ha with rfl | ha
    · rw [xs_congr (g := fun _ => false) (fun b hb => by
        have : b ≠ a := by rintro rfl; exact hn'.1 hb
        simp [this]), xs_false]
      simp
    · have : b ≠ a := by rintro rfl; exact hn'.1 ha
      rw [ih hn'.2 ha]; simp [this]

/-! ### What hangs together -/
inductive Conn (L : List (Nat × Nat)) (a : Nat) : Nat → Prop
  | refl : Conn L a a
  | step {b c : Nat} : Conn L a b → ((b, c) ∈ L ∨ (c, b) ∈ L) → Conn L a c
variable {L M : List (Nat × Nat)} {a b c : Nat}
theorem Conn.trans (h : Conn L a b) (h2 : Conn L b c) : Conn L a c := by
  induction h2 with
  | refl => exact h
  | step _ hl ih => exact ih.step hl
theorem Conn.one (h : (a, b) ∈ L ∨ (b, a) ∈ L) : Conn L a b := Conn.refl.step h
theorem Conn.symm (h : Conn L a b) : Conn L b a := by
  induction h with
  | refl => exact .refl
  | step _ hl ih => exact (Conn.one hl.symm).trans ih
theorem Conn.mono (h : Conn L a b) (hs : ∀ x ∈ L, x ∈ M) : Conn M a b := by
  induction h with
  | refl => exact .refl
  | step _ hl ih => exact ih.step (hl.imp (hs _) (hs _))
/-- Each the least that it hangs together with. -/
def relab (l : Nat → Nat) (a b : Nat) (i : Nat) : Nat := if l i = max (l a) (l b) then min (l a) (l b) else l i
def labs : List (Nat × Nat) → Nat → Nat
  | [] => id
  | (a, b) :: L => relab (labs L) a b
theorem labs_le : ∀ (L : List (Nat × Nat)) (i : Nat), labs L i ≤ i
  | [], i => Nat.le_refl _
  | (a, b) :: L, i => by
    have := labs_le L i
    unfold labs relab
    split
    · omega
    · exact this
theorem labs_labs : ∀ (L : List (Nat × Nat)) (i : Nat), labs L (labs L i) = labs L i
  | [], i => rfl
  | (a, b) :: L, i => by
    have h1 := labs_labs L i
    have ha := labs_labs L a
    have hb := labs_labs L b
    show relab (labs L) a b (relab (labs L) a b i) = relab (labs L) a b i
    unfold relab
    by_cases h : labs L i = max (labs L a) (labs L b)
    · rw [if_pos h]
      have : labs L (min (labs L a) (labs L b)) = min (labs L a) (labs L b) := by
        rcases Nat.le_total (labs L a) (labs L b) with h | h
        · rw [Nat.min_eq_left h, ha]
        · rw [Nat.min_eq_right h, hb]
      rw [this]
      split <;> omega
    · rw [if_neg h, h1, if_neg h]
theorem labs_conn : ∀ (L : List (Nat × Nat)) (i j : Nat), labs L i = labs L j ↔ Conn L i j
  | [], i, j => ⟨fun h => by obtain rfl : i = j := h; exact .refl, fun h => by
      cases h with
      | refl => rfl
      | step _ hl => simp at hl⟩
  | (a, b) :: L, i, j => by
    have hmono : ∀ {x y}, Conn L x y → Conn ((a, b) :: L) x y := fun h => h.mono fun x hx => List.mem_cons_of_mem _ hx
    have hab : Conn ((a, b) :: L) a b := .one (.inl (by simp))
    constructor
    · intro h
      have ia : labs L i = labs L a → Conn ((a, b) :: L) i a := fun h => hmono ((labs_conn L i a).1 h)
      have ib : labs L i = labs L b → Conn ((a, b) :: L) i a := fun h => (hmono ((labs_conn L i b).1 h)).trans hab.symm
      have ja : labs L j = labs L a → Conn ((a, b) :: L) j a := fun h => hmono ((labs_conn L j a).1 h)
      have jb : labs L j = labs L b → Conn ((a, b) :: L) j a := fun h => (hmono ((labs_conn L j b).1 h)).trans hab.symm
      by_cases hij : labs L i = labs L j
      · exact hmono ((labs_conn L i j).1 hij)
      unfold labs relab at h
      have hi : Conn ((a, b) :: L) i a := by
        rcases (by split at h <;> split at h <;> omega : labs L i = labs L a ∨ labs L i = labs L b) with h | h
        · exact ia h
        · exact ib h
      have hj : Conn ((a, b) :: L) j a := by
        rcases (by split at h <;> split at h <;> omega : labs L j = labs L a ∨ labs L j = labs L b) with h | h
        · exact ja h
        · exact jb h
      exact hi.trans hj.symm
    · intro h
      have key : ∀ x y, (x, y) ∈ (a, b) :: L → labs ((a, b) :: L) x = labs ((a, b) :: L) y := by
        intro x y hxy
        rcases List.mem_cons.1 hxy with h | h
        · obtain ⟨rfl, rfl⟩ := Prod.mk.inj h
          unfold labs relab
          split <;> split <;> omega
        · have := (labs_conn L x y).2 (.one (.inl h))
          unfold labs relab
          rw [this]
      induction h with
      | refl => rfl
      | step _ hl ih =>
        rw [ih]
        rcases hl with hl | hl
        · exact key _ _ hl
        · exact (key _ _ hl).symm
/-- How many are their own. -/
def own (N : Nat) (l : Nat → Nat) : Nat := ((List.range N).filter fun i => l i == i).length
def joins : List (Nat × Nat) → Nat
  | [] => 0
  | (a, b) :: L => joins L + if labs L a = labs L b then 0 else 1
theorem filter_less {p q : Nat → Bool} {x : Nat} : ∀ {l : List Nat}, l.Nodup → x ∈ l → p x = true → q x = false → (∀ y ∈ l, y ≠ x → q y = p y) → (l.filter q).length + 1 = (l.filter p).length
  | [], _, h, _, _, _ => by cases h
  | y :: l, hn, hx, hp, hq, h => by
    have hn' := List.nodup_cons.1 hn
    rcases List.mem_cons.1 hx with rfl | hx
    · have : l.filter q = l.filter p := List.filter_congr fun y hy => h y (by simp [hy]) (by rintro rfl; exact hn'.1 hy)
      simp [hp, hq, this]
    · have ih := filter_less hn'.2 hx hp hq fun z hz => h z (by simp [hz])
      have hy := h y (by simp) (by rintro rfl; exact hn'.1 hx)
      rw [List.filter_cons, List.filter_cons, hy]
      split
      · simp only [List.length_cons]; omega
      · exact ih
theorem own_joins (N : Nat) : ∀ (L : List (Nat × Nat)), (∀ x ∈ L, x.1 < N ∧ x.2 < N) → own N (labs L) + joins L = N
  | [], _ => by
    have : (List.range N).filter (fun i => labs [] i == i) = List.range N := List.filter_eq_self.2 fun i _ => by simp [labs]
    unfold own joins
    rw [this, List.length_range, Nat.add_zero]
  | (a, b) :: L, h => by
    have ih := own_joins N L fun x hx => h x (by simp [hx])
    have hab := h (a, b) (by simp)
    simp only at hab
    unfold joins
    by_cases e : labs L a = labs L b
    · rw [if_pos e, Nat.add_zero]
      refine Eq.trans (congrArg (· + joins L) ?_) ih
      unfold own
      refine congrArg List.length (List.filter_congr fun i hi => ?_)
      have : labs ((a, b) :: L) i = labs L i := by
        show relab (labs L) a b i = _
        unfold relab
        split <;> omega
      rw [this]
    · rw [if_neg e]
      have hla := labs_le L a
      have hlb := labs_le L b
      have hlla := labs_labs L a
      have hllb := labs_labs L b
      have hmax : labs L (max (labs L a) (labs L b)) = max (labs L a) (labs L b) := by
        rcases Nat.le_total (labs L a) (labs L b) with h | h
        · rw [Nat.max_eq_right h, hllb]
        · rw [Nat.max_eq_left h, hlla]
      have := filter_less (p := fun i => labs L i == i) (q := fun i => labs ((a, b) :: L) i == i) (x := max (labs L a) (labs L b)) (l := List.range N) List.nodup_range (by simp; omega) (by simpa using hmax) (by
        have : labs ((a, b) :: L) (max (labs L a) (labs L b)) = min (labs L a) (labs L b) := by
          show relab (labs L) a b _ = _
          unfold relab
          rw [hmax, if_pos rfl]
        rw [this]; simp; omega) (fun y _ hy => by
        show (relab (labs L) a b y == y) = (labs L y == y)
        unfold relab
        split
        · rename_i hm
          have h1 : (labs L y == y) = false := by
            rw [hm]; simpa using fun q : max (labs L a) (labs L b) = y => hy q.symm
          have := labs_le L y
          rw [h1]
          simp
          omega
        · rfl)
      unfold own at ih ⊢
      omega
/-! ### A graph and its dual -/
section
variable {E : Type}
structure Gr (E : Type) where
  es : List E
  pa : E → Nat
  pb : E → Nat
  ra : E → Nat
  rb : E → Nat
  N : Nat
  R : Nat
variable (G : Gr E)
def Gr.bd (z : E → Bool) (v : Nat) : Bool := xs G.es fun e => z e && (decide (G.pa e = v) ^^ decide (G.pb e = v))
def Gr.prim (e : E) : Nat × Nat := (G.pa e, G.pb e)
def Gr.dual (e : E) : Nat × Nat := (G.ra e, G.rb e)
structure Gr.Plane : Prop where
  nodup : G.es.Nodup
  pN : ∀ e ∈ G.es, G.pa e < G.N ∧ G.pb e < G.N
  rR : ∀ e ∈ G.es, G.ra e < G.R ∧ G.rb e < G.R
  pot : ∀ z : E → Bool, (∀ v, G.bd z v = false) → ∃ f : Nat → Bool, ∀ e ∈ G.es, (f (G.ra e) ^^ f (G.rb e)) = z e
  even : ∀ f : Nat → Bool, ∀ v, G.bd (fun e => f (G.ra e) ^^ f (G.rb e)) v = false
variable {G}
theorem Gr.bd_xor (z y : E → Bool) (v : Nat) : G.bd (fun e => z e ^^ y e) v = (G.bd z v ^^ G.bd y v) := by
  unfold Gr.bd
  rw [← xs_xor]
  refine xs_congr fun e _ => ?_
  show ((z e ^^ y e) && _) = _
  generalize (decide (G.pa e = v) ^^ decide (G.pb e = v)) = c
  cases z e <;> cases y e <;> cases c <;> rfl
variable [DecidableEq E]
theorem Gr.bd_one (hn : G.es.Nodup) {e : E} (he : e ∈ G.es) (v : Nat) : G.bd (fun f => decide (f = e)) v = (decide (G.pa e = v) ^^ decide (G.pb e = v)) := xs_one hn he _
theorem Gr.cyc (hn : G.es.Nodup) {post : List E} (hs : ∀ e ∈ post, e ∈ G.es) {a b : Nat} (h : Conn (post.map G.prim) a b) : ∃ z : E → Bool, (∀ e, z e = true → e ∈ post) ∧ ∀ v, G.bd z v = (decide (a = v) ^^ decide (b = v)) := by
  induction h with
  | refl => exact ⟨fun _ => false, fun _ h => by simp at h, fun v => by simp [Gr.bd, xs_false]⟩
  | step _ hl ih =>
    rename_i b c _
    obtain ⟨z, h1, h2⟩ := ih
    have : ∃ e ∈ post, (G.prim e = (b, c) ∨ G.prim e = (c, b)) := by
      rcases hl with hl | hl
      · obtain ⟨e, he, h⟩ := List.mem_map.1 hl; exact ⟨e, he, .inl h⟩
      · obtain ⟨e, he, h⟩ := List.mem_map.1 hl; exact ⟨e, he, .inr h⟩
    obtain ⟨e, he, hp⟩ := this
    refine ⟨fun f => z f ^^ decide (f = e), fun f hf => ?_, fun v => ?_⟩
    · by_cases q : f = e
      · rw [q]; exact he
      · simp only [q, decide_false, Bool.xor_false] at hf
        exact h1 f hf
    · rw [Gr.bd_xor, h2, Gr.bd_one hn (hs e he)]
      have : (decide (G.pa e = v) ^^ decide (G.pb e = v)) = (decide (b = v) ^^ decide (c = v)) := by
        rcases hp with hp | hp
        · obtain ⟨rfl, rfl⟩ := Prod.mk.inj hp; rfl
        · obtain ⟨rfl, rfl⟩ := Prod.mk.inj hp; exact Bool.xor_comm _ _
      rw [this]
      cases decide (a = v) <;> cases decide (b = v) <;> cases decide (c = v) <;> rfl
theorem Gr.cut (P : G.Plane) {post : List E} {z : E → Bool} (hz : ∀ v, G.bd z v = false) {e0 : E} (he : e0 ∈ G.es) (h0 : z e0 = true) (hs : ∀ e ∈ G.es, z e = true → e = e0 ∨ e ∈ post) : Conn (post.map G.prim) (G.pa e0) (G.pb e0) := by
  refine (labs_conn _ _ _).1 (Decidable.byContradiction fun hne => ?_)
  have key : xs (List.range G.N) (fun v => decide (labs (post.map G.prim) v = labs (post.map G.prim) (G.pa e0)) && G.bd z v) = false := by
    rw [xs_congr (g := fun _ => false) fun v _ => by rw [hz v, Bool.and_false], xs_false]
  generalize hS : (fun v => decide (labs (post.map G.prim) v = labs (post.map G.prim) (G.pa e0))) = S at key
  have hSa : S (G.pa e0) = true := by rw [← hS]; simp
  have hSb : S (G.pb e0) = false := by rw [← hS]; simpa using fun q : labs (post.map G.prim) (G.pb e0) = labs (post.map G.prim) (G.pa e0) => hne q.symm
  have e1 : xs (List.range G.N) (fun v => S v && G.bd z v) = xs G.es (fun e => z e && (S (G.pa e) ^^ S (G.pb e))) := by
    unfold Gr.bd
    rw [xs_congr fun v _ => (xs_and (S v) G.es _).symm, xs_swap]
    refine xs_congr fun e he => ?_
    have hp := P.pN e he
    have one : ∀ p, p < G.N → xs (List.range G.N) (fun v => S v && (z e && decide (p = v))) = (z e && S p) := fun p hp => by
      rw [xs_congr (g := fun v => decide (v = p) && (z e && S v)) fun v _ => ?_]
      · exact xs_one List.nodup_range (by simpa using hp) _
      · by_cases q : p = v
        · subst q; simp [Bool.and_comm]
        · have : ¬ v = p := fun h => q h.symm
          simp [q, this]
    rw [xs_congr (g := fun v => (S v && (z e && decide (G.pa e = v))) ^^ (S v && (z e && decide (G.pb e = v)))) fun v _ => by cases S v <;> cases z e <;> simp]
    rw [xs_xor, one _ hp.1, one _ hp.2]
    cases z e <;> simp
  rw [show (fun v => decide (labs (post.map G.prim) v = labs (post.map G.prim) (G.pa e0)) && G.bd z v) = fun v => S v && G.bd z v by rw [← hS]] at key
  rw [e1] at key
  rw [xs_congr (g := fun e => decide (e = e0) && (z e && (S (G.pa e) ^^ S (G.pb e)))) fun e he => ?_, xs_one P.nodup he] at key
  · rw [h0, hSa, hSb] at key; simp at key
  · by_cases q : e = e0
    · simp [q]
    · cases hze : z e with
      | false => simp
      | true =>
        have hm := (hs e he hze).resolve_left q
        have : labs (post.map G.prim) (G.pa e) = labs (post.map G.prim) (G.pb e) := (labs_conn _ _ _).2 (.one (.inl (List.mem_map.2 ⟨e, hm, rfl⟩)))
        have : S (G.pa e) = S (G.pb e) := by rw [← hS]; simp only [this]
        simp [this, q]
theorem Gr.xor_ (P : G.Plane) {pre post : List E} {e0 : E} (h : G.es = pre ++ e0 :: post) : Conn (post.map G.prim) (G.pa e0) (G.pb e0) ↔ ¬ Conn (pre.reverse.map G.dual) (G.ra e0) (G.rb e0) := by
  have hn := P.nodup
  have he0 : e0 ∈ G.es := by rw [h]; simp
  rw [h, List.nodup_append] at hn
  obtain ⟨hn1, hn2, hn3⟩ := hn
  have hn2 := List.nodup_cons.1 hn2
  constructor
  · intro hc hd
    obtain ⟨z, h1, h2⟩ := Gr.cyc P.nodup (fun e he => by rw [h]; simp [he]) hc
    obtain ⟨f, hf⟩ := P.pot (fun e => z e ^^ decide (e = e0)) fun v => by
      rw [Gr.bd_xor, h2, Gr.bd_one P.nodup he0]
      cases decide (G.pa e0 = v) <;> cases decide (G.pb e0 = v) <;> rfl
    have key : ∀ j, Conn (pre.reverse.map G.dual) (G.ra e0) j → f (G.ra e0) = f j := by
      intro j hj
      induction hj with
      | refl => rfl
      | step _ hl ih =>
        rename_i b c _
        rw [ih]
        have one : ∀ b c, (b, c) ∈ pre.reverse.map G.dual → f b = f c := by
          intro b c hbc
          obtain ⟨e, he, hd⟩ := List.mem_map.1 hbc
          obtain ⟨rfl, rfl⟩ := Prod.mk.inj hd
          have hep : e ∈ pre := by simpa using he
          have h3 := hf e (by rw [h]; simp [hep])
          have h4 : z e = false := by
            cases q : z e with
            | false => rfl
            | true => exact absurd rfl (hn3 e hep e (by simp [h1 e q]))
          have h5 : ¬ e = e0 := hn3 e hep e0 (by simp)
          rw [h4] at h3
          simpa [h5] using h3
        rcases hl with hl | hl
        · exact one _ _ hl
        · exact (one _ _ hl).symm
    have h3 := hf e0 he0
    rw [key _ hd] at h3
    have h4 : z e0 = false := by
      cases q : z e0 with
      | false => rfl
      | true => exact absurd (h1 e0 q) hn2.1
    rw [h4] at h3
    simp at h3
  · intro hd
    refine Gr.cut P (z := fun e => decide (labs (pre.reverse.map G.dual) (G.ra e) = labs (pre.reverse.map G.dual) (G.ra e0)) ^^ decide (labs (pre.reverse.map G.dual) (G.rb e) = labs (pre.reverse.map G.dual) (G.ra e0))) (P.even fun i => decide (labs (pre.reverse.map G.dual) i = labs (pre.reverse.map G.dual) (G.ra e0))) he0 ?_ ?_
    · have : ¬ labs (pre.reverse.map G.dual) (G.rb e0) = labs (pre.reverse.map G.dual) (G.ra e0) := fun q => hd ((labs_conn _ _ _).1 q.symm)
      simp only [this, decide_false, decide_true, Bool.xor_false]
    · intro e he hz
      rw [h] at he
      rcases List.mem_append.1 he with he | he
      · have : labs (pre.reverse.map G.dual) (G.ra e) = labs (pre.reverse.map G.dual) (G.rb e) := (labs_conn _ _ _).2 (.one (.inl (List.mem_map.2 ⟨e, by simpa using he, rfl⟩)))
        simp only [this, Bool.xor_self] at hz
        cases hz
      · exact List.mem_cons.1 he
theorem Gr.joins_ (P : G.Plane) : ∀ (post pre : List E), G.es = pre ++ post → joins (post.map G.prim) + joins (G.es.reverse.map G.dual) = post.length + joins (pre.reverse.map G.dual)
  | [], pre, h => by rw [h]; simp [joins]
  | e :: post, pre, h => by
    have ih := Gr.joins_ P post (pre ++ [e]) (by simp [h])
    have hx := Gr.xor_ P h
    have h1 : joins ((e :: post).map G.prim) = joins (post.map G.prim) + if labs (post.map G.prim) (G.pa e) = labs (post.map G.prim) (G.pb e) then 0 else 1 := rfl
    have h2 : joins ((pre ++ [e]).reverse.map G.dual) = joins (pre.reverse.map G.dual) + if labs (pre.reverse.map G.dual) (G.ra e) = labs (pre.reverse.map G.dual) (G.rb e) then 0 else 1 := by
      rw [List.reverse_append]; rfl
    rw [← labs_conn, ← labs_conn] at hx
    rw [h2] at ih
    rw [h1, List.length_cons]
    by_cases q : labs (post.map G.prim) (G.pa e) = labs (post.map G.prim) (G.pb e)
    · rw [if_neg (hx.1 q)] at ih; rw [if_pos q]; omega
    · have q2 : labs (pre.reverse.map G.dual) (G.ra e) = labs (pre.reverse.map G.dual) (G.rb e) := Decidable.byContradiction fun q2 => q (hx.2 q2)
      rw [if_pos q2] at ih; rw [if_neg q]; omega
/-- Vertices and rings, edges and pieces, told from both sides. -/
theorem Gr.euler (P : G.Plane) : G.es.length + own G.N (labs (G.es.map G.prim)) + own G.R (labs (G.es.reverse.map G.dual)) = G.N + G.R := by
  have h1 := own_joins G.N (G.es.map G.prim) (fun x hx => by
    obtain ⟨e, he, rfl⟩ := List.mem_map.1 hx
    exact P.pN e he)
  have h2 := own_joins G.R (G.es.reverse.map G.dual) (fun x hx => by
    obtain ⟨e, he, rfl⟩ := List.mem_map.1 hx
    exact P.rR e (by simpa using he))
  have h3 := Gr.joins_ P G.es [] rfl
  simp only [List.reverse_nil, List.map_nil, joins, Nat.add_zero] at h3
  omega
end
/-! ### The least that each hangs together with, found in rounds -/
def relax (l : Nat → Nat) (p : Nat × Nat) (i : Nat) : Nat := if i = p.1 ∨ i = p.2 then min (l p.1) (l p.2) else l i
def roundF (L : List (Nat × Nat)) (l : Nat → Nat) : Nat → Nat := L.foldl relax l
def roundsF (L : List (Nat × Nat)) : Nat → Nat → Nat
  | 0 => id
  | n + 1 => roundF L (roundsF L n)
variable {L M : List (Nat × Nat)}
theorem relax_le (l : Nat → Nat) (p : Nat × Nat) (i : Nat) : relax l p i ≤ l i := by
  unfold relax
  split
  · rename_i h
    rcases h with rfl | rfl <;> omega
  · exact Nat.le_refl _
theorem round_le : ∀ (L : List (Nat × Nat)) (l : Nat → Nat) (i : Nat), roundF L l i ≤ l i
  | [], l, i => Nat.le_refl _
  | p :: L, l, i => Nat.le_trans (round_le L (relax l p) i) (relax_le l p i)
theorem relax_conn {l : Nat → Nat} {p : Nat × Nat} (hp : p ∈ M) (h : ∀ i, Conn M i (l i)) (i : Nat) : Conn M i (relax l p i) := by
  have h12 : Conn M p.1 p.2 := .one (.inl hp)
  have both : ∀ i, Conn M i p.1 → Conn M i (min (l p.1) (l p.2)) := by
    intro i hi
    rcases Nat.le_total (l p.1) (l p.2) with q | q
    · rw [Nat.min_eq_left q]; exact hi.trans (h _)
    · rw [Nat.min_eq_right q]; exact (hi.trans h12).trans (h _)
  unfold relax
  split
  · rename_i hi
    rcases hi with rfl | rfl
    · exact both _ .refl
    · exact both _ h12.symm
  · exact h i
theorem round_conn : ∀ (L : List (Nat × Nat)) (l : Nat → Nat), (∀ p ∈ L, p ∈ M) → (∀ i, Conn M i (l i)) → ∀ i, Conn M i (roundF L l i)
  | [], l, _, h => h
  | p :: L, l, hs, h => round_conn L (relax l p) (fun q hq => hs q (by simp [hq])) (relax_conn (hs p (by simp)) h)
theorem rounds_conn (L : List (Nat × Nat)) : ∀ (n i : Nat), Conn L i (roundsF L n i)
  | 0, i => .refl
  | n + 1, i => round_conn L _ (fun _ h => h) (rounds_conn L n) i
/-- A least label goes over an edge. -/
theorem round_goes {m : Nat} : ∀ (L : List (Nat × Nat)) (l : Nat → Nat), (∀ i, Conn M m i → m ≤ l i) → (∀ p ∈ L, p ∈ M) → (∀ i, Conn M i (l i)) → ∀ p ∈ L, Conn M m p.1 → (l p.1 = m ∨ l p.2 = m) → roundF L l p.1 = m ∧ roundF L l p.2 = m
  | [], _, _, _, _, p, hp, _, _ => by cases hp
  | q :: L, l, hl, hs, hc, p, hp, hcm, hm => by
    have hq := hs q (by simp)
    have hle : ∀ i, Conn M m i → m ≤ relax l q i := by
      intro i hi
      unfold relax
      split
      · rename_i h
        have h1 : Conn M m q.1 := by
          rcases h with rfl | rfl
          · exact hi
          · exact hi.trans (Conn.one (.inr hq))
        have := hl _ h1
        have := hl _ (h1.trans (.one (.inl hq)))
        omega
      · exact hl i hi
    have hc' := relax_conn hq hc
    have hp2 : ∀ p ∈ q :: L, Conn M m p.1 → Conn M m p.2 := fun p hp h => h.trans (.one (.inl (hs p hp)))
    rcases List.mem_cons.1 hp with rfl | hp'
    · have low : ∀ i, Conn M m i → relax l p i = m → roundF L (relax l p) i = m := by
        intro i hi he
        have h1 := round_le L (relax l p) i
        have h2 : ∀ (L : List (Nat × Nat)) (l : Nat → Nat), (∀ i, Conn M m i → m ≤ l i) → (∀ p ∈ L, p ∈ M) → ∀ i, Conn M m i → m ≤ roundF L l i := by
          intro L
          induction L with
          | nil => intro l h _; exact h
          | cons q L ih =>
            intro l h hs
            refine ih (relax l q) (fun i hi => ?_) fun p hp => hs p (by simp [hp])
            unfold relax
            split
            · rename_i h'
              have hq := hs q (by simp)
              have h1 : Conn M m q.1 := by
                rcases h' with rfl | rfl
                · exact hi
                · exact hi.trans (Conn.one (.inr hq))
              have := h _ h1
              have := h _ (h1.trans (.one (.inl hq)))
              omega
            · exact h i hi
        have := h2 L (relax l p) hle (fun p hp => hs p (by simp [hp])) i hi
        omega
      have h1 := hl _ hcm
      have h2 := hl _ (hp2 p hp hcm)
      have hmin : min (l p.1) (l p.2) = m := by omega
      refine ⟨low _ hcm ?_, low _ (hp2 p hp hcm) ?_⟩
      · unfold relax; rw [if_pos (.inl rfl), hmin]
      · unfold relax; rw [if_pos (.inr rfl), hmin]
    · refine round_goes L (relax l q) hle (fun p hp => hs p (by simp [hp])) hc' p hp' hcm ?_
      rcases hm with hm | hm
      · left
        have h1 := relax_le l q p.1
        have := hle _ hcm
        omega
      · right
        have h1 := relax_le l q p.2
        have := hle _ (hp2 p hp hcm)
        omega
theorem filter_grows {p q : Nat → Bool} {x : Nat} : ∀ {l : List Nat}, x ∈ l → p x = false → q x = true → (∀ y ∈ l, p y = true → q y = true) → (l.filter p).length + 1 ≤ (l.filter q).length
  | [], h, _, _, _ => by cases h
  | y :: l, hx, hp, hq, h => by
    have mono : ∀ (l : List Nat), (∀ y ∈ l, p y = true → q y = true) → (l.filter p).length ≤ (l.filter q).length := by
      intro l
      induction l with
      | nil => intro _; exact Nat.le_refl _
      | cons a l ih =>
        intro h
        have := ih fun y hy => h y (by simp [hy])
        have ha := h a (by simp)
        rw [List.filter_cons, List.filter_cons]
        cases hpa : p a with
        | true => rw [ha hpa]; simp; omega
        | false => cases q a <;> simp <;> omega
    rw [List.filter_cons, List.filter_cons]
    rcases List.mem_cons.1 hx with rfl | hx
    · rw [hp, hq]
      have := mono l fun y hy => h y (by simp [hy])
      simp; omega
    · have ih := filter_grows hx hp hq fun y hy => h y (by simp [hy])
      have hy := h y (by simp)
      cases hpy : p y with
      | true => rw [hy hpy]; simp; omega
      | false => cases q y <;> simp <;> omega
theorem rounds_least {N : Nat} (hN : ∀ p ∈ L, p.1 < N ∧ p.2 < N) {m : Nat} (hm : m < N) (hleast : ∀ i, Conn L m i → m ≤ i) : ∀ i, Conn L m i → roundsF L N i = m := by
  have low : ∀ n i, Conn L m i → m ≤ roundsF L n i := fun n i hi => hleast _ (hi.trans (rounds_conn L n i))
  have lt : ∀ i, Conn L m i → i < N := by
    intro i hi
    cases hi with
    | refl => exact hm
    | step _ hl =>
      rcases hl with hl | hl
      · exact (hN _ hl).2
      · exact (hN _ hl).1
  have key : ∀ n, (∀ i, Conn L m i → roundsF L n i = m) ∨ n + 1 ≤ ((List.range N).filter fun i => roundsF L n i == m).length := by
    intro n
    induction n with
    | zero =>
      right
      have : m ∈ (List.range N).filter fun i => roundsF L 0 i == m := by simp [roundsF, hm]
      exact List.length_pos_of_mem this
    | succ n ih =>
      rcases ih with ih | ih
      · left
        intro i hi
        have h1 := round_le L (roundsF L n) i
        have h2 := low (n + 1) i hi
        have h3 := ih i hi
        show roundF L (roundsF L n) i = m
        have h2 : m ≤ roundF L (roundsF L n) i := h2
        omega
      · by_cases hall : ∀ i, Conn L m i → roundsF L n i = m
        · left
          intro i hi
          have h1 := round_le L (roundsF L n) i
          have h2 : m ≤ roundF L (roundsF L n) i := low (n + 1) i hi
          have h3 := hall i hi
          show roundF L (roundsF L n) i = m
          omega
        · right
          -- an edge from where the label is to where it isn't
          have hex : ∃ b c, Conn L m b ∧ roundsF L n b = m ∧ roundsF L n c ≠ m ∧ ((b, c) ∈ L ∨ (c, b) ∈ L) := by
            refine Classical.byContradiction fun hno => hall fun i hi => ?_
            induction hi with
            | refl =>
              have h1 := low n m .refl
              have h2 : ∀ n, roundsF L n m ≤ m := by
                intro n
                induction n with
                | zero => exact Nat.le_refl _
                | succ n ih => exact Nat.le_trans (round_le L _ m) ih
              have := h2 n
              omega
            | step hb hl ih =>
              rename_i b c
              refine Decidable.byContradiction fun hc => hno ⟨b, c, hb, ih, hc, hl⟩
          obtain ⟨b, c, hb, h1, h2, hl⟩ := hex
          have hcc : Conn L m c := hb.step hl
          have hto : roundF L (roundsF L n) c = m := by
            rcases hl with hl | hl
            · exact (round_goes L (roundsF L n) (low n) (fun _ h => h) (rounds_conn L n) (b, c) hl hb (.inl h1)).2
            · exact (round_goes L (roundsF L n) (low n) (fun _ h => h) (rounds_conn L n) (c, b) hl hcc (.inr h1)).1
          have := filter_grows (p := fun i => roundsF L n i == m) (q := fun i => roundsF L (n + 1) i == m) (x := c) (l := List.range N) (by simpa using lt c hcc) (by simpa using h2) (by
            show (roundF L (roundsF L n) c == m) = true
            simpa using hto) (fun y hy hpy => by
            have hpy : roundsF L n y = m := by simpa using hpy
            have hcy : Conn L m y := by
              have := rounds_conn L n y
              rw [hpy] at this
              exact this.symm
            have h3 := round_le L (roundsF L n) y
            have h4 : m ≤ roundF L (roundsF L n) y := low (n + 1) y hcy
            simp only [beq_iff_eq]
            show roundF L (roundsF L n) y = m
            omega)
          omega
  rcases key N with h | h
  · exact h
  · have := List.length_filter_le (fun i => roundsF L N i == m) (List.range N)
    rw [List.length_range] at this
    omega
theorem rounds_labs {N : Nat} (hN : ∀ p ∈ L, p.1 < N ∧ p.2 < N) {i : Nat} (hi : i < N) : roundsF L N i = labs L i := by
  have h1 : Conn L (labs L i) i := (labs_conn L _ _).1 (labs_labs L i)
  refine rounds_least hN (Nat.lt_of_le_of_lt (labs_le L i) hi) (fun j hj => ?_) i h1
  have := (labs_conn L _ _).2 hj
  rw [labs_labs] at this
  rw [this]; exact labs_le L j
end Go.Proofs.Ytlhmjhildlnokaa
