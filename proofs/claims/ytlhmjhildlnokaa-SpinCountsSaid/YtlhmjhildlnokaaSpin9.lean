/-
  The walk of spin.Rings.
-/
import Derived.Test.YtlhmjhildlnokaaSpin8
import Derived.Test.YtlhmjhildlnokaaSpinR
namespace Go.Proofs.Ytlhmjhildlnokaa
set_option linter.unusedVariables false
set_option linter.unusedSimpArgs false
open Go.RowKit

structure RgE where
  s : Value
  l : List Hf
abbrev rB (o : RgE) : Res := .grow 36 2 o.s o.l.length (hR o.l)
def metF (L : List Hf) (h : Hf) : Option Bool := if h ∈ L then some true else none
theorem metF_nil : metF [] = fun _ => none := by funext h; simp [metF]
theorem metF_add (L : List Hf) (h : Hf) : metF (L ++ [h]) = upd (metF L) h true := by
  funext x; unfold metF upd
  by_cases hx : x = h
  · simp [hx]
  · simp [hx]
theorem metF_get (L : List Hf) (h : Hf) : (metF L h).getD false = decide (h ∈ L) := by unfold metF; split <;> simp [*]
/-- What is known while a ring is gone along. -/
structure HInv (nx : Hf → Hf) (S D fl : List Hf) (h0 : Hf) (r : List Hf) (h : Hf) : Prop where
  way : Way nx S h0 r h
  met : h0 ∈ fl → r = [] ∧ h = h0
  goes : h0 ∉ fl → h ∈ fl → False
  ring : ringF nx (S.length - r.length) r h = ringF nx S.length [] h0
theorem hinv_start {nx : Hf → Hf} {S D fl : List Hf} {h0 : Hf} (h : h0 ∈ S) : HInv nx S D fl h0 [] h0 := ⟨way_start h, fun _ => ⟨rfl, rfl⟩, fun h1 h2 => h1 h2, rfl⟩
theorem hinv_step {nx : Hf → Hf} {S D : List Hf} {rs : List (List Hf)} {h0 h : Hf} {r : List Hf} (O : OneOne nx S) (R : RingsP nx S D rs) (I : HInv nx S D rs.flatten h0 r h) (hn : h ∉ rs.flatten ++ r) : HInv nx S D rs.flatten h0 (r ++ [h]) (nx h) ∧ r.length < S.length := by
  have hnf : h ∉ rs.flatten := fun q => hn (List.mem_append_left _ q)
  have hnr : h ∉ r := fun q => hn (List.mem_append_right _ q)
  have h0f : h0 ∉ rs.flatten := fun q => by
    obtain ⟨rfl, rfl⟩ := I.met q
    exact hnf q
  have W := way_step O I.way hnr
  have hlt : r.length < S.length := by
    have := nodup_len W.nodup W.sub
    rw [List.length_append] at this
    simp at this; omega
  refine ⟨⟨W, fun q => absurd q h0f, fun _ q => (way_apart O R W h0f).2 q, ?_⟩, hlt⟩
  rw [← I.ring, List.length_append]
  obtain ⟨m, hm⟩ : ∃ m, S.length - r.length = m + 1 := ⟨S.length - r.length - 1, by omega⟩
  rw [hm, show S.length - (r.length + [h].length) = m by simp; omega]
  conv => rhs; unfold ringF
  rw [if_neg hnr]
theorem hinv_end {nx : Hf → Hf} {S D : List Hf} {rs : List (List Hf)} {h0 h : Hf} {r : List Hf} (I : HInv nx S D rs.flatten h0 r h) (hm : h ∈ rs.flatten ++ r) : (h0 ∈ rs.flatten ∧ r = []) ∨ (h0 ∉ rs.flatten ∧ r = ringF nx S.length [] h0 ∧ 0 < r.length) := by
  by_cases h0f : h0 ∈ rs.flatten
  · exact .inl ⟨h0f, (I.met h0f).1⟩
  · refine .inr ⟨h0f, ?_⟩
    have hr : h ∈ r := (List.mem_append.1 hm).resolve_left (I.goes h0f)
    refine ⟨?_, List.length_pos_of_mem hr⟩
    rw [← I.ring]
    cases S.length - r.length with
    | zero => rfl
    | succ n => unfold ringF; rw [if_pos hr]
def RgRel (vs : List Vt) (es : List Eg) (B : Nat) (w0 : World) (km : Nat) (l : List Res) (D : List Hf) (vO : Value) (wr : World) : Prop :=
  ∃ os : List RgE, os.map (·.l) = ringsL (nextZ vs es) (halves es) D [] ∧ Own B w0 wr (.grow 34 1 vO os.length (os.map (·.s)) :: mWet km (metF (os.map (·.l)).flatten) :: (l ++ os.map rB))
def HRel (vs : List Vt) (es : List Eg) (B : Nat) (w0 : World) (km : Nat) (l : List Res) (D fl : List Hf) (h0 : Hf) (k : Nat) (v p : Value) (wr : World) : Prop :=
  ∃ r h bh, HInv (nextZ vs es) (halves es) D fl h0 r h ∧ k = (halves es).length - r.length ∧ p = .pointer (some ⟨bh, 0, none⟩) ∧ Own B w0 wr (.grow 36 2 v r.length (hR r) :: .cells bh [.int .i64 h.e, .bool h.b] :: mWet km (metF (fl ++ r)) :: l)
theorem few_halves {vs : List Vt} {es : List Eg} (H : RightP vs es) : (halves es).length ≤ 2048 := by rw [halves_len]; have := H.few.2; omega
theorem rings_few {nx : Hf → Hf} {S D : List Hf} {rs : List (List Hf)} (R : RingsP nx S D rs) : rs.length ≤ S.length := by
  have h1 : rs.flatten.length ≤ S.length := nodup_len R.nodup fun x hx => by
    obtain ⟨r, hr, hx⟩ := List.mem_flatten.1 hx
    obtain ⟨h, P⟩ := R.each r hr
    exact P.sub x hx
  have h2 : ∀ l : List (List Hf), (∀ r ∈ l, 0 < r.length) → l.length ≤ l.flatten.length := by
    intro l
    induction l with
    | nil => intro _; simp
    | cons a l ih =>
      intro h
      have h3 := h a (by simp)
      have h4 := ih fun r hr => h r (by simp [hr])
      rw [List.flatten_cons, List.length_append, List.length_cons]; omega
  exact Nat.le_trans (h2 rs fun r hr => by
    obtain ⟨h, P⟩ := R.each r hr
    exact (List.getElem?_eq_some_iff.1 P.head).1) h1
theorem hR_add1 (r : List Hf) (e : Int) (b : Bool) : hR (r ++ [⟨e, b⟩]) = hR r ++ [.int .i64 e, .bool b] := hR_add r ⟨e, b⟩
theorem infoSl : (Try.prog.info? 34).map (fun i => (i.zero, i.size, i.bytes)) = some (some (.slice none 0 0), 1, 24) := by kernel_rfl
theorem Own.putEnd {B : Nat} {w0 w : World} {a b x : Res} {L M : List Res} (H : Own B w0 w (a :: b :: x :: (L ++ M))) : Own B w0 w (a :: b :: (L ++ (M ++ [x]))) :=
  H.perm (.cons _ (.cons _ (by rw [← List.append_assoc]; exact List.perm_append_singleton x (L ++ M))))
/-- What the answer is: a list of lists. -/
def RetR (F : Nat → Prop) (w : World) (rs : List (List Hf)) (e : Ending) (w' : World) : Prop :=
  ∃ A c hs, e = .returned (.slice A rs.length c) ∧ Below w.heap.size w w' ∧ Sl F w' A hs ∧ hs.length = rs.length ∧ (∀ (i : Nat) (r : List Hf), rs[i]? = some r → ∃ Ai ci, hs[i]? = some (Value.slice Ai r.length ci) ∧ Sl F w' Ai (hR r)) ∧ rs.length ≤ c ∧ c ≤ maxLen
set_option maxRecDepth 100000 in
set_option maxHeartbeats 16000000 in
theorem srings_any (vs : List Vt) (es : List Eg) (A A2 : Option Addr) (n m c c2 : Nat) (F : Nat → Prop) (w : World) (hn : n = vs.length) (hm : m = es.length) (hs : Sl F w A (vR vs)) (hs2 : Sl F w A2 (eR es)) (hF : ∀ k, F k → k < w.heap.size) (hl : n ≤ 1000000) (hl2 : m ≤ 1000000) (hc2 : m ≤ c2) (hcc : c2 ≤ maxLen) :
    Calls Try.prog 14 #[.agg #[.slice A n c, .slice A2 m c2]] w (RetR F w (if rightB vs es then ringsZ vs es else [])) := by
  obtain ⟨b0, o0, H1, f0⟩ := (Own.start w).addSl (hs.ro (by rfl))
  obtain ⟨b9, o9, H, f9⟩ := H1.addSl (hs2.ro (by rfl))
  clear hs hs2 H1
  have h1 := fun F w h1 h2 => right_any vs es A A2 n m c c2 F w hn hm h1 h2 hl hl2 hc2 hcc
  have h2 := fun F w hR h1 h2 => sturnN_any vs es A A2 n m c c2 F w hn hm hR h1 h2
  have hRR : rightB vs es = true → RightP vs es := rightB_P
  have HM := Lib.hid hm
  have HN := Lib.hid hn
  clear hn hm
  generalize rightB vs es = r at h1 hRR
  cases r
  · go_enter Try.func14, Try.ntmps14
    have tk0 : True := trivial
    go_wp2_with (first
      | (go_at_call 25; (with_reducible refine (h1 _ _ (by exact H.giveRd m2 f0) (by exact H.giveRd m1 f9)).mono ?_); rintro e w3 ⟨rfl, hb⟩; replace H := H.ext hb; clear hb; dsimp only)
      | (guard_target =~ wpList _ _ _ (_ :: _) _ _; (first | (guard_target =~ wpList _ _ _ (Oper.mk _ (.load _ _) _ _ _ _ :: _) _ _; refine BigFrame.wpList_want rfl (fun K hK => ?_); (refine o_loadNC (row := ?_) rfl rfl H ?_ ?_ ?_ (hK _ _ ?_); rotate_left 1; (repeat first | exact .head _ | apply List.Mem.tail); (focus (intro _; simp; done)); (focus (intro _; simp; done))); clear hK K) | ((guard_target =~ wpList _ _ _ (Oper.mk _ (.box _ _) _ _ _ _ :: _) _ _; refine BigFrame.wpList_want rfl (fun K hK => ?_); refine o_box rfl H rfl (fun w3 b2 he H2 => hK _ _ ?_)); clear hK K he; clear H; (try clear w2); revert w3; intro w2 H; simp [Act.eval, Value.cells, setL, List.getD] at H; (clear tk0; rename Nat => b1))); simp only [Act.put, List.setIfInBounds_toArray, List.set_cons_succ, List.set_cons_zero]))
    go_ret
    exact ⟨none, 0, [], rfl, H.below, Sl.nil_ _ _ _, rfl, by simp, Nat.le_refl _, Nat.zero_le _⟩
  · have HR := Lib.hid (hRR rfl)
    have HF := Lib.hid hF
    clear hRR hF
    go_enter Try.func14, Try.ntmps14
    have tk0 : True := trivial
    have tk1 : True := trivial
    have tk2 : True := trivial
    go_wp2_with (first
      | (go_at_call 25; (with_reducible refine (h1 _ _ (by exact H.giveRd m2 f0) (by exact H.giveRd m1 f9)).mono ?_); rintro e w3 ⟨rfl, hb⟩; replace H := H.ext hb; clear hb; dsimp only)
      | (go_at_call 47; (with_reducible refine (h2 _ _ HR.out (by exact H.giveRd m2 f0) (by exact H.giveRd m1 f9)).mono ?_); rintro e w3 ⟨k1, k2, k3, k4, rfl, H2⟩; replace H := H.join H2 (by rfl); clear H2; simp only [List.cons_append, List.nil_append] at H; dsimp only)
      | (guard_target =~ wpList _ _ _ (_ :: _) _ _; (first | (guard_target =~ wpList _ _ _ (Oper.mk _ (.load _ _) _ _ _ _ :: _) _ _; refine BigFrame.wpList_want rfl (fun K hK => ?_); (first | (refine o_loadC (v := ?_) (row := ?_) rfl rfl H ?_ ?_ ?_ (hK _ _ ?_); rotate_left 2; (repeat first | exact .head _ | apply List.Mem.tail); (exact rfl); (focus (intro _; simp; done))) | (refine o_loadNC (row := ?_) rfl rfl H ?_ ?_ ?_ (hK _ _ ?_); rotate_left 1; (repeat first | exact .head _ | apply List.Mem.tail); (focus (intro _; simp; done)); (focus (intro _; simp; done)))); clear hK K) | (guard_target =~ wpList _ _ _ (Oper.mk _ (.store _ _ _) _ _ _ _ :: _) _ _; refine BigFrame.wpList_want rfl (fun K hK => ?_); refine o_store (l' := ?_) (row := ?_) rfl rfl H rfl ?_ ?_ ?_ ?_ (fun w3 H2 => hK _ _ ?_); rotate_left 2; (exact r0); (focus (intro _; simp [Act.eval, Value.cells]; done)); (focus (simp [Act.eval, Value.cells]; done)); (exact rfl); clear hK K; clear H; (try clear w2); revert w3; intro w2 H; simp [Act.eval, Value.cells, setL, List.getD] at H) | ((first | (guard_target =~ wpList _ _ _ (Oper.mk _ (.alloc _) _ _ _ _ :: _) _ _; refine BigFrame.wpList_want rfl (fun K hK => ?_); refine o_alloc (z := ?_) rfl ?_ H rfl (fun w3 b2 he H2 => hK _ _ ?_); rotate_left 1; (focus (intro _; simp; with_reducible exact rfl))) | (guard_target =~ wpList _ _ _ (Oper.mk _ (.box _ _) _ _ _ _ :: _) _ _; refine BigFrame.wpList_want rfl (fun K hK => ?_); refine o_box rfl H rfl (fun w3 b2 he H2 => hK _ _ ?_))); clear hK K he; clear H; (try clear w2); revert w3; intro w2 H; simp [Act.eval, Value.cells, setL, List.getD] at H; (first | (clear tk0; rename Nat => b1) | (clear tk1; rename Nat => b3))) | (guard_target =~ wpList _ _ _ (Oper.mk _ (.makeMap _ _) _ _ _ _ :: _) _ _; refine BigFrame.wpList_want rfl (fun K hK => ?_); refine o_wetMake rfl H (fun w3 b2 he H2 => hK _ _ ?_); clear hK K he; clear H; (try clear w2); revert w3; intro w2 H; (clear tk2; rename Nat => k5))); simp only [Act.put, List.setIfInBounds_toArray, List.set_cons_succ, List.set_cons_zero]))
    have hme := HM.out
    go_loopg [21, 5] m (fun k i u wr => k ≤ m ∧ i = .int .i64 ((m - k : Nat) : Int) ∧ RgRel vs es w.heap.size w k5 [.cells b3 [.map (some k1), .map (some k2), .map (some k3), .map (some k4)], mNxt k4 (nxM vs es), .cells b1 [.slice A n c, .slice A2 m c2], .rd A2 b9 o9 (eR es), .rd A b0 o0 (vR vs)] (halves (es.take (m - k))) u wr)
    case atStart => exact ⟨Nat.le_refl _, by simp, [], by rw [Nat.sub_self]; rfl, by simpa [metF_nil] using H.grow_nil 34 1⟩
    case round =>
      clear H
      obtain ⟨hk, rfl, os, hos, H⟩ := hrel
      simp only [List.cons_append, List.nil_append] at H
      have HOS := Lib.hid hos
      by_cases hlt : 0 < gk
      · obtain ⟨j, hj⟩ : ∃ j, m - gk = j := ⟨_, rfl⟩
        have hjl : j < m := by omega
        rw [hj] at HOS ⊢
        obtain ⟨i, x, y, he⟩ := eg_at es (by omega : j < es.length)
        obtain rfl := H.rdAddr m5 (eR_pos he)
        have hp := at_e (A := some ⟨b9, o9, none⟩) (b := b9) (off := o9) he
        have hst := halves_step he
        (try simp only at hst)
        have hmem : ∀ b, (⟨i, b⟩ : Hf) ∈ halves es := fun b => mem_halves.2 ⟨_, List.mem_of_getElem? he, rfl⟩
        have hsub : ∀ h ∈ halves (es.take j), h ∈ halves es := fun h hh => by
          obtain ⟨e, h1, h2⟩ := mem_halves.1 hh
          exact mem_halves.2 ⟨e, List.mem_of_mem_take h1, h2⟩
        generalize halves (es.take j) = D0 at HOS hst hsub
        have HSUB := Lib.hid hsub
        clear hsub
        have HA := Lib.hid hst
        have HJ := Lib.hid hj
        have HMm := Lib.hid hmem
        clear he hj hst hos hmem hme
        have ⟨gkA, hgA⟩ : ∃ g, g = gk := ⟨_, rfl⟩
        have tk0 : True := trivial
        have tk1 : True := trivial
        go_wp2_with (guard_target =~ wpList _ _ _ (_ :: _) _ _; (first | (guard_target =~ wpList _ _ _ (Oper.mk _ (.load _ _) _ _ _ _ :: _) _ _; refine BigFrame.wpList_want rfl (fun K hK => ?_); (refine o_loadN (cs := ?_) (r := ?_) rfl rfl H ?_ ?_ ?_ ?_ (hK _ _ ?_); rotate_left 2; (with_reducible assumption); (repeat first | exact .head _ | apply List.Mem.tail); (focus (intro _; simp; done)); (focus (intro _; simp; done))); clear hK K) | (guard_target =~ wpList _ _ _ (Oper.mk _ (.store _ _ _) _ _ _ _ :: _) _ _; refine BigFrame.wpList_want rfl (fun K hK => ?_); refine o_store (l' := ?_) (row := ?_) rfl rfl H rfl ?_ ?_ ?_ ?_ (fun w3 H2 => hK _ _ ?_); rotate_left 2; (exact r0); (focus (intro _; simp [Act.eval, Value.cells]; done)); (focus (simp [Act.eval, Value.cells]; done)); (exact rfl); clear hK K; clear H; (try clear w2); revert w3; intro w2 H; simp [Act.eval, Value.cells, setL, List.getD] at H) | ((first | (guard_target =~ wpList _ _ _ (Oper.mk _ (.alloc _) _ _ _ _ :: _) _ _; refine BigFrame.wpList_want rfl (fun K hK => ?_); refine o_alloc (z := ?_) rfl ?_ H rfl (fun w3 b2 he H2 => hK _ _ ?_); rotate_left 1; (focus (intro _; simp; with_reducible exact rfl))) | (guard_target =~ wpList _ _ _ (Oper.mk _ (.buildSlice _ _ _) _ _ _ _ :: _) _ _; refine BigFrame.wpList_want rfl (fun K hK => ?_); refine o_buildSlice (C := ?_) (E := ?_) rfl rfl H ?_ rfl (fun w3 b2 he H2 => hK _ _ ?_); rotate_left 2; (focus (intro _; simp [go_sem, Instr.buildSlice]; with_reducible exact rfl)))); clear hK K he; clear H; (try clear w2); revert w3; intro w2 H; simp [Act.eval, Value.cells, setL, List.getD] at H; (first | (clear tk0; rename Nat => b4) | (clear tk1; rename Nat => b5)))); simp only [Act.put, List.setIfInBounds_toArray, List.set_cons_succ, List.set_cons_zero])
        go_loopg [27, 5] 2 (fun k u vO wr => ∃ D, D = D0 ++ ([⟨i, false⟩, ⟨i, true⟩] : List Hf).take (2 - k) ∧ k ≤ 2 ∧ u = .int .i64 ((2 - k : Nat) : Int) ∧ RgRel vs es w.heap.size w k5 [.cells b5 [.bool false, .bool true], .cells b4 [.int .i64 i, .int .i64 x, .int .i64 y], .cells b3 [.map (some k1), .map (some k2), .map (some k3), .map (some k4)], mNxt k4 (nxM vs es), .cells b1 [.slice A n c, .slice (some ⟨b9, o9, none⟩) m c2], .rd (some ⟨b9, o9, none⟩) b9 o9 (eR es), .rd A b0 o0 (vR vs)] D vO wr)
        case atStart => exact ⟨D0, by simp, Nat.le_refl _, by simp, os, HOS.out, H.front3.front3⟩
        case round =>
          clear H HOS os
          obtain ⟨D, hDe, hk2, rfl, os, hos, H⟩ := hrel
          simp only [List.cons_append, List.nil_append] at H
          by_cases hlt2 : 0 < gk
          · obtain ⟨q, bb, hq, hq2, hq3⟩ : ∃ (q : Nat) (bb : Bool), 2 - gk = q ∧ ([.bool false, .bool true] : List Value)[q]? = some (.bool bb) ∧ ([⟨i, false⟩, ⟨i, true⟩] : List Hf)[q]? = some ⟨i, bb⟩ := by
              rcases (by omega : gk = 2 ∨ gk = 1) with rfl | rfl
              · exact ⟨0, false, rfl, rfl, rfl⟩
              · exact ⟨1, true, rfl, rfl, rfl⟩
            rw [hq] at hDe ⊢
            have hql : q < 2 := by omega
            have hp2 := at_cells (b := b5) hq2
            have hDE : ∀ h ∈ D, h ∈ halves es := fun h hh => by
              rw [hDe] at hh
              rcases List.mem_append.1 hh with hh | hh
              · exact HSUB.out h hh
              · have := List.mem_of_mem_take hh
                simp only [List.mem_cons, List.not_mem_nil, or_false] at this
                rcases this with rfl | rfl
                · exact HMm.out false
                · exact HMm.out true
            have HDE := Lib.hid hDE
            clear hDE
            have hDn : D0 ++ ([⟨i, false⟩, ⟨i, true⟩] : List Hf).take (q + 1) = D ++ [⟨i, bb⟩] := by rw [List.take_add_one, hq3, hDe]; simp
            have HDN := Lib.hid hDn
            have HOS := Lib.hid hos
            have HQ := Lib.hid hq
            clear hq2 hq3 hDn hos hDe hq
            have tk0 : True := trivial
            go_wp2_with (guard_target =~ wpList _ _ _ (_ :: _) _ _; (first | (guard_target =~ wpList _ _ _ (Oper.mk _ (.load _ _) _ _ _ _ :: _) _ _; refine BigFrame.wpList_want rfl (fun K hK => ?_); (first | (refine o_load (v := ?_) (r := ?_) rfl rfl H ?_ ?_ ?_ (hK _ _ ?_); rotate_left 2; (with_reducible assumption); (repeat first | exact .head _ | apply List.Mem.tail); (focus (intro _; simp; done))) | (refine o_loadC (v := ?_) (row := ?_) rfl rfl H ?_ ?_ ?_ (hK _ _ ?_); rotate_left 2; (repeat first | exact .head _ | apply List.Mem.tail); (exact rfl); (focus (intro _; simp; done)))); clear hK K) | (guard_target =~ wpList _ _ _ (Oper.mk _ (.store _ _ _) _ _ _ _ :: _) _ _; refine BigFrame.wpList_want rfl (fun K hK => ?_); refine o_store (l' := ?_) (row := ?_) rfl rfl H rfl ?_ ?_ ?_ ?_ (fun w3 H2 => hK _ _ ?_); rotate_left 2; (exact r0); (focus (intro _; simp [Act.eval, Value.cells]; done)); (focus (simp [Act.eval, Value.cells]; done)); (exact rfl); clear hK K; clear H; (try clear w2); revert w3; intro w2 H; simp [Act.eval, Value.cells, setL, List.getD] at H) | ((guard_target =~ wpList _ _ _ (Oper.mk _ (.alloc _) _ _ _ _ :: _) _ _; refine BigFrame.wpList_want rfl (fun K hK => ?_); refine o_alloc (z := ?_) rfl ?_ H rfl (fun w3 b2 he H2 => hK _ _ ?_); rotate_left 1; (focus (intro _; simp; with_reducible exact rfl))); clear hK K he; clear H; (try clear w2); revert w3; intro w2 H; simp [Act.eval, Value.cells, setL, List.getD] at H; (clear tk0; rename Nat => bh))); simp only [Act.put, List.setIfInBounds_toArray, List.set_cons_succ, List.set_cons_zero])
            have hsubD : ∀ h ∈ D, h ∈ halves es := HDE.out
            have hRs : RingsP (nextZ vs es) (halves es) D (os.map (·.l)) := by
              rw [HOS.out]; exact rings_of (next_one HR.out) D hsubD
            have HRS := Lib.hid hRs
            clear hsubD hRs
            have ⟨gkB, hgB⟩ : ∃ g, g = gk := ⟨_, rfl⟩
            generalize hfl : (os.map (·.l)).flatten = fl at H
            have HFL := Lib.hid hfl
            clear hfl
            go_loopg [10, 11] (halves es).length (HRel vs es w.heap.size w k5 (.grow 34 1 u5 os.length (os.map (·.s)) :: .cells b5 [.bool false, .bool true] :: .cells b4 [.int .i64 i, .int .i64 x, .int .i64 y] :: .cells b3 [.map (some k1), .map (some k2), .map (some k3), .map (some k4)] :: mNxt k4 (nxM vs es) :: .cells b1 [.slice A n c, .slice (some ⟨b9, o9, none⟩) m c2] :: .rd (some ⟨b9, o9, none⟩) b9 o9 (eR es) :: .rd A b0 o0 (vR vs) :: os.map rB) D fl ⟨i, bb⟩)
            case atStart =>
              refine ⟨[], ⟨i, bb⟩, bh, hinv_start (HMm.out bb), rfl, rfl, ?_⟩
              rw [List.append_nil]
              exact (H.swap1.grow_nil 36 2)
            case round =>
              clear H
              obtain ⟨r, ⟨e, b⟩, bh, hI, hk3, rfl, H⟩ := hrel
              have HI := Lib.hid hI
              have HK3 := Lib.hid hk3
              have hfew : r.length ≤ 2048 := Nat.le_trans (nodup_len hI.way.nodup hI.way.sub) (few_halves HR.out)
              have hget := metF_get (fl ++ r) ⟨e, b⟩
              have hadd := metF_add (fl ++ r) ⟨e, b⟩
              generalize hmm : metF (fl ++ r) = mm at H hget hadd
              have HMMm := Lib.hid hmm
              clear hmm
              have HAD := Lib.hid hadd
              have hnx : (nxM vs es ⟨e, b⟩).getD ⟨0, false⟩ = nextZ vs es ⟨e, b⟩ := by rw [nxM_yes hI.way.now]; rfl
              generalize hne : nextZ vs es ⟨e, b⟩ = h' at hnx
              obtain ⟨e', b'⟩ := h'
              have HNE := Lib.hid hne
              generalize hrl : r.length = rl at H hfew
              have HRL := Lib.hid hrl
              generalize hrr : hR r = Rr at H
              have HRR := Lib.hid hrr
              clear hI hk3 hadd hne hrl hrr
              by_cases hd : (⟨e, b⟩ : Hf) ∈ fl ++ r
              · rw [decide_eq_true hd] at hget
                have HD := Lib.hid hd
                clear hd
                rcases hinv_end (S := halves es) (by have := HI.out; rwa [← HFL.out] at this) (by have := HD.out; rwa [← HFL.out] at this) with hX | hX
                · have hr0 : rl = 0 := by rw [← HRL.out, hX.2]; rfl
                  have HX := Lib.hid hX
                  clear hX
                  subst hr0
                  obtain ⟨Ax, cx, rfl⟩ := H.growForm m0
                  go_wp2_with (guard_target =~ wpList _ _ _ (_ :: _) _ _; (first | (guard_target =~ wpList _ _ _ (Oper.mk _ (.load _ _) _ _ _ _ :: _) _ _; refine BigFrame.wpList_want rfl (fun K hK => ?_); (refine o_loadNC (row := ?_) rfl rfl H ?_ ?_ ?_ (hK _ _ ?_); rotate_left 1; (repeat first | exact .head _ | apply List.Mem.tail); (focus (intro _; simp [hget]; done)); (focus (intro _; simp [hget]; done))); clear hK K) | (guard_target =~ wpList _ _ _ (Oper.mk _ (.lookup _ _ _ false) _ _ _ _ :: _) _ _; refine BigFrame.wpList_want rfl (fun K hK => ?_); refine o_wetGet (m := ?_) rfl rfl rfl H ?_ (hK _ _ ?_); rotate_left 1; (repeat first | exact .head _ | apply List.Mem.tail); clear hK K)); simp only [Act.put, List.setIfInBounds_toArray, List.set_cons_succ, List.set_cons_zero, hget])
                  go_roundg (gkB - 1)
                  case rel =>
                    refine ⟨D ++ [⟨i, bb⟩], by rw [show 2 - (gkB - 1) = q + 1 by have := HQ.out; omega, HDN.out], by omega, by have := HQ.out; congr 1; omega, os, ?_, ?_⟩
                    · rw [ringsL_step, if_pos (by rw [← HOS.out]; exact HX.out.1), HOS.out]
                    · have H4 := H.tail.tail.swap
                      rw [show mm = metF (os.map (·.l)).flatten by rw [HFL.out]; have := HX.out.2; subst this; rw [← HMMm.out, List.append_nil]] at H4
                      exact H4
                  case measure => omega
                · have hr0 : 0 < rl := by rw [← HRL.out]; exact hX.2.2
                  have HX := Lib.hid hX
                  clear hX
                  have hfo : os.length ≤ 2048 := by
                    have := Nat.le_trans (rings_few HRS.out) (few_halves HR.out)
                    simpa using this
                  have HOM := Lib.hid (rfl : os.map (·.s) = os.map (·.s))
                  generalize hom : os.map (·.s) = om at H
                  generalize hol : os.length = ol at H hfo
                  have HOL := Lib.hid hol
                  have HOM2 := Lib.hid hom
                  clear HOM hom hol
                  obtain ⟨bs, cs, rfl⟩ := H.growSome m0 hr0 (by decide)
                  go_wp2_with (guard_target =~ wpList _ _ _ (_ :: _) _ _; (first | (guard_target =~ wpList _ _ _ (Oper.mk _ (.call { callee := .builtin .append, args := _, argTypes := _ }) _ _ _ _ :: _) _ _; refine BigFrame.wpList_want rfl (fun K hK => ?_); refine o_append (row := ?_) (n := ?_) (xs := ?_) (l' := ?_) infoSl rfl rfl rfl H ?_ rfl ?_ ?_ (by kernel_rfl) rfl (by decide) ?_ ?_ ?_ (fun v2 w3 H2 hn => hK _ _ ?_); rotate_left 4; (repeat first | exact .head _ | apply List.Mem.tail); (focus (simp; done)); (focus (intro _; (exact r4))); exact rfl; exact (by unfold maxLen; omega); exact (by omega); clear hK K hn; clear H; (try clear w2); revert w3; intro w2 H; simp only [List.take_succ_cons, List.take_zero, Nat.one_mul] at H; (obtain ⟨A7, c7, rfl⟩ := H.growForm (v := v2) (by repeat first | exact .head _ | apply List.Mem.tail))) | (guard_target =~ wpList _ _ _ (Oper.mk _ (.load _ _) _ _ _ _ :: _) _ _; refine BigFrame.wpList_want rfl (fun K hK => ?_); (refine o_loadNC (row := ?_) rfl rfl H ?_ ?_ ?_ (hK _ _ ?_); rotate_left 1; (repeat first | exact .head _ | apply List.Mem.tail); (focus (intro _; simp [hget]; done)); (focus (intro _; simp [hget]; done))); clear hK K) | ((guard_target =~ wpList _ _ _ (Oper.mk _ (.buildSlice _ _ _) _ _ _ _ :: _) _ _; refine BigFrame.wpList_want rfl (fun K hK => ?_); refine o_buildSlice (C := ?_) (E := ?_) rfl rfl H ?_ rfl (fun w3 b2 he H2 => hK _ _ ?_); rotate_left 2; (focus (intro _; simp [go_sem, Instr.buildSlice]; with_reducible exact rfl))); clear hK K he; clear H; (try clear w2); revert w3; intro w2 H; (try simp [Act.eval, List.getD, hget] at H); (try simp [Value.cells, setL, hget] at H)) | (guard_target =~ wpList _ _ _ (Oper.mk _ (.lookup _ _ _ false) _ _ _ _ :: _) _ _; refine BigFrame.wpList_want rfl (fun K hK => ?_); refine o_wetGet (m := ?_) rfl rfl rfl H ?_ (hK _ _ ?_); rotate_left 1; (repeat first | exact .head _ | apply List.Mem.tail); clear hK K)); simp only [Act.put, List.setIfInBounds_toArray, List.set_cons_succ, List.set_cons_zero, hget])
                  go_roundg (gkB - 1)
                  case rel =>
                    refine ⟨D ++ [⟨i, bb⟩], by rw [show 2 - (gkB - 1) = q + 1 by have := HQ.out; omega, HDN.out], by omega, by have := HQ.out; congr 1; omega, os ++ [⟨.slice (some ⟨bs, 0, none⟩) rl cs, r⟩], ?_, ?_⟩
                    · rw [ringsL_step, if_neg (by rw [← HOS.out]; exact HX.out.1), List.map_append, HOS.out, HX.out.2.1]; rfl
                    · have H4 := H.tail.swap.tail.swap
                      rw [show mm = metF ((os ++ [⟨.slice (some ⟨bs, 0, none⟩) rl cs, r⟩] : List RgE).map (·.l)).flatten by rw [← HMMm.out, List.map_append, List.flatten_append, HFL.out]; simp] at H4
                      rw [← HOM2.out, ← HRR.out] at H4
                      have H5 := H4.front2.putEnd (L := [_, _, _, _, _, _, _])
                      rw [show (os ++ [(⟨.slice (some ⟨bs, 0, none⟩) rl cs, r⟩ : RgE)]).length = ol + 1 by rw [← HOL.out]; simp, show (os ++ [(⟨.slice (some ⟨bs, 0, none⟩) rl cs, r⟩ : RgE)]).map (·.s) = os.map (·.s) ++ [.slice (some ⟨bs, 0, none⟩) rl cs] by simp,
                        show (os ++ [(⟨.slice (some ⟨bs, 0, none⟩) rl cs, r⟩ : RgE)]).map rB = os.map rB ++ [rB ⟨.slice (some ⟨bs, 0, none⟩) rl cs, r⟩] by rw [List.map_append]; rfl]
                      rw [show Res.grow 36 2 (.slice (some ⟨bs, 0, none⟩) rl cs) rl (hR r) = rB ⟨.slice (some ⟨bs, 0, none⟩) rl cs, r⟩ by rw [← HRL.out]] at H5
                      exact H5
                  case measure => omega
              · rw [decide_eq_false hd] at hget
                have HD := Lib.hid hd
                clear hd
                have tk0 : True := trivial
                have tk1 : True := trivial
                go_wp2_with (guard_target =~ wpList _ _ _ (_ :: _) _ _; (first | (guard_target =~ wpList _ _ _ (Oper.mk _ (.call { callee := .builtin .append, args := _, argTypes := _ }) _ _ _ _ :: _) _ _; refine BigFrame.wpList_want rfl (fun K hK => ?_); refine o_append (row := ?_) (n := ?_) (xs := ?_) (l' := ?_) infoHf rfl rfl rfl H ?_ rfl ?_ ?_ (by kernel_rfl) rfl (by decide) ?_ ?_ ?_ (fun v2 w3 H2 hn => hK _ _ ?_); rotate_left 4; (repeat first | exact .head _ | apply List.Mem.tail); (focus (simp; done)); (focus (intro _; (exact r1))); exact rfl; exact (by unfold maxLen; omega); exact (by omega); clear hK K hn; clear H; (try clear w2); revert w3; intro w2 H; simp only [List.take_succ_cons, List.take_zero, Nat.one_mul] at H; (obtain ⟨A7, c7, rfl⟩ := H.growForm (v := v2) (by repeat first | exact .head _ | apply List.Mem.tail))) | (guard_target =~ wpList _ _ _ (Oper.mk _ (.load _ _) _ _ _ _ :: _) _ _; refine BigFrame.wpList_want rfl (fun K hK => ?_); (first | (refine o_loadC (v := ?_) (row := ?_) rfl rfl H ?_ ?_ ?_ (hK _ _ ?_); rotate_left 2; (repeat first | exact .head _ | apply List.Mem.tail); (exact rfl); (focus (intro _; simp [hget, hnx, hV]; done))) | (refine o_loadNC (row := ?_) rfl rfl H ?_ ?_ ?_ (hK _ _ ?_); rotate_left 1; (repeat first | exact .head _ | apply List.Mem.tail); (focus (intro _; simp [hget, hnx, hV]; done)); (focus (intro _; simp [hget, hnx, hV]; done)))); clear hK K) | (guard_target =~ wpList _ _ _ (Oper.mk _ (.store _ _ _) _ _ _ _ :: _) _ _; refine BigFrame.wpList_want rfl (fun K hK => ?_); refine o_store (l' := ?_) (row := ?_) rfl rfl H rfl ?_ ?_ ?_ ?_ (fun w3 H2 => hK _ _ ?_); rotate_left 2; (exact r0); (focus (intro _; (simp [Act.eval, Value.cells, List.getD, hget, hnx, hV]; done))); (focus (simp [Act.eval, Value.cells, List.getD, hget, hnx, hV]; done)); (exact rfl); clear hK K; clear H; (try clear w2); revert w3; intro w2 H; (try simp [Act.eval, List.getD, hget, hnx, hV] at H); (try simp [Value.cells, setL, hget, hnx, hV] at H)) | ((first | (guard_target =~ wpList _ _ _ (Oper.mk _ (.alloc _) _ _ _ _ :: _) _ _; refine BigFrame.wpList_want rfl (fun K hK => ?_); refine o_alloc (z := ?_) rfl ?_ H rfl (fun w3 b2 he H2 => hK _ _ ?_); rotate_left 1; (focus (intro _; simp; with_reducible exact rfl))) | (guard_target =~ wpList _ _ _ (Oper.mk _ (.buildSlice _ _ _) _ _ _ _ :: _) _ _; refine BigFrame.wpList_want rfl (fun K hK => ?_); refine o_buildSlice (C := ?_) (E := ?_) rfl rfl H ?_ rfl (fun w3 b2 he H2 => hK _ _ ?_); rotate_left 2; (focus (intro _; simp [go_sem, Instr.buildSlice]; with_reducible exact rfl)))); clear hK K he; clear H; (try clear w2); revert w3; intro w2 H; (try simp [Act.eval, List.getD, hget, hnx, hV] at H); (try simp [Value.cells, setL, hget, hnx, hV] at H); (first | (clear tk0; rename Nat => bj) | (clear tk1; rename Nat => bk))) | (guard_target =~ wpList _ _ _ (Oper.mk _ (.lookup _ _ _ false) _ _ _ _ :: _) _ _; refine BigFrame.wpList_want rfl (fun K hK => ?_); refine o_wetGet (m := ?_) rfl rfl rfl H ?_ (hK _ _ ?_); rotate_left 1; (repeat first | exact .head _ | apply List.Mem.tail); clear hK K) | (guard_target =~ wpList _ _ _ (Oper.mk _ (.mapUpdate _ _ _ _) _ _ _ _ :: _) _ _; refine BigFrame.wpList_want rfl (fun K hK => ?_); refine o_wetSet (l0 := ?_) (m := ?_) rfl rfl rfl rfl H ?_ (fun w3 H2 => hK _ _ ?_); rotate_left 2; (focus (intro _; (exact r2))); clear hK K; clear H; (try clear w2); revert w3; intro w2 H) | (guard_target =~ wpList _ _ _ (Oper.mk _ (.lookup _ _ _ false) _ _ _ _ :: _) _ _; refine BigFrame.wpList_want rfl (fun K hK => ?_); refine o_nxtGet (m := ?_) rfl rfl rfl H ?_ (hK _ _ ?_); rotate_left 1; (repeat first | exact .head _ | apply List.Mem.tail); clear hK K)); simp only [Act.put, List.setIfInBounds_toArray, List.set_cons_succ, List.set_cons_zero, hget, hnx, hV])
                go_roundg ((halves es).length - (r.length + 1))
                case rel =>
                  have hst := hinv_step (next_one HR.out) HRS.out (by have := HI.out; rwa [← HFL.out] at this) (by have := HD.out; rwa [← HFL.out] at this)
                  rw [HNE.out, HFL.out] at hst
                  refine ⟨r ++ [⟨e, b⟩], ⟨e', b'⟩, bk, hst.1, by simp, rfl, ?_⟩
                  have H4 := (H.swap.tail.swap).front2.tail
                  rw [← HRR.out, ← hR_add1, ← HAD.out, List.append_assoc] at H4
                  rw [List.length_append, HRL.out]
                  exact H4
                case measure =>
                  have hst := hinv_step (next_one HR.out) HRS.out (by have := HI.out; rwa [← HFL.out] at this) (by have := HD.out; rwa [← HFL.out] at this)
                  have := hst.2
                  have := HK3.out
                  omega
          · obtain rfl : gk = 0 := by omega
            go_wp2_with (first | fail)
            have hD2 : D = D0 ++ [⟨i, false⟩, ⟨i, true⟩] := by simpa using hDe
            go_roundg (gkA - 1)
            case rel =>
              refine ⟨by omega, by have := HJ.out; congr 1; omega, os, ?_, H.front2.tail.front2.tail⟩
              rw [show m - (gkA - 1) = j + 1 by have := HJ.out; omega, HA.out, ← hD2]
              exact hos
            case measure => omega
      · obtain rfl : gk = 0 := by omega
        go_wp2_with (first | fail)
        rw [Nat.sub_zero, HM.out, List.take_length] at hos
        obtain ⟨Ar, cr, rfl, h4, h5, h6⟩ := H.giveGrow m0 HF.out
        go_ret
        refine ⟨Ar, cr, os.map (·.s), ?_, H.below, h6, ?_, fun i r hr => ?_, ?_, h5⟩
        · have hlen : (ringsZ vs es).length = os.length := by unfold ringsZ; rw [← hos]; simp
          simp [hlen]
        · unfold ringsZ; rw [← hos]; simp
        · unfold ringsZ at hr
          rw [← hos, List.getElem?_map] at hr
          cases ho : os[i]? with
          | none => rw [ho] at hr; cases hr
          | some o =>
            rw [ho] at hr
            obtain rfl : o.l = r := by simpa using hr
            obtain ⟨A3, c3, e3, _, _, h3⟩ := H.giveGrow (e := 36) (size := 2) (v := o.s) (n := o.l.length) (xs := hR o.l) (by
              have : rB o ∈ os.map rB := List.mem_map.2 ⟨o, List.mem_of_getElem? ho, rfl⟩
              simp [this]) HF.out
            exact ⟨A3, c3, by rw [List.getElem?_map, ho]; simp [e3], h3⟩
        · unfold ringsZ; rw [← hos]; simpa using h4
end Go.Proofs.Ytlhmjhildlnokaa
