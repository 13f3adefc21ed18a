/-
  Resources: a slice grows by what stands in another slice of the call's own. Nothing of the program stands here.
-/
import Derived.Test.YtlhmjhildlnokaaGreatMd6b25c4b
import Derived.Test.YtlhmjhildlnokaaGreatM4e94a5cd
import Derived.Test.YtlhmjhildlnokaaGreatM702203e8
import Derived.Test.YtlhmjhildlnokaaGreatM586e9777
import Derived.Test.YtlhmjhildlnokaaGreatM8ef4624f
import Derived.ChangeArms
import Derived.Test.YtlhmjhildlnokaaGreatM28ca6b73
namespace Go.Proofs.YtlhmjhildlnokaaGreat
set_option linter.unusedVariables false
set_option linter.unusedSimpArgs false
open Go.RowKit
theorem plan7r1 {P Q : Prop} (k : Q) (h : Hold Q → InR 7 0 (.q 0 (.q 1 (.q 2 (.q 3 (.q 4 (.q 5 (.q 6 (.q 7 (.q 8 (.q 9 (.q 10 (.q 11 (.q 12 (.q 13 (.q 14 (.q 15 (.q 16 (.q 17 (.q 18 (.q 19 (.q 20 (.q 21 (.e 22 (.q 23 (.q 24 .nil))))))))))))))))))))))))) P := by exact aR0) : P := h ⟨k⟩
theorem plan7r2 {P Q : Prop} (k : Q) (h : Hold Q → InR 12 0 (.q 0 (.q 1 (.q 2 (.q 3 (.q 4 (.q 5 (.q 6 (.q 7 (.q 8 .nil))))))))) P := by exact aR0) : P := h ⟨k⟩
theorem plan7r3 {P Q : Prop} (k : Q) (h : Hold Q → InR 18 0 (.q 0 (.q 1 (.q 2 (.q 3 (.q 4 (.q 5 (.q 6 (.q 7 (.q 8 (.q 9 (.q 10 (.q 11 (.q 12 (.q 13 (.q 14 (.q 15 (.q 16 (.q 17 (.q 18 (.q 19 (.q 20 (.q 21 (.q 22 (.q 23 (.q 24 (.q 25 (.q 26 (.q 27 (.q 28 (.q 29 (.e 30 (.q 31 (.q 32 (.q 33 (.q 34 (.q 35 (.q 36 (.e 37 (.q 38 (.q 39 .nil)))))))))))))))))))))))))))))))))))))))) P := by exact aR0) : P := h ⟨k⟩
theorem plan7r4 {P Q : Prop} (k : Q) (h : Hold Q → InR 20 1 (.q 0 (.q 1 (.q 2 (.q 3 (.q 4 (.q 5 (.q 6 (.e 7 (.e 8 .nil))))))))) P := by exact aR) : P := h ⟨k⟩
theorem plan7r5 {P Q : Prop} (k : Q) (h : Hold Q → InR 21 0 (.q 0 (.q 1 (.q 2 (.q 3 (.q 4 (.e 5 (.q 6 (.q 7 (.q 8 (.q 9 (.q 10 (.q 12 (.q 13 (.q 14 (.e 11 (.e 15 (.e 16 (.q 17 (.q 18 (.q 19 (.q 20 (.q 21 (.q 22 (.q 24 (.q 25 (.q 26 (.q 28 (.e 23 (.e 27 (.e 29 (.q 30 .nil))))))))))))))))))))))))))))))) P := by exact aR0) : P := h ⟨k⟩
set_option maxRecDepth 200000 in
set_option maxHeartbeats 16000000 in
theorem refRight_any (vs : List Vt) (es : List Eg) (A A2 : Option Addr) (n m : Nat) (c c2 : Nat) (F : Nat → Prop) (w : World) (hn : n = vs.length) (hm : m = es.length) (hs : Sl F w A (vR vs)) (hs2 : Sl F w A2 (eR es)) (hl : n ≤ 1000000) (hl2 : m ≤ 1000000) (hc2 : m ≤ c2) (hcc : c2 ≤ maxLen) :
  Calls Tryz.prog 9 #[.agg #[.slice A n c, .slice A2 m c2]] w fun e w' => e = .returned (.bool (rightR vs es)) ∧ Below w.heap.size w w' := by
 obtain ⟨v, hv⟩ : ∃ v, rightR vs es = v := ⟨_, rfl⟩
 have HV := Lib.hid hv
 rw [hv]; clear hv
 obtain ⟨b0, o0, H1, f0⟩ := (Own.start w).addSl (hs.ro (by rfl))
 obtain ⟨b9, o9, H, f9⟩ := H1.addSl (hs2.ro (by rfl))
 clear hs hs2 H1
 subst hn hm
 by_cases g1 : 512 < vs.length
 ·have g1' : (decide ((512 : Int) < (vs.length : Int))) = true := by simp; omega
  go_enter Tryz.func9, Tryz.ntmps9
  have tk0 : True := trivial
  go_wp2_with (first
   | go_big_skip
   | (guard_target = wpList _ _ _ (_ :: _) _ _; (first | (refine a15dc6b3 ?_) | (refine a9475ade ?_; intro b2; clear H; (try clear w2); intro w2 H; (clear tk0; rename Nat => b1)))))
  go_ret
  exact ⟨ret_b (by rw [← HV.out, rightR_len vs es (by simp [g1])]), H.below⟩
 have g1' : (decide ((512 : Int) < (vs.length : Int))) = false := by simp; omega
 by_cases g2 : 1024 < es.length
 ·have g2' : (decide ((1024 : Int) < (es.length : Int))) = true := by simp; omega
  go_enter Tryz.func9, Tryz.ntmps9
  have tk0 : True := trivial
  go_wp2_with (guard_target = wpList _ _ _ (_ :: _) _ _; (first | (refine a15dc6b3 ?_) | (refine a9475ade ?_; intro b2; clear H; (try clear w2); intro w2 H; (clear tk0; rename Nat => b1))))
  go_ret
  exact ⟨ret_b (by rw [← HV.out, rightR_len vs es (by simp [g2])]), H.below⟩
 have g2' : (decide ((1024 : Int) < (es.length : Int))) = false := by simp; omega
 go_enter Tryz.func9, Tryz.ntmps9
 have tk0 : True := trivial
 go_wp2_with (guard_target = wpList _ _ _ (_ :: _) _ _; (first | (refine a15dc6b3 ?_) | (refine a9475ade ?_; intro b2; clear H; (try clear w2); intro w2 H; (clear tk0; rename Nat => b1))))
 go_loopg [3] vs.length (fun k i wr => k ≤ vs.length ∧ i = .int .i64 ((vs.length - k : Nat) : Int) ∧ (List.range (vs.length - k)).all (vOKr vs) = true ∧ Own w.heap.size w wr [.cells b1 [.slice A vs.length c, .slice A2 es.length c2], .rd A2 b9 o9 (eR es), .rd A b0 o0 (vR vs)])
 case atStart => exact ⟨Nat.le_refl _, by simp, by simp, H⟩
 case round =>
  clear H
  obtain ⟨hk, rfl, ht, H⟩ := hrel
  have HT := Lib.hid ht
  clear ht
  obtain ⟨ko, hko⟩ : ∃ ko, ko = gk := ⟨_, rfl⟩
  subst hko
  by_cases hlt : 0 < ko
  ·obtain ⟨j, hj⟩ : ∃ j, vs.length - ko = j := ⟨_, rfl⟩
   have hjl : j < vs.length := by omega
   rw [hj] at HT ⊢
   obtain ⟨i, x, y, he⟩ := vt_at vs hjl
   obtain rfl := H.rdAddr m2 (vR_pos he)
   have hp := at_v (A := some ⟨b0, o0, none⟩) (b := b0) (off := o0) he
   have hok : vOKr vs j = !((decide (i < 1) || ((decide (0 < j) && decide (i ≤ prevV vs j)) || !inB ⟨x, y⟩)) || (vs.take j).any fun u => decide (u.p = ⟨x, y⟩)) := by unfold vOKr; rw [he]
   have hin := refIn_any x y
   obtain ⟨v1, hv1⟩ : ∃ v, decide (i < 1) = v := ⟨_, rfl⟩
   obtain ⟨v3, hv3⟩ : ∃ v, inB ⟨x, y⟩ = v := ⟨_, rfl⟩
   obtain ⟨v4, hv4⟩ : ∃ v, ((vs.take j).any fun u => decide (u.p = ⟨x, y⟩)) = v := ⟨_, rfl⟩
   rw [hv1, hv3, hv4] at hok
   rw [hv3] at hin
   have HJ := Lib.hid hj
   have H4 := Lib.hid hv4
   clear he hj hv3 hv4
   cases v1
   rotate_left 1
   ·have tk0 : True := trivial
    go_wp2_with (first
     | (guard_target = Code.wp _ (Code.region 7 _ true) _ _ _; refine plan7r1 ?_; clear H; (try clear w2); intro w2 H)
     | ((first | guard_target = wpList _ _ _ (_ :: _) _ _ | guard_target = wpTree _ _ _ _ _ _ _); (first | (refine a61349b7 ?_) | (refine a43dfdd6 ?_; clear H; (try clear w2); intro w2 H) | (refine a32a6bca ?_; intro b2; clear H; (try clear w2); intro w2 H; (clear tk0; rename Nat => b4)) | (guard_target = wpTree _ _ _ Tr.nil _ _ _; refine tree_nil ?_))))
    go_ret
    exact ⟨ret_b (by rw [← HV.out, rightR_v vs es hjl (by rw [hok]; simp)]), H.below⟩
   by_cases j0 : j = 0
   ·have jq : (decide ((0 : Int) < (j : Int))) = false := by simp; omega
    have jd : (decide (0 < j)) = false := by simp; omega
    rw [jd] at hok
    have HO := Lib.hid hok
    have HJ0 := Lib.hid j0
    clear hok j0 jq
    cases v3
    ·as_aux_lemma =>
     have tk0 : True := trivial
     go_wp2_with (first
      | (guard_target = Code.wp _ (Code.region 7 _ true) _ _ _; refine plan7r1 ?_; clear H; (try clear w2); intro w2 H)
      | (go_at_call 18; (with_reducible refine (hin _).mono ?_); rintro e w3 ⟨rfl, hb⟩; replace H := H.ext hb; clear hb; dsimp only; (refine a8c34bfe ?_; clear hK K))
      | ((first | guard_target = wpList _ _ _ (_ :: _) _ _ | guard_target = wpTree _ _ _ _ _ _ _); (first | (refine a61349b7 ?_) | (refine a43dfdd6 ?_; clear H; (try clear w2); intro w2 H) | (refine a32a6bca ?_; intro b2; clear H; (try clear w2); intro w2 H; (clear tk0; rename Nat => b4)) | (guard_target = wpTree _ _ _ Tr.nil _ _ _; refine tree_nil ?_) | (refine ace93fc0 ?_; intro K hK))))
     go_ret
     exact ⟨ret_b (by rw [← HV.out, rightR_v vs es hjl (by rw [HO.out]; simp [*])]), H.below⟩
    ·as_aux_lemma =>
     have tk0 : True := trivial
     go_wp2_with (first
      | (guard_target = Code.wp _ (Code.region 7 _ true) _ _ _; refine plan7r1 ?_; clear H; (try clear w2); intro w2 H)
      | (go_at_call 18; (with_reducible refine (hin _).mono ?_); rintro e w3 ⟨rfl, hb⟩; replace H := H.ext hb; clear hb; dsimp only; (refine a8c34bfe ?_; clear hK K))
      | ((first | guard_target = wpList _ _ _ (_ :: _) _ _ | guard_target = wpTree _ _ _ _ _ _ _); (first | (refine a61349b7 ?_) | (refine a43dfdd6 ?_; clear H; (try clear w2); intro w2 H) | (refine a32a6bca ?_; intro b2; clear H; (try clear w2); intro w2 H; (clear tk0; rename Nat => b4)) | (guard_target = wpTree _ _ _ Tr.nil _ _ _; refine tree_nil ?_) | (refine ace93fc0 ?_; intro K hK))))
     generalize hg : (fun u : Vt => decide (u.p = ⟨x, y⟩)) = g at H4
     have HG := Lib.hid hg
     clear hg
     go_loopg [5] j (fun k ii wr => k ≤ j ∧ ii = .int .i64 ((j - k : Nat) : Int) ∧ (vs.take (j - k)).any g = false ∧ Own w.heap.size w wr [.cells b4 [.int .i64 i, .int .i64 x, .int .i64 y], .cells b1 [.slice (some ⟨b0, o0, none⟩) vs.length c, .slice A2 es.length c2], .rd A2 b9 o9 (eR es), .rd (some ⟨b0, o0, none⟩) b0 o0 (vR vs)])
     case atStart => exact ⟨Nat.le_refl _, by simp, by simp, H⟩
     case round =>
      clear H
      obtain ⟨hk3, rfl, ht3, H⟩ := hrel
      have HT3 := Lib.hid ht3
      clear ht3
      by_cases hlt3 : 0 < gk
      ·obtain ⟨q, hq⟩ : ∃ q, j - gk = q := ⟨_, rfl⟩
       have hql : q < vs.length := by omega
       have hqj : q < j := by omega
       rw [hq] at HT3 ⊢
       obtain ⟨i2, x2, y2, he2⟩ := vt_at vs hql
       have hp2 := at_vp (A := some ⟨b0, o0, none⟩) (b := b0) (off := o0) he2
       have eqp := eq_pt x2 y2 x y
       rw [← pt_eq] at eqp
       obtain ⟨u1, hu1⟩ : ∃ v, decide ((⟨x2, y2⟩ : Pt) = ⟨x, y⟩) = v := ⟨_, rfl⟩
       have hfv : g ⟨i2, ⟨x2, y2⟩⟩ = u1 := by rw [← HG.out]; exact hu1
       rw [hu1] at eqp
       have HF := Lib.hid hfv
       have HE := Lib.hid he2
       have HQ := Lib.hid hq
       clear hu1 hfv he2 hq
       cases u1
       ·as_aux_lemma =>
        have tk0 : True := trivial
        go_wp2_with (first
         | (guard_target = Code.wp _ (Code.region 12 _ true) _ _ _; refine plan7r2 ?_; clear H; (try clear w2); intro w2 H)
         | ((first | guard_target = wpList _ _ _ (_ :: _) _ _ | guard_target = wpTree _ _ _ _ _ _ _); (first | (refine a61349b7 ?_) | (guard_target = wpTree _ _ _ Tr.nil _ _ _; refine tree_nil ?_))))
        go_roundg (gk - 1)
        case rel => exact ⟨by omega, by have := HQ.out; congr 1; omega, by rw [show j - (gk - 1) = q + 1 by have := HQ.out; omega]; exact any_step HE.out HT3.out HF.out, H⟩
        case measure => omega
       ·as_aux_lemma =>
        have tk0 : True := trivial
        go_wp2_with (first
         | (guard_target = Code.wp _ (Code.region 12 _ true) _ _ _; refine plan7r2 ?_; clear H; (try clear w2); intro w2 H)
         | ((first | guard_target = wpList _ _ _ (_ :: _) _ _ | guard_target = wpTree _ _ _ _ _ _ _); (first | (refine a61349b7 ?_) | (guard_target = wpTree _ _ _ Tr.nil _ _ _; refine tree_nil ?_))))
        go_ret
        exact ⟨ret_b (by rw [← HV.out, rightR_v vs es hjl (by rw [HO.out, ← H4.out, any_yes (l := vs.take j) (k := q) (by rw [List.getElem?_take, if_pos (by have := HQ.out; omega)]; exact HE.out) HF.out]; simp)]), H.below⟩
      ·obtain rfl : gk = 0 := by omega
       rw [Nat.sub_zero] at HT3
       have tk0 : True := trivial
       go_wp2_with (first | fail)
       go_roundg (ko - 1)
       case rel =>
        have e1 : vs.length - (ko - 1) = j + 1 := by have := HJ.out; omega
        exact ⟨by omega, by have := HJ.out; congr 1; omega, by rw [e1]; exact rangeR_step HT.out (by rw [HO.out, ← H4.out, HT3.out]; simp [*]), H.tail⟩
       case measure => omega
   ·have jp : 0 < j := by omega
    obtain ⟨pi, px, py, hpe⟩ := vt_at vs (k := j - 1) (by omega)
    have hpp := at_vid (A := some ⟨b0, o0, none⟩) (b := b0) (off := o0) hpe
    have hpv : prevV vs j = pi := by unfold prevV; rw [hpe]; rfl
    rw [hpv] at hok
    clear hpe hpv
    have jq : (decide ((0 : Int) < (j : Int))) = true := by simp; omega
    have jd : (decide (0 < j)) = true := by simp; omega
    have j1 : (j : Int) - 1 = ((j - 1 : Nat) : Int) := by omega
    obtain ⟨v2, hv2⟩ : ∃ v, decide (i ≤ pi) = v := ⟨_, rfl⟩
    rw [hv2, jd] at hok
    have HO := Lib.hid hok
    clear hok jd
    cases v2
    rotate_left 1
    ·as_aux_lemma =>
     have tk0 : True := trivial
     go_wp2_with (first
      | (guard_target = Code.wp _ (Code.region 7 _ true) _ _ _; refine plan7r1 ?_; clear H; (try clear w2); intro w2 H)
      | ((first | guard_target = wpList _ _ _ (_ :: _) _ _ | guard_target = wpTree _ _ _ _ _ _ _); (first | (refine a61349b7 ?_) | (refine a43dfdd6 ?_; clear H; (try clear w2); intro w2 H) | (refine a32a6bca ?_; intro b2; clear H; (try clear w2); intro w2 H; (clear tk0; rename Nat => b4)) | (guard_target = wpTree _ _ _ Tr.nil _ _ _; refine tree_nil ?_))))
     go_ret
     exact ⟨ret_b (by rw [← HV.out, rightR_v vs es hjl (by rw [HO.out]; simp [*])]), H.below⟩
    cases v3
    ·as_aux_lemma =>
     have tk0 : True := trivial
     go_wp2_with (first
      | (guard_target = Code.wp _ (Code.region 7 _ true) _ _ _; refine plan7r1 ?_; clear H; (try clear w2); intro w2 H)
      | (go_at_call 18; (with_reducible refine (hin _).mono ?_); rintro e w3 ⟨rfl, hb⟩; replace H := H.ext hb; clear hb; dsimp only; (refine a8c34bfe ?_; clear hK K))
      | ((first | guard_target = wpList _ _ _ (_ :: _) _ _ | guard_target = wpTree _ _ _ _ _ _ _); (first | (refine a61349b7 ?_) | (refine a43dfdd6 ?_; clear H; (try clear w2); intro w2 H) | (refine a32a6bca ?_; intro b2; clear H; (try clear w2); intro w2 H; (clear tk0; rename Nat => b4)) | (guard_target = wpTree _ _ _ Tr.nil _ _ _; refine tree_nil ?_) | (refine ace93fc0 ?_; intro K hK))))
     go_ret
     exact ⟨ret_b (by rw [← HV.out, rightR_v vs es hjl (by rw [HO.out]; simp [*])]), H.below⟩
    ·as_aux_lemma =>
     have tk0 : True := trivial
     go_wp2_with (first
      | (guard_target = Code.wp _ (Code.region 7 _ true) _ _ _; refine plan7r1 ?_; clear H; (try clear w2); intro w2 H)
      | (go_at_call 18; (with_reducible refine (hin _).mono ?_); rintro e w3 ⟨rfl, hb⟩; replace H := H.ext hb; clear hb; dsimp only; (refine a8c34bfe ?_; clear hK K))
      | ((first | guard_target = wpList _ _ _ (_ :: _) _ _ | guard_target = wpTree _ _ _ _ _ _ _); (first | (refine a61349b7 ?_) | (refine a43dfdd6 ?_; clear H; (try clear w2); intro w2 H) | (refine a32a6bca ?_; intro b2; clear H; (try clear w2); intro w2 H; (clear tk0; rename Nat => b4)) | (guard_target = wpTree _ _ _ Tr.nil _ _ _; refine tree_nil ?_) | (refine ace93fc0 ?_; intro K hK))))
     generalize hg : (fun u : Vt => decide (u.p = ⟨x, y⟩)) = g at H4
     have HG := Lib.hid hg
     clear hg
     go_loopg [5] j (fun k ii wr => k ≤ j ∧ ii = .int .i64 ((j - k : Nat) : Int) ∧ (vs.take (j - k)).any g = false ∧ Own w.heap.size w wr [.cells b4 [.int .i64 i, .int .i64 x, .int .i64 y], .cells b1 [.slice (some ⟨b0, o0, none⟩) vs.length c, .slice A2 es.length c2], .rd A2 b9 o9 (eR es), .rd (some ⟨b0, o0, none⟩) b0 o0 (vR vs)])
     case atStart => exact ⟨Nat.le_refl _, by simp, by simp, H⟩
     case round =>
      clear H
      obtain ⟨hk3, rfl, ht3, H⟩ := hrel
      have HT3 := Lib.hid ht3
      clear ht3
      by_cases hlt3 : 0 < gk
      ·obtain ⟨q, hq⟩ : ∃ q, j - gk = q := ⟨_, rfl⟩
       have hql : q < vs.length := by omega
       have hqj : q < j := by omega
       rw [hq] at HT3 ⊢
       obtain ⟨i2, x2, y2, he2⟩ := vt_at vs hql
       have hp2 := at_vp (A := some ⟨b0, o0, none⟩) (b := b0) (off := o0) he2
       have eqp := eq_pt x2 y2 x y
       rw [← pt_eq] at eqp
       obtain ⟨u1, hu1⟩ : ∃ v, decide ((⟨x2, y2⟩ : Pt) = ⟨x, y⟩) = v := ⟨_, rfl⟩
       have hfv : g ⟨i2, ⟨x2, y2⟩⟩ = u1 := by rw [← HG.out]; exact hu1
       rw [hu1] at eqp
       have HF := Lib.hid hfv
       have HE := Lib.hid he2
       have HQ := Lib.hid hq
       clear hu1 hfv he2 hq
       cases u1
       ·as_aux_lemma =>
        have tk0 : True := trivial
        go_wp2_with (first
         | (guard_target = Code.wp _ (Code.region 12 _ true) _ _ _; refine plan7r2 ?_; clear H; (try clear w2); intro w2 H)
         | ((first | guard_target = wpList _ _ _ (_ :: _) _ _ | guard_target = wpTree _ _ _ _ _ _ _); (first | (refine a61349b7 ?_) | (guard_target = wpTree _ _ _ Tr.nil _ _ _; refine tree_nil ?_))))
        go_roundg (gk - 1)
        case rel => exact ⟨by omega, by have := HQ.out; congr 1; omega, by rw [show j - (gk - 1) = q + 1 by have := HQ.out; omega]; exact any_step HE.out HT3.out HF.out, H⟩
        case measure => omega
       ·as_aux_lemma =>
        have tk0 : True := trivial
        go_wp2_with (first
         | (guard_target = Code.wp _ (Code.region 12 _ true) _ _ _; refine plan7r2 ?_; clear H; (try clear w2); intro w2 H)
         | ((first | guard_target = wpList _ _ _ (_ :: _) _ _ | guard_target = wpTree _ _ _ _ _ _ _); (first | (refine a61349b7 ?_) | (guard_target = wpTree _ _ _ Tr.nil _ _ _; refine tree_nil ?_))))
        go_ret
        exact ⟨ret_b (by rw [← HV.out, rightR_v vs es hjl (by rw [HO.out, ← H4.out, any_yes (l := vs.take j) (k := q) (by rw [List.getElem?_take, if_pos (by have := HQ.out; omega)]; exact HE.out) HF.out]; simp)]), H.below⟩
      ·obtain rfl : gk = 0 := by omega
       rw [Nat.sub_zero] at HT3
       have tk0 : True := trivial
       go_wp2_with (first | fail)
       go_roundg (ko - 1)
       case rel =>
        have e1 : vs.length - (ko - 1) = j + 1 := by have := HJ.out; omega
        exact ⟨by omega, by have := HJ.out; congr 1; omega, by rw [e1]; exact rangeR_step HT.out (by rw [HO.out, ← H4.out, HT3.out]; simp [*]), H.tail⟩
       case measure => omega
  ·obtain rfl : ko = 0 := by omega
   rw [Nat.sub_zero] at HT
   have hin := vokr_in HT.out
   have HI := Lib.hid hin
   clear hin
   have tk0 : True := trivial
   go_wp2_with (guard_target = wpList _ _ _ (_ :: _) _ _; (refine a15dc6b3 ?_))
   go_loopg [6] es.length (fun k i wr => k ≤ es.length ∧ i = .int .i64 ((es.length - k : Nat) : Int) ∧ (List.range (es.length - k)).all (eOKr vs es) = true ∧ Own w.heap.size w wr [.cells b1 [.slice A vs.length c, .slice A2 es.length c2], .rd A2 b9 o9 (eR es), .rd A b0 o0 (vR vs)])
   case atStart => exact ⟨Nat.le_refl _, by simp, by simp, H⟩
   case round =>
    clear H
    obtain ⟨hk2, rfl, ht2, H⟩ := hrel
    have HT2 := Lib.hid ht2
    clear ht2
    by_cases hlt2 : 0 < gk
    ·obtain ⟨j, hj⟩ : ∃ j, es.length - gk = j := ⟨_, rfl⟩
     have hjl : j < es.length := by omega
     rw [hj] at HT2 ⊢
     obtain ⟨i, x, y, he⟩ := eg_at es hjl
     obtain rfl := H.rdAddr m1 (eR_pos he)
     have hp := at_e (A := some ⟨b9, o9, none⟩) (b := b9) (off := o9) he
     have hok : eOKr vs es j = !(decide (i < 1) || ((decide (0 < j) && decide (i ≤ prevE es j)) || (x == y || (!(vs.find? fun v => v.id == x).isSome || (!(vs.find? fun v => v.id == y).isSome ||
      (linksB (es.take j) x y || (onWayR vs (rpt vs x) (rpt vs y) || meetsR vs (es.take j) (rpt vs x) (rpt vs y)))))))) := by unfold eOKr; rw [he]
     obtain ⟨fx, hfx⟩ : ∃ f, (vs.find? fun v => v.id == x) = f := ⟨_, rfl⟩
     obtain ⟨fy, hfy⟩ : ∃ f, (vs.find? fun v => v.id == y) = f := ⟨_, rfl⟩
     have hvx := fun F w h => refVertex_any vs A (some ⟨b9, o9, none⟩) vs.length es.length c c2 F x w rfl h hl
     have hvy := fun F w h => refVertex_any vs A (some ⟨b9, o9, none⟩) vs.length es.length c c2 F y w rfl h hl
     have hlk := fun F w h => links_any (es.take j) (some ⟨b9, o9, none⟩) A j vs.length c2 c F x y w (by rw [List.length_take]; omega) h (by omega)
     have eh : ∀ (w : World) (F : Nat → Prop), Sl F w (some ⟨b9, o9, none⟩) (eR es) → Sl F w (some ⟨b9, o9, none⟩) (eR (es.take j)) := fun w F h => by rw [eR_take]; exact h.take _
     rw [hfx, hfy] at hok
     obtain ⟨v1, hv1⟩ : ∃ v, decide (i < 1) = v := ⟨_, rfl⟩
     obtain ⟨v3, hv3⟩ : ∃ v, (x == y) = v := ⟨_, rfl⟩
     obtain ⟨v6, hv6⟩ : ∃ v, linksB (es.take j) x y = v := ⟨_, rfl⟩
     rw [hv1, hv3, hv6] at hok
     simp only [hv6] at hlk
     have HE := Lib.hid he
     have HJ := Lib.hid hj
     have HX := Lib.hid hfx
     have HY := Lib.hid hfy
     clear he hj hv6 hfx hfy
     cases v1
     rotate_left 1
     ·as_aux_lemma =>
      have tk0 : True := trivial
      have tk1 : True := trivial
      go_wp2_with (first
       | (guard_target = Code.wp _ (Code.region 18 _ true) _ _ _; refine plan7r3 ?_; clear H; (try clear w2); intro w2 H)
       | ((first | guard_target = wpList _ _ _ (_ :: _) _ _ | guard_target = wpTree _ _ _ _ _ _ _); (first | (refine aa335462 ?_) | (refine a43dfdd6 ?_; clear H; (try clear w2); intro w2 H) | (refine a32a6bca ?_; intro b2; clear H; (try clear w2); intro w2 H; (clear tk0; rename Nat => b6)) | (guard_target = wpTree _ _ _ Tr.nil _ _ _; refine tree_nil ?_))))
      go_ret
      exact ⟨ret_b (by rw [← HV.out, rightR_e vs es hjl (by rw [hok]; simp)]), H.below⟩
     by_cases j0 : j = 0
     ·have jd : (decide (0 < j)) = false := by simp; omega
      rw [jd] at hok
      have HO := Lib.hid hok
      have HJ0 := Lib.hid j0
      clear hok j0
      cases v3
      rotate_left 1
      ·as_aux_lemma =>
       have tk0 : True := trivial
       have tk1 : True := trivial
       go_wp2_with (first
        | (guard_target = Code.wp _ (Code.region 18 _ true) _ _ _; refine plan7r3 ?_; clear H; (try clear w2); intro w2 H)
        | ((first | guard_target = wpList _ _ _ (_ :: _) _ _ | guard_target = wpTree _ _ _ _ _ _ _); (first | (refine aa335462 ?_) | (refine a43dfdd6 ?_; clear H; (try clear w2); intro w2 H) | (refine a32a6bca ?_; intro b2; clear H; (try clear w2); intro w2 H; (clear tk0; rename Nat => b6)) | (guard_target = wpTree _ _ _ Tr.nil _ _ _; refine tree_nil ?_))))
       go_ret
       exact ⟨ret_b (by rw [← HV.out, rightR_e vs es hjl (by rw [HO.out]; simp)]), H.below⟩
      rcases fx with _ | ⟨fxi, ⟨fxx, fxy⟩⟩
      ·rw [idx_none HX.out] at hvx
       simp only [ixZ] at hvx
       have tk0 : True := trivial
       have tk1 : True := trivial
       go_wp2_with (first
        | (guard_target = Code.wp _ (Code.region 18 _ true) _ _ _; refine plan7r3 ?_; clear H; (try clear w2); intro w2 H)
        | (go_at_call 19; (with_reducible refine (hvx _ _ (aD f0)).mono ?_); rintro e w3 ⟨rfl, hb⟩; replace H := H.ext hb; clear hb; dsimp only; (refine a8c34bfe ?_; clear hK K))
        | ((first | guard_target = wpList _ _ _ (_ :: _) _ _ | guard_target = wpTree _ _ _ _ _ _ _); (first | (refine aa335462 ?_) | (refine a43dfdd6 ?_; clear H; (try clear w2); intro w2 H) | (refine a32a6bca ?_; intro b2; clear H; (try clear w2); intro w2 H; (clear tk0; rename Nat => b6)) | (guard_target = wpTree _ _ _ Tr.nil _ _ _; refine tree_nil ?_) | (refine ace93fc0 ?_; intro K hK))))
       go_ret
       exact ⟨ret_b (by rw [← HV.out, rightR_e vs es hjl (by rw [HO.out]; simp)]), H.below⟩
      rcases fy with _ | ⟨fyi, ⟨fyx, fyy⟩⟩
      ·rw [idx_none HY.out] at hvy
       simp only [ixZ] at hvy
       obtain ⟨kx, hkx, _⟩ := find_idx HX.out
       rw [hkx] at hvx
       simp only [ixZ] at hvx
       have tk0 : True := trivial
       have tk1 : True := trivial
       go_wp2_with (first
        | (guard_target = Code.wp _ (Code.region 18 _ true) _ _ _; refine plan7r3 ?_; clear H; (try clear w2); intro w2 H)
        | (go_at_call 19; (with_reducible refine (hvx _ _ (aD f0)).mono ?_); rintro e w3 ⟨rfl, hb⟩; replace H := H.ext hb; clear hb; dsimp only; (refine a8c34bfe ?_; clear hK K))
        | (go_at_call 19; (with_reducible refine (hvy _ _ (aD f0)).mono ?_); rintro e w3 ⟨rfl, hb⟩; replace H := H.ext hb; clear hb; dsimp only; (refine a8c34bfe ?_; clear hK K))
        | ((first | guard_target = wpList _ _ _ (_ :: _) _ _ | guard_target = wpTree _ _ _ _ _ _ _); (first | (refine aa335462 ?_) | (refine a43dfdd6 ?_; clear H; (try clear w2); intro w2 H) | (refine a32a6bca ?_; intro b2; clear H; (try clear w2); intro w2 H; (clear tk0; rename Nat => b6)) | (guard_target = wpTree _ _ _ Tr.nil _ _ _; refine tree_nil ?_) | (refine ace93fc0 ?_; intro K hK))))
       go_ret
       exact ⟨ret_b (by rw [← HV.out, rightR_e vs es hjl (by rw [HO.out]; simp)]), H.below⟩
      have hax := fun F w h => refAt_any vs A (some ⟨b9, o9, none⟩) vs.length es.length c c2 F x fxi fxx fxy w rfl h hl HX.out
      have hay := fun F w h => refAt_any vs A (some ⟨b9, o9, none⟩) vs.length es.length c c2 F y fyi fyx fyy w rfl h hl HY.out
      have ia := HI.out _ (List.mem_of_find?_eq_some HX.out)
      have ib := HI.out _ (List.mem_of_find?_eq_some HY.out)
      have hon := fun F w h => onWayR_any vs A (some ⟨b9, o9, none⟩) vs.length es.length c c2 F fxx fxy fyx fyy w rfl h hl HI.out ia ib
      have hmt := fun F w h h2 => meetsR_any vs es A (some ⟨b9, o9, none⟩) vs.length es.length j c c2 F fxx fxy fyx fyy w rfl rfl h h2 hl hl2 (by omega) HI.out (eokr_av HT2.out) ia ib
      have hrx := rpt_some HX.out
      have hry := rpt_some HY.out
      obtain ⟨kx, hkx, _⟩ := find_idx HX.out
      obtain ⟨ky, hky, _⟩ := find_idx HY.out
      rw [hkx] at hvx
      rw [hky] at hvy
      simp only [ixZ] at hvx hvy
      have ho2 := HO.out
      rw [hrx, hry] at ho2
      clear HO
      obtain ⟨v7, hv7⟩ : ∃ v, onWayR vs ⟨fxx, fxy⟩ ⟨fyx, fyy⟩ = v := ⟨_, rfl⟩
      obtain ⟨v8, hv8⟩ : ∃ v, meetsR vs (es.take j) ⟨fxx, fxy⟩ ⟨fyx, fyy⟩ = v := ⟨_, rfl⟩
      simp only [hv7] at hon
      simp only [hv8] at hmt
      rw [hv7, hv8] at ho2
      have HO := Lib.hid ho2
      clear ho2 hv7 hv8 hrx hry hkx hky ia ib
      cases v6
      rotate_left 1
      ·as_aux_lemma =>
       have tk0 : True := trivial
       have tk1 : True := trivial
       go_wp2_with (first
        | (guard_target = Code.wp _ (Code.region 18 _ true) _ _ _; refine plan7r3 ?_; clear H; (try clear w2); intro w2 H)
        | (guard_target = Code.wp _ (Code.region 20 _ true) _ _ _; refine plan7r4 ?_; clear H; (try clear w2); intro w2 H)
        | (guard_target = Code.wp _ (Code.region 21 _ true) _ _ _; refine plan7r5 ?_; clear H; (try clear w2); intro w2 H)
        | (go_at_call 19; (with_reducible refine (hvx _ _ (aD f0)).mono ?_); rintro e w3 ⟨rfl, hb⟩; replace H := H.ext hb; clear hb; dsimp only; (refine a8c34bfe ?_; clear hK K))
        | (go_at_call 19; (with_reducible refine (hvy _ _ (aD f0)).mono ?_); rintro e w3 ⟨rfl, hb⟩; replace H := H.ext hb; clear hb; dsimp only; (refine a8c34bfe ?_; clear hK K))
        | (go_at_call 20; (with_reducible refine (hlk _ _ (eh _ _ (aD f9))).mono ?_); rintro e w3 ⟨rfl, hb⟩; replace H := H.ext hb; clear hb; dsimp only; (refine a8c34bfe ?_; clear hK K))
        | ((first | guard_target = wpList _ _ _ (_ :: _) _ _ | guard_target = wpTree _ _ _ _ _ _ _); (first | (refine aa335462 ?_) | (refine a43dfdd6 ?_; clear H; (try clear w2); intro w2 H) | (refine a32a6bca ?_; intro b2; clear H; (try clear w2); intro w2 H; (clear tk0; rename Nat => b6)) | (guard_target = wpTree _ _ _ Tr.nil _ _ _; refine tree_nil ?_) | (refine ace93fc0 ?_; intro K hK))))
       go_ret
       exact ⟨ret_b (by rw [← HV.out, rightR_e vs es hjl (by rw [HO.out]; simp)]), H.below⟩
      cases v7
      rotate_left 1
      ·as_aux_lemma =>
       have tk0 : True := trivial
       have tk1 : True := trivial
       go_wp2_with (first
        | (guard_target = Code.wp _ (Code.region 18 _ true) _ _ _; refine plan7r3 ?_; clear H; (try clear w2); intro w2 H)
        | (guard_target = Code.wp _ (Code.region 20 _ true) _ _ _; refine plan7r4 ?_; clear H; (try clear w2); intro w2 H)
        | (guard_target = Code.wp _ (Code.region 21 _ true) _ _ _; refine plan7r5 ?_; clear H; (try clear w2); intro w2 H)
        | (go_at_call 19; (with_reducible refine (hvx _ _ (aD f0)).mono ?_); rintro e w3 ⟨rfl, hb⟩; replace H := H.ext hb; clear hb; dsimp only; (refine a8c34bfe ?_; clear hK K))
        | (go_at_call 19; (with_reducible refine (hvy _ _ (aD f0)).mono ?_); rintro e w3 ⟨rfl, hb⟩; replace H := H.ext hb; clear hb; dsimp only; (refine a8c34bfe ?_; clear hK K))
        | (go_at_call 20; (with_reducible refine (hlk _ _ (eh _ _ (aD f9))).mono ?_); rintro e w3 ⟨rfl, hb⟩; replace H := H.ext hb; clear hb; dsimp only; (refine a8c34bfe ?_; clear hK K))
        | (go_at_call 22; (with_reducible refine (hax _ _ (aD f0)).mono ?_); rintro e w3 ⟨rfl, hb⟩; replace H := H.ext hb; clear hb; dsimp only; (refine a8c34bfe ?_; clear hK K))
        | (go_at_call 22; (with_reducible refine (hay _ _ (aD f0)).mono ?_); rintro e w3 ⟨rfl, hb⟩; replace H := H.ext hb; clear hb; dsimp only; (refine a8c34bfe ?_; clear hK K))
        | (go_at_call 21; (with_reducible refine (hon _ _ (aD f0)).mono ?_); rintro e w3 ⟨rfl, hb⟩; replace H := H.ext hb; clear hb; dsimp only; (refine a8c34bfe ?_; clear hK K))
        | ((first | guard_target = wpList _ _ _ (_ :: _) _ _ | guard_target = wpTree _ _ _ _ _ _ _); (first | (refine aa335462 ?_) | (refine a43dfdd6 ?_; clear H; (try clear w2); intro w2 H) | (refine a32a6bca ?_; intro b2; clear H; (try clear w2); intro w2 H; (clear tk0; rename Nat => b6)) | (guard_target = wpTree _ _ _ Tr.nil _ _ _; refine tree_nil ?_) | (refine ace93fc0 ?_; intro K hK))))
       go_ret
       exact ⟨ret_b (by rw [← HV.out, rightR_e vs es hjl (by rw [HO.out]; simp)]), H.below⟩
      cases v8
      rotate_left 1
      ·as_aux_lemma =>
       have tk0 : True := trivial
       have tk1 : True := trivial
       go_wp2_with (first
        | (guard_target = Code.wp _ (Code.region 18 _ true) _ _ _; refine plan7r3 ?_; clear H; (try clear w2); intro w2 H)
        | (guard_target = Code.wp _ (Code.region 20 _ true) _ _ _; refine plan7r4 ?_; clear H; (try clear w2); intro w2 H)
        | (guard_target = Code.wp _ (Code.region 21 _ true) _ _ _; refine plan7r5 ?_; clear H; (try clear w2); intro w2 H)
        | (go_at_call 19; (with_reducible refine (hvx _ _ (aD f0)).mono ?_); rintro e w3 ⟨rfl, hb⟩; replace H := H.ext hb; clear hb; dsimp only; (refine a8c34bfe ?_; clear hK K))
        | (go_at_call 19; (with_reducible refine (hvy _ _ (aD f0)).mono ?_); rintro e w3 ⟨rfl, hb⟩; replace H := H.ext hb; clear hb; dsimp only; (refine a8c34bfe ?_; clear hK K))
        | (go_at_call 20; (with_reducible refine (hlk _ _ (eh _ _ (aD f9))).mono ?_); rintro e w3 ⟨rfl, hb⟩; replace H := H.ext hb; clear hb; dsimp only; (refine a8c34bfe ?_; clear hK K))
        | (go_at_call 22; (with_reducible refine (hax _ _ (aD f0)).mono ?_); rintro e w3 ⟨rfl, hb⟩; replace H := H.ext hb; clear hb; dsimp only; (refine a8c34bfe ?_; clear hK K))
        | (go_at_call 22; (with_reducible refine (hay _ _ (aD f0)).mono ?_); rintro e w3 ⟨rfl, hb⟩; replace H := H.ext hb; clear hb; dsimp only; (refine a8c34bfe ?_; clear hK K))
        | (go_at_call 21; (with_reducible refine (hon _ _ (aD f0)).mono ?_); rintro e w3 ⟨rfl, hb⟩; replace H := H.ext hb; clear hb; dsimp only; (refine a8c34bfe ?_; clear hK K))
        | (go_at_call 23; (with_reducible refine (hmt _ _ (aD f0) (aD f9)).mono ?_); rintro e w3 ⟨rfl, hb⟩; replace H := H.ext hb; clear hb; dsimp only; (refine a8c34bfe ?_; clear hK K))
        | ((first | guard_target = wpList _ _ _ (_ :: _) _ _ | guard_target = wpTree _ _ _ _ _ _ _); (first | (refine aa335462 ?_) | (refine a43dfdd6 ?_; clear H; (try clear w2); intro w2 H) | (refine a32a6bca ?_; intro b2; clear H; (try clear w2); intro w2 H; (clear tk0; rename Nat => b6)) | (guard_target = wpTree _ _ _ Tr.nil _ _ _; refine tree_nil ?_) | (refine ace93fc0 ?_; intro K hK))))
       go_ret
       exact ⟨ret_b (by rw [← HV.out, rightR_e vs es hjl (by rw [HO.out]; simp)]), H.below⟩
      ·as_aux_lemma =>
       have tk0 : True := trivial
       have tk1 : True := trivial
       go_wp2_with (first
        | (guard_target = Code.wp _ (Code.region 18 _ true) _ _ _; refine plan7r3 ?_; clear H; (try clear w2); intro w2 H)
        | (guard_target = Code.wp _ (Code.region 20 _ true) _ _ _; refine plan7r4 ?_; clear H; (try clear w2); intro w2 H)
        | (guard_target = Code.wp _ (Code.region 21 _ true) _ _ _; refine plan7r5 ?_; clear H; (try clear w2); intro w2 H)
        | (go_at_call 19; (with_reducible refine (hvx _ _ (aD f0)).mono ?_); rintro e w3 ⟨rfl, hb⟩; replace H := H.ext hb; clear hb; dsimp only; (refine a8c34bfe ?_; clear hK K))
        | (go_at_call 19; (with_reducible refine (hvy _ _ (aD f0)).mono ?_); rintro e w3 ⟨rfl, hb⟩; replace H := H.ext hb; clear hb; dsimp only; (refine a8c34bfe ?_; clear hK K))
        | (go_at_call 20; (with_reducible refine (hlk _ _ (eh _ _ (aD f9))).mono ?_); rintro e w3 ⟨rfl, hb⟩; replace H := H.ext hb; clear hb; dsimp only; (refine a8c34bfe ?_; clear hK K))
        | (go_at_call 22; (with_reducible refine (hax _ _ (aD f0)).mono ?_); rintro e w3 ⟨rfl, hb⟩; replace H := H.ext hb; clear hb; dsimp only; (refine a8c34bfe ?_; clear hK K))
        | (go_at_call 22; (with_reducible refine (hay _ _ (aD f0)).mono ?_); rintro e w3 ⟨rfl, hb⟩; replace H := H.ext hb; clear hb; dsimp only; (refine a8c34bfe ?_; clear hK K))
        | (go_at_call 21; (with_reducible refine (hon _ _ (aD f0)).mono ?_); rintro e w3 ⟨rfl, hb⟩; replace H := H.ext hb; clear hb; dsimp only; (refine a8c34bfe ?_; clear hK K))
        | (go_at_call 23; (with_reducible refine (hmt _ _ (aD f0) (aD f9)).mono ?_); rintro e w3 ⟨rfl, hb⟩; replace H := H.ext hb; clear hb; dsimp only; (refine a8c34bfe ?_; clear hK K))
        | ((first | guard_target = wpList _ _ _ (_ :: _) _ _ | guard_target = wpTree _ _ _ _ _ _ _); (first | (refine aa335462 ?_) | (refine a43dfdd6 ?_; clear H; (try clear w2); intro w2 H) | (refine a32a6bca ?_; intro b2; clear H; (try clear w2); intro w2 H; (clear tk0; rename Nat => b6)) | (guard_target = wpTree _ _ _ Tr.nil _ _ _; refine tree_nil ?_) | (refine ace93fc0 ?_; intro K hK))))
       go_roundg (gk - 1)
       case rel =>
        have e1 : es.length - (gk - 1) = j + 1 := by have := HJ.out; omega
        exact ⟨by omega, by have := HJ.out; congr 1; omega, by rw [e1]; exact rangeR_step HT2.out (by rw [HO.out]; simp), H.tail.tail⟩
       case measure => omega
     ·have jp : 0 < j := by omega
      obtain ⟨pi, px, py, hpe⟩ := eg_at es (k := j - 1) (by omega)
      have hpp := at_eid (A := some ⟨b9, o9, none⟩) (b := b9) (off := o9) hpe
      have hpv : prevE es j = pi := by unfold prevE; rw [hpe]; rfl
      have jd : (decide (0 < j)) = true := by simp; omega
      rw [hpv] at hok
      clear hpe hpv
      have j1 : (j : Int) - 1 = ((j - 1 : Nat) : Int) := by omega
      obtain ⟨v2, hv2⟩ : ∃ v, decide (i ≤ pi) = v := ⟨_, rfl⟩
      rw [hv2, jd] at hok
      have HO := Lib.hid hok
      clear hok jd
      cases v2
      rotate_left 1
      ·as_aux_lemma =>
       have tk0 : True := trivial
       have tk1 : True := trivial
       go_wp2_with (first
        | (guard_target = Code.wp _ (Code.region 18 _ true) _ _ _; refine plan7r3 ?_; clear H; (try clear w2); intro w2 H)
        | ((first | guard_target = wpList _ _ _ (_ :: _) _ _ | guard_target = wpTree _ _ _ _ _ _ _); (first | (refine aa335462 ?_) | (refine a43dfdd6 ?_; clear H; (try clear w2); intro w2 H) | (refine a32a6bca ?_; intro b2; clear H; (try clear w2); intro w2 H; (clear tk0; rename Nat => b6)) | (guard_target = wpTree _ _ _ Tr.nil _ _ _; refine tree_nil ?_))))
       go_ret
       exact ⟨ret_b (by rw [← HV.out, rightR_e vs es hjl (by rw [HO.out]; simp)]), H.below⟩
      cases v3
      rotate_left 1
      ·as_aux_lemma =>
       have tk0 : True := trivial
       have tk1 : True := trivial
       go_wp2_with (first
        | (guard_target = Code.wp _ (Code.region 18 _ true) _ _ _; refine plan7r3 ?_; clear H; (try clear w2); intro w2 H)
        | ((first | guard_target = wpList _ _ _ (_ :: _) _ _ | guard_target = wpTree _ _ _ _ _ _ _); (first | (refine aa335462 ?_) | (refine a43dfdd6 ?_; clear H; (try clear w2); intro w2 H) | (refine a32a6bca ?_; intro b2; clear H; (try clear w2); intro w2 H; (clear tk0; rename Nat => b6)) | (guard_target = wpTree _ _ _ Tr.nil _ _ _; refine tree_nil ?_))))
       go_ret
       exact ⟨ret_b (by rw [← HV.out, rightR_e vs es hjl (by rw [HO.out]; simp)]), H.below⟩
      rcases fx with _ | ⟨fxi, ⟨fxx, fxy⟩⟩
      ·rw [idx_none HX.out] at hvx
       simp only [ixZ] at hvx
       have tk0 : True := trivial
       have tk1 : True := trivial
       go_wp2_with (first
        | (guard_target = Code.wp _ (Code.region 18 _ true) _ _ _; refine plan7r3 ?_; clear H; (try clear w2); intro w2 H)
        | (go_at_call 19; (with_reducible refine (hvx _ _ (aD f0)).mono ?_); rintro e w3 ⟨rfl, hb⟩; replace H := H.ext hb; clear hb; dsimp only; (refine a8c34bfe ?_; clear hK K))
        | ((first | guard_target = wpList _ _ _ (_ :: _) _ _ | guard_target = wpTree _ _ _ _ _ _ _); (first | (refine aa335462 ?_) | (refine a43dfdd6 ?_; clear H; (try clear w2); intro w2 H) | (refine a32a6bca ?_; intro b2; clear H; (try clear w2); intro w2 H; (clear tk0; rename Nat => b6)) | (guard_target = wpTree _ _ _ Tr.nil _ _ _; refine tree_nil ?_) | (refine ace93fc0 ?_; intro K hK))))
       go_ret
       exact ⟨ret_b (by rw [← HV.out, rightR_e vs es hjl (by rw [HO.out]; simp)]), H.below⟩
      rcases fy with _ | ⟨fyi, ⟨fyx, fyy⟩⟩
      ·rw [idx_none HY.out] at hvy
       simp only [ixZ] at hvy
       obtain ⟨kx, hkx, _⟩ := find_idx HX.out
       rw [hkx] at hvx
       simp only [ixZ] at hvx
       have tk0 : True := trivial
       have tk1 : True := trivial
       go_wp2_with (first
        | (guard_target = Code.wp _ (Code.region 18 _ true) _ _ _; refine plan7r3 ?_; clear H; (try clear w2); intro w2 H)
        | (go_at_call 19; (with_reducible refine (hvx _ _ (aD f0)).mono ?_); rintro e w3 ⟨rfl, hb⟩; replace H := H.ext hb; clear hb; dsimp only; (refine a8c34bfe ?_; clear hK K))
        | (go_at_call 19; (with_reducible refine (hvy _ _ (aD f0)).mono ?_); rintro e w3 ⟨rfl, hb⟩; replace H := H.ext hb; clear hb; dsimp only; (refine a8c34bfe ?_; clear hK K))
        | ((first | guard_target = wpList _ _ _ (_ :: _) _ _ | guard_target = wpTree _ _ _ _ _ _ _); (first | (refine aa335462 ?_) | (refine a43dfdd6 ?_; clear H; (try clear w2); intro w2 H) | (refine a32a6bca ?_; intro b2; clear H; (try clear w2); intro w2 H; (clear tk0; rename Nat => b6)) | (guard_target = wpTree _ _ _ Tr.nil _ _ _; refine tree_nil ?_) | (refine ace93fc0 ?_; intro K hK))))
       go_ret
       exact ⟨ret_b (by rw [← HV.out, rightR_e vs es hjl (by rw [HO.out]; simp)]), H.below⟩
      have hax := fun F w h => refAt_any vs A (some ⟨b9, o9, none⟩) vs.length es.length c c2 F x fxi fxx fxy w rfl h hl HX.out
      have hay := fun F w h => refAt_any vs A (some ⟨b9, o9, none⟩) vs.length es.length c c2 F y fyi fyx fyy w rfl h hl HY.out
      have ia := HI.out _ (List.mem_of_find?_eq_some HX.out)
      have ib := HI.out _ (List.mem_of_find?_eq_some HY.out)
      have hon := fun F w h => onWayR_any vs A (some ⟨b9, o9, none⟩) vs.length es.length c c2 F fxx fxy fyx fyy w rfl h hl HI.out ia ib
      have hmt := fun F w h h2 => meetsR_any vs es A (some ⟨b9, o9, none⟩) vs.length es.length j c c2 F fxx fxy fyx fyy w rfl rfl h h2 hl hl2 (by omega) HI.out (eokr_av HT2.out) ia ib
      have hrx := rpt_some HX.out
      have hry := rpt_some HY.out
      obtain ⟨kx, hkx, _⟩ := find_idx HX.out
      obtain ⟨ky, hky, _⟩ := find_idx HY.out
      rw [hkx] at hvx
      rw [hky] at hvy
      simp only [ixZ] at hvx hvy
      have ho2 := HO.out
      rw [hrx, hry] at ho2
      clear HO
      obtain ⟨v7, hv7⟩ : ∃ v, onWayR vs ⟨fxx, fxy⟩ ⟨fyx, fyy⟩ = v := ⟨_, rfl⟩
      obtain ⟨v8, hv8⟩ : ∃ v, meetsR vs (es.take j) ⟨fxx, fxy⟩ ⟨fyx, fyy⟩ = v := ⟨_, rfl⟩
      simp only [hv7] at hon
      simp only [hv8] at hmt
      rw [hv7, hv8] at ho2
      have HO := Lib.hid ho2
      clear ho2 hv7 hv8 hrx hry hkx hky ia ib
      cases v6
      rotate_left 1
      ·as_aux_lemma =>
       have tk0 : True := trivial
       have tk1 : True := trivial
       go_wp2_with (first
        | (guard_target = Code.wp _ (Code.region 18 _ true) _ _ _; refine plan7r3 ?_; clear H; (try clear w2); intro w2 H)
        | (guard_target = Code.wp _ (Code.region 20 _ true) _ _ _; refine plan7r4 ?_; clear H; (try clear w2); intro w2 H)
        | (guard_target = Code.wp _ (Code.region 21 _ true) _ _ _; refine plan7r5 ?_; clear H; (try clear w2); intro w2 H)
        | (go_at_call 19; (with_reducible refine (hvx _ _ (aD f0)).mono ?_); rintro e w3 ⟨rfl, hb⟩; replace H := H.ext hb; clear hb; dsimp only; (refine a8c34bfe ?_; clear hK K))
        | (go_at_call 19; (with_reducible refine (hvy _ _ (aD f0)).mono ?_); rintro e w3 ⟨rfl, hb⟩; replace H := H.ext hb; clear hb; dsimp only; (refine a8c34bfe ?_; clear hK K))
        | (go_at_call 20; (with_reducible refine (hlk _ _ (eh _ _ (aD f9))).mono ?_); rintro e w3 ⟨rfl, hb⟩; replace H := H.ext hb; clear hb; dsimp only; (refine a8c34bfe ?_; clear hK K))
        | ((first | guard_target = wpList _ _ _ (_ :: _) _ _ | guard_target = wpTree _ _ _ _ _ _ _); (first | (refine aa335462 ?_) | (refine a43dfdd6 ?_; clear H; (try clear w2); intro w2 H) | (refine a32a6bca ?_; intro b2; clear H; (try clear w2); intro w2 H; (clear tk0; rename Nat => b6)) | (guard_target = wpTree _ _ _ Tr.nil _ _ _; refine tree_nil ?_) | (refine ace93fc0 ?_; intro K hK))))
       go_ret
       exact ⟨ret_b (by rw [← HV.out, rightR_e vs es hjl (by rw [HO.out]; simp)]), H.below⟩
      cases v7
      rotate_left 1
      ·as_aux_lemma =>
       have tk0 : True := trivial
       have tk1 : True := trivial
       go_wp2_with (first
        | (guard_target = Code.wp _ (Code.region 18 _ true) _ _ _; refine plan7r3 ?_; clear H; (try clear w2); intro w2 H)
        | (guard_target = Code.wp _ (Code.region 20 _ true) _ _ _; refine plan7r4 ?_; clear H; (try clear w2); intro w2 H)
        | (guard_target = Code.wp _ (Code.region 21 _ true) _ _ _; refine plan7r5 ?_; clear H; (try clear w2); intro w2 H)
        | (go_at_call 19; (with_reducible refine (hvx _ _ (aD f0)).mono ?_); rintro e w3 ⟨rfl, hb⟩; replace H := H.ext hb; clear hb; dsimp only; (refine a8c34bfe ?_; clear hK K))
        | (go_at_call 19; (with_reducible refine (hvy _ _ (aD f0)).mono ?_); rintro e w3 ⟨rfl, hb⟩; replace H := H.ext hb; clear hb; dsimp only; (refine a8c34bfe ?_; clear hK K))
        | (go_at_call 20; (with_reducible refine (hlk _ _ (eh _ _ (aD f9))).mono ?_); rintro e w3 ⟨rfl, hb⟩; replace H := H.ext hb; clear hb; dsimp only; (refine a8c34bfe ?_; clear hK K))
        | (go_at_call 22; (with_reducible refine (hax _ _ (aD f0)).mono ?_); rintro e w3 ⟨rfl, hb⟩; replace H := H.ext hb; clear hb; dsimp only; (refine a8c34bfe ?_; clear hK K))
        | (go_at_call 22; (with_reducible refine (hay _ _ (aD f0)).mono ?_); rintro e w3 ⟨rfl, hb⟩; replace H := H.ext hb; clear hb; dsimp only; (refine a8c34bfe ?_; clear hK K))
        | (go_at_call 21; (with_reducible refine (hon _ _ (aD f0)).mono ?_); rintro e w3 ⟨rfl, hb⟩; replace H := H.ext hb; clear hb; dsimp only; (refine a8c34bfe ?_; clear hK K))
        | ((first | guard_target = wpList _ _ _ (_ :: _) _ _ | guard_target = wpTree _ _ _ _ _ _ _); (first | (refine aa335462 ?_) | (refine a43dfdd6 ?_; clear H; (try clear w2); intro w2 H) | (refine a32a6bca ?_; intro b2; clear H; (try clear w2); intro w2 H; (clear tk0; rename Nat => b6)) | (guard_target = wpTree _ _ _ Tr.nil _ _ _; refine tree_nil ?_) | (refine ace93fc0 ?_; intro K hK))))
       go_ret
       exact ⟨ret_b (by rw [← HV.out, rightR_e vs es hjl (by rw [HO.out]; simp)]), H.below⟩
      cases v8
      rotate_left 1
      ·as_aux_lemma =>
       have tk0 : True := trivial
       have tk1 : True := trivial
       go_wp2_with (first
        | (guard_target = Code.wp _ (Code.region 18 _ true) _ _ _; refine plan7r3 ?_; clear H; (try clear w2); intro w2 H)
        | (guard_target = Code.wp _ (Code.region 20 _ true) _ _ _; refine plan7r4 ?_; clear H; (try clear w2); intro w2 H)
        | (guard_target = Code.wp _ (Code.region 21 _ true) _ _ _; refine plan7r5 ?_; clear H; (try clear w2); intro w2 H)
        | (go_at_call 19; (with_reducible refine (hvx _ _ (aD f0)).mono ?_); rintro e w3 ⟨rfl, hb⟩; replace H := H.ext hb; clear hb; dsimp only; (refine a8c34bfe ?_; clear hK K))
        | (go_at_call 19; (with_reducible refine (hvy _ _ (aD f0)).mono ?_); rintro e w3 ⟨rfl, hb⟩; replace H := H.ext hb; clear hb; dsimp only; (refine a8c34bfe ?_; clear hK K))
        | (go_at_call 20; (with_reducible refine (hlk _ _ (eh _ _ (aD f9))).mono ?_); rintro e w3 ⟨rfl, hb⟩; replace H := H.ext hb; clear hb; dsimp only; (refine a8c34bfe ?_; clear hK K))
        | (go_at_call 22; (with_reducible refine (hax _ _ (aD f0)).mono ?_); rintro e w3 ⟨rfl, hb⟩; replace H := H.ext hb; clear hb; dsimp only; (refine a8c34bfe ?_; clear hK K))
        | (go_at_call 22; (with_reducible refine (hay _ _ (aD f0)).mono ?_); rintro e w3 ⟨rfl, hb⟩; replace H := H.ext hb; clear hb; dsimp only; (refine a8c34bfe ?_; clear hK K))
        | (go_at_call 21; (with_reducible refine (hon _ _ (aD f0)).mono ?_); rintro e w3 ⟨rfl, hb⟩; replace H := H.ext hb; clear hb; dsimp only; (refine a8c34bfe ?_; clear hK K))
        | (go_at_call 23; (with_reducible refine (hmt _ _ (aD f0) (aD f9)).mono ?_); rintro e w3 ⟨rfl, hb⟩; replace H := H.ext hb; clear hb; dsimp only; (refine a8c34bfe ?_; clear hK K))
        | ((first | guard_target = wpList _ _ _ (_ :: _) _ _ | guard_target = wpTree _ _ _ _ _ _ _); (first | (refine aa335462 ?_) | (refine a43dfdd6 ?_; clear H; (try clear w2); intro w2 H) | (refine a32a6bca ?_; intro b2; clear H; (try clear w2); intro w2 H; (clear tk0; rename Nat => b6)) | (guard_target = wpTree _ _ _ Tr.nil _ _ _; refine tree_nil ?_) | (refine ace93fc0 ?_; intro K hK))))
       go_ret
       exact ⟨ret_b (by rw [← HV.out, rightR_e vs es hjl (by rw [HO.out]; simp)]), H.below⟩
      ·as_aux_lemma =>
       have tk0 : True := trivial
       have tk1 : True := trivial
       go_wp2_with (first
        | (guard_target = Code.wp _ (Code.region 18 _ true) _ _ _; refine plan7r3 ?_; clear H; (try clear w2); intro w2 H)
        | (guard_target = Code.wp _ (Code.region 20 _ true) _ _ _; refine plan7r4 ?_; clear H; (try clear w2); intro w2 H)
        | (guard_target = Code.wp _ (Code.region 21 _ true) _ _ _; refine plan7r5 ?_; clear H; (try clear w2); intro w2 H)
        | (go_at_call 19; (with_reducible refine (hvx _ _ (aD f0)).mono ?_); rintro e w3 ⟨rfl, hb⟩; replace H := H.ext hb; clear hb; dsimp only; (refine a8c34bfe ?_; clear hK K))
        | (go_at_call 19; (with_reducible refine (hvy _ _ (aD f0)).mono ?_); rintro e w3 ⟨rfl, hb⟩; replace H := H.ext hb; clear hb; dsimp only; (refine a8c34bfe ?_; clear hK K))
        | (go_at_call 20; (with_reducible refine (hlk _ _ (eh _ _ (aD f9))).mono ?_); rintro e w3 ⟨rfl, hb⟩; replace H := H.ext hb; clear hb; dsimp only; (refine a8c34bfe ?_; clear hK K))
        | (go_at_call 22; (with_reducible refine (hax _ _ (aD f0)).mono ?_); rintro e w3 ⟨rfl, hb⟩; replace H := H.ext hb; clear hb; dsimp only; (refine a8c34bfe ?_; clear hK K))
        | (go_at_call 22; (with_reducible refine (hay _ _ (aD f0)).mono ?_); rintro e w3 ⟨rfl, hb⟩; replace H := H.ext hb; clear hb; dsimp only; (refine a8c34bfe ?_; clear hK K))
        | (go_at_call 21; (with_reducible refine (hon _ _ (aD f0)).mono ?_); rintro e w3 ⟨rfl, hb⟩; replace H := H.ext hb; clear hb; dsimp only; (refine a8c34bfe ?_; clear hK K))
        | (go_at_call 23; (with_reducible refine (hmt _ _ (aD f0) (aD f9)).mono ?_); rintro e w3 ⟨rfl, hb⟩; replace H := H.ext hb; clear hb; dsimp only; (refine a8c34bfe ?_; clear hK K))
        | ((first | guard_target = wpList _ _ _ (_ :: _) _ _ | guard_target = wpTree _ _ _ _ _ _ _); (first | (refine aa335462 ?_) | (refine a43dfdd6 ?_; clear H; (try clear w2); intro w2 H) | (refine a32a6bca ?_; intro b2; clear H; (try clear w2); intro w2 H; (clear tk0; rename Nat => b6)) | (guard_target = wpTree _ _ _ Tr.nil _ _ _; refine tree_nil ?_) | (refine ace93fc0 ?_; intro K hK))))
       go_roundg (gk - 1)
       case rel =>
        have e1 : es.length - (gk - 1) = j + 1 := by have := HJ.out; omega
        exact ⟨by omega, by have := HJ.out; congr 1; omega, by rw [e1]; exact rangeR_step HT2.out (by rw [HO.out]; simp), H.tail.tail⟩
       case measure => omega
    ·obtain rfl : gk = 0 := by omega
     have tk0 : True := trivial
     go_wp2_with (guard_target = wpList _ _ _ (_ :: _) _ _; (refine a15dc6b3 ?_))
     go_ret
     exact ⟨ret_b (by rw [← HV.out]; rw [Nat.sub_zero] at HT2; exact (rightR_y vs es (by omega) (by omega) HT.out HT2.out).symm), H.below⟩
end Go.Proofs.YtlhmjhildlnokaaGreat
namespace Go.Proofs.YtlhmjhildlnokaaGreat
set_option linter.unusedVariables false
set_option linter.constructorNameAsVariable false
open Go.RowKit Go.WideShapes Go.ChangeShapes
theorem add_add (a : Addr) (m j : Nat) : (a.add m).add j = a.add (m + j) := by
 by_cases hm : m = 0
 ·subst hm; simp [Addr.add]
 ·by_cases hj : j = 0
  ·subst hj; simp [Addr.add]
  ·simp [Addr.add, hm, hj, Nat.add_assoc]
theorem len2 {l : List Value} (h : l.length = 2) : ∃ a b, l = [a, b] := by
 match l, h with
 | [a, b], _ => exact ⟨a, b, rfl⟩
theorem len3 {l : List Value} (h : l.length = 3) : ∃ a b c, l = [a, b, c] := by
 match l, h with
 | [a, b, c], _ => exact ⟨a, b, c, rfl⟩
section
variable {H : Type} {enc : TypeId × Value → H} {P : Program} {w : World} {base : Nat} {spare : Nat → Bool} {held : Bool}
theorem trod_rows {α : Type} {f : α → List Value} {Q : α → Prop} {t e : TypeId} {n : Nat} {cs : List Value} {y : DataW H × List MemPlace} (ht : P.underlying t = some (.slice e)) (hc : P.cellsOf e = 3) (hf3 : ∀ a, (f a).length = 3)
  (hE : ∀ (n : Nat) cs x, DataW.trod enc P w base spare held n e cs = some x → ∃ a, cs = f a ∧ Q a) (h : DataW.trod enc P w base spare held n t cs = some y) :
  ∃ (A : Option Addr) (cap : Nat) (L : List α), cs = [.slice A L.length cap] ∧ L.length ≤ cap ∧ cap ≤ maxLen ∧ (∀ a ∈ L, Q a) ∧ Row w A (L.flatMap f) := by
 rcases DataW.trod_slice ht h with ⟨rfl, _⟩ | ⟨a, len, cap, elems, rest, n', _, rfl, _, hb, hl, hm, hlen, hel, _⟩
 ·exact ⟨none, 0, [], rfl, Nat.le_refl _, Nat.zero_le _, by simp, Row.nil_ _ _⟩
 ·have each : ∀ i, i < len → ∃ v : α, Q v ∧ ∀ j u, (f v)[j]? = some u → w.cell? (a.add (i * 3 + j)) = some u := by
   intro i hi
   have h1 := hel i hi
   have h2 : elems[i]? = some elems[i] := List.getElem?_eq_getElem (by omega)
   rw [h2, Option.bind_eq_some_iff] at h1
   obtain ⟨cs', h3, h4⟩ := h1
   obtain ⟨v, rfl, hq⟩ := hE _ _ _ h4
   refine ⟨v, hq, fun j u hj => ?_⟩
   have h5 := World.cells?_some h3
   rw [hc] at h5
   have hj3 : j < 3 := by have := (List.getElem?_eq_some_iff.1 hj).1; rw [hf3] at this; exact this
   have := h5.2.2 j hj3
   rw [hj] at this
   rw [← this, add_add]
  have choose : ∀ k, k ≤ len → ∃ L : List α, L.length = k ∧ (∀ v ∈ L, Q v) ∧ ∀ i v, L[i]? = some v → ∀ j u, (f v)[j]? = some u → w.cell? (a.add (i * 3 + j)) = some u := by
   intro k
   induction k with
   | zero => exact fun _ => ⟨[], rfl, by simp, by simp⟩
   | succ k ih =>
    intro hk
    obtain ⟨L, h1, h2, h3⟩ := ih (by omega)
    obtain ⟨v, h4, h5⟩ := each k (by omega)
    refine ⟨L ++ [v], by simp [h1], fun u hu => ?_, fun i u hi => ?_⟩
    ·rcases List.mem_append.1 hu with hu | hu
     ·exact h2 u hu
     ·obtain rfl := List.mem_singleton.1 hu; exact h4
    ·rw [List.getElem?_append] at hi
     split at hi
     ·exact h3 i u hi
     ·rename_i hik
      have : i - L.length = 0 := by
       by_cases h0 : i - L.length = 0
       ·exact h0
       ·rw [List.getElem?_eq_none (by simp; omega)] at hi; cases hi
      rw [this] at hi
      obtain rfl : v = u := by simpa using hi
      obtain rfl : i = k := by omega
      exact h5
  obtain ⟨L, h1, h2, h3⟩ := choose len (Nat.le_refl _)
  refine ⟨some a, cap, L, by rw [h1], by omega, hm, h2, Row.of_cells fun j v hv => ?_⟩
  have hj : j < L.length * 3 := by have := (List.getElem?_eq_some_iff.1 hv).1; rwa [flat3_len f hf3] at this
  have hi : j / 3 < L.length := by omega
  have hg : L[j / 3]? = some L[j / 3] := List.getElem?_eq_getElem hi
  have hat := flat3_at f hf3 L (j / 3) _ hg
  have := h3 (j / 3) _ hg (j % 3) v (by
   rw [← hat, List.getElem?_take, if_pos (Nat.mod_lt _ (by omega)), List.getElem?_drop, show j / 3 * 3 + j % 3 = j by omega]; exact hv)
  rwa [show j / 3 * 3 + j % 3 = j by omega] at this
theorem trod_flds {fs : Array Field} {t : TypeId} {n : Nat} {cs : List Value} {y : DataW H × List MemPlace} {l : List (TypeId × Nat)} (hu : P.underlying t = some (.struct fs)) (hfs : fs.toList.map (fun f => (f.type, f.offset)) = l)
  (h : DataW.trod enc P w base spare held n t cs = some y) : cs.length = P.cellsOf t ∧ ∀ u o, (u, o) ∈ l → ∃ n' x, DataW.trod enc P w base spare held n' u ((cs.drop o).take (P.cellsOf u)) = some x := by
 obtain ⟨xs, n', _, _, hlen, hxl, hx⟩ := DataW.trod_struct hu h
 refine ⟨hlen, fun u o hm => ?_⟩
 rw [← hfs] at hm
 obtain ⟨f, hf, e⟩ := List.mem_map.1 hm
 simp only [Prod.mk.injEq] at e
 obtain ⟨rfl, rfl⟩ := e
 obtain ⟨i, hi⟩ := List.getElem?_of_mem hf
 have hi' : fs[i]? = some f := by simpa using hi
 have := hx i f hi'
 have hil : i < xs.length := by rw [hxl]; exact (Array.getElem?_eq_some_iff.1 hi').1
 rw [List.getElem?_eq_getElem hil] at this
 exact ⟨n', _, this⟩
end
section
variable {H : Type} {enc : TypeId × Value → H} {w : World} {base : Nat} {spare : Nat → Bool} {held : Bool}
def In64 (n : Int) : Prop := -9223372036854775808 ≤ n ∧ n ≤ 9223372036854775807
theorem trod_pt {n : Nat} {cs : List Value} {y : DataW H × List MemPlace} (h : DataW.trod enc Tryz.prog w base spare held n 28 cs = some y) : ∃ a b, cs = [.int .i64 a, .int .i64 b] ∧ In64 a ∧ In64 b := by
 have hu : Tryz.prog.underlying 28 = some (.struct (Tryz.prog.fieldsOf 28)) := by kernel_rfl
 have hf : (Tryz.prog.fieldsOf 28).toList.map (fun f => (f.type, f.offset)) = [(3, 0), (3, 1)] := by kernel_rfl
 have hi : Tryz.prog.underlying 3 = some (.int .i64) := by kernel_rfl
 have hc : Tryz.prog.cellsOf 3 = 1 := by kernel_rfl
 have hC : Tryz.prog.cellsOf 28 = 2 := by kernel_rfl
 obtain ⟨hl, hx⟩ := trod_flds hu hf h
 rw [hC] at hl
 obtain ⟨c0, c1, rfl⟩ := len2 hl
 obtain ⟨_, _, h0⟩ := hx 3 0 (by simp)
 obtain ⟨_, _, h1⟩ := hx 3 1 (by simp)
 rw [hc] at h0 h1
 obtain ⟨a, ea, _, wa⟩ := DataW.trod_int hi h0
 obtain ⟨b, eb, _, wb⟩ := DataW.trod_int hi h1
 simp at ea eb
 subst ea eb
 exact ⟨a, b, rfl, bounds_i64 wa, bounds_i64 wb⟩
theorem trod_vt (n : Nat) (cs : List Value) (y : DataW H × List MemPlace) (h : DataW.trod enc Tryz.prog w base spare held n 48 cs = some y) : ∃ v : Vt, cs = t3 v.id v.p.x v.p.y ∧ (In64 v.id ∧ In64 v.p.x ∧ In64 v.p.y) := by
 have hu : Tryz.prog.underlying 48 = some (.struct (Tryz.prog.fieldsOf 48)) := by kernel_rfl
 have hf : (Tryz.prog.fieldsOf 48).toList.map (fun f => (f.type, f.offset)) = [(3, 0), (28, 1)] := by kernel_rfl
 have hi : Tryz.prog.underlying 3 = some (.int .i64) := by kernel_rfl
 have hc : Tryz.prog.cellsOf 3 = 1 := by kernel_rfl
 have hc2 : Tryz.prog.cellsOf 28 = 2 := by kernel_rfl
 have hC : Tryz.prog.cellsOf 48 = 3 := by kernel_rfl
 obtain ⟨hl, hx⟩ := trod_flds hu hf h
 rw [hC] at hl
 obtain ⟨c0, c1, c2, rfl⟩ := len3 hl
 obtain ⟨_, _, h0⟩ := hx 3 0 (by simp)
 obtain ⟨_, _, h1⟩ := hx 28 1 (by simp)
 rw [hc] at h0
 rw [hc2] at h1
 obtain ⟨a, ea, _, wa⟩ := DataW.trod_int hi h0
 obtain ⟨b, c, eb, wb, wc⟩ := trod_pt h1
 simp at ea eb
 obtain ⟨e1, e2⟩ := eb
 subst ea e1 e2
 exact ⟨⟨a, ⟨b, c⟩⟩, rfl, bounds_i64 wa, wb, wc⟩
theorem trod_eg (n : Nat) (cs : List Value) (y : DataW H × List MemPlace) (h : DataW.trod enc Tryz.prog w base spare held n 50 cs = some y) : ∃ v : Eg, cs = t3 v.id v.a v.b ∧ (In64 v.id ∧ In64 v.a ∧ In64 v.b) := by
 have hu : Tryz.prog.underlying 50 = some (.struct (Tryz.prog.fieldsOf 50)) := by kernel_rfl
 have hf : (Tryz.prog.fieldsOf 50).toList.map (fun f => (f.type, f.offset)) = [(3, 0), (3, 1), (3, 2)] := by kernel_rfl
 have hi : Tryz.prog.underlying 3 = some (.int .i64) := by kernel_rfl
 have hc : Tryz.prog.cellsOf 3 = 1 := by kernel_rfl
 have hC : Tryz.prog.cellsOf 50 = 3 := by kernel_rfl
 obtain ⟨hl, hx⟩ := trod_flds hu hf h
 rw [hC] at hl
 obtain ⟨c0, c1, c2, rfl⟩ := len3 hl
 obtain ⟨_, _, h0⟩ := hx 3 0 (by simp)
 obtain ⟨_, _, h1⟩ := hx 3 1 (by simp)
 obtain ⟨_, _, h2⟩ := hx 3 2 (by simp)
 rw [hc] at h0 h1 h2
 obtain ⟨a, ea, _, wa⟩ := DataW.trod_int hi h0
 obtain ⟨b, eb, _, wb⟩ := DataW.trod_int hi h1
 obtain ⟨c, ec, _, wc⟩ := DataW.trod_int hi h2
 simp at ea eb ec
 subst ea eb ec
 exact ⟨⟨a, b, c⟩, rfl, bounds_i64 wa, bounds_i64 wb, bounds_i64 wc⟩
theorem row_sl {A : Option Addr} {xs : List Value} (h : Row w A xs) : Sl (fun _ => False) w A xs := by
 by_cases hp : 0 < xs.length
 ·obtain ⟨b, off, rfl, hc⟩ := h hp
  have h0 := hc 0 _ (List.getElem?_eq_getElem hp)
  exact ⟨b, off, fun _ => ⟨rfl, World.block_lt_of_cell? w _ h0, id⟩, hc⟩
 ·have : xs = [] := by cases xs with | nil => rfl | cons => simp at hp
  subst this
  exact Sl.nil_ _ _ _
structure PlArg (w : World) (A A2 : Option Addr) (c c2 : Nat) (vs : List Vt) (es : List Eg) : Prop where
 sv : Sl (fun _ => False) w A (vR vs)
 se : Sl (fun _ => False) w A2 (eR es)
 cv : vs.length ≤ c ∧ c ≤ maxLen
 ce : es.length ≤ c2 ∧ c2 ≤ maxLen
 wv : ∀ v ∈ vs, In64 v.id ∧ In64 v.p.x ∧ In64 v.p.y
 we : ∀ e ∈ es, In64 e.id ∧ In64 e.a ∧ In64 e.b
theorem open_plan {r : Reach} {b0 : Nat} {v : Value} {d : DataW H} {p : List MemPlace} (hv : Value.okWide Tryz.prog w r b0 25 v) (h : DataW.Trod enc Tryz.prog w base spare held 25 v d p) :
  ∃ A A2 c c2 vs es, v = .agg #[.slice A (vs : List Vt).length c, .slice A2 (es : List Eg).length c2] ∧ PlArg w A A2 c c2 vs es := by
 have hu : Tryz.prog.underlying 25 = some (.struct (Tryz.prog.fieldsOf 25)) := by kernel_rfl
 have hf : (Tryz.prog.fieldsOf 25).toList.map (fun f => (f.type, f.offset)) = [(22, 0), (23, 1)] := by kernel_rfl
 have hC : Tryz.prog.cellsOf 25 = 2 := by kernel_rfl
 have hc1 : Tryz.prog.cellsOf 22 = 1 := by kernel_rfl
 have hc2 : Tryz.prog.cellsOf 23 = 1 := by kernel_rfl
 have hs1 : Tryz.prog.underlying 22 = some (.slice 48) := by kernel_rfl
 have hs2 : Tryz.prog.underlying 23 = some (.slice 50) := by kernel_rfl
 simp only [Value.okWide, hu] at hv
 obtain ⟨cs, rfl, hsz, _⟩ := hv
 obtain ⟨fuel, hx⟩ := h
 obtain ⟨hl, hx⟩ := trod_flds hu hf hx
 rw [hC] at hsz
 obtain ⟨l⟩ := cs
 simp only [List.size_toArray] at hsz
 obtain ⟨e0, e1, rfl⟩ := len2 hsz
 obtain ⟨_, _, h0⟩ := hx 22 0 (by simp)
 obtain ⟨_, _, h1⟩ := hx 23 1 (by simp)
 rw [hc1] at h0
 rw [hc2] at h1
 obtain ⟨A, c, vs, k1, k2, k3, k4, k5⟩ := trod_rows hs1 (by kernel_rfl) (fun _ => rfl) trod_vt h0
 obtain ⟨A2, c2, es, l1, l2, l3, l4, l5⟩ := trod_rows hs2 (by kernel_rfl) (fun _ => rfl) trod_eg h1
 simp [Value.cells] at k1 l1
 subst k1 l1
 exact ⟨A, A2, c, c2, vs, es, rfl, row_sl k5, row_sl l5, ⟨k2, k3⟩, ⟨l2, l3⟩, k4, l4⟩
theorem open_pt {r : Reach} {b0 : Nat} {v : Value} {d : DataW H} {p : List MemPlace} (hv : Value.okWide Tryz.prog w r b0 28 v) (h : DataW.Trod enc Tryz.prog w base spare held 28 v d p) :
  ∃ a b, v = pV a b ∧ In64 a ∧ In64 b := by
 have hu : Tryz.prog.underlying 28 = some (.struct (Tryz.prog.fieldsOf 28)) := by kernel_rfl
 simp only [Value.okWide, hu] at hv
 obtain ⟨cs, rfl, hsz, _⟩ := hv
 obtain ⟨fuel, hx⟩ := h
 obtain ⟨a, b, e, wa, wb⟩ := trod_pt hx
 obtain ⟨l⟩ := cs
 simp [Value.cells] at e
 subst e
 exact ⟨a, b, rfl, wa, wb⟩
end
end Go.Proofs.YtlhmjhildlnokaaGreat
namespace Go.Proofs.YtlhmjhildlnokaaGreat
set_option linter.unusedVariables false
open Go.RowKit
variable {P : Program} {B : Nat} {w0 w w' : World} {l l' : List Res} {o : Oper} {a : Act} {Q : Exit → Act → World → Prop}
theorem Own.slGrow {e size n c : Nat} {A : Option Addr} {xs : List Value} (H : Own B w0 w l) (hm : Res.grow e size (.slice A n c) n xs ∈ l) : Sl (fun _ => False) w A xs := by
 obtain ⟨A', cap, h, _, _, hs⟩ := H.giveGrow hm (F := fun _ => False) (fun _ h => h.elim)
 injection h with h1 h2 h3
 rw [h1]; exact hs
end Go.Proofs.YtlhmjhildlnokaaGreat
