/-
  The walks of the document's plan: links, what lies on a line, what is met.
-/
import Derived.Test.YtlhmjhildlnokaaGreatMd6b25c4b
import Derived.Test.YtlhmjhildlnokaaGreatMecd39090
namespace Go.Proofs.YtlhmjhildlnokaaGreat
set_option linter.unusedVariables false
set_option linter.unusedSimpArgs false
open Go.RowKit
theorem plan6r1 {P Q : Prop} (k : Q) (h : Hold Q → InR 4 0 (.q 0 (.q 1 (.q 2 (.q 3 (.q 4 (.q 5 (.q 6 (.q 7 (.e 8 .nil))))))))) P := by exact aR0) : P := h ⟨k⟩
theorem plan6r2 {P Q : Prop} (k : Q) (h : Hold Q → InR 4 0 (.q 0 (.q 1 (.q 2 (.q 3 (.q 4 (.q 5 (.q 6 (.q 7 (.q 8 (.q 10 (.q 11 (.q 12 (.q 13 (.q 14 (.q 15 (.q 16 (.e 9 (.e 17 (.e 18 .nil))))))))))))))))))) P := by exact aR0) : P := h ⟨k⟩
set_option maxRecDepth 100000 in
set_option maxHeartbeats 8000000 in
theorem links_any (es : List Eg) (A A2 : Option Addr) (n m : Nat) (c c2 : Nat) (F : Nat → Prop) (p q : Int) (w : World) (hn : n = es.length) (hs : Sl F w A (eR es)) (hl : n ≤ 1000000) :
    Calls Tryz.prog 20 #[.agg #[.slice A2 m c2, .slice A n c], .int .i64 p, .int .i64 q] w fun e w' => e = .returned (.bool (linksB es p q)) ∧ Below w.heap.size w w' := by
  obtain ⟨v, hv⟩ : ∃ v, linksB es p q = v := ⟨_, rfl⟩
  have HV := Lib.hid hv
  rw [hv]; clear hv
  obtain ⟨b0, o0, H, f0⟩ := (Own.start w).addSl (hs.ro (by rfl))
  clear hs
  subst hn
  unfold linksB at HV
  generalize hf : (fun e : Eg => (e.a == p && e.b == q) || (e.a == q && e.b == p)) = f at HV
  go_enter Tryz.func20, Tryz.ntmps20
  have tk0 : True := trivial
  go_wp2_with (guard_target = wpList _ _ _ (_ :: _) _ _; (refine a9475ade ?_; intro b2; clear H; (try clear w2); intro w2 H; (clear tk0; rename Nat => b1)))
  go_loopg [7] es.length (fun k i wr => k ≤ es.length ∧ i = .int .i64 ((es.length - k : Nat) : Int) ∧ (es.take (es.length - k)).any f = false ∧ Own w.heap.size w wr [.cells b1 [.slice A2 m c2, .slice A es.length c], .rd A b0 o0 (eR es)])
  case atStart => exact ⟨Nat.le_refl _, by simp, by simp, H⟩
  case round =>
    clear H
    obtain ⟨hk, rfl, ht, H⟩ := hrel
    have HT := Lib.hid ht
    clear ht
    by_cases hlt : 0 < gk
    · obtain ⟨j, hj⟩ : ∃ j, es.length - gk = j := ⟨_, rfl⟩
      have hjl : j < es.length := by omega
      rw [hj] at HT ⊢
      obtain ⟨i, x, y, he⟩ := eg_at es hjl
      obtain rfl := H.rdAddr m1 (eR_pos he)
      have hp := at_e (A := some ⟨b0, o0, none⟩) (b := b0) (off := o0) he
      obtain ⟨v1, hv1⟩ : ∃ v, (x == p) = v := ⟨_, rfl⟩
      obtain ⟨v2, hv2⟩ : ∃ v, (y == q) = v := ⟨_, rfl⟩
      obtain ⟨v3, hv3⟩ : ∃ v, (x == q) = v := ⟨_, rfl⟩
      obtain ⟨v4, hv4⟩ : ∃ v, (y == p) = v := ⟨_, rfl⟩
      have hfv : f ⟨i, x, y⟩ = ((v1 && v2) || (v3 && v4)) := by rw [← hf, ← hv1, ← hv2, ← hv3, ← hv4]
      have HF := Lib.hid hfv
      have HE := Lib.hid he
      have HJ := Lib.hid hj
      clear hfv he hj hf
      cases v1 <;> cases v2 <;> cases v3 <;> cases v4
      all_goals
        have tk0 : True := trivial
        go_wp2_with (first
          | go_big_skip
          | (guard_target = wpList _ _ _ (_ :: _) _ _; (first | (refine a15dc6b3 ?_) | (refine a181aa22 ?_; clear H; (try clear w2); intro w2 H) | (refine a9475ade ?_; intro b2; clear H; (try clear w2); intro w2 H; (clear tk0; rename Nat => b4)))))
        first
          | (go_roundg (gk - 1)
             case rel => exact ⟨by omega, by have := HJ.out; congr 1; omega, by rw [show es.length - (gk - 1) = j + 1 by have := HJ.out; omega]; exact any_step HE.out HT.out HF.out, H.tail⟩
             case measure => omega)
          | (go_ret
             exact ⟨ret_b (by rw [← HV.out, any_yes HE.out HF.out]), H.below⟩)
    · obtain rfl : gk = 0 := by omega
      have tk0 : True := trivial
      go_wp2_with (guard_target = wpList _ _ _ (_ :: _) _ _; (refine a15dc6b3 ?_))
      go_ret
      exact ⟨ret_b (by rw [← HV.out, ← HT.out, Nat.sub_zero, List.take_length]), H.below⟩
set_option maxRecDepth 100000 in
set_option maxHeartbeats 8000000 in
theorem onWayR_any (vs : List Vt) (A A2 : Option Addr) (n m : Nat) (c c2 : Nat) (F : Nat → Prop) (ax ay bx b_y : Int) (w : World) (hn : n = vs.length) (hs : Sl F w A (vR vs)) (hl : n ≤ 1000000)
    (hin : ∀ v ∈ vs, inB v.p = true) (ia : inB ⟨ax, ay⟩ = true) (ib : inB ⟨bx, b_y⟩ = true) :
    Calls Tryz.prog 21 #[.agg #[.slice A n c, .slice A2 m c2], pV ax ay, pV bx b_y] w fun e w' => e = .returned (.bool (onWayR vs ⟨ax, ay⟩ ⟨bx, b_y⟩)) ∧ Below w.heap.size w w' := by
  obtain ⟨v, hv⟩ : ∃ v, onWayR vs ⟨ax, ay⟩ ⟨bx, b_y⟩ = v := ⟨_, rfl⟩
  have HV := Lib.hid hv
  rw [hv]; clear hv
  obtain ⟨b0, o0, H, f0⟩ := (Own.start w).addSl (hs.ro (by rfl))
  clear hs
  subst hn
  unfold onWayR at HV
  have HI := Lib.hid hin
  have HIA := Lib.hid ia
  have HIB := Lib.hid ib
  clear hin ia ib
  generalize hf : (fun v : Vt => onR v.p ⟨ax, ay⟩ ⟨bx, b_y⟩) = f at HV
  have HF := Lib.hid hf
  clear hf
  go_enter Tryz.func21, Tryz.ntmps21
  have tk0 : True := trivial
  have tk1 : True := trivial
  have tk2 : True := trivial
  go_wp2_with (guard_target = wpList _ _ _ (_ :: _) _ _; (refine a9475ade ?_; intro b2; clear H; (try clear w2); intro w2 H; (first | (clear tk0; rename Nat => b1) | (clear tk1; rename Nat => b2) | (clear tk2; rename Nat => b3))))
  go_loopg [7] vs.length (fun k i wr => k ≤ vs.length ∧ i = .int .i64 ((vs.length - k : Nat) : Int) ∧ (vs.take (vs.length - k)).any f = false ∧ Own w.heap.size w wr [.cells b3 [.int .i64 bx, .int .i64 b_y], .cells b2 [.int .i64 ax, .int .i64 ay], .cells b1 [.slice A vs.length c, .slice A2 m c2], .rd A b0 o0 (vR vs)])
  case atStart => exact ⟨Nat.le_refl _, by simp, by simp, H⟩
  case round =>
    clear H
    obtain ⟨hk, rfl, ht, H⟩ := hrel
    have HT := Lib.hid ht
    clear ht
    by_cases hlt : 0 < gk
    · obtain ⟨j, hj⟩ : ∃ j, vs.length - gk = j := ⟨_, rfl⟩
      have hjl : j < vs.length := by omega
      rw [hj] at HT ⊢
      obtain ⟨i, x, y, he⟩ := vt_at vs hjl
      obtain rfl := H.rdAddr m3 (vR_pos he)
      have hp := at_vp (A := some ⟨b0, o0, none⟩) (b := b0) (off := o0) he
      have hon := refOn_any x y ax ay bx b_y (inB_P (HI.out _ (List.mem_of_getElem? he))) (inB_P HIA.out) (inB_P HIB.out)
      obtain ⟨v1, hv1⟩ : ∃ v, onR ⟨x, y⟩ ⟨ax, ay⟩ ⟨bx, b_y⟩ = v := ⟨_, rfl⟩
      have hfv : f ⟨i, ⟨x, y⟩⟩ = v1 := by rw [← HF.out]; exact hv1
      rw [hv1] at hon
      have HF1 := Lib.hid hfv
      have HE := Lib.hid he
      have HJ := Lib.hid hj
      clear hv1 hfv he hj
      cases v1
      · have tk0 : True := trivial
        go_wp2_with (first
          | (guard_target = Code.wp _ (Code.region 4 _ true) _ _ _; refine plan6r1 ?_; clear H; (try clear w2); intro w2 H)
          | (go_at_call 28; (with_reducible refine (hon _).mono ?_); rintro e w3 ⟨rfl, hb⟩; replace H := H.ext hb; clear hb; dsimp only; (refine a8c34bfe ?_; clear hK K))
          | ((first | guard_target = wpList _ _ _ (_ :: _) _ _ | guard_target = wpTree _ _ _ _ _ _ _); (first | (refine aa335462 ?_) | (guard_target = wpTree _ _ _ Tr.nil _ _ _; refine tree_nil ?_) | (refine ace93fc0 ?_; intro K hK))))
        go_roundg (gk - 1)
        case rel => exact ⟨by omega, by have := HJ.out; congr 1; omega, by rw [show vs.length - (gk - 1) = j + 1 by have := HJ.out; omega]; exact any_step HE.out HT.out HF1.out, H⟩
        case measure => omega
      · have tk0 : True := trivial
        go_wp2_with (first
          | (guard_target = Code.wp _ (Code.region 4 _ true) _ _ _; refine plan6r1 ?_; clear H; (try clear w2); intro w2 H)
          | (go_at_call 28; (with_reducible refine (hon _).mono ?_); rintro e w3 ⟨rfl, hb⟩; replace H := H.ext hb; clear hb; dsimp only; (refine a8c34bfe ?_; clear hK K))
          | ((first | guard_target = wpList _ _ _ (_ :: _) _ _ | guard_target = wpTree _ _ _ _ _ _ _); (first | (refine aa335462 ?_) | (guard_target = wpTree _ _ _ Tr.nil _ _ _; refine tree_nil ?_) | (refine ace93fc0 ?_; intro K hK))))
        go_ret
        exact ⟨ret_b (by rw [← HV.out, any_yes HE.out HF1.out]), H.below⟩
    · obtain rfl : gk = 0 := by omega
      have tk0 : True := trivial
      go_wp2_with (guard_target = wpList _ _ _ (_ :: _) _ _; (refine a15dc6b3 ?_))
      go_ret
      exact ⟨ret_b (by rw [← HV.out, ← HT.out, Nat.sub_zero, List.take_length]), H.below⟩
set_option maxRecDepth 100000 in
set_option maxHeartbeats 8000000 in
theorem meetsR_any (vs : List Vt) (es : List Eg) (A A2 : Option Addr) (n m u : Nat) (c c2 : Nat) (F : Nat → Prop) (ax ay bx b_y : Int) (w : World) (hn : n = vs.length) (hm : m = es.length) (hs : Sl F w A (vR vs)) (hs2 : Sl F w A2 (eR es)) (hl : n ≤ 1000000) (hl2 : m ≤ 1000000)
    (hu : u ≤ m) (hin : ∀ v ∈ vs, inB v.p = true) (hav : ∀ e ∈ es.take u, (∃ v, (vs.find? fun v => v.id == e.a) = some v) ∧ ∃ v, (vs.find? fun v => v.id == e.b) = some v) (ia : inB ⟨ax, ay⟩ = true) (ib : inB ⟨bx, b_y⟩ = true) :
    Calls Tryz.prog 23 #[.agg #[.slice A n c, .slice A2 m c2], pV ax ay, pV bx b_y, .int .i64 (u : Int)] w fun e w' => e = .returned (.bool (meetsR vs (es.take u) ⟨ax, ay⟩ ⟨bx, b_y⟩)) ∧ Below w.heap.size w w' := by
  obtain ⟨v, hv⟩ : ∃ v, meetsR vs (es.take u) ⟨ax, ay⟩ ⟨bx, b_y⟩ = v := ⟨_, rfl⟩
  have HV := Lib.hid hv
  rw [hv]; clear hv
  obtain ⟨b0, o0, H1, f0⟩ := (Own.start w).addSl (hs.ro (by rfl))
  obtain ⟨b9, o9, H, f9⟩ := H1.addSl (hs2.ro (by rfl))
  clear hs hs2 H1
  subst hn hm
  unfold meetsR at HV
  have HI := Lib.hid hin
  have HIA := Lib.hid ia
  have HIB := Lib.hid ib
  have HAV := Lib.hid hav
  clear hin ia ib hav
  generalize hf : (fun e : Eg => meetR ⟨ax, ay⟩ ⟨bx, b_y⟩ (rpt vs e.a) (rpt vs e.b)) = f at HV
  have HF := Lib.hid hf
  clear hf
  go_enter Tryz.func23, Tryz.ntmps23
  have tk0 : True := trivial
  have tk1 : True := trivial
  have tk2 : True := trivial
  go_wp2_with (guard_target = wpList _ _ _ (_ :: _) _ _; (refine a9475ade ?_; intro b2; clear H; (try clear w2); intro w2 H; (first | (clear tk0; rename Nat => b1) | (clear tk1; rename Nat => b2) | (clear tk2; rename Nat => b3))))
  go_loopg [9] u (fun k i wr => k ≤ u ∧ i = .int .i64 ((u - k : Nat) : Int) ∧ (es.take (u - k)).any f = false ∧ Own w.heap.size w wr [.cells b3 [.int .i64 bx, .int .i64 b_y], .cells b2 [.int .i64 ax, .int .i64 ay], .cells b1 [.slice A vs.length c, .slice A2 es.length c2], .rd A2 b9 o9 (eR es), .rd A b0 o0 (vR vs)])
  case atStart => exact ⟨Nat.le_refl _, by simp, by simp, H⟩
  case round =>
    clear H
    obtain ⟨hk, rfl, ht, H⟩ := hrel
    have HT := Lib.hid ht
    clear ht
    by_cases hlt : 0 < gk
    · obtain ⟨j, hj⟩ : ∃ j, u - gk = j := ⟨_, rfl⟩
      have hjl : j < es.length := by omega
      have hju : j < u := by omega
      rw [hj] at HT ⊢
      obtain ⟨i, x, y, he⟩ := eg_at es hjl
      obtain rfl := H.rdAddr m3 (eR_pos he)
      have hp := at_ea (A := some ⟨b9, o9, none⟩) (b := b9) (off := o9) he
      have hp2 := at_eb (A := some ⟨b9, o9, none⟩) (b := b9) (off := o9) he
      obtain ⟨⟨⟨vi, vx, vy⟩, hv1⟩, ⟨wi, wx, wy⟩, hv2⟩ := HAV.out ⟨i, x, y⟩ (List.mem_of_getElem? (i := j) (by rw [List.getElem?_take, if_pos hju]; exact he))
      have ic := HI.out _ (List.mem_of_find?_eq_some hv1)
      have id_ := HI.out _ (List.mem_of_find?_eq_some hv2)
      have ha1 := fun F w h => refAt_any vs A (some ⟨b9, o9, none⟩) vs.length es.length c c2 F x vi vx vy w rfl h hl hv1
      have ha2 := fun F w h => refAt_any vs A (some ⟨b9, o9, none⟩) vs.length es.length c c2 F y wi wx wy w rfl h hl hv2
      have hmt := refMeet_any ax ay bx b_y vx vy wx wy (inB_P HIA.out) (inB_P HIB.out) (inB_P ic) (inB_P id_)
      have hfv : f ⟨i, x, y⟩ = meetR ⟨ax, ay⟩ ⟨bx, b_y⟩ ⟨vx, vy⟩ ⟨wx, wy⟩ := by rw [← HF.out]; simp only []; rw [rpt_some hv1, rpt_some hv2]
      clear hv1 hv2 ic id_
      generalize meetR ⟨ax, ay⟩ ⟨bx, b_y⟩ ⟨vx, vy⟩ ⟨wx, wy⟩ = v1 at hmt hfv
      have HF1 := Lib.hid hfv
      have HE := Lib.hid he
      have HJ := Lib.hid hj
      clear hfv he hj
      cases v1
      · have tk0 : True := trivial
        go_wp2_with (first
          | (guard_target = Code.wp _ (Code.region 4 _ true) _ _ _; refine plan6r2 ?_; clear H; (try clear w2); intro w2 H)
          | (go_at_call 22; (with_reducible refine (ha1 _ _ (aD f0)).mono ?_); rintro e w3 ⟨rfl, hb⟩; replace H := H.ext hb; clear hb; dsimp only; (refine a8c34bfe ?_; clear hK K))
          | (go_at_call 22; (with_reducible refine (ha2 _ _ (aD f0)).mono ?_); rintro e w3 ⟨rfl, hb⟩; replace H := H.ext hb; clear hb; dsimp only; (refine a8c34bfe ?_; clear hK K))
          | (go_at_call 44; (with_reducible refine (hmt _).mono ?_); rintro e w3 ⟨rfl, hb⟩; replace H := H.ext hb; clear hb; dsimp only; (refine a8c34bfe ?_; clear hK K))
          | ((first | guard_target = wpList _ _ _ (_ :: _) _ _ | guard_target = wpTree _ _ _ _ _ _ _); (first | (refine aa335462 ?_) | (guard_target = wpTree _ _ _ Tr.nil _ _ _; refine tree_nil ?_) | (refine ace93fc0 ?_; intro K hK))))
        go_roundg (gk - 1)
        case rel => exact ⟨by omega, by have := HJ.out; congr 1; omega, by rw [show u - (gk - 1) = j + 1 by have := HJ.out; omega]; exact any_step HE.out HT.out HF1.out, H⟩
        case measure => omega
      · have tk0 : True := trivial
        go_wp2_with (first
          | (guard_target = Code.wp _ (Code.region 4 _ true) _ _ _; refine plan6r2 ?_; clear H; (try clear w2); intro w2 H)
          | (go_at_call 22; (with_reducible refine (ha1 _ _ (aD f0)).mono ?_); rintro e w3 ⟨rfl, hb⟩; replace H := H.ext hb; clear hb; dsimp only; (refine a8c34bfe ?_; clear hK K))
          | (go_at_call 22; (with_reducible refine (ha2 _ _ (aD f0)).mono ?_); rintro e w3 ⟨rfl, hb⟩; replace H := H.ext hb; clear hb; dsimp only; (refine a8c34bfe ?_; clear hK K))
          | (go_at_call 44; (with_reducible refine (hmt _).mono ?_); rintro e w3 ⟨rfl, hb⟩; replace H := H.ext hb; clear hb; dsimp only; (refine a8c34bfe ?_; clear hK K))
          | ((first | guard_target = wpList _ _ _ (_ :: _) _ _ | guard_target = wpTree _ _ _ _ _ _ _); (first | (refine aa335462 ?_) | (guard_target = wpTree _ _ _ Tr.nil _ _ _; refine tree_nil ?_) | (refine ace93fc0 ?_; intro K hK))))
        go_ret
        exact ⟨ret_b (by rw [← HV.out, any_yes (l := es.take u) (k := j) (by rw [List.getElem?_take, if_pos hju]; exact HE.out) HF1.out]), H.below⟩
    · obtain rfl : gk = 0 := by omega
      have tk0 : True := trivial
      go_wp2_with (first | fail)
      go_ret
      exact ⟨ret_b (by rw [← HV.out, ← HT.out, Nat.sub_zero]), H.below⟩
end Go.Proofs.YtlhmjhildlnokaaGreat
