/-
  The document's plan: when it is right, as a list's laws.
-/
import Derived.Test.YtlhmjhildlnokaaGreatMfa190596
import Derived.Test.YtlhmjhildlnokaaGreatMd6b25c4b
import Derived.Test.YtlhmjhildlnokaaGreatM0d4adf42
import Derived.Test.YtlhmjhildlnokaaGreatM28ca6b73
import Derived.Test.YtlhmjhildlnokaaGreatMc8910ffd
namespace Go.Proofs.YtlhmjhildlnokaaGreat
set_option linter.unusedVariables false
set_option linter.unusedSimpArgs false
open Go.RowKit Go.Sort Go.Shelf
def liveN (P : List Pc) : Nat := P.countP fun p => !p.g
theorem live_app (P Q : List Pc) : liveN (P ++ Q) = liveN P + liveN Q := List.countP_append
theorem live_set {P : List Pc} {i : Nat} {p q : Pc} (h : P[i]? = some p) (hg : q.g = p.g) : liveN (P.set i q) = liveN P := by
 obtain ⟨h1, h2⟩ := List.getElem?_eq_some_iff.1 h
 unfold liveN
 rw [List.countP_set (h := h1), h2, hg]
 have : (if (!p.g) = true then 1 else 0) ≤ List.countP (fun p => !p.g) P := by
  split
  ·rename_i e
   have : 0 < List.countP (fun p => !p.g) P := List.countP_pos_iff.2 ⟨p, List.mem_of_getElem? h, e⟩
   omega
  ·omega
 omega
theorem live_gone {P : List Pc} {i : Nat} {p : Pc} (h : P[i]? = some p) (hg : p.g = false) : liveN (setG P i) + 1 = liveN P := by
 obtain ⟨h1, h2⟩ := List.getElem?_eq_some_iff.1 h
 unfold setG liveN
 rw [h]
 simp only
 rw [List.countP_set (h := h1), h2, hg]
 have : 0 < List.countP (fun p => !p.g) P := List.countP_pos_iff.2 ⟨p, List.mem_of_getElem? h, by rw [hg]; rfl⟩
 simp
 omega
theorem live_setR (P : List Pc) (i : Nat) (r : Pt) : liveN (setR P i r) = liveN P := by
 unfold setR
 split
 ·rename_i p h
  exact live_set h rfl
 ·rfl
theorem live_one (t : Tz) (n : Int) : liveN [⟨t, n, false⟩] = 1 := rfl
def WfP (N : List Nd) (P : List Pc) : Prop := ∀ p ∈ P, 0 ≤ p.n ∧ p.n < (N.length : Int)
theorem WfP.setR {N : List Nd} {P : List Pc} (h : WfP N P) (i : Nat) (r : Pt) : WfP N (setR P i r) := by
 unfold Go.Proofs.YtlhmjhildlnokaaGreat.setR
 split
 ·rename_i p hp
  intro q hq
  rcases List.mem_or_eq_of_mem_set hq with hq | rfl
  ·exact h q hq
  ·exact h p (List.mem_of_getElem? hp)
 ·exact h
theorem WfP.setG {N : List Nd} {P : List Pc} (h : WfP N P) (i : Nat) : WfP N (setG P i) := by
 unfold Go.Proofs.YtlhmjhildlnokaaGreat.setG
 split
 ·rename_i p hp
  intro q hq
  rcases List.mem_or_eq_of_mem_set hq with hq | rfl
  ·exact h q hq
  ·exact h p (List.mem_of_getElem? hp)
 ·exact h
theorem WfP.app {N M : List Nd} {P : List Pc} (h : WfP N P) {p : Pc} (h1 : 0 ≤ p.n) (h2 : p.n < ((N ++ M).length : Int)) : WfP (N ++ M) (P ++ [p]) := by
 intro q hq
 rcases List.mem_append.1 hq with hq | hq
 ·have := h q hq
  rw [List.length_append]
  omega
 ·obtain rfl : q = p := by simpa using hq
  exact ⟨h1, h2⟩
theorem WfP.mono {N M : List Nd} {P : List Pc} (h : WfP N P) (hl : N.length ≤ M.length) : WfP M P := fun p hp => by have := h p hp; omega
structure Mr (X Y : PSt) (c n : Nat) : Prop where
 p : Y.P.length = X.P.length + c
 n : Y.N.length = X.N.length + n
 live : liveN Y.P = liveN X.P + c
 wf : WfP X.N X.P → WfP Y.N Y.P
theorem upS_mr (c : Bool) (t : Tz) (X : PSt) : Mr X (upS c t X) c.toNat c.toNat := by
 cases c
 ·exact ⟨rfl, rfl, rfl, id⟩
 ·exact ⟨by simp [upS], by simp [upS], by simp [upS, live_app, live_one], fun h => h.app (by simp) (by simp; omega)⟩
theorem loS_mr (c : Bool) (t : Tz) (X : PSt) : Mr X (loS c t X) c.toNat c.toNat := by
 cases c
 ·exact ⟨rfl, rfl, rfl, id⟩
 ·exact ⟨by simp [loS], by simp [loS], by simp [loS, live_app, live_one], fun h => h.app (by simp) (by simp; omega)⟩
theorem endS_mr (c : Bool) (t : Tz) (b : Pt) (X : PSt × Nd) : Mr X.1 (endS c t b X).1 c.toNat (2 * c.toNat) := by
 cases c
 ·exact ⟨rfl, rfl, rfl, id⟩
 ·refine ⟨by simp [endS], by simp [endS], by simp [endS, live_app, live_one], fun h => ?_⟩
  simp only [endS, if_true, List.append_assoc]
  exact h.app (by simp; omega) (by simp)
theorem begS_mr (c : Bool) (t : Tz) (b : Pt) (X : PSt × Nd) : Mr X.1 (begS c t b X).1 c.toNat (2 * c.toNat) := by
 cases c
 ·exact ⟨rfl, rfl, rfl, id⟩
 ·refine ⟨by simp [begS], by simp [begS], by simp [begS, live_app, live_one], fun h => ?_⟩
  simp only [begS, if_true, List.append_assoc]
  exact h.app (by simp) (by simp; omega)
theorem Mr.trans {X Y Z : PSt} {a b c d : Nat} (h : Mr X Y a b) (g : Mr Y Z c d) : Mr X Z (a + c) (b + d) := ⟨by rw [g.p, h.p]; omega, by rw [g.n, h.n]; omega, by rw [g.live, h.live]; omega, fun w => g.wf (h.wf w)⟩
theorem roundS_size {N0 : Nat} {Pa : List Pc} {rest : List Nat} {n : Nat} {id : Int} {s : Sg} {f la : Bool} {X : PSt} {p0 : Pc} (I : PInv N0 Pa (n :: rest) X) (hu : f = false → LeafIn N0 Pa.length X X.u ∧ LeafIn N0 Pa.length X X.d)
  (hp0 : Pa[n]? = some p0) (hg : p0.g = false) :
  ∃ c, (roundS id s f la n X).P.length = X.P.length + c ∧ liveN (roundS id s f la n X).P + 1 = liveN X.P + c ∧ c ≤ 1 + 2 * f.toNat + la.toNat ∧ (roundS id s f la n X).N.length ≤ X.N.length + c + f.toNat + la.toNat ∧
   (WfP X.N X.P → WfP (roundS id s f la n X).N (roundS id s f la n X).P) := by
 obtain ⟨hnl, hnp⟩ := I.rest n (by simp)
 have hXn : (X.P[n]?).getD pc0 = p0 := by rw [hnp, hp0]; rfl
 unfold roundS
 simp only [hXn]
 have ht := turnB_pm s.a s.b p0.t.l
 obtain ⟨cu, hcu⟩ : ∃ c, (f || decide (0 < turnB s.a s.b p0.t.l)) = c := ⟨_, rfl⟩
 obtain ⟨cd, hcd⟩ : ∃ c, (f || decide (turnB s.a s.b p0.t.l < 0)) = c := ⟨_, rfl⟩
 obtain ⟨ce, hce⟩ : ∃ c, (la && (!p0.t.hr || lessB s.b p0.t.r)) = c := ⟨_, rfl⟩
 obtain ⟨cb, hcb⟩ : ∃ c, (f && (!p0.t.hl || lessB p0.t.l s.a)) = c := ⟨_, rfl⟩
 have k1 := upS_mr cu ⟨p0.t.top, id, true, false, if f then s.a else p0.t.l, ⟨0, 0⟩⟩ X
 have k1' := upS_kp cu ⟨p0.t.top, id, true, false, if f then s.a else p0.t.l, ⟨0, 0⟩⟩ X
 have l1 : LeafIn N0 Pa.length (upS cu ⟨p0.t.top, id, true, false, if f then s.a else p0.t.l, ⟨0, 0⟩⟩ X) (upS cu ⟨p0.t.top, id, true, false, if f then s.a else p0.t.l, ⟨0, 0⟩⟩ X).u := upS_leaf I.nN I.nP fun hc => (hu (by rw [← hcu] at hc; cases f; rfl; simp at hc)).1
 have d1 := upS_d cu ⟨p0.t.top, id, true, false, if f then s.a else p0.t.l, ⟨0, 0⟩⟩ X
 rw [hcu, hcd, hce, hcb]
 generalize upS cu ⟨p0.t.top, id, true, false, if f then s.a else p0.t.l, ⟨0, 0⟩⟩ X = X1 at *
 have k2 := loS_mr cd ⟨id, p0.t.bot, true, false, if f then s.a else p0.t.l, ⟨0, 0⟩⟩ X1
 have k2' := loS_kp cd ⟨id, p0.t.bot, true, false, if f then s.a else p0.t.l, ⟨0, 0⟩⟩ X1
 have l2 : LeafIn N0 Pa.length (loS cd ⟨id, p0.t.bot, true, false, if f then s.a else p0.t.l, ⟨0, 0⟩⟩ X1) (loS cd ⟨id, p0.t.bot, true, false, if f then s.a else p0.t.l, ⟨0, 0⟩⟩ X1).d := by
  refine loS_leaf (Nat.le_trans I.nN k1'.nl) (Nat.le_trans I.nP k1'.pl) fun hc => ?_
  rw [d1]
  exact (hu (by rw [← hcd] at hc; cases f; rfl; simp at hc)).2.keep k1'
 have u2 := loS_u cd ⟨id, p0.t.bot, true, false, if f then s.a else p0.t.l, ⟨0, 0⟩⟩ X1
 have l3 := l1.keep k2'
 rw [← u2] at l3
 generalize loS cd ⟨id, p0.t.bot, true, false, if f then s.a else p0.t.l, ⟨0, 0⟩⟩ X1 = X2 at *
 obtain ⟨_, _, _, q1⟩ := l3.id
 obtain ⟨_, _, _, q2⟩ := l2.id
 have hXn2 : (setR (setR X2.P (idN X2.N X2.u) (if la then s.b else p0.t.r)) (idN X2.N X2.d) (if la then s.b else p0.t.r))[n]? = some p0 := by
  rw [setR_ne _ (by omega), setR_ne _ (by omega), (k1'.trans k2').p n (Nat.lt_of_lt_of_le hnl I.nP), hnp, hp0]
 have e3 := live_gone hXn2 hg
 rw [live_setR, live_setR] at e3
 have f3 := rtS_len (if la then s.b else p0.t.r) n X2
 have w3 : WfP X2.N X2.P → WfP (rtS (if la then s.b else p0.t.r) n X2).N (rtS (if la then s.b else p0.t.r) n X2).P := fun h => ((h.setR _ _).setR _ _).setG _
 have e3' : liveN (rtS (if la then s.b else p0.t.r) n X2).P + 1 = liveN X2.P := e3
 generalize rtS (if la then s.b else p0.t.r) n X2 = X3 at *
 have k4 := endS_mr ce { p0.t with hl := true, l := s.b } s.b (X3, ⟨2, id, ⟨0, 0⟩, (X3.u : Int), (X3.d : Int)⟩)
 generalize endS ce { p0.t with hl := true, l := s.b } s.b (X3, ⟨2, id, ⟨0, 0⟩, (X3.u : Int), (X3.d : Int)⟩) = X4 at *
 have k5 := begS_mr cb { p0.t with hr := true, r := s.a } s.a X4
 generalize begS cb { p0.t with hr := true, r := s.a } s.a X4 = X5 at *
 simp only at k4
 have a1 := k1.p; have a2 := k2.p; have a4 := k4.p; have a5 := k5.p
 have b1 := k1.n; have b2 := k2.n; have b4 := k4.n; have b5 := k5.n
 have c1 := k1.live; have c2 := k2.live; have c4 := k4.live; have c5 := k5.live
 have hce' : ce.toNat ≤ la.toNat := by
  rw [← hce]
  cases la
  ·simp
  ·exact Bool.toNat_le _
 have hcb' : cb.toNat ≤ f.toNat := by
  rw [← hcb]
  cases f
  ·simp
  ·exact Bool.toNat_le _
 have hud : cu.toNat + cd.toNat ≤ 1 + f.toNat := by
  rw [← hcu, ← hcd]
  cases f
  ·simp only [Bool.false_or]
   by_cases h1 : 0 < turnB s.a s.b p0.t.l
   ·rw [decide_eq_true h1, decide_eq_false (by omega)]; simp
   ·rw [decide_eq_false h1]
    have := Bool.toNat_le (decide (turnB s.a s.b p0.t.l < 0))
    simp only [Bool.toNat_false]; omega
  ·simp
 refine ⟨cu.toNat + cd.toNat + ce.toNat + cb.toNat, ?_, ?_, by omega, ?_, fun h => ?_⟩
 ·show X5.1.P.length = _
  omega
 ·show liveN X5.1.P + 1 = _
  omega
 ·show (X5.1.N.set _ _).length ≤ _
  rw [List.length_set]
  omega
 ·have := k5.wf (k4.wf (w3 (k2.wf (k1.wf h))))
  intro p hp
  show _ ∧ _ < ((X5.1.N.set _ _).length : Int)
  rw [List.length_set]
  exact this p hp
theorem roundsS_size {N : List Nd} {P : List Pc} {id : Int} {s : Sg} {all : List Nat} (hW : WfP N P) (hnd : all.Nodup) (hin : ∀ n ∈ all, ∃ p, P[n]? = some p ∧ p.g = false) : ∀ j, j ≤ all.length →
  PInv N.length P (all.drop j) (roundsS id s all j ⟨N, P, 0, 0⟩) ∧ (0 < j → LeafIn N.length P.length (roundsS id s all j ⟨N, P, 0, 0⟩) (roundsS id s all j ⟨N, P, 0, 0⟩).u ∧ LeafIn N.length P.length (roundsS id s all j ⟨N, P, 0, 0⟩) (roundsS id s all j ⟨N, P, 0, 0⟩).d) ∧
  WfP (roundsS id s all j ⟨N, P, 0, 0⟩).N (roundsS id s all j ⟨N, P, 0, 0⟩).P ∧ ∃ c, (roundsS id s all j ⟨N, P, 0, 0⟩).P.length = P.length + c ∧ liveN (roundsS id s all j ⟨N, P, 0, 0⟩).P + j = liveN P + c ∧ (j = 0 → c = 0) ∧ c ≤ j + 2 + (if j = all.length then 1 else 0) ∧
   (roundsS id s all j ⟨N, P, 0, 0⟩).N.length ≤ N.length + c + (if j = 0 then 0 else 1) + (if j = all.length then 1 else 0)
 | 0, _ => ⟨⟨Nat.le_refl _, Nat.le_refl _, fun n hn => by
   obtain ⟨p, hp, _⟩ := hin n (by simpa using hn)
   exact ⟨(List.getElem?_eq_some_iff.1 hp).1, rfl⟩, hW⟩, fun h => absurd h (by omega), hW, 0, rfl, rfl, fun _ => rfl, by omega, by show N.length ≤ _; omega⟩
 | j + 1, hj => by
  obtain ⟨I, hL, hw, c, c1, c2, c0, c3, c4⟩ := roundsS_size (id := id) (s := s) hW hnd hin j (by omega)
  obtain ⟨n, hn⟩ : ∃ n, all[j]? = some n := ⟨_, List.getElem?_eq_getElem (by omega)⟩
  obtain ⟨p, hp, hg⟩ := hin n (List.mem_of_getElem? hn)
  have hdrop : all.drop j = n :: all.drop (j + 1) := by
   rw [List.drop_eq_getElem_cons (List.getElem?_eq_some_iff.1 hn).1, (List.getElem?_eq_some_iff.1 hn).2]
  rw [hdrop] at I
  have hnot : n ∉ all.drop (j + 1) := by
   have : (all.drop j).Nodup := hnd.sublist (List.drop_sublist _ _)
   rw [hdrop, List.nodup_cons] at this
   exact this.1
  have hu : decide (j = 0) = false → LeafIn N.length P.length (roundsS id s all j ⟨N, P, 0, 0⟩) (roundsS id s all j ⟨N, P, 0, 0⟩).u ∧ LeafIn N.length P.length (roundsS id s all j ⟨N, P, 0, 0⟩) (roundsS id s all j ⟨N, P, 0, 0⟩).d := fun h => hL (by have := of_decide_eq_false h; omega)
  obtain ⟨J, u1, u2, _⟩ := roundS_inv (id := id) (s := s) (f := decide (j = 0)) (la := decide (j + 1 = all.length)) I hnot hu
  obtain ⟨d, d1, d2, d3, d4, d5⟩ := roundS_size (id := id) (s := s) (f := decide (j = 0)) (la := decide (j + 1 = all.length)) I hu hp hg
  have e : roundsS id s all (j + 1) ⟨N, P, 0, 0⟩ = roundS id s (decide (j = 0)) (decide (j + 1 = all.length)) n (roundsS id s all j ⟨N, P, 0, 0⟩) := by
   show roundS id s _ _ ((all[j]?).getD 0) _ = _
   rw [hn]; rfl
  rw [e]
  refine ⟨J, fun _ => ⟨u1, u2⟩, d5 hw, c + d, by omega, by omega, fun h => by omega, ?_, ?_⟩
  ·have q1 : (decide (j + 1 = all.length)).toNat = if j + 1 = all.length then 1 else 0 := by split <;> rename_i h <;> simp [h]
   have q2 : (decide (j = 0)).toNat = if j = 0 then 1 else 0 := by split <;> rename_i h <;> simp [h]
   rw [q1, q2] at d3
   by_cases h0 : j = 0
   ·have := c0 h0
    rw [if_pos h0] at d3
    omega
   ·rw [if_neg h0] at d3
    rw [if_neg (by omega)] at c3
    omega
  ·have q1 : (decide (j + 1 = all.length)).toNat = if j + 1 = all.length then 1 else 0 := by split <;> rename_i h <;> simp [h]
   have q2 : (decide (j = 0)).toNat = if j = 0 then 1 else 0 := by split <;> rename_i h <;> simp [h]
   rw [q1, q2] at d4
   have : (if j = 0 then 0 else 1) + (if j = 0 then 1 else 0) = 1 := by split <;> omega
   rw [if_neg (show ¬ j = all.length by omega)] at c4
   rw [if_neg (show ¬ j + 1 = 0 by omega)]
   omega
theorem live_filter : ∀ (P : List Pc), liveN P = ((List.range P.length).filter fun i => match P[i]? with | some p => !p.g | none => false).length := by
 intro P
 rw [← List.countP_eq_length_filter]
 unfold liveN
 have : P = (List.range P.length).map fun i => (P[i]?).getD pc0 := by
  apply List.ext_getElem
  ·simp
  ·intro i h1 h2
   simp [List.getElem?_eq_getElem h1]
 conv => lhs; rw [this, List.countP_map]
 apply List.countP_congr
 intro i hi
 have hi := List.mem_range.1 hi
 simp only [Function.comp, List.getElem?_eq_getElem hi, Option.getD_some]
theorem nodup_sub : ∀ {r S : List Nat}, r.Nodup → (∀ x ∈ r, x ∈ S) → r.length ≤ S.length
 | [], _, _, _ => Nat.zero_le _
 | a :: r, S, hn, hs => by
  rw [List.nodup_cons] at hn
  have h1 : ∀ x ∈ r, x ∈ S.erase a := fun x hx => (List.mem_erase_of_ne (by rintro rfl; exact hn.1 hx)).2 (hs x (by simp [hx]))
  have := nodup_sub hn.2 h1
  have ha := hs a (by simp)
  rw [List.length_erase_of_mem ha] at this
  have := List.length_pos_of_mem ha
  rw [List.length_cons]
  omega
theorem cross_few {P : List Pc} {S : List (Int × Sg)} {s : Sg} {all : List Nat} (h : CrossP P S s all) : all.Nodup ∧ (∀ n ∈ all, ∃ p, P[n]? = some p ∧ p.g = false) ∧ all.length ≤ liveN P := by
 have hnd : all.Nodup := h.1.nodup_iff.2 (List.nodup_range.filter _)
 have hm : ∀ n ∈ all, ∃ p, P[n]? = some p ∧ hitB S s p = true := by
  intro n hn
  have := (List.mem_filter.1 (h.1.subset hn)).2
  unfold hitAt at this
  split at this
  ·rename_i p hp; exact ⟨p, hp, this⟩
  ·cases this
 have hg : ∀ n ∈ all, ∃ p, P[n]? = some p ∧ p.g = false := by
  intro n hn
  obtain ⟨p, h1, h2⟩ := hm n hn
  refine ⟨p, h1, ?_⟩
  unfold hitB at h2
  cases hp : p.g
  ·rfl
  ·rw [hp] at h2; simp at h2
 refine ⟨hnd, hg, ?_⟩
 rw [live_filter]
 refine nodup_sub hnd fun n hn => ?_
 obtain ⟨p, h1, h2⟩ := hg n hn
 rw [List.mem_filter, List.mem_range, h1]
 exact ⟨(List.getElem?_eq_some_iff.1 h1).1, by simp [h2]⟩
structure IxN (k : Nat) (N : List Nd) (P : List Pc) : Prop where
 wf : WfP N P
 live : liveN P ≤ 3 * k + 1
 pl : P.length ≤ 1 + 130 * k
 nl : N.length ≤ 1 + 140 * k
 p0 : 0 < P.length
 n0 : 0 < N.length
theorem ixN_0 : IxN 0 [nd0] [pc0] := ⟨fun p hp => (by
  obtain rfl : p = pc0 := (by simpa using hp)
  exact ⟨by decide, by decide⟩), by decide, by decide, by decide, by decide, by decide⟩
theorem ixN_put {k : Nat} {N : List Nd} {P : List Pc} {S : List (Int × Sg)} {id : Int} {s : Sg} {all : List Nat} (h : IxN k N P) (hk : k < 40) (hc : CrossP P S s all) :
  IxN (k + 1) (roundsS id s all all.length ⟨N, P, 0, 0⟩).N (roundsS id s all all.length ⟨N, P, 0, 0⟩).P := by
 obtain ⟨hnd, hin, hl⟩ := cross_few hc
 obtain ⟨I, _, hw, c, c1, c2, c0, c3, c4⟩ := roundsS_size (id := id) (s := s) h.wf hnd hin all.length (Nat.le_refl _)
 have h1 := h.live
 have h2 := h.pl
 have h3 := h.nl
 have h4 := h.p0
 have h5 := h.n0
 have h6 := I.nN
 rw [if_pos rfl] at c3 c4
 have h7 : (if all.length = 0 then 0 else 1) ≤ 1 := by split <;> omega
 refine ⟨hw, ?_, by omega, by omega, by omega, by omega⟩
 by_cases ha : all.length = 0
 ·have := c0 ha
  omega
 ·omega
end Go.Proofs.YtlhmjhildlnokaaGreat
namespace Go.Proofs.YtlhmjhildlnokaaGreat
set_option linter.unusedVariables false
set_option linter.unusedSimpArgs false
open Go.RowKit
theorem plan4x2 {P Q : Prop} (k : Q) (h : Hold Q → P := by (intro kk; guard_target = wpList _ _ _ (Oper.mk _ (.lookup _ _ _ _) _ _ _ _ :: _) _ _; (with_reducible refine BigFrame.wpList_want ?_ (fun K hK => ?_)); exact rfl; (refine o_metGet (m := ?_) rfl rfl rfl H ?_ (hK _ _ ?_); rotate_left 1; (repeat first | exact .head _ | apply List.Mem.tail)); clear hK K; simp only [Act.put, List.setIfInBounds_toArray, List.set_cons_succ, List.set_cons_zero]; exact kk.out)) : P := h ⟨k⟩
theorem plan4g3 {P Q : Prop} (k : Q) (h : Hold Q → P := by (intro kk; (guard_target = wpList _ _ _ (Oper.mk _ (.load _ _) _ _ _ _ :: _) _ _; exact a15dc6b3 kk.out))) : P := h ⟨k⟩
theorem plan4x4 {P Q : Prop} (k : Q) (h : Hold Q → P := by (intro kk; guard_target = wpList _ _ _ (Oper.mk _ (.mapUpdate _ _ _ _) _ _ _ _ :: _) _ _; (with_reducible refine BigFrame.wpList_want ?_ (fun K hK => ?_)); exact rfl; refine o_atSet (l0 := ?_) (m := ?_) rfl rfl rfl rfl H ?_ (fun w3 H2 => hK _ _ ?_); rotate_left 2; (focus (intro _; (exact r2))); clear hK K; simp only [Act.put, List.setIfInBounds_toArray, List.set_cons_succ, List.set_cons_zero]; revert H2; revert w3; exact kk.out)) : P := h ⟨k⟩
theorem plan4x5 {P Q : Prop} (k : Q) (h : Hold Q → P := by (intro kk; guard_target = wpList _ _ _ (Oper.mk _ (.mapUpdate _ _ _ _) _ _ _ _ :: _) _ _; (with_reducible refine BigFrame.wpList_want ?_ (fun K hK => ?_)); exact rfl; refine o_metSet (l0 := ?_) (m := ?_) rfl rfl rfl rfl H ?_ (fun w3 H2 => hK _ _ ?_); rotate_left 2; (focus (intro _; (exact r1))); clear hK K; simp only [Act.put, List.setIfInBounds_toArray, List.set_cons_succ, List.set_cons_zero]; revert H2; revert w3; exact kk.out)) : P := h ⟨k⟩
theorem plan4g6 {P Q : Prop} (k : Q) (h : Hold Q → P := by (intro kk; (first | (guard_target = wpList _ _ _ (Oper.mk _ (.store _ _ _) _ _ _ _ :: _) _ _; exact a181aa22 kk.out) | (guard_target = wpList _ _ _ (Oper.mk _ (.mapUpdate _ _ _ _) _ _ _ _ :: _) _ _; exact plan4x4 kk.out) | (guard_target = wpList _ _ _ (Oper.mk _ (.mapUpdate _ _ _ _) _ _ _ _ :: _) _ _; exact plan4x5 kk.out)))) : P := h ⟨k⟩
theorem plan4x7 {P Q : Prop} (k : Q) (h : Hold Q → P := by (intro kk; guard_target = wpList _ _ _ (Oper.mk _ (.makeMap _ _) _ _ _ _ :: _) _ _; (with_reducible refine BigFrame.wpList_want ?_ (fun K hK => ?_)); exact rfl; refine o_atMake rfl H (fun w3 b2 he H2 => hK _ _ ?_); clear hK K he; simp only [Act.put, List.setIfInBounds_toArray, List.set_cons_succ, List.set_cons_zero]; revert H2; revert w3; revert b2; exact kk.out)) : P := h ⟨k⟩
theorem plan4x8 {P Q : Prop} (k : Q) (h : Hold Q → P := by (intro kk; guard_target = wpList _ _ _ (Oper.mk _ (.makeMap _ _) _ _ _ _ :: _) _ _; (with_reducible refine BigFrame.wpList_want ?_ (fun K hK => ?_)); exact rfl; refine o_metMake rfl H (fun w3 b2 he H2 => hK _ _ ?_); clear hK K he; simp only [Act.put, List.setIfInBounds_toArray, List.set_cons_succ, List.set_cons_zero]; revert H2; revert w3; revert b2; exact kk.out)) : P := h ⟨k⟩
theorem plan4g9 {P Q : Prop} (k : Q) (h : Hold Q → P := by (intro kk; (first | (exact a9475ade kk.out) | (guard_target = wpList _ _ _ (Oper.mk _ (.makeMap _ _) _ _ _ _ :: _) _ _; exact plan4x7 kk.out) | (guard_target = wpList _ _ _ (Oper.mk _ (.makeMap _ _) _ _ _ _ :: _) _ _; exact plan4x8 kk.out)))) : P := h ⟨k⟩
theorem plan4g10 {P Q : Prop} (k : Q) (h : Hold Q → P := by (intro kk; (first | (guard_target = wpList _ _ _ (Oper.mk _ (.load _ _) _ _ _ _ :: _) _ _; exact a57b8f64 kk.out) | (guard_target = wpList _ _ _ (Oper.mk _ (.load _ _) _ _ _ _ :: _) _ _; exact a15dc6b3 kk.out) | (guard_target = wpList _ _ _ (Oper.mk _ (.lookup _ _ _ _) _ _ _ _ :: _) _ _; exact plan4x2 kk.out)))) : P := h ⟨k⟩
theorem plan4g12 {P Q : Prop} (k : Q) (h : Hold Q → P := by (intro kk; (guard_target = wpList _ _ _ (Oper.mk _ (.load _ _) _ _ _ _ :: _) _ _; exact a15dc6b3 kk.out))) : P := h ⟨k⟩
theorem plan4x15 {P Q : Prop} (k : Q) (h : Hold Q → P := by (intro kk; guard_target = wpList _ _ _ (Oper.mk _ (.makeMap _ _) _ _ _ _ :: _) _ _; (with_reducible refine BigFrame.wpList_want ?_ (fun K hK => ?_)); exact rfl; refine o_pairMake rfl H (fun w3 b2 he H2 => hK _ _ ?_); clear hK K he; simp only [Act.put, List.setIfInBounds_toArray, List.set_cons_succ, List.set_cons_zero]; revert H2; revert w3; revert b2; exact kk.out)) : P := h ⟨k⟩
theorem plan4g16 {P Q : Prop} (k : Q) (h : Hold Q → P := by (intro kk; (guard_target = wpList _ _ _ (Oper.mk _ (.makeMap _ _) _ _ _ _ :: _) _ _; exact plan4x15 kk.out))) : P := h ⟨k⟩
theorem plan4x18 {P Q : Prop} (k : Q) (h : Hold Q → P := by (intro kk; guard_target = wpList _ _ _ (Oper.mk _ (.lookup _ _ _ _) _ _ _ _ :: _) _ _; (with_reducible refine BigFrame.wpList_want ?_ (fun K hK => ?_)); exact rfl; (refine o_atOk (m := ?_) rfl rfl rfl H ?_ (hK _ _ ?_); rotate_left 1; (repeat first | exact .head _ | apply List.Mem.tail)); clear hK K; simp only [Act.put, List.setIfInBounds_toArray, List.set_cons_succ, List.set_cons_zero, X0, X1, X2, X3]; exact kk.out)) : P := h ⟨k⟩
theorem plan4x20 {P Q : Prop} (k : Q) (h : Hold Q → P := by (intro kk; guard_target = wpList _ _ _ (Oper.mk _ (.lookup _ _ _ _) _ _ _ _ :: _) _ _; (with_reducible refine BigFrame.wpList_want ?_ (fun K hK => ?_)); exact rfl; (refine o_pairGet (m := ?_) rfl rfl rfl H ?_ (hK _ _ ?_); rotate_left 1; (repeat first | exact .head _ | apply List.Mem.tail)); clear hK K; simp only [Act.put, List.setIfInBounds_toArray, List.set_cons_succ, List.set_cons_zero, X0, X1, X2, X3]; exact kk.out)) : P := h ⟨k⟩
theorem plan4g24 {P Q : Prop} (k : Q) (h : Hold Q → P := by (intro kk; (first | (guard_target = wpList _ _ _ (Oper.mk _ (.load _ _) _ _ _ _ :: _) _ _; exact a2601604 kk.out) | (guard_target = wpList _ _ _ (Oper.mk _ (.lookup _ _ _ _) _ _ _ _ :: _) _ _; exact plan4x18 kk.out) | (guard_target = wpList _ _ _ (Oper.mk _ (.lookup _ _ _ _) _ _ _ _ :: _) _ _; exact plan4x20 kk.out) | (guard_target = wpTree _ _ _ (Tr.q _ _) _ _ _; exact ae79f3e4 kk.out)))) : P := h ⟨k⟩
theorem plan4x27 {P Q : Prop} (k : Q) (h : Hold Q → P := by (intro kk; guard_target = wpList _ _ _ (Oper.mk _ (.mapUpdate _ _ _ _) _ _ _ _ :: _) _ _; (with_reducible refine BigFrame.wpList_want ?_ (fun K hK => ?_)); exact rfl; refine o_pairSet (l0 := ?_) (m := ?_) rfl rfl rfl rfl H ?_ (fun w3 H2 => hK _ _ ?_); rotate_left 2; (focus (intro _; (exact r3))); clear hK K; simp only [Act.put, List.setIfInBounds_toArray, List.set_cons_succ, List.set_cons_zero, X0, X1, X2, X3]; revert H2; revert w3; exact kk.out)) : P := h ⟨k⟩
theorem plan4g28 {P Q : Prop} (k : Q) (h : Hold Q → P := by (intro kk; (first | (guard_target = wpList _ _ _ (Oper.mk _ (.store _ _ _) _ _ _ _ :: _) _ _; exact a218e51a kk.out) | (guard_target = wpList _ _ _ (Oper.mk _ (.mapUpdate _ _ _ _) _ _ _ _ :: _) _ _; exact plan4x27 kk.out)))) : P := h ⟨k⟩
theorem plan4g32 {P Q : Prop} (k : Q) (h : Hold Q → P := by (intro kk; (exact a141a087 kk.out))) : P := h ⟨k⟩
theorem plan4r1 {P Q : Prop} (k : Q) (h : Hold Q → InR 26 0 (.q 0 (.q 1 (.q 2 (.q 3 (.q 4 (.q 5 (.q 6 (.q 7 (.q 8 (.e 9 .nil)))))))))) P := by exact aR0) : P := h ⟨k⟩
def lastV (l : List Vt) : Int := (l.getLast?.map (·.id)).getD 0
def lastE (l : List Eg) : Int := (l.getLast?.map (·.id)).getD 0
def metM (l : List Vt) : Pt → Option Bool := l.foldl (fun m v => upd m v.p true) (fun _ => none)
def pairM (l : List Eg) : Pt → Option Bool := l.foldl (fun m e => upd m ⟨min e.a e.b, max e.a e.b⟩ true) (fun _ => none)
theorem metM_step {vs : List Vt} {k : Nat} {i x y : Int} (h : vs[k]? = some ⟨i, ⟨x, y⟩⟩) : metM (vs.take (k + 1)) = upd (metM (vs.take k)) ⟨x, y⟩ true := by
 unfold metM
 rw [List.take_add_one, h, List.foldl_append]; rfl
theorem pairM_step {es : List Eg} {k : Nat} {i x y : Int} (h : es[k]? = some ⟨i, x, y⟩) : pairM (es.take (k + 1)) = upd (pairM (es.take k)) ⟨min x y, max x y⟩ true := by
 unfold pairM
 rw [List.take_add_one, h, List.foldl_append]; rfl
theorem lastV_step {vs : List Vt} {k : Nat} {v : Vt} (h : vs[k]? = some v) : lastV (vs.take (k + 1)) = v.id := by
 unfold lastV
 rw [List.take_add_one, h]; simp
theorem lastE_step {es : List Eg} {k : Nat} {e : Eg} (h : es[k]? = some e) : lastE (es.take (k + 1)) = e.id := by
 unfold lastE
 rw [List.take_add_one, h]; simp
def vOK (vs : List Vt) (j : Nat) : Bool :=
 match vs[j]? with
 | some v => !(decide (v.id ≤ lastV (vs.take j)) || (!inB v.p || (metM (vs.take j) v.p).getD false))
 | none => true
def eOK (vs : List Vt) (es : List Eg) (j : Nat) : Bool :=
 match es[j]? with
 | some e => !(decide (e.id ≤ lastE (es.take j)) || (!(atM vs e.a).isSome || (!(atM vs e.b).isSome || (e.a == e.b || ((pairM (es.take j) ⟨min e.a e.b, max e.a e.b⟩).getD false || ((vs.any fun v => onB v.p (atP vs e.a) (atP vs e.b)) || crossB vs (es.take j) (atP vs e.a) (atP vs e.b)))))))
 | none => true
def rightB (vs : List Vt) (es : List Eg) : Bool := !(decide (512 < vs.length) || decide (1024 < es.length)) && ((List.range vs.length).all (vOK vs) && (List.range es.length).all (eOK vs es))
theorem range_step {f : Nat → Bool} {j : Nat} (h : (List.range j).all f = true) (hf : f j = true) : (List.range (j + 1)).all f = true := by
 rw [List.range_succ, List.all_append, h]; simp [hf]
theorem range_no {f : Nat → Bool} {j n : Nat} (hj : j < n) (hf : f j = false) : (List.range n).all f = false := by
 rw [Bool.eq_false_iff]
 intro h
 have := List.all_eq_true.1 h j (List.mem_range.2 hj)
 rw [hf] at this; cases this
theorem right_len (vs : List Vt) (es : List Eg) (h : (decide (512 < vs.length) || decide (1024 < es.length)) = true) : rightB vs es = false := by unfold rightB; rw [h]; rfl
theorem right_v (vs : List Vt) (es : List Eg) {j : Nat} (hj : j < vs.length) (h : vOK vs j = false) : rightB vs es = false := by unfold rightB; rw [range_no hj h]; simp
theorem right_e (vs : List Vt) (es : List Eg) {j : Nat} (hj : j < es.length) (h : eOK vs es j = false) : rightB vs es = false := by unfold rightB; rw [range_no hj h]; simp
theorem right_y (vs : List Vt) (es : List Eg) (h1 : vs.length ≤ 512) (h2 : es.length ≤ 1024) (h3 : (List.range vs.length).all (vOK vs) = true) (h4 : (List.range es.length).all (eOK vs es) = true) : rightB vs es = true := by
 unfold rightB; rw [h3, h4]
 simp; omega
set_option maxRecDepth 200000 in
set_option maxHeartbeats 16000000 in
theorem right_any (vs : List Vt) (es : List Eg) (A A2 : Option Addr) (n m : Nat) (c c2 : Nat) (F : Nat → Prop) (w : World) (hn : n = vs.length) (hm : m = es.length) (hs : Sl F w A (vR vs)) (hs2 : Sl F w A2 (eR es)) (hl : n ≤ 1000000) (hl2 : m ≤ 1000000) (hc2 : m ≤ c2) (hcc : c2 ≤ maxLen) :
  Calls Tryz.prog 13 #[.agg #[.slice A n c, .slice A2 m c2]] w fun e w' => e = .returned (.bool (rightB vs es)) ∧ Below w.heap.size w w' := by
 obtain ⟨v, hv⟩ : ∃ v, rightB vs es = v := ⟨_, rfl⟩
 have HV := Lib.hid hv
 rw [hv]; clear hv
 obtain ⟨b0, o0, H1, f0⟩ := (Own.start w).addSl (hs.ro (by rfl))
 obtain ⟨b9, o9, H, f9⟩ := H1.addSl (hs2.ro (by rfl))
 clear hs hs2 H1
 subst hn hm
 by_cases g1 : 512 < vs.length
 ·have g1' : (decide ((512 : Int) < (vs.length : Int))) = true := by simp; omega
  go_enter Tryz.func13, Tryz.ntmps13
  have tk0 : True := trivial
  go_wp2_with (first
   | go_big_skip
   | (guard_target = wpList _ _ _ (_ :: _) _ _; (first | (refine a15dc6b3 ?_) | (refine a9475ade ?_; intro b2; clear H; (try clear w2); intro w2 H; (clear tk0; rename Nat => b1)))))
  go_ret
  exact ⟨ret_b (by rw [← HV.out, right_len vs es (by simp [g1])]), H.below⟩
 have g1' : (decide ((512 : Int) < (vs.length : Int))) = false := by simp; omega
 by_cases g2 : 1024 < es.length
 ·have g2' : (decide ((1024 : Int) < (es.length : Int))) = true := by simp; omega
  go_enter Tryz.func13, Tryz.ntmps13
  have tk0 : True := trivial
  go_wp2_with (guard_target = wpList _ _ _ (_ :: _) _ _; (first | (refine a15dc6b3 ?_) | (refine a9475ade ?_; intro b2; clear H; (try clear w2); intro w2 H; (clear tk0; rename Nat => b1))))
  go_ret
  exact ⟨ret_b (by rw [← HV.out, right_len vs es (by simp [g2])]), H.below⟩
 have g2' : (decide ((1024 : Int) < (es.length : Int))) = false := by simp; omega
 go_enter Tryz.func13, Tryz.ntmps13
 have tk0 : True := trivial
 have tk1 : True := trivial
 have tk2 : True := trivial
 go_wp2_with (guard_target = wpList _ _ _ (_ :: _) _ _; (first | (refine plan4g3 ?_) | (refine plan4g9 ?_; intro b2; clear H; (try clear w2); intro w2 H; (first | (clear tk0; rename Nat => b1) | (clear tk1; rename Nat => b2) | (clear tk2; rename Nat => b3)))))
 go_loopg [30, 5] vs.length (fun k i d wr => k ≤ vs.length ∧ i = .int .i64 ((vs.length - k : Nat) : Int) ∧ d = .int .i64 (lastV (vs.take (vs.length - k))) ∧ (List.range (vs.length - k)).all (vOK vs) = true ∧ Own w.heap.size w wr [mHas b3 (metM (vs.take (vs.length - k))), mAt b2 (atM (vs.take (vs.length - k))), .cells b1 [.slice A vs.length c, .slice A2 es.length c2], .rd A2 b9 o9 (eR es), .rd A b0 o0 (vR vs)])
 case atStart => exact ⟨Nat.le_refl _, by simp, by simp [lastV], by simp, by rw [Nat.sub_self]; exact H⟩
 case round =>
  clear H
  obtain ⟨hk, rfl, rfl, ht, H⟩ := hrel
  have HT := Lib.hid ht
  clear ht
  by_cases hlt : 0 < gk
  ·obtain ⟨j, hj⟩ : ∃ j, vs.length - gk = j := ⟨_, rfl⟩
   have hjl : j < vs.length := by omega
   rw [hj] at HT H ⊢
   obtain ⟨i, x, y, he⟩ := vt_at vs hjl
   obtain rfl := H.rdAddr m4 (vR_pos he)
   have hp := at_v (A := some ⟨b0, o0, none⟩) (b := b0) (off := o0) he
   have hst := atM_step he
   have hst2 := metM_step he
   have hst3 := lastV_step he
   have hok : vOK vs j = !(decide (i ≤ lastV (vs.take j)) || (!inB ⟨x, y⟩ || (metM (vs.take j) ⟨x, y⟩).getD false)) := by unfold vOK; rw [he]
   have hin := geomIn_any x y
   generalize atM (vs.take j) = mm at H hst
   generalize metM (vs.take j) = mt at H hst2 hok
   generalize lastV (vs.take j) = d at hok ⊢
   obtain ⟨v1, hv1⟩ : ∃ v, decide (i ≤ d) = v := ⟨_, rfl⟩
   obtain ⟨v2, hv2⟩ : ∃ v, inB ⟨x, y⟩ = v := ⟨_, rfl⟩
   obtain ⟨v3, hv3⟩ : ∃ v, (mt ⟨x, y⟩).getD false = v := ⟨_, rfl⟩
   rw [hv1, hv2, hv3] at hok
   rw [hv2] at hin
   have HA := Lib.hid hst
   have HB := Lib.hid hst2
   have HC := Lib.hid hst3
   have HJ := Lib.hid hj
   have HO := Lib.hid hok
   clear he hst hst2 hst3 hj hv2 hok
   cases v1
   rotate_left 1
   ·have tk0 : True := trivial
    go_wp2_with (first
     | go_big_skip
     | (guard_target = wpList _ _ _ (_ :: _) _ _; (first | (refine plan4g10 ?_) | (refine plan4g6 ?_; clear H; (try clear w2); intro w2 H) | (refine plan4g9 ?_; intro b2; clear H; (try clear w2); intro w2 H; (clear tk0; rename Nat => b4)))))
    go_ret
    exact ⟨ret_b (by rw [← HV.out, right_v vs es hjl (by rw [HO.out]; rfl)]), H.below⟩
   cases v2
   ·have tk0 : True := trivial
    go_wp2_with (first
     | (go_at_call 24; (with_reducible refine (hin _).mono ?_); rintro e w3 ⟨rfl, hb⟩; replace H := H.ext hb; clear hb; dsimp only)
     | (guard_target = wpList _ _ _ (_ :: _) _ _; (first | (refine plan4g10 ?_) | (refine plan4g6 ?_; clear H; (try clear w2); intro w2 H) | (refine plan4g9 ?_; intro b2; clear H; (try clear w2); intro w2 H; (clear tk0; rename Nat => b4)))))
    go_ret
    exact ⟨ret_b (by rw [← HV.out, right_v vs es hjl (by rw [HO.out]; rfl)]), H.below⟩
   cases v3
   rotate_left 1
   ·have tk0 : True := trivial
    go_wp2_with (first
     | (go_at_call 24; (with_reducible refine (hin _).mono ?_); rintro e w3 ⟨rfl, hb⟩; replace H := H.ext hb; clear hb; dsimp only)
     | (guard_target = wpList _ _ _ (_ :: _) _ _; (first | (refine plan4g10 ?_) | (refine plan4g6 ?_; clear H; (try clear w2); intro w2 H) | (refine plan4g9 ?_; intro b2; clear H; (try clear w2); intro w2 H; (clear tk0; rename Nat => b4)))))
    go_ret
    exact ⟨ret_b (by rw [← HV.out, right_v vs es hjl (by rw [HO.out]; rfl)]), H.below⟩
   ·have tk0 : True := trivial
    go_wp2_with (first
     | (go_at_call 24; (with_reducible refine (hin _).mono ?_); rintro e w3 ⟨rfl, hb⟩; replace H := H.ext hb; clear hb; dsimp only)
     | (guard_target = wpList _ _ _ (_ :: _) _ _; (first | (refine plan4g10 ?_) | (refine plan4g6 ?_; clear H; (try clear w2); intro w2 H) | (refine plan4g9 ?_; intro b2; clear H; (try clear w2); intro w2 H; (clear tk0; rename Nat => b4)))))
    go_roundg (gk - 1)
    case rel =>
     have e1 : vs.length - (gk - 1) = j + 1 := by have := HJ.out; omega
     exact ⟨by omega, by have := HJ.out; congr 1; omega, by rw [e1, HC.out], by rw [e1]; exact range_step HT.out (by rw [HO.out]; rfl), by rw [e1, HA.out, HB.out]; exact H.tail⟩
    case measure => omega
  ·obtain rfl : gk = 0 := by omega
   rw [Nat.sub_zero, List.take_length] at H
   rw [Nat.sub_zero] at HT
   have eok : ∀ j i x y, es[j]? = some ⟨i, x, y⟩ → eOK vs es j = !(decide (i ≤ lastE (es.take j)) || (!(atM vs x).isSome || (!(atM vs y).isSome || (x == y || ((pairM (es.take j) ⟨min x y, max x y⟩).getD false || ((vs.any fun v => onB v.p ((atM vs x).getD zP) ((atM vs y).getD zP)) || crossB vs (es.take j) ((atM vs x).getD zP) ((atM vs y).getD zP))))))) := by
    intro j i x y h; unfold eOK; rw [h]; rfl
   generalize atM vs = mm at H eok
   have EOK := Lib.hid eok
   clear eok
   have tk0 : True := trivial
   go_wp2_with (guard_target = wpList _ _ _ (_ :: _) _ _; (first | (refine plan4g12 ?_) | (refine plan4g16 ?_; intro b2; clear H; (try clear w2); intro w2 H; (clear tk0; rename Nat => b5))))
   go_loopg [65, 5] es.length (fun k i d wr => k ≤ es.length ∧ i = .int .i64 ((es.length - k : Nat) : Int) ∧ d = .int .i64 (lastE (es.take (es.length - k))) ∧ (List.range (es.length - k)).all (eOK vs es) = true ∧ Own w.heap.size w wr [mHas b5 (pairM (es.take (es.length - k))), mHas b3 (metM vs), mAt b2 mm, .cells b1 [.slice A vs.length c, .slice A2 es.length c2], .rd A2 b9 o9 (eR es), .rd A b0 o0 (vR vs)])
   case atStart => exact ⟨Nat.le_refl _, by simp, by simp [lastE], by simp, by rw [Nat.sub_self]; exact H⟩
   case round =>
    clear H
    obtain ⟨hk2, rfl, rfl, ht2, H⟩ := hrel
    have HT2 := Lib.hid ht2
    clear ht2
    by_cases hlt2 : 0 < gk
    ·obtain ⟨j, hj⟩ : ∃ j, es.length - gk = j := ⟨_, rfl⟩
     have hjl : j < es.length := by omega
     rw [hj] at HT2 H ⊢
     obtain ⟨i, x, y, he⟩ := eg_at es hjl
     obtain rfl := H.rdAddr m4 (eR_pos he)
     have hp := at_e (A := some ⟨b9, o9, none⟩) (b := b9) (off := o9) he
     have hst2 := pairM_step he
     have hst3 := lastE_step he
     have hok := EOK.out _ _ _ _ he
     have hend := ends_any i x y
     have hon := fun F w h => onWay_any vs A (some ⟨b9, o9, none⟩) vs.length es.length c c2 F ((mm x).getD zP).x ((mm x).getD zP).y ((mm y).getD zP).x ((mm y).getD zP).y w rfl h hl
     have hcr := fun F w h h2 => crossed_any vs (es.take j) A (some ⟨b9, o9, none⟩) vs.length j c c2 F ((mm x).getD zP).x ((mm x).getD zP).y ((mm y).getD zP).x ((mm y).getD zP).y w rfl (by rw [List.length_take]; omega) h h2 hl (by omega)
     have eh : ∀ (w : World) (F : Nat → Prop), Sl F w (some ⟨b9, o9, none⟩) (eR es) → Sl F w (some ⟨b9, o9, none⟩) (eR (es.take j)) := fun w F h => by rw [eR_take]; exact h.take _
     generalize pairM (es.take j) = pm at H hst2 hok
     generalize lastE (es.take j) = d at hok ⊢
     generalize hq : (mm x).getD zP = q1 at hok hon hcr
     obtain ⟨qx, qy⟩ := q1
     generalize hq2 : (mm y).getD zP = q2 at hok hon hcr
     obtain ⟨rx, ry⟩ := q2
     obtain ⟨v1, hv1⟩ : ∃ v, decide (i ≤ d) = v := ⟨_, rfl⟩
     obtain ⟨v2, hv2⟩ : ∃ v, (mm x).isSome = v := ⟨_, rfl⟩
     obtain ⟨v3, hv3⟩ : ∃ v, (mm y).isSome = v := ⟨_, rfl⟩
     obtain ⟨v4, hv4⟩ : ∃ v, (x == y) = v := ⟨_, rfl⟩
     obtain ⟨v5, hv5⟩ : ∃ v, (pm ⟨min x y, max x y⟩).getD false = v := ⟨_, rfl⟩
     obtain ⟨v6, hv6⟩ : ∃ v, (vs.any fun v => onB v.p ⟨qx, qy⟩ ⟨rx, ry⟩) = v := ⟨_, rfl⟩
     obtain ⟨v7, hv7⟩ : ∃ v, crossB vs (es.take j) ⟨qx, qy⟩ ⟨rx, ry⟩ = v := ⟨_, rfl⟩
     rw [hv1, hv2, hv3, hv4, hv5, hv6, hv7] at hok
     simp only [hv6] at hon
     simp only [hv7] at hcr
     generalize min x y = mi at hend hv5 hst2
     generalize max x y = ma at hend hv5 hst2
     have HB := Lib.hid hst2
     have HC := Lib.hid hst3
     have HJ := Lib.hid hj
     have HO := Lib.hid hok
     clear he hst2 hst3 hj hok hv6 hv7
     cases v1
     rotate_left 1
     ·have tk0 : True := trivial
      have tk1 : True := trivial
      have tk2 : True := trivial
      have X0 := @hq
      have X1 := @hq2
      have X2 := @zz
      have X3 := @zz
      go_wp2_with (first
       | go_big_skip
       | ((guard_target = wpList _ _ _ (_ :: _) _ _); (first | (refine plan4g24 ?_) | (refine plan4g28 ?_; clear H; (try clear w2); intro w2 H) | (refine plan4g32 ?_; intro b2; clear H; (try clear w2); intro w2 H; (first | (clear tk0; rename Nat => b6) | (clear tk1; rename Nat => b7) | (clear tk2; rename Nat => b8))))))
      go_ret
      exact ⟨ret_b (by rw [← HV.out, right_e vs es hjl (by rw [HO.out]; rfl)]), H.below⟩
     cases v2
     ·have tk0 : True := trivial
      have tk1 : True := trivial
      have tk2 : True := trivial
      have X0 := @hq
      have X1 := @hq2
      have X2 := @zz
      have X3 := @zz
      go_wp2_with (first
       | go_big_skip
       | ((guard_target = wpList _ _ _ (_ :: _) _ _); (first | (refine plan4g24 ?_) | (refine plan4g28 ?_; clear H; (try clear w2); intro w2 H) | (refine plan4g32 ?_; intro b2; clear H; (try clear w2); intro w2 H; (first | (clear tk0; rename Nat => b6) | (clear tk1; rename Nat => b7) | (clear tk2; rename Nat => b8))))))
      go_ret
      exact ⟨ret_b (by rw [← HV.out, right_e vs es hjl (by rw [HO.out]; rfl)]), H.below⟩
     cases v3
     ·have tk0 : True := trivial
      have tk1 : True := trivial
      have tk2 : True := trivial
      have X0 := @hq
      have X1 := @hq2
      have X2 := @zz
      have X3 := @zz
      go_wp2_with (first
       | go_big_skip
       | ((guard_target = wpList _ _ _ (_ :: _) _ _); (first | (refine plan4g24 ?_) | (refine plan4g28 ?_; clear H; (try clear w2); intro w2 H) | (refine plan4g32 ?_; intro b2; clear H; (try clear w2); intro w2 H; (first | (clear tk0; rename Nat => b6) | (clear tk1; rename Nat => b7) | (clear tk2; rename Nat => b8))))))
      go_ret
      exact ⟨ret_b (by rw [← HV.out, right_e vs es hjl (by rw [HO.out]; rfl)]), H.below⟩
     cases v4
     rotate_left 1
     ·have tk0 : True := trivial
      have tk1 : True := trivial
      have tk2 : True := trivial
      have X0 := @hq
      have X1 := @hq2
      have X2 := @zz
      have X3 := @zz
      go_wp2_with (first
       | go_big_skip
       | ((guard_target = wpList _ _ _ (_ :: _) _ _); (first | (refine plan4g24 ?_) | (refine plan4g28 ?_; clear H; (try clear w2); intro w2 H) | (refine plan4g32 ?_; intro b2; clear H; (try clear w2); intro w2 H; (first | (clear tk0; rename Nat => b6) | (clear tk1; rename Nat => b7) | (clear tk2; rename Nat => b8))))))
      go_ret
      exact ⟨ret_b (by rw [← HV.out, right_e vs es hjl (by rw [HO.out]; rfl)]), H.below⟩
     cases v5
     rotate_left 1
     ·have tk0 : True := trivial
      have tk1 : True := trivial
      have tk2 : True := trivial
      have X0 := @hq
      have X1 := @hq2
      have X2 := @zz
      have X3 := @zz
      go_wp2_with (first
       | go_big_skip
       | (go_at_call 37; (with_reducible refine (hend _).mono ?_); rintro e w3 ⟨rfl, hb⟩; replace H := H.ext hb; clear hb; dsimp only; (skip))
       | ((guard_target = wpList _ _ _ (_ :: _) _ _); (first | (refine plan4g24 ?_) | (refine plan4g28 ?_; clear H; (try clear w2); intro w2 H) | (refine plan4g32 ?_; intro b2; clear H; (try clear w2); intro w2 H; (first | (clear tk0; rename Nat => b6) | (clear tk1; rename Nat => b7) | (clear tk2; rename Nat => b8))))))
      go_ret
      exact ⟨ret_b (by rw [← HV.out, right_e vs es hjl (by rw [HO.out]; rfl)]), H.below⟩
     cases v6
     rotate_left 1
     ·have tk0 : True := trivial
      have tk1 : True := trivial
      have tk2 : True := trivial
      have X0 := @hq
      have X1 := @hq2
      have X2 := @zz
      have X3 := @zz
      go_wp2_with (first
       | (go_at_call 37; (with_reducible refine (hend _).mono ?_); rintro e w3 ⟨rfl, hb⟩; replace H := H.ext hb; clear hb; dsimp only; (skip))
       | (go_at_call 38; (with_reducible refine (hon _ _ (aD f0)).mono ?_); rintro e w3 ⟨rfl, hb⟩; replace H := H.ext hb; clear hb; dsimp only; (skip))
       | ((guard_target = wpList _ _ _ (_ :: _) _ _); (first | (refine plan4g24 ?_) | (refine plan4g28 ?_; clear H; (try clear w2); intro w2 H) | (refine plan4g32 ?_; intro b2; clear H; (try clear w2); intro w2 H; (first | (clear tk0; rename Nat => b6) | (clear tk1; rename Nat => b7) | (clear tk2; rename Nat => b8))))))
      go_ret
      exact ⟨ret_b (by rw [← HV.out, right_e vs es hjl (by rw [HO.out]; rfl)]), H.below⟩
     cases v7
     rotate_left 1
     ·have tk0 : True := trivial
      have tk1 : True := trivial
      have tk2 : True := trivial
      have X0 := @hq
      have X1 := @hq2
      have X2 := @zz
      have X3 := @zz
      go_wp2_with (first
       | (guard_target = Code.wp _ (Code.region 26 _ true) _ _ _; refine plan4r1 ?_; clear H; (try clear w2); intro w2 H)
       | (go_at_call 37; (with_reducible refine (hend _).mono ?_); rintro e w3 ⟨rfl, hb⟩; replace H := H.ext hb; clear hb; dsimp only; (skip))
       | (go_at_call 38; (with_reducible refine (hon _ _ (aD f0)).mono ?_); rintro e w3 ⟨rfl, hb⟩; replace H := H.ext hb; clear hb; dsimp only; (skip))
       | (go_at_call 39; (with_reducible refine (hcr _ _ (aD f0) (eh _ _ (aD f9))).mono ?_); rintro e w3 ⟨rfl, hb⟩; replace H := H.ext hb; clear hb; dsimp only; (refine a8555864 ?_; clear hK K))
       | ((first | guard_target = wpList _ _ _ (_ :: _) _ _ | guard_target = wpTree _ _ _ _ _ _ _); (first | (refine plan4g24 ?_) | (refine plan4g28 ?_; clear H; (try clear w2); intro w2 H) | (refine plan4g32 ?_; intro b2; clear H; (try clear w2); intro w2 H; (first | (clear tk0; rename Nat => b6) | (clear tk1; rename Nat => b7) | (clear tk2; rename Nat => b8))) | (guard_target = wpTree _ _ _ Tr.nil _ _ _; refine tree_nil ?_) | (refine ace93fc0 ?_; intro K hK))))
      go_ret
      exact ⟨ret_b (by rw [← HV.out, right_e vs es hjl (by rw [HO.out]; rfl)]), H.below⟩
     ·have tk0 : True := trivial
      have tk1 : True := trivial
      have tk2 : True := trivial
      have X0 := @hq
      have X1 := @hq2
      have X2 := @zz
      have X3 := @zz
      go_wp2_with (first
       | (guard_target = Code.wp _ (Code.region 26 _ true) _ _ _; refine plan4r1 ?_; clear H; (try clear w2); intro w2 H)
       | (go_at_call 37; (with_reducible refine (hend _).mono ?_); rintro e w3 ⟨rfl, hb⟩; replace H := H.ext hb; clear hb; dsimp only; (skip))
       | (go_at_call 38; (with_reducible refine (hon _ _ (aD f0)).mono ?_); rintro e w3 ⟨rfl, hb⟩; replace H := H.ext hb; clear hb; dsimp only; (skip))
       | (go_at_call 39; (with_reducible refine (hcr _ _ (aD f0) (eh _ _ (aD f9))).mono ?_); rintro e w3 ⟨rfl, hb⟩; replace H := H.ext hb; clear hb; dsimp only; (refine a8555864 ?_; clear hK K))
       | ((first | guard_target = wpList _ _ _ (_ :: _) _ _ | guard_target = wpTree _ _ _ _ _ _ _); (first | (refine plan4g24 ?_) | (refine plan4g28 ?_; clear H; (try clear w2); intro w2 H) | (refine plan4g32 ?_; intro b2; clear H; (try clear w2); intro w2 H; (first | (clear tk0; rename Nat => b6) | (clear tk1; rename Nat => b7) | (clear tk2; rename Nat => b8))) | (guard_target = wpTree _ _ _ Tr.nil _ _ _; refine tree_nil ?_) | (refine ace93fc0 ?_; intro K hK))))
      go_roundg (gk - 1)
      case rel =>
       have e1 : es.length - (gk - 1) = j + 1 := by have := HJ.out; omega
       refine ⟨by omega, by have := HJ.out; congr 1; omega, by rw [e1, HC.out], by rw [e1]; exact range_step HT2.out (by rw [HO.out]; rfl), ?_⟩
       rw [e1, HB.out]
       exact H.tail.tail.tail
      case measure => omega
    ·obtain rfl : gk = 0 := by omega
     have tk0 : True := trivial
     go_wp2_with (first | fail)
     go_ret
     exact ⟨ret_b (by rw [← HV.out]; rw [Nat.sub_zero] at HT2; exact (right_y vs es (by omega) (by omega) HT.out HT2.out).symm), H.below⟩
def prevV (vs : List Vt) (j : Nat) : Int := ((vs[j - 1]?).map (·.id)).getD 0
def prevE (es : List Eg) (j : Nat) : Int := ((es[j - 1]?).map (·.id)).getD 0
def vOKr (vs : List Vt) (j : Nat) : Bool :=
 match vs[j]? with
 | some v => !((decide (v.id < 1) || ((decide (0 < j) && decide (v.id ≤ prevV vs j)) || !inB v.p)) || (vs.take j).any fun u => decide (u.p = v.p))
 | none => true
def eOKr (vs : List Vt) (es : List Eg) (j : Nat) : Bool :=
 match es[j]? with
 | some e => !(decide (e.id < 1) || ((decide (0 < j) && decide (e.id ≤ prevE es j)) || (e.a == e.b || (!(vs.find? fun v => v.id == e.a).isSome || (!(vs.find? fun v => v.id == e.b).isSome ||
   (linksB (es.take j) e.a e.b || (onWayR vs (rpt vs e.a) (rpt vs e.b) || meetsR vs (es.take j) (rpt vs e.a) (rpt vs e.b))))))))
 | none => true
def rightR (vs : List Vt) (es : List Eg) : Bool := !(decide (512 < vs.length) || decide (1024 < es.length)) && ((List.range vs.length).all (vOKr vs) && (List.range es.length).all (eOKr vs es))
theorem idx_none {α : Type} {f : α → Bool} {l : List α} (h : l.find? f = none) : l.findIdx? f = none := by
 rw [List.findIdx?_eq_none_iff]
 intro x hx
 have := List.find?_eq_none.1 h x hx
 simpa using this
theorem rangeR_step {f : Nat → Bool} {j : Nat} (h : (List.range j).all f = true) (hf : f j = true) : (List.range (j + 1)).all f = true := by
 rw [List.range_succ, List.all_append, h]; simp [hf]
theorem rangeR_no {f : Nat → Bool} {j n : Nat} (hj : j < n) (hf : f j = false) : (List.range n).all f = false := by
 rw [Bool.eq_false_iff]
 intro h
 have := List.all_eq_true.1 h j (List.mem_range.2 hj)
 rw [hf] at this; cases this
theorem rightR_len (vs : List Vt) (es : List Eg) (h : (decide (512 < vs.length) || decide (1024 < es.length)) = true) : rightR vs es = false := by unfold rightR; rw [h]; rfl
theorem rightR_v (vs : List Vt) (es : List Eg) {j : Nat} (hj : j < vs.length) (h : vOKr vs j = false) : rightR vs es = false := by unfold rightR; rw [rangeR_no hj h]; simp
theorem rightR_e (vs : List Vt) (es : List Eg) {j : Nat} (hj : j < es.length) (h : eOKr vs es j = false) : rightR vs es = false := by unfold rightR; rw [rangeR_no hj h]; simp
theorem rightR_y (vs : List Vt) (es : List Eg) (h1 : vs.length ≤ 512) (h2 : es.length ≤ 1024) (h3 : (List.range vs.length).all (vOKr vs) = true) (h4 : (List.range es.length).all (eOKr vs es) = true) : rightR vs es = true := by
 unfold rightR; rw [h3, h4]
 simp; omega
theorem vokr_in {vs : List Vt} (h : (List.range vs.length).all (vOKr vs) = true) : ∀ v ∈ vs, inB v.p = true := by
 intro v hv
 obtain ⟨k, hk⟩ := List.getElem?_of_mem hv
 have := List.all_eq_true.1 h k (List.mem_range.2 (List.getElem?_eq_some_iff.1 hk).1)
 unfold vOKr at this
 rw [hk] at this
 simp at this
 exact this.1.2.2
theorem eokr_av {vs : List Vt} {es : List Eg} {j : Nat} (h : (List.range j).all (eOKr vs es) = true) : ∀ e ∈ es.take j, (∃ v, (vs.find? fun v => v.id == e.a) = some v) ∧ ∃ v, (vs.find? fun v => v.id == e.b) = some v := by
 intro e he
 obtain ⟨k, hk⟩ := List.getElem?_of_mem he
 rw [List.getElem?_take] at hk
 split at hk
 ·rename_i hkj
  have := List.all_eq_true.1 h k (List.mem_range.2 hkj)
  unfold eOKr at this
  rw [hk] at this
  simp only [Bool.not_eq_true', Bool.or_eq_false_iff, Bool.not_eq_false'] at this
  obtain ⟨_, _, _, h1, h2, _⟩ := this
  exact ⟨Option.isSome_iff_exists.1 h1, Option.isSome_iff_exists.1 h2⟩
 ·cases hk
end Go.Proofs.YtlhmjhildlnokaaGreat
