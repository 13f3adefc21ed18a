/-
  How many nodes and pieces there are behind a put.
-/
import Derived.Test.YtlhmjhildlnokaaTrap5
namespace Go.Proofs.Ytlhmjhildlnokaa
set_option linter.unusedVariables false
set_option linter.unusedSimpArgs false
open Go.RowKit Go.Sort Go.Shelf
/-! ### How much stands there -/
def liveN (P : List Pc) : Nat := P.countP fun p => !p.g
theorem live_app (P Q : List Pc) : liveN (P ++ Q) = liveN P + liveN Q := List.countP_append
theorem live_set {P : List Pc} {i : Nat} {p q : Pc} (h : P[i]? = some p) (hg : q.g = p.g) : liveN (P.set i q) = liveN P := by
  obtain ⟨h1, h2⟩ := List.getElem?_eq_some_iff.1 h
  unfold liveN
  rw [List.countP_set (h := h1), h2, hg]
  have : (if (!p.g) = true then 1 else 0) ≤ List.countP (fun p => !p.g) P := by
    split
    · rename_i e
      have : 0 < List.countP (fun p => !p.g) P := List.countP_pos_iff.2 ⟨p, List.mem_of_getElem? h, e⟩
      omega
    · omega
  omega
theorem live_gone {P : List Pc} {i : Nat} {p : Pc} (h : P[i]? = some p) (hg : p.g = false) : liveN (setG P i) + 1 = liveN P := by
  obtain ⟨h1, h2⟩ := List.getElem?_eq_some_iff.1 h
  unfold setG liveN
  rw [h]
  simp only
  rw [List.countP_set (h := h1), h2, hg]
  have : 0 < List.countP (fun p => !p.g) P := List.countP_pos_iff.2 ⟨p, List.mem_of_getElem? h, by rw [hg]; rfl⟩
  simp
  omega
theorem live_setR (P : List Pc) (i : Nat) (r : Pt) : liveN (setR P i r) = liveN P := by
  unfold setR
  split
  · rename_i p h
    exact live_set h rfl
  · rfl
theorem live_one (t : Tz) (n : Int) : liveN [⟨t, n, false⟩] = 1 := rfl
def WfP (N : List Nd) (P : List Pc) : Prop := ∀ p ∈ P, 0 ≤ p.n ∧ p.n < (N.length : Int)
theorem WfP.setR {N : List Nd} {P : List Pc} (h : WfP N P) (i : Nat) (r : Pt) : WfP N (setR P i r) := by
  unfold Go.Proofs.Ytlhmjhildlnokaa.setR
  split
  · rename_i p hp
    intro q hq
    rcases List.mem_or_eq_of_mem_set hq with hq | rfl
    · exact h q hq
    · exact h p (List.mem_of_getElem? hp)
  · exact h
theorem WfP.setG {N : List Nd} {P : List Pc} (h : WfP N P) (i : Nat) : WfP N (setG P i) := by
  unfold Go.Proofs.Ytlhmjhildlnokaa.setG
  split
  · rename_i p hp
    intro q hq
    rcases List.mem_or_eq_of_mem_set hq with hq | rfl
    · exact h q hq
    · exact h p (List.mem_of_getElem? hp)
  · exact h
theorem WfP.app {N M : List Nd} {P : List Pc} (h : WfP N P) {p : Pc} (h1 : 0 ≤ p.n) (h2 : p.n < ((N ++ M).length : Int)) : WfP (N ++ M) (P ++ [p]) := by
  intro q hq
  rcases List.mem_append.1 hq with hq | hq
  · have := h q hq
    rw [List.length_append]
    omega
  · obtain rfl : q = p := by simpa using hq
    exact ⟨h1, h2⟩
theorem WfP.mono {N M : List Nd} {P : List Pc} (h : WfP N P) (hl : N.length ≤ M.length) : WfP M P := fun p hp => by have := h p hp; omega
/-- How much more there is: c pieces, of which all live; n nodes. -/
structure Mr (X Y : PSt) (c n : Nat) : Prop where
  p : Y.P.length = X.P.length + c
  n : Y.N.length = X.N.length + n
  live : liveN Y.P = liveN X.P + c
  wf : WfP X.N X.P → WfP Y.N Y.P
theorem upS_mr (c : Bool) (t : Tz) (X : PSt) : Mr X (upS c t X) c.toNat c.toNat := by
  cases c
  · exact ⟨rfl, rfl, rfl, id⟩
  · exact ⟨by simp [upS], by simp [upS], by simp [upS, live_app, live_one], fun h => h.app (by simp) (by simp; omega)⟩
theorem loS_mr (c : Bool) (t : Tz) (X : PSt) : Mr X (loS c t X) c.toNat c.toNat := by
  cases c
  · exact ⟨rfl, rfl, rfl, id⟩
  · exact ⟨by simp [loS], by simp [loS], by simp [loS, live_app, live_one], fun h => h.app (by simp) (by simp; omega)⟩
theorem endS_mr (c : Bool) (t : Tz) (b : Pt) (X : PSt × Nd) : Mr X.1 (endS c t b X).1 c.toNat (2 * c.toNat) := by
  cases c
  · exact ⟨rfl, rfl, rfl, id⟩
  · refine ⟨by simp [endS], by simp [endS], by simp [endS, live_app, live_one], fun h => ?_⟩
    simp only [endS, if_true, List.append_assoc]
    exact h.app (by simp; omega) (by simp)
theorem begS_mr (c : Bool) (t : Tz) (b : Pt) (X : PSt × Nd) : Mr X.1 (begS c t b X).1 c.toNat (2 * c.toNat) := by
  cases c
  · exact ⟨rfl, rfl, rfl, id⟩
  · refine ⟨by simp [begS], by simp [begS], by simp [begS, live_app, live_one], fun h => ?_⟩
    simp only [begS, if_true, List.append_assoc]
    exact h.app (by simp) (by simp; omega)
theorem Mr.trans {X Y Z : PSt} {a b c d : Nat} (h : Mr X Y a b) (g : Mr Y Z c d) : Mr X Z (a + c) (b + d) := ⟨by rw [g.p, h.p]; omega, by rw [g.n, h.n]; omega, by rw [g.live, h.live]; omega, fun w => g.wf (h.wf w)⟩
/-- What one round makes: c pieces more, of which one of the others is gone. -/
theorem roundS_size {N0 : Nat} {Pa : List Pc} {rest : List Nat} {n : Nat} {id : Int} {s : Sg} {f la : Bool} {X : PSt} {p0 : Pc} (I : PInv N0 Pa (n :: rest) X) (hu : f = false → LeafIn N0 Pa.length X X.u ∧ LeafIn N0 Pa.length X X.d)
    (hp0 : Pa[n]? = some p0) (hg : p0.g = false) :
    ∃ c, (roundS id s f la n X).P.length = X.P.length + c ∧ liveN (roundS id s f la n X).P + 1 = liveN X.P + c ∧ c ≤ 1 + 2 * f.toNat + la.toNat ∧ (roundS id s f la n X).N.length ≤ X.N.length + c + f.toNat + la.toNat ∧
      (WfP X.N X.P → WfP (roundS id s f la n X).N (roundS id s f la n X).P) := by
  obtain ⟨hnl, hnp⟩ := I.rest n (by simp)
  have hXn : (X.P[n]?).getD pc0 = p0 := by rw [hnp, hp0]; rfl
  unfold roundS
  simp only [hXn]
  have ht := turnB_pm s.a s.b p0.t.l
  obtain ⟨cu, hcu⟩ : ∃ c, (f || decide (0 < turnB s.a s.b p0.t.l)) = c := ⟨_, rfl⟩
  obtain ⟨cd, hcd⟩ : ∃ c, (f || decide (turnB s.a s.b p0.t.l < 0)) = c := ⟨_, rfl⟩
  obtain ⟨ce, hce⟩ : ∃ c, (la && (!p0.t.hr || lessB s.b p0.t.r)) = c := ⟨_, rfl⟩
  obtain ⟨cb, hcb⟩ : ∃ c, (f && (!p0.t.hl || lessB p0.t.l s.a)) = c := ⟨_, rfl⟩
  have k1 := upS_mr cu ⟨p0.t.top, id, true, false, if f then s.a else p0.t.l, ⟨0, 0⟩⟩ X
  have k1' := upS_kp cu ⟨p0.t.top, id, true, false, if f then s.a else p0.t.l, ⟨0, 0⟩⟩ X
  have l1 : LeafIn N0 Pa.length (upS cu ⟨p0.t.top, id, true, false, if f then s.a else p0.t.l, ⟨0, 0⟩⟩ X) (upS cu ⟨p0.t.top, id, true, false, if f then s.a else p0.t.l, ⟨0, 0⟩⟩ X).u := upS_leaf I.nN I.nP fun hc => (hu (by rw [← hcu] at hc; cases f; rfl; simp at hc)).1
  have d1 := upS_d cu ⟨p0.t.top, id, true, false, if f then s.a else p0.t.l, ⟨0, 0⟩⟩ X
  rw [hcu, hcd, hce, hcb]
  generalize upS cu ⟨p0.t.top, id, true, false, if f then s.a else p0.t.l, ⟨0, 0⟩⟩ X = X1 at *
  have k2 := loS_mr cd ⟨id, p0.t.bot, true, false, if f then s.a else p0.t.l, ⟨0, 0⟩⟩ X1
  have k2' := loS_kp cd ⟨id, p0.t.bot, true, false, if f then s.a else p0.t.l, ⟨0, 0⟩⟩ X1
  have l2 : LeafIn N0 Pa.length (loS cd ⟨id, p0.t.bot, true, false, if f then s.a else p0.t.l, ⟨0, 0⟩⟩ X1) (loS cd ⟨id, p0.t.bot, true, false, if f then s.a else p0.t.l, ⟨0, 0⟩⟩ X1).d := by
    refine loS_leaf (Nat.le_trans I.nN k1'.nl) (Nat.le_trans I.nP k1'.pl) fun hc => ?_
    rw [d1]
    exact (hu (by rw [← hcd] at hc; cases f; rfl; simp at hc)).2.keep k1'
  have u2 := loS_u cd ⟨id, p0.t.bot, true, false, if f then s.a else p0.t.l, ⟨0, 0⟩⟩ X1
  have l3 := l1.keep k2'
  rw [← u2] at l3
  generalize loS cd ⟨id, p0.t.bot, true, false, if f then s.a else p0.t.l, ⟨0, 0⟩⟩ X1 = X2 at *
  obtain ⟨_, _, _, q1⟩ := l3.id
  obtain ⟨_, _, _, q2⟩ := l2.id
  have hXn2 : (setR (setR X2.P (idN X2.N X2.u) (if la then s.b else p0.t.r)) (idN X2.N X2.d) (if la then s.b else p0.t.r))[n]? = some p0 := by
    rw [setR_ne _ (by omega), setR_ne _ (by omega), (k1'.trans k2').p n (Nat.lt_of_lt_of_le hnl I.nP), hnp, hp0]
  have e3 := live_gone hXn2 hg
  rw [live_setR, live_setR] at e3
  have f3 := rtS_len (if la then s.b else p0.t.r) n X2
  have w3 : WfP X2.N X2.P → WfP (rtS (if la then s.b else p0.t.r) n X2).N (rtS (if la then s.b else p0.t.r) n X2).P := fun h => ((h.setR _ _).setR _ _).setG _
  have e3' : liveN (rtS (if la then s.b else p0.t.r) n X2).P + 1 = liveN X2.P := e3
  generalize rtS (if la then s.b else p0.t.r) n X2 = X3 at *
  have k4 := endS_mr ce { p0.t with hl := true, l := s.b } s.b (X3, ⟨2, id, ⟨0, 0⟩, (X3.u : Int), (X3.d : Int)⟩)
  generalize endS ce { p0.t with hl := true, l := s.b } s.b (X3, ⟨2, id, ⟨0, 0⟩, (X3.u : Int), (X3.d : Int)⟩) = X4 at *
  have k5 := begS_mr cb { p0.t with hr := true, r := s.a } s.a X4
  generalize begS cb { p0.t with hr := true, r := s.a } s.a X4 = X5 at *
  simp only at k4
  have a1 := k1.p; have a2 := k2.p; have a4 := k4.p; have a5 := k5.p
  have b1 := k1.n; have b2 := k2.n; have b4 := k4.n; have b5 := k5.n
  have c1 := k1.live; have c2 := k2.live; have c4 := k4.live; have c5 := k5.live
  have hce' : ce.toNat ≤ la.toNat := by
    rw [← hce]
    cases la
    · simp
    · exact Bool.toNat_le _
  have hcb' : cb.toNat ≤ f.toNat := by
    rw [← hcb]
    cases f
    · simp
    · exact Bool.toNat_le _
  have hud : cu.toNat + cd.toNat ≤ 1 + f.toNat := by
    rw [← hcu, ← hcd]
    cases f
    · simp only [Bool.false_or]
      by_cases h1 : 0 < turnB s.a s.b p0.t.l
      · rw [decide_eq_true h1, decide_eq_false (by omega)]; simp
      · rw [decide_eq_false h1]
        have := Bool.toNat_le (decide (turnB s.a s.b p0.t.l < 0))
        simp only [Bool.toNat_false]; omega
    · simp
  refine ⟨cu.toNat + cd.toNat + ce.toNat + cb.toNat, ?_, ?_, by omega, ?_, fun h => ?_⟩
  · show X5.1.P.length = _
    omega
  · show liveN X5.1.P + 1 = _
    omega
  · show (X5.1.N.set _ _).length ≤ _
    rw [List.length_set]
    omega
  · have := k5.wf (k4.wf (w3 (k2.wf (k1.wf h))))
    intro p hp
    show _ ∧ _ < ((X5.1.N.set _ _).length : Int)
    rw [List.length_set]
    exact this p hp
/-- What all rounds make. -/
theorem roundsS_size {N : List Nd} {P : List Pc} {id : Int} {s : Sg} {all : List Nat} (hW : WfP N P) (hnd : all.Nodup) (hin : ∀ n ∈ all, ∃ p, P[n]? = some p ∧ p.g = false) : ∀ j, j ≤ all.length →
    PInv N.length P (all.drop j) (roundsS id s all j ⟨N, P, 0, 0⟩) ∧ (0 < j → LeafIn N.length P.length (roundsS id s all j ⟨N, P, 0, 0⟩) (roundsS id s all j ⟨N, P, 0, 0⟩).u ∧ LeafIn N.length P.length (roundsS id s all j ⟨N, P, 0, 0⟩) (roundsS id s all j ⟨N, P, 0, 0⟩).d) ∧
    WfP (roundsS id s all j ⟨N, P, 0, 0⟩).N (roundsS id s all j ⟨N, P, 0, 0⟩).P ∧ ∃ c, (roundsS id s all j ⟨N, P, 0, 0⟩).P.length = P.length + c ∧ liveN (roundsS id s all j ⟨N, P, 0, 0⟩).P + j = liveN P + c ∧ (j = 0 → c = 0) ∧ c ≤ j + 2 + (if j = all.length then 1 else 0) ∧
      (roundsS id s all j ⟨N, P, 0, 0⟩).N.length ≤ N.length + c + (if j = 0 then 0 else 1) + (if j = all.length then 1 else 0)
  | 0, _ => ⟨⟨Nat.le_refl _, Nat.le_refl _, fun n hn => by
      obtain ⟨p, hp, _⟩ := hin n (by simpa using hn)
      exact ⟨(List.getElem?_eq_some_iff.1 hp).1, rfl⟩, hW⟩, fun h => absurd h (by omega), hW, 0, rfl, rfl, fun _ => rfl, by omega, by show N.length ≤ _; omega⟩
  | j + 1, hj => by
    obtain ⟨I, hL, hw, c, c1, c2, c0, c3, c4⟩ := roundsS_size (id := id) (s := s) hW hnd hin j (by omega)
    obtain ⟨n, hn⟩ : ∃ n, all[j]? = some n := ⟨_, List.getElem?_eq_getElem (by omega)⟩
    obtain ⟨p, hp, hg⟩ := hin n (List.mem_of_getElem? hn)
    have hdrop : all.drop j = n :: all.drop (j + 1) := by
      rw [List.drop_eq_getElem_cons (List.getElem?_eq_some_iff.1 hn).1, (List.getElem?_eq_some_iff.1 hn).2]
    rw [hdrop] at I
    have hnot : n ∉ all.drop (j + 1) := by
      have : (all.drop j).Nodup := hnd.sublist (List.drop_sublist _ _)
      rw [hdrop, List.nodup_cons] at this
      exact this.1
    have hu : decide (j = 0) = false → LeafIn N.length P.length (roundsS id s all j ⟨N, P, 0, 0⟩) (roundsS id s all j ⟨N, P, 0, 0⟩).u ∧ LeafIn N.length P.length (roundsS id s all j ⟨N, P, 0, 0⟩) (roundsS id s all j ⟨N, P, 0, 0⟩).d := fun h => hL (by have := of_decide_eq_false h; omega)
    obtain ⟨J, u1, u2, _⟩ := roundS_inv (id := id) (s := s) (f := decide (j = 0)) (la := decide (j + 1 = all.length)) I hnot hu
    obtain ⟨d, d1, d2, d3, d4, d5⟩ := roundS_size (id := id) (s := s) (f := decide (j = 0)) (la := decide (j + 1 = all.length)) I hu hp hg
    have e : roundsS id s all (j + 1) ⟨N, P, 0, 0⟩ = roundS id s (decide (j = 0)) (decide (j + 1 = all.length)) n (roundsS id s all j ⟨N, P, 0, 0⟩) := by
      show roundS id s _ _ ((all[j]?).getD 0) _ = _
      rw [hn]; rfl
    rw [e]
    refine ⟨J, fun _ => ⟨u1, u2⟩, d5 hw, c + d, by omega, by omega, fun h => by omega, ?_, ?_⟩
    · have q1 : (decide (j + 1 = all.length)).toNat = if j + 1 = all.length then 1 else 0 := by split <;> rename_i h <;> simp [h]
      have q2 : (decide (j = 0)).toNat = if j = 0 then 1 else 0 := by split <;> rename_i h <;> simp [h]
      rw [q1, q2] at d3
      by_cases h0 : j = 0
      · have := c0 h0
        rw [if_pos h0] at d3
        omega
      · rw [if_neg h0] at d3
        rw [if_neg (by omega)] at c3
        omega
    · have q1 : (decide (j + 1 = all.length)).toNat = if j + 1 = all.length then 1 else 0 := by split <;> rename_i h <;> simp [h]
      have q2 : (decide (j = 0)).toNat = if j = 0 then 1 else 0 := by split <;> rename_i h <;> simp [h]
      rw [q1, q2] at d4
      have : (if j = 0 then 0 else 1) + (if j = 0 then 1 else 0) = 1 := by split <;> omega
      rw [if_neg (show ¬ j = all.length by omega)] at c4
      rw [if_neg (show ¬ j + 1 = 0 by omega)]
      omega
theorem live_filter : ∀ (P : List Pc), liveN P = ((List.range P.length).filter fun i => match P[i]? with | some p => !p.g | none => false).length := by
  intro P
  rw [← List.countP_eq_length_filter]
  unfold liveN
  have : P = (List.range P.length).map fun i => (P[i]?).getD pc0 := by
    apply List.ext_getElem
    · simp
    · intro i h1 h2
      simp [List.getElem?_eq_getElem h1]
  conv => lhs; rw [this, List.countP_map]
  apply List.countP_congr
  intro i hi
  have hi := List.mem_range.1 hi
  simp only [Function.comp, List.getElem?_eq_getElem hi, Option.getD_some]
theorem nodup_sub : ∀ {r S : List Nat}, r.Nodup → (∀ x ∈ r, x ∈ S) → r.length ≤ S.length
  | [], _, _, _ => Nat.zero_le _
  | a :: r, S, hn, hs => by
    rw [List.nodup_cons] at hn
    have h1 : ∀ x ∈ r, x ∈ S.erase a := fun x hx => (List.mem_erase_of_ne (by rintro rfl; exact hn.1 hx)).2 (hs x (by simp [hx]))
    have := nodup_sub hn.2 h1
    have ha := hs a (by simp)
    rw [List.length_erase_of_mem ha] at this
    have := List.length_pos_of_mem ha
    rw [List.length_cons]
    omega
theorem cross_few {P : List Pc} {S : List (Int × Sg)} {s : Sg} {all : List Nat} (h : CrossP P S s all) : all.Nodup ∧ (∀ n ∈ all, ∃ p, P[n]? = some p ∧ p.g = false) ∧ all.length ≤ liveN P := by
  have hnd : all.Nodup := h.1.nodup_iff.2 (List.nodup_range.filter _)
  have hm : ∀ n ∈ all, ∃ p, P[n]? = some p ∧ hitB S s p = true := by
    intro n hn
    have := (List.mem_filter.1 (h.1.subset hn)).2
    unfold hitAt at this
    split at this
    · rename_i p hp; exact ⟨p, hp, this⟩
    · cases this
  have hg : ∀ n ∈ all, ∃ p, P[n]? = some p ∧ p.g = false := by
    intro n hn
    obtain ⟨p, h1, h2⟩ := hm n hn
    refine ⟨p, h1, ?_⟩
    unfold hitB at h2
    cases hp : p.g
    · rfl
    · rw [hp] at h2; simp at h2
  refine ⟨hnd, hg, ?_⟩
  rw [live_filter]
  refine nodup_sub hnd fun n hn => ?_
  obtain ⟨p, h1, h2⟩ := hg n hn
  rw [List.mem_filter, List.mem_range, h1]
  exact ⟨(List.getElem?_eq_some_iff.1 h1).1, by simp [h2]⟩
/-- What is known of an index of k lines, of its lists' lengths. -/
structure IxN (k : Nat) (N : List Nd) (P : List Pc) : Prop where
  wf : WfP N P
  live : liveN P ≤ 3 * k + 1
  pl : P.length ≤ 1 + 130 * k
  nl : N.length ≤ 1 + 140 * k
  p0 : 0 < P.length
  n0 : 0 < N.length
theorem ixN_0 : IxN 0 [nd0] [pc0] := ⟨fun p hp => by obtain rfl : p = pc0 := by simpa using hp
                                                     exact ⟨by decide, by decide⟩, by decide, by decide, by decide, by decide, by decide⟩
theorem ixN_put {k : Nat} {N : List Nd} {P : List Pc} {S : List (Int × Sg)} {id : Int} {s : Sg} {all : List Nat} (h : IxN k N P) (hk : k < 40) (hc : CrossP P S s all) :
    IxN (k + 1) (roundsS id s all all.length ⟨N, P, 0, 0⟩).N (roundsS id s all all.length ⟨N, P, 0, 0⟩).P := by
  obtain ⟨hnd, hin, hl⟩ := cross_few hc
  obtain ⟨I, _, hw, c, c1, c2, c0, c3, c4⟩ := roundsS_size (id := id) (s := s) h.wf hnd hin all.length (Nat.le_refl _)
  have h1 := h.live
  have h2 := h.pl
  have h3 := h.nl
  have h4 := h.p0
  have h5 := h.n0
  have h6 := I.nN
  rw [if_pos rfl] at c3 c4
  have h7 : (if all.length = 0 then 0 else 1) ≤ 1 := by split <;> omega
  refine ⟨hw, ?_, by omega, by omega, by omega, by omega⟩
  by_cases ha : all.length = 0
  · have := c0 ha
    omega
  · omega
end Go.Proofs.Ytlhmjhildlnokaa
