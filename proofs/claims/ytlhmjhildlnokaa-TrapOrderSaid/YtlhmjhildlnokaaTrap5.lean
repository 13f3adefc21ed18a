/-
  The index's put, as lists: what a round makes.
-/
import Derived.Test.YtlhmjhildlnokaaTrap4
namespace Go.Proofs.Ytlhmjhildlnokaa
set_option linter.unusedVariables false
set_option linter.unusedSimpArgs false
open Go.RowKit Go.Sort Go.Shelf

def lfN (i : Nat) : Nd := ⟨0, (i : Int), ⟨0, 0⟩, 0, 0⟩
/-- Nodes, pieces, and the places of the last leaf above and of the last one below. -/
structure PSt where
  N : List Nd
  P : List Pc
  u : Nat
  d : Nat
def idN (N : List Nd) (u : Nat) : Nat := ((N[u]?).getD nd0).id.toNat
def setR (P : List Pc) (i : Nat) (r : Pt) : List Pc := match P[i]? with | some p => P.set i { p with t := { p.t with hr := true, r := r } } | none => P
def setG (P : List Pc) (i : Nat) : List Pc := match P[i]? with | some p => P.set i { p with g := true } | none => P
/-- A leaf more, if c. -/
def upS (c : Bool) (t : Tz) (X : PSt) : PSt := if c then ⟨X.N ++ [lfN X.P.length], X.P ++ [⟨t, (X.N.length : Int), false⟩], X.N.length, X.d⟩ else X
def loS (c : Bool) (t : Tz) (X : PSt) : PSt := if c then ⟨X.N ++ [lfN X.P.length], X.P ++ [⟨t, (X.N.length : Int), false⟩], X.u, X.N.length⟩ else X
def rtS (r : Pt) (n : Nat) (X : PSt) : PSt := ⟨X.N, setG (setR (setR X.P (idN X.N X.u) r) (idN X.N X.d) r) n, X.u, X.d⟩
/-- The last piece's rest, the first one's: nodes, pieces, the question. -/
def endS (c : Bool) (t : Tz) (b : Pt) (X : PSt × Nd) : PSt × Nd :=
  if c then (⟨X.1.N ++ [X.2] ++ [lfN X.1.P.length], X.1.P ++ [⟨t, (X.1.N.length + 1 : Nat), false⟩], X.1.u, X.1.d⟩, ⟨1, 0, b, (X.1.N.length : Int), (X.1.N.length + 1 : Nat)⟩) else X
def begS (c : Bool) (t : Tz) (a : Pt) (X : PSt × Nd) : PSt × Nd :=
  if c then (⟨X.1.N ++ [lfN X.1.P.length] ++ [X.2], X.1.P ++ [⟨t, (X.1.N.length : Int), false⟩], X.1.u, X.1.d⟩, ⟨1, 0, a, (X.1.N.length : Int), (X.1.N.length + 1 : Nat)⟩) else X
def nodeS (i : Nat) (X : PSt × Nd) : PSt := ⟨X.1.N.set i X.2, X.1.P, X.1.u, X.1.d⟩
def firT (t : Tz) (a : Pt) (f : Bool) : Pt := if f then a else t.l
def roundS (id : Int) (s : Sg) (f la : Bool) (n : Nat) (X : PSt) : PSt :=
  let p := (X.P[n]?).getD pc0
  let t := p.t
  let X1 := upS (f || decide (0 < turnB s.a s.b t.l)) ⟨t.top, id, true, false, if f then s.a else t.l, ⟨0, 0⟩⟩ X
  let X2 := loS (f || decide (turnB s.a s.b t.l < 0)) ⟨id, t.bot, true, false, if f then s.a else t.l, ⟨0, 0⟩⟩ X1
  let X3 := rtS (if la then s.b else t.r) n X2
  let X4 := endS (la && (!t.hr || lessB s.b t.r)) { t with hl := true, l := s.b } s.b (X3, ⟨2, id, ⟨0, 0⟩, (X3.u : Int), (X3.d : Int)⟩)
  let X5 := begS (f && (!t.hl || lessB t.l s.a)) { t with hr := true, r := s.a } s.a X4
  nodeS p.n.toNat X5
/-- The first j rounds. -/
def roundsS (id : Int) (s : Sg) (all : List Nat) : Nat → PSt → PSt
  | 0, X => X
  | j + 1, X => roundS id s (decide (j = 0)) (decide (j + 1 = all.length)) ((all[j]?).getD 0) (roundsS id s all j X)

/-! ### What stays while rounds are made -/
/-- What stood there stands there. -/
structure Kp (X Y : PSt) : Prop where
  nl : X.N.length ≤ Y.N.length
  pl : X.P.length ≤ Y.P.length
  n : ∀ i, i < X.N.length → Y.N[i]? = X.N[i]?
  p : ∀ i, i < X.P.length → Y.P[i]? = X.P[i]?
theorem Kp.refl (X : PSt) : Kp X X := ⟨Nat.le_refl _, Nat.le_refl _, fun _ _ => rfl, fun _ _ => rfl⟩
theorem Kp.trans {X Y Z : PSt} (h : Kp X Y) (g : Kp Y Z) : Kp X Z := ⟨Nat.le_trans h.nl g.nl, Nat.le_trans h.pl g.pl, fun i hi => (g.n i (Nat.lt_of_lt_of_le hi h.nl)).trans (h.n i hi), fun i hi => (g.p i (Nat.lt_of_lt_of_le hi h.pl)).trans (h.p i hi)⟩
theorem kp_app {X : PSt} {N : List Nd} {P : List Pc} {u d : Nat} : Kp X ⟨X.N ++ N, X.P ++ P, u, d⟩ := ⟨by simp, by simp, fun i hi => List.getElem?_append_left hi, fun i hi => List.getElem?_append_left hi⟩
theorem upS_kp (c : Bool) (t : Tz) (X : PSt) : Kp X (upS c t X) := by
  unfold upS; split
  · exact kp_app
  · exact .refl _
theorem loS_kp (c : Bool) (t : Tz) (X : PSt) : Kp X (loS c t X) := by
  unfold loS; split
  · exact kp_app
  · exact .refl _
theorem endS_kp (c : Bool) (t : Tz) (b : Pt) (X : PSt × Nd) : Kp X.1 (endS c t b X).1 := by
  unfold endS; split
  · simp only [List.append_assoc]; exact kp_app
  · exact .refl _
theorem begS_kp (c : Bool) (t : Tz) (b : Pt) (X : PSt × Nd) : Kp X.1 (begS c t b X).1 := by
  unfold begS; split
  · simp only [List.append_assoc]; exact kp_app
  · exact .refl _
/-- N0, P0: as many nodes and pieces as there were at first. A leaf that was made stands behind them. -/
structure LeafIn (N0 P0 : Nat) (X : PSt) (u : Nat) : Prop where
  ex : ∃ pu p, X.N[u]? = some (lfN pu) ∧ X.P[pu]? = some p ∧ P0 ≤ pu
  lo : N0 ≤ u
theorem LeafIn.keep {N0 P0 u : Nat} {X Y : PSt} (h : LeafIn N0 P0 X u) (k : Kp X Y) : LeafIn N0 P0 Y u := by
  obtain ⟨⟨pu, p, h1, h2, h3⟩, h4⟩ := h
  exact ⟨⟨pu, p, (k.n u (List.getElem?_eq_some_iff.1 h1).1).trans h1, (k.p pu (List.getElem?_eq_some_iff.1 h2).1).trans h2, h3⟩, h4⟩
theorem LeafIn.lt {N0 P0 u : Nat} {X : PSt} (h : LeafIn N0 P0 X u) : u < X.N.length := by
  obtain ⟨⟨pu, p, h1, _⟩, _⟩ := h
  exact (List.getElem?_eq_some_iff.1 h1).1
theorem LeafIn.id {N0 P0 u : Nat} {X : PSt} (h : LeafIn N0 P0 X u) : ∃ p, X.N[u]? = some (lfN (idN X.N u)) ∧ X.P[idN X.N u]? = some p ∧ P0 ≤ idN X.N u := by
  obtain ⟨⟨pu, p, h1, h2, h3⟩, _⟩ := h
  have : idN X.N u = pu := by unfold idN; rw [h1]; simp [lfN]
  rw [this]
  exact ⟨p, h1, h2, h3⟩
theorem upS_leaf {N0 P0 : Nat} {c : Bool} {t : Tz} {X : PSt} (hn : N0 ≤ X.N.length) (hp : P0 ≤ X.P.length) (h : c = false → LeafIn N0 P0 X X.u) : LeafIn N0 P0 (upS c t X) (upS c t X).u := by
  cases c
  · exact h rfl
  · exact ⟨⟨X.P.length, ⟨t, (X.N.length : Int), false⟩, by simp [upS], by simp [upS], hp⟩, hn⟩
theorem loS_leaf {N0 P0 : Nat} {c : Bool} {t : Tz} {X : PSt} (hn : N0 ≤ X.N.length) (hp : P0 ≤ X.P.length) (h : c = false → LeafIn N0 P0 X X.d) : LeafIn N0 P0 (loS c t X) (loS c t X).d := by
  cases c
  · exact h rfl
  · exact ⟨⟨X.P.length, ⟨t, (X.N.length : Int), false⟩, by simp [loS], by simp [loS], hp⟩, hn⟩
theorem upS_d (c : Bool) (t : Tz) (X : PSt) : (upS c t X).d = X.d := by unfold upS; split <;> rfl
theorem loS_u (c : Bool) (t : Tz) (X : PSt) : (loS c t X).u = X.u := by unfold loS; split <;> rfl
theorem setR_len (P : List Pc) (i : Nat) (r : Pt) : (setR P i r).length = P.length := by unfold setR; split <;> simp
theorem setG_len (P : List Pc) (i : Nat) : (setG P i).length = P.length := by unfold setG; split <;> simp
theorem setR_ne {P : List Pc} {i j : Nat} (r : Pt) (h : j ≠ i) : (setR P i r)[j]? = P[j]? := by
  unfold setR; split
  · rw [List.getElem?_set]; simp [Ne.symm h]
  · rfl
theorem setG_ne {P : List Pc} {i j : Nat} (h : j ≠ i) : (setG P i)[j]? = P[j]? := by
  unfold setG; split
  · rw [List.getElem?_set]; simp [Ne.symm h]
  · rfl
theorem setR_some {P : List Pc} {i j : Nat} (r : Pt) {p : Pc} (h : P[j]? = some p) : ∃ p', (setR P i r)[j]? = some p' := by
  have := (List.getElem?_eq_some_iff.1 h).1
  exact ⟨_, List.getElem?_eq_getElem (by rw [setR_len]; exact this)⟩
theorem setG_some {P : List Pc} {i j : Nat} {p : Pc} (h : P[j]? = some p) : ∃ p', (setG P i)[j]? = some p' := by
  have := (List.getElem?_eq_some_iff.1 h).1
  exact ⟨_, List.getElem?_eq_getElem (by rw [setG_len]; exact this)⟩
theorem rtS_leaf {N0 P0 u : Nat} {r : Pt} {n : Nat} {X : PSt} (h : LeafIn N0 P0 X u) : LeafIn N0 P0 (rtS r n X) u := by
  obtain ⟨⟨pu, p, h1, h2, h3⟩, h4⟩ := h
  obtain ⟨p1, e1⟩ := setR_some (i := idN X.N X.u) r h2
  obtain ⟨p2, e2⟩ := setR_some (i := idN X.N X.d) r e1
  obtain ⟨p3, e3⟩ := setG_some (i := n) e2
  exact ⟨⟨pu, p3, h1, e3, h3⟩, h4⟩
theorem rtS_len (r : Pt) (n : Nat) (X : PSt) : (rtS r n X).N.length = X.N.length ∧ (rtS r n X).P.length = X.P.length := ⟨rfl, by unfold rtS; simp only [setG_len, setR_len]⟩
structure PInv (N0 : Nat) (Pa : List Pc) (rest : List Nat) (X : PSt) : Prop where
  nN : N0 ≤ X.N.length
  nP : Pa.length ≤ X.P.length
  rest : ∀ n ∈ rest, n < Pa.length ∧ X.P[n]? = Pa[n]?
  nodes : ∀ p ∈ Pa, 0 ≤ p.n ∧ p.n < N0
/-- One round keeps what the next ones want. -/
theorem roundS_inv {N0 : Nat} {Pa : List Pc} {rest : List Nat} {n : Nat} {id : Int} {s : Sg} {f la : Bool} {X : PSt} (I : PInv N0 Pa (n :: rest) X) (hnd : n ∉ rest) (hu : f = false → LeafIn N0 Pa.length X X.u ∧ LeafIn N0 Pa.length X X.d) :
    PInv N0 Pa rest (roundS id s f la n X) ∧ LeafIn N0 Pa.length (roundS id s f la n X) (roundS id s f la n X).u ∧ LeafIn N0 Pa.length (roundS id s f la n X) (roundS id s f la n X).d ∧
      (roundS id s f la n X).N.length ≤ X.N.length + 6 ∧ (roundS id s f la n X).P.length ≤ X.P.length + 6 := by
  obtain ⟨hnl, hnp⟩ := I.rest n (by simp)
  obtain ⟨p, hp⟩ : ∃ p, Pa[n]? = some p := ⟨_, List.getElem?_eq_getElem hnl⟩
  have hpn := I.nodes p (List.mem_of_getElem? hp)
  have hXn : (X.P[n]?).getD pc0 = p := by rw [hnp, hp]; rfl
  unfold roundS
  simp only [hXn]
  generalize h1 : upS (f || decide (0 < turnB s.a s.b p.t.l)) ⟨p.t.top, id, true, false, if f then s.a else p.t.l, ⟨0, 0⟩⟩ X = X1
  generalize h2 : loS (f || decide (turnB s.a s.b p.t.l < 0)) ⟨id, p.t.bot, true, false, if f then s.a else p.t.l, ⟨0, 0⟩⟩ X1 = X2
  generalize h3 : rtS (if la then s.b else p.t.r) n X2 = X3
  generalize h4 : endS (la && (!p.t.hr || lessB s.b p.t.r)) { p.t with hl := true, l := s.b } s.b (X3, ⟨2, id, ⟨0, 0⟩, (X3.u : Int), (X3.d : Int)⟩) = X4
  generalize h5 : begS (f && (!p.t.hl || lessB p.t.l s.a)) { p.t with hr := true, r := s.a } s.a X4 = X5
  have k1 : Kp X X1 := by rw [← h1]; exact upS_kp _ _ _
  have k2 : Kp X1 X2 := by rw [← h2]; exact loS_kp _ _ _
  have k4 : Kp X3 X4.1 := by rw [← h4]; exact endS_kp _ _ _ (X3, _)
  have k5 : Kp X4.1 X5.1 := by rw [← h5]; exact begS_kp _ _ _ _
  have l1 : LeafIn N0 Pa.length X1 X1.u := by rw [← h1]; exact upS_leaf I.nN I.nP fun hc => (hu (by cases f; rfl; simp at hc)).1
  have l2 : LeafIn N0 Pa.length X2 X2.d := by
    rw [← h2]
    refine loS_leaf (Nat.le_trans I.nN k1.nl) (Nat.le_trans I.nP k1.pl) fun hc => ?_
    have e : X1.d = X.d := by rw [← h1]; exact upS_d _ _ _
    rw [e]
    exact (hu (by cases f; rfl; simp at hc)).2.keep k1
  have l3 : LeafIn N0 Pa.length X2 X2.u := by
    have e : X2.u = X1.u := by rw [← h2]; exact loS_u _ _ _
    rw [e]; exact l1.keep k2
  have b1 : X1.N.length ≤ X.N.length + 1 ∧ X1.P.length ≤ X.P.length + 1 := by rw [← h1]; unfold upS; split <;> simp
  have b2 : X2.N.length ≤ X1.N.length + 1 ∧ X2.P.length ≤ X1.P.length + 1 := by rw [← h2]; unfold loS; split <;> simp
  have b3 : X3.N.length = X2.N.length ∧ X3.P.length = X2.P.length := by rw [← h3]; exact rtS_len _ _ _
  have b4 : X4.1.N.length ≤ X3.N.length + 2 ∧ X4.1.P.length ≤ X3.P.length + 1 := by rw [← h4]; unfold endS; split <;> simp
  have b5 : X5.1.N.length ≤ X4.1.N.length + 2 ∧ X5.1.P.length ≤ X4.1.P.length + 1 := by rw [← h5]; unfold begS; split <;> simp
  have u3 : X3.u = X2.u ∧ X3.d = X2.d := by rw [← h3]; exact ⟨rfl, rfl⟩
  have u4 : X4.1.u = X3.u ∧ X4.1.d = X3.d := by rw [← h4]; unfold endS; split <;> exact ⟨rfl, rfl⟩
  have u5 : X5.1.u = X4.1.u ∧ X5.1.d = X4.1.d := by rw [← h5]; unfold begS; split <;> exact ⟨rfl, rfl⟩
  have m3 : LeafIn N0 Pa.length X3 X3.u ∧ LeafIn N0 Pa.length X3 X3.d := by rw [u3.1, u3.2, ← h3]; exact ⟨rtS_leaf l3, rtS_leaf l2⟩
  have m5 : LeafIn N0 Pa.length X5.1 X5.1.u ∧ LeafIn N0 Pa.length X5.1 X5.1.d := by
    rw [u5.1, u5.2, u4.1, u4.2]
    exact ⟨(m3.1.keep k4).keep k5, (m3.2.keep k4).keep k5⟩
  have hnode : ∀ v, LeafIn N0 Pa.length X5.1 v → LeafIn N0 Pa.length (nodeS p.n.toNat X5) v := by
    intro v ⟨⟨pu, pc, g1, g2, g3⟩, g4⟩
    refine ⟨⟨pu, pc, ?_, g2, g3⟩, g4⟩
    show (X5.1.N.set _ _)[v]? = _
    rw [List.getElem?_set, if_neg (by omega)]; exact g1
  have old : ∀ i, i < Pa.length → i ≠ n → X5.1.P[i]? = X.P[i]? := by
    intro i hi hne
    have e1 : X2.P[i]? = X.P[i]? := (k1.trans k2).p i (Nat.lt_of_lt_of_le hi I.nP)
    have e2 : X3.P[i]? = X2.P[i]? := by
      rw [← h3]
      obtain ⟨_, _, _, q1⟩ := l3.id
      obtain ⟨_, _, _, q2⟩ := l2.id
      unfold rtS
      simp only
      rw [setG_ne hne, setR_ne _ (by omega), setR_ne _ (by omega)]
    rw [(k4.trans k5).p i (by rw [b3.2]; have := (k1.trans k2).pl; have := I.nP; omega), e2, e1]
  have q1 := k1.nl
  have q2 := k2.nl
  have q4 := k4.nl
  have q5 := k5.nl
  have r1 := k1.pl
  have r2 := k2.pl
  have r4 := k4.pl
  have r5 := k5.pl
  have i1 := I.nN
  have i2 := I.nP
  refine ⟨⟨?_, ?_, fun i hi => ?_, I.nodes⟩, hnode _ m5.1, hnode _ m5.2, ?_, ?_⟩
  · show N0 ≤ (X5.1.N.set _ _).length
    rw [List.length_set]; omega
  · show Pa.length ≤ X5.1.P.length
    omega
  · obtain ⟨j1, j2⟩ := I.rest i (by simp [hi])
    refine ⟨j1, ?_⟩
    show X5.1.P[i]? = _
    rw [old i j1 (by rintro rfl; exact hnd hi)]; exact j2
  · show (X5.1.N.set _ _).length ≤ _
    rw [List.length_set]; omega
  · show X5.1.P.length ≤ _
    omega
end Go.Proofs.Ytlhmjhildlnokaa
