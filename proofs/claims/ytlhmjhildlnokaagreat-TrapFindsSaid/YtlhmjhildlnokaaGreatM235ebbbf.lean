/-
  Lines that do not cross, trapezes between them: two with a point in common are one.
-/
import Derived.Test.YtlhmjhildlnokaaGreatM4a50d798
import Derived.Test.YtlhmjhildlnokaaGreatM01095c5b
namespace Go.Proofs.YtlhmjhildlnokaaGreat
set_option linter.unusedVariables false
set_option linter.unusedSimpArgs false
open Go.RowKit Go.Sort Go.Shelf
section
variable (N : List Nd) (P : List Pc) (id : Int) (s : Sg) (all : List Nat)
def pk (k : Nat) : Pc := (P[(all[k]?).getD 0]?).getD pc0
def upK (k : Nat) : Bool := decide (0 < turnB s.a s.b (pk P all k).t.l)
def dnK (k : Nat) : Bool := decide (turnB s.a s.b (pk P all k).t.l < 0)
def lftK (k : Nat) : Pt := if k = 0 then s.a else (pk P all k).t.l
def rgtK (k : Nat) : Pt := if k + 1 = all.length then s.b else (pk P all k).t.r
def ceK (k : Nat) : Bool := decide (k + 1 = all.length) && (!(pk P all k).t.hr || lessB s.b (pk P all k).t.r)
def cbK (k : Nat) : Bool := decide (k = 0) && (!(pk P all k).t.hl || lessB (pk P all k).t.l s.a)
inductive Kd where
 | U (a b : Nat)
 | D (a b : Nat)
 | L
 | R
def Kd.tag : Kd → Nat × Nat
 | .U a _ => (0, a)
 | .D a _ => (1, a)
 | .L => (2, 0)
 | .R => (3, 0)
def tzK : Kd → Tz
 | .U a b => ⟨(pk P all a).t.top, id, true, true, lftK P s all a, rgtK P s all b⟩
 | .D a b => ⟨id, (pk P all a).t.bot, true, true, lftK P s all a, rgtK P s all b⟩
 | .L => { (pk P all 0).t with hr := true, r := s.a }
 | .R => { (pk P all (all.length - 1)).t with hl := true, l := s.b }
def RunK (g : Nat → Bool) (j a b : Nat) : Prop := a ≤ b ∧ b < j ∧ (a = 0 ∨ g a = true) ∧ (∀ i, a < i → i ≤ b → g i = false) ∧ (b + 1 = j ∨ g (b + 1) = true)
def OkK (j : Nat) : Kd → Prop
 | .U a b => RunK (upK P s all) j a b
 | .D a b => RunK (dnK P s all) j a b
 | .L => 0 < j ∧ cbK P s all 0 = true
 | .R => j = all.length ∧ 0 < j ∧ ceK P s all (all.length - 1) = true
theorem run_end {g : Nat → Bool} {j a b b' : Nat} (h : RunK g j a b) (h' : RunK g j a b') : b = b' := by
 obtain ⟨h1, h2, h3, h4, h5⟩ := h
 obtain ⟨g1, g2, g3, g4, g5⟩ := h'
 rcases Nat.lt_trichotomy b b' with q | q | q
 ·rcases h5 with h5 | h5
  ·omega
  ·rw [g4 (b + 1) (by omega) (by omega)] at h5; cases h5
 ·exact q
 ·rcases g5 with h5 | h5
  ·omega
  ·rw [h4 (b' + 1) (by omega) (by omega)] at h5; cases h5
theorem run_last {g : Nat → Bool} {j a a' b : Nat} (h : RunK g j a b) (h' : RunK g j a' b) : a = a' := by
 obtain ⟨h1, h2, h3, h4, h5⟩ := h
 obtain ⟨g1, g2, g3, g4, g5⟩ := h'
 rcases Nat.lt_trichotomy a a' with q | q | q
 ·rcases g3 with g3 | g3
  ·omega
  ·rw [h4 a' (by omega) (by omega)] at g3; cases g3
 ·exact q
 ·rcases h3 with g3 | g3
  ·omega
  ·rw [g4 a (by omega) (by omega)] at g3; cases g3
structure CtxK : Prop where
 pcs : ∀ k, k < all.length → ∃ n, all[k]? = some n ∧ P[n]? = some (pk P all k)
 nodup : all.Nodup
 wf : WfP N P
 nn : ∀ k k', k < all.length → k' < all.length → (pk P all k).n.toNat = (pk P all k').n.toNat → k = k'
 ids : ∀ k, k < all.length → (pk P all k).t.top ≠ id ∧ (pk P all k).t.bot ≠ id
 lft : ∀ k k', k < all.length → k' < all.length → lftK P s all k = lftK P s all k' → k = k'
 ab : lessB s.b s.a = false
def AtN (X : PSt) (i n : Nat) (K : Kd) : Prop := N.length ≤ n ∧ X.P[i]? = some ⟨tzK P id s all K, (n : Int), false⟩ ∧ X.N[n]? = some (lfN i)
def QK (X : PSt) (k u d : Nat) : Prop := ∃ q1 q2 q3, q1 = (⟨2, id, ⟨0, 0⟩, (u : Int), (d : Int)⟩ : Nd) ∧
 (if ceK P s all k then ∃ c e i : Nat, N.length ≤ c ∧ X.N[c]? = some q1 ∧ P.length ≤ i ∧ AtN N P id s all X i e .R ∧ q2 = ⟨1, 0, s.b, (c : Int), (e : Int)⟩ else q2 = q1) ∧
 (if cbK P s all k then ∃ c e i : Nat, N.length ≤ c ∧ X.N[c]? = some q2 ∧ P.length ≤ i ∧ AtN N P id s all X i e .L ∧ q3 = ⟨1, 0, s.a, (e : Int), (c : Int)⟩ else q3 = q2) ∧
 X.N[(pk P all k).n.toNat]? = some q3
structure CI (j : Nat) (X : PSt) : Prop where
 pl : P.length ≤ X.P.length
 nl : N.length ≤ X.N.length
 oldP : ∀ i, i < P.length → i ∉ all.take j → X.P[i]? = P[i]?
 gone : ∀ i, i ∈ all.take j → ∃ p, X.P[i]? = some p ∧ p.g = true
 oldN : ∀ i, i < N.length → (∀ k, k < j → (pk P all k).n.toNat ≠ i) → X.N[i]? = N[i]?
 new : ∀ i, P.length ≤ i → i < X.P.length → ∃ K n, OkK P s all j K ∧ AtN N P id s all X i n K
 one : ∀ i i' n n' K K', P.length ≤ i → P.length ≤ i' → OkK P s all j K → OkK P s all j K' → AtN N P id s all X i n K → AtN N P id s all X i' n' K' → K.tag = K'.tag → i = i'
 F : ∀ k, k < j → ∃ u d pu pd su eu sd ed, su ≤ k ∧ k ≤ eu ∧ sd ≤ k ∧ k ≤ ed ∧ P.length ≤ pu ∧ P.length ≤ pd ∧ OkK P s all j (.U su eu) ∧ OkK P s all j (.D sd ed) ∧ AtN N P id s all X pu u (.U su eu) ∧ AtN N P id s all X pd d (.D sd ed) ∧
  (k + 1 = j → u = X.u ∧ d = X.d) ∧ QK N P id s all X k u d
variable {N P id s all}
theorem tz_tag (C : CtxK N P id s all) {j : Nat} {K K' : Kd} (hj : j ≤ all.length) (h : OkK P s all j K) (h' : OkK P s all j K') (ht : tzK P id s all K = tzK P id s all K') : K.tag = K'.tag := by
 have lt : ∀ {g a b}, RunK g j a b → a < all.length := fun h => Nat.lt_of_le_of_lt h.1 (Nat.lt_of_lt_of_le h.2.1 hj)
 have pos : ∀ {K}, OkK P s all j K → 0 < j := by
  intro K hK
  cases K
  ·exact Nat.lt_of_le_of_lt (Nat.zero_le _) hK.2.1
  ·exact Nat.lt_of_le_of_lt (Nat.zero_le _) hK.2.1
  ·exact hK.1
  ·exact hK.2.1
 have hp := pos h
 have i0 := C.ids 0 (by omega)
 have i1 := C.ids (all.length - 1) (by omega)
 have LR : OkK P s all j .L → tzK P id s all .L ≠ tzK P id s all .R := by
  intro h1 e
  simp only [tzK, Tz.mk.injEq] at e
  obtain ⟨_, _, e3, _, e5, _⟩ := e
  have := h1.2
  unfold cbK at this
  rw [e3, e5, C.ab] at this
  simp at this
 cases K <;> cases K'
 ·simp only [tzK, Tz.mk.injEq] at ht
  rw [C.lft _ _ (lt h) (lt h') ht.2.2.2.2.1]; rfl
 ·simp only [tzK, Tz.mk.injEq] at ht
  exact absurd ht.1 (C.ids _ (lt h)).1
 ·simp only [tzK, Tz.mk.injEq] at ht
  exact absurd ht.2.1.symm i0.2
 ·simp only [tzK, Tz.mk.injEq] at ht
  exact absurd ht.2.1.symm i1.2
 ·simp only [tzK, Tz.mk.injEq] at ht
  exact absurd ht.1.symm (C.ids _ (lt h')).1
 ·simp only [tzK, Tz.mk.injEq] at ht
  rw [C.lft _ _ (lt h) (lt h') ht.2.2.2.2.1]; rfl
 ·simp only [tzK, Tz.mk.injEq] at ht
  exact absurd ht.1.symm i0.1
 ·simp only [tzK, Tz.mk.injEq] at ht
  exact absurd ht.1.symm i1.1
 ·simp only [tzK, Tz.mk.injEq] at ht
  exact absurd ht.2.1 i0.2
 ·simp only [tzK, Tz.mk.injEq] at ht
  exact absurd ht.1 i0.1
 ·rfl
 ·exact absurd ht (LR h)
 ·simp only [tzK, Tz.mk.injEq] at ht
  exact absurd ht.2.1 i1.2
 ·simp only [tzK, Tz.mk.injEq] at ht
  exact absurd ht.1 i1.1
 ·exact absurd ht.symm (LR h')
 ·rfl
theorem ok_pos {j : Nat} {K : Kd} (hK : OkK P s all j K) : 0 < j := by
 cases K
 ·exact Nat.lt_of_le_of_lt (Nat.zero_le _) hK.2.1
 ·exact Nat.lt_of_le_of_lt (Nat.zero_le _) hK.2.1
 ·exact hK.1
 ·exact hK.2.1
theorem at_tz {X : PSt} {i n n' : Nat} {K K' : Kd} (h : AtN N P id s all X i n K) (h' : AtN N P id s all X i n' K') : tzK P id s all K = tzK P id s all K' ∧ n = n' := by
 have := h.2.1.symm.trans h'.2.1
 injection this with this
 simp only [Pc.mk.injEq] at this
 exact ⟨this.1, by omega⟩
theorem CI.start (C : CtxK N P id s all) : CI N P id s all 0 ⟨N, P, 0, 0⟩ where
 pl := Nat.le_refl _
 nl := Nat.le_refl _
 oldP i _ _ := rfl
 gone i hi := by simp at hi
 oldN i _ _ := rfl
 new i h1 h2 := absurd h2 (by show ¬ i < P.length; omega)
 one i i' n n' K K' h1 h2 hK := absurd (ok_pos hK) (by omega)
 F k hk := absurd hk (by omega)
theorem CI.curU (C : CtxK N P id s all) {j : Nat} {X : PSt} (H : CI N P id s all j X) (hj : 0 < j) : ∃ pu su, P.length ≤ pu ∧ idN X.N X.u = pu ∧ OkK P s all j (.U su (j - 1)) ∧ AtN N P id s all X pu X.u (.U su (j - 1)) := by
 obtain ⟨u, d, pu, pd, su, eu, sd, ed, h1, h2, h3, h4, h5, h6, h7, h8, h9, h10, h11, h12⟩ := H.F (j - 1) (by omega)
 obtain ⟨rfl, rfl⟩ := h11 (by omega)
 obtain rfl : eu = j - 1 := by have := h7.2.1; omega
 exact ⟨pu, su, h5, by unfold idN; rw [h9.2.2]; simp [lfN], h7, h9⟩
theorem CI.curD (C : CtxK N P id s all) {j : Nat} {X : PSt} (H : CI N P id s all j X) (hj : 0 < j) : ∃ pd sd, P.length ≤ pd ∧ idN X.N X.d = pd ∧ OkK P s all j (.D sd (j - 1)) ∧ AtN N P id s all X pd X.d (.D sd (j - 1)) := by
 obtain ⟨u, d, pu, pd, su, eu, sd, ed, h1, h2, h3, h4, h5, h6, h7, h8, h9, h10, h11, h12⟩ := H.F (j - 1) (by omega)
 obtain ⟨rfl, rfl⟩ := h11 (by omega)
 obtain rfl : ed = j - 1 := by have := h8.2.1; omega
 exact ⟨pd, sd, h6, by unfold idN; rw [h10.2.2]; simp [lfN], h8, h10⟩
inductive ExtK : Kd → Kd → Prop
 | same (K) : ExtK K K
 | u (a b) : ExtK (.U a b) (.U a (b + 1))
 | d (a b) : ExtK (.D a b) (.D a (b + 1))
theorem ExtK.tag {K K' : Kd} (h : ExtK K K') : K.tag = K'.tag := by cases h <;> rfl
theorem CI.stab (C : CtxK N P id s all) {j n0 : Nat} {X Y : PSt} (H : CI N P id s all j X) (hj : j < all.length) (hn0 : n0 < P.length)
  (V : RV id s (decide (j = 0)) (decide (j + 1 = all.length)) n0 X Y (pk P all j) (lftK P s all j) (rgtK P s all j) (decide (j = 0) || upK P s all j) (decide (j = 0) || dnK P s all j) (ceK P s all j) (cbK P s all j)) (hon : (pk P all j).n.toNat < N.length)
  {i n : Nat} {K : Kd} (hi : P.length ≤ i) (hK : OkK P s all j K) (hA : AtN N P id s all X i n K) : ∃ K', OkK P s all (j + 1) K' ∧ AtN N P id s all Y i n K' ∧ ExtK K K' := by
 have j0 : 0 < j := ok_pos hK
 obtain ⟨pu, su, u1, u2, u3, u4⟩ := H.curU C j0
 obtain ⟨pd, sd, d1, d2, d3, d4⟩ := H.curD C j0
 have hjl : j ≤ all.length := Nat.le_of_lt hj
 have hf : decide (j = 0) = false := decide_eq_false (by omega)
 rw [hf] at V
 simp only [Bool.false_or] at V
 have iX := (List.getElem?_eq_some_iff.1 hA.2.1).1
 have nX := (List.getElem?_eq_some_iff.1 hA.2.2).1
 have node : Y.N[n]? = some (lfN i) := by
  rw [V.oldN n nX (by have := hA.1; omega)]; exact hA.2.2
 have nu : K.tag ≠ (Kd.U su (j - 1)).tag → i ≠ idN X.N X.u := fun h e => by
  rw [u2] at e; subst e
  exact h (tz_tag C hjl hK u3 (at_tz hA u4).1)
 have nd : K.tag ≠ (Kd.D sd (j - 1)).tag → i ≠ idN X.N X.d := fun h e => by
  rw [d2] at e; subst e
  exact h (tz_tag C hjl hK d3 (at_tz hA d4).1)
 have stay : (upK P s all j = true ∨ i ≠ idN X.N X.u) → (dnK P s all j = true ∨ i ≠ idN X.N X.d) → AtN N P id s all Y i n K := fun h1 h2 =>
  ⟨hA.1, (V.old i iX (by omega) h1 h2).trans hA.2.1, node⟩
 cases K with
 | U a b =>
  obtain ⟨k1, k2, k3, k4, k5⟩ := hK
  have hd : i ≠ idN X.N X.d := nd (by simp [Kd.tag])
  by_cases hb : b + 1 = j
  ·obtain rfl : b = j - 1 := by omega
   have : i = idN X.N X.u := by
    rw [u2]
    have e : a = su := run_last (g := upK P s all) (j := j) ⟨k1, k2, k3, k4, k5⟩ u3
    exact H.one _ _ _ _ _ _ hi u1 (show OkK P s all j (.U a (j - 1)) from ⟨k1, k2, k3, k4, k5⟩) u3 hA u4 (by simp [Kd.tag, e])
   cases hu : upK P s all j
   ·refine ⟨.U a (j - 1 + 1), ⟨by omega, by omega, k3, fun q q1 q2 => ?_, .inl (by omega)⟩, ⟨hA.1, ?_, node⟩, .u _ _⟩
    ·by_cases e : q = j
     ·rw [e]; exact hu
     ·exact k4 q q1 (by omega)
    ·have := (V.u0 hu).2 _ (by rw [← this]; exact hA.2.1)
     rw [← this] at this
     rw [‹i = idN X.N X.u›]
     rw [show j - 1 + 1 = j by omega]
     exact (V.u0 hu).2 _ (by rw [← ‹i = idN X.N X.u›]; exact hA.2.1)
   ·exact ⟨.U a (j - 1), ⟨k1, by omega, k3, k4, .inr (by rw [hb]; exact hu)⟩, stay (.inl hu) (.inr hd), .same _⟩
  ·have hg : upK P s all (b + 1) = true := by rcases k5 with k5 | k5; (· exact absurd k5 hb); (· exact k5)
   have hne : a ≠ su := by
    rintro rfl
    have := run_end (g := upK P s all) (j := j) ⟨k1, k2, k3, k4, k5⟩ u3
    omega
   exact ⟨.U a b, ⟨k1, by omega, k3, k4, .inr hg⟩, stay (.inr (nu (by simp [Kd.tag, hne]))) (.inr hd), .same _⟩
 | D a b =>
  obtain ⟨k1, k2, k3, k4, k5⟩ := hK
  have hd : i ≠ idN X.N X.u := nu (by simp [Kd.tag])
  by_cases hb : b + 1 = j
  ·obtain rfl : b = j - 1 := by omega
   have : i = idN X.N X.d := by
    rw [d2]
    have e : a = sd := run_last (g := dnK P s all) (j := j) ⟨k1, k2, k3, k4, k5⟩ d3
    exact H.one _ _ _ _ _ _ hi d1 (show OkK P s all j (.D a (j - 1)) from ⟨k1, k2, k3, k4, k5⟩) d3 hA d4 (by simp [Kd.tag, e])
   cases hu : dnK P s all j
   ·refine ⟨.D a (j - 1 + 1), ⟨by omega, by omega, k3, fun q q1 q2 => ?_, .inl (by omega)⟩, ⟨hA.1, ?_, node⟩, .d _ _⟩
    ·by_cases e : q = j
     ·rw [e]; exact hu
     ·exact k4 q q1 (by omega)
    ·rw [‹i = idN X.N X.d›]
     rw [show j - 1 + 1 = j by omega]
     exact (V.d0 hu).2 _ (by rw [← ‹i = idN X.N X.d›]; exact hA.2.1)
   ·exact ⟨.D a (j - 1), ⟨k1, by omega, k3, k4, .inr (by rw [hb]; exact hu)⟩, stay (.inr hd) (.inl hu), .same _⟩
  ·have hg : dnK P s all (b + 1) = true := by rcases k5 with k5 | k5; (· exact absurd k5 hb); (· exact k5)
   have hne : a ≠ sd := by
    rintro rfl
    have := run_end (g := dnK P s all) (j := j) ⟨k1, k2, k3, k4, k5⟩ d3
    omega
   exact ⟨.D a b, ⟨k1, by omega, k3, k4, .inr hg⟩, stay (.inr hd) (.inr (nd (by simp [Kd.tag, hne]))), .same _⟩
 | L => exact ⟨.L, ⟨by omega, hK.2⟩, stay (.inr (nu (by simp [Kd.tag]))) (.inr (nd (by simp [Kd.tag]))), .same _⟩
 | R => exact absurd hK.1 (by omega)
theorem CI.newK (C : CtxK N P id s all) {j n0 : Nat} {X Y : PSt} (H : CI N P id s all j X) (hj : j < all.length)
  (V : RV id s (decide (j = 0)) (decide (j + 1 = all.length)) n0 X Y (pk P all j) (lftK P s all j) (rgtK P s all j) (decide (j = 0) || upK P s all j) (decide (j = 0) || dnK P s all j) (ceK P s all j) (cbK P s all j))
  {i : Nat} (h1 : X.P.length ≤ i) (h2 : i < Y.P.length) : ∃ K n, OkK P s all (j + 1) K ∧ AtN N P id s all Y i n K ∧ ((K.tag = (0, j) ∧ i = X.P.length) ∨ (K.tag = (1, j) ∧ i = X.P.length + (decide (j = 0) || upK P s all j).toNat) ∨
   (K.tag = (3, 0) ∧ i = X.P.length + (decide (j = 0) || upK P s all j).toNat + (decide (j = 0) || dnK P s all j).toNat) ∨ (K.tag = (2, 0) ∧ j = 0 ∧ i = X.P.length + (decide (j = 0) || upK P s all j).toNat + (decide (j = 0) || dnK P s all j).toNat + (ceK P s all j).toNat)) := by
 have hpl := V.pl
 have hnl := H.nl
 obtain ⟨q1, q2, q3, _, hq2, hq3, _⟩ := V.q
 have hup : (decide (j = 0) || upK P s all j) = true → j = 0 ∨ upK P s all j = true := fun h => by simpa using h
 have hdn : (decide (j = 0) || dnK P s all j) = true → j = 0 ∨ dnK P s all j = true := fun h => by simpa using h
 have v1 := V.u1
 have v2 := V.d1
 generalize (decide (j = 0) || upK P s all j) = cu at *
 generalize (decide (j = 0) || dnK P s all j) = cd at *
 have b1 := Bool.toNat_le cu
 have b2 := Bool.toNat_le cd
 have b3 := Bool.toNat_le (ceK P s all j)
 have b4 := Bool.toNat_le (cbK P s all j)
 have pos : ∀ b : Bool, 0 < b.toNat → b = true := fun b h => by cases b; simp at h; rfl
 by_cases g1 : i < X.P.length + cu.toNat
 ·have hc := pos cu (by omega)
  obtain ⟨_, a2, a3⟩ := v1 hc
  obtain rfl : i = X.P.length := by omega
  exact ⟨.U j j, X.N.length, ⟨Nat.le_refl _, by omega, hup hc, fun _ _ _ => by omega, .inl rfl⟩, ⟨hnl, a3, a2⟩, .inl ⟨rfl, rfl⟩⟩
 by_cases g2 : i < X.P.length + cu.toNat + cd.toNat
 ·have hc := pos cd (by omega)
  obtain ⟨_, a2, a3⟩ := v2 hc
  obtain rfl : i = X.P.length + cu.toNat := by omega
  exact ⟨.D j j, X.N.length + cu.toNat, ⟨Nat.le_refl _, by omega, hdn hc, fun _ _ _ => by omega, .inl rfl⟩, ⟨by omega, a3, a2⟩, .inr (.inl ⟨rfl, rfl⟩)⟩
 by_cases g3 : i < X.P.length + cu.toNat + cd.toNat + (ceK P s all j).toNat
 ·have hc := pos (ceK P s all j) (by omega)
  unfold QEnd at hq2
  rw [if_pos hc] at hq2
  obtain ⟨c, e, n1, n2, m1, m2, m3, _⟩ := hq2
  obtain rfl : i = X.P.length + cu.toNat + cd.toNat := by omega
  have hm : all.length - 1 = j := by
   unfold ceK at hc
   simp only [Bool.and_eq_true, decide_eq_true_eq] at hc
   omega
  refine ⟨.R, e, ⟨by omega, by omega, by rw [hm]; exact hc⟩, ⟨by omega, ?_, m2⟩, .inr (.inr (.inl ⟨rfl, rfl⟩))⟩
  simp only [tzK, hm]; exact m3
 ·have hc := pos (cbK P s all j) (by omega)
  unfold QBeg at hq3
  rw [if_pos hc] at hq3
  obtain ⟨c, e, n1, n2, m1, m2, m3, _⟩ := hq3
  obtain rfl : i = X.P.length + cu.toNat + cd.toNat + (ceK P s all j).toNat := by omega
  have hm : j = 0 := by
   unfold cbK at hc
   simp only [Bool.and_eq_true, decide_eq_true_eq] at hc
   omega
  refine ⟨.L, e, ⟨by omega, by rw [hm] at hc; exact hc⟩, ⟨by omega, ?_, m2⟩, .inr (.inr (.inr ⟨rfl, hm, rfl⟩))⟩
  simp only [tzK]; subst hm; exact m3
theorem CI.step (C : CtxK N P id s all) {j n0 : Nat} {X Y : PSt} (H : CI N P id s all j X) (hj : j < all.length) (hn0 : all[j]? = some n0)
  (V : RV id s (decide (j = 0)) (decide (j + 1 = all.length)) n0 X Y (pk P all j) (lftK P s all j) (rgtK P s all j) (decide (j = 0) || upK P s all j) (decide (j = 0) || dnK P s all j) (ceK P s all j) (cbK P s all j)) : CI N P id s all (j + 1) Y := by
 obtain ⟨n', e1, e2⟩ := C.pcs j hj
 obtain rfl : n' = n0 := by rw [hn0] at e1; injection e1 with e1; exact e1.symm
 have hnP : n' < P.length := (List.getElem?_eq_some_iff.1 e2).1
 have hon : (pk P all j).n.toNat < N.length := by have := C.wf _ (List.mem_of_getElem? e2); omega
 have hpl := V.pl
 have hPl := H.pl
 have hNl := H.nl
 have hjl : j ≤ all.length := Nat.le_of_lt hj
 have take1 : all.take (j + 1) = all.take j ++ [n'] := by rw [List.take_add_one, hn0]; rfl
 have ntake : n' ∉ all.take j := by
  intro h
  obtain ⟨k, hk⟩ := List.getElem?_of_mem h
  have hkj : k < j := by
   have := (List.getElem?_eq_some_iff.1 hk).1
   rw [List.length_take] at this; omega
  rw [List.getElem?_take_of_lt hkj] at hk
  have := (List.getElem?_inj (i := k) (j := j) (by omega) C.nodup).1 (by rw [hk, hn0])
  omega
 have su := fun {i n K} h1 h2 h3 => H.stab (i := i) (n := n) (K := K) C hj hnP V hon h1 h2 h3
 have ou : ∀ i, i < P.length → ((decide (j = 0) || upK P s all j) = true ∨ i ≠ idN X.N X.u) := fun i hi => by
  by_cases h0 : j = 0
  ·left; simp [h0]
  ·obtain ⟨pu, _, u1, u2, _⟩ := H.curU C (by omega)
   right; omega
 have od : ∀ i, i < P.length → ((decide (j = 0) || dnK P s all j) = true ∨ i ≠ idN X.N X.d) := fun i hi => by
  by_cases h0 : j = 0
  ·left; simp [h0]
  ·obtain ⟨pu, _, u1, u2, _⟩ := H.curD C (by omega)
   right; omega
 have hnew : ∀ i, P.length ≤ i → i < Y.P.length → ∃ K n, OkK P s all (j + 1) K ∧ AtN N P id s all Y i n K := fun i h1 h2 => by
  by_cases hx : i < X.P.length
  ·obtain ⟨K, n, g1, g2⟩ := H.new i h1 hx
   obtain ⟨K', g3, g4, _⟩ := su h1 g1 g2
   exact ⟨K', n, g3, g4⟩
  ·obtain ⟨K, n, g1, g2, _⟩ := H.newK C hj V (by omega) h2
   exact ⟨K, n, g1, g2⟩
 have place : ∀ i n K, P.length ≤ i → OkK P s all (j + 1) K → AtN N P id s all Y i n K →
   (i < X.P.length ∧ ∃ K0, OkK P s all j K0 ∧ AtN N P id s all X i n K0 ∧ K0.tag = K.tag) ∨
   ((K.tag = (0, j) ∧ i = X.P.length) ∨ (K.tag = (1, j) ∧ i = X.P.length + (decide (j = 0) || upK P s all j).toNat) ∨
   (K.tag = (3, 0) ∧ i = X.P.length + (decide (j = 0) || upK P s all j).toNat + (decide (j = 0) || dnK P s all j).toNat) ∨ (K.tag = (2, 0) ∧ j = 0 ∧ i = X.P.length + (decide (j = 0) || upK P s all j).toNat + (decide (j = 0) || dnK P s all j).toNat + (ceK P s all j).toNat)) := by
  intro i n K h1 h2 h3
  have hy := (List.getElem?_eq_some_iff.1 h3.2.1).1
  by_cases hx : i < X.P.length
  ·left
   obtain ⟨K0, n0', g1, g2⟩ := H.new i h1 hx
   obtain ⟨K', g3, g4, g5⟩ := su h1 g1 g2
   obtain ⟨a1, a2⟩ := at_tz g4 h3
   subst a2
   exact ⟨hx, K0, g1, g2, g5.tag.trans (tz_tag C (j := j + 1) hj g3 h2 a1)⟩
  ·right
   obtain ⟨K', n0', g1, g2, g3⟩ := H.newK C hj V (by omega) hy
   have := tz_tag C (j := j + 1) hj g1 h2 (at_tz g2 h3).1
   rw [← this]; exact g3
 have otag : ∀ K0, OkK P s all j K0 → (∃ a b, a < j ∧ (K0 = .U a b ∨ K0 = .D a b)) ∨ (K0 = .L ∧ 0 < j) := by
  intro K0 h
  cases K0 with
  | U a b => exact .inl ⟨a, b, Nat.lt_of_le_of_lt h.1 h.2.1, .inl rfl⟩
  | D a b => exact .inl ⟨a, b, Nat.lt_of_le_of_lt h.1 h.2.1, .inr rfl⟩
  | L => exact .inr ⟨rfl, h.1⟩
  | R => exact absurd h.1 (by omega)
 refine ⟨by omega, Nat.le_trans H.nl V.nl, fun i h1 h2 => ?_, fun i hi => ?_, fun i h1 h2 => ?_, hnew, fun i i' n n' K K' h1 h2 h3 h4 h5 h6 h7 => ?_, fun k hk => ?_⟩
 ·rw [take1, List.mem_append, List.mem_singleton, not_or] at h2
  rw [V.old i (by omega) h2.2 (ou i h1) (od i h1)]
  exact H.oldP i h1 h2.1
 ·rw [take1, List.mem_append, List.mem_singleton] at hi
  rcases hi with hi | rfl
  ·obtain ⟨p, g1, g2⟩ := H.gone i hi
   have hiP : i < P.length := by
    obtain ⟨k, hk⟩ := List.getElem?_of_mem hi
    have hkl := (List.getElem?_eq_some_iff.1 hk).1
    rw [List.length_take] at hkl
    rw [List.getElem?_take_of_lt (by omega)] at hk
    obtain ⟨n2, b1, b2⟩ := C.pcs k (by omega)
    rw [hk] at b1
    injection b1 with b1
    rw [b1]; exact (List.getElem?_eq_some_iff.1 b2).1
   exact ⟨p, (V.old i (by omega) (by rintro rfl; exact ntake hi) (ou i hiP) (od i hiP)).trans g1, g2⟩
  ·exact ⟨_, V.gone, rfl⟩
 ·rw [V.oldN i (by omega) (fun e => h2 j (by omega) e.symm)]
  exact H.oldN i h1 fun k hk => h2 k (by omega)
 ·rcases place i n K h1 h3 h5 with ⟨_, K0, a1, a2, a3⟩ | a <;> rcases place i' n' K' h2 h4 h6 with ⟨_, K1, b1, b2, b3⟩ | b
  ·exact H.one _ _ _ _ _ _ h1 h2 a1 b1 a2 b2 (by rw [a3, b3, h7])
  ·exfalso
   rw [← h7, ← a3] at b
   rcases otag K0 a1 with ⟨a, b', hab, rfl | rfl⟩ | ⟨rfl, h0⟩ <;> simp [Kd.tag] at b
   ·omega
   ·omega
   ·omega
  ·exfalso
   rw [h7, ← b3] at a
   rcases otag K1 b1 with ⟨a', b', hab, rfl | rfl⟩ | ⟨rfl, h0⟩ <;> simp [Kd.tag] at a
   ·omega
   ·omega
   ·omega
  ·rw [← h7] at b
   rcases a with ⟨t, rfl⟩ | ⟨t, rfl⟩ | ⟨t, rfl⟩ | ⟨t, _, rfl⟩ <;> rw [t] at b <;> simp at b <;> omega
 ·by_cases hkj : k < j
  ·obtain ⟨u, d, pu, pd, su', eu, sd, ed, h1, h2, h3, h4, h5, h6, h7, h8, h9, h10, _, q1, q2, q3, h11, h12, h13, h14⟩ := H.F k hkj
   obtain ⟨Ku, a1, a2, a3⟩ := su h5 h7 h9
   obtain ⟨Kd', b1, b2, b3⟩ := su h6 h8 h10
   obtain ⟨eu', rfl, hu'⟩ : ∃ e, Ku = .U su' e ∧ eu ≤ e := by cases a3; exact ⟨eu, rfl, Nat.le_refl _⟩; exact ⟨eu + 1, rfl, by omega⟩
   obtain ⟨ed', rfl, hd'⟩ : ∃ e, Kd' = .D sd e ∧ ed ≤ e := by cases b3; exact ⟨ed, rfl, Nat.le_refl _⟩; exact ⟨ed + 1, rfl, by omega⟩
   have ce0 : ceK P s all k = false := by unfold ceK; rw [decide_eq_false (by omega)]; rfl
   have keep : ∀ c q, N.length ≤ c → X.N[c]? = some q → Y.N[c]? = some q := fun c q g1 g2 => by
    rw [V.oldN c (List.getElem?_eq_some_iff.1 g2).1 (by omega)]; exact g2
   refine ⟨u, d, pu, pd, su', eu', sd, ed', h1, by omega, h3, by omega, h5, h6, a1, b1, a2, b2, fun h => absurd h (by omega), q1, q2, q3, h11, ?_, ?_, ?_⟩
   ·rw [ce0] at h12 ⊢; exact h12
   ·cases hcb : cbK P s all k
    ·rw [hcb] at h13; exact h13
    ·rw [hcb, if_pos rfl] at h13
     rw [if_pos rfl]
     obtain ⟨c, e, i, g1, g2, g3, g4, g5⟩ := h13
     have k0 : k = 0 := by
      unfold cbK at hcb
      simp only [Bool.and_eq_true, decide_eq_true_eq] at hcb
      exact hcb.1
     obtain ⟨K', g6, g7, g8⟩ := su g3 (K := .L) ⟨by omega, by rw [← k0]; exact hcb⟩ g4
     cases g8
     exact ⟨c, e, i, g1, keep c _ g1 g2, g3, g7, g5⟩
   ·have hk' : (pk P all k).n.toNat < N.length := by
     obtain ⟨n2, c1, c2⟩ := C.pcs k (by omega)
     have := C.wf _ (List.mem_of_getElem? c2); omega
    rw [V.oldN _ (by omega) (fun e => by have := C.nn _ _ (by omega) hj e; omega)]
    exact h14
  ·obtain rfl : k = j := by omega
   have hU : ∃ pu su, su ≤ k ∧ P.length ≤ pu ∧ OkK P s all (k + 1) (.U su k) ∧ AtN N P id s all Y pu Y.u (.U su k) := by
    cases hc : (decide (k = 0) || upK P s all k)
    ·have hk0 : 0 < k := by
      simp only [Bool.or_eq_false_iff, decide_eq_false_iff_not] at hc
      omega
     obtain ⟨pu, su', u1, u2, u3, u4⟩ := H.curU C hk0
     obtain ⟨K', a1, a2, a3⟩ := su u1 u3 u4
     have hu0 := (V.u0 hc).1
     rw [← hu0] at a2
     have hne : upK P s all k = false := by simp only [Bool.or_eq_false_iff] at hc; exact hc.2
     cases a3
     ·exfalso
      obtain ⟨_, _, _, _, h5⟩ := a1
      rw [show k - 1 + 1 = k by omega] at h5
      rcases h5 with h5 | h5
      ·omega
      ·rw [hne] at h5; cases h5
     ·rw [show k - 1 + 1 = k by omega] at a1 a2
      exact ⟨pu, su', a1.1, u1, a1, a2⟩
    ·obtain ⟨a1, a2, a3⟩ := V.u1 hc
     refine ⟨X.P.length, k, Nat.le_refl _, hPl, ⟨Nat.le_refl _, by omega, by simpa using hc, fun _ _ _ => by omega, .inl rfl⟩, ?_⟩
     rw [a1]; exact ⟨hNl, a3, a2⟩
   have hD : ∃ pd sd, sd ≤ k ∧ P.length ≤ pd ∧ OkK P s all (k + 1) (.D sd k) ∧ AtN N P id s all Y pd Y.d (.D sd k) := by
    cases hc : (decide (k = 0) || dnK P s all k)
    ·have hk0 : 0 < k := by
      simp only [Bool.or_eq_false_iff, decide_eq_false_iff_not] at hc
      omega
     obtain ⟨pu, su', u1, u2, u3, u4⟩ := H.curD C hk0
     obtain ⟨K', a1, a2, a3⟩ := su u1 u3 u4
     have hu0 := (V.d0 hc).1
     rw [← hu0] at a2
     have hne : dnK P s all k = false := by simp only [Bool.or_eq_false_iff] at hc; exact hc.2
     cases a3
     ·exfalso
      obtain ⟨_, _, _, _, h5⟩ := a1
      rw [show k - 1 + 1 = k by omega] at h5
      rcases h5 with h5 | h5
      ·omega
      ·rw [hne] at h5; cases h5
     ·rw [show k - 1 + 1 = k by omega] at a1 a2
      exact ⟨pu, su', a1.1, u1, a1, a2⟩
    ·obtain ⟨a1, a2, a3⟩ := V.d1 hc
     refine ⟨X.P.length + (decide (k = 0) || upK P s all k).toNat, k, Nat.le_refl _, by omega, ⟨Nat.le_refl _, by omega, by simpa using hc, fun _ _ _ => by omega, .inl rfl⟩, ?_⟩
     rw [a1]; exact ⟨by omega, a3, a2⟩
   obtain ⟨pu, su', u1, u2, u3, u4⟩ := hU
   obtain ⟨pd, sd, d1, d2, d3, d4⟩ := hD
   obtain ⟨q1, q2, q3, h11, h12, h13, h14⟩ := V.q
   refine ⟨Y.u, Y.d, pu, pd, su', k, sd, k, u1, Nat.le_refl _, d1, Nat.le_refl _, u2, d2, u3, d3, u4, d4, fun _ => ⟨rfl, rfl⟩, q1, q2, q3, h11, ?_, ?_, h14⟩
   ·unfold QEnd at h12
    cases hc : ceK P s all k
    ·rw [hc] at h12; exact h12
    ·rw [hc, if_pos rfl] at h12
     rw [if_pos rfl]
     obtain ⟨c, e, n1, n2, m1, m2, m3, m4⟩ := h12
     have hm : all.length - 1 = k := by
      unfold ceK at hc
      simp only [Bool.and_eq_true, decide_eq_true_eq] at hc
      omega
     exact ⟨c, e, _, by omega, m1, by omega, ⟨by omega, by simp only [tzK, hm]; exact m3, m2⟩, m4⟩
   ·unfold QBeg at h13
    cases hc : cbK P s all k
    ·rw [hc] at h13; exact h13
    ·rw [hc, if_pos rfl] at h13
     rw [if_pos rfl]
     obtain ⟨c, e, n1, n2, m1, m2, m3, m4⟩ := h13
     have hm : k = 0 := by
      unfold cbK at hc
      simp only [Bool.and_eq_true, decide_eq_true_eq] at hc
      exact hc.1
     exact ⟨c, e, _, by omega, m1, by omega, ⟨by omega, by simp only [tzK]; rw [hm] at m3; rw [hm]; exact m3, m2⟩, m4⟩
theorem rounds_CI (C : CtxK N P id s all) (hg : ∀ k, k < all.length → (pk P all k).g = false) : ∀ j, j ≤ all.length → CI N P id s all j (roundsS id s all j ⟨N, P, 0, 0⟩)
 | 0, _ => CI.start C
 | j + 1, hj => by
  have H := rounds_CI C hg j (by omega)
  obtain ⟨n, e1, e2⟩ := C.pcs j (by omega)
  have hin : ∀ n ∈ all, ∃ p, P[n]? = some p ∧ p.g = false := fun n hn => by
   obtain ⟨k, hk⟩ := List.getElem?_of_mem hn
   have hkl := (List.getElem?_eq_some_iff.1 hk).1
   obtain ⟨n2, b1, b2⟩ := C.pcs k hkl
   rw [hk] at b1
   injection b1 with b1
   exact ⟨_, by rw [b1]; exact b2, hg k hkl⟩
  obtain ⟨I, L, _⟩ := roundsS_size (id := id) (s := s) C.wf C.nodup hin j (by omega)
  have hdrop : all.drop j = n :: all.drop (j + 1) := by
   rw [List.drop_eq_getElem_cons (List.getElem?_eq_some_iff.1 e1).1, (List.getElem?_eq_some_iff.1 e1).2]
  rw [hdrop] at I
  have e : roundsS id s all (j + 1) ⟨N, P, 0, 0⟩ = roundS id s (decide (j = 0)) (decide (j + 1 = all.length)) n (roundsS id s all j ⟨N, P, 0, 0⟩) := by
   show roundS id s _ _ ((all[j]?).getD 0) _ = _
   rw [e1]; rfl
  rw [e]
  have V := roundS_view (id := id) (s := s) (f := decide (j = 0)) (la := decide (j + 1 = all.length)) I (fun h => L (by have := of_decide_eq_false h; omega)) e2 (fun h => by
   have hj0 : 0 < j := by have := of_decide_eq_false h; omega
   obtain ⟨pu, su', u1, u2, u3, u4⟩ := H.curU C hj0
   obtain ⟨pd, sd, d1, d2, d3, d4⟩ := H.curD C hj0
   intro hh
   rw [u2, d2] at hh
   subst hh
   have := tz_tag C (by omega) u3 d3 (at_tz u4 d4).1
   simp [Kd.tag] at this)
  refine H.step C (by omega) e1 ?_
  have q1 : (if decide (j = 0) = true then s.a else (pk P all j).t.l) = lftK P s all j := by unfold lftK; simp only [decide_eq_true_eq]
  have q2 : (if decide (j + 1 = all.length) = true then s.b else (pk P all j).t.r) = rgtK P s all j := by unfold rgtK; simp only [decide_eq_true_eq]
  rw [q1, q2] at V
  exact V
end
end Go.Proofs.YtlhmjhildlnokaaGreat
namespace Go.Proofs.YtlhmjhildlnokaaGreat
set_option linter.unusedVariables false
set_option linter.unusedSimpArgs false
theorem rat_pos_of_mul {a b : Rat} (h : 0 < a * b) (hb : 0 < b) : 0 < a := by
 by_cases ha : 0 < a
 ·exact ha
 ·have h1 : 0 ≤ -a := by grind
  have := Rat.mul_nonneg h1 (Rat.le_of_lt hb)
  grind
theorem rat_mul_pos {a b : Rat} (ha : 0 < a) (hb : 0 < b) : 0 < a * b := Rat.mul_pos ha hb
theorem rat_zero_of_mul {a b : Rat} (h : a * b = 0) (hb : 0 < b) : a = 0 := by
 rcases Rat.mul_eq_zero.1 h with h | h
 ·exact h
 ·grind
structure Ln where
 x1 : Rat
 y1 : Rat
 x2 : Rat
 y2 : Rat
def Ln.m (s : Ln) : Rat := (s.y2 - s.y1) / (s.x2 - s.x1)
def Ln.at (s : Ln) (x : Rat) : Rat := s.y1 + s.m * (x - s.x1)
def Ln.spans (s : Ln) (x : Rat) : Prop := s.x1 < x ∧ x < s.x2
theorem Ln.at_1 (s : Ln) : s.at s.x1 = s.y1 := by unfold Ln.at; grind
theorem Ln.at_2 (s : Ln) (h : s.x1 < s.x2) : s.at s.x2 = s.y2 := by
 unfold Ln.at Ln.m
 have : s.x2 - s.x1 ≠ 0 := by grind
 grind
theorem Ln.affine (s : Ln) (x y : Rat) : s.at y - s.at x = s.m * (y - x) := by unfold Ln.at; grind
def Ln.Sep (s t : Ln) : Prop := ∀ x, s.spans x → t.spans x → s.at x ≠ t.at x
theorem Ln.Sep.symm {s t : Ln} (h : s.Sep t) : t.Sep s := fun x h1 h2 e => h x h2 h1 e.symm
theorem Ln.Sep.keeps {s t : Ln} (h : s.Sep t) {x y : Rat} (sx : s.spans x) (tx : t.spans x) (sy : s.spans y) (ty : t.spans y) (hlt : s.at x < t.at x) : s.at y < t.at y := by
 by_cases hy : s.at y < t.at y
 ·exact hy
 exfalso
 have hne := h y sy ty
 generalize hd : t.at x - s.at x = d
 generalize he : s.at y - t.at y = e
 have d0 : 0 < d := by grind
 have e0 : 0 < e := by grind
 have de : 0 < d + e := by grind
 have de' : d + e ≠ 0 := by grind
 generalize hz : (x * e + y * d) / (d + e) = z
 have hz' : z * (d + e) = x * e + y * d := by rw [← hz]; exact Rat.div_mul_cancel de'
 have a1 := s.affine x z
 have a2 := t.affine x z
 have a3 := s.affine x y
 have a4 := t.affine x y
 have lo : ∀ c : Rat, c < x → c < y → c < z := fun c h1 h2 => by
  have p1 := rat_mul_pos (by grind : 0 < x - c) e0
  have p2 := rat_mul_pos (by grind : 0 < y - c) d0
  have : 0 < (z - c) * (d + e) := by grind
  have := rat_pos_of_mul this de
  grind
 have hi : ∀ c : Rat, x < c → y < c → z < c := fun c h1 h2 => by
  have p1 := rat_mul_pos (by grind : 0 < c - x) e0
  have p2 := rat_mul_pos (by grind : 0 < c - y) d0
  have : 0 < (c - z) * (d + e) := by grind
  have := rat_pos_of_mul this de
  grind
 have sz : s.spans z := ⟨lo _ sx.1 sy.1, hi _ sx.2 sy.2⟩
 have tz : t.spans z := ⟨lo _ tx.1 ty.1, hi _ tx.2 ty.2⟩
 refine h z sz tz ?_
 have e1 : (s.at z - t.at z) * (d + e) = 0 := by
  have b1 : s.at z - t.at z = (s.m - t.m) * (z - x) - d := by grind
  have b2 : (s.m - t.m) * (y - x) = d + e := by grind
  have b3 : (z - x) * (d + e) = (y - x) * d := by grind
  have : (s.at z - t.at z) * (d + e) = (s.m - t.m) * ((z - x) * (d + e)) - d * (d + e) := by rw [b1]; grind
  rw [this, b3]
  grind
 have := rat_zero_of_mul e1 de
 grind
def Xi (p : Pt) : Int := p.x * 1073741824 + p.y
def Xr (p : Pt) : Rat := (Xi p : Rat)
def Yr (p : Pt) : Rat := (p.y : Rat)
theorem less_Xi {a b : Pt} (ha : InP a) (hb : InP b) : LessP a b ↔ Xi a < Xi b := by
 unfold LessP Xi InP at *; omega
theorem Xi_inj {a b : Pt} (ha : InP a) (hb : InP b) (h : Xi a = Xi b) : a = b := by
 obtain ⟨x, y⟩ := a; obtain ⟨u, v⟩ := b
 unfold Xi InP at *
 simp only at *
 have : x = u := by omega
 have : y = v := by omega
 simp [*]
theorem less_Xr {a b : Pt} (ha : InP a) (hb : InP b) : LessP a b ↔ Xr a < Xr b := by
 rw [less_Xi ha hb]; unfold Xr; exact Rat.intCast_lt_intCast.symm
theorem cross_r (a b c : Pt) : (Xr b - Xr a) * (Yr c - Yr a) - (Yr b - Yr a) * (Xr c - Xr a) = 1073741824 * (crossZ a b c : Rat) := by
 unfold Xr Yr Xi crossZ
 simp only [Rat.intCast_add, Rat.intCast_mul, Rat.intCast_sub]
 grind
def lnOf (a b : Pt) : Ln := ⟨Xr a, Yr a, Xr b, Yr b⟩
theorem at_cross {a b : Pt} (h : Xr a < Xr b) (c : Pt) : (Yr c - (lnOf a b).at (Xr c)) * (Xr b - Xr a) = 1073741824 * (crossZ a b c : Rat) := by
 rw [← cross_r]
 unfold Ln.at Ln.m lnOf
 simp only
 have : Xr b - Xr a ≠ 0 := by grind
 grind
theorem at_pos {a b : Pt} (h : Xr a < Xr b) (c : Pt) : (lnOf a b).at (Xr c) < Yr c ↔ 0 < crossZ a b c := by
 have e := at_cross h c
 have hp : 0 < Xr b - Xr a := by grind
 rw [← Rat.intCast_lt_intCast]
 constructor
 ·intro h1
  have := rat_mul_pos (by grind : 0 < Yr c - (lnOf a b).at (Xr c)) hp
  grind
 ·intro h1
  have : 0 < (Yr c - (lnOf a b).at (Xr c)) * (Xr b - Xr a) := by grind
  have := rat_pos_of_mul this hp
  grind
theorem at_neg {a b : Pt} (h : Xr a < Xr b) (c : Pt) : Yr c < (lnOf a b).at (Xr c) ↔ crossZ a b c < 0 := by
 have e := at_cross h c
 have hp : 0 < Xr b - Xr a := by grind
 rw [← Rat.intCast_lt_intCast]
 constructor
 ·intro h1
  have := rat_mul_pos (by grind : 0 < (lnOf a b).at (Xr c) - Yr c) hp
  grind
 ·intro h1
  have : 0 < ((lnOf a b).at (Xr c) - Yr c) * (Xr b - Xr a) := by grind
  have := rat_pos_of_mul this hp
  grind
theorem at_zero {a b : Pt} (h : Xr a < Xr b) (c : Pt) : Yr c = (lnOf a b).at (Xr c) ↔ crossZ a b c = 0 := by
 have h1 := at_pos h c
 have h2 := at_neg h c
 constructor
 ·intro e
  have h3 : ¬ (lnOf a b).at (Xr c) < Yr c := by grind
  have h4 : ¬ Yr c < (lnOf a b).at (Xr c) := by grind
  rw [h1] at h3
  rw [h2] at h4
  omega
 ·intro e
  have h3 : ¬ 0 < crossZ a b c := by omega
  have h4 : ¬ crossZ a b c < 0 := by omega
  rw [← h1] at h3
  rw [← h2] at h4
  grind
theorem tsgn_pos {n : Int} (h : 0 < n) : sgnZ n = 1 := by unfold sgnZ; rw [if_neg (by omega), if_pos h]
theorem tsgn_neg {n : Int} (h : n < 0) : sgnZ n = -1 := by unfold sgnZ; rw [if_pos h]
theorem tsgn_zero {n : Int} (h : n = 0) : sgnZ n = 0 := by subst h; rfl
theorem on_no {p a b : Pt} (ip : InP p) (ia : InP a) (ib : InP b) (hz : crossZ a b p = 0) (h : onL p a b = false) : ¬ (Xr a < Xr p ∧ Xr p < Xr b) := by
 rintro ⟨h1, h2⟩
 unfold onL turnZ betwB lessB at h
 rw [tsgn_zero hz, decide_eq_true ((less_Xr ia ip).2 h1), decide_eq_true ((less_Xr ip ib).2 h2)] at h
 simp at h
theorem sep_of {a b c d : Pt} (ia : InP a) (ib : InP b) (ic : InP c) (id : InP d) (hab : Xr a < Xr b) (hcd : Xr c < Xr d) (h : meetL a b c d = false) : (lnOf a b).Sep (lnOf c d) := by
 intro x s t e
 have s1 : Xr a < x := s.1
 have s2 : x < Xr b := s.2
 have t1 : Xr c < x := t.1
 have t2 : x < Xr d := t.2
 have aa : (lnOf a b).at (Xr a) = Yr a := (lnOf a b).at_1
 have ab : (lnOf a b).at (Xr b) = Yr b := (lnOf a b).at_2 hab
 have cc : (lnOf c d).at (Xr c) = Yr c := (lnOf c d).at_1
 have cd : (lnOf c d).at (Xr d) = Yr d := (lnOf c d).at_2 hcd
 have ea := (lnOf a b).affine x (Xr a)
 have eb := (lnOf a b).affine x (Xr b)
 have ec := (lnOf a b).affine x (Xr c)
 have ed := (lnOf a b).affine x (Xr d)
 have fa := (lnOf c d).affine x (Xr a)
 have fb := (lnOf c d).affine x (Xr b)
 have fc := (lnOf c d).affine x (Xr c)
 have fd := (lnOf c d).affine x (Xr d)
 generalize hm : (lnOf a b).m = m at *
 generalize hk : (lnOf c d).m = k at *
 simp only [meetL, Bool.or_eq_false_iff] at h
 obtain ⟨⟨o1, o2, o3, o4⟩, sm, ap⟩ := h
 have pa := at_pos hcd a
 have na := at_neg hcd a
 have za := at_zero hcd a
 have pb := at_pos hcd b
 have nb := at_neg hcd b
 have zb := at_zero hcd b
 have pc := at_pos hab c
 have nc := at_neg hab c
 have zc := at_zero hab c
 have pd := at_pos hab d
 have nd := at_neg hab d
 have zd := at_zero hab d
 have tri : k < m ∨ m < k ∨ m = k := by grind
 rcases tri with hlt | hlt | heq
 ·have q1 := rat_mul_pos (by grind : 0 < m - k) (by grind : 0 < x - Xr a)
  have q2 := rat_mul_pos (by grind : 0 < m - k) (by grind : 0 < Xr b - x)
  have q3 := rat_mul_pos (by grind : 0 < m - k) (by grind : 0 < x - Xr c)
  have q4 := rat_mul_pos (by grind : 0 < m - k) (by grind : 0 < Xr d - x)
  have r1 := na.1 (by grind)
  have r2 := pb.1 (by grind)
  have r3 := pc.1 (by grind)
  have r4 := nd.1 (by grind)
  unfold apartB turnZ at ap
  rw [tsgn_neg r1, tsgn_pos r2, tsgn_pos r3, tsgn_neg r4] at ap
  simp at ap
 ·have q1 := rat_mul_pos (by grind : 0 < k - m) (by grind : 0 < x - Xr a)
  have q2 := rat_mul_pos (by grind : 0 < k - m) (by grind : 0 < Xr b - x)
  have q3 := rat_mul_pos (by grind : 0 < k - m) (by grind : 0 < x - Xr c)
  have q4 := rat_mul_pos (by grind : 0 < k - m) (by grind : 0 < Xr d - x)
  have r1 := pa.1 (by grind)
  have r2 := nb.1 (by grind)
  have r3 := nc.1 (by grind)
  have r4 := pd.1 (by grind)
  unfold apartB turnZ at ap
  rw [tsgn_pos r1, tsgn_neg r2, tsgn_neg r3, tsgn_pos r4] at ap
  simp at ap
 ·subst heq
  have r1 := za.1 (by grind)
  have r2 := zb.1 (by grind)
  have r3 := zc.1 (by grind)
  have r4 := zd.1 (by grind)
  have n1 := on_no ia ic id r1 o1
  have n2 := on_no ib ic id r2 o2
  have n3 := on_no ic ia ib r3 o3
  have n4 := on_no id ia ib r4 o4
  clear ea eb ec ed fa fb fc fd pa na za pb nb zb pc nc zc pd nd zd aa ab cc cd e r1 r2 r3 r4 o1 o2 o3 o4 ap hm hk
  have eac : Xr a = Xr c := by grind
  have ebd : Xr b = Xr d := by grind
  have hac : a = c := Xi_inj ia ic (Rat.intCast_inj.1 eac)
  have hbd : b = d := Xi_inj ib id (Rat.intCast_inj.1 ebd)
  subst hac hbd
  simp [sameB] at sm
theorem Ln.cross {s t : Ln} {x y : Rat} (h1 : s.at x < t.at x) (h2 : t.at y < s.at y) : ∃ z, (x < z ∧ z < y ∨ y < z ∧ z < x) ∧ s.at z = t.at z := by
 generalize hd : t.at x - s.at x = d
 generalize he : s.at y - t.at y = e
 have d0 : 0 < d := by grind
 have e0 : 0 < e := by grind
 have de : 0 < d + e := by grind
 have de' : d + e ≠ 0 := by grind
 generalize hz : (x * e + y * d) / (d + e) = z
 have hz' : z * (d + e) = x * e + y * d := by rw [← hz]; exact Rat.div_mul_cancel de'
 have a1 := s.affine x z
 have a2 := t.affine x z
 have a3 := s.affine x y
 have a4 := t.affine x y
 have hxy : x ≠ y := by rintro rfl; grind
 refine ⟨z, ?_, ?_⟩
 ·have hlt : x < y ∨ y < x := by grind
  rcases hlt with hlt | hlt
  ·left
   have p1 := rat_mul_pos (by grind : 0 < y - x) e0
   have p2 := rat_mul_pos (by grind : 0 < y - x) d0
   have q1 : 0 < (z - x) * (d + e) := by grind
   have q2 : 0 < (y - z) * (d + e) := by grind
   have := rat_pos_of_mul q1 de
   have := rat_pos_of_mul q2 de
   grind
  ·right
   have p1 := rat_mul_pos (by grind : 0 < x - y) e0
   have p2 := rat_mul_pos (by grind : 0 < x - y) d0
   have q1 : 0 < (x - z) * (d + e) := by grind
   have q2 : 0 < (z - y) * (d + e) := by grind
   have := rat_pos_of_mul q1 de
   have := rat_pos_of_mul q2 de
   grind
 ·have e1 : (s.at z - t.at z) * (d + e) = 0 := by
   have b1 : s.at z - t.at z = (s.m - t.m) * (z - x) - d := by grind
   have b2 : (s.m - t.m) * (y - x) = d + e := by grind
   have b3 : (z - x) * (d + e) = (y - x) * d := by grind
   have : (s.at z - t.at z) * (d + e) = (s.m - t.m) * ((z - x) * (d + e)) - d * (d + e) := by rw [b1]; grind
   rw [this, b3]
   grind
  have := rat_zero_of_mul e1 de
  grind
def Ln.near (s : Ln) (x : Rat) : Prop := s.x1 ≤ x ∧ x ≤ s.x2
theorem Ln.Sep.ends {s t : Ln} (h : s.Sep t) {x y : Rat} (sx : s.spans x) (tx : t.spans x) (sy : s.near y) (ty : t.near y) (hne : s.at y ≠ t.at y) : s.at x < t.at x ↔ s.at y < t.at y := by
 have no : ∀ z, (x < z ∧ z < y ∨ y < z ∧ z < x) → s.at z ≠ t.at z := by
  intro z hz
  unfold Ln.spans at sx tx
  unfold Ln.near at sy ty
  exact h z (by unfold Ln.spans; grind) (by unfold Ln.spans; grind)
 have hx := h x sx tx
 constructor
 ·intro h1
  by_cases h2 : s.at y < t.at y
  ·exact h2
  ·obtain ⟨z, hz, e⟩ := Ln.cross h1 (by grind : t.at y < s.at y)
   exact absurd e (no z hz)
 ·intro h1
  by_cases h2 : s.at x < t.at x
  ·exact h2
  ·obtain ⟨z, hz, e⟩ := Ln.cross h1 (by grind : t.at x < s.at x)
   exact absurd e (no z (by grind))
theorem inP_b {p : Pt} (h : inB p = true) : InP p := of_decide_eq_true h
theorem Xr_lt {a b : Pt} : Xr a < Xr b ↔ Xi a < Xi b := Rat.intCast_lt_intCast
theorem Ln.fan_r {s t : Ln} {x0 x y : Rat} (h : s.at x0 = t.at x0) (hx : x0 < x) (hy : x0 < y) : s.at x < t.at x ↔ s.at y < t.at y := by
 have a1 := s.affine x0 x
 have a2 := t.affine x0 x
 have a3 := s.affine x0 y
 have a4 := t.affine x0 y
 have key : ∀ z, x0 < z → (s.at z < t.at z ↔ s.m < t.m) := by
  intro z hz
  have a1 := s.affine x0 z
  have a2 := t.affine x0 z
  have hp : 0 < z - x0 := by grind
  constructor
  ·intro h1
   have : 0 < (t.m - s.m) * (z - x0) := by grind
   have := rat_pos_of_mul this hp
   grind
  ·intro h1
   have := rat_mul_pos (by grind : 0 < t.m - s.m) hp
   grind
 rw [key x hx, key y hy]
end Go.Proofs.YtlhmjhildlnokaaGreat
namespace Go.Proofs.YtlhmjhildlnokaaGreat
set_option linter.unusedVariables false
set_option linter.unusedSimpArgs false
open Go.RowKit Go.Sort Go.Shelf
def Nr (a : Rat) (P : Rat → Prop) : Prop := ∃ d : Rat, 0 < d ∧ ∀ x, a - d < x → x < a + d → P x
theorem Nr.and {a : Rat} {P Q : Rat → Prop} (h : Nr a P) (g : Nr a Q) : Nr a fun x => P x ∧ Q x := by
 obtain ⟨d, d0, hd⟩ := h
 obtain ⟨e, e0, he⟩ := g
 by_cases hde : d ≤ e
 ·exact ⟨d, d0, fun x h1 h2 => ⟨hd x h1 h2, he x (by grind) (by grind)⟩⟩
 ·exact ⟨e, e0, fun x h1 h2 => ⟨hd x (by grind) (by grind), he x h1 h2⟩⟩
theorem Nr.mono {a : Rat} {P Q : Rat → Prop} (h : Nr a P) (g : ∀ x, P x → Q x) : Nr a Q := by
 obtain ⟨d, d0, hd⟩ := h
 exact ⟨d, d0, fun x h1 h2 => g x (hd x h1 h2)⟩
theorem Nr.all {a : Rat} {P : Rat → Prop} (h : ∀ x, P x) : Nr a P := ⟨1, by decide, fun x _ _ => h x⟩
theorem Nr.gt {a c : Rat} (h : c < a) : Nr a fun x => c < x := ⟨a - c, by grind, fun x h1 h2 => by grind⟩
theorem Nr.lt {a c : Rat} (h : a < c) : Nr a fun x => x < c := ⟨c - a, by grind, fun x h1 h2 => by grind⟩
theorem Nr.imp {a : Rat} {p : Prop} {P : Rat → Prop} (h : p → Nr a P) : Nr a fun x => p → P x := by
 by_cases hp : p
 ·exact (h hp).mono fun x hx _ => hx
 ·exact Nr.all fun x h => absurd h hp
theorem Nr.lin {a v m : Rat} (hv : 0 < v) : Nr a fun x => 0 < v + m * (x - a) := by
 have key : ∀ M : Rat, 0 ≤ M → ∃ d : Rat, 0 < d ∧ M * d < v := by
  intro M hM
  have h1 : (0 : Rat) < M + 1 := by grind
  have h2 : (0 : Rat) < v / (M + 1) := by
   rw [Rat.div_def]; exact Rat.mul_pos hv (Rat.inv_pos.2 h1)
  refine ⟨v / (M + 1), h2, ?_⟩
  have h3 : v / (M + 1) * (M + 1) = v := Rat.div_mul_cancel (by grind)
  grind
 by_cases hm : 0 ≤ m
 ·obtain ⟨d, d0, hd⟩ := key m hm
  refine ⟨d, d0, fun x h1 h2 => ?_⟩
  have := Rat.mul_nonneg hm (by grind : 0 ≤ x - a + d)
  grind
 ·obtain ⟨d, d0, hd⟩ := key (-m) (by grind)
  refine ⟨d, d0, fun x h1 h2 => ?_⟩
  have := Rat.mul_nonneg (by grind : 0 ≤ -m) (by grind : 0 ≤ a + d - x)
  grind
theorem Nr.below {a : Rat} {s t : Ln} (h : s.at a < t.at a) : Nr a fun x => s.at x < t.at x := by
 refine (Nr.lin (a := a) (m := t.m - s.m) (by grind : 0 < t.at a - s.at a)).mono fun x hx => ?_
 have h1 := s.affine a x
 have h2 := t.affine a x
 grind
theorem Nr.avoid {a : Rat} : ∀ (E : List Rat), Nr a fun x => ∀ e ∈ E, e ≠ a → x ≠ e
 | [] => Nr.all fun x e he => by simp at he
 | e :: E => by
  have h : Nr a fun x => e ≠ a → x ≠ e := Nr.imp fun he => by
   rcases (by grind : e < a ∨ a < e) with q | q
   ·exact (Nr.gt q).mono fun x hx => by grind
   ·exact (Nr.lt q).mono fun x hx => by grind
  refine (h.and (Nr.avoid E)).mono fun x hx => ?_
  intro f hf
  rcases List.mem_cons.1 hf with rfl | hf
  ·exact hx.1
  ·exact hx.2 f hf
theorem Nr.right {a : Rat} {P : Rat → Prop} (h : Nr a P) : ∃ x, a < x ∧ P x := by
 obtain ⟨d, d0, hd⟩ := h
 exact ⟨a + d / 2, by grind, hd _ (by grind) (by grind)⟩
theorem Nr.left {a : Rat} {P : Rat → Prop} (h : Nr a P) : ∃ x, x < a ∧ P x := by
 obtain ⟨d, d0, hd⟩ := h
 exact ⟨a - d / 2, by grind, hd _ (by grind) (by grind)⟩
theorem between {a b : Rat} (h : a < b) (E : List Rat) : ∃ x, a < x ∧ x < b ∧ x ∉ E := by
 obtain ⟨x, h1, h2, h3⟩ := ((Nr.lt h).and (Nr.avoid (a := a) E)).right
 exact ⟨x, h1, h2, fun hx => h3 x hx (by grind) rfl⟩
def lnS (s : Sg) : Ln := lnOf s.a s.b
structure SOk (S : List (Int × Sg)) : Prop where
 ids : ∀ q ∈ S, q.1 ≠ 0
 keys : (S.map (·.1)).Nodup
 rng : ∀ q ∈ S, InP q.2.a ∧ InP q.2.b ∧ Xi q.2.a < Xi q.2.b
 sep : ∀ q ∈ S, ∀ r ∈ S, q ≠ r → (lnS q.2).Sep (lnS r.2)
 off : ∀ q ∈ S, ∀ r ∈ S, ∀ e, (e = r.2.a ∨ e = r.2.b) → (lnS q.2).spans (Xr e) → (lnS q.2).at (Xr e) ≠ Yr e
def EndS (S : List (Int × Sg)) (e : Pt) : Prop := ∃ q ∈ S, e = q.2.a ∨ e = q.2.b
def InX (t : Tz) (x : Rat) : Prop := (t.hl = true → Xr t.l < x) ∧ (t.hr = true → x < Xr t.r)
def botL (S : List (Int × Sg)) (t : Tz) : Ln := lnS (sgOf S t.bot)
def topL (S : List (Int × Sg)) (t : Tz) : Ln := lnS (sgOf S t.top)
structure InT (S : List (Int × Sg)) (t : Tz) (x y : Rat) : Prop where
 ix : InX t x
 lo : t.bot ≠ 0 → (botL S t).at x < y
 hi : t.top ≠ 0 → y < (topL S t).at x
structure Val (S : List (Int × Sg)) (t : Tz) : Prop where
 bot : t.bot ≠ 0 → (t.bot, sgOf S t.bot) ∈ S ∧ t.hl = true ∧ t.hr = true ∧ Xi (sgOf S t.bot).a ≤ Xi t.l ∧ Xi t.r ≤ Xi (sgOf S t.bot).b
 top : t.top ≠ 0 → (t.top, sgOf S t.top) ∈ S ∧ t.hl = true ∧ t.hr = true ∧ Xi (sgOf S t.top).a ≤ Xi t.l ∧ Xi t.r ≤ Xi (sgOf S t.top).b
 lr : t.hl = true → t.hr = true → Xi t.l < Xi t.r
 bt : t.bot ≠ 0 → t.top ≠ 0 → ∀ x, InX t x → (botL S t).at x < (topL S t).at x
 wl : t.hl = true → EndS S t.l ∧ (t.bot ≠ 0 → (botL S t).at (Xr t.l) ≤ Yr t.l) ∧ (t.top ≠ 0 → Yr t.l ≤ (topL S t).at (Xr t.l))
 wr : t.hr = true → EndS S t.r ∧ (t.bot ≠ 0 → (botL S t).at (Xr t.r) ≤ Yr t.r) ∧ (t.top ≠ 0 → Yr t.r ≤ (topL S t).at (Xr t.r))
 free : ∀ q ∈ S, ∀ x, (lnS q.2).spans x → ¬ InT S t x ((lnS q.2).at x)
 zl : t.hl = false → t.l = ⟨0, 0⟩
 zr : t.hr = false → t.r = ⟨0, 0⟩
variable {S : List (Int × Sg)} {t t' : Tz}
theorem Xr_le {a b : Pt} : Xr a ≤ Xr b ↔ Xi a ≤ Xi b := Rat.intCast_le_intCast
theorem Xr_eq {a b : Pt} : Xr a = Xr b ↔ Xi a = Xi b := Rat.intCast_inj
theorem SOk.endIn (O : SOk S) {e : Pt} (h : EndS S e) : InP e := by
 obtain ⟨q, hq, rfl | rfl⟩ := h
 ·exact (O.rng q hq).1
 ·exact (O.rng q hq).2.1
theorem SOk.endEq (O : SOk S) {e f : Pt} (h : EndS S e) (g : EndS S f) (hx : Xr e = Xr f) : e = f := Xi_inj (O.endIn h) (O.endIn g) (Xr_eq.1 hx)
theorem Val.botSp (V : Val S t) (h : t.bot ≠ 0) {x : Rat} (hx : InX t x) : (botL S t).spans x := by
 obtain ⟨_, h1, h2, h3, h4⟩ := V.bot h
 have a1 := hx.1 h1
 have a2 := hx.2 h2
 have b1 := Xr_le.2 h3
 have b2 := Xr_le.2 h4
 exact ⟨show Xr (sgOf S t.bot).a < x by grind, show x < Xr (sgOf S t.bot).b by grind⟩
theorem Val.topSp (V : Val S t) (h : t.top ≠ 0) {x : Rat} (hx : InX t x) : (topL S t).spans x := by
 obtain ⟨_, h1, h2, h3, h4⟩ := V.top h
 have a1 := hx.1 h1
 have a2 := hx.2 h2
 have b1 := Xr_le.2 h3
 have b2 := Xr_le.2 h4
 exact ⟨show Xr (sgOf S t.top).a < x by grind, show x < Xr (sgOf S t.top).b by grind⟩
theorem SOk.ln1 (O : SOk S) {q : Int × Sg} (hq : q ∈ S) : Xr q.2.a < Xr q.2.b ∧ (lnS q.2).at (Xr q.2.a) = Yr q.2.a ∧ (lnS q.2).at (Xr q.2.b) = Yr q.2.b := by
 have h := Xr_lt.2 (O.rng q hq).2.2
 exact ⟨h, (lnOf q.2.a q.2.b).at_1, (lnOf q.2.a q.2.b).at_2 h⟩
theorem Val.noend (O : SOk S) (V : Val S t) {e : Pt} (he : EndS S e) (hx : InX t (Xr e)) (h1 : t.bot ≠ 0 → (botL S t).at (Xr e) ≤ Yr e) (h2 : t.top ≠ 0 → Yr e ≤ (topL S t).at (Xr e)) : False := by
 obtain ⟨q, hq, hqe⟩ := he
 have s1 : t.bot ≠ 0 → (botL S t).at (Xr e) < Yr e := fun h => by
  have := O.off _ (V.bot h).1 q hq e hqe (V.botSp h hx)
  have g := h1 h
  unfold botL at g ⊢
  simp only at this
  grind
 have s2 : t.top ≠ 0 → Yr e < (topL S t).at (Xr e) := fun h => by
  have := O.off _ (V.top h).1 q hq e hqe (V.topSp h hx)
  have g := h2 h
  unfold topL at g ⊢
  simp only at this
  grind
 obtain ⟨l1, l2, l3⟩ := O.ln1 hq
 have ye : (lnS q.2).at (Xr e) = Yr e := by rcases hqe with rfl | rfl; exact l2; exact l3
 have n1 : Nr (Xr e) fun x => InX t x := (Nr.imp fun h => Nr.gt (hx.1 h)).and (Nr.imp fun h => Nr.lt (hx.2 h))
 have n2 : Nr (Xr e) fun x => t.bot ≠ 0 → (botL S t).at x < (lnS q.2).at x := Nr.imp fun h => Nr.below (by rw [ye]; exact s1 h)
 have n3 : Nr (Xr e) fun x => t.top ≠ 0 → (lnS q.2).at x < (topL S t).at x := Nr.imp fun h => Nr.below (by rw [ye]; exact s2 h)
 rcases hqe with rfl | rfl
 ·obtain ⟨x, g1, ⟨g2, g3, g4⟩, g5⟩ := ((n1.and (n2.and n3)).and (Nr.lt l1)).right
  exact V.free q hq x ⟨g1, g5⟩ ⟨g2, g3, g4⟩
 ·obtain ⟨x, g1, ⟨g2, g3, g4⟩, g5⟩ := ((n1.and (n2.and n3)).and (Nr.gt l1)).left
  exact V.free q hq x ⟨g5, g1⟩ ⟨g2, g3, g4⟩
theorem val_bot (O : SOk S) (V : Val S t) (V' : Val S t') {x y : Rat} (h : InT S t x y) (h' : InT S t' x y) : t.bot ≠ 0 → t'.bot = t.bot := by
 intro hb
 have sp := V.botSp hb h.ix
 have hm := (V.bot hb).1
 have lo := h.lo hb
 have nf := V'.free _ hm x sp
 have hi' : t'.top ≠ 0 → (botL S t).at x < (topL S t').at x := fun g => by have := h'.hi g; grind
 by_cases hb' : t'.bot = 0
 ·exact absurd ⟨h'.ix, fun g => absurd hb' g, hi'⟩ nf
 ·have sp' := V'.botSp hb' h'.ix
  have hm' := (V'.bot hb').1
  have lo' := h'.lo hb'
  have nf' := V.free _ hm' x sp'
  have hi : t.top ≠ 0 → (botL S t').at x < (topL S t).at x := fun g => by have := h.hi g; grind
  have q1 : ¬ (botL S t').at x < (botL S t).at x := fun q => nf ⟨h'.ix, fun _ => q, hi'⟩
  have q2 : ¬ (botL S t).at x < (botL S t').at x := fun q => nf' ⟨h.ix, fun _ => q, hi⟩
  by_cases e : (t.bot, sgOf S t.bot) = (t'.bot, sgOf S t'.bot)
  ·injection e with e; exact e.symm
  ·have := O.sep _ hm _ hm' e x sp sp'
   unfold botL at q1 q2
   simp only at this
   grind
theorem val_top (O : SOk S) (V : Val S t) (V' : Val S t') {x y : Rat} (h : InT S t x y) (h' : InT S t' x y) : t.top ≠ 0 → t'.top = t.top := by
 intro hb
 have sp := V.topSp hb h.ix
 have hm := (V.top hb).1
 have lo := h.hi hb
 have nf := V'.free _ hm x sp
 have hi' : t'.bot ≠ 0 → (botL S t').at x < (topL S t).at x := fun g => by have := h'.lo g; grind
 by_cases hb' : t'.top = 0
 ·exact absurd ⟨h'.ix, hi', fun g => absurd hb' g⟩ nf
 ·have sp' := V'.topSp hb' h'.ix
  have hm' := (V'.top hb').1
  have lo' := h'.hi hb'
  have nf' := V.free _ hm' x sp'
  have hi : t.bot ≠ 0 → (botL S t).at x < (topL S t').at x := fun g => by have := h.lo g; grind
  have q1 : ¬ (topL S t).at x < (topL S t').at x := fun q => nf ⟨h'.ix, hi', fun _ => q⟩
  have q2 : ¬ (topL S t').at x < (topL S t).at x := fun q => nf' ⟨h.ix, hi, fun _ => q⟩
  by_cases e : (t.top, sgOf S t.top) = (t'.top, sgOf S t'.top)
  ·injection e with e; exact e.symm
  ·have := O.sep _ hm _ hm' e x sp sp'
   unfold topL at q1 q2
   simp only at this
   grind
theorem val_uniq (O : SOk S) (V : Val S t) (V' : Val S t') {x y : Rat} (h : InT S t x y) (h' : InT S t' x y) : t = t' := by
 have eb : t.bot = t'.bot := by
  by_cases g : t.bot = 0
  ·by_cases g' : t'.bot = 0
   ·rw [g, g']
   ·exact val_bot O V' V h' h g'
  ·exact (val_bot O V V' h h' g).symm
 have et : t.top = t'.top := by
  by_cases g : t.top = 0
  ·by_cases g' : t'.top = 0
   ·rw [g, g']
   ·exact val_top O V' V h' h g'
  ·exact (val_top O V V' h h' g).symm
 have L : ∀ {t t' : Tz}, Val S t → Val S t' → InT S t x y → InT S t' x y → t.bot = t'.bot → t.top = t'.top → t.hl = true → t'.hl = true ∧ Xr t.l ≤ Xr t'.l := by
  intro t t' V V' h h' eb et hl
  have wl := V.wl hl
  have no : ¬ (t'.hl = true → Xr t'.l < Xr t.l) := fun g => by
   refine V'.noend O wl.1 ⟨g, fun hr => ?_⟩ ?_ ?_
   ·have := h.ix.1 hl
    have := h'.ix.2 hr
    grind
   ·unfold botL; rw [← eb]; exact wl.2.1
   ·unfold topL; rw [← et]; exact wl.2.2
  constructor
  ·cases hh : t'.hl
   ·exact absurd (fun g => absurd (hh.symm.trans g) (by simp)) no
   ·rfl
  ·grind
 have R : ∀ {t t' : Tz}, Val S t → Val S t' → InT S t x y → InT S t' x y → t.bot = t'.bot → t.top = t'.top → t.hr = true → t'.hr = true ∧ Xr t'.r ≤ Xr t.r := by
  intro t t' V V' h h' eb et hl
  have wl := V.wr hl
  have no : ¬ (t'.hr = true → Xr t.r < Xr t'.r) := fun g => by
   refine V'.noend O wl.1 ⟨fun hr => ?_, g⟩ ?_ ?_
   ·have := h.ix.2 hl
    have := h'.ix.1 hr
    grind
   ·unfold botL; rw [← eb]; exact wl.2.1
   ·unfold topL; rw [← et]; exact wl.2.2
  constructor
  ·cases hh : t'.hr
   ·exact absurd (fun g => absurd (hh.symm.trans g) (by simp)) no
   ·rfl
  ·grind
 have ehl : t.hl = t'.hl := by
  cases h1 : t.hl <;> cases h2 : t'.hl
  ·rfl
  ·have := (L V' V h' h eb.symm et.symm h2).1; rw [h1] at this; cases this
  ·have := (L V V' h h' eb et h1).1; rw [h2] at this; cases this
  ·rfl
 have ehr : t.hr = t'.hr := by
  cases h1 : t.hr <;> cases h2 : t'.hr
  ·rfl
  ·have := (R V' V h' h eb.symm et.symm h2).1; rw [h1] at this; cases this
  ·have := (R V V' h h' eb et h1).1; rw [h2] at this; cases this
  ·rfl
 have el : t.l = t'.l := by
  cases h1 : t.hl
  ·rw [V.zl h1, V'.zl (ehl ▸ h1)]
  ·have h2 : t'.hl = true := ehl ▸ h1
   have a1 := (L V V' h h' eb et h1).2
   have a2 := (L V' V h' h eb.symm et.symm h2).2
   exact O.endEq (V.wl h1).1 (V'.wl h2).1 (by grind)
 have er : t.r = t'.r := by
  cases h1 : t.hr
  ·rw [V.zr h1, V'.zr (ehr ▸ h1)]
  ·have h2 : t'.hr = true := ehr ▸ h1
   have a1 := (R V V' h h' eb et h1).2
   have a2 := (R V' V h' h eb.symm et.symm h2).2
   exact O.endEq (V.wr h1).1 (V'.wr h2).1 (by grind)
 obtain ⟨_, _, _, _, _, _⟩ := t
 obtain ⟨_, _, _, _, _, _⟩ := t'
 simp only at eb et ehl ehr el er
 simp only [eb, et, ehl, ehr, el, er]
theorem Val.someX (V : Val S t) (E : List Rat) : ∃ x, InX t x ∧ x ∉ E := by
 cases h1 : t.hl <;> cases h2 : t.hr
 ·obtain ⟨x, _, _, g⟩ := between (show (0 : Rat) < 1 by decide) E
  exact ⟨x, ⟨fun h => absurd (h1.symm.trans h) (by simp), fun h => absurd (h2.symm.trans h) (by simp)⟩, g⟩
 ·obtain ⟨x, _, g1, g⟩ := between (show Xr t.r - 1 < Xr t.r by grind) E
  exact ⟨x, ⟨fun h => absurd (h1.symm.trans h) (by simp), fun h => g1⟩, g⟩
 ·obtain ⟨x, g1, _, g⟩ := between (show Xr t.l < Xr t.l + 1 by grind) E
  exact ⟨x, ⟨fun h => g1, fun h => absurd (h2.symm.trans h) (by simp)⟩, g⟩
 ·obtain ⟨x, g1, g2, g⟩ := between (Xr_lt.2 (V.lr h1 h2)) E
  exact ⟨x, ⟨fun h => g1, fun h => g2⟩, g⟩
theorem Val.someY (V : Val S t) {x : Rat} (hx : InX t x) : ∃ y, InT S t x y := by
 by_cases h1 : t.bot = 0 <;> by_cases h2 : t.top = 0
 ·exact ⟨0, hx, fun h => absurd h1 h, fun h => absurd h2 h⟩
 ·exact ⟨(topL S t).at x - 1, hx, fun h => absurd h1 h, fun h => by grind⟩
 ·exact ⟨(botL S t).at x + 1, hx, fun h => by grind, fun h => absurd h2 h⟩
 ·have := V.bt h1 h2 x hx
  exact ⟨((botL S t).at x + (topL S t).at x) / 2, hx, fun h => by grind, fun h => by grind⟩
end Go.Proofs.YtlhmjhildlnokaaGreat
