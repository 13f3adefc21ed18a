/-
  The plain law of layer 16: the halves that leave a vertex, and their order. No walk stands here.
-/
import Derived.Test.YtlhmjhildlnokaaGeo3
import Derived.Test.YtlhmjhildlnokaaPlanL
namespace Go.Proofs.Ytlhmjhildlnokaa
set_option linter.unusedVariables false
set_option linter.unusedSimpArgs false

/-! ### Two directions that are one -/
theorem par_box {ax ay bx b_y : Int} (h : ax * b_y - ay * bx = 0) (ha : 0 < ay ∨ ay = 0 ∧ 0 < ax) (hb : 0 < b_y ∨ b_y = 0 ∧ 0 < bx) :
    ((0 ≤ ax ∧ ax ≤ bx ∨ bx ≤ ax ∧ ax ≤ 0) ∧ 0 ≤ ay ∧ ay ≤ b_y) ∨ ((0 ≤ bx ∧ bx ≤ ax ∨ ax ≤ bx ∧ bx ≤ 0) ∧ 0 ≤ b_y ∧ b_y ≤ ay) := by
  have key : ∀ ax ay bx b_y : Int, ax * b_y = ay * bx → 0 < ay → 0 < b_y → ay ≤ b_y → (0 ≤ ax ∧ ax ≤ bx ∨ bx ≤ ax ∧ ax ≤ 0) := by
    intro ax ay bx b_y e h1 h2 h3
    by_cases hx : 0 ≤ bx
    · left
      constructor
      · by_cases q : 0 ≤ ax
        · exact q
        · have := Int.mul_neg_of_neg_of_pos (a := ax) (b := b_y) (by omega) h2
          have := Int.mul_nonneg (Int.le_of_lt h1) hx
          omega
      · have e1 : ay * bx ≤ b_y * bx := Int.mul_le_mul_of_nonneg_right h3 hx
        rw [← e, Int.mul_comm b_y bx] at e1
        exact Int.le_of_mul_le_mul_right e1 h2
    · right
      have hx' : 0 ≤ -bx := by omega
      constructor
      · have e1 : ay * (-bx) ≤ b_y * (-bx) := Int.mul_le_mul_of_nonneg_right h3 hx'
        rw [Int.mul_neg, Int.mul_neg, ← e, Int.mul_comm b_y bx] at e1
        exact Int.le_of_mul_le_mul_right (a := b_y) (by omega) h2
      · by_cases q : ax ≤ 0
        · exact q
        · have := Int.mul_pos (a := ax) (b := b_y) (by omega) h2
          have := Int.mul_neg_of_pos_of_neg h1 (show bx < 0 by omega)
          omega
  rcases ha with ha | ⟨rfl, ha⟩
  · rcases hb with hb | ⟨rfl, hb⟩
    · by_cases hle : ay ≤ b_y
      · exact .inl ⟨key ax ay bx b_y (by omega) ha hb hle, by omega, hle⟩
      · exact .inr ⟨key bx b_y ax ay (by rw [Int.mul_comm bx, Int.mul_comm b_y]; omega) hb ha (by omega), by omega, by omega⟩
    · exfalso
      have := Int.mul_pos ha hb
      rw [Int.mul_zero] at h; omega
  · rcases hb with hb | ⟨rfl, hb⟩
    · exfalso
      have := Int.mul_pos ha hb
      rw [Int.zero_mul] at h; omega
    · by_cases hle : ax ≤ bx
      · exact .inl ⟨.inl ⟨by omega, hle⟩, by omega, by omega⟩
      · exact .inr ⟨.inl ⟨by omega, by omega⟩, by omega, by omega⟩
theorem one_way {o p q : Pt} (hp : p ≠ o) (hq : q ≠ o) (h : aroundL o p q = 0) : WithinP p o q ∨ WithinP q o p := by
  have hp := pt_ne hp
  have hq := pt_ne hq
  unfold aroundL at h
  have hhalf : halfZ o p - halfZ o q = 0 := by
    by_cases e : halfZ o p - halfZ o q = 0
    · exact e
    · rw [if_neg e] at h; exact absurd h e
  rw [if_pos hhalf] at h
  have ht : turnZ o p q = 0 := by omega
  have ht2 : turnZ o q p = 0 := by rw [turn_oba, ht]; rfl
  have hc : crossZ o p q = 0 := by
    unfold turnZ at ht
    rcases sg_cases (crossZ o p q) with ⟨h1, h2⟩ | ⟨h1, h2⟩ | ⟨h1, h2⟩ <;> rw [h2] at ht <;> omega
  obtain ⟨ox, oy⟩ := o
  obtain ⟨px, py⟩ := p
  obtain ⟨qx, qy⟩ := q
  unfold crossZ at hc
  unfold halfZ at hhalf
  simp only at hp hq hc hhalf
  have box : ((0 ≤ px - ox ∧ px - ox ≤ qx - ox ∨ qx - ox ≤ px - ox ∧ px - ox ≤ 0) ∧ (0 ≤ py - oy ∧ py - oy ≤ qy - oy ∨ qy - oy ≤ py - oy ∧ py - oy ≤ 0)) ∨ ((0 ≤ qx - ox ∧ qx - ox ≤ px - ox ∨ px - ox ≤ qx - ox ∧ qx - ox ≤ 0) ∧ (0 ≤ qy - oy ∧ qy - oy ≤ py - oy ∨ py - oy ≤ qy - oy ∧ qy - oy ≤ 0)) := by
    by_cases hh : oy < py ∨ py = oy ∧ ox < px
    · rw [if_pos hh] at hhalf
      have hh2 : oy < qy ∨ qy = oy ∧ ox < qx := by
        by_cases e : oy < qy ∨ qy = oy ∧ ox < qx
        · exact e
        · rw [if_neg e] at hhalf; omega
      rcases par_box hc (by omega) (by omega) with ⟨h1, h2, h3⟩ | ⟨h1, h2, h3⟩
      · exact .inl ⟨h1, .inl ⟨h2, h3⟩⟩
      · exact .inr ⟨h1, .inl ⟨h2, h3⟩⟩
    · rw [if_neg hh] at hhalf
      have hh2 : ¬ (oy < qy ∨ qy = oy ∧ ox < qx) := fun e => by rw [if_pos e] at hhalf; omega
      have hc2 : (-(px - ox)) * (-(qy - oy)) - (-(py - oy)) * (-(qx - ox)) = 0 := by rw [Int.neg_mul_neg, Int.neg_mul_neg]; exact hc
      rcases par_box hc2 (by omega) (by omega) with ⟨h1, h2, h3⟩ | ⟨h1, h2, h3⟩
      · exact .inl ⟨by omega, .inr (by omega)⟩
      · exact .inr ⟨by omega, .inr (by omega)⟩
  rcases box with ⟨h1, h2⟩ | ⟨h1, h2⟩
  · left; exact ⟨ht2, by simp only; omega, by simp only; omega⟩
  · right; exact ⟨ht, by simp only; omega, by simp only; omega⟩

/-! ### Halves -/
structure Hf where
  e : Int
  b : Bool
deriving DecidableEq
def twinH (h : Hf) : Hf := ⟨h.e, !h.b⟩
theorem twin_twin (h : Hf) : twinH (twinH h) = h := by simp [twinH]
def halves (es : List Eg) : List Hf := es.flatMap fun e => [⟨e.id, false⟩, ⟨e.id, true⟩]
def egOf (es : List Eg) (id : Int) : Eg := (es.find? fun e => e.id == id).getD ⟨0, 0, 0⟩
def fromZ (es : List Eg) (h : Hf) : Int := if h.b then (egOf es h.e).b else (egOf es h.e).a
def toZ (es : List Eg) (h : Hf) : Int := fromZ es (twinH h)
def farP (vs : List Vt) (es : List Eg) (h : Hf) : Pt := rpt vs (toZ es h)
variable {vs : List Vt} {es : List Eg}
theorem RightP.ids (h : RightP vs es) : es.Pairwise fun e f => e.id < f.id := h.two.imp fun h => h.1
theorem find_mid {e : Eg} (hid : es.Pairwise fun e f => e.id < f.id) (he : e ∈ es) : es.find? (fun f => f.id == e.id) = some e := by
  induction es with
  | nil => cases he
  | cons f es ih =>
    have hp := List.pairwise_cons.1 hid
    rcases List.mem_cons.1 he with rfl | he
    · simp
    · have : f.id < e.id := hp.1 e he
      rw [List.find?_cons]
      have hne : (f.id == e.id) = false := by simp; omega
      rw [hne]
      exact ih hp.2 he
theorem egOf_mem {e : Eg} (h : RightP vs es) (he : e ∈ es) : egOf es e.id = e := by unfold egOf; rw [find_mid h.ids he]; rfl
theorem mem_halves {h : Hf} : h ∈ halves es ↔ ∃ e ∈ es, h.e = e.id := by
  unfold halves
  constructor
  · intro hm
    obtain ⟨e, he, hm⟩ := List.mem_flatMap.1 hm
    simp only [List.mem_cons, List.not_mem_nil, or_false] at hm
    rcases hm with rfl | rfl <;> exact ⟨e, he, rfl⟩
  · rintro ⟨e, he, h1⟩
    obtain ⟨x, b⟩ := h
    simp only at h1
    subst h1
    exact List.mem_flatMap.2 ⟨e, he, by cases b <;> simp⟩
theorem twin_mem {h : Hf} (hm : h ∈ halves es) : twinH h ∈ halves es := mem_halves.2 (by simpa [twinH] using mem_halves.1 hm)
theorem halves_nodup (hid : es.Pairwise fun e f => e.id < f.id) : (halves es).Nodup := by
  unfold halves
  induction es with
  | nil => exact .nil
  | cons e es ih =>
    have hp := List.pairwise_cons.1 hid
    simp only [List.flatMap_cons]
    refine List.nodup_append.2 ⟨by simp, ih hp.2, fun a ha b hb => ?_⟩
    obtain ⟨f, hf, hb⟩ := List.mem_flatMap.1 hb
    have := hp.1 f hf
    simp only [List.mem_cons, List.not_mem_nil, or_false] at ha hb
    intro hab
    rcases ha with rfl | rfl <;> rcases hb with rfl | rfl <;> simp only [Hf.mk.injEq] at hab <;> omega
/-- Two halves that leave one vertex don't go one way. -/
theorem apart_ways (H : RightP vs es) {g h : Hf} (hg : g ∈ halves es) (hh : h ∈ halves es) (hf : fromZ es g = fromZ es h) (hne : g ≠ h) :
    aroundL (rpt vs (fromZ es g)) (farP vs es g) (farP vs es h) ≠ 0 := by
  obtain ⟨e, he, hge⟩ := mem_halves.1 hg
  obtain ⟨f, hff, hhe⟩ := mem_halves.1 hh
  obtain ⟨ge, gb⟩ := g
  obtain ⟨hhe', hb⟩ := h
  simp only at hge hhe
  subst hge hhe
  have e1 := egOf_mem H he
  have e2 := egOf_mem H hff
  have ends : ∀ (e : Eg) (b : Bool), e ∈ es → ∃ x y, (if b then e.b else e.a) = x ∧ (if !b then e.b else e.a) = y ∧ x ≠ y ∧ (vs.find? fun v => v.id == x).isSome = true ∧ (vs.find? fun v => v.id == y).isSome = true ∧ onWayR vs (rpt vs x) (rpt vs y) = false := by
    intro e b he
    have hE := H.each e he
    cases b
    · exact ⟨e.a, e.b, rfl, rfl, hE.2.1.1, hE.2.1.2.1, hE.2.1.2.2, hE.2.2⟩
    · refine ⟨e.b, e.a, rfl, rfl, fun q => hE.2.1.1 q.symm, hE.2.1.2.2, hE.2.1.2.1, ?_⟩
      rw [← hE.2.2]
      unfold onWayR
      congr 1
      funext v
      rw [← onL_onR, ← onL_onR, onL_swap]
  obtain ⟨x, y, hx, hy, hxy, hxs, hys, hway⟩ := ends e gb he
  obtain ⟨x', z, hx', hz, hxz, hxs', hzs, hway'⟩ := ends f hb hff
  have f1 : fromZ es ⟨e.id, gb⟩ = x := by unfold fromZ; rw [e1]; exact hx
  have f2 : fromZ es ⟨f.id, hb⟩ = x' := by unfold fromZ; rw [e2]; exact hx'
  have t1 : toZ es ⟨e.id, gb⟩ = y := by unfold toZ fromZ twinH; rw [e1]; exact hy
  have t2 : toZ es ⟨f.id, hb⟩ = z := by unfold toZ fromZ twinH; rw [e2]; exact hz
  rw [f1, f2] at hf
  subst hf
  unfold farP
  rw [f1, t1, t2]
  intro h0
  have hV := H.verts
  have n1 : rpt vs y ≠ rpt vs x := rpt_ne hV (fun q => hxy q.symm) hys hxs
  have n2 : rpt vs z ≠ rpt vs x := rpt_ne hV (fun q => hxz q.symm) hzs hxs
  by_cases hyz : y = z
  · subst hyz
    -- one pair of ends
    by_cases hef : e = f
    · subst hef
      cases gb <;> cases hb <;> simp at hne hx hx' hy <;> simp_all
    · have hp : ∀ e f : Eg, e ∈ es → f ∈ es → e.id < f.id → ((e.a == f.a && e.b == f.b) || (e.a == f.b && e.b == f.a)) = false := by
        intro e f he hf hlt
        have key : ∀ l : List Eg, (l.Pairwise fun e f => e.id < f.id ∧ ((e.a == f.a && e.b == f.b) || (e.a == f.b && e.b == f.a)) = false) → e ∈ l → f ∈ l → ((e.a == f.a && e.b == f.b) || (e.a == f.b && e.b == f.a)) = false := by
          intro l hl
          induction hl with
          | nil => intro h; cases h
          | cons h1 h2 ih =>
            rename_i a l
            intro ha hb
            rcases List.mem_cons.1 ha with rfl | ha
            · rcases List.mem_cons.1 hb with rfl | hb
              · omega
              · exact (h1 f hb).2
            · rcases List.mem_cons.1 hb with rfl | hb
              · have := (h1 _ ‹_›).1; omega
              · exact ih ha hb
        exact key es (H.two.imp fun h => ⟨h.1, h.2.1⟩) he hf
      have hidne : e.id ≠ f.id := fun q => hef (by rw [← e1, ← e2, q])
      have hsame : ((e.a == f.a && e.b == f.b) || (e.a == f.b && e.b == f.a)) = true ∧ ((f.a == e.a && f.b == e.b) || (f.a == e.b && f.b == e.a)) = true := by
        cases gb <;> cases hb <;> simp at hx hx' hy hz <;> simp_all
      rcases Int.lt_or_gt_of_ne hidne with hlt | hlt
      · have := hp e f he hff hlt; rw [hsame.1] at this; cases this
      · have := hp f e hff he hlt; rw [hsame.2] at this; cases this
  · have n3 : rpt vs y ≠ rpt vs z := rpt_ne hV hyz hys hzs
    have onway : ∀ p q : Int, (vs.find? fun v => v.id == p).isSome = true → onWayR vs (rpt vs x) (rpt vs q) = false → rpt vs p ≠ rpt vs x → rpt vs p ≠ rpt vs q → ¬ WithinP (rpt vs p) (rpt vs x) (rpt vs q) := by
      intro p q hps hw h1 h2 hin
      obtain ⟨v, hv⟩ := Option.isSome_iff_exists.1 hps
      have hvm := List.mem_of_find?_eq_some hv
      have hvp : rpt vs p = v.p := by unfold rpt; rw [hv]; rfl
      unfold onWayR at hw
      have := List.any_eq_false.1 hw v hvm
      apply this
      rw [← hvp]
      unfold onR withinB
      simp [hin, h1, h2]
    rcases one_way n1 n2 h0 with hw | hw
    · exact onway y z hys hway' n1 n3 hw
    · exact onway z y hzs hway n2 (fun q => n3 q.symm) hw
end Go.Proofs.Ytlhmjhildlnokaa
