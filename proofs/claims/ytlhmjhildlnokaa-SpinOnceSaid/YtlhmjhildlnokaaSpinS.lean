/-
  The plain law of rings, on: each begins with its least, and they stand in the order of these; each half stands in one. No walk stands here.
-/
import Derived.Test.YtlhmjhildlnokaaSpinR
namespace Go.Proofs.Ytlhmjhildlnokaa
set_option linter.unusedVariables false
set_option linter.unusedSimpArgs false

def lessQ (a b : Hf) : Bool := decide (a.e < b.e) || ((a.e == b.e) && (!a.b && b.b))
theorem lessQ_irr (a : Hf) : lessQ a a = false := by
  unfold lessQ; cases a.b <;> simp
theorem lessQ_asym {a b : Hf} (h : lessQ a b = true) : lessQ b a = false := by
  unfold lessQ at *
  simp only [Bool.or_eq_true, decide_eq_true_eq, Bool.and_eq_true, beq_iff_eq, Bool.not_eq_true', Bool.or_eq_false_iff, decide_eq_false_iff_not, Bool.and_eq_false_iff] at *
  rcases h with h | ⟨h1, h2, h3⟩
  · refine ⟨by omega, .inl ?_⟩
    simp; omega
  · refine ⟨by omega, .inr (.inl ?_)⟩
    simp [h3]
theorem halves_sorted : ∀ {es : List Eg}, (es.Pairwise fun e f => e.id < f.id) → (halves es).Pairwise fun a b => lessQ a b = true
  | [], _ => .nil
  | e :: es, h => by
    have hp := List.pairwise_cons.1 h
    have ih := halves_sorted hp.2
    have hb : ∀ b, ∀ x ∈ halves es, lessQ ⟨e.id, b⟩ x = true := fun b x hx => by
      obtain ⟨f, hf, hfe⟩ := mem_halves.1 hx
      have := hp.1 f hf
      unfold lessQ
      simp only [Bool.or_eq_true, decide_eq_true_eq]
      left; omega
    have : halves (e :: es) = ⟨e.id, false⟩ :: ⟨e.id, true⟩ :: halves es := by simp [halves]
    rw [this]
    refine .cons (fun x hx => ?_) (.cons (hb true) ih)
    rcases List.mem_cons.1 hx with rfl | hx
    · simp [lessQ]
    · exact hb false x hx
variable {nx : Hf → Hf} {S : List Hf}
/-- The least stands first. -/
structure RingsO (hs : List Hf) (rs : List (List Hf)) : Prop where
  least : ∀ r ∈ rs, ∀ h, r[0]? = some h → ∀ x ∈ r, lessQ x h = false
  rise : rs.Pairwise fun r q => ∀ h g, r[0]? = some h → q[0]? = some g → lessQ h g = true
theorem ringsO_of (O : OneOne nx S) (hS : S.Pairwise fun a b => lessQ a b = true) (hs : List Hf) (ts : List Hf) (hh : S = hs ++ ts) : RingsO hs (ringsL nx S hs []) := by
  obtain ⟨n, hn⟩ : ∃ n, hs.length = n := ⟨_, rfl⟩
  induction n generalizing hs ts with
  | zero =>
    obtain rfl := List.eq_nil_of_length_eq_zero hn
    exact ⟨by simp [ringsL], by simp [ringsL]⟩
  | succ n ih =>
    rcases List.eq_nil_or_concat hs with rfl | ⟨hs, h, rfl⟩
    · simp at hn
    rw [List.concat_eq_append] at hh hn ⊢
    have hh2 : S = hs ++ (h :: ts) := by rw [hh]; simp
    have R := ih hs (h :: ts) hh2 (by simpa using hn)
    have hm : ∀ x ∈ hs, x ∈ S := fun x hx => by rw [hh2]; simp [hx]
    have hhS : h ∈ S := by rw [hh2]; simp
    have P := rings_of O hs hm
    rw [ringsL_step]
    split
    · exact ⟨R.least, R.rise⟩
    · rename_i hno
      have Q := ring_of O hhS
      have ha := ring_apart O P Q hno
      have hp : (hs ++ (h :: ts)).Pairwise fun a b => lessQ a b = true := by rw [← hh2]; exact hS
      have hp2 := List.pairwise_append.1 hp
      have hhd : ∀ g, (ringF nx S.length [] h)[0]? = some g → g = h := fun g hg => by rw [Q.head] at hg; injection hg with hg; exact hg.symm
      refine ⟨fun r hr g hg x hx => ?_, ?_⟩
      · rcases List.mem_append.1 hr with hr | hr
        · exact R.least r hr g hg x hx
        · obtain rfl := List.mem_singleton.1 hr
          rw [hhd g hg]
          have hxS := Q.sub x hx
          rw [hh2] at hxS
          rcases List.mem_append.1 hxS with hx1 | hx1
          · exact absurd (P.all x hx1) (ha x hx)
          · rcases List.mem_cons.1 hx1 with rfl | hx1
            · exact lessQ_irr _
            · exact lessQ_asym ((List.pairwise_cons.1 hp2.2.1).1 x hx1)
      · rw [List.pairwise_append]
        refine ⟨R.rise, .cons (by simp) .nil, fun r hr q hq g k hg hk => ?_⟩
        obtain rfl := List.mem_singleton.1 hq
        rw [hhd k hk]
        exact hp2.2.2 g (P.heads r hr g hg) h (by simp)
theorem perm_len {l m : List Hf} (hl : l.Nodup) (hm : m.Nodup) (h1 : ∀ x ∈ l, x ∈ m) (h2 : ∀ x ∈ m, x ∈ l) : l.length = m.length := Nat.le_antisymm (nodup_len hl h1) (nodup_len hm h2)
theorem rings_total {vs : List Vt} {es : List Eg} (H : RightP vs es) : (ringsZ vs es).flatten.length = 2 * es.length := by
  have P := rings_of (next_one H) (halves es) fun _ h => h
  have : (ringsZ vs es).flatten.length = (halves es).length := perm_len P.nodup (halves_nodup H.ids) (fun x hx => by
    obtain ⟨r, hr, hx⟩ := List.mem_flatten.1 hx
    obtain ⟨h, Q⟩ := P.each r hr
    exact Q.sub x hx) P.all
  rw [this]
  unfold halves
  have : ∀ l : List Eg, (l.flatMap fun e => ([⟨e.id, false⟩, ⟨e.id, true⟩] : List Hf)).length = 2 * l.length := fun l => by
    induction l with
    | nil => rfl
    | cons a l ih => rw [List.flatMap_cons, List.length_append, ih]; simp; omega
  exact this es
end Go.Proofs.Ytlhmjhildlnokaa
