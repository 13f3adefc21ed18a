/-
  The plain law of rings: what a function that is one to one on a list makes, gone along from each in turn. No walk stands here.
-/
import Derived.Test.YtlhmjhildlnokaaSpinM
namespace Go.Proofs.Ytlhmjhildlnokaa
set_option linter.unusedVariables false
set_option linter.unusedSimpArgs false

/-- Gone along from h, till one comes again. -/
def ringF (nx : Hf → Hf) : Nat → List Hf → Hf → List Hf
  | 0, r, _ => r
  | n + 1, r, h => if h ∈ r then r else ringF nx n (r ++ [h]) (nx h)
def ringsL (nx : Hf → Hf) (S : List Hf) (hs : List Hf) (rs : List (List Hf)) : List (List Hf) :=
  hs.foldl (fun rs h => if h ∈ rs.flatten then rs else rs ++ [ringF nx S.length [] h]) rs
def ringsZ (vs : List Vt) (es : List Eg) : List (List Hf) := ringsL (nextZ vs es) (halves es) (halves es) []
/-- A function that is one to one on a list. -/
structure OneOne (nx : Hf → Hf) (S : List Hf) : Prop where
  nodup : S.Nodup
  mem : ∀ h ∈ S, nx h ∈ S
  inj : ∀ g ∈ S, ∀ h ∈ S, nx g = nx h → g = h
theorem next_one {vs : List Vt} {es : List Eg} (H : RightP vs es) : OneOne (nextZ vs es) (halves es) := ⟨halves_nodup H.ids, fun h hh => (next_mem H hh).1, fun g hg h hh e => next_inj H hg hh e⟩
variable {nx : Hf → Hf} {S : List Hf}
/-- A way that has been gone: from h0, each behind the one ahead; h comes next. -/
structure Way (nx : Hf → Hf) (S : List Hf) (h0 : Hf) (r : List Hf) (h : Hf) : Prop where
  sub : ∀ x ∈ r, x ∈ S
  nodup : r.Nodup
  head : r = [] ∧ h = h0 ∨ r[0]? = some h0
  next : ∀ k x y, r[k]? = some x → r[k + 1]? = some y → y = nx x
  last : ∀ x, r.getLast? = some x → h = nx x
  now : h ∈ S
theorem way_start {h0 : Hf} (h : h0 ∈ S) : Way nx S h0 [] h0 := ⟨by simp, .nil, .inl ⟨rfl, rfl⟩, by simp, by simp, h⟩
theorem way_step (O : OneOne nx S) {h0 h : Hf} {r : List Hf} (W : Way nx S h0 r h) (hn : h ∉ r) : Way nx S h0 (r ++ [h]) (nx h) := by
  refine ⟨fun x hx => ?_, ?_, ?_, fun k x y hx hy => ?_, fun x hx => ?_, O.mem _ W.now⟩
  · rcases List.mem_append.1 hx with hx | hx
    · exact W.sub x hx
    · rw [List.mem_singleton.1 hx]; exact W.now
  · rw [List.nodup_append]
    exact ⟨W.nodup, by simp, fun a ha b hb => by rw [List.mem_singleton.1 hb]; rintro rfl; exact hn ha⟩
  · rcases W.head with ⟨rfl, rfl⟩ | h1
    · exact .inr (by simp)
    · exact .inr (by rw [List.getElem?_append_left (List.getElem?_eq_some_iff.1 h1).1]; exact h1)
  · have hk : k + 1 < (r ++ [h]).length := (List.getElem?_eq_some_iff.1 hy).1
    rw [List.length_append] at hk
    simp only [List.length_cons, List.length_nil] at hk
    rw [List.getElem?_append_left (by omega)] at hx
    by_cases hk2 : k + 1 < r.length
    · rw [List.getElem?_append_left hk2] at hy
      exact W.next k x y hx hy
    · have he : k + 1 = r.length := by omega
      rw [List.getElem?_append_right (by omega), he] at hy
      have hy : h = y := by simpa using hy
      have hl : r.getLast? = some x := by rw [List.getLast?_eq_getElem?, show r.length - 1 = k by omega]; exact hx
      rw [← hy]
      exact W.last x hl
  · have : h = x := by simpa using hx
    rw [this]
theorem nodup_len {r S : List Hf} (hn : r.Nodup) (hs : ∀ x ∈ r, x ∈ S) : r.length ≤ S.length := by
  induction r generalizing S with
  | nil => simp
  | cons a r ih =>
    have ha : a ∈ S := hs a (by simp)
    have hn := List.nodup_cons.1 hn
    have := ih (S := S.erase a) hn.2 fun x hx => (List.mem_erase_of_ne (by rintro rfl; exact hn.1 hx)).2 (hs x (by simp [hx]))
    rw [List.length_erase_of_mem ha] at this
    have h0 : 0 < S.length := List.length_pos_of_mem ha
    simp only [List.length_cons]; omega
theorem nodup_full {r S : List Hf} (hn : r.Nodup) (hs : ∀ x ∈ r, x ∈ S) (hl : S.length ≤ r.length) : ∀ x ∈ S, x ∈ r := by
  intro x hx
  refine Decidable.byContradiction fun hr => ?_
  have := nodup_len (r := x :: r) (S := S) (List.nodup_cons.2 ⟨hr, hn⟩) (fun y hy => by
    rcases List.mem_cons.1 hy with rfl | hy
    · exact hx
    · exact hs y hy)
  simp only [List.length_cons] at this; omega
/-- A ring: it is closed. -/
structure RingP (nx : Hf → Hf) (S : List Hf) (h0 : Hf) (r : List Hf) : Prop where
  sub : ∀ x ∈ r, x ∈ S
  nodup : r.Nodup
  head : r[0]? = some h0
  next : ∀ k x, r[k]? = some x → r[(k + 1) % r.length]? = some (nx x)
theorem way_end (O : OneOne nx S) {h0 h : Hf} {r : List Hf} (W : Way nx S h0 r h) (hr : h ∈ r) : RingP nx S h0 r := by
  have h0r : r[0]? = some h0 := by
    rcases W.head with ⟨rfl, rfl⟩ | h
    · cases hr
    · exact h
  have hl : 0 < r.length := List.length_pos_of_mem hr
  have hlast : r[r.length - 1]? = some r[r.length - 1] := List.getElem?_eq_getElem (by omega)
  have hh : h = nx r[r.length - 1] := W.last _ (by rw [List.getLast?_eq_getElem?]; exact hlast)
  have hh0 : h = h0 := by
    obtain ⟨j, hj⟩ := List.getElem?_of_mem hr
    cases j with
    | zero => rw [h0r] at hj; injection hj with hj; exact hj.symm
    | succ j =>
      exfalso
      have hj1 := (List.getElem?_eq_some_iff.1 hj).1
      have hj0 : r[j]? = some r[j] := List.getElem?_eq_getElem (by omega)
      have := W.next j _ _ hj0 hj
      have e := O.inj _ (W.sub _ (List.getElem_mem (h := by omega))) _ (W.sub _ (List.getElem_mem (h := by omega))) (this.symm.trans hh)
      have := (List.getElem_inj (h₀ := by omega) (h₁ := by omega) W.nodup).1 e
      omega
  refine ⟨W.sub, W.nodup, h0r, fun k x hx => ?_⟩
  have hk := (List.getElem?_eq_some_iff.1 hx).1
  by_cases he : k + 1 < r.length
  · rw [Nat.mod_eq_of_lt he]
    have h1 : r[k + 1]? = some r[k + 1] := List.getElem?_eq_getElem he
    rw [h1, W.next k x _ hx h1]
  · have : k + 1 = r.length := by omega
    rw [this, Nat.mod_self, h0r, ← hh0]
    refine congrArg some (W.last x ?_)
    rw [List.getLast?_eq_getElem?, show r.length - 1 = k by omega]; exact hx
theorem ringF_end (O : OneOne nx S) {h0 : Hf} : ∀ (n : Nat) (r : List Hf) (h : Hf), Way nx S h0 r h → S.length ≤ r.length + n → RingP nx S h0 (ringF nx n r h)
  | 0, r, h, W, hn => way_end O W (nodup_full W.nodup W.sub (by omega) h W.now)
  | n + 1, r, h, W, hn => by
    unfold ringF
    split
    · rename_i hr; exact way_end O W hr
    · rename_i hr; exact ringF_end O n _ _ (way_step O W hr) (by rw [List.length_append]; simp; omega)
theorem ring_of (O : OneOne nx S) {h : Hf} (hh : h ∈ S) : RingP nx S h (ringF nx S.length [] h) := ringF_end O _ _ _ (way_start hh) (by simp)
/-- What stands in a ring: each that follows, and each that is followed. -/
theorem RingP.mem_iff (O : OneOne nx S) {h0 : Hf} {r : List Hf} (R : RingP nx S h0 r) {x : Hf} (hx : x ∈ S) : nx x ∈ r ↔ x ∈ r := by
  have hl : 0 < r.length := by have := R.head; have := (List.getElem?_eq_some_iff.1 this).1; exact this
  constructor
  · intro h
    obtain ⟨j, hj⟩ := List.getElem?_of_mem h
    have hjl := (List.getElem?_eq_some_iff.1 hj).1
    -- the one ahead
    obtain ⟨i, hi, hij⟩ : ∃ i, i < r.length ∧ (i + 1) % r.length = j := by
      cases j with
      | zero => exact ⟨r.length - 1, by omega, by rw [show r.length - 1 + 1 = r.length by omega, Nat.mod_self]⟩
      | succ j => exact ⟨j, by omega, Nat.mod_eq_of_lt hjl⟩
    have h1 := R.next i _ (List.getElem?_eq_getElem hi)
    rw [hij, hj] at h1
    injection h1 with h1
    have := O.inj _ hx _ (R.sub _ (List.getElem_mem hi)) h1
    rw [this]; exact List.getElem_mem hi
  · intro h
    obtain ⟨j, hj⟩ := List.getElem?_of_mem h
    exact List.mem_of_getElem? (R.next j _ hj)
/-- The rings so far: each closed, apart; the halves up to here are in them; each begins with its least. -/
structure RingsP (nx : Hf → Hf) (S hs : List Hf) (rs : List (List Hf)) : Prop where
  each : ∀ r ∈ rs, ∃ h, RingP nx S h r
  nodup : rs.flatten.Nodup
  all : ∀ h ∈ hs, h ∈ rs.flatten
  heads : ∀ r ∈ rs, ∀ h, r[0]? = some h → h ∈ hs
theorem RingsP.back (O : OneOne nx S) {hs : List Hf} {rs : List (List Hf)} (R : RingsP nx S hs rs) {x : Hf} (hx : x ∈ S) : nx x ∈ rs.flatten ↔ x ∈ rs.flatten := by
  simp only [List.mem_flatten]
  constructor
  · rintro ⟨r, hr, h⟩; obtain ⟨h0, P⟩ := R.each r hr; exact ⟨r, hr, (P.mem_iff O hx).1 h⟩
  · rintro ⟨r, hr, h⟩; obtain ⟨h0, P⟩ := R.each r hr; exact ⟨r, hr, (P.mem_iff O hx).2 h⟩
/-- A way from one that stands in no ring meets none. -/
theorem way_apart (O : OneOne nx S) {hs : List Hf} {rs : List (List Hf)} (R : RingsP nx S hs rs) {h0 h : Hf} {r : List Hf} (W : Way nx S h0 r h) (hn : h0 ∉ rs.flatten) : (∀ x ∈ r, x ∉ rs.flatten) ∧ h ∉ rs.flatten := by
  have key : ∀ (k : Nat) (x : Hf), r[k]? = some x → x ∉ rs.flatten := by
    intro k
    induction k with
    | zero =>
      intro x hx
      rcases W.head with ⟨rfl, _⟩ | h
      · simp at hx
      · rw [h] at hx; injection hx with hx; rw [← hx]; exact hn
    | succ k ih =>
      intro x hx
      have hk := (List.getElem?_eq_some_iff.1 hx).1
      have h1 : r[k]? = some r[k] := List.getElem?_eq_getElem (by omega)
      rw [W.next k _ _ h1 hx, R.back O (W.sub _ (List.getElem_mem (h := by omega)))]
      exact ih _ h1
  refine ⟨fun x hx => ?_, ?_⟩
  · obtain ⟨k, hk⟩ := List.getElem?_of_mem hx
    exact key k x hk
  · rcases W.head with ⟨rfl, rfl⟩ | h1
    · exact hn
    · have hl : 0 < r.length := (List.getElem?_eq_some_iff.1 h1).1
      have h2 : r[r.length - 1]? = some r[r.length - 1] := List.getElem?_eq_getElem (by omega)
      rw [W.last _ (by rw [List.getLast?_eq_getElem?]; exact h2), R.back O (W.sub _ (List.getElem_mem (h := by omega)))]
      exact key _ _ h2
theorem ring_apart (O : OneOne nx S) {hs : List Hf} {rs : List (List Hf)} (R : RingsP nx S hs rs) {h0 : Hf} {r : List Hf} (P : RingP nx S h0 r) (hn : h0 ∉ rs.flatten) : ∀ x ∈ r, x ∉ rs.flatten := by
  have key : ∀ (k : Nat) (x : Hf), r[k]? = some x → x ∉ rs.flatten := by
    intro k
    induction k with
    | zero => intro x hx; rw [P.head] at hx; injection hx with hx; rw [← hx]; exact hn
    | succ k ih =>
      intro x hx
      have hk := (List.getElem?_eq_some_iff.1 hx).1
      have h1 : r[k]? = some r[k] := List.getElem?_eq_getElem (by omega)
      have h2 := P.next k _ h1
      rw [Nat.mod_eq_of_lt hk, hx] at h2
      injection h2 with h2
      rw [h2, R.back O (P.sub _ (List.getElem_mem (h := by omega)))]
      exact ih _ h1
  intro x hx
  obtain ⟨k, hk⟩ := List.getElem?_of_mem hx
  exact key k x hk
theorem ringsL_step (hs : List Hf) (h : Hf) (rs : List (List Hf)) : ringsL nx S (hs ++ [h]) rs = if h ∈ (ringsL nx S hs rs).flatten then ringsL nx S hs rs else ringsL nx S hs rs ++ [ringF nx S.length [] h] := by
  unfold ringsL; rw [List.foldl_append]; rfl
theorem rings_of (O : OneOne nx S) (hs : List Hf) (hh : ∀ h ∈ hs, h ∈ S) : RingsP nx S hs (ringsL nx S hs []) := by
  obtain ⟨n, hn⟩ : ∃ n, hs.length = n := ⟨_, rfl⟩
  induction n generalizing hs with
  | zero =>
    obtain rfl := List.eq_nil_of_length_eq_zero hn
    exact ⟨by simp [ringsL], by simp [ringsL], by simp, by simp [ringsL]⟩
  | succ n ih =>
    rcases List.eq_nil_or_concat hs with rfl | ⟨hs, h, rfl⟩
    · simp at hn
    rw [List.concat_eq_append] at hh hn ⊢
    have R := ih hs (fun x hx => hh x (by simp [hx])) (by simpa using hn)
    rw [ringsL_step]
    split
    · rename_i hm
      exact ⟨R.each, R.nodup, fun x hx => by
        rcases List.mem_append.1 hx with hx | hx
        · exact R.all x hx
        · rw [List.mem_singleton.1 hx]; exact hm, fun r hr x hx => by simp [R.heads r hr x hx]⟩
    · rename_i hm
      have P := ring_of O (hh h (by simp))
      have ha := ring_apart O R P hm
      refine ⟨fun r hr => ?_, ?_, fun x hx => ?_, fun r hr x hx => ?_⟩
      · rcases List.mem_append.1 hr with hr | hr
        · exact R.each r hr
        · rw [List.mem_singleton.1 hr]; exact ⟨h, P⟩
      · rw [List.flatten_append, List.nodup_append]
        refine ⟨R.nodup, by simpa using P.nodup, fun a ha1 b hb => ?_⟩
        rintro rfl
        exact ha a (by simpa using hb) ha1
      · rw [List.flatten_append]
        rcases List.mem_append.1 hx with hx | hx
        · exact List.mem_append_left _ (R.all x hx)
        · rw [List.mem_singleton.1 hx]
          exact List.mem_append_right _ (by simpa using List.mem_of_getElem? P.head)
      · rcases List.mem_append.1 hr with hr | hr
        · simp [R.heads r hr x hx]
        · rw [List.mem_singleton.1 hr, P.head] at hx
          injection hx with hx
          simp [hx]
end Go.Proofs.Ytlhmjhildlnokaa
