/-
  What stays in a pool, call by call.
-/
import Derived.Test.YtbpclhgbobiahaaLaw10
namespace Go.Proofs.Ytbpclhgbobiahaa
set_option linter.unusedVariables false
set_option linter.unusedSimpArgs false
open Go.RowKit

section
variable {rf R1 R2 : List Rf} {g : Rf} {no n2 : Int} {s s2 : ByteArray} {q : Nat} {room : Int} {pin : Bool}
/-- The frame that stays is there. -/
structure KR (q : Nat) (room no : Int) (s : ByteArray) (pin : Bool) (rf : List Rf) : Prop where
  good : GoodR q rf
  len : (rf.length : Int) ≤ room
  there : ∃ g ∈ rf, g.no = no ∧ g.s = s ∧ (pin = true → g.d = false ∧ 1 ≤ g.p) ∧ (pin = false → g.d = true)
theorem not_free (h : (pin = true → g.d = false ∧ 1 ≤ g.p) ∧ (pin = false → g.d = true)) : freeB g.d g.p = false := by
  unfold freeB
  cases pin with
  | true =>
    have := (h.1 rfl).2
    have : (g.p == 0) = false := by simp; omega
    rw [this]; simp
  | false => rw [h.2 rfl]; rfl
theorem keep_get (n2 : Int) (h : KR q room no s pin rf) : ∃ rf' s' ok, KR (q + 1) room no s pin rf' ∧ PC 18 [.int .i64 n2] rf rf' room (.tuple #[.string s', .bool ok]) := by
  rcases no_cases rf n2 with hn | ⟨R1, g, R2, rfl, rfl⟩
  · exact ⟨rf, _, _, ⟨h.good.more, h.len, h.there⟩, fun hp hc H => p_get_none hp hn H⟩
  · refine ⟨R1 ++ R2 ++ [g], _, _, ⟨h.good.move g rfl rfl, by have := h.len; simp at *; omega, ?_⟩, fun hp hc H => p_get_some hp hc H⟩
    obtain ⟨a, ha, h1⟩ := h.there
    refine ⟨a, ?_, h1⟩
    simp only [List.mem_append, List.mem_cons] at ha ⊢
    rcases ha with ha | ha | ha
    · exact .inl (.inl ha)
    · exact .inr (.inl ha)
    · exact .inl (.inr ha)
/-- It is got. -/
theorem keep_got (h : KR q room no s pin rf) : ∃ rf', KR (q + 1) room no s pin rf' ∧ PC 18 [.int .i64 no] rf rf' room (.tuple #[.string s, .bool true]) := by
  obtain ⟨g, hg, rfl, rfl, h3⟩ := h.there
  obtain ⟨R1, R2, rfl⟩ := List.append_of_mem hg
  exact ⟨R1 ++ R2 ++ [g], ⟨h.good.move g rfl rfl, by have := h.len; simp at *; omega, ⟨g, by simp, rfl, rfl, h3⟩⟩, fun hp hc H => p_get_some hp hc H⟩
theorem mem_other {a : Rf} (ha : a ∈ R1 ++ g :: R2) (hne : a ≠ g) : a ∈ R1 ++ R2 := by
  simp only [List.mem_append, List.mem_cons] at ha ⊢
  rcases ha with ha | ha | ha
  · exact .inl ha
  · exact absurd ha hne
  · exact .inr ha
theorem keep_put (n2 : Int) (s2 : ByteArray) (h : KR q room no s pin rf) : ∃ rf' e, KR (q + 1) room no s pin rf' ∧ PC 19 [.int .i64 n2, .string s2] rf rf' room (.int .i64 e) := by
  obtain ⟨a, ha, h1⟩ := h.there
  rcases no_cases rf n2 with hn | ⟨R1, g, R2, rfl, rfl⟩
  · by_cases hroom : (rf.length : Int) < room
    · exact ⟨rf ++ [⟨n2, s2, false, 0⟩], _, ⟨h.good.push hn rfl, by simp; omega, a, by simp [ha], h1⟩, fun hp hc H => p_put_room s2 hp hn hroom hc H⟩
    · rcases free_cases rf with hf | ⟨R1, g, R2, rfl, h2, h3⟩
      · exact ⟨rf, _, ⟨h.good.more, h.len, h.there⟩, fun hp hc H => p_put_full s2 hp hn (by omega) hf H⟩
      · have hn3 : n2 ∉ (R1 ++ R2).map (·.no) := fun hm => hn (((List.Sublist.append_left (List.sublist_cons_self g R2) R1).map (·.no)).subset hm)
        have hs : (R1 ++ R2).Sublist (R1 ++ g :: R2) := List.Sublist.append_left (List.sublist_cons_self _ _) _
        refine ⟨R1 ++ R2 ++ [⟨n2, s2, false, 0⟩], _, ⟨(h.good.sub hs).push hn3 rfl, by have := h.len; simp at *; omega, a, ?_, h1⟩, fun hp hc H => p_put_evict s2 hp hn (by omega) h2 h3 hc H⟩
        refine List.mem_append_left _ (mem_other ha fun e => ?_)
        subst e
        rw [not_free h1.2.2] at h2; cases h2
  · exact ⟨R1 ++ g :: R2, _, ⟨h.good.more, h.len, h.there⟩, fun hp hc H => p_put_there s2 hp H⟩
theorem keep_set (n2 : Int) (s2 : ByteArray) (hne : n2 ≠ no) (h : KR q room no s pin rf) : ∃ rf' e, KR (q + 1) room no s pin rf' ∧ PC 15 [.int .i64 n2, .string s2] rf rf' room (.int .i64 e) := by
  obtain ⟨a, ha, h1⟩ := h.there
  rcases no_cases rf n2 with hn | ⟨R1, g, R2, rfl, rfl⟩
  · by_cases hroom : (rf.length : Int) < room
    · exact ⟨rf ++ [⟨n2, s2, true, 0⟩], _, ⟨h.good.push hn rfl, by simp; omega, a, by simp [ha], h1⟩, fun hp hc H => p_set_room s2 hp hn hroom hc H⟩
    · rcases free_cases rf with hf | ⟨R1, g, R2, rfl, h2, h3⟩
      · exact ⟨rf, _, ⟨h.good.more, h.len, h.there⟩, fun hp hc H => p_set_full s2 hp hn (by omega) hf H⟩
      · have hn3 : n2 ∉ (R1 ++ R2).map (·.no) := fun hm => hn (((List.Sublist.append_left (List.sublist_cons_self g R2) R1).map (·.no)).subset hm)
        have hs : (R1 ++ R2).Sublist (R1 ++ g :: R2) := List.Sublist.append_left (List.sublist_cons_self _ _) _
        refine ⟨R1 ++ R2 ++ [⟨n2, s2, true, 0⟩], _, ⟨(h.good.sub hs).push hn3 rfl, by have := h.len; simp at *; omega, a, ?_, h1⟩, fun hp hc H => p_set_evict s2 hp hn (by omega) h2 h3 hc H⟩
        refine List.mem_append_left _ (mem_other ha fun e => ?_)
        subst e
        rw [not_free h1.2.2] at h2; cases h2
  · refine ⟨R1 ++ R2 ++ [{ g with s := s2, d := true }], _, ⟨h.good.move _ rfl rfl, by have := h.len; simp at *; omega, a, ?_, h1⟩, fun hp hc H => p_set_some s2 hp hc H⟩
    refine List.mem_append_left _ (mem_other ha fun e => ?_)
    subst e
    exact hne h1.1
theorem keep_pin (n2 : Int) (hq : q ≤ 900000) (h : KR q room no s pin rf) : ∃ rf' ok, KR (q + 1) room no s pin rf' ∧ PC 16 [.int .i64 n2] rf rf' room (.bool ok) := by
  rcases no_cases rf n2 with hn | ⟨R1, g, R2, rfl, rfl⟩
  · exact ⟨rf, _, ⟨h.good.more, h.len, h.there⟩, fun hp hc H => p_pin_none hp hn H⟩
  · have hgp := h.good.pins g (by simp)
    refine ⟨R1 ++ { g with p := g.p + 1 } :: R2, _, ⟨h.good.pin _ (by omega) (by omega), by have := h.len; simp at *; omega, ?_⟩, fun hp hc H => p_pin_some hp hgp.1 (by omega) H⟩
    obtain ⟨a, ha, h1⟩ := h.there
    by_cases e : a = g
    · subst e
      exact ⟨{ a with p := a.p + 1 }, by simp, h1.1, h1.2.1, fun hp => ⟨(h1.2.2.1 hp).1, by have := (h1.2.2.1 hp).2; show 1 ≤ a.p + 1; omega⟩, h1.2.2.2⟩
    · refine ⟨a, ?_, h1⟩
      have := mem_other ha e
      simp only [List.mem_append, List.mem_cons] at this ⊢
      rcases this with h | h
      · exact .inl h
      · exact .inr (.inr h)
theorem keep_unpin (n2 : Int) (hne : n2 ≠ no) (hq : q ≤ 900000) (h : KR q room no s pin rf) : ∃ rf' ok, KR (q + 1) room no s pin rf' ∧ PC 20 [.int .i64 n2] rf rf' room (.bool ok) := by
  rcases no_cases rf n2 with hn | ⟨R1, g, R2, rfl, rfl⟩
  · exact ⟨rf, _, ⟨h.good.more, h.len, h.there⟩, fun hp hc H => p_unpin_none hp hn H⟩
  · have hgp := h.good.pins g (by simp)
    refine ⟨_, _, ⟨h.good.pin (if (g.p == 0) = true then g.p else g.p - 1) ?_ ?_, by have := h.len; simp at *; omega, ?_⟩, fun hp hc H => p_unpin_some hp hgp.1 (by omega) H⟩
    · split
      · omega
      · rename_i hz; simp at hz; omega
    · split <;> omega
    · obtain ⟨a, ha, h1⟩ := h.there
      have e : a ≠ g := fun e => hne (by rw [← e]; exact h1.1)
      refine ⟨a, ?_, h1⟩
      have := mem_other ha e
      simp only [List.mem_append, List.mem_cons] at this ⊢
      rcases this with h | h
      · exact .inl h
      · exact .inr (.inr h)
theorem keep_clean (h : KR q room no s true rf) : ∃ rf', KR (q + 1) room no s true rf' ∧ PC 17 [] rf rf' room (.tuple #[]) := by
  refine ⟨rf.map Rf.clean, ⟨⟨by have := h.good.len; simp; omega, fun g hg => ?_, by have := h.good.nodup; simpa [List.map_map, Function.comp_def] using this⟩, by have := h.len; simpa using this, ?_⟩, fun hp hc H => p_clean hp H⟩
  · obtain ⟨a, ha, rfl⟩ := List.mem_map.1 hg
    have := h.good.pins a ha
    exact ⟨this.1, by show a.p ≤ _; omega⟩
  · obtain ⟨a, ha, h1⟩ := h.there
    exact ⟨a.clean, List.mem_map.2 ⟨a, ha, rfl⟩, h1.1, h1.2.1, fun _ => ⟨rfl, (h1.2.2.1 rfl).2⟩, fun e => by cases e⟩
theorem keep_drop (hl : q ≤ 900000) (h : KR q room no s true rf) : ∃ rf', KR (q + 1) room no s true rf' ∧ PC 21 [] rf rf' room (.tuple #[]) := by
  have hlen := h.good.len
  refine ⟨rf.filter (!·.d), ⟨(h.good.sub List.filter_sublist).more, ?_, ?_⟩, fun hp hc H => p_drop hp (by omega) H⟩
  · have := List.length_filter_le (fun g : Rf => !g.d) rf
    have := h.len; omega
  · obtain ⟨a, ha, h1⟩ := h.there
    exact ⟨a, List.mem_filter.2 ⟨ha, by simp [(h1.2.2.1 rfl).1]⟩, h1⟩
end
end Go.Proofs.Ytbpclhgbobiahaa
