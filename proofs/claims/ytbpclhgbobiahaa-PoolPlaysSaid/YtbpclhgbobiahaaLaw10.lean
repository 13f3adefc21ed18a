/-
  Each call of a pool, by the program and by the document.
-/
import Derived.Test.YtbpclhgbobiahaaPool9
namespace Go.Proofs.Ytbpclhgbobiahaa
set_option linter.unusedVariables false
set_option linter.unusedSimpArgs false
open Go.RowKit

section
variable {rf R1 R2 : List Rf} {g : Rf} {no : Int} {s : ByteArray} {j : Nat} {room : Int}
/-- What is so behind j calls. -/
structure GoodR (j : Nat) (rf : List Rf) : Prop where
  len : rf.length ≤ j
  pins : ∀ g ∈ rf, 0 ≤ g.p ∧ g.p ≤ j
  nodup : (rf.map (·.no)).Nodup
theorem GoodR.more (h : GoodR j rf) : GoodR (j + 1) rf := ⟨by have := h.len; omega, fun g hg => by have := h.pins g hg; omega, h.nodup⟩
theorem no_cases (rf : List Rf) (no : Int) : no ∉ rf.map (·.no) ∨ ∃ R1 g R2, rf = R1 ++ g :: R2 ∧ g.no = no := by
  by_cases h : no ∈ rf.map (·.no)
  · obtain ⟨g, hg, he⟩ := List.mem_map.1 h
    obtain ⟨R1, R2, rfl⟩ := List.append_of_mem hg
    exact .inr ⟨R1, g, R2, rfl, he⟩
  · exact .inl h
theorem nodup_ahead (h : ((R1 ++ g :: R2).map (·.no)).Nodup) : g.no ∉ R1.map (·.no) := by
  simp only [List.map_append, List.map_cons, List.nodup_append] at h
  exact fun hm => h.2.2 _ hm _ (by simp) rfl
theorem nodup_less (h : ((R1 ++ g :: R2).map (·.no)).Nodup) : ((R1 ++ R2).map (·.no)).Nodup := by
  refine h.sublist ?_
  exact List.Sublist.map _ (List.Sublist.append_left (List.sublist_cons_self _ _) _)
theorem nodup_gone (h : ((R1 ++ g :: R2).map (·.no)).Nodup) : g.no ∉ (R1 ++ R2).map (·.no) := by
  simp only [List.map_append, List.map_cons, List.nodup_append, List.nodup_cons] at h
  intro hm
  simp only [List.map_append, List.mem_append] at hm
  rcases hm with hm | hm
  · exact h.2.2 _ hm _ (by simp) rfl
  · exact h.2.1.1 hm
theorem nodup_push (h : (R1.map (·.no)).Nodup) (hn : g.no ∉ R1.map (·.no)) : ((R1 ++ [g]).map (·.no)).Nodup := by
  simp only [List.map_append, List.map_cons, List.map_nil]
  exact List.nodup_append.2 ⟨h, by simp, fun a ha b hb => by obtain rfl := List.mem_singleton.1 hb; exact fun e => hn (e ▸ ha)⟩
theorem mid_at : (R1 ++ g :: R2)[R1.length]? = some g := by simp
theorem mid_erase : (R1 ++ g :: R2).eraseIdx R1.length = R1 ++ R2 := by rw [List.eraseIdx_append_of_length_le (Nat.le_refl _)]; simp
theorem mid_set (g' : Rf) : (R1 ++ g :: R2).set R1.length g' = R1 ++ g' :: R2 := by rw [List.set_append_right _ _ (Nat.le_refl _)]; simp
theorem GoodR.move (h : GoodR j (R1 ++ g :: R2)) (g' : Rf) (hn : g'.no = g.no) (hp : g'.p = g.p) : GoodR (j + 1) (R1 ++ R2 ++ [g']) := by
  refine ⟨?_, fun a ha => ?_, nodup_push (nodup_less h.nodup) (by rw [hn]; exact nodup_gone h.nodup)⟩
  · have := h.len; simp at *; omega
  · simp only [List.mem_append, List.mem_singleton] at ha
    have : a ∈ R1 ++ g :: R2 ∨ a = g' := by
      rcases ha with (ha | ha) | ha
      · exact .inl (by simp [ha])
      · exact .inl (by simp [ha])
      · exact .inr ha
    rcases this with ha | rfl
    · have := h.pins a ha; omega
    · have := h.pins g (by simp); omega
theorem GoodR.pin (h : GoodR j (R1 ++ g :: R2)) (p : Int) (h0 : 0 ≤ p) (h1 : p ≤ j + 1) : GoodR (j + 1) (R1 ++ { g with p := p } :: R2) := by
  refine ⟨by have := h.len; simp at *; omega, fun a ha => ?_, by have := h.nodup; simpa using this⟩
  simp only [List.mem_append, List.mem_cons] at ha
  rcases ha with ha | rfl | ha
  · have := h.pins a (by simp [ha]); omega
  · exact ⟨h0, by show p ≤ _; omega⟩
  · have := h.pins a (by simp [ha]); omega
theorem GoodR.push (h : GoodR j rf) (hn : g.no ∉ rf.map (·.no)) (hp : g.p = 0) : GoodR (j + 1) (rf ++ [g]) := by
  refine ⟨by have := h.len; simp; omega, fun a ha => ?_, nodup_push h.nodup hn⟩
  rcases List.mem_append.1 ha with ha | ha
  · have := h.pins a ha; omega
  · obtain rfl := List.mem_singleton.1 ha; omega
theorem GoodR.sub {rf' : List Rf} (h : GoodR j rf) (hs : rf'.Sublist rf) : GoodR j rf' := ⟨Nat.le_trans hs.length_le h.len, fun g hg => h.pins g (hs.subset hg), h.nodup.sublist (hs.map _)⟩
/-- What a call of the program's makes of rf. -/
def PC (fid : Nat) (args : List Value) (rf rf' : List Rf) (room : Int) (v : Value) : Prop :=
  ∀ {B : Nat} {w0 w : World} {l : List Res} {bp bm : Nat} {c : Int} {fs : List Fr}, PS c fs rf → c ≤ 1000000 → Own B w0 w (poolR bp bm room c fs :: l) → Calls Try.prog fid (.pointer (some ⟨bp, 0, none⟩) :: args).toArray w (PQ B w0 bp bm room c rf' l v)
/-- What a call of the document's makes of rf. -/
def RC (fid : Nat) (args : List Value) (rf rf' : List Rf) (room : Int) (v : Value) : Prop :=
  ∀ {B : Nat} {w0 w : World} {l : List Res} {bq n c : Nat} {A : Option Addr}, n = rf.length → Own B w0 w (rB bq room A n c :: rG A n c rf :: l) → Calls Try.prog fid (.pointer (some ⟨bq, 0, none⟩) :: args).toArray w (RQ B w0 bq room rf' l v)
theorem both_get (no : Int) (room : Int) (h : GoodR j rf) (hj : j ≤ 400) : ∃ rf' s ok, GoodR (j + 1) rf' ∧ PC 18 [.int .i64 no] rf rf' room (.tuple #[.string s, .bool ok]) ∧ RC 23 [.int .i64 no] rf rf' room (.tuple #[.string s, .bool ok]) := by
  have hlen := h.len
  rcases no_cases rf no with hn | ⟨R1, g, R2, rfl, rfl⟩
  · exact ⟨rf, _, _, h.more, fun hp hc H => p_get_none hp hn H, fun hn2 H => rget_none (fIdx_none hn) hn2 (by omega) H⟩
  · refine ⟨R1 ++ R2 ++ [g], _, _, h.move g rfl rfl, fun hp hc H => p_get_some hp hc H, fun hn2 H => ?_⟩
    have := rget_at mid_at (fIdx_mid (nodup_ahead h.nodup)) hn2 (by omega) H
    rw [mid_erase] at this
    exact this
theorem both_pin (no : Int) (room : Int) (h : GoodR j rf) (hj : j ≤ 400) : ∃ rf' ok, GoodR (j + 1) rf' ∧ PC 16 [.int .i64 no] rf rf' room (.bool ok) ∧ RC 26 [.int .i64 no, .int .i64 1] rf rf' room (.bool ok) := by
  have hlen := h.len
  rcases no_cases rf no with hn | ⟨R1, g, R2, rfl, rfl⟩
  · exact ⟨rf, _, h.more, fun hp hc H => p_pin_none hp hn H, fun hn2 H => rpin_none (fIdx_none hn) hn2 (by omega) H⟩
  · have hgp := h.pins g (by simp)
    refine ⟨R1 ++ { g with p := g.p + 1 } :: R2, _, h.pin _ (by omega) (by omega), fun hp hc H => p_pin_some hp hgp.1 (by omega) H, fun hn2 H => ?_⟩
    have := rpin_at (d := 1) mid_at (fIdx_mid (nodup_ahead h.nodup)) hn2 (by omega) (.inl rfl) hgp.1 (by omega) (.inl rfl) H
    rw [mid_set] at this
    exact this
theorem both_unpin (no : Int) (room : Int) (h : GoodR j rf) (hj : j ≤ 400) : ∃ rf' ok, GoodR (j + 1) rf' ∧ PC 20 [.int .i64 no] rf rf' room (.bool ok) ∧ RC 26 [.int .i64 no, .int .i64 (-1)] rf rf' room (.bool ok) := by
  have hlen := h.len
  rcases no_cases rf no with hn | ⟨R1, g, R2, rfl, rfl⟩
  · exact ⟨rf, _, h.more, fun hp hc H => p_unpin_none hp hn H, fun hn2 H => rpin_none (fIdx_none hn) hn2 (by omega) H⟩
  · have hgp := h.pins g (by simp)
    have key := fun {B : Nat} {w0 w : World} {l : List Res} {bp bm : Nat} {c : Int} {fs : List Fr} (hp : PS c fs (R1 ++ g :: R2)) (H : Own B w0 w (poolR bp bm room c fs :: l)) => p_unpin_some hp hgp.1 (by omega) H
    by_cases h0 : g.p = 0
    · have hb : (g.p == 0) = true := by simp [h0]
      simp only [hb, if_true, Bool.not_true] at key
      refine ⟨R1 ++ g :: R2, false, h.more, fun hp hc H => key hp H, fun hn2 H => rpin_zero mid_at (fIdx_mid (nodup_ahead h.nodup)) hn2 (by omega) h0 H⟩
    · have hb : (g.p == 0) = false := by simp [h0]
      simp only [hb, Bool.false_eq_true, if_false, Bool.not_false] at key
      refine ⟨R1 ++ { g with p := g.p - 1 } :: R2, true, h.pin _ (by omega) (by omega), fun hp hc H => key hp H, fun hn2 H => ?_⟩
      have := rpin_at (d := -1) mid_at (fIdx_mid (nodup_ahead h.nodup)) hn2 (by omega) (.inr rfl) hgp.1 (by omega) (.inr h0) H
      rw [mid_set] at this
      exact this
theorem both_clean (room : Int) (h : GoodR j rf) (hj : j ≤ 400) : ∃ rf', GoodR (j + 1) rf' ∧ PC 17 [] rf rf' room (.tuple #[]) ∧ RC 27 [] rf rf' room (.tuple #[]) := by
  have hlen := h.len
  refine ⟨rf.map Rf.clean, ⟨by simp; omega, fun g hg => ?_, by have := h.nodup; simpa [List.map_map, Function.comp_def] using this⟩, fun hp hc H => p_clean hp H, fun hn2 H => rclean_any hn2 (by omega) H⟩
  obtain ⟨a, ha, rfl⟩ := List.mem_map.1 hg
  have := h.pins a ha
  exact ⟨this.1, by show a.p ≤ _; omega⟩
theorem both_drop (room : Int) (h : GoodR j rf) (hj : j ≤ 400) : ∃ rf', GoodR (j + 1) rf' ∧ PC 21 [] rf rf' room (.tuple #[]) ∧ RC 28 [] rf rf' room (.tuple #[]) := by
  have hlen := h.len
  exact ⟨rf.filter (!·.d), (h.sub List.filter_sublist).more, fun hp hc H => p_drop hp (by omega) H, fun hn2 H => rdrop_any hn2 (by omega) H⟩
/-- The first that may go. -/
theorem free_cases (rf : List Rf) : (∀ g ∈ rf, freeB g.d g.p = false) ∨ ∃ R1 g R2, rf = R1 ++ g :: R2 ∧ freeB g.d g.p = true ∧ ∀ g ∈ R1, freeB g.d g.p = false := by
  induction rf with
  | nil => exact .inl (by simp)
  | cons a rf ih =>
    cases ha : freeB a.d a.p with
    | true => exact .inr ⟨[], a, rf, rfl, ha, by simp⟩
    | false =>
      rcases ih with h | ⟨R1, g, R2, rfl, h1, h2⟩
      · exact .inl fun g hg => by
          rcases List.mem_cons.1 hg with rfl | hg
          · exact ha
          · exact h g hg
      · exact .inr ⟨a :: R1, g, R2, rfl, h1, fun g hg => by
          rcases List.mem_cons.1 hg with rfl | hg
          · exact ha
          · exact h2 g hg⟩
theorem both_put (no : Int) (s : ByteArray) (h : GoodR j rf) (hj : j ≤ 400) (hr : 1 ≤ room) : ∃ rf' e, GoodR (j + 1) rf' ∧ PC 19 [.int .i64 no, .string s] rf rf' room (.int .i64 e) ∧ RC 24 [.int .i64 no, .string s] rf rf' room (.int .i64 e) := by
  have hlen := h.len
  rcases no_cases rf no with hn | ⟨R1, g, R2, rfl, rfl⟩
  · by_cases hroom : (rf.length : Int) < room
    · exact ⟨rf ++ [⟨no, s, false, 0⟩], _, h.push hn rfl, fun hp hc H => p_put_room s hp hn hroom hc H, fun hn2 H => rput_room s (fIdx_none hn) (by rw [hn2]; exact hroom) hn2 (by omega) H⟩
    · rcases free_cases rf with hf | ⟨R1, g, R2, rfl, h1, h2⟩
      · exact ⟨rf, _, h.more, fun hp hc H => p_put_full s hp hn (by omega) hf H, fun hn2 H => rput_full s (fIdx_none hn) (by omega) hr hf hn2 (by omega) H⟩
      · have hn3 : no ∉ (R1 ++ R2).map (·.no) := fun hm => hn (((List.Sublist.append_left (List.sublist_cons_self g R2) R1).map (·.no)).subset hm)
        have hs : (R1 ++ R2).Sublist (R1 ++ g :: R2) := List.Sublist.append_left (List.sublist_cons_self _ _) _
        refine ⟨R1 ++ R2 ++ [⟨no, s, false, 0⟩], _, (h.sub hs).push hn3 rfl, fun hp hc H => p_put_evict s hp hn (by omega) h1 h2 hc H, fun hn2 H => ?_⟩
        have := rput_evict s (fIdx_none hn) (by omega) mid_at (fstF_mid h1 h2) hn2 (by omega) H
        rw [mid_erase] at this
        exact this
  · exact ⟨R1 ++ g :: R2, _, h.more, fun hp hc H => p_put_there s hp H, fun hn2 H => rput_there s (by simp) (fIdx_mid (nodup_ahead h.nodup)) hn2 (by omega) H⟩
theorem both_set (no : Int) (s : ByteArray) (h : GoodR j rf) (hj : j ≤ 400) (hr : 1 ≤ room) : ∃ rf' e, GoodR (j + 1) rf' ∧ PC 15 [.int .i64 no, .string s] rf rf' room (.int .i64 e) ∧ RC 25 [.int .i64 no, .string s] rf rf' room (.int .i64 e) := by
  have hlen := h.len
  rcases no_cases rf no with hn | ⟨R1, g, R2, rfl, rfl⟩
  · by_cases hroom : (rf.length : Int) < room
    · exact ⟨rf ++ [⟨no, s, true, 0⟩], _, h.push hn rfl, fun hp hc H => p_set_room s hp hn hroom hc H, fun hn2 H => rset_yes s (fIdx_none hn) hn (by omega) (fun w H => rput_room s (fIdx_none hn) (by rw [hn2]; exact hroom) hn2 (by omega) H) hn2 (by omega) H⟩
    · rcases free_cases rf with hf | ⟨R1, g, R2, rfl, h1, h2⟩
      · exact ⟨rf, _, h.more, fun hp hc H => p_set_full s hp hn (by omega) hf H, fun hn2 H => rset_no s (fIdx_none hn) (fun w H => rput_full s (fIdx_none hn) (by omega) hr hf hn2 (by omega) H) hn2 (by omega) H⟩
      · have hn3 : no ∉ (R1 ++ R2).map (·.no) := fun hm => hn (((List.Sublist.append_left (List.sublist_cons_self g R2) R1).map (·.no)).subset hm)
        have hs : (R1 ++ R2).Sublist (R1 ++ g :: R2) := List.Sublist.append_left (List.sublist_cons_self _ _) _
        have hl2 := hs.length_le
        refine ⟨R1 ++ R2 ++ [⟨no, s, true, 0⟩], _, (h.sub hs).push hn3 rfl, fun hp hc H => p_set_evict s hp hn (by omega) h1 h2 hc H, fun hn2 H => ?_⟩
        refine rset_yes s (fIdx_none hn) hn3 (by omega) (fun w H => ?_) hn2 (by omega) H
        have := rput_evict s (fIdx_none hn) (by omega) mid_at (fstF_mid h1 h2) hn2 (by omega) H
        rw [mid_erase] at this
        exact this
  · refine ⟨R1 ++ R2 ++ [{ g with s := s, d := true }], _, h.move _ rfl rfl, fun hp hc H => p_set_some s hp hc H, fun hn2 H => ?_⟩
    have := rset_at s mid_at (fIdx_mid (nodup_ahead h.nodup)) hn2 (by omega) H
    rw [mid_erase] at this
    exact this
end
end Go.Proofs.Ytbpclhgbobiahaa
