/-
  The walks of the document's layer 3: a number's digits from its words.
-/
import Derived.Test.YtdgpdafkngoegaaRef03b
import Derived.Test.YtdgpdafkngoegaaOwn6
import Derived.Test.YtdgpdafkngoegaaWide16
namespace Go.Proofs.Ytdgpdafkngoegaa
set_option linter.unusedVariables false
set_option linter.unusedSimpArgs false
open Go.RowKit

/-- The four words of a number, as natural numbers. -/
theorem iV_wl (x : Int) (hx : R256 x) : ∃ ws : List Nat, ws.length = 4 ∧ WB ws ∧ iV x = .agg (wl ws).toArray ∧ decide (9223372036854775808 ≤ ws.getD 3 0) = decide (x < 0) ∧ (vB wB ws : Int) = if x < 0 then x + 115792089237316195423570985008687907853269984665640564039457584007913129639936 else x := by
  obtain ⟨a, b, c, d, ha, hb, hc, hd, hxx, eX⟩ := iV_words x hx
  have hn := sv_neg ha hb hc hd
  rw [hxx] at hn
  have q : ∀ z : Int, Wd z → ∃ n : Nat, z = (n : Int) ∧ n < wB := fun z hz => ⟨z.toNat, by unfold Wd at hz; omega, by unfold Wd at hz; unfold wB; omega⟩
  obtain ⟨a, rfl, qa⟩ := q a ha
  obtain ⟨b, rfl, qb⟩ := q b hb
  obtain ⟨c, rfl, qc⟩ := q c hc
  obtain ⟨d, rfl, qd⟩ := q d hd
  refine ⟨[a, b, c, d], rfl, by intro z hz; simp at hz; rcases hz with rfl | rfl | rfl | rfl <;> assumption, eX, ?_, ?_⟩
  · rw [← hn]; unfold ngB
    show decide (9223372036854775808 ≤ d) = _
    rw [decide_eq_decide]; omega
  · have hn' : (9223372036854775808 ≤ (d : Int)) ↔ x < 0 := by unfold ngB at hn; rwa [decide_eq_decide] at hn
    unfold sv at hxx
    simp only [vB, wB]
    by_cases h : x < 0
    · rw [if_pos h]; rw [if_pos (hn'.2 h)] at hxx; omega
    · rw [if_neg h]; rw [if_neg (fun h' => h (hn'.1 h'))] at hxx; omega
/-- The words, as they stand when i digits have been taken. -/
def stW (ws : List Nat) (i : Nat) : List Nat := (List.range 4).map fun q => ws.getD q 0 / 65536 ^ (min 4 (i - 4 * q))
theorem stW_length (ws : List Nat) (i : Nat) : (stW ws i).length = 4 := by simp [stW]
theorem stW_zero (ws : List Nat) (h : ws.length = 4) : stW ws 0 = ws := by
  match ws, h with
  | [a, b, c, d], _ => simp [stW, List.range_succ]
theorem stW_get (ws : List Nat) (q r : Nat) (hq : q < 4) (hr : r < 4) : (stW ws (4 * q + r)).getD q 0 = ws.getD q 0 / 65536 ^ r := by
  unfold stW
  rw [List.getD_eq_getElem?_getD]
  simp only [List.getElem?_map, List.getElem?_range hq, Option.map_some, Option.getD_some]
  congr 2; omega
theorem stW_set (ws : List Nat) (q r : Nat) (hq : q < 4) (hr : r < 4) : (stW ws (4 * q + r)).set q (ws.getD q 0 / 65536 ^ r / 65536) = stW ws (4 * q + r + 1) := by
  apply List.ext_getElem?
  intro j
  by_cases hj : j < 4
  · by_cases hjq : q = j
    · subst hjq
      rw [List.getElem?_set_self (by rw [stW_length]; exact hj)]
      unfold stW
      simp only [List.getElem?_map, List.getElem?_range hj, Option.map_some]
      rw [Nat.div_div_eq_div_mul, ← Nat.pow_succ]
      congr 3; omega
    · rw [List.getElem?_set_ne hjq]
      unfold stW
      simp only [List.getElem?_map, List.getElem?_range hj, Option.map_some]
      congr 3; omega
  · rw [List.getElem?_eq_none (by simp [stW]; omega), List.getElem?_eq_none (by simp [stW]; omega)]
theorem word_digit (ws : List Nat) (hw : WB ws) (q r : Nat) (hr : r < 4) : ws.getD q 0 / 65536 ^ r % 65536 = vB wB ws / 65536 ^ (4 * q + r) % 65536 := by
  rw [vB_digit wB (by unfold wB; omega) ws q hw]
  have e : wB = 65536 ^ 4 := by unfold wB; rfl
  rw [e, digit_in_word _ _ _ _ hr, ← Nat.pow_mul, Nat.div_div_eq_div_mul, ← Nat.pow_add]
/-- What has been reckoned when i digits have been taken. -/
def FromInv (s : Bool) (u i : Nat) (l : List Nat) (c : Nat) : Prop :=
  Dg l ∧ l.length = i ∧ c ≤ 1 ∧ if s = true then val l + 65536 ^ i * c + u % 65536 ^ i = 65536 ^ i else val l = u % 65536 ^ i
theorem FromInv.start (s : Bool) (u : Nat) : FromInv s u 0 [] 1 := ⟨Dg.nil, rfl, Nat.le_refl _, by cases s <;> simp [val, Nat.mod_one]⟩
theorem FromInv.pos {u i c d : Nat} {l : List Nat} (h : FromInv false u i l c) (hd : u / 65536 ^ i % 65536 = d) : FromInv false u (i + 1) (l ++ [d]) c := by
  obtain ⟨h1, h2, h3, h4⟩ := h
  simp only [Bool.false_eq_true, if_false] at h4
  have hb : d < 65536 := by omega
  refine ⟨h1.snoc hb, by simp [h2], h3, ?_⟩
  simp only [Bool.false_eq_true, if_false]
  rw [val_snoc, h2, h4, Nat.pow_succ, Nat.mod_mul, hd]
theorem FromInv.neg {u i c d e : Nat} {l : List Nat} (h : FromInv true u i l c) (hd : u / 65536 ^ i % 65536 = d) (he : e + d = 65535 + c) : FromInv true u (i + 1) (l ++ [e % 65536]) (e / 65536) := by
  obtain ⟨h1, h2, h3, h4⟩ := h
  simp only [if_true] at h4
  have hb : d < 65536 := by omega
  refine ⟨h1.snoc (by omega), by simp [h2], by omega, ?_⟩
  simp only [if_true]
  rw [val_snoc, h2, Nat.pow_succ, Nat.mod_mul, hd]
  have h5 : 65536 ^ i * (e % 65536) + 65536 ^ i * 65536 * (e / 65536) = 65536 ^ i * e := by
    rw [Nat.mul_assoc, ← Nat.mul_add]; congr 1; omega
  have h6 : 65536 ^ i * e + 65536 ^ i * d = 65536 ^ i * 65535 + 65536 ^ i * c := by rw [← Nat.mul_add, he, Nat.mul_add]
  have h7 : 65536 ^ i * 65536 = 65536 ^ i * 65535 + 65536 ^ i := by rw [← Nat.mul_succ]
  omega
theorem FromInv.done {x : Int} {u c : Nat} {l : List Nat} (hx : R256 x) (h : FromInv (decide (x < 0)) u 16 l c) (hu : (u : Int) = if x < 0 then x + 115792089237316195423570985008687907853269984665640564039457584007913129639936 else x) : sgn (decide (x < 0)) (val l) = x := by
  obtain ⟨h1, h2, h3, h4⟩ := h
  have e : (65536 : Nat) ^ 16 = 115792089237316195423570985008687907853269984665640564039457584007913129639936 := by decide
  have hl := val_lt h1
  rw [h2, e] at hl
  rw [e] at h4
  unfold R256 at hx
  by_cases hn : x < 0
  · simp only [hn, decide_true, if_true] at h4 hu
    unfold sgn
    simp only [hn, decide_true, if_true]
    rw [Nat.mod_eq_of_lt (by omega)] at h4
    have : c = 0 := by
      rcases Nat.lt_or_ge 0 c with h | h
      · have : c = 1 := by omega
        subst this; omega
      · omega
    subst this
    omega
  · simp only [hn, decide_false, Bool.false_eq_true, if_false] at h4 hu
    unfold sgn
    simp only [hn, decide_false, Bool.false_eq_true, if_false]
    rw [Nat.mod_eq_of_lt (by omega)] at h4
    omega
def FromRel (w : World) (d1 d2 d3 : Nat) (s : Bool) (ws : List Nat) (k : Nat) (cy i : Value) (wr : World) : Prop :=
  ∃ (j c : Nat) (l : List Nat) (A : Option Addr) (cp : Nat), j + k = 16 ∧ i = .int .i64 (j : Int) ∧ cy = .int .i64 (c : Int) ∧ FromInv s (vB wB ws) j l c ∧
    Own w.heap.size w wr [.grow 3 1 (.slice A j cp) j (dl l), .cells d3 [.bool s, .slice A j cp], .cells d2 [.bool false, .slice none 0 0], .cells d1 (wl (stW ws j))]
set_option maxRecDepth 100000 in
set_option maxHeartbeats 8000000 in
theorem refFrom_any (F : Nat → Prop) (w : World) (hF : ∀ k, F k → k < w.heap.size) (x : Int) (hx : R256 x) :
    Calls Try.prog 34 #[iV x] w (RetN F w x) := by
  obtain ⟨ws, h4, hw, eX, hneg, hu⟩ := iV_wl x hx
  have hdone := fun (c : Nat) (l : List Nat) (h : FromInv (decide (x < 0)) (vB wB ws) 16 l c) => h.done hx hu
  rw [eX]
  obtain ⟨s, hs⟩ : ∃ s, decide (x < 0) = s := ⟨_, rfl⟩
  rw [hs] at hneg hdone
  have H := Own.start w
  have H4 := Lib.hid h4
  have wlen : (wl ws).length = 4 := by rw [wl_length, h4]
  have b3 := hw.get 3
  obtain ⟨g3, hg3⟩ : ∃ g, ws.getD 3 0 = g := ⟨_, rfl⟩
  rw [hg3] at hneg b3
  have k3 : (wl ws)[3]? = some (.int .u64 (g3 : Int)) := by rw [wl_get (by rw [h4]; omega), hg3]
  have hneg2 : decide ((9223372036854775808 : Int) ≤ (g3 : Int)) = s := by rw [← hneg]; rw [decide_eq_decide]; omega
  clear h4 hneg hs hg3 eX
  have HU := Lib.hid hu
  clear hu
  go_enter Try.func34, Try.ntmps34
  have tk0 : True := trivial
  have tk1 : True := trivial
  have tk2 : True := trivial
  go_wp2_with (guard_target =~ wpList _ _ _ (_ :: _) _ _; (first | (guard_target =~ wpList _ _ _ (Oper.mk _ (.load _ _) _ _ _ _ :: _) _ _; refine BigFrame.wpList_want rfl (fun K hK => ?_); (refine o_loadC (v := ?_) (row := ?_) rfl rfl H ?_ ?_ ?_ (hK _ _ ?_); rotate_left 2; (repeat first | exact .head _ | apply List.Mem.tail); (with_reducible assumption); (focus (intro _; simp [wlen]; done))); clear hK K) | (guard_target =~ wpList _ _ _ (Oper.mk _ (.store _ _ _) _ _ _ _ :: _) _ _; refine BigFrame.wpList_want rfl (fun K hK => ?_); refine o_store (l' := ?_) (row := ?_) rfl rfl H rfl ?_ ?_ ?_ ?_ (fun w3 H2 => hK _ _ ?_); rotate_left 2; (exact r0); (focus (intro _; (simp [Act.eval, Value.cells, List.getD, wlen]; done))); (focus (simp [Act.eval, Value.cells, List.getD, wlen]; done)); (exact rfl); clear hK K; clear H; (try clear w2); revert w3; intro w2 H; (try simp [Act.eval, List.getD, wlen] at H); (try simp [Value.cells, setL, wlen] at H)) | ((first | (guard_target =~ wpList _ _ _ (Oper.mk _ (.alloc _) _ _ _ _ :: _) _ _; refine BigFrame.wpList_want rfl (fun K hK => ?_); refine o_alloc (z := ?_) rfl ?_ H rfl (fun w3 b2 he H2 => hK _ _ ?_); rotate_left 1; (focus (intro _; simp; with_reducible exact rfl))) | (guard_target =~ wpList _ _ _ (Oper.mk _ (.box _ _) _ _ _ _ :: _) _ _; refine BigFrame.wpList_want rfl (fun K hK => ?_); refine o_box rfl H rfl (fun w3 b2 he H2 => hK _ _ ?_))); clear hK K he; clear H; (try clear w2); revert w3; intro w2 H; (try simp [Act.eval, List.getD, wlen] at H); (try simp [Value.cells, setL, wlen] at H); (first | (clear tk0; rename Nat => d1) | (clear tk1; rename Nat => d2) | (clear tk2; rename Nat => d3)))); simp only [Act.put, List.setIfInBounds_toArray, List.set_cons_succ, List.set_cons_zero, wlen])
  go_loopg [4, 5] 16 (FromRel w d1 d2 d3 s ws)
  case atStart =>
    refine ⟨0, 1, [], none, 0, Nat.zero_add _, rfl, rfl, FromInv.start _ _, ?_⟩
    rw [stW_zero ws H4.out]
    exact H.grow_nil 3 1
  case round =>
    clear H
    obtain ⟨j, c, l, A, cp, hk, rfl, rfl, hinv, H⟩ := hrel
    by_cases h0 : j < 16
    · have hq : j / 4 < 4 := by omega
      have hr : j % 4 < 4 := by omega
      have hj : 4 * (j / 4) + j % 4 = j := by omega
      obtain ⟨g, hg⟩ : ∃ g, ws.getD (j / 4) 0 / 65536 ^ (j % 4) = g := ⟨_, rfl⟩
      obtain ⟨d, hd0⟩ : ∃ d, g % 65536 = d := ⟨_, rfl⟩
      have hd := word_digit ws hw (j / 4) (j % 4) hr
      rw [hg, hd0, hj] at hd
      have bg : g < 18446744073709551616 := by rw [← hg]; exact Nat.lt_of_le_of_lt (Nat.div_le_self _ _) (hw.get _)
      have bd : d < 65536 := by omega
      have hset := stW_set ws (j / 4) (j % 4) hq hr
      rw [hg, hj] at hset
      have HINV := Lib.hid hinv
      have hc := hinv.2.2.1
      have HDG := Lib.hid hd.symm
      have HSET := Lib.hid hset
      have ed : (g : Int) % 65536 = (d : Int) := by omega
      have slen : (wl (stW ws j)).length = 4 := by rw [wl_length, stW_length]
      have ld : (Res.cells d1 (wl (stW ws j))).at d1 (j / 4) [.int .u64 (g : Int)] := at_cells (by
        have h := stW_get ws (j / 4) (j % 4) hq hr
        rw [hj, hg] at h
        rw [wl_get (by rw [stW_length]; omega), h])
      have hjl := Lib.hid hj
      clear hj hr
      clear hg hd0 hd hset hinv
      cases s with
      | true =>
        have tk0 : True := trivial
        go_wp2_with (guard_target =~ wpList _ _ _ (_ :: _) _ _; (first | (guard_target =~ wpList _ _ _ (Oper.mk _ (.call { callee := .builtin .append, args := _, argTypes := _ }) _ _ _ _ :: _) _ _; refine BigFrame.wpList_want rfl (fun K hK => ?_); refine o_append (row := ?_) (n := ?_) (xs := ?_) (l' := ?_) Try.infoInt rfl rfl rfl H ?_ rfl ?_ ?_ (by kernel_rfl) rfl (by decide) ?_ ?_ ?_ (fun v2 w3 H2 hn => hK _ _ ?_); rotate_left 4; (repeat first | exact .head _ | apply List.Mem.tail); (focus (simp; done)); (focus (intro _; (exact r1))); exact rfl; exact (by unfold maxLen; omega); exact (by omega); clear hK K hn; clear H; (try clear w2); revert w3; intro w2 H; simp only [List.take_succ_cons, List.take_zero, Nat.one_mul] at H; (obtain ⟨Ag, cg, rfl⟩ := H.growForm (v := v2) (by repeat first | exact .head _ | apply List.Mem.tail))) | (guard_target =~ wpList _ _ _ (Oper.mk _ (.load _ _) _ _ _ _ :: _) _ _; refine BigFrame.wpList_want rfl (fun K hK => ?_); (first | (refine o_load (v := ?_) (r := ?_) rfl rfl H ?_ ?_ ?_ (hK _ _ ?_); rotate_left 2; (with_reducible assumption); (repeat first | exact .head _ | apply List.Mem.tail); (focus (intro _; simp [slen, ed]; done))) | (refine o_loadC (v := ?_) (row := ?_) rfl rfl H ?_ ?_ ?_ (hK _ _ ?_); rotate_left 2; (repeat first | exact .head _ | apply List.Mem.tail); (exact rfl); (focus (intro _; simp [slen, ed]; done)))); clear hK K) | (guard_target =~ wpList _ _ _ (Oper.mk _ (.store _ _ _) _ _ _ _ :: _) _ _; refine BigFrame.wpList_want rfl (fun K hK => ?_); refine o_store (l' := ?_) (row := ?_) rfl rfl H rfl ?_ ?_ ?_ ?_ (fun w3 H2 => hK _ _ ?_); rotate_left 2; (first | exact r2 | exact r3); (focus (intro _; (simp [Act.eval, Value.cells, List.getD, slen, ed]; done))); (focus (first | (simp [Act.eval, Value.cells, List.getD, slen, ed]; done) | ((try simp [Act.eval, Value.cells, List.getD, slen, ed]); omega))); (exact rfl); clear hK K; clear H; (try clear w2); revert w3; intro w2 H; (try simp [Act.eval, List.getD, slen, ed] at H); (try simp [Value.cells, setL, slen, ed] at H)) | ((guard_target =~ wpList _ _ _ (Oper.mk _ (.buildSlice _ _ _) _ _ _ _ :: _) _ _; refine BigFrame.wpList_want rfl (fun K hK => ?_); refine o_buildSlice (C := ?_) (E := ?_) rfl rfl H ?_ rfl (fun w3 b2 he H2 => hK _ _ ?_); rotate_left 2; (focus (intro _; simp [go_sem, Instr.buildSlice]; with_reducible exact rfl))); clear hK K he; clear H; (try clear w2); revert w3; intro w2 H; (try simp [Act.eval, List.getD, slen, ed] at H); (try simp [Value.cells, setL, slen, ed] at H); (clear tk0; rename Nat => b6))); simp only [Act.put, List.setIfInBounds_toArray, List.set_cons_succ, List.set_cons_zero, slen, ed])
        obtain ⟨e, he⟩ : ∃ e, e = 65535 - d + c := ⟨_, rfl⟩
        have e1 : (65535 - (d : Int) + (c : Int)) % 65536 = ((e % 65536 : Nat) : Int) := by omega
        have e2 : (g : Int) / 65536 = ((g / 65536 : Nat) : Int) := by omega
        rw [e1, e2, wl_set, HSET.out] at H
        go_roundg (16 - (j + 1))
        case rel =>
          refine ⟨j + 1, e / 65536, l ++ [e % 65536], Ag, cg, by omega, by congr 1, by congr 1; omega, HINV.out.neg HDG.out (by omega), ?_⟩
          rw [dl_append]
          exact H.tail
        case measure => omega
      | false =>
        have tk0 : True := trivial
        go_wp2_with (guard_target =~ wpList _ _ _ (_ :: _) _ _; (first | (guard_target =~ wpList _ _ _ (Oper.mk _ (.call { callee := .builtin .append, args := _, argTypes := _ }) _ _ _ _ :: _) _ _; refine BigFrame.wpList_want rfl (fun K hK => ?_); refine o_append (row := ?_) (n := ?_) (xs := ?_) (l' := ?_) Try.infoInt rfl rfl rfl H ?_ rfl ?_ ?_ (by kernel_rfl) rfl (by decide) ?_ ?_ ?_ (fun v2 w3 H2 hn => hK _ _ ?_); rotate_left 4; (repeat first | exact .head _ | apply List.Mem.tail); (focus (simp; done)); (focus (intro _; (exact r1))); exact rfl; exact (by unfold maxLen; omega); exact (by omega); clear hK K hn; clear H; (try clear w2); revert w3; intro w2 H; simp only [List.take_succ_cons, List.take_zero, Nat.one_mul] at H; (obtain ⟨Ag, cg, rfl⟩ := H.growForm (v := v2) (by repeat first | exact .head _ | apply List.Mem.tail))) | (guard_target =~ wpList _ _ _ (Oper.mk _ (.load _ _) _ _ _ _ :: _) _ _; refine BigFrame.wpList_want rfl (fun K hK => ?_); (first | (refine o_load (v := ?_) (r := ?_) rfl rfl H ?_ ?_ ?_ (hK _ _ ?_); rotate_left 2; (with_reducible assumption); (repeat first | exact .head _ | apply List.Mem.tail); (focus (intro _; simp [slen, ed]; done))) | (refine o_loadC (v := ?_) (row := ?_) rfl rfl H ?_ ?_ ?_ (hK _ _ ?_); rotate_left 2; (repeat first | exact .head _ | apply List.Mem.tail); (exact rfl); (focus (intro _; simp [slen, ed]; done)))); clear hK K) | (guard_target =~ wpList _ _ _ (Oper.mk _ (.store _ _ _) _ _ _ _ :: _) _ _; refine BigFrame.wpList_want rfl (fun K hK => ?_); refine o_store (l' := ?_) (row := ?_) rfl rfl H rfl ?_ ?_ ?_ ?_ (fun w3 H2 => hK _ _ ?_); rotate_left 2; (first | exact r2 | exact r3); (focus (intro _; (simp [Act.eval, Value.cells, List.getD, slen, ed]; done))); (focus (first | (simp [Act.eval, Value.cells, List.getD, slen, ed]; done) | ((try simp [Act.eval, Value.cells, List.getD, slen, ed]); omega))); (exact rfl); clear hK K; clear H; (try clear w2); revert w3; intro w2 H; (try simp [Act.eval, List.getD, slen, ed] at H); (try simp [Value.cells, setL, slen, ed] at H)) | ((guard_target =~ wpList _ _ _ (Oper.mk _ (.buildSlice _ _ _) _ _ _ _ :: _) _ _; refine BigFrame.wpList_want rfl (fun K hK => ?_); refine o_buildSlice (C := ?_) (E := ?_) rfl rfl H ?_ rfl (fun w3 b2 he H2 => hK _ _ ?_); rotate_left 2; (focus (intro _; simp [go_sem, Instr.buildSlice]; with_reducible exact rfl))); clear hK K he; clear H; (try clear w2); revert w3; intro w2 H; (try simp [Act.eval, List.getD, slen, ed] at H); (try simp [Value.cells, setL, slen, ed] at H); (clear tk0; rename Nat => b6))); simp only [Act.put, List.setIfInBounds_toArray, List.set_cons_succ, List.set_cons_zero, slen, ed])
        have e2 : (g : Int) / 65536 = ((g / 65536 : Nat) : Int) := by omega
        rw [e2, wl_set, HSET.out] at H
        go_roundg (16 - (j + 1))
        case rel =>
          refine ⟨j + 1, c, l ++ [d], Ag, cg, by omega, by congr 1, rfl, HINV.out.pos HDG.out, ?_⟩
          rw [dl_append]
          exact H.tail
        case measure => omega
    · obtain rfl : j = 16 := by omega
      have hz := hdone c l hinv
      obtain ⟨gl, hl, _, _⟩ := hinv
      obtain ⟨A', b', cp', hv, hc1, hc2, H, hB⟩ := H.growRd
      obtain ⟨rfl, rfl⟩ : A = A' ∧ cp = cp' := by injection hv with h1 h2 h3; exact ⟨h1, h3⟩
      have fb : 0 < (dl l).length → ¬ F b' := fun h hf => by have := hB h; have := hF _ hf; omega
      have HT : ∀ (F : Nat → Prop) (w : World) (hF : ∀ k, F k → k < w.heap.size) (A : Option Addr) (ha : Sl F w A (dl l)), Calls Try.prog 99 #[.agg #[.bool s, .slice A 16 cp]] w (RetN F w x) := by
        intro F w hF A ha
        have h := trim_any F w hF s A cp l ha gl (by omega) (by omega) hc2
        rw [hl, hz] at h
        exact h
      have e16 : ((16 : Nat) : Int) = 16 := rfl
      rw [e16]
      clear hz hl hv e16
      go_wp2_with (first
        | (go_at_call 99; (with_reducible refine (HT (FW F _) _ (H.fw_lt rfl hF) _ (H.giveRd m0 fb)).mono ?_); rintro e w3 ⟨A3, c3, l3, rfl, hb, s3, g4, q3, p3⟩; replace H := H.ext hb; clear hb; obtain ⟨b3, o3, H4, f3⟩ := H.addSl s3; clear H s3; have H := H4; clear H4; dsimp only)
        | (guard_target =~ wpList _ _ _ (_ :: _) _ _; (first | (guard_target =~ wpList _ _ _ (Oper.mk _ (.load _ _) _ _ _ _ :: _) _ _; refine BigFrame.wpList_want rfl (fun K hK => ?_); (refine o_loadNC (row := ?_) rfl rfl H ?_ ?_ ?_ (hK _ _ ?_); rotate_left 1; (repeat first | exact .head _ | apply List.Mem.tail); (focus (intro _; simp; done)); (focus (intro _; simp; done))); clear hK K) | (guard_target =~ wpList _ _ _ (Oper.mk _ (.store _ _ _) _ _ _ _ :: _) _ _; refine BigFrame.wpList_want rfl (fun K hK => ?_); refine o_store (l' := ?_) (row := ?_) rfl rfl H rfl ?_ ?_ ?_ ?_ (fun w3 H2 => hK _ _ ?_); rotate_left 2; (exact r3); (focus (intro _; simp [Act.eval, Value.cells]; done)); (focus (simp [Act.eval, Value.cells]; done)); (exact rfl); clear hK K; clear H; (try clear w2); revert w3; intro w2 H; simp [Act.eval, Value.cells, setL, List.getD] at H)); simp only [Act.put, List.setIfInBounds_toArray, List.set_cons_succ, List.set_cons_zero]))
      have hr := H.loadVarN (P := Try.prog) (ty := 31) (b := d2) (by exact m3) (by simp) (by simp)
      exact bodyPost_ret (v := .agg #[.bool (decide (x < 0)), .slice A3 l3.length c3]) (by simp [results, Try.results34, asAddr, hr]) rfl ⟨A3, c3, l3, rfl, H.below, (H.giveRd m0 f3).fw, g4, q3, p3⟩
end Go.Proofs.Ytdgpdafkngoegaa
