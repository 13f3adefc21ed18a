/-
  The walks of the document's layer 3: halves.
-/
import Derived.Test.YtdgpdafkngoegaaRef03b
import Derived.Test.YtdgpdafkngoegaaOwn4
namespace Go.Proofs.Ytdgpdafkngoegaa
set_option linter.unusedVariables false
set_option linter.unusedSimpArgs false
open Go.RowKit

theorem made_dl (n : Nat) : (madeCells (Value.int .i64 0).cells n).toList = dl (List.replicate n 0) := by
  apply List.ext_getElem?
  intro i
  by_cases h : i < n
  · simp [madeCells, dl, Value.cells, h, Nat.mod_one]
  · simp [madeCells, dl, Value.cells, h]
theorem dl_set (l : List Nat) (k v : Nat) : (dl l).set k (.int .i64 (v : Int)) = dl (l.set k v) := by simp [dl, List.map_set]
theorem Dg.set {l : List Nat} (h : Dg l) (k v : Nat) (hv : v < 65536) : Dg (l.set k v) := fun d hd => by
  rcases List.mem_or_eq_of_mem_set hd with h' | h'
  · exact h d h'
  · rw [h']; exact hv
theorem Dg.zeros (n : Nat) : Dg (List.replicate n 0) := fun d hd => by rw [(List.mem_replicate.1 hd).2]; omega
theorem val_drop (l : List Nat) (j : Nat) (h : j < l.length) : val (l.drop j) = l.getD j 0 + 65536 * val (l.drop (j + 1)) := by
  rw [List.drop_eq_getElem_cons h, List.getD_eq_getElem?_getD, List.getElem?_eq_getElem h]; rfl
theorem drop_set_succ (l : List Nat) (j v : Nat) : (l.set j v).drop (j + 1) = l.drop (j + 1) := by rw [List.drop_set_of_lt (by omega)]
theorem set_getD (l : List Nat) (j v : Nat) (h : j < l.length) : (l.set j v).getD j 0 = v := by
  rw [List.getD_eq_getElem?_getD, List.getElem?_set_self h]; rfl
/-- A round of a division of digits by q, from above. -/
theorem quot_round (q : Nat) (hq : 0 < q) (a l : List Nat) (j rest d x : Nat) (ha : j < a.length) (hl : j < l.length) (hx : a.getD j 0 = x) (hd : d = rest * 65536 + x)
    (hv : val (a.drop (j + 1)) = q * val (l.drop (j + 1)) + rest) : val (a.drop j) = q * val ((l.set j (d / q)).drop j) + d % q := by
  rw [val_drop a j ha, val_drop (l.set j (d / q)) j (by simpa using hl), set_getD l j _ hl, drop_set_succ, hx, hv]
  have h1 := Nat.div_add_mod d q
  have h2 : q * (d / q + 65536 * val (l.drop (j + 1))) = q * (d / q) + 65536 * (q * val (l.drop (j + 1))) := by rw [Nat.mul_add, Nat.mul_left_comm]
  rw [h2, Nat.mul_add]
  omega
/-- What a function answers whose answer are the digits of n, none above the highest that isn't 0. -/
def RetC (F : Nat → Prop) (w : World) (n : Nat) (e : Ending) (w' : World) : Prop :=
  ∃ A c l, e = .returned (.slice A l.length c) ∧ Below w.heap.size w w' ∧ Sl F w' A (dl l) ∧ CnI l n ∧ l.length ≤ c ∧ c ≤ maxLen
theorem Own.notF {B : Nat} {w0 w : World} {l : List Res} {F : Nat → Prop} {b : Nat} {row : List Value} (H : Own B w0 w l) (hm : Res.cells b row ∈ l) (hF : ∀ k, F k → k < B) : ¬ F b := fun h => by
  have h1 := (H.lt _ hm b rfl).2 rfl
  have h2 := hF _ h
  omega
theorem field_num1 (x y : Value) (w : World) : (Instr.field 31 (.agg #[x, y]) 1).run Try.prog w = .ok y w := by kernel_rfl
theorem field_num0 (x y : Value) (w : World) : (Instr.field 31 (.agg #[x, y]) 0).run Try.prog w = .ok x w := by kernel_rfl
def HalfRel (w : World) (A1 : Option Addr) (b1 o1 b2 : Nat) (a : List Nat) (k : Nat) (rest i : Value) (wr : World) : Prop :=
  ∃ (r : Nat) (l : List Nat), k ≤ a.length ∧ i = .int .i64 ((k : Int) - 1) ∧ rest = .int .i64 (r : Int) ∧ r ≤ 1 ∧ l.length = a.length ∧ Dg l ∧ val (a.drop k) = 2 * val (l.drop k) + r ∧
    Own w.heap.size w wr [.cells b2 (dl l), .rd A1 b1 o1 (dl a)]
set_option maxRecDepth 100000 in
set_option maxHeartbeats 4000000 in
theorem half_any (F : Nat → Prop) (w : World) (hF : ∀ k, F k → k < w.heap.size) (A1 : Option Addr) (c1 : Nat) (a : List Nat) (ha : Sl F w A1 (dl a)) (ga : Dg a) (la : a.length ≤ 900) (ma : a.length ≤ c1) :
    Calls Try.prog 109 #[.slice A1 a.length c1] w (RetC F w (val a / 2)) := by
  obtain ⟨b1, o1, H, f1⟩ := (Own.start w).addSl (ha.ro (by rfl))
  clear ha
  go_enter Try.func109, Try.ntmps109
  have tk0 : True := trivial
  go_wp2_with (guard_target =~ wpList _ _ _ (_ :: _) _ _; (guard_target =~ wpList _ _ _ (Oper.mk _ (.makeSlice _ _ _) _ _ _ _ :: _) _ _; refine BigFrame.wpList_want rfl (fun K hK => ?_); refine o_make Try.infoInt rfl rfl rfl (by kernel_rfl) ?_ H rfl (fun w3 b2 he H2 => hK _ _ ?_); (focus (exact (by omega))); clear hK K he; clear H; (try clear w2); revert w3; intro w2 H; (clear tk0; rename Nat => c2)); simp only [Act.put, List.setIfInBounds_toArray, List.set_cons_succ, List.set_cons_zero])
  rw [made_dl] at H
  go_loopg [4, 5] a.length (HalfRel w A1 b1 o1 c2 a)
  case atStart =>
    refine ⟨0, List.replicate a.length 0, Nat.le_refl _, rfl, rfl, by omega, by simp, Dg.zeros _, ?_, H⟩
    rw [List.drop_of_length_le (Nat.le_refl _), List.drop_of_length_le (by simp)]; rfl
  case round =>
    clear H
    obtain ⟨r, l, hk, rfl, rfl, hr, hl, gl, hv, H⟩ := hrel
    have HL := Lib.hid hl
    have HV := Lib.hid hv
    clear hl hv
    by_cases h0 : 0 < gk
    · obtain ⟨j, rfl⟩ : ∃ j, gk = j + 1 := ⟨gk - 1, by omega⟩
      have e1 : ((j + 1 : Nat) : Int) - 1 = (j : Int) := by omega
      rw [e1]
      clear e1
      have hja : j < a.length := by omega
      have hjl : j < (dl l).length := by rw [dl_length, HL.out]; exact hja
      obtain rfl := H.rdAddr m1 (by rw [dl_length]; omega)
      obtain ⟨x, hx, bx, tx⟩ := dig_at hja ga
      replace tx := tx (some ⟨b1, o1, none⟩) b1 o1
      go_wp2_with (guard_target =~ wpList _ _ _ (_ :: _) _ _; (first | (guard_target =~ wpList _ _ _ (Oper.mk _ (.load _ _) _ _ _ _ :: _) _ _; refine BigFrame.wpList_want rfl (fun K hK => ?_); (refine o_load (v := ?_) (r := ?_) rfl rfl H ?_ ?_ ?_ (hK _ _ ?_); rotate_left 2; (with_reducible assumption); (repeat first | exact .head _ | apply List.Mem.tail); (focus (intro _; simp; done))); clear hK K) | (guard_target =~ wpList _ _ _ (Oper.mk _ (.store _ _ _) _ _ _ _ :: _) _ _; refine BigFrame.wpList_want rfl (fun K hK => ?_); refine o_store (l' := ?_) (row := ?_) rfl rfl H rfl ?_ ?_ ?_ ?_ (fun w3 H2 => hK _ _ ?_); rotate_left 2; (exact r0); (focus (intro _; simp [Act.eval, Value.cells]; done)); (focus ((try simp [Act.eval, Value.cells]); omega)); (exact rfl); clear hK K; clear H; (try clear w2); revert w3; intro w2 H; simp [Act.eval, Value.cells, setL, List.getD] at H)); simp only [Act.put, List.setIfInBounds_toArray, List.set_cons_succ, List.set_cons_zero])
      have e2 : ((r : Int) * 65536 + (x : Int)) / 2 = (((r * 65536 + x) / 2 : Nat) : Int) := by omega
      rw [e2, dl_set] at H
      go_roundg j
      case rel =>
        refine ⟨(r * 65536 + x) % 2, l.set j ((r * 65536 + x) / 2), by omega, rfl, by congr 1, by omega, by rw [List.length_set]; exact HL.out, gl.set _ _ (by omega), ?_, H⟩
        exact quot_round 2 (by omega) a l j r _ x hja (by rw [HL.out]; exact hja) hx.out rfl HV.out
      case measure => omega
    · obtain rfl : gk = 0 := by omega
      have e1 : ((0 : Nat) : Int) - 1 = -1 := rfl
      rw [e1]
      have hv := HV.out
      simp only [List.drop_zero] at hv
      have HQ : Hid (val l = val a / 2) := Lib.hid (by omega)
      have n2 := H.notF m0 hF
      have H := H.toRd
      have HT : ∀ (F : Nat → Prop) (w : World) (hF : ∀ k, F k → k < w.heap.size) (A : Option Addr) (ha : Sl F w A (dl l)), Calls Try.prog 99 #[.agg #[.bool false, .slice A a.length a.length]] w (RetN F w (sgn false (val l))) := by
        intro F w hF A ha
        have h := trim_any F w hF false A a.length l ha gl (by rw [HL.out]; omega) (by rw [HL.out]; exact Nat.le_refl _) (by unfold maxLen; omega)
        rw [HL.out] at h
        exact h
      clear hv
      have kf := field_num1
      go_wp2_with (go_at_call 99; (with_reducible refine (HT (FW F _) _ (H.fw_lt rfl hF) _ (H.giveRd m0 (fun _ => n2))).mono ?_); rintro e w3 ⟨A2, c2, l2, rfl, hb, s2, g2, k2, k3⟩; replace H := H.ext hb; clear hb; obtain ⟨b4, o4, H4, f4⟩ := H.addSl s2; clear H s2; have H := H4; clear H4; dsimp only)
      go_ret
      refine ⟨A2, c2, l2, rfl, H.below, (H.giveRd m0 f4).fw, ?_, k2, k3⟩
      rw [← HQ.out]
      exact g2
end Go.Proofs.Ytdgpdafkngoegaa
