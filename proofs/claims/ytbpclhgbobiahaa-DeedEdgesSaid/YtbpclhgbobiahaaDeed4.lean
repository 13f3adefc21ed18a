/-
  The walks of deed: what an eye reads.
-/
import Derived.Test.YtbpclhgbobiahaaDeed1
namespace Go.Proofs.Ytbpclhgbobiahaa
set_option linter.unusedVariables false
set_option linter.unusedSimpArgs false
open Go.RowKit

theorem eye_get (T R : ByteArray) (size : Nat) (hT : T.size = size) (h8 : size ≤ 8) (hR : R.size ≤ 1000) (w : World) :
    Calls Try.prog 58 #[.string (T ++ R), .int .i64 0, .int .i64 size] w fun e w' => e = .returned (.tuple #[.int .u64 (leN T.data.toList), .bool true]) ∧ w = w' := by
  have hs : (T ++ R).size = T.size + R.size := by simp
  have h := get_yes (T ++ R) 0 size w (by rw [hs]; unfold maxLen; omega) (by omega) (by omega) (by omega) (by rw [hs]; omega)
  have e : (((T ++ R).data.toList.drop (0 : Int).toNat).take (size : Int).toNat) = T.data.toList := by
    have e0 : (T ++ R).data.toList = T.data.toList ++ R.data.toList := by simp
    rw [e0]
    show ((T.data.toList ++ R.data.toList).drop 0).take ((size : Int).toNat) = _
    rw [List.drop_zero, Int.toNat_natCast, List.take_append_of_le_length (by rw [Array.length_toList]; show size ≤ T.size; omega), List.take_of_length_le (by rw [Array.length_toList]; show T.size ≤ size; omega)]
  rw [e] at h
  exact h
theorem eye_rest (T R : ByteArray) (size : Nat) (hT : T.size = size) : (T ++ R).extract size (T ++ R).size = R := by
  apply ByteArray.ext
  subst hT
  have h1 : T.data.extract T.size (T.size + R.size) = #[] := Array.extract_empty_of_size_le_start (by show T.data.size ≤ T.data.size; exact Nat.le_refl _)
  have h2 : R.data.extract 0 R.size = R.data := by show R.data.extract 0 R.data.size = _; simp
  simp [h1, h2]
set_option maxRecDepth 100000 in
set_option maxHeartbeats 8000000 in
theorem take_any (T R : ByteArray) (bad : Bool) (size : Nat) (hT : T.size = size) (h8 : size ≤ 8) (hR : R.size ≤ 1000) {B : Nat} {w0 w : World} {l : List Res} {b : Nat} (H : Own B w0 w (.cells b [.string (T ++ R), .bool bad] :: l)) :
    Calls Try.prog 51 #[.pointer (some ⟨b, 0, none⟩), .int .i64 size] w fun e w' => e = .returned (.int .u64 (leN T.data.toList)) ∧ Own B w0 w' (.cells b [.string R, .bool bad] :: l) := by
  have hg := eye_get T R size hT h8 hR
  have hx := eye_rest T R size hT
  have hs : (T ++ R).size = T.size + R.size := by simp
  generalize T ++ R = S at *
  generalize (leN T.data.toList : Int) = n at *
  have hz1 : S.size ≤ 1000000 := by omega
  have hz2 : size ≤ S.size := by omega
  have hz3 : ¬ S.size < size := by omega
  clear hT hR hs
  have HX := Lib.hid hx
  clear hx
  go_enter Try.func51, Try.ntmps51
  go_wp2_with (first
    | go_big_skip
    | (go_at_call 58; (with_reducible refine (hg _).mono ?_); rintro e w3 ⟨rfl, rfl⟩; dsimp only)
    | (guard_target =~ wpList _ _ _ (_ :: _) _ _; (first | (guard_target =~ wpList _ _ _ (Oper.mk _ (.load _ _) _ _ _ _ :: _) _ _; refine BigFrame.wpList_want rfl (fun K hK => ?_); (first | (refine o_load (v := ?_) (r := ?_) rfl rfl H ?_ ?_ ?_ (hK _ _ ?_); rotate_left 2; (with_reducible assumption); (repeat first | exact .head _ | apply List.Mem.tail); (focus (intro _; simp; done))) | (refine o_loadC (v := ?_) (row := ?_) rfl rfl H ?_ ?_ ?_ (hK _ _ ?_); rotate_left 2; (repeat first | exact .head _ | apply List.Mem.tail); (first | exact rfl | with_reducible assumption); (focus (intro _; simp; done))) | (refine o_loadN (cs := ?_) (r := ?_) rfl rfl H ?_ ?_ ?_ ?_ (hK _ _ ?_); rotate_left 2; (with_reducible assumption); (repeat first | exact .head _ | apply List.Mem.tail); (focus (intro _; simp; done)); (focus (intro _; simp; done))) | (refine o_loadNC (row := ?_) rfl rfl H ?_ ?_ ?_ (hK _ _ ?_); rotate_left 1; (repeat first | exact .head _ | apply List.Mem.tail); (focus (intro _; simp; done)); (focus (intro _; simp; done)))); clear hK K) | (guard_target =~ wpList _ _ _ (Oper.mk _ (.store _ _ _) _ _ _ _ :: _) _ _; refine BigFrame.wpList_want rfl (fun K hK => ?_); refine o_store (l' := ?_) (row := ?_) rfl rfl H rfl ?_ ?_ ?_ ?_ (fun w3 H2 => hK _ _ ?_); rotate_left 2; (first | exact r0 | exact r1 | exact r2 | exact r3 | exact r4 | exact r5 | exact r6 | exact r7 | exact r8 | exact r9 | exact r10 | exact r11 | exact r12 | exact r13 | exact r14 | exact r15); (focus (intro _; simp [Act.eval, Value.cells]; done)); (focus (first | (simp [Act.eval, Value.cells]; done) | ((try simp [Act.eval, Value.cells]); omega))); (first | exact rfl | (focus (simp [Act.eval, Value.cells]; done))); clear hK K; clear H; (try clear w2); revert w3; intro w2 H; simp [Act.eval, Value.cells, setL, List.getD] at H) | ((first | (guard_target =~ wpList _ _ _ (Oper.mk _ (.alloc _) _ _ _ _ :: _) _ _; refine BigFrame.wpList_want rfl (fun K hK => ?_); refine o_alloc (z := ?_) rfl ?_ H rfl (fun w3 b2 he H2 => hK _ _ ?_); rotate_left 1; (focus (intro _; simp; with_reducible exact rfl))) | (guard_target =~ wpList _ _ _ (Oper.mk _ (.box _ _) _ _ _ _ :: _) _ _; refine BigFrame.wpList_want rfl (fun K hK => ?_); refine o_box rfl H rfl (fun w3 b2 he H2 => hK _ _ ?_)) | (guard_target =~ wpList _ _ _ (Oper.mk _ (.buildSlice _ _ _) _ _ _ _ :: _) _ _; refine BigFrame.wpList_want rfl (fun K hK => ?_); refine o_buildSlice (C := ?_) (E := ?_) rfl rfl H ?_ rfl (fun w3 b2 he H2 => hK _ _ ?_); rotate_left 2; (focus (intro _; simp [go_sem, Instr.buildSlice]; with_reducible exact rfl)))); clear hK K he; clear H; (try clear w2); revert w3; intro w2 H; simp [Act.eval, Value.cells, setL, List.getD] at H)); simp only [Act.put, List.setIfInBounds_toArray, List.set_cons_succ, List.set_cons_zero]))
  rw [HX.out] at H
  go_ret
  exact ⟨rfl, H⟩
/-- A number that is right. -/
theorem putS_leN (n : Int) (h1 : 0 ≤ n) (h2 : n ≤ 281474976710655) : (leN (putS n).data.toList : Int) = n := by
  obtain ⟨m, rfl⟩ := Int.eq_ofNat_of_zero_le h1
  have e : IntKind.u64.wrap (m : Int) = (m : Int) := by rw [IntKind.wrap_u64]; omega
  unfold putS
  rw [e]
  show ((leN (putL 6 ((m : Int).toNat)).toArray.toList : Nat) : Int) = m
  rw [List.toList_toArray, leN_putL, Int.toNat_natCast]
  have : m % 256 ^ 6 = m := Nat.mod_eq_of_lt (by omega)
  rw [this]
theorem foldS_leN (size : Nat) (n : Int) (h : (foldZ n).toNat < 256 ^ size) (h0 : 0 ≤ foldZ n) : (leN (foldS size n).data.toList : Int) = foldZ n := by
  unfold foldS
  show ((leN (putL (size : Int).toNat ((foldZ n).toNat)).toArray.toList : Nat) : Int) = foldZ n
  rw [List.toList_toArray, leN_putL, Int.toNat_natCast, Nat.mod_eq_of_lt h]
  omega
set_option maxRecDepth 100000 in
set_option maxHeartbeats 8000000 in
theorem eyeNum_any (n : Int) (R : ByteArray) (h : numP n = false) (hR : R.size ≤ 1000) {B : Nat} {w0 w : World} {l : List Res} {b : Nat} (H : Own B w0 w (.cells b [.string (putS n ++ R), .bool false] :: l)) :
    Calls Try.prog 52 #[.pointer (some ⟨b, 0, none⟩)] w fun e w' => e = .returned (.int .i64 n) ∧ Own B w0 w' (.cells b [.string R, .bool false] :: l) := by
  have h1 : 0 ≤ n ∧ n ≤ 1099511627776 := by simp [numP] at h; omega
  have ht := fun B w0 w l b H => take_any (putS n) R false 6 (putS_size n) (by omega) hR (B := B) (w0 := w0) (w := w) (l := l) (b := b) H
  simp only [putS_leN n h1.1 (by omega), Int.cast_ofNat_Int] at ht
  have hv : decide (1099511627776 < n) = false := by simp; omega
  have hw : wrap64 n = n := IntWalk.wrap64_in n ⟨by omega, by omega⟩
  generalize putS n = T at *
  clear h h1 hR
  go_enter Try.func52, Try.ntmps52
  go_wp2_with (first
    | go_big_skip
    | (go_at_call 51; (with_reducible refine (ht _ _ _ _ _ H).mono ?_); rintro e w3 ⟨rfl, H2⟩; replace H := H2; clear H2; dsimp only)
    | (guard_target =~ wpList _ _ _ (_ :: _) _ _; (first | (guard_target =~ wpList _ _ _ (Oper.mk _ (.load _ _) _ _ _ _ :: _) _ _; refine BigFrame.wpList_want rfl (fun K hK => ?_); (first | (refine o_load (v := ?_) (r := ?_) rfl rfl H ?_ ?_ ?_ (hK _ _ ?_); rotate_left 2; (with_reducible assumption); (repeat first | exact .head _ | apply List.Mem.tail); (focus (intro _; simp; done))) | (refine o_loadC (v := ?_) (row := ?_) rfl rfl H ?_ ?_ ?_ (hK _ _ ?_); rotate_left 2; (repeat first | exact .head _ | apply List.Mem.tail); (first | exact rfl | with_reducible assumption); (focus (intro _; simp; done))) | (refine o_loadN (cs := ?_) (r := ?_) rfl rfl H ?_ ?_ ?_ ?_ (hK _ _ ?_); rotate_left 2; (with_reducible assumption); (repeat first | exact .head _ | apply List.Mem.tail); (focus (intro _; simp; done)); (focus (intro _; simp; done))) | (refine o_loadNC (row := ?_) rfl rfl H ?_ ?_ ?_ (hK _ _ ?_); rotate_left 1; (repeat first | exact .head _ | apply List.Mem.tail); (focus (intro _; simp; done)); (focus (intro _; simp; done)))); clear hK K) | (guard_target =~ wpList _ _ _ (Oper.mk _ (.store _ _ _) _ _ _ _ :: _) _ _; refine BigFrame.wpList_want rfl (fun K hK => ?_); refine o_store (l' := ?_) (row := ?_) rfl rfl H rfl ?_ ?_ ?_ ?_ (fun w3 H2 => hK _ _ ?_); rotate_left 2; (first | exact r0 | exact r1 | exact r2 | exact r3 | exact r4 | exact r5 | exact r6 | exact r7 | exact r8 | exact r9 | exact r10 | exact r11 | exact r12 | exact r13 | exact r14 | exact r15); (focus (intro _; simp [Act.eval, Value.cells]; done)); (focus (first | (simp [Act.eval, Value.cells]; done) | ((try simp [Act.eval, Value.cells]); omega))); (first | exact rfl | (focus (simp [Act.eval, Value.cells]; done))); clear hK K; clear H; (try clear w2); revert w3; intro w2 H; simp [Act.eval, Value.cells, setL, List.getD] at H) | ((first | (guard_target =~ wpList _ _ _ (Oper.mk _ (.alloc _) _ _ _ _ :: _) _ _; refine BigFrame.wpList_want rfl (fun K hK => ?_); refine o_alloc (z := ?_) rfl ?_ H rfl (fun w3 b2 he H2 => hK _ _ ?_); rotate_left 1; (focus (intro _; simp; with_reducible exact rfl))) | (guard_target =~ wpList _ _ _ (Oper.mk _ (.box _ _) _ _ _ _ :: _) _ _; refine BigFrame.wpList_want rfl (fun K hK => ?_); refine o_box rfl H rfl (fun w3 b2 he H2 => hK _ _ ?_)) | (guard_target =~ wpList _ _ _ (Oper.mk _ (.buildSlice _ _ _) _ _ _ _ :: _) _ _; refine BigFrame.wpList_want rfl (fun K hK => ?_); refine o_buildSlice (C := ?_) (E := ?_) rfl rfl H ?_ rfl (fun w3 b2 he H2 => hK _ _ ?_); rotate_left 2; (focus (intro _; simp [go_sem, Instr.buildSlice]; with_reducible exact rfl)))); clear hK K he; clear H; (try clear w2); revert w3; intro w2 H; simp [Act.eval, Value.cells, setL, List.getD] at H)); simp only [Act.put, List.setIfInBounds_toArray, List.set_cons_succ, List.set_cons_zero]))
  go_ret
  exact ⟨by rw [hw]; rfl, H⟩
set_option maxRecDepth 100000 in
set_option maxHeartbeats 8000000 in
theorem eyeFold_any (n low high : Int) (size : Nat) (R : ByteArray) (h : outB n low high = false) (hl : -1152921504606846976 ≤ low) (hh : high ≤ 1152921504606846976) (h8 : size ≤ 8) (hf : (foldZ n).toNat < 256 ^ size) (hR : R.size ≤ 1000) {B : Nat} {w0 w : World} {l : List Res} {b : Nat} (H : Own B w0 w (.cells b [.string (foldS size n ++ R), .bool false] :: l)) :
    Calls Try.prog 53 #[.pointer (some ⟨b, 0, none⟩), .int .i64 low, .int .i64 high, .int .i64 size] w fun e w' => e = .returned (.int .i64 n) ∧ Own B w0 w' (.cells b [.string R, .bool false] :: l) := by
  have h1 : low ≤ n ∧ n ≤ high := by simp [outB] at h; omega
  have hr := foldZ_rng n (by omega) (by omega)
  have ht := fun B w0 w l b H => take_any (foldS size n) R false size (by rw [foldS_size]; simp) h8 hR (B := B) (w0 := w0) (w := w) (l := l) (b := b) H
  simp only [foldS_leN size n hf hr.1] at ht
  have hu := fun w => unfold_any (foldZ n) w hr.1 hr.2
  simp only [unfold_fold] at hu
  have hv : decide (n < low) = false := by simp; omega
  have hv2 : decide (high < n) = false := by simp; omega
  have hw : wrap64 n = n := IntWalk.wrap64_in n ⟨by omega, by omega⟩
  generalize foldS size n = T at *
  generalize foldZ n = f at *
  clear h h1 hr hR hl hh h8 hf
  go_enter Try.func53, Try.ntmps53
  go_wp2_with (first
    | go_big_skip
    | (go_at_call 51; (with_reducible refine (ht _ _ _ _ _ H).mono ?_); rintro e w3 ⟨rfl, H2⟩; replace H := H2; clear H2; dsimp only)
    | (go_at_call 59; (with_reducible refine (hu _).mono ?_); rintro e w3 ⟨rfl, rfl⟩; dsimp only)
    | (guard_target =~ wpList _ _ _ (_ :: _) _ _; (first | (guard_target =~ wpList _ _ _ (Oper.mk _ (.load _ _) _ _ _ _ :: _) _ _; refine BigFrame.wpList_want rfl (fun K hK => ?_); (first | (refine o_load (v := ?_) (r := ?_) rfl rfl H ?_ ?_ ?_ (hK _ _ ?_); rotate_left 2; (with_reducible assumption); (repeat first | exact .head _ | apply List.Mem.tail); (focus (intro _; simp; done))) | (refine o_loadC (v := ?_) (row := ?_) rfl rfl H ?_ ?_ ?_ (hK _ _ ?_); rotate_left 2; (repeat first | exact .head _ | apply List.Mem.tail); (first | exact rfl | with_reducible assumption); (focus (intro _; simp; done))) | (refine o_loadN (cs := ?_) (r := ?_) rfl rfl H ?_ ?_ ?_ ?_ (hK _ _ ?_); rotate_left 2; (with_reducible assumption); (repeat first | exact .head _ | apply List.Mem.tail); (focus (intro _; simp; done)); (focus (intro _; simp; done))) | (refine o_loadNC (row := ?_) rfl rfl H ?_ ?_ ?_ (hK _ _ ?_); rotate_left 1; (repeat first | exact .head _ | apply List.Mem.tail); (focus (intro _; simp; done)); (focus (intro _; simp; done)))); clear hK K) | (guard_target =~ wpList _ _ _ (Oper.mk _ (.store _ _ _) _ _ _ _ :: _) _ _; refine BigFrame.wpList_want rfl (fun K hK => ?_); refine o_store (l' := ?_) (row := ?_) rfl rfl H rfl ?_ ?_ ?_ ?_ (fun w3 H2 => hK _ _ ?_); rotate_left 2; (first | exact r0 | exact r1 | exact r2 | exact r3 | exact r4 | exact r5 | exact r6 | exact r7 | exact r8 | exact r9 | exact r10 | exact r11 | exact r12 | exact r13 | exact r14 | exact r15); (focus (intro _; simp [Act.eval, Value.cells]; done)); (focus (first | (simp [Act.eval, Value.cells]; done) | ((try simp [Act.eval, Value.cells]); omega))); (first | exact rfl | (focus (simp [Act.eval, Value.cells]; done))); clear hK K; clear H; (try clear w2); revert w3; intro w2 H; simp [Act.eval, Value.cells, setL, List.getD] at H) | ((first | (guard_target =~ wpList _ _ _ (Oper.mk _ (.alloc _) _ _ _ _ :: _) _ _; refine BigFrame.wpList_want rfl (fun K hK => ?_); refine o_alloc (z := ?_) rfl ?_ H rfl (fun w3 b2 he H2 => hK _ _ ?_); rotate_left 1; (focus (intro _; simp; with_reducible exact rfl))) | (guard_target =~ wpList _ _ _ (Oper.mk _ (.box _ _) _ _ _ _ :: _) _ _; refine BigFrame.wpList_want rfl (fun K hK => ?_); refine o_box rfl H rfl (fun w3 b2 he H2 => hK _ _ ?_)) | (guard_target =~ wpList _ _ _ (Oper.mk _ (.buildSlice _ _ _) _ _ _ _ :: _) _ _; refine BigFrame.wpList_want rfl (fun K hK => ?_); refine o_buildSlice (C := ?_) (E := ?_) rfl rfl H ?_ rfl (fun w3 b2 he H2 => hK _ _ ?_); rotate_left 2; (focus (intro _; simp [go_sem, Instr.buildSlice]; with_reducible exact rfl)))); clear hK K he; clear H; (try clear w2); revert w3; intro w2 H; simp [Act.eval, Value.cells, setL, List.getD] at H)); simp only [Act.put, List.setIfInBounds_toArray, List.set_cons_succ, List.set_cons_zero]))
  go_ret
  exact ⟨rfl, H⟩
set_option maxRecDepth 100000 in
set_option maxHeartbeats 8000000 in
theorem eyeHalf_any (n : Int) (k : Bool) (R : ByteArray) (h : numP n = false) (hR : R.size ≤ 1000) {B : Nat} {w0 w : World} {l : List Res} {b : Nat} (H : Own B w0 w (.cells b [.string (putS (halfN n k) ++ R), .bool false] :: l)) :
    Calls Try.prog 54 #[.pointer (some ⟨b, 0, none⟩)] w fun e w' => e = .returned (.agg #[.int .i64 n, .bool k]) ∧ Own B w0 w' (.cells b [.string R, .bool false] :: l) := by
  have h1 : 0 ≤ n ∧ n ≤ 1099511627776 := by simp [numP] at h; omega
  obtain ⟨m, hm⟩ : ∃ m, halfN n k = m := ⟨_, rfl⟩
  have hm2 : m = 2 * n + (if k then 1 else 0) := by
    rw [← hm]; unfold halfN
    cases k
    · simp only [Bool.false_eq_true, if_false]; rw [IntWalk.i64_in _ ⟨by omega, by omega⟩]; omega
    · simp only [if_true]; rw [IntWalk.i64_in (n * 2) ⟨by omega, by omega⟩, IntWalk.i64_in _ ⟨by omega, by omega⟩]; omega
  have hr : 0 ≤ m ∧ m ≤ 2199023255553 := by cases k <;> simp at hm2 <;> omega
  have ht := fun B w0 w l b H => take_any (putS (halfN n k)) R false 6 (putS_size _) (by omega) hR (B := B) (w0 := w0) (w := w) (l := l) (b := b) H
  rw [hm] at ht H
  simp only [putS_leN m hr.1 (by omega), Int.cast_ofNat_Int] at ht
  have q1 : m / 2 = n := by cases k <;> simp at hm2 <;> omega
  have q2 : bits .and .u64 m 1 = if k then 1 else 0 := by
    obtain ⟨j, rfl⟩ := Int.eq_ofNat_of_zero_le hr.1
    have ea : bits .and .u64 (j : Int) 1 = ((j % 2 : Nat) : Int) := by
      have := u64_and_nat j 1 (by omega) (by omega)
      rw [nat_mask1] at this
      exact this
    rw [ea]
    cases k <;> simp at hm2 ⊢ <;> omega
  have hv : decide (1099511627776 < n) = false := by simp; omega
  have hw : wrap64 n = n := IntWalk.wrap64_in n ⟨by omega, by omega⟩
  generalize putS m = T at *
  clear h h1 hR hm2 hr hm
  cases k
  · simp only [Bool.false_eq_true, if_false] at q2
    go_enter Try.func54, Try.ntmps54
    have tk0 : True := trivial
    go_wp2_with (first
      | go_big_skip
      | (go_at_call 51; (with_reducible refine (ht _ _ _ _ _ H.swap).mono ?_); rintro e w3 ⟨rfl, H2⟩; replace H := H2; clear H2; dsimp only)
      | (guard_target =~ wpList _ _ _ (_ :: _) _ _; (first | (guard_target =~ wpList _ _ _ (Oper.mk _ (.load _ _) _ _ _ _ :: _) _ _; refine BigFrame.wpList_want rfl (fun K hK => ?_); (first | (refine o_load (v := ?_) (r := ?_) rfl rfl H ?_ ?_ ?_ (hK _ _ ?_); rotate_left 2; (with_reducible assumption); (repeat first | exact .head _ | apply List.Mem.tail); (focus (intro _; simp; done))) | (refine o_loadC (v := ?_) (row := ?_) rfl rfl H ?_ ?_ ?_ (hK _ _ ?_); rotate_left 2; (repeat first | exact .head _ | apply List.Mem.tail); (first | exact rfl | with_reducible assumption); (focus (intro _; simp; done))) | (refine o_loadN (cs := ?_) (r := ?_) rfl rfl H ?_ ?_ ?_ ?_ (hK _ _ ?_); rotate_left 2; (with_reducible assumption); (repeat first | exact .head _ | apply List.Mem.tail); (focus (intro _; simp; done)); (focus (intro _; simp; done))) | (refine o_loadNC (row := ?_) rfl rfl H ?_ ?_ ?_ (hK _ _ ?_); rotate_left 1; (repeat first | exact .head _ | apply List.Mem.tail); (focus (intro _; simp; done)); (focus (intro _; simp; done)))); clear hK K) | (guard_target =~ wpList _ _ _ (Oper.mk _ (.store _ _ _) _ _ _ _ :: _) _ _; refine BigFrame.wpList_want rfl (fun K hK => ?_); refine o_store (l' := ?_) (row := ?_) rfl rfl H rfl ?_ ?_ ?_ ?_ (fun w3 H2 => hK _ _ ?_); rotate_left 2; (first | exact r0 | exact r1 | exact r2 | exact r3 | exact r4 | exact r5 | exact r6 | exact r7 | exact r8 | exact r9 | exact r10 | exact r11 | exact r12 | exact r13 | exact r14 | exact r15); (focus (intro _; simp [Act.eval, Value.cells]; done)); (focus (first | (simp [Act.eval, Value.cells]; done) | ((try simp [Act.eval, Value.cells]); omega))); (first | exact rfl | (focus (simp [Act.eval, Value.cells]; done))); clear hK K; clear H; (try clear w2); revert w3; intro w2 H; simp [Act.eval, Value.cells, setL, List.getD] at H) | ((first | (guard_target =~ wpList _ _ _ (Oper.mk _ (.alloc _) _ _ _ _ :: _) _ _; refine BigFrame.wpList_want rfl (fun K hK => ?_); refine o_alloc (z := ?_) rfl ?_ H rfl (fun w3 b2 he H2 => hK _ _ ?_); rotate_left 1; (focus (intro _; simp; with_reducible exact rfl))) | (guard_target =~ wpList _ _ _ (Oper.mk _ (.box _ _) _ _ _ _ :: _) _ _; refine BigFrame.wpList_want rfl (fun K hK => ?_); refine o_box rfl H rfl (fun w3 b2 he H2 => hK _ _ ?_)) | (guard_target =~ wpList _ _ _ (Oper.mk _ (.buildSlice _ _ _) _ _ _ _ :: _) _ _; refine BigFrame.wpList_want rfl (fun K hK => ?_); refine o_buildSlice (C := ?_) (E := ?_) rfl rfl H ?_ rfl (fun w3 b2 he H2 => hK _ _ ?_); rotate_left 2; (focus (intro _; simp [go_sem, Instr.buildSlice]; with_reducible exact rfl)))); clear hK K he; clear H; (try clear w2); revert w3; intro w2 H; simp [Act.eval, Value.cells, setL, List.getD] at H; (first | (clear tk0; rename Nat => b2) | (skip)))); simp only [Act.put, List.setIfInBounds_toArray, List.set_cons_succ, List.set_cons_zero]))
    have hr := H.loadVarN (P := Try.prog) (ty := 45) (b := b2) m1 (by simp) (by simp)
    exact bodyPost_ret (v := .agg #[.int .i64 n, .bool false]) (by simp [results, Try.results54, asAddr, hr]) rfl ⟨rfl, H.sub (.cons_cons _ (.cons _ (.refl _)))⟩
  · simp only [if_true] at q2
    go_enter Try.func54, Try.ntmps54
    have tk0 : True := trivial
    go_wp2_with (first
      | go_big_skip
      | (go_at_call 51; (with_reducible refine (ht _ _ _ _ _ H.swap).mono ?_); rintro e w3 ⟨rfl, H2⟩; replace H := H2; clear H2; dsimp only)
      | (guard_target =~ wpList _ _ _ (_ :: _) _ _; (first | (guard_target =~ wpList _ _ _ (Oper.mk _ (.load _ _) _ _ _ _ :: _) _ _; refine BigFrame.wpList_want rfl (fun K hK => ?_); (first | (refine o_load (v := ?_) (r := ?_) rfl rfl H ?_ ?_ ?_ (hK _ _ ?_); rotate_left 2; (with_reducible assumption); (repeat first | exact .head _ | apply List.Mem.tail); (focus (intro _; simp; done))) | (refine o_loadC (v := ?_) (row := ?_) rfl rfl H ?_ ?_ ?_ (hK _ _ ?_); rotate_left 2; (repeat first | exact .head _ | apply List.Mem.tail); (first | exact rfl | with_reducible assumption); (focus (intro _; simp; done))) | (refine o_loadN (cs := ?_) (r := ?_) rfl rfl H ?_ ?_ ?_ ?_ (hK _ _ ?_); rotate_left 2; (with_reducible assumption); (repeat first | exact .head _ | apply List.Mem.tail); (focus (intro _; simp; done)); (focus (intro _; simp; done))) | (refine o_loadNC (row := ?_) rfl rfl H ?_ ?_ ?_ (hK _ _ ?_); rotate_left 1; (repeat first | exact .head _ | apply List.Mem.tail); (focus (intro _; simp; done)); (focus (intro _; simp; done)))); clear hK K) | (guard_target =~ wpList _ _ _ (Oper.mk _ (.store _ _ _) _ _ _ _ :: _) _ _; refine BigFrame.wpList_want rfl (fun K hK => ?_); refine o_store (l' := ?_) (row := ?_) rfl rfl H rfl ?_ ?_ ?_ ?_ (fun w3 H2 => hK _ _ ?_); rotate_left 2; (first | exact r0 | exact r1 | exact r2 | exact r3 | exact r4 | exact r5 | exact r6 | exact r7 | exact r8 | exact r9 | exact r10 | exact r11 | exact r12 | exact r13 | exact r14 | exact r15); (focus (intro _; simp [Act.eval, Value.cells]; done)); (focus (first | (simp [Act.eval, Value.cells]; done) | ((try simp [Act.eval, Value.cells]); omega))); (first | exact rfl | (focus (simp [Act.eval, Value.cells]; done))); clear hK K; clear H; (try clear w2); revert w3; intro w2 H; simp [Act.eval, Value.cells, setL, List.getD] at H) | ((first | (guard_target =~ wpList _ _ _ (Oper.mk _ (.alloc _) _ _ _ _ :: _) _ _; refine BigFrame.wpList_want rfl (fun K hK => ?_); refine o_alloc (z := ?_) rfl ?_ H rfl (fun w3 b2 he H2 => hK _ _ ?_); rotate_left 1; (focus (intro _; simp; with_reducible exact rfl))) | (guard_target =~ wpList _ _ _ (Oper.mk _ (.box _ _) _ _ _ _ :: _) _ _; refine BigFrame.wpList_want rfl (fun K hK => ?_); refine o_box rfl H rfl (fun w3 b2 he H2 => hK _ _ ?_)) | (guard_target =~ wpList _ _ _ (Oper.mk _ (.buildSlice _ _ _) _ _ _ _ :: _) _ _; refine BigFrame.wpList_want rfl (fun K hK => ?_); refine o_buildSlice (C := ?_) (E := ?_) rfl rfl H ?_ rfl (fun w3 b2 he H2 => hK _ _ ?_); rotate_left 2; (focus (intro _; simp [go_sem, Instr.buildSlice]; with_reducible exact rfl)))); clear hK K he; clear H; (try clear w2); revert w3; intro w2 H; simp [Act.eval, Value.cells, setL, List.getD] at H; (first | (clear tk0; rename Nat => b2) | (skip)))); simp only [Act.put, List.setIfInBounds_toArray, List.set_cons_succ, List.set_cons_zero]))
    have hr := H.loadVarN (P := Try.prog) (ty := 45) (b := b2) m1 (by simp) (by simp)
    exact bodyPost_ret (v := .agg #[.int .i64 n, .bool true]) (by simp [results, Try.results54, asAddr, hr]) rfl ⟨rfl, H.sub (.cons_cons _ (.cons _ (.refl _)))⟩
end Go.Proofs.Ytbpclhgbobiahaa
