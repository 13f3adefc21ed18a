/-
  The walks of the statements of layer 1 (word): each answers true.
-/
import Derived.Test.YtbdgnggbkdgbmaaWord5
namespace Go.Proofs.Ytbdgnggbkdgbmaa
set_option linter.unusedVariables false
open Go.RowKit

theorem Try.own0 : ownKnob Try.prog.godebug = none := by kernel_rfl
theorem Try.laidOut : laidOutB Try.prog = true := by kernel_rfl

theorem law_WordSigns (n : Int) (w : World) (h1 : -9223372036854775808 ≤ n) (h2 : n ≤ 9223372036854775807) :
    Calls Try.prog 7 #[.int .i64 n] w fun e w' => e = .returned (.bool true) ∧ Below w.heap.size w w' := by
  go_enter Try.func7, Try.ntmps7
  go_wp2_with fail
  refine (awake01 _).mono ?_
  rintro e w1 ⟨rfl, hb⟩
  go_wp2_with fail
  refine (fold_any _ _ h1 h2).mono ?_
  rintro e w' ⟨rfl, rfl⟩
  go_wp2_with fail
  refine (rfold_any _ _ h1 h2).mono ?_
  rintro e w' ⟨rfl, rfl⟩
  go_wp2_with fail
  go_ret
  exact ⟨rfl, hb⟩
theorem law_WordFolds (n u : Int) (w : World) (h1 : -9223372036854775808 ≤ n) (h2 : n ≤ 9223372036854775807) (h3 : 0 ≤ u) (h4 : u ≤ 18446744073709551615) :
    Calls Try.prog 8 #[.int .i64 n, .int .u64 u] w fun e w' => e = .returned (.bool true) ∧ Below w.heap.size w w' := by
  have f1 := foldZ_rng n h1 h2
  have f2 := unfoldZ_rng u h3 h4
  have e1 := Lib.hid (unfold_fold n)
  have e2 := Lib.hid (fold_unfold u h3)
  go_enter Try.func8, Try.ntmps8
  go_wp2_with fail
  refine (awake01 _).mono ?_
  rintro e w1 ⟨rfl, hb⟩
  go_wp2_with fail
  refine (fold_any _ _ h1 h2).mono ?_
  rintro e w' ⟨rfl, rfl⟩
  go_wp2_with fail
  refine (unfold_any _ _ f1.1 f1.2).mono ?_
  rintro e w' ⟨rfl, rfl⟩
  rw [e1.out]
  go_wp2_with fail
  refine (unfold_any _ _ h3 h4).mono ?_
  rintro e w' ⟨rfl, rfl⟩
  go_wp2_with fail
  refine (fold_any _ _ f2.1 f2.2).mono ?_
  rintro e w' ⟨rfl, rfl⟩
  rw [e2.out]
  go_wp2_with fail
  go_ret
  exact ⟨rfl, hb⟩
theorem law_WordFits (n b : Int) (w : World) (h1 : -9223372036854775808 ≤ n) (h2 : n ≤ 9223372036854775807) (h3 : -9223372036854775808 ≤ b) (h4 : b ≤ 9223372036854775807) :
    Calls Try.prog 12 #[.int .i64 n, .int .i64 b] w fun e w' => e = .returned (.bool true) ∧ Below w.heap.size w w' := by
  by_cases c : b < 1 ∨ 64 < b
  · rcases c with c | c
    · go_enter Try.func12, Try.ntmps12
      go_wp2_with fail
      refine (awake01 _).mono ?_
      rintro e w1 ⟨rfl, hb⟩
      go_wp2_with fail
      refine (fits_no _ _ _ (.inl c)).mono ?_
      rintro e w' ⟨rfl, rfl⟩
      go_wp2_with fail
      go_ret
      exact ⟨rfl, hb⟩
    · have c' : ¬ b < 1 := by omega
      go_enter Try.func12, Try.ntmps12
      go_wp2_with fail
      refine (awake01 _).mono ?_
      rintro e w1 ⟨rfl, hb⟩
      go_wp2_with fail
      refine (fits_no _ _ _ (.inr c)).mono ?_
      rintro e w' ⟨rfl, rfl⟩
      go_wp2_with fail
      go_ret
      exact ⟨rfl, hb⟩
  · have c1 : 1 ≤ b := by omega
    have c2 : b ≤ 64 := by omega
    clear c
    go_enter Try.func12, Try.ntmps12
    go_wp2_with fail
    refine (awake01 _).mono ?_
    rintro e w1 ⟨rfl, hb⟩
    go_wp2_with fail
    refine (fits_any _ _ _ c1 c2).mono ?_
    rintro e w' ⟨rfl, rfl⟩
    go_wp2_with fail
    refine (rfits_any _ _ _ h1 h2 c1 c2).mono ?_
    rintro e w' ⟨rfl, rfl⟩
    go_wp2_with fail
    go_ret
    exact ⟨rfl, hb⟩
theorem law_WordPuts (n b : Int) (w : World) (h1 : 0 ≤ n) (h2 : n ≤ 18446744073709551615) (h3 : -9223372036854775808 ≤ b) (h4 : b ≤ 9223372036854775807) :
    Calls Try.prog 5 #[.int .u64 n, .int .i64 b] w fun e w' => e = .returned (.bool true) ∧ Below w.heap.size w w' := by
  by_cases c : b < 0 ∨ 8 < b
  · rcases c with c | c
    · go_enter Try.func5, Try.ntmps5
      go_wp2_with fail
      refine (awake01 _).mono ?_
      rintro e w1 ⟨rfl, hb⟩
      go_wp2_with fail
      refine (put_no _ _ _ (.inl c)).mono ?_
      rintro e w' ⟨rfl, hb2⟩
      go_wp2_with fail
      go_ret
      exact ⟨rfl, below_trans hb hb2⟩
    · have c' : ¬ b < 0 := by omega
      go_enter Try.func5, Try.ntmps5
      go_wp2_with fail
      refine (awake01 _).mono ?_
      rintro e w1 ⟨rfl, hb⟩
      go_wp2_with fail
      refine (put_no _ _ _ (.inr c)).mono ?_
      rintro e w' ⟨rfl, hb2⟩
      go_wp2_with fail
      go_ret
      exact ⟨rfl, below_trans hb hb2⟩
  · have c1 : 0 ≤ b := by omega
    have c2 : b ≤ 8 := by omega
    clear c
    go_enter Try.func5, Try.ntmps5
    go_wp2_with fail
    refine (awake01 _).mono ?_
    rintro e w1 ⟨rfl, hb⟩
    go_wp2_with fail
    refine (put_yes _ _ _ h1 h2 c1 c2).mono ?_
    rintro e w2 ⟨rfl, hb2⟩
    go_wp2_with fail
    refine (rput_yes _ _ _ h1 h2 c1 c2).mono ?_
    rintro e w3 ⟨rfl, hb3⟩
    go_wp2_with fail
    go_ret
    exact ⟨rfl, below_trans hb (below_trans hb2 hb3)⟩
theorem extract_list (s : ByteArray) (a b : Nat) : (s.extract a b).data.toList = (s.data.toList.drop a).take (b - a) := by
  rw [ByteArray.data_extract, Array.toList_extract]
theorem law_WordGets (s : ByteArray) (a b : Int) (w : World) (hs : s.size ≤ maxLen) (a1 : -9223372036854775808 ≤ a) (a2 : a ≤ 9223372036854775807) (b1 : -9223372036854775808 ≤ b) (b2 : b ≤ 9223372036854775807) :
    Calls Try.prog 6 #[.string s, .int .i64 a, .int .i64 b] w fun e w' => e = .returned (.bool true) ∧ Below w.heap.size w w' := by
  have hs' := hs
  unfold maxLen at hs'
  by_cases c1 : b < 0
  · go_enter Try.func6, Try.ntmps6
    go_wp2_with fail
    refine (get_no _ _ _ _ hs a1 a2 (.inl c1)).mono ?_
    rintro e w' ⟨rfl, rfl⟩
    go_wp2_with fail
    refine (awake01 _).mono ?_
    rintro e w1 ⟨rfl, hb⟩
    go_wp2_with fail
    go_ret
    exact ⟨rfl, hb⟩
  by_cases c2 : 8 < b
  · go_enter Try.func6, Try.ntmps6
    go_wp2_with fail
    refine (get_no _ _ _ _ hs a1 a2 (.inr (.inl c2))).mono ?_
    rintro e w' ⟨rfl, rfl⟩
    go_wp2_with fail
    refine (awake01 _).mono ?_
    rintro e w1 ⟨rfl, hb⟩
    go_wp2_with fail
    go_ret
    exact ⟨rfl, hb⟩
  by_cases c3 : a < 0
  · go_enter Try.func6, Try.ntmps6
    go_wp2_with fail
    refine (get_no _ _ _ _ hs a1 a2 (.inr (.inr (.inl c3)))).mono ?_
    rintro e w' ⟨rfl, rfl⟩
    go_wp2_with fail
    refine (awake01 _).mono ?_
    rintro e w1 ⟨rfl, hb⟩
    go_wp2_with fail
    go_ret
    exact ⟨rfl, hb⟩
  by_cases c4 : (s.size : Int) < a
  · go_enter Try.func6, Try.ntmps6
    go_wp2_with fail
    refine (get_no _ _ _ _ hs a1 a2 (.inr (.inr (.inr (.inl c4))))).mono ?_
    rintro e w' ⟨rfl, rfl⟩
    go_wp2_with fail
    refine (awake01 _).mono ?_
    rintro e w1 ⟨rfl, hb⟩
    go_wp2_with fail
    go_ret
    exact ⟨rfl, hb⟩
  by_cases c5 : s.size - a < b
  · go_enter Try.func6, Try.ntmps6
    go_wp2_with fail
    refine (get_no _ _ _ _ hs a1 a2 (.inr (.inr (.inr (.inr c5))))).mono ?_
    rintro e w' ⟨rfl, rfl⟩
    go_wp2_with fail
    refine (awake01 _).mono ?_
    rintro e w1 ⟨rfl, hb⟩
    go_wp2_with fail
    go_ret
    exact ⟨rfl, hb⟩
  · obtain ⟨i, rfl⟩ := Int.eq_ofNat_of_zero_le (show 0 ≤ a by omega)
    obtain ⟨k, rfl⟩ := Int.eq_ofNat_of_zero_le (show 0 ≤ b by omega)
    have d1 : i + k ≤ s.size := by omega
    have E := Lib.hid (show (s.extract i (i + k)).data.toList = (s.data.toList.drop i).take k by rw [extract_list, Nat.add_sub_cancel_left])
    have E2 : (s.extract i (i + k)).size ≤ 8 := by
      rw [ByteArray.size_extract]; omega
    go_enter Try.func6, Try.ntmps6
    go_wp2_with fail
    refine (get_yes _ _ _ _ hs (by omega) (by omega) (by omega) (by omega)).mono ?_
    rintro e w' ⟨rfl, rfl⟩
    go_wp2_with fail
    refine (awake01 _).mono ?_
    rintro e w1 ⟨rfl, hb⟩
    go_wp2_with fail
    refine (rget_any _ _ E2).mono ?_
    rintro e w' ⟨rfl, rfl⟩
    rw [E.out]
    go_wp2_with fail
    go_ret
    exact ⟨rfl, hb⟩
end Go.Proofs.Ytbdgnggbkdgbmaa
