/-
  The document's examples of layer 1 (word), as the statements ask them: they hold.
-/
import Derived.Test.YtbdgnggbkdgbmaaWord4
namespace Go.Proofs.Ytbdgnggbkdgbmaa
set_option linter.unusedVariables false
open Go.RowKit

theorem get_ex1 (w : World) : Calls Try.prog 23 #[.string ⟨#[2, 1]⟩, .int .i64 0, .int .i64 2] w fun e w' => e = .returned (.tuple #[.int .u64 258, .bool true]) ∧ w = w' :=
  get_yes _ 0 2 w (by decide) (by decide) (by decide) (by decide) (by decide)
theorem get_ex2 (w : World) : Calls Try.prog 23 #[.string ⟨#[2, 1]⟩, .int .i64 1, .int .i64 2] w fun e w' => e = .returned (.tuple #[.int .u64 0, .bool false]) ∧ w = w' :=
  get_no _ 1 2 w (by decide) (by decide) (by decide) (by decide)
theorem put_ex (w : World) : Calls Try.prog 21 #[.int .u64 258, .int .i64 2] w fun e w' => e = .returned (.string ⟨#[2, 1]⟩) ∧ Below w.heap.size w w' :=
  put_yes 258 2 w (by decide) (by decide) (by decide) (by decide)
theorem fold_ex (w : World) : Calls Try.prog 25 #[.int .i64 (-1)] w fun e w' => e = .returned (.int .u64 1) ∧ w = w' :=
  fold_any (-1) w (by decide) (by decide)
theorem width_ex (w : World) : Calls Try.prog 33 #[.int .u64 255] w fun e w' => e = .returned (.int .i64 8) ∧ w = w' := by
  have h := width_any 255 w (by decide) (by decide)
  have e : bitsN (Int.toNat 255) = 8 := by
    simp [bitsN]
  rw [e] at h
  exact h
theorem awake01 (w : World) : Calls Try.prog 20 #[] w fun e w' => e = .returned (.bool true) ∧ Below w.heap.size w w' := by
  go_enter Try.func20, Try.ntmps20
  go_wp2_with fail
  refine (get_ex1 _).mono ?_
  rintro e w' ⟨rfl, rfl⟩
  go_wp2_with fail
  refine (get_ex2 _).mono ?_
  rintro e w' ⟨rfl, rfl⟩
  go_wp2_with fail
  refine (put_ex _).mono ?_
  rintro e w1 ⟨rfl, hb⟩
  go_wp2_with fail
  refine (fold_ex _).mono ?_
  rintro e w' ⟨rfl, rfl⟩
  go_wp2_with fail
  refine (width_ex _).mono ?_
  rintro e w' ⟨rfl, rfl⟩
  go_wp2_with fail
  go_ret
  exact ⟨rfl, hb⟩
end Go.Proofs.Ytbdgnggbkdgbmaa
