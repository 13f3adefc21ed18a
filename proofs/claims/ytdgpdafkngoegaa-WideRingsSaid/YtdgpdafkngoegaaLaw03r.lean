/-
  The statements of layer 3 that ask the program alone: sums and products do not hang on the order, and fit together.
-/
import Derived.Test.YtdgpdafkngoegaaLaw03a
import Derived.Test.YtdgpdafkngoegaaWide3
import Derived.Test.YtdgpdafkngoegaaWide17
import Derived.Test.YtdgpdafkngoegaaFit
namespace Go.Proofs.Ytdgpdafkngoegaa
set_option linter.unusedVariables false
set_option linter.unusedSimpArgs false
open Go.RowKit

theorem ne_self (x : Int) (hx : R256 x) (w : World) : (binOp .neq 24 (iV x) (iV x)).run Try.prog w = .ok (.bool false) w := by
  rw [ne_iV x x hx hx]; simp
theorem eq_self' (x : Int) (hx : R256 x) (w : World) : (binOp .eql 24 (iV x) (iV x)).run Try.prog w = .ok (.bool true) w := by
  rw [eq_iV x x hx hx]; simp
theorem fe_cases (z : Int) : (errZ z = 0 ∧ R256 z ∧ fitZ z = z) ∨ errZ z = 3 := by
  rcases fe z with h | h
  · exact .inl ⟨h.2.2, h.1, h.2.1⟩
  · exact .inr h.2.2
set_option maxRecDepth 100000 in
set_option maxHeartbeats 16000000 in
theorem law_WideRings (x y z : Int) (w : World) (hx : R256 x) (hy : R256 y) (hz : R256 z) : Calls Try.prog 15 #[iV x, iV y, iV z] w fun e w' => e = .returned (.bool true) ∧ Below w.heap.size w w' := by
  have H := Own.start w
  have g1 := guard_iVV
  have a1 := fun w => add_any x y hx hy w
  have a2 := fun w => add_any y x hy hx w
  have p1 := fun w => Mul_any x y hx hy w
  have p2 := fun w => Mul_any y x hy hx w
  have d1 := fun w => sub_any (fitZ (x + y)) y (fitZ_range _) hy w
  have s1 := fun w => add_any y z hy hz w
  have p3 := fun w => Mul_any x (fitZ (y + z)) hx (fitZ_range _) w
  have p4 := fun w => Mul_any x z hx hz w
  have s2 := fun w => add_any (fitZ (x * y)) (fitZ (x * z)) (fitZ_range _) (fitZ_range _) w
  rw [Int.add_comm y x] at a2
  rw [Int.mul_comm y x] at p2
  have n1 := ne_self _ (fitZ_range (x + y))
  have n2 := ne_self _ (fitZ_range (x * y))
  have n3 := ne_self x hx
  have c1 : (errZ (x + y) = 0 ∧ fitZ (fitZ (x + y) - y) = x ∧ errZ (fitZ (x + y) - y) = 0) ∨ errZ (x + y) = 3 := by
    rcases fe_cases (x + y) with ⟨h1, h2, h3⟩ | h
    · left
      rw [h1, h3, show x + y - y = x by omega]
      rcases fe x with ⟨_, h4, h5⟩ | ⟨h, _⟩
      · exact ⟨rfl, h4, h5⟩
      · exact absurd hx h
    · exact .inr h
  have c2 : (errZ (y + z) = 0 ∧ errZ (x * fitZ (y + z)) = 0 ∧ errZ (x * y) = 0 ∧ errZ (x * z) = 0 ∧ errZ (fitZ (x * y) + fitZ (x * z)) = 0 ∧ fitZ (fitZ (x * y) + fitZ (x * z)) = fitZ (x * fitZ (y + z))) ∨
      errZ (y + z) = 3 ∨ (errZ (y + z) = 0 ∧ errZ (x * fitZ (y + z)) = 3) ∨ (errZ (y + z) = 0 ∧ errZ (x * fitZ (y + z)) = 0 ∧ errZ (x * y) = 3) ∨
      (errZ (y + z) = 0 ∧ errZ (x * fitZ (y + z)) = 0 ∧ errZ (x * y) = 0 ∧ errZ (x * z) = 3) ∨ (errZ (y + z) = 0 ∧ errZ (x * fitZ (y + z)) = 0 ∧ errZ (x * y) = 0 ∧ errZ (x * z) = 0 ∧ errZ (fitZ (x * y) + fitZ (x * z)) = 3) := by
    rcases fe_cases (y + z) with ⟨e1, r1, f1⟩ | h
    · rcases fe_cases (x * fitZ (y + z)) with ⟨e2, r2, f2⟩ | h
      · rcases fe_cases (x * y) with ⟨e3, r3, f3⟩ | h
        · rcases fe_cases (x * z) with ⟨e4, r4, f4⟩ | h
          · rcases fe_cases (fitZ (x * y) + fitZ (x * z)) with ⟨e5, r5, f5⟩ | h
            · left
              refine ⟨e1, e2, e3, e4, e5, ?_⟩
              rw [f3, f4, f1, Int.mul_add]
            · exact .inr (.inr (.inr (.inr (.inr ⟨e1, e2, e3, e4, h⟩))))
          · exact .inr (.inr (.inr (.inr (.inl ⟨e1, e2, e3, h⟩))))
        · exact .inr (.inr (.inr (.inl ⟨e1, e2, h⟩)))
      · exact .inr (.inr (.inl ⟨e1, h⟩))
    · exact .inr (.inl h)
  have r1 := fitZ_range (x + y)
  have r3 := fitZ_range (x * y)
  have r4 := fitZ_range (x * fitZ (y + z))
  have n4 := eq_self' _ r4
  obtain ⟨t, ht⟩ : ∃ t, fitZ (x * fitZ (y + z)) = t := ⟨_, rfl⟩
  obtain ⟨q, hq⟩ : ∃ q, fitZ (fitZ (x * y) + fitZ (x * z)) = q := ⟨_, rfl⟩
  obtain ⟨e5, he5⟩ : ∃ e, errZ (fitZ (x * y) + fitZ (x * z)) = e := ⟨_, rfl⟩
  obtain ⟨e2, he2⟩ : ∃ e, errZ (x * fitZ (y + z)) = e := ⟨_, rfl⟩
  rw [ht, he2] at p3 c2
  rw [ht] at n4
  rw [hq, he5] at s2 c2
  obtain ⟨d, hd⟩ : ∃ t, fitZ (fitZ (x + y) - y) = t := ⟨_, rfl⟩
  obtain ⟨e6, he6⟩ : ∃ t, errZ (fitZ (x + y) - y) = t := ⟨_, rfl⟩
  rw [hd, he6] at d1 c1
  obtain ⟨s, hs⟩ : ∃ t, fitZ (x + y) = t := ⟨_, rfl⟩
  obtain ⟨p, hp⟩ : ∃ t, fitZ (x * y) = t := ⟨_, rfl⟩
  obtain ⟨v, hv⟩ : ∃ t, fitZ (x * z) = t := ⟨_, rfl⟩
  obtain ⟨u, hu⟩ : ∃ t, fitZ (y + z) = t := ⟨_, rfl⟩
  obtain ⟨e1, he1⟩ : ∃ t, errZ (x + y) = t := ⟨_, rfl⟩
  obtain ⟨e3, he3⟩ : ∃ t, errZ (x * y) = t := ⟨_, rfl⟩
  obtain ⟨e4, he4⟩ : ∃ t, errZ (x * z) = t := ⟨_, rfl⟩
  obtain ⟨e7, he7⟩ : ∃ t, errZ (y + z) = t := ⟨_, rfl⟩
  rw [hs, he1] at a1 a2
  rw [hp, he3] at p1 p2
  rw [hs] at d1 n1 r1
  rw [hu, he7] at s1
  rw [hu] at p3
  rw [hv, he4] at p4
  rw [hp, hv] at s2
  rw [hp] at n2 r3
  rw [he1] at c1
  rw [he7, he3, he4] at c2
  clear ht hq he5 he2 hd he6 hs hp hv hu he1 he3 he4 he7 r4
  rcases c1 with ⟨rfl, rfl, rfl⟩ | rfl <;> rcases c2 with ⟨rfl, rfl, rfl, rfl, rfl, rfl⟩ | rfl | ⟨rfl, rfl⟩ | ⟨rfl, rfl, rfl⟩ | ⟨rfl, rfl, rfl, rfl⟩ | ⟨rfl, rfl, rfl, rfl, rfl⟩
  all_goals
    go_enter Try.func15, Try.ntmps15
    have tk0 : True := trivial
    have tk1 : True := trivial
    have tk2 : True := trivial
    have tk3 : True := trivial
    have tk4 : True := trivial
    go_wp2_with (first
      | (go_at_call 32; (with_reducible refine (awake_any _).mono ?_); rintro e w3 ⟨rfl, hb⟩; replace H := H.ext hb; clear hb; dsimp only; (skip))
      | (go_at_call 51; (with_reducible refine (a1 _).mono ?_); rintro e w3 ⟨rfl, hb⟩; replace H := H.ext hb; clear hb; dsimp only; (skip))
      | (go_at_call 51; (with_reducible refine (a2 _).mono ?_); rintro e w3 ⟨rfl, hb⟩; replace H := H.ext hb; clear hb; dsimp only; (skip))
      | (go_at_call 51; (with_reducible refine (s1 _).mono ?_); rintro e w3 ⟨rfl, hb⟩; replace H := H.ext hb; clear hb; dsimp only; (skip))
      | (go_at_call 51; (with_reducible refine (s2 _).mono ?_); rintro e w3 ⟨rfl, hb⟩; replace H := H.ext hb; clear hb; dsimp only; (skip))
      | (go_at_call 52; (with_reducible refine (d1 _).mono ?_); rintro e w3 ⟨rfl, hb⟩; replace H := H.ext hb; clear hb; dsimp only; (skip))
      | (go_at_call 56; (with_reducible refine (p1 _).mono ?_); rintro e w3 ⟨rfl, hb⟩; replace H := H.ext hb; clear hb; dsimp only; (skip))
      | (go_at_call 56; (with_reducible refine (p2 _).mono ?_); rintro e w3 ⟨rfl, hb⟩; replace H := H.ext hb; clear hb; dsimp only; (skip))
      | (go_at_call 56; (with_reducible refine (p3 _).mono ?_); rintro e w3 ⟨rfl, hb⟩; replace H := H.ext hb; clear hb; dsimp only; (skip))
      | (go_at_call 56; (with_reducible refine (p4 _).mono ?_); rintro e w3 ⟨rfl, hb⟩; replace H := H.ext hb; clear hb; dsimp only; (skip))
      | (guard_target =~ wpList _ _ _ (_ :: _) _ _; (first | (guard_target =~ wpList _ _ _ (Oper.mk _ (.load _ _) _ _ _ _ :: _) _ _; refine BigFrame.wpList_want rfl (fun K hK => ?_); (refine o_loadNC (row := ?_) rfl rfl H ?_ ?_ ?_ (hK _ _ ?_); rotate_left 1; (repeat first | exact .head _ | apply List.Mem.tail); (focus (intro _; simp [cells_iV, iL_length, setL_i, setL_ii, agg_iL]; done)); (focus (intro _; simp [cells_iV, iL_length, setL_i, setL_ii, agg_iL]; done))); clear hK K) | (guard_target =~ wpList _ _ _ (Oper.mk _ (.store _ _ _) _ _ _ _ :: _) _ _; refine BigFrame.wpList_want rfl (fun K hK => ?_); refine o_store (l' := ?_) (row := ?_) rfl rfl H rfl ?_ ?_ ?_ ?_ (fun w3 H2 => hK _ _ ?_); rotate_left 2; (exact r0); (focus (intro _; (simp [Act.eval, List.getD, cells_iV, iL_length, setL_i, setL_ii, agg_iL]; done))); (focus (simp [Act.eval, List.getD, cells_iV, iL_length, setL_i, setL_ii, agg_iL]; done)); (exact rfl); clear hK K; clear H; (try clear w2); revert w3; intro w2 H; (try simp [Act.eval, List.getD, cells_iV, iL_length, setL_i, setL_ii, agg_iL] at H); (try simp [Value.cells, setL, cells_iV, iL_length, setL_i, setL_ii, agg_iL] at H)) | ((first | (guard_target =~ wpList _ _ _ (Oper.mk _ (.alloc _) _ _ _ _ :: _) _ _; refine BigFrame.wpList_want rfl (fun K hK => ?_); refine o_alloc (z := ?_) rfl ?_ H rfl (fun w3 b2 he H2 => hK _ _ ?_); rotate_left 1; (focus (intro _; simp; with_reducible exact rfl))) | (guard_target =~ wpList _ _ _ (Oper.mk _ (.box _ _) _ _ _ _ :: _) _ _; refine BigFrame.wpList_want rfl (fun K hK => ?_); refine o_box rfl H rfl (fun w3 b2 he H2 => hK _ _ ?_))); clear hK K he; clear H; (try clear w2); revert w3; intro w2 H; (try simp [Act.eval, List.getD, cells_iV, iL_length, setL_i, setL_ii, agg_iL] at H); (try simp [Value.cells, setL, cells_iV, iL_length, setL_i, setL_ii, agg_iL] at H); (first | (clear tk0; rename Nat => c11) | (clear tk1; rename Nat => c12) | (clear tk2; rename Nat => c13) | (clear tk3; rename Nat => c14) | (clear tk4; rename Nat => c15) | (skip)))); simp only [Act.put, List.setIfInBounds_toArray, List.set_cons_succ, List.set_cons_zero, cells_iV, iL_length, setL_i, setL_ii, agg_iL]))
    go_ret
    exact ⟨rfl, H.below⟩
end Go.Proofs.Ytdgpdafkngoegaa
