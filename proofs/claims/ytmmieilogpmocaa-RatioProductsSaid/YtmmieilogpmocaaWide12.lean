/-
  The walks of layer 3 (wide): Gcd.
-/
import Derived.Test.YtmmieilogpmocaaWide11
namespace Go.Proofs.Ytmmieilogpmocaa
set_option linter.unusedVariables false
set_option linter.unusedSimpArgs false
open Go.RowKit

theorem ne_mwords (a b c d e f g h : Int) (w : World) : (binOp .neq 95 (.agg #[.int .u64 a, .int .u64 b, .int .u64 c, .int .u64 d, .int .u64 e, .int .u64 f, .int .u64 g, .int .u64 h]) (.agg #[.int .u64 0, .int .u64 0, .int .u64 0, .int .u64 0, .int .u64 0, .int .u64 0, .int .u64 0, .int .u64 0])).run Try.prog w =
    .ok (.bool (!eqL [(a, 0), (b, 0), (c, 0), (d, 0), (e, 0), (f, 0), (g, 0), (h, 0)])) w := run_neArr 95 8 (fun w => by kernel_rfl) [(a, 0), (b, 0), (c, 0), (d, 0), (e, 0), (f, 0), (g, 0), (h, 0)] rfl w
theorem ne_mV (m : Int) (hm : M512 m) (w : World) : (binOp .neq 95 (mV m) (.agg #[.int .u64 0, .int .u64 0, .int .u64 0, .int .u64 0, .int .u64 0, .int .u64 0, .int .u64 0, .int .u64 0])).run Try.prog w = .ok (.bool (!decide (m = 0))) w := by
  obtain ⟨a0, a1, a2, a3, a4, a5, a6, a7, h0, h1, h2, h3, h4, h5, h6, h7, hmm, eX⟩ := mV_words m hm
  rw [eX, ne_mwords]
  have : eqL [(a0, 0), (a1, 0), (a2, 0), (a3, 0), (a4, 0), (a5, 0), (a6, 0), (a7, 0)] = decide (m = 0) := by
    rw [Bool.eq_iff_iff, eqL_iff, ← hmm]
    simp only [List.mem_cons, List.not_mem_nil, or_false, forall_eq_or_imp, forall_eq, decide_eq_true_eq]
    unfold Wd at *
    constructor
    · rintro ⟨rfl, rfl, rfl, rfl, rfl, rfl, rfl, rfl⟩; rfl
    · intro h
      unfold mv at h
      omega
  rw [this]
theorem guard_mag (op : BinOp) (x y : Operand) (xs ys : Array Value) (w : World) : (eqGuard op 95 x y (.agg xs) (.agg ys)).run Try.prog w = .ok () w := by
  unfold eqGuard
  cases op <;> simp
theorem guard_mV (op : BinOp) (x y : Operand) (z : Int) (ys : Array Value) (w : World) : (eqGuard op 95 x y (mV z) (.agg ys)).run Try.prog w = .ok () w := guard_mag op x y _ ys w
/-- The greatest number that divides both. -/
def gcdZ (x y : Int) : Int := ((Int.gcd x y : Nat) : Int)
def GcdRel (w : World) (g : Nat) (c2 c3 c4 n6 n7 : Nat) (x y : Int) (k : Nat) (wr : World) : Prop :=
  ∃ p : Nat, p ≤ 57896044618658097711785492504343953926634992332820282019728792003956564819968 ∧ k ≤ 57896044618658097711785492504343953926634992332820282019728792003956564819968 ∧ Nat.gcd p k = g ∧
    Own w.heap.size w wr [.cells n7 (mL (k : Int)), .cells n6 (mL (p : Int)), .cells c4 [.int .u64 0, .int .u64 0, .int .u64 0, .int .u64 0], .cells c3 (iL y), .cells c2 (iL x)]
set_option maxRecDepth 100000 in
set_option maxHeartbeats 4000000 in
theorem Gcd_any (x y : Int) (hx : R256 x) (hy : R256 y) (w : World) :
    Calls Try.prog 52 #[iV x, iV y] w fun e w' => e = .returned (.tuple #[iV (fitZ (gcdZ x y)), .int .i64 (errZ (gcdZ x y))]) ∧ Below w.heap.size w w' := by
  have H := Own.start w
  have g1 := guard_mV
  have ax := absZ_lt hx
  have ay := absZ_lt hy
  have hpx := fun w => plain_any x hx w
  have hpy := fun w => plain_any y hy w
  rw [absZ_nat] at hpx hpy
  rw [absZ_nat] at ax ay
  have BX := Lib.hid ax
  have BY := Lib.hid ay
  clear ax ay
  go_enter Try.func52, Try.ntmps52
  have tk0 : True := trivial
  have tk1 : True := trivial
  have tk2 : True := trivial
  go_wp2_with (first
    | (guard_target =~ Code.wp _ (Code.region 1 _ true) _ _ _; refine region_tree0 1 (G := ?_) (.q 0 (.q 2 (.both (.e 1 (.both (.e 3 (.both (.e 4 (.e 5 (.e 6 (.e 7 .nil)))) (.e 5 (.e 4 (.e 6 (.e 7 .nil)))))) (.both (.e 4 (.both (.e 3 (.e 5 (.e 6 (.e 7 .nil)))) (.e 5 (.e 3 (.e 6 (.e 7 .nil)))))) (.e 5 (.both (.e 3 (.e 4 (.e 6 (.e 7 .nil)))) (.e 4 (.e 3 (.e 6 (.e 7 .nil))))))))) (.both (.e 4 (.both (.e 1 (.both (.e 3 (.e 5 (.e 6 (.e 7 .nil)))) (.e 5 (.e 3 (.e 6 (.e 7 .nil)))))) (.e 5 (.e 1 (.e 3 (.e 6 (.e 7 .nil))))))) (.e 5 (.both (.e 1 (.both (.e 3 (.e 4 (.e 6 (.e 7 .nil)))) (.e 4 (.e 3 (.e 6 (.e 7 .nil)))))) (.e 4 (.e 1 (.e 3 (.e 6 (.e 7 .nil))))))))))) (by kernel_rfl) (by intro c a d v w h; cases d <;> exact h) (by kernel_rfl) H ?_ (fun key1 w3 H2 => ?_); rotate_left 2; (revert w3; intro w2 H))
    | (guard_target =~ Key 1 _; refine ⟨?_⟩; intro nb4 nb5 w2 H)
    | (go_at_call 84; (with_reducible refine (hpx _).mono ?_); rintro e w3 ⟨rfl, hb⟩; replace H := H.ext hb; clear hb; dsimp only; (refine hK _ _ ⟨_, H, by repeat first | exact .here | apply Suf.there⟩ ?_; clear hK K; (try simp only [Act.put, List.setIfInBounds_toArray, List.set_cons_succ, List.set_cons_zero, cells_iV, cells_mV, iL_length, mL_length, setL_i, setL_ii, setL_m, setL_mm, agg_iL, agg_mL])))
    | (go_at_call 84; (with_reducible refine (hpy _).mono ?_); rintro e w3 ⟨rfl, hb⟩; replace H := H.ext hb; clear hb; dsimp only; (refine hK _ _ ⟨_, H, by repeat first | exact .here | apply Suf.there⟩ ?_; clear hK K; (try simp only [Act.put, List.setIfInBounds_toArray, List.set_cons_succ, List.set_cons_zero, cells_iV, cells_mV, iL_length, mL_length, setL_i, setL_ii, setL_m, setL_mm, agg_iL, agg_mL])))
    | (guard_target =~ wpList _ _ _ (_ :: _) _ _; ((first | (guard_target =~ wpList _ _ _ (Oper.mk _ (.alloc _) _ _ _ _ :: _) _ _; refine BigFrame.wpList_want rfl (fun K hK => ?_); refine o_alloc (z := ?_) rfl ?_ H rfl (fun w3 b2 he H2 => hK _ _ ?_); rotate_left 1; (focus (intro _; simp; with_reducible exact rfl))) | (guard_target =~ wpList _ _ _ (Oper.mk _ (.box _ _) _ _ _ _ :: _) _ _; refine BigFrame.wpList_want rfl (fun K hK => ?_); refine o_box rfl H rfl (fun w3 b2 he H2 => hK _ _ ?_))); clear hK K he; clear H; (try clear w2); revert w3; intro w2 H; (try simp [Act.eval, List.getD, cells_iV, cells_mV, iL_length, mL_length, setL_i, setL_ii, setL_m, setL_mm, agg_iL, agg_mL] at H); (try simp [Value.cells, setL, cells_iV, cells_mV, iL_length, mL_length, setL_i, setL_ii, setL_m, setL_mm, agg_iL, agg_mL] at H); (first | (clear tk0; rename Nat => c2) | (clear tk1; rename Nat => c3) | (clear tk2; rename Nat => c4))); simp only [Act.put, List.setIfInBounds_toArray, List.set_cons_succ, List.set_cons_zero, cells_iV, cells_mV, iL_length, mL_length, setL_i, setL_ii, setL_m, setL_mm, agg_iL, agg_mL])
    | (guard_target =~ wpTree _ _ _ _ _ _ _; first | (guard_target =~ wpTree _ _ _ (Tr.q _ _) _ _ _; first | (refine tree_quiet ⟨_, H, by repeat first | exact .here | apply Suf.there⟩ rfl rfl rfl (fun K hK => ?_); simp only [List.getElem_toArray, List.getElem_cons_succ, List.getElem_cons_zero]; first | (guard_target =~ Oper.quiet _ (Oper.mk _ (.load _ _) _ _ _ _) _ _ _; (refine q_loadNC (row := ?_) rfl rfl ?_ ?_ ?_ (hK _ ?_); rotate_left 1; (repeat first | exact .head _ | apply List.Mem.tail); (focus (intro _; simp [cells_iV, cells_mV, iL_length, mL_length, setL_i, setL_ii, setL_m, setL_mm, agg_iL, agg_mL]; done)); (focus (intro _; simp [cells_iV, cells_mV, iL_length, mL_length, setL_i, setL_ii, setL_m, setL_mm, agg_iL, agg_mL]; done))); clear hK K; simp only [Act.put, List.setIfInBounds_toArray, List.set_cons_succ, List.set_cons_zero, cells_iV, cells_mV, iL_length, mL_length, setL_i, setL_ii, setL_m, setL_mm, agg_iL, agg_mL]) | (go_big_quiet_op; (try refine ⟨_, fun _ _ => rfl, ?_⟩); refine hK _ ?_; clear hK K)) | (refine tree_skip ⟨_, H, by repeat first | exact .here | apply Suf.there⟩ rfl rfl ?_; simp only [List.getElem_toArray, List.getElem_cons_succ, List.getElem_cons_zero, Act.put, List.setIfInBounds_toArray, List.set_cons_succ, List.set_cons_zero])) | (guard_target =~ wpTree _ _ _ (Tr.e _ _) _ _ _; (first | (guard_target =~ wpTree _ _ _ (Tr.e 4 _) _ _ _; refine tree_one rfl rfl (fun K hK => ?_); simp only [List.getElem_toArray, List.getElem_cons_succ, List.getElem_cons_zero]; ((guard_target =~ Oper.wp _ (Oper.mk _ (.alloc _) _ _ _ _) _ _ _ _; refine o_alloc (z := ?_) rfl ?_ H rfl (fun w3 b2 he H2 => hK _ _ ⟨_, H2, ?_⟩ ?_); rotate_left 1; (focus (intro _; simp; with_reducible exact rfl))); (guard_target =~ Suf _ _; repeat first | exact .here | apply Suf.there); clear hK K he; clear H; (try clear w2); revert w3; intro w2 H; (try simp [Act.eval, List.getD, cells_iV, cells_mV, iL_length, mL_length, setL_i, setL_ii, setL_m, setL_mm, agg_iL, agg_mL] at H); (try simp [Value.cells, setL, cells_iV, cells_mV, iL_length, mL_length, setL_i, setL_ii, setL_m, setL_mm, agg_iL, agg_mL] at H)); simp only [Act.put, List.setIfInBounds_toArray, List.set_cons_succ, List.set_cons_zero, cells_iV, cells_mV, iL_length, mL_length, setL_i, setL_ii, setL_m, setL_mm, agg_iL, agg_mL]; rename Nat => nb4) | (guard_target =~ wpTree _ _ _ (Tr.e 5 _) _ _ _; refine tree_one rfl rfl (fun K hK => ?_); simp only [List.getElem_toArray, List.getElem_cons_succ, List.getElem_cons_zero]; ((guard_target =~ Oper.wp _ (Oper.mk _ (.alloc _) _ _ _ _) _ _ _ _; refine o_alloc (z := ?_) rfl ?_ H rfl (fun w3 b2 he H2 => hK _ _ ⟨_, H2, ?_⟩ ?_); rotate_left 1; (focus (intro _; simp; with_reducible exact rfl))); (guard_target =~ Suf _ _; repeat first | exact .here | apply Suf.there); clear hK K he; clear H; (try clear w2); revert w3; intro w2 H; (try simp [Act.eval, List.getD, cells_iV, cells_mV, iL_length, mL_length, setL_i, setL_ii, setL_m, setL_mm, agg_iL, agg_mL] at H); (try simp [Value.cells, setL, cells_iV, cells_mV, iL_length, mL_length, setL_i, setL_ii, setL_m, setL_mm, agg_iL, agg_mL] at H)); simp only [Act.put, List.setIfInBounds_toArray, List.set_cons_succ, List.set_cons_zero, cells_iV, cells_mV, iL_length, mL_length, setL_i, setL_ii, setL_m, setL_mm, agg_iL, agg_mL]; rename Nat => nb5))) | (guard_target =~ wpTree _ _ _ (Tr.both _ _) _ _ _; refine tree_both ?_ ?_) | (guard_target =~ wpTree _ _ _ (Tr.e _ _) _ _ _; first | (refine tree_one rfl rfl (fun K hK => ?_); simp only [List.getElem_toArray, List.getElem_cons_succ, List.getElem_cons_zero]; first | ((guard_target =~ Oper.wp _ (Oper.mk _ (.store _ _ _) _ _ _ _) _ _ _ _; refine o_store (l' := ?_) (row := ?_) rfl rfl H rfl ?_ ?_ ?_ ?_ (fun w3 H2 => hK _ _ ⟨_, H2, ?_⟩ ?_); rotate_left 2; (first | exact r0 | exact r1); (focus (intro _; (simp [Act.eval, List.getD, cells_iV, cells_mV, iL_length, mL_length, setL_i, setL_ii, setL_m, setL_mm, agg_iL, agg_mL]; done))); (focus (simp [Act.eval, List.getD, cells_iV, cells_mV, iL_length, mL_length, setL_i, setL_ii, setL_m, setL_mm, agg_iL, agg_mL]; done)); (exact rfl); (guard_target =~ Suf _ _; repeat first | exact .here | apply Suf.there); clear hK K; clear H; (try clear w2); revert w3; intro w2 H; (try simp [Act.eval, List.getD, cells_iV, cells_mV, iL_length, mL_length, setL_i, setL_ii, setL_m, setL_mm, agg_iL, agg_mL] at H); (try simp [Value.cells, setL, cells_iV, cells_mV, iL_length, mL_length, setL_i, setL_ii, setL_m, setL_mm, agg_iL, agg_mL] at H)); simp only [Act.put, List.setIfInBounds_toArray, List.set_cons_succ, List.set_cons_zero, cells_iV, cells_mV, iL_length, mL_length, setL_i, setL_ii, setL_m, setL_mm, agg_iL, agg_mL]) | go_big_op) | (refine tree_one_skip ⟨_, H, by repeat first | exact .here | apply Suf.there⟩ rfl rfl ?_; simp only [List.getElem_toArray, List.getElem_cons_succ, List.getElem_cons_zero, Act.put, List.setIfInBounds_toArray, List.set_cons_succ, List.set_cons_zero])) | (refine tree_nil ?_; revert w2; revert nb5; revert nb4; exact key1.out) | (refine tree_nil ?_; replace H := H.swap; revert w2; revert nb5; revert nb4; exact key1.out) | (refine tree_nil ?_; replace H := H.swap1; revert w2; revert nb5; revert nb4; exact key1.out) | (refine tree_nil ?_; replace H := H.swap.swap1; revert w2; revert nb5; revert nb4; exact key1.out) | (refine tree_nil ?_; replace H := H.swap1.swap; revert w2; revert nb5; revert nb4; exact key1.out) | (refine tree_nil ?_; replace H := H.swap1.swap.swap1; revert w2; revert nb5; revert nb4; exact key1.out) | (guard_target =~ wpTree _ _ _ Tr.nil _ _ _; refine tree_nil ?_)))
  go_loopg [] y.natAbs (GcdRel w (Nat.gcd x.natAbs y.natAbs) c2 c3 c4 nb4 nb5 x y)
  case atStart =>
    have ax := BX.out
    have ay := BY.out
    refine ⟨x.natAbs, by omega, by omega, rfl, ?_⟩
    first | exact H | exact H.swap
  case round =>
    obtain ⟨p, bp, bk, hg, H⟩ := hrel
    have HG := Lib.hid hg
    clear hg
    have mk : M512 (gk : Int) := (M512_iff _).2 (by unfold big; omega)
    have mp : M512 (p : Int) := (M512_iff _).2 (by unfold big; omega)
    have hne := ne_mV _ mk
    by_cases h0 : 0 < gk
    · have d0 : decide ((gk : Int) = 0) = false := by simp; omega
      rw [d0] at hne
      have hp := fun w => parts_any (p : Int) (gk : Int) mp (by omega) mk (by omega) (by omega) w
      have tk0 : True := trivial
      have tk1 : True := trivial
      go_wp2_with (first
        | (guard_target =~ Code.wp _ (Code.region 4 _ true) _ _ _; replace H := (H.front3).front3; refine region_tree 4 2 (G := True) (.q 1 (.e 0 (.e 2 (.e 3 .nil)))) (by kernel_rfl) (by intro c a d v w h; cases d <;> exact h) (by kernel_rfl) H ⟨trivial⟩ (fun _ w3 H2 => ?_); (clear H; (try clear w2); revert w3; intro w2 H); simp only [List.drop_succ_cons, List.drop_zero])
        | (go_at_call 85; (with_reducible refine (hp _).mono ?_); rintro e w3 ⟨rfl, hb⟩; replace H := H.ext hb; clear hb; dsimp only; (skip))
        | (guard_target =~ wpList _ _ _ (_ :: _) _ _; (first | (guard_target =~ wpList _ _ _ (Oper.mk _ (.load _ _) _ _ _ _ :: _) _ _; refine BigFrame.wpList_want rfl (fun K hK => ?_); (refine o_loadNC (row := ?_) rfl rfl H ?_ ?_ ?_ (hK _ _ ?_); rotate_left 1; (repeat first | exact .head _ | apply List.Mem.tail); (focus (intro _; simp [cells_iV, cells_mV, iL_length, mL_length, setL_i, setL_ii, setL_m, setL_mm, agg_iL, agg_mL]; done)); (focus (intro _; simp [cells_iV, cells_mV, iL_length, mL_length, setL_i, setL_ii, setL_m, setL_mm, agg_iL, agg_mL]; done))); clear hK K) | (guard_target =~ wpList _ _ _ (Oper.mk _ (.store _ _ _) _ _ _ _ :: _) _ _; refine BigFrame.wpList_want rfl (fun K hK => ?_); refine o_store (l' := ?_) (row := ?_) rfl rfl H rfl ?_ ?_ ?_ ?_ (fun w3 H2 => hK _ _ ?_); rotate_left 2; (first | exact r0 | exact r1); (focus (intro _; (simp [Act.eval, List.getD, cells_iV, cells_mV, iL_length, mL_length, setL_i, setL_ii, setL_m, setL_mm, agg_iL, agg_mL]; done))); (focus (simp [Act.eval, List.getD, cells_iV, cells_mV, iL_length, mL_length, setL_i, setL_ii, setL_m, setL_mm, agg_iL, agg_mL]; done)); (exact rfl); clear hK K; clear H; (try clear w2); revert w3; intro w2 H; (try simp [Act.eval, List.getD, cells_iV, cells_mV, iL_length, mL_length, setL_i, setL_ii, setL_m, setL_mm, agg_iL, agg_mL] at H); (try simp [Value.cells, setL, cells_iV, cells_mV, iL_length, mL_length, setL_i, setL_ii, setL_m, setL_mm, agg_iL, agg_mL] at H)) | ((guard_target =~ wpList _ _ _ (Oper.mk _ (.alloc _) _ _ _ _ :: _) _ _; refine BigFrame.wpList_want rfl (fun K hK => ?_); refine o_alloc (z := ?_) rfl ?_ H rfl (fun w3 b2 he H2 => hK _ _ ?_); rotate_left 1; (focus (intro _; simp; with_reducible exact rfl))); clear hK K he; clear H; (try clear w2); revert w3; intro w2 H; (try simp [Act.eval, List.getD, cells_iV, cells_mV, iL_length, mL_length, setL_i, setL_ii, setL_m, setL_mm, agg_iL, agg_mL] at H); (try simp [Value.cells, setL, cells_iV, cells_mV, iL_length, mL_length, setL_i, setL_ii, setL_m, setL_mm, agg_iL, agg_mL] at H); (first | (clear tk0; rename Nat => n8) | (clear tk1; rename Nat => n9)))); simp only [Act.put, List.setIfInBounds_toArray, List.set_cons_succ, List.set_cons_zero, cells_iV, cells_mV, iL_length, mL_length, setL_i, setL_ii, setL_m, setL_mm, agg_iL, agg_mL])
        | (guard_target =~ wpTree _ _ _ _ _ _ _; first | (guard_target =~ wpTree _ _ _ (Tr.q _ _) _ _ _; first | (refine tree_quiet ⟨_, H, by repeat first | exact .here | apply Suf.there⟩ rfl rfl rfl (fun K hK => ?_); simp only [List.getElem_toArray, List.getElem_cons_succ, List.getElem_cons_zero]; first | (guard_target =~ Oper.quiet _ (Oper.mk _ (.load _ _) _ _ _ _) _ _ _; (refine q_loadNC (row := ?_) rfl rfl ?_ ?_ ?_ (hK _ ?_); rotate_left 1; (repeat first | exact .head _ | apply List.Mem.tail); (focus (intro _; simp [cells_iV, cells_mV, iL_length, mL_length, setL_i, setL_ii, setL_m, setL_mm, agg_iL, agg_mL]; done)); (focus (intro _; simp [cells_iV, cells_mV, iL_length, mL_length, setL_i, setL_ii, setL_m, setL_mm, agg_iL, agg_mL]; done))); clear hK K; simp only [Act.put, List.setIfInBounds_toArray, List.set_cons_succ, List.set_cons_zero, cells_iV, cells_mV, iL_length, mL_length, setL_i, setL_ii, setL_m, setL_mm, agg_iL, agg_mL]) | (go_big_quiet_op; (try refine ⟨_, fun _ _ => rfl, ?_⟩); refine hK _ ?_; clear hK K)) | (refine tree_skip ⟨_, H, by repeat first | exact .here | apply Suf.there⟩ rfl rfl ?_; simp only [List.getElem_toArray, List.getElem_cons_succ, List.getElem_cons_zero, Act.put, List.setIfInBounds_toArray, List.set_cons_succ, List.set_cons_zero])) | (guard_target =~ wpTree _ _ _ (Tr.both _ _) _ _ _; refine tree_both ?_ ?_) | (guard_target =~ wpTree _ _ _ (Tr.e _ _) _ _ _; first | (refine tree_one rfl rfl (fun K hK => ?_); simp only [List.getElem_toArray, List.getElem_cons_succ, List.getElem_cons_zero]; first | ((first | (guard_target =~ Oper.wp _ (Oper.mk _ (.store _ _ _) _ _ _ _) _ _ _ _; refine o_store (l' := ?_) (row := ?_) rfl rfl H rfl ?_ ?_ ?_ ?_ (fun w3 H2 => hK _ _ ⟨_, H2, ?_⟩ ?_); rotate_left 2; (first | exact r0 | exact r1); (focus (intro _; (simp [Act.eval, List.getD, cells_iV, cells_mV, iL_length, mL_length, setL_i, setL_ii, setL_m, setL_mm, agg_iL, agg_mL]; done))); (focus (simp [Act.eval, List.getD, cells_iV, cells_mV, iL_length, mL_length, setL_i, setL_ii, setL_m, setL_mm, agg_iL, agg_mL]; done)); (exact rfl); (guard_target =~ Suf _ _; repeat first | exact .here | apply Suf.there); clear hK K; clear H; (try clear w2); revert w3; intro w2 H; (try simp [Act.eval, List.getD, cells_iV, cells_mV, iL_length, mL_length, setL_i, setL_ii, setL_m, setL_mm, agg_iL, agg_mL] at H); (try simp [Value.cells, setL, cells_iV, cells_mV, iL_length, mL_length, setL_i, setL_ii, setL_m, setL_mm, agg_iL, agg_mL] at H)) | (guard_target =~ Oper.wp _ (Oper.mk _ (.load _ _) _ _ _ _) _ _ _ _; (refine o_loadNC (row := ?_) rfl rfl H ?_ ?_ ?_ (hK _ _ ⟨_, H, by repeat first | exact .here | apply Suf.there⟩ ?_); rotate_left 1; (repeat first | exact .head _ | apply List.Mem.tail); (focus (intro _; simp [cells_iV, cells_mV, iL_length, mL_length, setL_i, setL_ii, setL_m, setL_mm, agg_iL, agg_mL]; done)); (focus (intro _; simp [cells_iV, cells_mV, iL_length, mL_length, setL_i, setL_ii, setL_m, setL_mm, agg_iL, agg_mL]; done))); clear hK K)); simp only [Act.put, List.setIfInBounds_toArray, List.set_cons_succ, List.set_cons_zero, cells_iV, cells_mV, iL_length, mL_length, setL_i, setL_ii, setL_m, setL_mm, agg_iL, agg_mL]) | go_big_op) | (refine tree_one_skip ⟨_, H, by repeat first | exact .here | apply Suf.there⟩ rfl rfl ?_; simp only [List.getElem_toArray, List.getElem_cons_succ, List.getElem_cons_zero, Act.put, List.setIfInBounds_toArray, List.set_cons_succ, List.set_cons_zero])) | (guard_target =~ wpTree _ _ _ Tr.nil _ _ _; refine tree_nil ?_)))
      go_roundg (p % gk)
      case rel =>
        refine ⟨gk, by omega, ?_, ?_, ?_⟩
        · have := Nat.mod_lt p h0; omega
        · rw [← HG.out, Nat.gcd_comm gk, ← Nat.gcd_rec, Nat.gcd_comm]
        · rw [Int.natCast_emod]
          exact H.sub (.cons_cons _ (.cons_cons _ (.cons _ (.cons _ (.refl _)))))
      case measure => exact Nat.mod_lt _ h0
    · obtain rfl : gk = 0 := by omega
      have e0 : ((0 : Nat) : Int) = 0 := rfl
      rw [e0] at H hne mk
      have d0 : decide ((0 : Int) = 0) = true := rfl
      rw [d0] at hne
      have hg : p = Nat.gcd x.natAbs y.natAbs := by rw [← HG.out, Nat.gcd_zero_right]
      have hz : gcdZ x y = (p : Int) := by unfold gcdZ; rw [hg]; rfl
      have HZ := Lib.hid hz
      have hs := fun w => signed_any (p : Int) false mp w
      have hsg : sgZ (p : Int) false = (p : Int) := rfl
      rw [hsg] at hs
      clear hz hg hsg HG bp bk e0 d0
      go_wp2_with (first
        | (go_at_call 86; (with_reducible refine (hs _).mono ?_); rintro e w3 ⟨rfl, hb⟩; replace H := H.ext hb; clear hb; dsimp only; (skip))
        | (guard_target =~ wpList _ _ _ (_ :: _) _ _; (first | (guard_target =~ wpList _ _ _ (Oper.mk _ (.load _ _) _ _ _ _ :: _) _ _; refine BigFrame.wpList_want rfl (fun K hK => ?_); (refine o_loadNC (row := ?_) rfl rfl H ?_ ?_ ?_ (hK _ _ ?_); rotate_left 1; (repeat first | exact .head _ | apply List.Mem.tail); (focus (intro _; simp [cells_iV, cells_mV, iL_length, mL_length, setL_i, setL_ii, setL_m, setL_mm, agg_iL, agg_mL]; done)); (focus (intro _; simp [cells_iV, cells_mV, iL_length, mL_length, setL_i, setL_ii, setL_m, setL_mm, agg_iL, agg_mL]; done))); clear hK K) | (guard_target =~ wpList _ _ _ (Oper.mk _ (.store _ _ _) _ _ _ _ :: _) _ _; refine BigFrame.wpList_want rfl (fun K hK => ?_); refine o_store (l' := ?_) (row := ?_) rfl rfl H rfl ?_ ?_ ?_ ?_ (fun w3 H2 => hK _ _ ?_); rotate_left 2; (exact r2); (focus (intro _; (simp [Act.eval, List.getD, cells_iV, cells_mV, iL_length, mL_length, setL_i, setL_ii, setL_m, setL_mm, agg_iL, agg_mL]; done))); (focus (simp [Act.eval, List.getD, cells_iV, cells_mV, iL_length, mL_length, setL_i, setL_ii, setL_m, setL_mm, agg_iL, agg_mL]; done)); (exact rfl); clear hK K; clear H; (try clear w2); revert w3; intro w2 H; (try simp [Act.eval, List.getD, cells_iV, cells_mV, iL_length, mL_length, setL_i, setL_ii, setL_m, setL_mm, agg_iL, agg_mL] at H); (try simp [Value.cells, setL, cells_iV, cells_mV, iL_length, mL_length, setL_i, setL_ii, setL_m, setL_mm, agg_iL, agg_mL] at H))); simp only [Act.put, List.setIfInBounds_toArray, List.set_cons_succ, List.set_cons_zero, cells_iV, cells_mV, iL_length, mL_length, setL_i, setL_ii, setL_m, setL_mm, agg_iL, agg_mL]))
      have r4 := H.loadVarN (P := Try.prog) (ty := 24) m2 (by simp) (by simp [iL_length])
      exact bodyPost_ret (v := .tuple #[iV (fitZ (p : Int)), .int .i64 (errZ (p : Int))]) (by simp [results, Try.results52, asAddr, r4, agg_iL]) rfl ⟨by rw [HZ.out], H.below⟩
end Go.Proofs.Ytmmieilogpmocaa
