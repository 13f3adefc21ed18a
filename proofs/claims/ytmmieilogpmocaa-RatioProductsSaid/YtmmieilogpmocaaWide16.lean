/-
  The walks of layer 3 (wide): product.
-/
import Derived.Test.YtmmieilogpmocaaWide10
import Derived.Test.YtmmieilogpmocaaDigB
import Derived.Test.YtmmieilogpmocaaOwn3
namespace Go.Proofs.Ytmmieilogpmocaa
set_option linter.unusedVariables false
set_option linter.unusedSimpArgs false
open Go.RowKit

def wB : Nat := 18446744073709551616
def wl (l : List Nat) : List Value := l.map fun (d : Nat) => Value.int .u64 (d : Int)
theorem wl_length (l : List Nat) : (wl l).length = l.length := by simp [wl]
theorem wl_set (l : List Nat) (k v : Nat) : (wl l).set k (.int .u64 (v : Int)) = wl (l.set k v) := by simp [wl, List.map_set]
theorem wl_get {l : List Nat} {j : Nat} (h : j < l.length) : (wl l)[j]? = some (Value.int .u64 ((l.getD j 0 : Nat) : Int)) := by simp [wl, h]
theorem wl_one (l : List Nat) : (wl l).all (·.oneCell') = true := by simp [wl, Value.oneCell']
def WB (l : List Nat) : Prop := ∀ d ∈ l, d < wB
theorem WB.get {l : List Nat} (h : WB l) (j : Nat) : l.getD j 0 < 18446744073709551616 := by
  by_cases hj : j < l.length
  · rw [List.getD_eq_getElem?_getD, List.getElem?_eq_getElem hj]; exact h _ (List.getElem_mem hj)
  · rw [List.getD_eq_getElem?_getD, List.getElem?_eq_none (by omega)]; simp
theorem WB.set {l : List Nat} (h : WB l) (k v : Nat) (hv : v < 18446744073709551616) : WB (l.set k v) := fun d hd => by
  rcases List.mem_or_eq_of_mem_set hd with h' | h'
  · exact h d h'
  · rw [h']; exact hv
theorem mL_wl (l : List Nat) (h8 : l.length = 8) (hd : WB l) : mL ((vB wB l : Nat) : Int) = wl l := by
  match l, h8 with
  | [a, b, c, d, e, f, g, h], _ =>
    have q : ∀ x ∈ [a, b, c, d, e, f, g, h], Wd (x : Int) := fun x hx => by have := hd x hx; unfold wB at this; unfold Wd; omega
    have := mV_mv (q a (by simp)) (q b (by simp)) (q c (by simp)) (q d (by simp)) (q e (by simp)) (q f (by simp)) (q g (by simp)) (q h (by simp))
    have e1 : ((vB wB [a, b, c, d, e, f, g, h] : Nat) : Int) = mv a b c d e f g h := by
      unfold mv; simp only [vB, wB]; omega
    rw [e1]
    rw [mV_eq] at this
    injection this with this
    have := congrArg Array.toList this
    exact this
theorem words_of (x : Int) (hx : M512 x) : ∃ l, l.length = 8 ∧ WB l ∧ ((vB wB l : Nat) : Int) = x ∧ mL x = wl l := by
  obtain ⟨a, b, c, d, e, f, g, h, ha, hb, hc, hd, he, hf, hg, hh, hm, eX⟩ := mV_words x hx
  have q : ∀ z : Int, Wd z → ∃ n : Nat, z = (n : Int) ∧ n < wB := fun z hz => ⟨z.toNat, by unfold Wd at hz; omega, by unfold Wd at hz; unfold wB; omega⟩
  obtain ⟨a, rfl, qa⟩ := q a ha
  obtain ⟨b, rfl, qb⟩ := q b hb
  obtain ⟨c, rfl, qc⟩ := q c hc
  obtain ⟨d, rfl, qd⟩ := q d hd
  obtain ⟨e, rfl, qe⟩ := q e he
  obtain ⟨f, rfl, qf⟩ := q f hf
  obtain ⟨g, rfl, qg⟩ := q g hg
  obtain ⟨h, rfl, qh⟩ := q h hh
  have hw : WB [a, b, c, d, e, f, g, h] := by intro z hz; simp at hz; rcases hz with rfl | rfl | rfl | rfl | rfl | rfl | rfl | rfl <;> assumption
  have e1 : ((vB wB [a, b, c, d, e, f, g, h] : Nat) : Int) = x := by
    rw [← hm]; unfold mv; simp only [vB, wB]; omega
  exact ⟨[a, b, c, d, e, f, g, h], rfl, hw, e1, by rw [← e1]; exact mL_wl _ rfl hw⟩
/-- A number below 2^256: four words, and four noughts. -/
theorem words4_of (x : Int) (hx : M512 x) (h4 : x < 115792089237316195423570985008687907853269984665640564039457584007913129639936) : ∃ l, l.length = 4 ∧ WB l ∧ ((vB wB l : Nat) : Int) = x ∧ mL x = wl (l ++ [0, 0, 0, 0]) := by
  obtain ⟨l, h8, hw, hv, hm⟩ := words_of x hx
  match l, h8 with
  | [a, b, c, d, e, f, g, h], _ =>
    simp only [vB, wB] at hv
    obtain rfl : e = 0 := by omega
    obtain rfl : f = 0 := by omega
    obtain rfl : g = 0 := by omega
    obtain rfl : h = 0 := by omega
    exact ⟨[a, b, c, d], rfl, fun z hz => hw z (by simp at hz ⊢; rcases hz with rfl | rfl | rfl | rfl <;> simp), by simp only [vB, wB]; omega, hm⟩
def Up0 (l : List Nat) (k : Nat) : Prop := ∀ q, k ≤ q → l.getD q 0 = 0
def ProdRel (w : World) (la lb : List Nat) (c2 c3 c4 c5 : Nat) (k : Nat) (i : Value) (wr : World) : Prop :=
  ∃ (n : Nat) (l : List Nat), n + k = 4 ∧ i = .int .i64 (n : Int) ∧ l.length = 8 ∧ WB l ∧ vB wB l = vB wB (la.take n) * vB wB lb ∧ Up0 l (n + 4) ∧
    Own w.heap.size w wr [.cells c5 (wl l), .cells c4 [.int .u64 0, .int .u64 0, .int .u64 0, .int .u64 0, .int .u64 0, .int .u64 0, .int .u64 0, .int .u64 0], .cells c3 (wl (lb ++ [0, 0, 0, 0])), .cells c2 (wl (la ++ [0, 0, 0, 0]))]
def ProdIn (w : World) (la lb : List Nat) (n x p : Nat) (c2 c3 c4 c5 : Nat) (k : Nat) (cy j : Value) (wr : World) : Prop :=
  ∃ (m c : Nat) (l : List Nat), m + k = 4 ∧ j = .int .i64 (m : Int) ∧ cy = .int .u64 (c : Int) ∧ c < 18446744073709551616 ∧ l.length = 8 ∧ WB l ∧ vB wB l + wB ^ (n + m) * c = p + wB ^ n * (x * vB wB (lb.take m)) ∧ Up0 l (n + 4) ∧
    Own w.heap.size w wr [.cells c5 (wl l), .cells c4 [.int .u64 0, .int .u64 0, .int .u64 0, .int .u64 0, .int .u64 0, .int .u64 0, .int .u64 0, .int .u64 0], .cells c3 (wl (lb ++ [0, 0, 0, 0])), .cells c2 (wl (la ++ [0, 0, 0, 0]))]
theorem getD_pre {l : List Nat} {j : Nat} (h : j < l.length) (m : List Nat) : (l ++ m).getD j 0 = l.getD j 0 := by
  simp [List.getD_eq_getElem?_getD, List.getElem?_append_left h]
theorem Up0.set {l : List Nat} {k q v : Nat} (h : Up0 l k) (hq : q < k) : Up0 (l.set q v) k := fun r hr => by
  have := h r hr
  rw [List.getD_eq_getElem?_getD] at this ⊢
  rw [List.getElem?_set_ne (by omega)]
  exact this
set_option maxRecDepth 100000 in
set_option maxHeartbeats 4000000 in
theorem product_w (la lb : List Nat) (ha : la.length = 4) (hb : lb.length = 4) (wa : WB la) (wb : WB lb) (w : World) :
    Calls Try.prog 96 #[.agg (wl (la ++ [0, 0, 0, 0])).toArray, .agg (wl (lb ++ [0, 0, 0, 0])).toArray] w fun e w' => (∃ l, l.length = 8 ∧ WB l ∧ vB wB l = vB wB la * vB wB lb ∧ e = .returned (.agg (wl l).toArray)) ∧ Below w.heap.size w w' := by
  have H := Own.start w
  have HA := Lib.hid ha
  have HB := Lib.hid hb
  have h8 : ∀ l m : List Nat, l.length = 4 → (wl (l ++ [0, 0, 0, 0])).length = 8 := fun l m h => by rw [wl_length]; simp [h]
  have la8 := Lib.hid (h8 la la ha)
  have lb8 := Lib.hid (h8 lb lb hb)
  have ca : (Value.agg (wl (la ++ [0, 0, 0, 0])).toArray).cells = (wl (la ++ [0, 0, 0, 0])).toArray := rfl
  clear ha hb h8
  go_enter Try.func96, Try.ntmps96
  have tk0 : True := trivial
  have tk1 : True := trivial
  have tk2 : True := trivial
  have tk3 : True := trivial
  go_wp2_with (guard_target =~ wpList _ _ _ (_ :: _) _ _; ((first | (guard_target =~ wpList _ _ _ (Oper.mk _ (.alloc _) _ _ _ _ :: _) _ _; refine BigFrame.wpList_want rfl (fun K hK => ?_); refine o_alloc (z := ?_) rfl ?_ H rfl (fun w3 b2 he H2 => hK _ _ ?_); rotate_left 1; (focus (intro _; simp; with_reducible exact rfl))) | (guard_target =~ wpList _ _ _ (Oper.mk _ (.box _ _) _ _ _ _ :: _) _ _; refine BigFrame.wpList_want rfl (fun K hK => ?_); refine o_box rfl H rfl (fun w3 b2 he H2 => hK _ _ ?_))); clear hK K he; clear H; (try clear w2); revert w3; intro w2 H; simp [Act.eval, Value.cells, setL, List.getD] at H; (first | (clear tk0; rename Nat => c2) | (clear tk1; rename Nat => c3) | (clear tk2; rename Nat => c4) | (clear tk3; rename Nat => c5))); simp only [Act.put, List.setIfInBounds_toArray, List.set_cons_succ, List.set_cons_zero])
  go_loopg [12] 4 (ProdRel w la lb c2 c3 c4 c5)
  case atStart =>
    refine ⟨0, List.replicate 8 0, rfl, rfl, by simp, fun d hd => ?_, by rw [vB_zeros]; simp [vB], fun q hq => ?_, ?_⟩
    · rw [(List.mem_replicate.1 hd).2]; unfold wB; omega
    · rw [List.getD_eq_getElem?_getD, List.getElem?_replicate]; split <;> rfl
    · exact H
  case round =>
    clear H
    obtain ⟨n, l, hk, rfl, l8, gl, hv, hu, H⟩ := hrel
    have L8 := Lib.hid l8
    have HV := Lib.hid hv
    clear l8 hv
    by_cases h4 : n < 4
    · go_wp2_with (first | fail)
      go_loopg [7, 15] 4 (ProdIn w la lb n (la.getD n 0) (vB wB (la.take n) * vB wB lb) c2 c3 c4 c5)
      case atStart =>
        exact ⟨0, 0, l, rfl, rfl, rfl, by omega, L8.out, gl, by rw [HV.out]; simp [vB], hu, H⟩
      case round =>
        clear H
        obtain ⟨m, c, l, hk2, rfl, rfl, hc, l8, gl, hv, hu, H⟩ := hrel
        replace L8 := Lib.hid l8
        have HI := Lib.hid hv
        clear l8 hv HV
        by_cases h5 : m < 4
        · obtain ⟨x, hx⟩ : ∃ x, la.getD n 0 = x := ⟨_, rfl⟩
          obtain ⟨y, hy⟩ : ∃ y, lb.getD m 0 = y := ⟨_, rfl⟩
          obtain ⟨o, ho⟩ : ∃ o, l.getD (n + m) 0 = o := ⟨_, rfl⟩
          have bx := wa.get n
          have by_ := wb.get m
          have bo := gl.get (n + m)
          rw [hx] at bx
          rw [hy] at by_
          rw [ho] at bo
          have ldA : (Res.cells c2 (wl (la ++ [0, 0, 0, 0]))).at c2 n [.int .u64 (x : Int)] := at_cells (by rw [wl_get (by simp [HA.out]; omega), getD_pre (by rw [HA.out]; exact h4), hx])
          have ldB : (Res.cells c3 (wl (lb ++ [0, 0, 0, 0]))).at c3 m [.int .u64 (y : Int)] := at_cells (by rw [wl_get (by simp [HB.out]; omega), getD_pre (by rw [HB.out]; exact h5), hy])
          have ldO : (Res.cells c5 (wl l)).at c5 (n + m) [.int .u64 (o : Int)] := at_cells (by rw [wl_get (by rw [L8.out]; omega), ho])
          have wlen : (wl l).length = 8 := by rw [wl_length, L8.out]
          obtain ⟨hi, lo, p', HM, HP, E1, blo, bp⟩ := mul64_ex x y bx by_
          obtain ⟨r1, q1, A1, hr1, hq1, F1⟩ := add64_ex lo o 0 (by unfold Wd; omega) (by unfold Wd; omega) (by omega) (by omega)
          obtain ⟨r2, q2, A2, hr2, hq2, F2⟩ := add64_ex r1 c 0 hr1 (by unfold Wd; omega) (by omega) (by omega)
          have bs : (hi : Int) + q1 + q2 ≤ 18446744073709551615 := by
            have f1 := F1.out
            have f2 := F2.out
            unfold Wd at hr1 hr2
            omega
          have HX := Lib.hid hx
          have HY := Lib.hid hy
          have HO := Lib.hid ho
          have HE := Lib.hid (And.intro E1 (And.intro F1 F2))
          clear hx hy ho E1 F1 F2 bp
          go_wp2_with (first
            | (guard_target =~ Code.wp _ (Code.region 9 _ true) _ _ _; refine region_tree0 9 (G := True) (.q 0 (.q 1 (.q 2 (.q 3 (.q 4 (.q 5 (.e 6 (.q 7 (.q 8 (.q 9 (.q 10 (.q 11 .nil)))))))))))) (by kernel_rfl) (by intro c a d v w h; cases d <;> exact h) (by kernel_rfl) H ⟨trivial⟩ (fun _ w3 H2 => ?_); (clear H; (try clear w2); revert w3; intro w2 H))
            | (go_at_call 105; (with_reducible refine (HM _).mono ?_); rintro e w3 ⟨rfl, rfl⟩; dsimp only; (refine hK _ _ ⟨_, H, by repeat first | exact .here | apply Suf.there⟩ ?_; clear hK K; (try simp only [Act.put, List.setIfInBounds_toArray, List.set_cons_succ, List.set_cons_zero, wlen])))
            | (guard_target =~ wpList _ _ _ (_ :: _) _ _; (first | (guard_target =~ wpList _ _ _ (Oper.mk _ (.load _ _) _ _ _ _ :: _) _ _; refine BigFrame.wpList_want rfl (fun K hK => ?_); (refine o_load (v := ?_) (r := ?_) rfl rfl H ?_ ?_ ?_ (hK _ _ ?_); rotate_left 2; (with_reducible assumption); (repeat first | exact .head _ | apply List.Mem.tail); (focus (intro _; simp [wlen]; done))); clear hK K) | (guard_target =~ wpList _ _ _ (Oper.mk _ (.store _ _ _) _ _ _ _ :: _) _ _; refine BigFrame.wpList_want rfl (fun K hK => ?_); refine o_store (l' := ?_) (row := ?_) rfl rfl H rfl ?_ ?_ ?_ ?_ (fun w3 H2 => hK _ _ ?_); rotate_left 2; (exact r0); (focus (intro _; (simp [Act.eval, Value.cells, List.getD, wlen]; done))); (focus ((try simp [Act.eval, Value.cells, List.getD, wlen]); omega)); (exact rfl); clear hK K; clear H; (try clear w2); revert w3; intro w2 H; (try simp [Act.eval, List.getD, wlen] at H); (try simp [Value.cells, setL, wlen] at H))); simp only [Act.put, List.setIfInBounds_toArray, List.set_cons_succ, List.set_cons_zero, wlen])
            | (guard_target =~ wpTree _ _ _ _ _ _ _; first | (guard_target =~ wpTree _ _ _ (Tr.q _ _) _ _ _; first | (refine tree_quiet ⟨_, H, by repeat first | exact .here | apply Suf.there⟩ rfl rfl rfl (fun K hK => ?_); simp only [List.getElem_toArray, List.getElem_cons_succ, List.getElem_cons_zero]; first | (guard_target =~ Oper.quiet _ (Oper.mk _ (.load _ _) _ _ _ _) _ _ _; (refine q_load (v := ?_) (r := ?_) rfl rfl ?_ ?_ ?_ (hK _ ?_); rotate_left 2; (with_reducible assumption); (repeat first | exact .head _ | apply List.Mem.tail); (focus (intro _; simp [wlen]; done))); clear hK K; simp only [Act.put, List.setIfInBounds_toArray, List.set_cons_succ, List.set_cons_zero, wlen]) | (go_big_quiet_op; (try refine ⟨_, fun _ _ => rfl, ?_⟩); refine hK _ ?_; clear hK K)) | (refine tree_skip ⟨_, H, by repeat first | exact .here | apply Suf.there⟩ rfl rfl ?_; simp only [List.getElem_toArray, List.getElem_cons_succ, List.getElem_cons_zero, Act.put, List.setIfInBounds_toArray, List.set_cons_succ, List.set_cons_zero])) | (guard_target =~ wpTree _ _ _ (Tr.both _ _) _ _ _; refine tree_both ?_ ?_) | (guard_target =~ wpTree _ _ _ (Tr.e _ _) _ _ _; first | (refine tree_one rfl rfl (fun K hK => ?_); simp only [List.getElem_toArray, List.getElem_cons_succ, List.getElem_cons_zero]; first | ((first | fail); simp only [Act.put, List.setIfInBounds_toArray, List.set_cons_succ, List.set_cons_zero, wlen]) | go_big_op) | (refine tree_one_skip ⟨_, H, by repeat first | exact .here | apply Suf.there⟩ rfl rfl ?_; simp only [List.getElem_toArray, List.getElem_cons_succ, List.getElem_cons_zero, Act.put, List.setIfInBounds_toArray, List.set_cons_succ, List.set_cons_zero])) | (guard_target =~ wpTree _ _ _ Tr.nil _ _ _; refine tree_nil ?_)))
          go_roundg (gk - 1)
          case rel =>
            obtain ⟨E1, G1, G2⟩ := HE.out
            have F1 := G1.out
            have F2 := G2.out
            unfold Wd at hr1 hr2
            obtain ⟨r, rfl⟩ : ∃ r : Nat, r2 = (r : Int) := ⟨r2.toNat, by omega⟩
            obtain ⟨cy, hcy⟩ : ∃ cy : Nat, (hi : Int) + q1 + q2 = (cy : Int) := ⟨((hi : Int) + q1 + q2).toNat, by omega⟩
            rw [wl_set] at H
            have hxy := HP.out
            have hI := HI.out
            rw [HX.out] at hI
            refine ⟨m + 1, cy, l.set (n + m) r, by omega, by congr 1, by rw [hcy], by omega, by rw [List.length_set]; exact L8.out, gl.set _ _ (by omega), ?_, hu.set (by omega), H⟩
            rw [HX.out]
            exact mul_round wB l lb _ x y n m c r cy o (by rw [L8.out]; omega) HO.out HY.out hI (by unfold wB; omega)
          case measure => omega
        · obtain rfl : m = 4 := by omega
          have ldO : (Res.cells c5 (wl l)).at c5 (n + 4) [.int .u64 ((0 : Nat) : Int)] := at_cells (by rw [wl_get (by rw [L8.out]; omega), hu _ (Nat.le_refl _)])
          have wlen : (wl l).length = 8 := by rw [wl_length, L8.out]
          go_wp2_with (guard_target =~ wpList _ _ _ (_ :: _) _ _; (guard_target =~ wpList _ _ _ (Oper.mk _ (.store _ _ _) _ _ _ _ :: _) _ _; refine BigFrame.wpList_want rfl (fun K hK => ?_); refine o_store (l' := ?_) (row := ?_) rfl rfl H rfl ?_ ?_ ?_ ?_ (fun w3 H2 => hK _ _ ?_); rotate_left 2; (exact r0); (focus (intro _; (simp [Act.eval, Value.cells, List.getD, wlen]; done))); (focus ((try simp [Act.eval, Value.cells, List.getD, wlen]); omega)); (exact rfl); clear hK K; clear H; (try clear w2); revert w3; intro w2 H; (try simp [Act.eval, List.getD, wlen] at H); (try simp [Value.cells, setL, wlen] at H)); simp only [Act.put, List.setIfInBounds_toArray, List.set_cons_succ, List.set_cons_zero, wlen])
          go_roundg (4 - (n + 1))
          case rel =>
            rw [wl_set] at H
            have hI := HI.out
            rw [List.take_of_length_le (l := lb) (by rw [HB.out]; omega), mul_next wB la lb n _ rfl] at hI
            have hs := vB_set wB l (n + 4) c (by rw [L8.out]; omega)
            rw [hu _ (Nat.le_refl _), Nat.mul_zero, Nat.add_zero, hI] at hs
            refine ⟨n + 1, l.set (n + 4) c, by omega, by congr 1, by rw [List.length_set]; exact L8.out, gl.set _ _ hc, hs, fun q hq => ?_, H⟩
            have := hu q (by omega)
            rw [List.getD_eq_getElem?_getD] at this ⊢
            rw [List.getElem?_set_ne (by omega)]
            exact this
          case measure => omega
    · obtain rfl : n = 4 := by omega
      have wlen : (wl l).length = 8 := by rw [wl_length, L8.out]
      have hset : ∀ v0 v1 v2 v3 v4 v5 v6 v7 : Value, setL [v0, v1, v2, v3, v4, v5, v6, v7] 0 (wl l) = wl l := fun v0 v1 v2 v3 v4 v5 v6 v7 => by
        rw [setL_eq _ _ _ (by rw [wlen]; simp), wlen]; simp
      go_wp2_with (guard_target =~ wpList _ _ _ (_ :: _) _ _; (first | (guard_target =~ wpList _ _ _ (Oper.mk _ (.load _ _) _ _ _ _ :: _) _ _; refine BigFrame.wpList_want rfl (fun K hK => ?_); (refine o_loadNC (row := ?_) rfl rfl H ?_ ?_ ?_ (hK _ _ ?_); rotate_left 1; (repeat first | exact .head _ | apply List.Mem.tail); (focus (intro _; simp [wlen, hset, wl_one]; done)); (focus (intro _; simp [wlen, hset, wl_one]; done))); clear hK K) | (guard_target =~ wpList _ _ _ (Oper.mk _ (.store _ _ _) _ _ _ _ :: _) _ _; refine BigFrame.wpList_want rfl (fun K hK => ?_); refine o_store (l' := ?_) (row := ?_) rfl rfl H rfl ?_ ?_ ?_ ?_ (fun w3 H2 => hK _ _ ?_); rotate_left 2; (exact r1); (focus (intro _; (simp [Act.eval, Value.cells, List.getD, wlen, hset, wl_one]; done))); (focus (simp [Act.eval, Value.cells, List.getD, wlen, hset, wl_one]; done)); (focus ((simp [Act.eval, Value.cells, List.getD, wlen, hset, wl_one]; done))); clear hK K; clear H; (try clear w2); revert w3; intro w2 H; (try simp [Act.eval, List.getD, wlen, hset, wl_one] at H); (try simp [Value.cells, setL, wlen, hset, wl_one] at H))); simp only [Act.put, List.setIfInBounds_toArray, List.set_cons_succ, List.set_cons_zero, wlen, hset, wl_one])
      have r4 := H.loadVarN (P := Try.prog) (ty := 95) m1 (by simp) (by simp [wlen])
      have hv := HV.out
      rw [List.take_of_length_le (by rw [HA.out]; omega)] at hv
      exact bodyPost_ret (v := .agg (wl l).toArray) (by simp [results, Try.results96, asAddr, r4]) rfl ⟨⟨l, L8.out, gl, hv, rfl⟩, H.below⟩
theorem product_any (x y : Int) (hx : M512 x) (hy : M512 y) (hx4 : x < 115792089237316195423570985008687907853269984665640564039457584007913129639936) (hy4 : y < 115792089237316195423570985008687907853269984665640564039457584007913129639936) (w : World) :
    Calls Try.prog 96 #[mV x, mV y] w fun e w' => e = .returned (mV (x * y)) ∧ Below w.heap.size w w' := by
  obtain ⟨la, ha, wa, va, ea⟩ := words4_of x hx hx4
  obtain ⟨lb, hb, wb, vb, eb⟩ := words4_of y hy hy4
  rw [mV_eq, mV_eq, ea, eb]
  refine (product_w la lb ha hb wa wb w).mono fun e w' ⟨⟨l, l8, gl, hv, he⟩, hb⟩ => ⟨?_, hb⟩
  rw [he, mV_eq, ← va, ← vb, ← Int.natCast_mul, ← hv, mL_wl l l8 gl]
theorem mul_M512 {x y : Int} (hx : 0 ≤ x) (hy : 0 ≤ y) (hx4 : x ≤ 57896044618658097711785492504343953926634992332820282019728792003956564819968) (hy4 : y ≤ 57896044618658097711785492504343953926634992332820282019728792003956564819968) : M512 (x * y) := by
  refine (M512_iff _).2 ⟨Int.mul_nonneg hx hy, ?_⟩
  have := Int.mul_le_mul hx4 hy4 hy (by decide)
  unfold big
  exact Int.lt_of_le_of_lt this (by decide)
end Go.Proofs.Ytmmieilogpmocaa
