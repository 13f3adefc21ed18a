/-
  The walks of layer 3 (wide): Text.
-/
import Derived.Test.YtmmieilogpmocaaWide20
import Derived.Test.YtmmieilogpmocaaWide18
import Derived.Test.YtmmieilogpmocaaWide12
namespace Go.Proofs.Ytmmieilogpmocaa
set_option linter.unusedVariables false
set_option linter.unusedSimpArgs false
open Go.RowKit

theorem Try.infoByte : (Try.prog.info? 5).map (fun i => (i.zero, i.size, i.bytes)) = some (some (.int .u8 0), 1, 1) := by kernel_rfl
theorem div64_ex (h l : Nat) (hh : h < 10) (hl : l < 18446744073709551616) : ∃ q r : Nat, (∀ w, Calls Try.prog 93 #[.int .u64 h, .int .u64 l, .int .u64 10] w fun e w' => e = .returned (.tuple #[.int .u64 (q : Int), .int .u64 (r : Int)]) ∧ Below w.heap.size w w') ∧
    Hid (q = (h * 18446744073709551616 + l) / 10 ∧ r = (h * 18446744073709551616 + l) % 10) ∧ q < 18446744073709551616 ∧ r < 10 := by
  refine ⟨_, _, fun w => div64_ten h l hh hl w, Lib.hid ⟨rfl, rfl⟩, by omega, by omega⟩
theorem eq_mwords (a b c d e f g h : Int) (w : World) : (binOp .eql 95 (.agg #[.int .u64 a, .int .u64 b, .int .u64 c, .int .u64 d, .int .u64 e, .int .u64 f, .int .u64 g, .int .u64 h]) (.agg #[.int .u64 0, .int .u64 0, .int .u64 0, .int .u64 0, .int .u64 0, .int .u64 0, .int .u64 0, .int .u64 0])).run Try.prog w =
    .ok (.bool (eqL [(a, 0), (b, 0), (c, 0), (d, 0), (e, 0), (f, 0), (g, 0), (h, 0)])) w := run_eqArr 95 8 (fun w => by kernel_rfl) [(a, 0), (b, 0), (c, 0), (d, 0), (e, 0), (f, 0), (g, 0), (h, 0)] rfl w
theorem eq_wl (l : List Nat) (h8 : l.length = 8) (hw : WB l) (w : World) : (binOp .eql 95 (.agg (wl l).toArray) (.agg #[.int .u64 0, .int .u64 0, .int .u64 0, .int .u64 0, .int .u64 0, .int .u64 0, .int .u64 0, .int .u64 0])).run Try.prog w = .ok (.bool (decide (vB wB l = 0))) w := by
  match l, h8 with
  | [a, b, c, d, e, f, g, h], _ =>
    have e0 : (wl [a, b, c, d, e, f, g, h]).toArray = #[.int .u64 (a : Int), .int .u64 (b : Int), .int .u64 (c : Int), .int .u64 (d : Int), .int .u64 (e : Int), .int .u64 (f : Int), .int .u64 (g : Int), .int .u64 (h : Int)] := rfl
    rw [e0, eq_mwords]
    have : eqL [((a : Int), 0), ((b : Int), 0), ((c : Int), 0), ((d : Int), 0), ((e : Int), 0), ((f : Int), 0), ((g : Int), 0), ((h : Int), 0)] = decide (vB wB [a, b, c, d, e, f, g, h] = 0) := by
      rw [Bool.eq_iff_iff, eqL_iff, decide_eq_true_eq]
      simp only [List.mem_cons, List.not_mem_nil, or_false, forall_eq_or_imp, forall_eq, vB, wB]
      omega
    rw [this]
def WTextRel (w : World) (x : Int) (v d1 d3 : Nat) (k : Nat) (out : Value) (wr : World) : Prop :=
  ∃ (o : List Nat) (ds : List UInt8), o.length = 8 ∧ WB o ∧ vB wB o = k ∧ decL v = decL k ++ ds.reverse ∧ ds.length ≤ 10000 ∧
    Own w.heap.size w wr [.grow 5 1 out ds.length (byl ds), .cells d3 (wl o), .cells d1 (iL x)]
def WTextIn (w : World) (x : Int) (d1 d3 : Nat) (out : Value) (ds : List UInt8) (o : List Nat) (k : Nat) (rest i : Value) (wr : World) : Prop :=
  ∃ (r : Nat) (q : List Nat), k ≤ 8 ∧ i = .int .i64 ((k : Int) - 1) ∧ rest = .int .u64 (r : Int) ∧ r < 10 ∧ q.length = 8 ∧ WB q ∧ vB wB (o.drop k) = 10 * vB wB (q.drop k) + r ∧
    Own w.heap.size w wr [.grow 5 1 out ds.length (byl ds), .cells d3 (wl (mixL o q k)), .cells d1 (iL x)]
theorem WB.zeros (n : Nat) : WB (List.replicate n 0) := fun d hd => by rw [(List.mem_replicate.1 hd).2]; unfold wB; omega
set_option maxRecDepth 100000 in
set_option maxHeartbeats 8000000 in
theorem Text_any (x : Int) (hx : R256 x) (w : World) :
    Calls Try.prog 67 #[iV x] w fun e w' => e = .returned (.string ⟨(textL x).toArray⟩) ∧ Below w.heap.size w w' := by
  have H := Own.start w
  have hz : textL x = (if decide (x < 0) = true then [45] else []) ++ decL x.natAbs := by unfold textL; simp
  have hpx := fun w => plain_any x hx w
  have hbx := fun w => below_i x hx w
  obtain ⟨z, hz2⟩ : ∃ z, textL x = z := ⟨_, rfl⟩
  obtain ⟨oI, o8, ow, ov, om⟩ := words_of (absZ x) (absZ_M hx)
  obtain ⟨v, hv⟩ : ∃ v, x.natAbs = v := ⟨_, rfl⟩
  have ov2 : vB wB oI = v := by rw [absZ_nat, hv] at ov; omega
  have bv : v ≤ 57896044618658097711785492504343953926634992332820282019728792003956564819968 := by have := absZ_lt hx; rw [absZ_nat, hv] at this; omega
  have HV10 : (decL v).length ≤ 257 := decL_len 256 v (Nat.lt_of_le_of_lt bv (by decide))
  obtain ⟨s, hs⟩ : ∃ s, decide (x < 0) = s := ⟨_, rfl⟩
  rw [hs, hv, hz2] at hz
  rw [hs] at hbx
  rw [hz2]
  have hpx2 : ∀ w, Calls Try.prog 84 #[iV x] w fun e w' => e = .returned (.agg (wl oI).toArray) ∧ Below w.heap.size w w' := fun w => by
    have := hpx w
    rw [mV_eq, om] at this
    exact this
  have wlen : (wl oI).length = 8 := by rw [wl_length, o8]
  have hset : ∀ v0 v1 v2 v3 v4 v5 v6 v7 : Value, setL [v0, v1, v2, v3, v4, v5, v6, v7] 0 (wl oI) = wl oI := fun v0 v1 v2 v3 v4 v5 v6 v7 => by
    rw [setL_eq _ _ _ (by rw [wlen]; simp), wlen]; simp
  have HZ := Lib.hid hz
  have HO := Lib.hid (And.intro o8 (And.intro ow ov2))
  clear hs hz hv hz2 hpx o8 ov ov2 om bv
  go_enter Try.func67, Try.ntmps67
  have tk0 : True := trivial
  have tk1 : True := trivial
  go_wp2_with (first
    | (go_at_call 84; (with_reducible refine (hpx2 _).mono ?_); rintro e w3 ⟨rfl, hb⟩; replace H := H.ext hb; clear hb; dsimp only)
    | (guard_target =~ wpList _ _ _ (_ :: _) _ _; (first | (guard_target =~ wpList _ _ _ (Oper.mk _ (.load _ _) _ _ _ _ :: _) _ _; refine BigFrame.wpList_want rfl (fun K hK => ?_); (refine o_loadNC (row := ?_) rfl rfl H ?_ ?_ ?_ (hK _ _ ?_); rotate_left 1; (repeat first | exact .head _ | apply List.Mem.tail); (focus (intro _; simp [cells_iV, iL_length, agg_iL, wlen, hset, wl_one]; done)); (focus (intro _; simp [cells_iV, iL_length, agg_iL, wlen, hset, wl_one]; done))); clear hK K) | (guard_target =~ wpList _ _ _ (Oper.mk _ (.store _ _ _) _ _ _ _ :: _) _ _; refine BigFrame.wpList_want rfl (fun K hK => ?_); refine o_store (l' := ?_) (row := ?_) rfl rfl H rfl ?_ ?_ ?_ ?_ (fun w3 H2 => hK _ _ ?_); rotate_left 2; (exact r0); (focus (intro _; (simp [Act.eval, Value.cells, List.getD, cells_iV, iL_length, agg_iL, wlen, hset, wl_one]; done))); (focus (simp [Act.eval, Value.cells, List.getD, cells_iV, iL_length, agg_iL, wlen, hset, wl_one]; done)); (focus ((simp [Act.eval, Value.cells, List.getD, cells_iV, iL_length, agg_iL, wlen, hset, wl_one]; done))); clear hK K; clear H; (try clear w2); revert w3; intro w2 H; (try simp [Act.eval, List.getD, cells_iV, iL_length, agg_iL, wlen, hset, wl_one] at H); (try simp [Value.cells, setL, cells_iV, iL_length, agg_iL, wlen, hset, wl_one] at H)) | ((first | (guard_target =~ wpList _ _ _ (Oper.mk _ (.alloc _) _ _ _ _ :: _) _ _; refine BigFrame.wpList_want rfl (fun K hK => ?_); refine o_alloc (z := ?_) rfl ?_ H rfl (fun w3 b2 he H2 => hK _ _ ?_); rotate_left 1; (focus (intro _; simp; with_reducible exact rfl))) | (guard_target =~ wpList _ _ _ (Oper.mk _ (.box _ _) _ _ _ _ :: _) _ _; refine BigFrame.wpList_want rfl (fun K hK => ?_); refine o_box rfl H rfl (fun w3 b2 he H2 => hK _ _ ?_))); clear hK K he; clear H; (try clear w2); revert w3; intro w2 H; (try simp [Act.eval, List.getD, cells_iV, iL_length, agg_iL, wlen, hset, wl_one] at H); (try simp [Value.cells, setL, cells_iV, iL_length, agg_iL, wlen, hset, wl_one] at H); (first | (clear tk0; rename Nat => d1) | (clear tk1; rename Nat => d3)))); simp only [Act.put, List.setIfInBounds_toArray, List.set_cons_succ, List.set_cons_zero, cells_iV, iL_length, agg_iL, wlen, hset, wl_one]))
  go_loopg [4] v (WTextRel w x v d1 d3)
  case atStart => exact ⟨oI, [], HO.out.1, ow, HO.out.2.2, by simp, by simp, H.grow_nil _ 1⟩
  case round =>
    clear H wlen hset hpx2
    obtain ⟨o, ds, o8, ow', ov, hdec, lds, H⟩ := hrel
    clear HO ow
    obtain ⟨q0, rfl⟩ : ∃ q0, q0 = gk := ⟨_, rfl⟩
    have O8 := Lib.hid o8
    have OV := Lib.hid ov
    have HD := Lib.hid hdec
    clear o8 ov hdec
    go_wp2_with (first | fail)
    go_loopg [5, 6] 8 (WTextIn w x d1 d3 u4 ds o)
    case atStart =>
      refine ⟨0, List.replicate 8 0, Nat.le_refl _, rfl, rfl, by omega, by simp, WB.zeros 8, ?_, ?_⟩
      · rw [List.drop_of_length_le (by rw [O8.out]; omega), List.drop_of_length_le (by simp)]; rfl
      · unfold mixL
        rw [List.take_of_length_le (by rw [O8.out]; omega), List.drop_of_length_le (by simp), List.append_nil]
        exact H
    case round =>
      clear H
      obtain ⟨r, q, hk, rfl, rfl, hr, hq, wq, hv, H⟩ := hrel
      have HQ := Lib.hid hq
      have HV := Lib.hid hv
      clear hq hv
      by_cases h0 : 0 < gk
      · obtain ⟨j, rfl⟩ : ∃ j, gk = j + 1 := ⟨gk - 1, by omega⟩
        have e1 : ((j + 1 : Nat) : Int) - 1 = (j : Int) := by omega
        rw [e1]
        clear e1
        have hjo : j < o.length := by rw [O8.out]; omega
        obtain ⟨g, hg⟩ : ∃ g, o.getD j 0 = g := ⟨_, rfl⟩
        have bg := ow'.get j
        rw [hg] at bg
        have mlen : (wl (mixL o q (j + 1))).length = 8 := by rw [wl_length, mixL_length (by rw [O8.out, HQ.out]) (by rw [O8.out]; omega), O8.out]
        have ld : (Res.cells d3 (wl (mixL o q (j + 1)))).at d3 j [.int .u64 (g : Int)] := at_cells (by rw [wl_get (by have := mlen; rw [wl_length] at this; omega), mixL_get hjo, hg])
        obtain ⟨qq, rr, HDV, HE, bq, br⟩ := div64_ex r g hr bg
        have HG := Lib.hid hg
        have j8 : (j : Int) < 8 := by omega
        clear hg hjo
        go_wp2_with (first
          | (go_at_call 93; (with_reducible refine (HDV _).mono ?_); rintro e w3 ⟨rfl, hb⟩; replace H := H.ext hb; clear hb; dsimp only)
          | (guard_target =~ wpList _ _ _ (_ :: _) _ _; (first | (guard_target =~ wpList _ _ _ (Oper.mk _ (.load _ _) _ _ _ _ :: _) _ _; refine BigFrame.wpList_want rfl (fun K hK => ?_); (refine o_load (v := ?_) (r := ?_) rfl rfl H ?_ ?_ ?_ (hK _ _ ?_); rotate_left 2; (with_reducible assumption); (repeat first | exact .head _ | apply List.Mem.tail); (focus (intro _; simp [mlen]; done))); clear hK K) | (guard_target =~ wpList _ _ _ (Oper.mk _ (.store _ _ _) _ _ _ _ :: _) _ _; refine BigFrame.wpList_want rfl (fun K hK => ?_); refine o_store (l' := ?_) (row := ?_) rfl rfl H rfl ?_ ?_ ?_ ?_ (fun w3 H2 => hK _ _ ?_); rotate_left 2; (exact r1); (focus (intro _; (simp [Act.eval, Value.cells, List.getD, mlen]; done))); (focus ((try simp [Act.eval, Value.cells, List.getD, mlen]); omega)); (exact rfl); clear hK K; clear H; (try clear w2); revert w3; intro w2 H; (try simp [Act.eval, List.getD, mlen] at H); (try simp [Value.cells, setL, mlen] at H))); simp only [Act.put, List.setIfInBounds_toArray, List.set_cons_succ, List.set_cons_zero, mlen]))
        rw [wl_set, mixL_set (by rw [O8.out]; omega) (by rw [O8.out, HQ.out])] at H
        go_roundg j
        case rel =>
          obtain ⟨E1, E2⟩ := HE.out
          refine ⟨rr, q.set j qq, by omega, rfl, by congr 1, br, by rw [List.length_set]; exact HQ.out, wq.set _ _ bq, ?_, H⟩
          rw [E1, E2]
          exact vB_quot wB 10 (by omega) o q j r _ g (by rw [O8.out]; omega) (by rw [HQ.out]; omega) HG.out (by unfold wB; rfl) HV.out
        case measure => omega
      · obtain rfl : gk = 0 := by omega
        have e1 : ((0 : Nat) : Int) - 1 = -1 := rfl
        rw [e1]
        clear e1
        have hv := HV.out
        simp only [List.drop_zero] at hv
        rw [OV.out] at hv
        have hq : vB wB q = q0 / 10 := by omega
        have hr2 : r = q0 % 10 := by omega
        have e2 : mixL o q 0 = q := by unfold mixL; simp
        rw [e2] at H
        obtain ⟨u, hu⟩ : ∃ u, UInt8.ofNat (48 + r) = u := ⟨_, rfl⟩
        have u0 : (48 + (r : Int)) = (u.toNat : Int) := by rw [← hu, dig_byte (by omega)]; omega
        have U0 := Lib.hid u0
        have HU := Lib.hid hu
        have HR := Lib.hid hr2
        have heq := eq_wl q HQ.out wq
        have g1 := guard_mag
        rw [hq] at heq
        have HVQ := Lib.hid hq
        have qlen : (wl q).length = 8 := by rw [wl_length, HQ.out]
        clear hv hq hr2 e2 hu u0
        by_cases hlast : q0 / 10 = 0
        · have hd0 : decide (q0 / 10 = 0) = true := by simpa using hlast
          rw [hd0] at heq
          have HL := Lib.hid hlast
          clear hd0 hlast
          have hd1 := HD.out
          rw [decL_eq q0, ← HR.out, HU.out, if_pos (by have := HL.out; omega)] at hd1
          have HD1 := Lib.hid hd1
          have cut : ∀ (L : List UInt8) (rest : List Value), ((byl L ++ rest).drop 0).take (byl L).length = byl L := fun L rest => by rw [List.drop_zero, List.take_left]
          clear hd1
          cases s with
          | false =>
            have HREV : ∀ (B : Nat) (w0 w : World) (l : List Res) (b c : Nat) (rest : List Value) (H : Own B w0 w (.cells b (byl ds ++ [.int .u8 (48 + (r : Int))] ++ rest) :: l)), Calls Try.prog 94 #[.slice (some ⟨b, 0, none⟩) (ds.length + 1) c] w fun e w' => e = .returned (.tuple #[]) ∧ Own B w0 w' (.cells b (byl (ds ++ [u]).reverse ++ rest) :: l) := fun B w0 w l b c rest H => by
              have eb : byl ds ++ [.int .u8 (48 + (r : Int))] = byl (ds ++ [u]) := by rw [U0.out, byl_append]; rfl
              rw [eb] at H
              have := reverse_any B w0 w l b c (ds ++ [u]) rest (by simp; omega) H
              rw [List.length_append] at this
              exact this
            go_wp2_with (first
              | (go_at_call 87; (with_reducible refine (hbx _).mono ?_); rintro e w3 ⟨rfl, hb⟩; replace H := H.ext hb; clear hb; dsimp only)
              | (go_at_call 94; obtain ⟨bR, cR, rest, rfl, H5⟩ := H.front1.growCells (by omega); replace H := H5; (with_reducible refine (HREV _ _ _ _ bR cR rest H).mono ?_); rintro e w3 ⟨rfl, H2⟩; replace H := H2; dsimp only)
              | (guard_target =~ wpList _ _ _ (_ :: _) _ _; (first | (guard_target =~ wpList _ _ _ (Oper.mk _ (.call { callee := .builtin .append, args := _, argTypes := _ }) _ _ _ _ :: _) _ _; refine BigFrame.wpList_want rfl (fun K hK => ?_); refine o_append (row := ?_) (n := ?_) (xs := ?_) (l' := ?_) Try.infoByte rfl rfl rfl H ?_ rfl ?_ ?_ (by kernel_rfl) rfl (by decide) ?_ ?_ ?_ (fun v2 w3 H2 hn => hK _ _ ?_); rotate_left 4; (repeat first | exact .head _ | apply List.Mem.tail); (focus (simp; done)); (focus (intro _; (exact r1))); exact rfl; exact (by unfold maxLen; omega); exact (by omega); clear hK K hn; clear H; (try clear w2); revert w3; intro w2 H; simp only [List.take_succ_cons, List.take_zero, Nat.one_mul] at H) | (guard_target =~ wpList _ _ _ (Oper.mk _ (.load _ _) _ _ _ _ :: _) _ _; refine BigFrame.wpList_want rfl (fun K hK => ?_); (refine o_loadNC (row := ?_) rfl rfl H ?_ ?_ ?_ (hK _ _ ?_); rotate_left 1; (repeat first | exact .head _ | apply List.Mem.tail); (focus (intro _; simp [qlen, agg_iL, iL_length]; done)); (focus (intro _; simp [qlen, agg_iL, iL_length]; done))); clear hK K) | ((guard_target =~ wpList _ _ _ (Oper.mk _ (.buildSlice _ _ _) _ _ _ _ :: _) _ _; refine BigFrame.wpList_want rfl (fun K hK => ?_); refine o_buildSlice (C := ?_) (E := ?_) rfl rfl H ?_ rfl (fun w3 b2 he H2 => hK _ _ ?_); rotate_left 2; (focus (intro _; simp [go_sem, Instr.buildSlice]; with_reducible exact rfl))); clear hK K he; clear H; (try clear w2); revert w3; intro w2 H; (try simp [Act.eval, List.getD, qlen, agg_iL, iL_length] at H); (try simp [Value.cells, setL, qlen, agg_iL, iL_length] at H)) | (guard_target =~ wpList _ _ _ (Oper.mk _ (.convert _ _ _) _ _ _ _ :: _) _ _; refine BigFrame.wpList_want rfl (fun K hK => ?_); refine o_conv (e := 5) (l := (ds ++ [u]).reverse) (by kernel_rfl) (by kernel_rfl) (by kernel_rfl) rfl rfl H m0 (⟨rfl, cut _ _⟩) (by simp) (hK _ _ ?_); clear hK K)); simp only [Act.put, List.setIfInBounds_toArray, List.set_cons_succ, List.set_cons_zero, qlen, agg_iL, iL_length]))
            go_ret
            refine ⟨?_, H.below⟩
            rw [HZ.out, HD1.out]
            simp
          | true =>
            have HREV : ∀ (B : Nat) (w0 w : World) (l : List Res) (b c : Nat) (rest : List Value) (H : Own B w0 w (.cells b (byl ds ++ [.int .u8 (48 + (r : Int))] ++ [.int .u8 45] ++ rest) :: l)), Calls Try.prog 94 #[.slice (some ⟨b, 0, none⟩) (ds.length + 1 + 1) c] w fun e w' => e = .returned (.tuple #[]) ∧ Own B w0 w' (.cells b (byl (ds ++ [u] ++ [45]).reverse ++ rest) :: l) := fun B w0 w l b c rest H => by
              have eb : byl ds ++ [.int .u8 (48 + (r : Int))] ++ [.int .u8 45] = byl (ds ++ [u] ++ [45]) := by rw [U0.out, byl_append, byl_append]; rfl
              rw [eb] at H
              have := reverse_any B w0 w l b c (ds ++ [u] ++ [45]) rest (by simp; omega) H
              rw [List.length_append, List.length_append] at this
              exact this
            go_wp2_with (first
              | (go_at_call 87; (with_reducible refine (hbx _).mono ?_); rintro e w3 ⟨rfl, hb⟩; replace H := H.ext hb; clear hb; dsimp only)
              | (go_at_call 94; obtain ⟨bR, cR, rest, rfl, H5⟩ := H.front2.growCells (by omega); replace H := H5; (with_reducible refine (HREV _ _ _ _ bR cR rest H).mono ?_); rintro e w3 ⟨rfl, H2⟩; replace H := H2; dsimp only)
              | (guard_target =~ wpList _ _ _ (_ :: _) _ _; (first | (guard_target =~ wpList _ _ _ (Oper.mk _ (.call { callee := .builtin .append, args := _, argTypes := _ }) _ _ _ _ :: _) _ _; refine BigFrame.wpList_want rfl (fun K hK => ?_); refine o_append (row := ?_) (n := ?_) (xs := ?_) (l' := ?_) Try.infoByte rfl rfl rfl H ?_ rfl ?_ ?_ (by kernel_rfl) rfl (by decide) ?_ ?_ ?_ (fun v2 w3 H2 hn => hK _ _ ?_); rotate_left 4; (repeat first | exact .head _ | apply List.Mem.tail); (focus (simp; done)); (focus (intro _; (first | exact r1 | exact r2))); exact rfl; exact (by unfold maxLen; omega); exact (by omega); clear hK K hn; clear H; (try clear w2); revert w3; intro w2 H; simp only [List.take_succ_cons, List.take_zero, Nat.one_mul] at H) | (guard_target =~ wpList _ _ _ (Oper.mk _ (.load _ _) _ _ _ _ :: _) _ _; refine BigFrame.wpList_want rfl (fun K hK => ?_); (refine o_loadNC (row := ?_) rfl rfl H ?_ ?_ ?_ (hK _ _ ?_); rotate_left 1; (repeat first | exact .head _ | apply List.Mem.tail); (focus (intro _; simp [qlen, agg_iL, iL_length]; done)); (focus (intro _; simp [qlen, agg_iL, iL_length]; done))); clear hK K) | ((guard_target =~ wpList _ _ _ (Oper.mk _ (.buildSlice _ _ _) _ _ _ _ :: _) _ _; refine BigFrame.wpList_want rfl (fun K hK => ?_); refine o_buildSlice (C := ?_) (E := ?_) rfl rfl H ?_ rfl (fun w3 b2 he H2 => hK _ _ ?_); rotate_left 2; (focus (intro _; simp [go_sem, Instr.buildSlice]; with_reducible exact rfl))); clear hK K he; clear H; (try clear w2); revert w3; intro w2 H; (try simp [Act.eval, List.getD, qlen, agg_iL, iL_length] at H); (try simp [Value.cells, setL, qlen, agg_iL, iL_length] at H)) | (guard_target =~ wpList _ _ _ (Oper.mk _ (.convert _ _ _) _ _ _ _ :: _) _ _; refine BigFrame.wpList_want rfl (fun K hK => ?_); refine o_conv (e := 5) (l := (ds ++ [u] ++ [45]).reverse) (by kernel_rfl) (by kernel_rfl) (by kernel_rfl) rfl rfl H m0 (⟨rfl, cut _ _⟩) (by simp) (hK _ _ ?_); clear hK K)); simp only [Act.put, List.setIfInBounds_toArray, List.set_cons_succ, List.set_cons_zero, qlen, agg_iL, iL_length]))
            go_ret
            refine ⟨?_, H.below⟩
            rw [HZ.out, HD1.out]
            simp
        · have hd0 : decide (q0 / 10 = 0) = false := by simpa using hlast
          rw [hd0] at heq
          have HL := Lib.hid hlast
          clear hd0 hlast
          go_wp2_with (guard_target =~ wpList _ _ _ (_ :: _) _ _; (first | (guard_target =~ wpList _ _ _ (Oper.mk _ (.call { callee := .builtin .append, args := _, argTypes := _ }) _ _ _ _ :: _) _ _; refine BigFrame.wpList_want rfl (fun K hK => ?_); refine o_append (row := ?_) (n := ?_) (xs := ?_) (l' := ?_) Try.infoByte rfl rfl rfl H ?_ rfl ?_ ?_ (by kernel_rfl) rfl (by decide) ?_ ?_ ?_ (fun v2 w3 H2 hn => hK _ _ ?_); rotate_left 4; (repeat first | exact .head _ | apply List.Mem.tail); (focus (simp; done)); (focus (intro _; (exact r1))); exact rfl; exact (by unfold maxLen; omega); exact (by omega); clear hK K hn; clear H; (try clear w2); revert w3; intro w2 H; simp only [List.take_succ_cons, List.take_zero, Nat.one_mul] at H) | (guard_target =~ wpList _ _ _ (Oper.mk _ (.load _ _) _ _ _ _ :: _) _ _; refine BigFrame.wpList_want rfl (fun K hK => ?_); (refine o_loadNC (row := ?_) rfl rfl H ?_ ?_ ?_ (hK _ _ ?_); rotate_left 1; (repeat first | exact .head _ | apply List.Mem.tail); (focus (intro _; simp [qlen]; done)); (focus (intro _; simp [qlen]; done))); clear hK K) | ((guard_target =~ wpList _ _ _ (Oper.mk _ (.buildSlice _ _ _) _ _ _ _ :: _) _ _; refine BigFrame.wpList_want rfl (fun K hK => ?_); refine o_buildSlice (C := ?_) (E := ?_) rfl rfl H ?_ rfl (fun w3 b2 he H2 => hK _ _ ?_); rotate_left 2; (focus (intro _; simp [go_sem, Instr.buildSlice]; with_reducible exact rfl))); clear hK K he; clear H; (try clear w2); revert w3; intro w2 H; (try simp [Act.eval, List.getD, qlen] at H); (try simp [Value.cells, setL, qlen] at H))); simp only [Act.put, List.setIfInBounds_toArray, List.set_cons_succ, List.set_cons_zero, qlen])
          have eb : byl ds ++ [.int .u8 (48 + (r : Int))] = byl (ds ++ [u]) := by rw [U0.out, byl_append]; rfl
          rw [eb] at H
          have hd1 := HD.out
          rw [decL_eq q0, ← HR.out, HU.out, if_neg (by have := HL.out; omega), List.append_assoc] at hd1
          go_roundg (q0 / 10)
          case rel =>
            refine ⟨q, ds ++ [u], HQ.out, wq, HVQ.out, ?_, ?_, ?_⟩
            · rw [hd1]; simp
            · have : (decL v).length = (decL (q0 / 10)).length + (ds.length + 1) := by rw [hd1]; simp
              simp; omega
            · rw [List.length_append]
              exact H.tail
          case measure => have := HL.out; omega
end Go.Proofs.Ytmmieilogpmocaa
