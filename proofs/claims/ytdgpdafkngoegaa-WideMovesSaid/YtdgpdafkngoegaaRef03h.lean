/-
  The walks of the document's layer 3: products.
-/
import Derived.Test.YtdgpdafkngoegaaRef03g
import Derived.Test.YtdgpdafkngoegaaRef03p
namespace Go.Proofs.Ytdgpdafkngoegaa
set_option linter.unusedVariables false
set_option linter.unusedSimpArgs false
open Go.RowKit

theorem sgn_mul {x y : Int} {a b : List Nat} (ga : CnI a x) (gb : CnI b y) : sgn (!(decide (x < 0) == decide (y < 0))) (val a * val b) = x * y := by
  rw [ga.2.2, gb.2.2]; unfold sgn
  by_cases hx : x < 0 <;> by_cases hy : y < 0 <;> simp [hx, hy]
  · rw [show (x.natAbs : Int) = -x by omega, show (y.natAbs : Int) = -y by omega, Int.neg_mul_neg]
  · rw [show (x.natAbs : Int) = -x by omega, show (y.natAbs : Int) = y by omega, Int.neg_mul, Int.neg_neg]
  · rw [show (x.natAbs : Int) = x by omega, show (y.natAbs : Int) = -y by omega, Int.mul_neg, Int.neg_neg]
  · rw [show (x.natAbs : Int) = x by omega, show (y.natAbs : Int) = y by omega]
theorem carry_end {a b l : List Nat} {n c x : Nat} (ga : Dg a) (gb : Dg b) (hn : n < a.length) (hx : a.getD n 0 = x)
    (hv : val l + 65536 ^ (n + (b.length + 1)) * c = val (a.take n) * val b + 65536 ^ n * (x * val b)) : c = 0 := by
  have h1 := mul_next 65536 a b n x hx
  rw [val_vB, val_vB, val_vB] at h1
  rw [h1] at hv
  have h2 : val (a.take (n + 1)) < 65536 ^ (n + 1) := by
    have := val_lt (ga.take (n + 1))
    rwa [List.length_take, Nat.min_eq_left (by omega)] at this
  have h3 := val_lt gb
  have h4 : val (a.take (n + 1)) * val b < 65536 ^ (n + 1) * 65536 ^ b.length := Nat.mul_lt_mul_of_lt_of_le h2 (Nat.le_of_lt h3) (Nat.pow_pos (by omega))
  rw [← Nat.pow_add, show n + 1 + b.length = n + (b.length + 1) by omega] at h4
  rcases Nat.eq_zero_or_pos c with h | h
  · exact h
  · have : 65536 ^ (n + (b.length + 1)) * 1 ≤ 65536 ^ (n + (b.length + 1)) * c := Nat.mul_le_mul_left _ h
    omega
def RMulRel (w : World) (A1 A2 : Option Addr) (b1 o1 b2 o2 k1 k2 d2 d3 d4 d5 : Nat) (s t : Bool) (a b : List Nat) (k : Nat) (i : Value) (wr : World) : Prop :=
  ∃ (n : Nat) (l : List Nat), n + k = a.length ∧ i = .int .i64 (n : Int) ∧ l.length = a.length + b.length + 1 ∧ Dg l ∧ val l = val (a.take n) * val b ∧
    Own w.heap.size w wr [.cells d5 (dl l), .cells d4 [.bool false, .slice none 0 0], .cells d3 [.bool t, .slice A2 b.length k2], .cells d2 [.bool s, .slice A1 a.length k1], .rd A1 b1 o1 (dl a), .rd A2 b2 o2 (dl b)]
def RMulIn (w : World) (A1 A2 : Option Addr) (b1 o1 b2 o2 k1 k2 d2 d3 d4 d5 : Nat) (s t : Bool) (a b : List Nat) (n x p : Nat) (k : Nat) (cy j : Value) (wr : World) : Prop :=
  ∃ (m c : Nat) (l : List Nat), m + k = b.length + 1 ∧ j = .int .i64 (m : Int) ∧ cy = .int .i64 (c : Int) ∧ c < 65536 ∧ l.length = a.length + b.length + 1 ∧ Dg l ∧ val l + 65536 ^ (n + m) * c = p + 65536 ^ n * (x * val (b.take m)) ∧
    Own w.heap.size w wr [.cells d5 (dl l), .cells d4 [.bool false, .slice none 0 0], .cells d3 [.bool t, .slice A2 b.length k2], .cells d2 [.bool s, .slice A1 a.length k1], .rd A1 b1 o1 (dl a), .rd A2 b2 o2 (dl b)]
set_option maxRecDepth 100000 in
set_option maxHeartbeats 4000000 in
theorem refMul_any (F : Nat → Prop) (w : World) (hF : ∀ k, F k → k < w.heap.size) (A1 A2 : Option Addr) (k1 k2 : Nat) (a b : List Nat) (x y : Int) (ha : Sl F w A1 (dl a)) (hb : Sl F w A2 (dl b)) (ga : CnI a x) (gb : CnI b y) (la : a.length ≤ 450) (lb : b.length ≤ 450)
    (ma : a.length ≤ k1) (mb : b.length ≤ k2) :
    Calls Try.prog 49 #[.agg #[.bool (decide (x < 0)), .slice A1 a.length k1], .agg #[.bool (decide (y < 0)), .slice A2 b.length k2]] w (RetN F w (x * y)) := by
  obtain ⟨b2, o2, H2, f2⟩ := (Own.start w).addSl (hb.ro (by rfl))
  obtain ⟨b1, o1, H, f1⟩ := H2.addSl (ha.ro (by rfl))
  clear ha hb H2
  have hz := sgn_mul ga gb
  have ga1 := ga.1
  have gb1 := gb.1
  obtain ⟨s, hs⟩ : ∃ s, decide (x < 0) = s := ⟨_, rfl⟩
  obtain ⟨t, ht⟩ : ∃ t, decide (y < 0) = t := ⟨_, rfl⟩
  rw [hs, ht] at hz ⊢
  rw [← hz]
  clear hs ht hz ga gb
  go_enter Try.func49, Try.ntmps49
  have tk0 : True := trivial
  have tk1 : True := trivial
  have tk2 : True := trivial
  have tk3 : True := trivial
  go_wp2_with (guard_target =~ wpList _ _ _ (_ :: _) _ _; (first | (guard_target =~ wpList _ _ _ (Oper.mk _ (.load _ _) _ _ _ _ :: _) _ _; refine BigFrame.wpList_want rfl (fun K hK => ?_); (refine o_loadC (v := ?_) (row := ?_) rfl rfl H ?_ ?_ ?_ (hK _ _ ?_); rotate_left 2; (repeat first | exact .head _ | apply List.Mem.tail); (exact rfl); (focus (intro _; simp; done))); clear hK K) | ((first | (guard_target =~ wpList _ _ _ (Oper.mk _ (.alloc _) _ _ _ _ :: _) _ _; refine BigFrame.wpList_want rfl (fun K hK => ?_); refine o_alloc (z := ?_) rfl ?_ H rfl (fun w3 b2 he H2 => hK _ _ ?_); rotate_left 1; (focus (intro _; simp; with_reducible exact rfl))) | (guard_target =~ wpList _ _ _ (Oper.mk _ (.box _ _) _ _ _ _ :: _) _ _; refine BigFrame.wpList_want rfl (fun K hK => ?_); refine o_box rfl H rfl (fun w3 b2 he H2 => hK _ _ ?_))); clear hK K he; clear H; (try clear w2); revert w3; intro w2 H; simp [Act.eval, Value.cells, setL, List.getD] at H; (first | (clear tk0; rename Nat => d2) | (clear tk1; rename Nat => d3) | (clear tk2; rename Nat => d4))) | (guard_target =~ wpList _ _ _ (Oper.mk _ (.makeSlice _ _ _) _ _ _ _ :: _) _ _; refine BigFrame.wpList_want rfl (fun K hK => ?_); refine o_make (n := a.length + b.length + 1) Try.infoInt rfl (congrArg (Value.int .i64) (by omega)) (congrArg (Value.int .i64) (by omega)) (by kernel_rfl) ?_ H rfl (fun w3 b2 he H2 => hK _ _ ?_); (focus (exact (by omega))); clear hK K he; clear H; (try clear w2); revert w3; intro w2 H; (clear tk3; rename Nat => d5))); simp only [Act.put, List.setIfInBounds_toArray, List.set_cons_succ, List.set_cons_zero])
  rw [made_dl] at H
  go_loopg [6] a.length (RMulRel w A1 A2 b1 o1 b2 o2 k1 k2 d2 d3 d4 d5 s t a b)
  case atStart =>
    refine ⟨0, List.replicate (a.length + b.length + 1) 0, Nat.zero_add _, rfl, by simp, Dg.zeros _, ?_, H⟩
    rw [← val_vB, vB_zeros]; simp [val]
  case round =>
    clear H
    obtain ⟨n, l, hk, rfl, hl, gl, hv, H⟩ := hrel
    have HL := Lib.hid hl
    have HV := Lib.hid hv
    clear hl hv
    by_cases h0 : n < a.length
    · go_wp2_with (guard_target =~ wpList _ _ _ (_ :: _) _ _; (guard_target =~ wpList _ _ _ (Oper.mk _ (.load _ _) _ _ _ _ :: _) _ _; refine BigFrame.wpList_want rfl (fun K hK => ?_); (refine o_loadC (v := ?_) (row := ?_) rfl rfl H ?_ ?_ ?_ (hK _ _ ?_); rotate_left 2; (repeat first | exact .head _ | apply List.Mem.tail); (exact rfl); (focus (intro _; simp; done))); clear hK K); simp only [Act.put, List.setIfInBounds_toArray, List.set_cons_succ, List.set_cons_zero])
      go_loopg [7, 8] (b.length + 1) (RMulIn w A1 A2 b1 o1 b2 o2 k1 k2 d2 d3 d4 d5 s t a b n (a.getD n 0) (val (a.take n) * val b))
      case atStart =>
        exact ⟨0, 0, l, Nat.zero_add _, rfl, rfl, by omega, HL.out, gl, by rw [HV.out]; simp [val], H⟩
      case round =>
        clear H
        obtain ⟨m, c, l, hk2, rfl, rfl, hc, hl, gl, hv, H⟩ := hrel
        replace HL := Lib.hid hl
        have HI := Lib.hid hv
        clear hl hv HV
        obtain rfl := H.rdAddr m4 (by rw [dl_length]; omega)
        obtain ⟨x, hx, bx, tx⟩ := dig_at h0 ga1
        replace tx := tx (some ⟨b1, o1, none⟩) b1 o1
        by_cases h1 : m < b.length
        · obtain rfl := H.rdAddr m5 (by rw [dl_length]; omega)
          obtain ⟨y, hy, by_, ty⟩ := dig_at h1 gb1
          replace ty := ty (some ⟨b2, o2, none⟩) b2 o2
          have hnm : n + m < l.length := by rw [HL.out]; omega
          have hnl : n + m < (dl l).length := by rw [dl_length]; exact hnm
          have hnm2 : n + m < a.length + b.length + 1 := by omega
          obtain ⟨o, ho⟩ : ∃ o, l.getD (n + m) 0 = o := ⟨_, rfl⟩
          have bo : o < 65536 := by rw [← ho]; exact gl.get _
          have ldO : (Res.cells d5 (dl l)).at d5 (n + m) [.int .i64 (o : Int)] := at_cells (by rw [dl_get hnm, ho])
          have HO := Lib.hid ho
          obtain ⟨q, hq⟩ : ∃ q, x * y = q := ⟨_, rfl⟩
          have bq : q ≤ 4294836225 := by rw [← hq]; exact Nat.mul_le_mul (show x ≤ 65535 by omega) (show y ≤ 65535 by omega)
          have hq2 : (x : Int) * (y : Int) = (q : Int) := by rw [← hq]; simp
          have HQ := Lib.hid hq
          clear ho hq hnm
          go_wp2_with (first
            | (guard_target =~ Code.wp _ (Code.region 11 _ true) _ _ _; refine region_tree0 11 (G := True) (.q 0 (.q 1 (.q 2 (.q 3 (.q 4 (.q 5 (.q 6 (.q 7 (.q 8 (.q 9 (.q 10 (.q 11 (.q 12 (.q 13 .nil)))))))))))))) (by kernel_rfl) (by intro c a d v w h; cases d <;> exact h) (by kernel_rfl) H ⟨trivial⟩ (fun _ w3 H2 => ?_); (clear H; (try clear w2); revert w3; intro w2 H))
            | (guard_target =~ wpList _ _ _ (_ :: _) _ _; (first | (guard_target =~ wpList _ _ _ (Oper.mk _ (.load _ _) _ _ _ _ :: _) _ _; refine BigFrame.wpList_want rfl (fun K hK => ?_); (first | (refine o_load (v := ?_) (r := ?_) rfl rfl H ?_ ?_ ?_ (hK _ _ ?_); rotate_left 2; (with_reducible assumption); (repeat first | exact .head _ | apply List.Mem.tail); (focus (intro _; simp; done))) | (refine o_loadC (v := ?_) (row := ?_) rfl rfl H ?_ ?_ ?_ (hK _ _ ?_); rotate_left 2; (repeat first | exact .head _ | apply List.Mem.tail); (exact rfl); (focus (intro _; simp; done)))); clear hK K) | (guard_target =~ wpList _ _ _ (Oper.mk _ (.store _ _ _) _ _ _ _ :: _) _ _; refine BigFrame.wpList_want rfl (fun K hK => ?_); refine o_store (l' := ?_) (row := ?_) rfl rfl H rfl ?_ ?_ ?_ ?_ (fun w3 H2 => hK _ _ ?_); rotate_left 2; (exact r0); (focus (intro _; simp [Act.eval, Value.cells]; done)); (focus ((try simp [Act.eval, Value.cells]); omega)); (exact rfl); clear hK K; clear H; (try clear w2); revert w3; intro w2 H; simp [Act.eval, Value.cells, setL, List.getD] at H)); simp only [Act.put, List.setIfInBounds_toArray, List.set_cons_succ, List.set_cons_zero])
            | (guard_target =~ wpTree _ _ _ _ _ _ _; first | (guard_target =~ wpTree _ _ _ (Tr.q _ _) _ _ _; first | (refine tree_quiet ⟨_, H, by repeat first | exact .here | apply Suf.there⟩ rfl rfl rfl (fun K hK => ?_); simp only [List.getElem_toArray, List.getElem_cons_succ, List.getElem_cons_zero]; first | (guard_target =~ Oper.quiet _ (Oper.mk _ (.load _ _) _ _ _ _) _ _ _; (first | (refine q_load (v := ?_) (r := ?_) rfl rfl ?_ ?_ ?_ (hK _ ?_); rotate_left 2; (with_reducible assumption); (repeat first | exact .head _ | apply List.Mem.tail); (focus (intro _; simp; done))) | (refine q_loadC (v := ?_) (row := ?_) rfl rfl ?_ ?_ ?_ (hK _ ?_); rotate_left 2; (repeat first | exact .head _ | apply List.Mem.tail); (exact rfl); (focus (intro _; simp; done)))); clear hK K; simp only [Act.put, List.setIfInBounds_toArray, List.set_cons_succ, List.set_cons_zero]) | (go_big_quiet_op; (try refine ⟨_, fun _ _ => rfl, ?_⟩); refine hK _ ?_; clear hK K)) | (refine tree_skip ⟨_, H, by repeat first | exact .here | apply Suf.there⟩ rfl rfl ?_; simp only [List.getElem_toArray, List.getElem_cons_succ, List.getElem_cons_zero, Act.put, List.setIfInBounds_toArray, List.set_cons_succ, List.set_cons_zero])) | (guard_target =~ wpTree _ _ _ (Tr.both _ _) _ _ _; refine tree_both ?_ ?_) | (guard_target =~ wpTree _ _ _ (Tr.e _ _) _ _ _; first | (refine tree_one rfl rfl (fun K hK => ?_); simp only [List.getElem_toArray, List.getElem_cons_succ, List.getElem_cons_zero]; first | ((first | fail); simp only [Act.put, List.setIfInBounds_toArray, List.set_cons_succ, List.set_cons_zero]) | go_big_op) | (refine tree_one_skip ⟨_, H, by repeat first | exact .here | apply Suf.there⟩ rfl rfl ?_; simp only [List.getElem_toArray, List.getElem_cons_succ, List.getElem_cons_zero, Act.put, List.setIfInBounds_toArray, List.set_cons_succ, List.set_cons_zero])) | (guard_target =~ wpTree _ _ _ Tr.nil _ _ _; refine tree_nil ?_)))
          have e2 : ((o : Int) + (c : Int) + (q : Int)) % 65536 = (((o + c + q) % 65536 : Nat) : Int) := by omega
          rw [e2, dl_set] at H
          go_roundg (gk - 1)
          case rel =>
            have bo' : (o + c + q) / 65536 < 65536 := by omega
            have hI := HI.out
            rw [hx.out] at hI
            refine ⟨m + 1, (o + c + q) / 65536, l.set (n + m) ((o + c + q) % 65536), by omega, by congr 1, by congr 1, bo', by rw [List.length_set]; exact HL.out, gl.set _ _ (by omega), ?_, H⟩
            rw [hx.out, ← val_vB, ← val_vB (b.take _)] at *
            exact mul_round 65536 l b _ x y n m c _ _ o (by rw [HL.out]; omega) HO.out hy.out hI (by rw [HQ.out]; omega)
          case measure => omega
        · by_cases h2 : 0 < c
          · have hm : m = b.length := by
              by_cases h : m = b.length
              · exact h
              · exfalso
                obtain rfl : m = b.length + 1 := by omega
                have hI := HI.out
                rw [List.take_of_length_le (l := b) (by omega)] at hI
                have := carry_end ga1 gb1 h0 rfl hI
                omega
            have hnm : n + m < l.length := by rw [HL.out]; omega
            have hnl : n + m < (dl l).length := by rw [dl_length]; exact hnm
            have hnm2 : n + m < a.length + b.length + 1 := by omega
            obtain ⟨o, ho⟩ : ∃ o, l.getD (n + m) 0 = o := ⟨_, rfl⟩
            have bo : o < 65536 := by rw [← ho]; exact gl.get _
            have ldO : (Res.cells d5 (dl l)).at d5 (n + m) [.int .i64 (o : Int)] := at_cells (by rw [dl_get hnm, ho])
            have HO := Lib.hid ho
            have HM := Lib.hid hm
            clear ho hnm hm
            go_wp2_with (guard_target =~ wpList _ _ _ (_ :: _) _ _; (first | (guard_target =~ wpList _ _ _ (Oper.mk _ (.load _ _) _ _ _ _ :: _) _ _; refine BigFrame.wpList_want rfl (fun K hK => ?_); (first | (refine o_load (v := ?_) (r := ?_) rfl rfl H ?_ ?_ ?_ (hK _ _ ?_); rotate_left 2; (with_reducible assumption); (repeat first | exact .head _ | apply List.Mem.tail); (focus (intro _; simp; done))) | (refine o_loadC (v := ?_) (row := ?_) rfl rfl H ?_ ?_ ?_ (hK _ _ ?_); rotate_left 2; (repeat first | exact .head _ | apply List.Mem.tail); (exact rfl); (focus (intro _; simp; done)))); clear hK K) | (guard_target =~ wpList _ _ _ (Oper.mk _ (.store _ _ _) _ _ _ _ :: _) _ _; refine BigFrame.wpList_want rfl (fun K hK => ?_); refine o_store (l' := ?_) (row := ?_) rfl rfl H rfl ?_ ?_ ?_ ?_ (fun w3 H2 => hK _ _ ?_); rotate_left 2; (exact r0); (focus (intro _; simp [Act.eval, Value.cells]; done)); (focus ((try simp [Act.eval, Value.cells]); omega)); (exact rfl); clear hK K; clear H; (try clear w2); revert w3; intro w2 H; simp [Act.eval, Value.cells, setL, List.getD] at H)); simp only [Act.put, List.setIfInBounds_toArray, List.set_cons_succ, List.set_cons_zero])
            have e2 : ((o : Int) + (c : Int)) % 65536 = (((o + c) % 65536 : Nat) : Int) := by omega
            rw [e2, dl_set] at H
            go_roundg (gk - 1)
            case rel =>
              have hI := HI.out
              have hm := HM.out
              refine ⟨m + 1, (o + c) / 65536, l.set (n + m) ((o + c) % 65536), by omega, by congr 1, by congr 1, by omega, by rw [List.length_set]; exact HL.out, gl.set _ _ (by omega), ?_, H⟩
              rw [← val_vB, ← val_vB (b.take _)] at *
              exact mul_round 65536 l b _ _ 0 n m c ((o + c) % 65536) ((o + c) / 65536) o (by rw [HL.out]; omega) HO.out (getD_past h1) hI (by rw [Nat.mul_zero]; omega)
            case measure => have hm := HM.out; omega
          · obtain rfl : c = 0 := by omega
            go_wp2_with (guard_target =~ wpList _ _ _ (_ :: _) _ _; (guard_target =~ wpList _ _ _ (Oper.mk _ (.load _ _) _ _ _ _ :: _) _ _; refine BigFrame.wpList_want rfl (fun K hK => ?_); (refine o_loadC (v := ?_) (row := ?_) rfl rfl H ?_ ?_ ?_ (hK _ _ ?_); rotate_left 2; (repeat first | exact .head _ | apply List.Mem.tail); (exact rfl); (focus (intro _; simp; done))); clear hK K); simp only [Act.put, List.setIfInBounds_toArray, List.set_cons_succ, List.set_cons_zero])
            go_roundg (a.length - (n + 1))
            case rel =>
              have hI := HI.out
              rw [List.take_of_length_le (l := b) (by omega), Nat.mul_zero, Nat.add_zero] at hI
              have h1 := mul_next 65536 a b n _ rfl
              rw [val_vB, val_vB, val_vB] at h1
              rw [h1] at hI
              exact ⟨n + 1, l, by omega, by congr 1, HL.out, gl, hI, H⟩
            case measure => omega
    · obtain rfl : n = a.length := by omega
      have hv := HV.out
      rw [List.take_length] at hv
      have HQ := Lib.hid hv
      have n2 := H.notF m0 hF
      have H := H.toRd
      have HT : ∀ (F : Nat → Prop) (w : World) (hF : ∀ k, F k → k < w.heap.size) (A : Option Addr) (ha : Sl F w A (dl l)), Calls Try.prog 99 #[.agg #[.bool (!(s == t)), .slice A (a.length + b.length + 1) (a.length + b.length + 1)]] w (RetN F w (sgn (!(s == t)) (val l))) := by
        intro F w hF A ha
        have h := trim_any F w hF (!(s == t)) A (a.length + b.length + 1) l ha gl (by rw [HL.out]; omega) (by rw [HL.out]; exact Nat.le_refl _) (by unfold maxLen; omega)
        rw [HL.out] at h
        exact h
      clear hv
      go_wp2_with (first
        | (go_at_call 99; (with_reducible refine (HT (FW F _) _ (H.fw_lt rfl hF) _ (H.giveRd m0 (fun _ => n2))).mono ?_); rintro e w3 ⟨A3, k3, l3, rfl, hb, s3, g3, q2, q3⟩; replace H := H.ext hb; clear hb; obtain ⟨b4, o4, H4, f4⟩ := H.addSl s3; clear H s3; have H := H4; clear H4; dsimp only)
        | (guard_target =~ wpList _ _ _ (_ :: _) _ _; (first | (guard_target =~ wpList _ _ _ (Oper.mk _ (.load _ _) _ _ _ _ :: _) _ _; refine BigFrame.wpList_want rfl (fun K hK => ?_); (refine o_loadC (v := ?_) (row := ?_) rfl rfl H ?_ ?_ ?_ (hK _ _ ?_); rotate_left 2; (repeat first | exact .head _ | apply List.Mem.tail); (exact rfl); (focus (intro _; simp; done))); clear hK K) | (guard_target =~ wpList _ _ _ (Oper.mk _ (.store _ _ _) _ _ _ _ :: _) _ _; refine BigFrame.wpList_want rfl (fun K hK => ?_); refine o_store (l' := ?_) (row := ?_) rfl rfl H rfl ?_ ?_ ?_ ?_ (fun w3 H2 => hK _ _ ?_); rotate_left 2; (exact r2); (focus (intro _; simp [Act.eval, Value.cells]; done)); (focus (simp [Act.eval, Value.cells]; done)); (exact rfl); clear hK K; clear H; (try clear w2); revert w3; intro w2 H; simp [Act.eval, Value.cells, setL, List.getD] at H)); simp only [Act.put, List.setIfInBounds_toArray, List.set_cons_succ, List.set_cons_zero]))
      have hr := H.loadVarN (P := Try.prog) (ty := 31) m2 (by simp) (by simp)
      rw [← HQ.out]
      exact bodyPost_ret (v := .agg #[.bool (decide (sgn (!(s == t)) (val l) < 0)), .slice A3 l3.length k3]) (by simp [results, Try.results49, asAddr, hr]) rfl ⟨A3, k3, l3, rfl, H.below, (H.giveRd m0 f4).fw, g3, q2, q3⟩
end Go.Proofs.Ytdgpdafkngoegaa
