/-
  The walks of plan and of the document: vertices and edges by their numbers, how many edges end at one.
-/
import Derived.Test.YtlhmjhildlnokaaGreatM28ca6b73
import Derived.Test.YtlhmjhildlnokaaGreatMd6b25c4b
import Derived.Test.YtlhmjhildlnokaaGreatM8ef4624f
import Derived.Test.YtlhmjhildlnokaaGreatM586e9777
namespace Go.Proofs.YtlhmjhildlnokaaGreat
set_option linter.unusedVariables false
set_option linter.unusedSimpArgs false
open Go.RowKit
theorem flatN_len {α : Type} {f : α → List Value} {k : Nat} (hf : ∀ a, (f a).length = k) : ∀ (l : List α), (l.flatMap f).length = l.length * k
 | [] => by simp
 | a :: l => by rw [List.flatMap_cons, List.length_append, hf, flatN_len hf l, List.length_cons, Nat.add_mul, Nat.one_mul, Nat.add_comm]
theorem flatN_at {α : Type} {f : α → List Value} {k : Nat} (hf : ∀ a, (f a).length = k) : ∀ (l : List α) (i : Nat) (a : α), l[i]? = some a → ((l.flatMap f).drop (i * k)).take k = f a
 | [], i, a, h => by simp at h
 | b :: l, 0, a, h => by
  obtain rfl : b = a := by simpa using h
  rw [Nat.zero_mul, List.drop_zero, List.flatMap_cons, List.take_append_of_le_length (by rw [hf]; exact Nat.le_refl _), List.take_of_length_le (by rw [hf]; exact Nat.le_refl _)]
 | b :: l, i + 1, a, h => by
  have := flatN_at hf l i a (by simpa using h)
  rw [Nat.add_mul, Nat.one_mul, Nat.add_comm, List.flatMap_cons, ← List.drop_drop]
  have e : List.drop k (f b ++ l.flatMap f) = l.flatMap f := by
   have := hf b
   rw [List.drop_append_of_le_length (by omega), List.drop_of_length_le (by omega), List.nil_append]
  rw [e]
  exact this
theorem flatN_sub {α : Type} {f : α → List Value} {k : Nat} (hf : ∀ a, (f a).length = k) {l : List α} {i : Nat} {a : α} (h : l[i]? = some a) (d m : Nat) (hd : d + m ≤ k) : ((l.flatMap f).drop (i * k + d)).take m = ((f a).drop d).take m := by
 have := flatN_at hf l i a h
 rw [← List.drop_drop, ← this, List.drop_take, List.take_take, Nat.min_eq_left (by omega)]
theorem setL_app (r : List Value) : ∀ (vs row : List Value) (o : Nat), o + vs.length ≤ row.length → setL (row ++ r) o vs = setL row o vs ++ r
 | [], row, o, _ => rfl
 | v :: vs, row, o, h => by
  simp only [List.length_cons] at h
  rw [setL, setL, List.set_append_left _ _ (by omega), setL_app r vs (row.set o v) (o + 1) (by rw [List.length_set]; omega)]
theorem setL_ahead (r : List Value) : ∀ (vs row : List Value) (o : Nat), setL (r ++ row) (r.length + o) vs = r ++ setL row o vs
 | [], row, o => rfl
 | v :: vs, row, o => by
  rw [setL, setL, List.set_append_right _ _ (by omega), Nat.add_sub_cancel_left, Nat.add_assoc, setL_ahead r vs]
theorem flatN_set {α : Type} {f : α → List Value} {k : Nat} (hf : ∀ a, (f a).length = k) {d : Nat} {vs : List Value} {a a' : α} (hd : d + vs.length ≤ k) (hv : setL (f a) d vs = f a') : ∀ (l : List α) (i : Nat), l[i]? = some a → setL (l.flatMap f) (i * k + d) vs = (l.set i a').flatMap f
 | [], i, h => by simp at h
 | b :: l, 0, h => by
  obtain rfl : b = a := by simpa using h
  rw [Nat.zero_mul, Nat.zero_add, List.flatMap_cons, setL_app _ _ _ _ (by rw [hf]; exact hd), hv]; rfl
 | b :: l, i + 1, h => by
  have := flatN_set hf hd hv l i (by simpa using h)
  rw [List.flatMap_cons, Nat.add_mul, Nat.one_mul, Nat.add_comm (i * k), Nat.add_assoc]
  have e := setL_ahead (f b) vs (l.flatMap f) (i * k + d)
  rw [hf] at e
  rw [e, this]; rfl
structure Tz where
 top : Int
 bot : Int
 hl : Bool
 hr : Bool
 l : Pt
 r : Pt
deriving DecidableEq
structure Pc where
 t : Tz
 n : Int
 g : Bool
structure Nd where
 k : Int
 id : Int
 p : Pt
 a : Int
 b : Int
structure Sg where
 a : Pt
 b : Pt
deriving DecidableEq
def tz8 (t : Tz) : List Value := [.int .i64 t.top, .int .i64 t.bot, .bool t.hl, .bool t.hr, .int .i64 t.l.x, .int .i64 t.l.y, .int .i64 t.r.x, .int .i64 t.r.y]
def pc10 (p : Pc) : List Value := [.int .i64 p.t.top, .int .i64 p.t.bot, .bool p.t.hl, .bool p.t.hr, .int .i64 p.t.l.x, .int .i64 p.t.l.y, .int .i64 p.t.r.x, .int .i64 p.t.r.y, .int .i64 p.n, .bool p.g]
def nd6 (q : Nd) : List Value := [.int .i64 q.k, .int .i64 q.id, .int .i64 q.p.x, .int .i64 q.p.y, .int .i64 q.a, .int .i64 q.b]
abbrev sgV (s : Sg) : Value := .agg #[.int .i64 s.a.x, .int .i64 s.a.y, .int .i64 s.b.x, .int .i64 s.b.y]
abbrev tzV (t : Tz) : Value := .agg #[.int .i64 t.top, .int .i64 t.bot, .bool t.hl, .bool t.hr, .int .i64 t.l.x, .int .i64 t.l.y, .int .i64 t.r.x, .int .i64 t.r.y]
abbrev ndV (q : Nd) : Value := .agg #[.int .i64 q.k, .int .i64 q.id, .int .i64 q.p.x, .int .i64 q.p.y, .int .i64 q.a, .int .i64 q.b]
def tR (l : List Tz) : List Value := l.flatMap tz8
def pR (l : List Pc) : List Value := l.flatMap pc10
def nR (l : List Nd) : List Value := l.flatMap nd6
theorem pR_len (l : List Pc) : (pR l).length = l.length * 10 := flatN_len (f := pc10) (fun _ => rfl) l
theorem nR_len (l : List Nd) : (nR l).length = l.length * 6 := flatN_len (f := nd6) (fun _ => rfl) l
theorem pR_app (l m : List Pc) : pR (l ++ m) = pR l ++ pR m := by simp [pR]
theorem nR_app (l m : List Nd) : nR (l ++ m) = nR l ++ nR m := by simp [nR]
theorem tR_app (l m : List Tz) : tR (l ++ m) = tR l ++ tR m := by simp [tR]
theorem infoIt : (Tryz.prog.info? 3).map (fun i => (i.zero, i.size, i.bytes)) = some (some (.int .i64 0), 1, 8) := by kernel_rfl
theorem infoNd : (Tryz.prog.info? 75).map (fun i => (i.zero, i.size, i.bytes)) = some (some (.agg #[.int .i64 0, .int .i64 0, .int .i64 0, .int .i64 0, .int .i64 0, .int .i64 0]), 6, 48) := by kernel_rfl
theorem infoPc : (Tryz.prog.info? 80).map (fun i => (i.zero, i.size, i.bytes)) = some (some (.agg #[.int .i64 0, .int .i64 0, .bool false, .bool false, .int .i64 0, .int .i64 0, .int .i64 0, .int .i64 0, .int .i64 0, .bool false]), 10, 72) := by kernel_rfl
theorem infoTz : (Tryz.prog.info? 78).map (fun i => (i.zero, i.size, i.bytes)) = some (some (.agg #[.int .i64 0, .int .i64 0, .bool false, .bool false, .int .i64 0, .int .i64 0, .int .i64 0, .int .i64 0]), 8, 56) := by kernel_rfl
abbrev mSeg (b : Nat) (m : List (Int × Sg)) : Res := mapA (Value.int .i64) sgV b m
def zSg : Sg := ⟨⟨0, 0⟩, ⟨0, 0⟩⟩
section
variable {o : Oper} {a : Act} {w w0 : World} {B : Nat} {l : List Res} {Q : Exit → Act → World → Prop} {x y z : Operand} {b r : Nat} {C : Act → World → Prop} {m : List (Int × Sg)} {n : Int}
theorem und_seg : Tryz.prog.underlying 62 = some (.map 3 58) := by kernel_rfl
theorem zero_seg (w : World) : (zeroValue 58).run Tryz.prog w = .ok (sgV zSg) w := by kernel_rfl
theorem und_intT : Tryz.prog.underlying 3 = some (.int .i64) := by kernel_rfl
theorem key_intT : KeyOK Tryz.prog 3 (Value.int .i64) where
 check e k w := by
  have : ∀ n, (Instr.checkKey e (n + 1) 3 (Value.int .i64 k)).run Tryz.prog w = .ok () w := fun n => by simp [Instr.checkKey, und_intT]
  exact this 9999
 same k := by simp [Instr.sameBits]
 find := ⟨.int .i64, by kernel_rfl, .inl fun k k' => by simp [Instr.sameNow]; rw [Bool.eq_iff_iff]; simp⟩
theorem o_segMake (ho : o.op = .makeMap 62 none) (H : Own B w0 w l) (hk : ∀ w' b, Ext w w' → Own B w0 w' (mSeg b [] :: l) → C (a.put o.dst (.map (some b))) w') : o.wp Tryz.prog a w C Q := o_makeA _ _ ho H hk
theorem o_segOk (ho : o.op = .lookup 62 x y true) (hx : a.eval x = .map (some b)) (hy : a.eval y = .int .i64 n) (H : Own B w0 w l) (hm : mSeg b m ∈ l)
  (hk : C (a.put o.dst (.tuple #[sgV ((getA m n).getD zSg), .bool (getA m n).isSome])) w) : o.wp Tryz.prog a w C Q := o_okA key_intT (k := n) (zv := zSg) ho hx hy H hm und_seg zero_seg hk
theorem q_segGet {lf : List Res} {Kq : Act → Prop} (ho : o.op = .lookup 62 x y false) (hx : a.eval x = .map (some b)) (hy : a.eval y = .int .i64 n) (hm : mSeg b m ∈ lf)
  (hk : Kq (a.put o.dst (sgV ((getA m n).getD zSg)))) : o.quiet Tryz.prog a (Keeps B w0 lf) Kq := q_getA key_intT (k := n) (zv := zSg) ho hx hy hm und_seg zero_seg hk
theorem o_segSet {l0 : List (Int × Sg) → List Res} {x1 y1 x2 y2 : Int} (ho : o.op = .mapUpdate 62 x y z) (hx : a.eval x = .map (some b)) (hy : a.eval y = .int .i64 n) (hz : a.eval z = .agg #[.int .i64 x1, .int .i64 y1, .int .i64 x2, .int .i64 y2]) (H : Own B w0 w l)
  (hrep : ∀ m', Rep (mSeg b m) (mSeg b m') l (l0 m')) (hk : ∀ w', Own B w0 w' (l0 ((n, ⟨⟨x1, y1⟩, ⟨x2, y2⟩⟩) :: cutA m n)) → C (a.put o.dst undef) w') : o.wp Tryz.prog a w C Q := o_setA key_intT (k := n) (v := ⟨⟨x1, y1⟩, ⟨x2, y2⟩⟩) ho hx hy hz H hrep und_seg hk
end
abbrev mEnd (b : Nat) (m : List (Pt × Bool)) : Res := mapA kP Value.bool b m
abbrev sEnd (b : Nat) (m : List (Pt × Bool)) (k : Pt) (st : Int) : Res := mapSt kP Value.bool b m k st
section
variable {o : Oper} {a : Act} {w w0 : World} {B : Nat} {l : List Res} {Q : Exit → Act → World → Prop} {x y z : Operand} {b r : Nat} {C : Act → World → Prop} {m : List (Pt × Bool)} {n p : Int}
theorem o_endMake (ho : o.op = .makeMap 63 none) (H : Own B w0 w l) (hk : ∀ w' b, Ext w w' → Own B w0 w' (mEnd b [] :: l) → C (a.put o.dst (.map (some b))) w') : o.wp Tryz.prog a w C Q := o_makeA _ _ ho H hk
theorem q_endGet {lf : List Res} {Kq : Act → Prop} (ho : o.op = .lookup 63 x y false) (hx : a.eval x = .map (some b)) (hy : a.eval y = pV n p) (hm : mEnd b m ∈ lf)
  (hk : Kq (a.put o.dst (.bool ((getA m ⟨n, p⟩).getD false)))) : o.quiet Tryz.prog a (Keeps B w0 lf) Kq := q_getA key_pt (k := (⟨n, p⟩ : Pt)) (zv := false) ho hx hy hm und_met zero_bool hk
theorem o_endEnt {l0 : List (Pt × Bool) → Int → List Res} (ho : o.op = .mapEntry 63 x y) (hx : a.eval x = .map (some b)) (hy : a.eval y = pV n p) (H : Own B w0 w l)
  (hrep : ∀ m' st, Rep (mEnd b m) (sEnd b m' ⟨n, p⟩ st) l (l0 m' st)) (hk : ∀ w' v0 st, Own B w0 w' (l0 ((⟨n, p⟩, (getA m ⟨n, p⟩).getD false) :: cutA m ⟨n, p⟩) st) → C (a.put o.dst (.tuple #[v0, .int .i64 st])) w') : o.wp Tryz.prog a w C Q :=
 o_entA key_pt (k := (⟨n, p⟩ : Pt)) (zv := false) ho hx hy H (fun st => hrep _ st) und_met zero_bool hk
theorem o_endPut {l0 : List (Pt × Bool) → List Res} {st : Int} {k : Pt} {v : Bool} (ho : o.op = .entryStore 63 x y z) (hx : a.eval x = .map (some b)) (hy : a.eval y = .int .i64 st) (hv : a.eval z = .bool v) (H : Own B w0 w l)
  (hrep : ∀ m', Rep (sEnd b m k st) (mEnd b m') l (l0 m')) (hk : ∀ w', Own B w0 w' (l0 ((k, v) :: cutA m k)) → C (a.put o.dst undef) w') : o.wp Tryz.prog a w C Q :=
 o_putA (k := k) (v := v) ho hx hy hv H (hrep _) hk
end
theorem refIn_any (x y : Int) (w : World) :
  Calls Tryz.prog 18 #[pV x y] w fun e w' => e = .returned (.bool (inB ⟨x, y⟩)) ∧ Below w.heap.size w w' := by
 obtain ⟨v, hv⟩ : ∃ v, inB ⟨x, y⟩ = v := ⟨_, rfl⟩
 have HV := Lib.hid hv
 rw [hv]; clear hv
 go_enter Tryz.func18, Tryz.ntmps18
 go_wp2
 all_goals
  go_ret
  refine ⟨ret_b ?_, below_alloc1 _ _⟩
  rw [← HV.out]
  first | exact in_d (x := x) (y := y) (by omega) | exact Eq.symm (in_t (x := x) (y := y) (by omega)) | exact Eq.symm (in_f (x := x) (y := y) (by omega))
theorem area_cross (ax ay bx b_y cx cy : Int) : ax * b_y - ay * bx + bx * cy - b_y * cx + cx * ay - cy * ax = crossZ ⟨ax, ay⟩ ⟨bx, b_y⟩ ⟨cx, cy⟩ := by
 unfold crossZ
 dsimp only
 grind
set_option maxRecDepth 100000 in
set_option maxHeartbeats 4000000 in
theorem refArea_any (ax ay bx b_y cx cy : Int) (ha : InP ⟨ax, ay⟩) (hb : InP ⟨bx, b_y⟩) (hc : InP ⟨cx, cy⟩) (w : World) :
  Calls Tryz.prog 48 #[pV ax ay, pV bx b_y, pV cx cy] w fun e w' => e = .returned (.int .i64 (crossZ ⟨ax, ay⟩ ⟨bx, b_y⟩ ⟨cx, cy⟩)) ∧ Below w.heap.size w w' := by
 have H := Own.start w
 rw [← area_cross]
 obtain ⟨⟨a1, a2⟩, a3, a4⟩ := ha
 obtain ⟨⟨b1, b2⟩, b3, b4⟩ := hb
 obtain ⟨⟨c1, c2⟩, c3, c4⟩ := hc
 dsimp only at a1 a2 a3 a4 b1 b2 b3 b4 c1 c2 c3 c4
 obtain ⟨p1, q1⟩ := mul_bound a1 a2 b3 b4
 obtain ⟨p2, q2⟩ := mul_bound a3 a4 b1 b2
 obtain ⟨p3, q3⟩ := mul_bound b1 b2 c3 c4
 obtain ⟨p4, q4⟩ := mul_bound b3 b4 c1 c2
 obtain ⟨p5, q5⟩ := mul_bound c1 c2 a3 a4
 obtain ⟨p6, q6⟩ := mul_bound c3 c4 a1 a2
 simp only [show (268435456 : Int) * 268435456 = 72057594037927936 from rfl] at p1 q1 p2 q2 p3 q3 p4 q4 p5 q5 p6 q6
 go_enter Tryz.func48, Tryz.ntmps48
 go_wp2_with ((guard_target = wpList _ _ _ (_ :: _) _ _); (first | (refine aa335462 ?_) | (refine a32a6bca ?_; intro b2; clear H; (try clear w2); intro w2 H)))
 go_ret
 exact ⟨rfl, H.below⟩
set_option maxRecDepth 100000 in
set_option maxHeartbeats 4000000 in
theorem refTurn_any (ax ay bx b_y cx cy : Int) (ha : InP ⟨ax, ay⟩) (hb : InP ⟨bx, b_y⟩) (hc : InP ⟨cx, cy⟩) (w : World) :
  Calls Tryz.prog 30 #[pV ax ay, pV bx b_y, pV cx cy] w fun e w' => e = .returned (.int .i64 (turnZ ⟨ax, ay⟩ ⟨bx, b_y⟩ ⟨cx, cy⟩)) ∧ Below w.heap.size w w' := by
 have H := Own.start w
 have hA := refArea_any ax ay bx b_y cx cy ha hb hc
 unfold turnZ
 clear ha hb hc
 generalize crossZ ⟨ax, ay⟩ ⟨bx, b_y⟩ ⟨cx, cy⟩ = n at hA ⊢
 rcases sg_cases n with ⟨h, k⟩ | ⟨h, k⟩ | ⟨h, k⟩
 ·rw [k]; clear k
  have h' : ¬ 0 < n := by omega
  go_enter Tryz.func30, Tryz.ntmps30
  go_wp2_with (first
   | (go_at_call 48; (with_reducible refine (hA _).mono ?_); rintro e w3 ⟨rfl, hb⟩; replace H := H.ext hb; clear hb; dsimp only; (skip))
   | ((guard_target = wpList _ _ _ (_ :: _) _ _); (first | (refine aa335462 ?_) | (refine a32a6bca ?_; intro b2; clear H; (try clear w2); intro w2 H))))
  go_ret
  exact ⟨rfl, H.below⟩
 ·rw [k]; clear k; subst h
  go_enter Tryz.func30, Tryz.ntmps30
  go_wp2_with (first
   | (go_at_call 48; (with_reducible refine (hA _).mono ?_); rintro e w3 ⟨rfl, hb⟩; replace H := H.ext hb; clear hb; dsimp only; (skip))
   | ((guard_target = wpList _ _ _ (_ :: _) _ _); (first | (refine aa335462 ?_) | (refine a32a6bca ?_; intro b2; clear H; (try clear w2); intro w2 H))))
  go_ret
  exact ⟨rfl, H.below⟩
 ·rw [k]; clear k
  go_enter Tryz.func30, Tryz.ntmps30
  go_wp2_with (first
   | (go_at_call 48; (with_reducible refine (hA _).mono ?_); rintro e w3 ⟨rfl, hb⟩; replace H := H.ext hb; clear hb; dsimp only; (skip))
   | ((guard_target = wpList _ _ _ (_ :: _) _ _); (first | (refine aa335462 ?_) | (refine a32a6bca ?_; intro b2; clear H; (try clear w2); intro w2 H))))
  go_ret
  exact ⟨rfl, H.below⟩
theorem within_eq (px py ax ay bx b_y : Int) (t : Int) (ht : turnZ ⟨ax, ay⟩ ⟨bx, b_y⟩ ⟨px, py⟩ = t) :
  withinB ⟨px, py⟩ ⟨ax, ay⟩ ⟨bx, b_y⟩ = decide (t = 0 ∧ (ax ≤ px ∧ px ≤ bx ∨ bx ≤ px ∧ px ≤ ax) ∧ (ay ≤ py ∧ py ≤ b_y ∨ b_y ≤ py ∧ py ≤ ay)) := by
 subst ht; rfl
theorem dec_t {q : Prop} [Decidable q] (h : q) : true = decide q := (decide_eq_true h).symm
theorem dec_f {q : Prop} [Decidable q] (h : ¬ q) : false = decide q := (decide_eq_false h).symm
theorem dec_d {p q : Prop} [Decidable p] [Decidable q] (h : p ↔ q) : decide p = decide q := decide_eq_decide.2 h
set_option maxRecDepth 100000 in
set_option maxHeartbeats 8000000 in
theorem refWithin_any (px py ax ay bx b_y : Int) (hp : InP ⟨px, py⟩) (ha : InP ⟨ax, ay⟩) (hb : InP ⟨bx, b_y⟩) (w : World) :
  Calls Tryz.prog 47 #[pV px py, pV ax ay, pV bx b_y] w fun e w' => e = .returned (.bool (withinB ⟨px, py⟩ ⟨ax, ay⟩ ⟨bx, b_y⟩)) ∧ Below w.heap.size w w' := by
 have H := Own.start w
 have hT := refTurn_any ax ay bx b_y px py ha hb hp
 obtain ⟨t, ht⟩ : ∃ t, turnZ ⟨ax, ay⟩ ⟨bx, b_y⟩ ⟨px, py⟩ = t := ⟨_, rfl⟩
 have hv := within_eq px py ax ay bx b_y t ht
 rw [ht] at hT
 obtain ⟨v, ev⟩ : ∃ v, withinB ⟨px, py⟩ ⟨ax, ay⟩ ⟨bx, b_y⟩ = v := ⟨_, rfl⟩
 rw [ev] at hv ⊢
 clear ev hp ha hb ht
 by_cases h0 : t = 0
 ·subst h0
  simp only [true_and] at hv
  have HV := Lib.hid hv
  clear hv
  go_enter Tryz.func47, Tryz.ntmps47
  go_wp2_with (first
   | go_big_skip
   | (go_at_call 30; (with_reducible refine (hT _).mono ?_); rintro e w3 ⟨rfl, hb⟩; replace H := H.ext hb; clear hb; dsimp only; (skip))
   | ((guard_target = wpList _ _ _ (_ :: _) _ _); (first | (refine aa335462 ?_) | (refine a32a6bca ?_; intro b2; clear H; (try clear w2); intro w2 H))))
  all_goals first
   | (exfalso; omega)
   | (go_ret; refine ⟨ret_b ?_, H.below⟩; rw [HV.out]; first | exact dec_d (by omega) | exact dec_t (by omega) | exact dec_f (by omega))
 ·have h1 : (t != 0) = true := by simpa using h0
  obtain rfl : v = false := by rw [hv]; exact decide_eq_false (fun h => h0 h.1)
  clear hv h0
  go_enter Tryz.func47, Tryz.ntmps47
  go_wp2_with (first
   | (go_at_call 30; (with_reducible refine (hT _).mono ?_); rintro e w3 ⟨rfl, hb⟩; replace H := H.ext hb; clear hb; dsimp only; (skip))
   | ((guard_target = wpList _ _ _ (_ :: _) _ _); (first | (refine aa335462 ?_) | (refine a32a6bca ?_; intro b2; clear H; (try clear w2); intro w2 H))))
  go_ret
  exact ⟨rfl, H.below⟩
set_option maxRecDepth 100000 in
set_option maxHeartbeats 8000000 in
theorem refOn_any (px py ax ay bx b_y : Int) (hp : InP ⟨px, py⟩) (ha : InP ⟨ax, ay⟩) (hb : InP ⟨bx, b_y⟩) (w : World) :
  Calls Tryz.prog 28 #[pV px py, pV ax ay, pV bx b_y] w fun e w' => e = .returned (.bool (onR ⟨px, py⟩ ⟨ax, ay⟩ ⟨bx, b_y⟩)) ∧ Below w.heap.size w w' := by
 have H := Own.start w
 have hW := refWithin_any px py ax ay bx b_y hp ha hb
 have e1 := ne_pt px py ax ay
 have e2 := ne_pt px py bx b_y
 rw [← pt_eq] at e1 e2
 have ev : onR ⟨px, py⟩ ⟨ax, ay⟩ ⟨bx, b_y⟩ = (withinB ⟨px, py⟩ ⟨ax, ay⟩ ⟨bx, b_y⟩ && (!decide ((⟨px, py⟩ : Pt) = ⟨ax, ay⟩) && !decide ((⟨px, py⟩ : Pt) = ⟨bx, b_y⟩))) := rfl
 rw [ev]
 clear ev hp ha hb
 generalize withinB ⟨px, py⟩ ⟨ax, ay⟩ ⟨bx, b_y⟩ = v0 at hW ⊢
 generalize decide ((⟨px, py⟩ : Pt) = ⟨ax, ay⟩) = v1 at e1 ⊢
 generalize decide ((⟨px, py⟩ : Pt) = ⟨bx, b_y⟩) = v2 at e2 ⊢
 obtain ⟨v, hv⟩ : ∃ v, (v0 && (!v1 && !v2)) = v := ⟨_, rfl⟩
 rw [hv]
 have HV := Lib.hid hv
 clear hv
 go_enter Tryz.func28, Tryz.ntmps28
 go_wp2_with (first
  | go_big_skip
  | (go_at_call 47; (with_reducible refine (hW _).mono ?_); rintro e w3 ⟨rfl, hb⟩; replace H := H.ext hb; clear hb; dsimp only; (skip))
  | ((guard_target = wpList _ _ _ (_ :: _) _ _); (first | (refine aa335462 ?_) | (refine a32a6bca ?_; intro b2; clear H; (try clear w2); intro w2 H))))
 all_goals
  go_ret
  exact ⟨ret_b (by rw [← HV.out]; simp [*]), H.below⟩
end Go.Proofs.YtlhmjhildlnokaaGreat
namespace Go.Proofs.YtlhmjhildlnokaaGreat
set_option linter.unusedVariables false
set_option linter.unusedSimpArgs false
theorem turn0 (a b c : Pt) : turnZ a b c = 0 ↔ crossZ a b c = 0 := sg_eq0 _
theorem line_cases (p a b : Pt) (h : crossZ a b p = 0) (hab : a ≠ b) :
  p = a ∨ p = b ∨
  (∃ m n : Int, 0 < m ∧ 0 < n ∧ m * (a.x - p.x) = -(n * (b.x - p.x)) ∧ m * (a.y - p.y) = -(n * (b.y - p.y))) ∨
  (∃ m n : Int, 0 < m ∧ 0 < n ∧ m * (a.x - p.x) = n * (b.x - p.x) ∧ m * (a.y - p.y) = n * (b.y - p.y)) := by
 obtain ⟨px, py⟩ := p
 obtain ⟨ax, ay⟩ := a
 obtain ⟨bx, b_y⟩ := b
 have hk : (ax - px) * (b_y - py) = (bx - px) * (ay - py) := by
  unfold crossZ at h
  dsimp only at h
  grind
 have hne : ax ≠ bx ∨ ay ≠ b_y := by
  by_cases h1 : ax = bx
  ·refine .inr fun h2 => hab ?_
   rw [h1, h2]
  ·exact .inl h1
 clear h hab
 simp only [Pt.mk.injEq]
 obtain ⟨u, hu⟩ : ∃ u, ax - px = u := ⟨_, rfl⟩
 obtain ⟨v, hv⟩ : ∃ v, ay - py = v := ⟨_, rfl⟩
 obtain ⟨s, hs⟩ : ∃ s, bx - px = s := ⟨_, rfl⟩
 obtain ⟨t, ht⟩ : ∃ t, b_y - py = t := ⟨_, rfl⟩
 rw [hu, hv, hs, ht] at hk ⊢
 have hne' : u ≠ s ∨ v ≠ t := by omega
 by_cases h0 : u = 0 ∧ v = 0
 ·exact .inl ⟨by omega, by omega⟩
 by_cases h1 : s = 0 ∧ t = 0
 ·exact .inr (.inl ⟨by omega, by omega⟩)
 refine .inr (.inr ?_)
 clear hne hu hv hs ht hne'
 rcases Int.lt_trichotomy u 0 with hu | hu | hu
 ·rcases Int.lt_trichotomy s 0 with hs | hs | hs
  ·exact .inr ⟨-s, -u, by omega, by omega, by grind, by grind⟩
  ·exfalso
   subst hs
   rw [Int.zero_mul] at hk
   rcases Int.mul_eq_zero.1 hk with h | h <;> omega
  ·exact .inl ⟨s, -u, by omega, by omega, by grind, by grind⟩
 ·subst hu
  rw [Int.zero_mul] at hk
  have hv : v ≠ 0 := fun h => h0 ⟨rfl, h⟩
  obtain rfl : s = 0 := by
   rcases Int.mul_eq_zero.1 hk.symm with h | h
   ·exact h
   ·exact absurd h hv
  have ht : t ≠ 0 := fun h => h1 ⟨rfl, h⟩
  rcases Int.lt_trichotomy v 0 with h2 | h2 | h2
  ·rcases Int.lt_trichotomy t 0 with h3 | h3 | h3
   ·exact .inr ⟨-t, -v, by omega, by omega, by simp, by grind⟩
   ·exact absurd h3 ht
   ·exact .inl ⟨t, -v, by omega, by omega, by simp, by grind⟩
  ·exact absurd h2 hv
  ·rcases Int.lt_trichotomy t 0 with h3 | h3 | h3
   ·exact .inl ⟨-t, v, by omega, by omega, by simp, by grind⟩
   ·exact absurd h3 ht
   ·exact .inr ⟨t, v, by omega, by omega, by simp, by grind⟩
 ·rcases Int.lt_trichotomy s 0 with hs | hs | hs
  ·exact .inl ⟨-s, u, by omega, by omega, by grind, by grind⟩
  ·exfalso
   subst hs
   rw [Int.zero_mul] at hk
   rcases Int.mul_eq_zero.1 hk with h | h <;> omega
  ·exact .inr ⟨s, u, by omega, by omega, by grind, by grind⟩
theorem pos_same {m n x y : Int} (hm : 0 < m) (hn : 0 < n) (h : m * x = n * y) : (x < 0 ↔ y < 0) ∧ (0 < x ↔ 0 < y) ∧ (x = 0 ↔ y = 0) := by
 have h1 := sg_scale hm hn h
 rcases sg_cases x with ⟨h2, k2⟩ | ⟨h2, k2⟩ | ⟨h2, k2⟩ <;> rcases sg_cases y with ⟨h3, k3⟩ | ⟨h3, k3⟩ | ⟨h3, k3⟩ <;> rw [k2, k3] at h1 <;> omega
theorem pos_other {m n x y : Int} (hm : 0 < m) (hn : 0 < n) (h : m * x = -(n * y)) : (x < 0 ↔ 0 < y) ∧ (0 < x ↔ y < 0) ∧ (x = 0 ↔ y = 0) := by
 have h1 := pos_same hm hn (x := x) (y := -y) (by rw [Int.mul_neg]; exact h)
 omega
theorem less_iff (a b : Pt) : lessB a b = true ↔ (a.x < b.x ∨ a.x = b.x ∧ a.y < b.y) := decide_eq_true_iff (p := LessP a b)
theorem onL_iff (p a b : Pt) (hab : a ≠ b) : onL p a b = true ↔ crossZ a b p = 0 ∧ p ≠ a ∧ p ≠ b ∧
  ∃ m n : Int, 0 < m ∧ 0 < n ∧ m * (a.x - p.x) = -(n * (b.x - p.x)) ∧ m * (a.y - p.y) = -(n * (b.y - p.y)) := by
 unfold onL betwB
 simp only [Bool.and_eq_true, decide_eq_true_eq, Bool.or_eq_true, less_iff, turn0]
 constructor
 ·rintro ⟨h0, h⟩
  have hpa : p ≠ a := by rintro rfl; omega
  have hpb : p ≠ b := by rintro rfl; omega
  refine ⟨h0, hpa, hpb, ?_⟩
  rcases line_cases p a b h0 hab with h1 | h1 | h1 | ⟨m, n, hm, hn, h1, h2⟩
  ·exact absurd h1 hpa
  ·exact absurd h1 hpb
  ·exact h1
  ·exfalso
   have e1 := pos_same hm hn h1
   have e2 := pos_same hm hn h2
   omega
 ·rintro ⟨h0, hpa, hpb, m, n, hm, hn, h1, h2⟩
  refine ⟨h0, ?_⟩
  have e1 := pos_other hm hn h1
  have e2 := pos_other hm hn h2
  have : p.x ≠ a.x ∨ p.y ≠ a.y := by
   by_cases h : p.x = a.x
   ·refine .inr fun h' => hpa ?_
    cases p; cases a; simp at h h' ⊢; exact ⟨h, h'⟩
   ·exact .inl h
  omega
theorem pt_ne {p a : Pt} (h : p ≠ a) : p.x ≠ a.x ∨ p.y ≠ a.y := by
 by_cases h1 : p.x = a.x
 ·refine .inr fun h' => h ?_
  cases p; cases a; simp at h1 h' ⊢; exact ⟨h1, h'⟩
 ·exact .inl h1
theorem onR_iff (p a b : Pt) (hab : a ≠ b) : onR p a b = true ↔ crossZ a b p = 0 ∧ p ≠ a ∧ p ≠ b ∧
  ∃ m n : Int, 0 < m ∧ 0 < n ∧ m * (a.x - p.x) = -(n * (b.x - p.x)) ∧ m * (a.y - p.y) = -(n * (b.y - p.y)) := by
 unfold onR withinB WithinP
 simp only [Bool.and_eq_true, decide_eq_true_eq, Bool.not_eq_true', decide_eq_false_iff_not, turn0]
 constructor
 ·rintro ⟨⟨h0, hx, hy⟩, hpa, hpb⟩
  refine ⟨h0, hpa, hpb, ?_⟩
  rcases line_cases p a b h0 hab with h1 | h1 | h1 | ⟨m, n, hm, hn, h1, h2⟩
  ·exact absurd h1 hpa
  ·exact absurd h1 hpb
  ·exact h1
  ·exfalso
   have e1 := pos_same hm hn h1
   have e2 := pos_same hm hn h2
   have := pt_ne hpa
   have := pt_ne hpb
   omega
 ·rintro ⟨h0, hpa, hpb, m, n, hm, hn, h1, h2⟩
  have e1 := pos_other hm hn h1
  have e2 := pos_other hm hn h2
  refine ⟨⟨h0, by omega, by omega⟩, hpa, hpb⟩
theorem onL_onR (p a b : Pt) : onL p a b = onR p a b := by
 by_cases hab : a = b
 ·subst hab
  have h1 : onL p a a = false := by
   rw [Bool.eq_false_iff]; intro h
   unfold onL betwB at h
   simp only [Bool.and_eq_true, decide_eq_true_eq, Bool.or_eq_true, less_iff, turn0] at h
   omega
  have h2 : onR p a a = false := by
   rw [Bool.eq_false_iff]; intro h
   unfold onR withinB WithinP at h
   simp only [Bool.and_eq_true, decide_eq_true_eq, Bool.not_eq_true', decide_eq_false_iff_not, turn0] at h
   have := pt_ne h.2.1
   omega
  rw [h1, h2]
 ·rw [Bool.eq_iff_iff, onL_iff p a b hab, onR_iff p a b hab]
theorem cross_aba (a b : Pt) : crossZ a b a = 0 := by unfold crossZ; grind
theorem cross_abb (a b : Pt) : crossZ a b b = 0 := by unfold crossZ; grind
theorem cross_swap (a b c : Pt) : crossZ a c b = - crossZ a b c := by unfold crossZ; grind
theorem cross_diff (a b c d : Pt) : crossZ c d b = crossZ c d a + crossZ a b c - crossZ a b d := by unfold crossZ; grind
theorem dist (m u v x y : Int) : m * (u * y - v * x) = u * (m * y) - v * (m * x) := by grind
theorem lin {a b p c d : Pt} {m n : Int} (h0 : crossZ a b p = 0) (hx : m * (c.x - p.x) = n * (d.x - p.x)) (hy : m * (c.y - p.y) = n * (d.y - p.y)) : m * crossZ a b c = n * crossZ a b d := by
 have e1 : crossZ a b c = crossZ a b p + ((b.x - a.x) * (c.y - p.y) - (b.y - a.y) * (c.x - p.x)) := by unfold crossZ; grind
 have e2 : crossZ a b d = crossZ a b p + ((b.x - a.x) * (d.y - p.y) - (b.y - a.y) * (d.x - p.x)) := by unfold crossZ; grind
 rw [e1, e2, h0, Int.zero_add, Int.zero_add, dist m, dist n, hx, hy]
theorem linN {a b p c d : Pt} {m n : Int} (h0 : crossZ a b p = 0) (hx : m * (c.x - p.x) = -(n * (d.x - p.x))) (hy : m * (c.y - p.y) = -(n * (d.y - p.y))) : m * crossZ a b c = -(n * crossZ a b d) := by
 rw [← Int.neg_mul] at hx hy ⊢
 exact lin h0 hx hy
theorem par {ux uy px py qx qy : Int} (hu : ux ≠ 0 ∨ uy ≠ 0) (hp : ux * py = uy * px) (hq : ux * qy = uy * qx) : px * qy = py * qx := by
 rcases hu with h | h
 ·apply Int.eq_of_mul_eq_mul_left h
  grind
 ·apply Int.eq_of_mul_eq_mul_left h
  grind
theorem one_line {a b c d : Pt} (hab : a ≠ b) (hA : crossZ a b c = 0) (hB : crossZ a b d = 0) : crossZ c d a = 0 ∧ crossZ c d b = 0 := by
 have h := par (ux := b.x - a.x) (uy := b.y - a.y) (px := c.x - a.x) (py := c.y - a.y) (qx := d.x - a.x) (qy := d.y - a.y) (by have := pt_ne hab; omega) (by unfold crossZ at hA; omega) (by unfold crossZ at hB; omega)
 have hC : crossZ c d a = 0 := by unfold crossZ; grind
 exact ⟨hC, by rw [cross_diff a b c d, hC, hA, hB]; rfl⟩
theorem turn_eq0 {a b c : Pt} (h : crossZ a b c = 0) : turnZ a b c = 0 := (turn0 a b c).2 h
theorem mul_self_nonneg' (n : Int) : 0 ≤ n * n := by
 rcases Int.le_total 0 n with h | h
 ·exact Int.mul_nonneg h h
 ·have := Int.mul_nonneg (a := -n) (b := -n) (by omega) (by omega)
  rwa [Int.neg_mul_neg] at this
theorem sg_mul {x y : Int} (hx : x ≠ 0) (hy : y ≠ 0) (h : sgnZ x ≠ sgnZ y) : sgnZ x * sgnZ y < 0 := by
 rcases sg_cases x with ⟨h2, k2⟩ | ⟨h2, k2⟩ | ⟨h2, k2⟩ <;> rcases sg_cases y with ⟨h3, k3⟩ | ⟨h3, k3⟩ | ⟨h3, k3⟩ <;> rw [k2, k3] at h ⊢ <;> first | exact absurd rfl h | exact absurd h2 hx | exact absurd h3 hy | decide
theorem meet_eq (a b c d : Pt) (hab : a ≠ b) (hcd : c ≠ d) : meetL a b c d = meetR a b c d := by
 unfold meetL meetR
 rw [onL_onR a c d, onL_onR b c d, onL_onR c a b, onL_onR d a b]
 by_cases hz : turnZ a b c = 0 ∧ turnZ a b d = 0
 ·rw [if_pos hz]
  have hap : apartB a b c d = false := by unfold apartB; rw [hz.1]; simp
  rw [hap, Bool.or_false]
  have key : onR a c d = false → onR b c d = false → sameB a b c d = (withinB a c d && withinB b c d) := by
   intro h1 h2
   rw [Bool.eq_iff_iff]
   have hw : ∀ p, onR p c d = false → (withinB p c d = true ↔ p = c ∨ p = d) := by
    intro p hp
    constructor
    ·intro hw
     unfold onR at hp
     rw [hw] at hp
     simp only [Bool.true_and, Bool.and_eq_false_iff, Bool.not_eq_false', decide_eq_true_eq] at hp
     exact hp
    ·rintro (rfl | rfl)
     ·exact decide_eq_true ⟨turn_eq0 (cross_aba _ _), by omega, by omega⟩
     ·exact decide_eq_true ⟨turn_eq0 (cross_abb _ _), by omega, by omega⟩
   rw [Bool.and_eq_true, hw a h1, hw b h2]
   unfold sameB
   simp only [Bool.or_eq_true, Bool.and_eq_true, decide_eq_true_eq]
   constructor
   ·rintro (⟨h, k⟩ | ⟨h, k⟩)
    ·exact ⟨.inl h, .inr k⟩
    ·exact ⟨.inr h, .inl k⟩
   ·rintro ⟨h | h, k | k⟩
    ·exact absurd (h.trans k.symm) hab
    ·exact .inl ⟨h, k⟩
    ·exact .inr ⟨h, k⟩
    ·exact absurd (h.trans k.symm) hab
  revert key
  cases onR a c d <;> cases onR b c d <;> simp
  intro key
  rw [key]
  cases onR c a b <;> cases onR d a b <;> simp
 ·rw [if_neg hz]
  have hz' : ¬ (crossZ a b c = 0 ∧ crossZ a b d = 0) := by rw [← turn0, ← turn0]; exact hz
  have hCD : ¬ (crossZ c d a = 0 ∧ crossZ c d b = 0) := fun h => hz' (one_line hcd h.1 h.2)
  have s1 := cross_swap a b d
  have s2 := cross_swap a b c
  have hon : ∀ p x y, x ≠ y → (onR p x y = true ↔ crossZ x y p = 0 ∧ p ≠ x ∧ p ≠ y ∧ ∃ m n : Int, 0 < m ∧ 0 < n ∧ m * (x.x - p.x) = -(n * (y.x - p.x)) ∧ m * (x.y - p.y) = -(n * (y.y - p.y))) := fun p x y h => onR_iff p x y h
  by_cases hsh : (a = c ∨ a = d) ∨ b = c ∨ b = d
  ·rw [if_pos hsh, Bool.eq_false_iff]
   intro h
   simp only [Bool.or_eq_true, hon a c d hcd, hon b c d hcd, hon c a b hab, hon d a b hab] at h
   have hsame : sameB a b c d = false := by
    rw [Bool.eq_false_iff]; intro hs
    unfold sameB at hs
    simp only [Bool.or_eq_true, Bool.and_eq_true, decide_eq_true_eq] at hs
    rcases hs with ⟨rfl, rfl⟩ | ⟨rfl, rfl⟩
    ·exact hz' ⟨cross_aba _ _, cross_abb _ _⟩
    ·exact hz' ⟨cross_abb _ _, cross_aba _ _⟩
   have hapart : apartB a b c d = false := by
    unfold apartB
    rcases hsh with (rfl | rfl) | rfl | rfl
    ·rw [turn_eq0 (cross_aba a b)]; simp
    ·rw [turn_eq0 (cross_aba a b)]; simp
    ·rw [turn_eq0 (cross_abb a b)]; simp
    ·rw [turn_eq0 (cross_abb a b)]; simp
   rw [hsame, hapart] at h
   simp only [Bool.false_eq_true, or_false] at h
   rcases h with h | h | h | h
   ·obtain ⟨h0, h1, h2, _⟩ := h
    rcases hsh with (h | h) | rfl | rfl
    ·exact h1 h
    ·exact h2 h
    ·exact hCD ⟨h0, cross_aba _ _⟩
    ·exact hCD ⟨h0, cross_abb _ _⟩
   ·obtain ⟨h0, h1, h2, _⟩ := h
    rcases hsh with (rfl | rfl) | h | h
    ·exact hCD ⟨cross_aba _ _, h0⟩
    ·exact hCD ⟨cross_abb _ _, h0⟩
    ·exact h1 h
    ·exact h2 h
   ·obtain ⟨h0, h1, h2, _⟩ := h
    rcases hsh with (h | rfl) | h | rfl
    ·exact h1 h.symm
    ·exact hz' ⟨h0, cross_aba _ _⟩
    ·exact h2 h.symm
    ·exact hz' ⟨h0, cross_abb _ _⟩
   ·obtain ⟨h0, h1, h2, _⟩ := h
    rcases hsh with (rfl | h) | rfl | h
    ·exact hz' ⟨cross_aba _ _, h0⟩
    ·exact h1 h.symm
    ·exact hz' ⟨cross_abb _ _, h0⟩
    ·exact h2 h.symm
  ·rw [if_neg hsh]
   simp only [not_or] at hsh
   obtain ⟨⟨hac, had⟩, hbc, hbd⟩ := hsh
   have hsame : sameB a b c d = false := by unfold sameB; simp [hac, had]
   rw [hsame, Bool.false_or, Bool.eq_iff_iff]
   have hR : (!(decide (turnZ a b c = turnZ a b d) || decide (turnZ c d a = turnZ c d b))) = true ↔ turnZ a b c ≠ turnZ a b d ∧ turnZ c d a ≠ turnZ c d b := by simp
   rw [hR]
   have hP : apartB a b c d = true ↔ turnZ a b c * turnZ a b d < 0 ∧ turnZ c d a * turnZ c d b < 0 := by unfold apartB; simp
   simp only [Bool.or_eq_true, hon a c d hcd, hon b c d hcd, hon c a b hab, hon d a b hab, hP]
   clear hP hR hsame hon s1 s2
   have opp : ∀ x y : Int, (x < 0 ↔ 0 < y) ∧ (0 < x ↔ y < 0) ∧ (x = 0 ↔ y = 0) → ¬ (x = 0 ∧ y = 0) → sgnZ x ≠ sgnZ y := by
    intro x y h h0
    rcases sg_cases x with ⟨h2, k2⟩ | ⟨h2, k2⟩ | ⟨h2, k2⟩ <;> rcases sg_cases y with ⟨h3, k3⟩ | ⟨h3, k3⟩ | ⟨h3, k3⟩ <;> rw [k2, k3] <;> omega
   have zer : ∀ x y : Int, x = 0 → ¬ (x = 0 ∧ y = 0) → sgnZ x ≠ sgnZ y := by
    intro x y h h0
    rcases sg_cases y with ⟨h3, k3⟩ | ⟨h3, k3⟩ | ⟨h3, k3⟩ <;> rw [h, k3, sg_zero] <;> omega
   constructor
   ·rintro ((h | h | h | h) | h)
    ·obtain ⟨h0, _, _, m, n, hm, hn, hx, hy⟩ := h
     exact ⟨opp _ _ (pos_other hm hn (linN (cross_aba a b) hx hy)) hz', zer _ _ h0 hCD⟩
    ·obtain ⟨h0, _, _, m, n, hm, hn, hx, hy⟩ := h
     exact ⟨opp _ _ (pos_other hm hn (linN (cross_abb a b) hx hy)) hz', (zer _ _ h0 (fun h => hCD ⟨h.2, h.1⟩)).symm⟩
    ·obtain ⟨h0, _, _, m, n, hm, hn, hx, hy⟩ := h
     exact ⟨zer _ _ h0 hz', opp _ _ (pos_other hm hn (linN (cross_aba c d) hx hy)) hCD⟩
    ·obtain ⟨h0, _, _, m, n, hm, hn, hx, hy⟩ := h
     exact ⟨(zer _ _ h0 (fun h => hz' ⟨h.2, h.1⟩)).symm, opp _ _ (pos_other hm hn (linN (cross_abb c d) hx hy)) hCD⟩
    ·obtain ⟨h1, h2⟩ := h
     refine ⟨fun e => ?_, fun e => ?_⟩
     ·rw [e] at h1
      have := mul_self_nonneg' (turnZ a b d)
      omega
     ·rw [e] at h2
      have := mul_self_nonneg' (turnZ c d b)
      omega
   ·rintro ⟨h1, h2⟩
    by_cases hA : crossZ a b c = 0
    ·rcases line_cases c a b hA hab with h | h | h | ⟨m, n, hm, hn, hx, hy⟩
     ·exact absurd h.symm hac
     ·exact absurd h.symm hbc
     ·exact .inl (.inr (.inr (.inl ⟨hA, fun h => hac h.symm, fun h => hbc h.symm, h⟩)))
     ·exact absurd (sg_scale hm hn (lin (cross_aba c d) hx hy)) h2
    by_cases hB : crossZ a b d = 0
    ·rcases line_cases d a b hB hab with h | h | h | ⟨m, n, hm, hn, hx, hy⟩
     ·exact absurd h.symm had
     ·exact absurd h.symm hbd
     ·exact .inl (.inr (.inr (.inr ⟨hB, fun h => had h.symm, fun h => hbd h.symm, h⟩)))
     ·exact absurd (sg_scale hm hn (lin (cross_abb c d) hx hy)) h2
    by_cases hC : crossZ c d a = 0
    ·rcases line_cases a c d hC hcd with h | h | h | ⟨m, n, hm, hn, hx, hy⟩
     ·exact absurd h hac
     ·exact absurd h had
     ·exact .inl (.inl ⟨hC, hac, had, h⟩)
     ·exact absurd (sg_scale hm hn (lin (cross_aba a b) hx hy)) h1
    by_cases hD : crossZ c d b = 0
    ·rcases line_cases b c d hD hcd with h | h | h | ⟨m, n, hm, hn, hx, hy⟩
     ·exact absurd h hbc
     ·exact absurd h hbd
     ·exact .inl (.inr (.inl ⟨hD, hbc, hbd, h⟩))
     ·exact absurd (sg_scale hm hn (lin (cross_abb a b) hx hy)) h1
    refine .inr ⟨sg_mul hA hB h1, sg_mul hC hD h2⟩
theorem turn_back (a b c : Pt) : turnZ b a c = - turnZ a b c := by
 unfold turnZ; rw [← sg_negate]; congr 1; unfold crossZ; grind
theorem onL_swap (p a b : Pt) : onL p b a = onL p a b := by
 unfold onL betwB
 rw [turn_back a b p, Bool.or_comm]
 congr 1
 rw [decide_eq_decide]; omega
theorem same_swap (a b c d : Pt) : sameB b a c d = sameB a b c d := by
 unfold sameB
 rw [Bool.or_comm]
 congr 1 <;> rw [Bool.and_comm]
theorem same_turn (a b c d : Pt) : sameB c d a b = sameB a b c d := by
 unfold sameB
 have e : ∀ x y : Pt, decide (x = y) = decide (y = x) := fun x y => by rw [decide_eq_decide]; exact ⟨Eq.symm, Eq.symm⟩
 rw [e c a, e d b, e c b, e d a, Bool.and_comm (decide (b = c))]
theorem apart_swap (a b c d : Pt) : apartB b a c d = apartB a b c d := by
 unfold apartB
 rw [turn_back a b c, turn_back a b d, Int.neg_mul_neg, Int.mul_comm (turnZ c d b)]
theorem apart_turn (a b c d : Pt) : apartB c d a b = apartB a b c d := by
 unfold apartB
 rw [Bool.and_comm]
theorem meet_swap (a b c d : Pt) : meetL b a c d = meetL a b c d := by
 unfold meetL
 rw [onL_swap c a b, onL_swap d a b, same_swap, apart_swap]
 cases onL b c d <;> cases onL a c d <;> rfl
theorem meet_turn (a b c d : Pt) : meetL c d a b = meetL a b c d := by
 unfold meetL
 rw [same_turn, apart_turn]
 cases onL b c d <;> cases onL a c d <;> cases onL c a b <;> cases onL d a b <;> rfl
theorem turn_pm (a b c : Pt) : -1 ≤ turnZ a b c ∧ turnZ a b c ≤ 1 := by
 rcases sg_cases (crossZ a b c) with ⟨_, h⟩ | ⟨_, h⟩ | ⟨_, h⟩ <;> unfold turnZ <;> rw [h] <;> omega
end Go.Proofs.YtlhmjhildlnokaaGreat
namespace Go.Proofs.YtlhmjhildlnokaaGreat
set_option linter.unusedVariables false
set_option linter.unusedSimpArgs false
open Go.RowKit
def turnB (a b c : Pt) : Int := if (inB a && (inB b && inB c)) = true then turnZ a b c else 0
set_option maxRecDepth 100000 in
set_option maxHeartbeats 4000000 in
theorem geomTurn_any (ax ay bx b_y cx cy : Int) (w : World) :
  Calls Tryz.prog 26 #[pV ax ay, pV bx b_y, pV cx cy] w fun e w' => e = .returned (.int .i64 (turnB ⟨ax, ay⟩ ⟨bx, b_y⟩ ⟨cx, cy⟩)) ∧ Below w.heap.size w w' := by
 have H := Own.start w
 have hall := all3 ax ay bx b_y cx cy
 unfold turnB
 by_cases hin : (inB ⟨ax, ay⟩ && (inB ⟨bx, b_y⟩ && inB ⟨cx, cy⟩)) = true
 ·have hin' := hin
  simp only [Bool.and_eq_true] at hin'
  have ht := turn_any ax ay bx b_y cx cy (in_of hin'.1) (in_of hin'.2.1) (in_of hin'.2.2)
  rw [if_pos hin]
  rw [hin] at hall
  clear hin hin'
  generalize turnZ ⟨ax, ay⟩ ⟨bx, b_y⟩ ⟨cx, cy⟩ = t at ht ⊢
  go_enter Tryz.func26, Tryz.ntmps26
  go_wp2_with (first
   | (go_at_call 45; (with_reducible refine (hall _ _ (H.giveCells m0 (fun _ h => h.elim) 0 rfl)).mono ?_); rintro e w3 ⟨rfl, hb⟩; replace H := H.ext hb; clear hb; dsimp only; (skip))
   | (go_at_call 46; (with_reducible refine (ht _).mono ?_); rintro e w3 ⟨rfl, hb⟩; replace H := H.ext hb; clear hb; dsimp only; (skip))
   | ((guard_target = wpList _ _ _ (_ :: _) _ _); (first | (refine aaad3d59 ?_) | (refine aeebfb80 ?_; intro b2; clear H; (try clear w2); intro w2 H))))
  go_ret
  exact ⟨rfl, H.below⟩
 ·rw [if_neg hin]
  have hin : (inB ⟨ax, ay⟩ && (inB ⟨bx, b_y⟩ && inB ⟨cx, cy⟩)) = false := by simpa using hin
  rw [hin] at hall
  clear hin
  go_enter Tryz.func26, Tryz.ntmps26
  go_wp2_with (first
   | (go_at_call 45; (with_reducible refine (hall _ _ (H.giveCells m0 (fun _ h => h.elim) 0 rfl)).mono ?_); rintro e w3 ⟨rfl, hb⟩; replace H := H.ext hb; clear hb; dsimp only; (skip))
   | ((guard_target = wpList _ _ _ (_ :: _) _ _); (first | (refine aaad3d59 ?_) | (refine aeebfb80 ?_; intro b2; clear H; (try clear w2); intro w2 H))))
  go_ret
  exact ⟨rfl, H.below⟩
set_option maxRecDepth 100000 in
set_option maxHeartbeats 4000000 in
theorem refLess_any (ax ay bx b_y : Int) (w : World) :
  Calls Tryz.prog 29 #[pV ax ay, pV bx b_y] w fun e w' => e = .returned (.bool (lessB ⟨ax, ay⟩ ⟨bx, b_y⟩)) ∧ Below w.heap.size w w' := by
 have H := Own.start w
 obtain ⟨v, hv⟩ : ∃ v, lessB ⟨ax, ay⟩ ⟨bx, b_y⟩ = v := ⟨_, rfl⟩
 have HV := Lib.hid hv
 rw [hv]; clear hv
 obtain ⟨v1, hv1⟩ : ∃ v, (ax == bx) = v := ⟨_, rfl⟩
 have hv1' : (ax != bx) = !v1 := by rw [bne, hv1]
 cases v1
 all_goals
  simp only [Bool.not_false, Bool.not_true] at hv1'
  go_enter Tryz.func29, Tryz.ntmps29
  have tk0 : True := trivial
  have tk1 : True := trivial
  go_wp2_with ((guard_target = wpList _ _ _ (_ :: _) _ _); (first | (refine aaad3d59 ?_) | (refine aeebfb80 ?_; intro b2; clear H; (try clear w2); intro w2 H; (first | (clear tk0; rename Nat => b1) | (clear tk1; rename Nat => b2)))))
  go_ret
  refine ⟨ret_b ?_, H.below⟩
  rw [← HV.out]
  simp only [beq_eq_false_iff_ne, beq_iff_eq, ne_eq] at hv1
  exact less_d (a := ax) (b := ay) (c := bx) (d := b_y) (by omega)
def vtV : Option Vt → Value
 | some v => v3 v.id v.p.x v.p.y
 | none => v3 0 0 0
def egV : Option Eg → Value
 | some v => v3 v.id v.a v.b
 | none => v3 0 0 0
def ixZ : Option Nat → Int
 | some k => k
 | none => -1
theorem find_here {α : Type} : ∀ {l : List α} {k : Nat} {a : α} {f : α → Bool}, l[k]? = some a → (l.take k).any f = false → f a = true → l.find? f = some a
 | [], k, a, f, h, _, _ => by simp at h
 | b :: l, 0, a, f, h, _, hf => by
  obtain rfl : b = a := by simpa using h
  simp [hf]
 | b :: l, k + 1, a, f, h, h0, hf => by
  simp only [List.take_succ_cons, List.any_cons, Bool.or_eq_false_iff] at h0
  rw [List.find?_cons_of_neg (by rw [h0.1]; simp)]
  exact find_here (by simpa using h) h0.2 hf
theorem idx_here {α : Type} : ∀ {l : List α} {k : Nat} {a : α} {f : α → Bool}, l[k]? = some a → (l.take k).any f = false → f a = true → l.findIdx? f = some k
 | [], k, a, f, h, _, _ => by simp at h
 | b :: l, 0, a, f, h, _, hf => by
  obtain rfl : b = a := by simpa using h
  simp [List.findIdx?_cons, hf]
 | b :: l, k + 1, a, f, h, h0, hf => by
  simp only [List.take_succ_cons, List.any_cons, Bool.or_eq_false_iff] at h0
  rw [List.findIdx?_cons, h0.1, idx_here (l := l) (k := k) (by simpa using h) h0.2 hf]
  rfl
theorem find_no {α : Type} {l : List α} {f : α → Bool} (h : l.any f = false) : l.find? f = none := by
 rw [List.find?_eq_none]
 intro x hx hf
 rw [List.any_eq_false] at h
 exact h x hx hf
theorem idx_no {α : Type} {l : List α} {f : α → Bool} (h : l.any f = false) : l.findIdx? f = none := by
 rw [List.findIdx?_eq_none_iff]
 intro x hx
 rw [List.any_eq_false] at h
 simpa using h x hx
set_option maxRecDepth 100000 in
set_option maxHeartbeats 4000000 in
theorem vertex_any (vs : List Vt) (A A2 : Option Addr) (n m : Nat) (c c2 : Nat) (F : Nat → Prop) (id : Int) (w : World) (hn : n = vs.length) (hs : Sl F w A (vR vs)) (hl : n ≤ 1000000) :
  Calls Tryz.prog 43 #[.agg #[.slice A n c, .slice A2 m c2], .int .i64 id] w fun e w' => e = .returned (.tuple #[vtV (vs.find? fun v => v.id == id), .bool (vs.find? fun v => v.id == id).isSome]) ∧ Below w.heap.size w w' := by
 obtain ⟨o, hv⟩ : ∃ o, (vs.find? fun v => v.id == id) = o := ⟨_, rfl⟩
 have HV := Lib.hid hv
 rw [hv]; clear hv
 obtain ⟨b0, o0, H, f0⟩ := (Own.start w).addSl (hs.ro (by rfl))
 clear hs
 subst hn
 generalize hf : (fun v : Vt => v.id == id) = f at HV
 go_enter Tryz.func43, Tryz.ntmps43
 have tk0 : True := trivial
 have tk1 : True := trivial
 go_wp2_with (guard_target = wpList _ _ _ (_ :: _) _ _; (first | (refine a15dc6b3 ?_) | (refine a9475ade ?_; intro b2; clear H; (try clear w2); intro w2 H; (first | (clear tk0; rename Nat => b1) | (clear tk1; rename Nat => b2)))))
 go_loopg [11] vs.length (fun k i wr => k ≤ vs.length ∧ i = .int .i64 ((vs.length - k : Nat) : Int) ∧ (vs.take (vs.length - k)).any f = false ∧ Own w.heap.size w wr [.cells b2 [.int .i64 0, .int .i64 0, .int .i64 0], .cells b1 [.slice A vs.length c, .slice A2 m c2], .rd A b0 o0 (vR vs)])
 case atStart => exact ⟨Nat.le_refl _, by simp, by simp, H⟩
 case round =>
  clear H
  obtain ⟨hk, rfl, ht, H⟩ := hrel
  have HT := Lib.hid ht
  clear ht
  by_cases hlt : 0 < gk
  ·obtain ⟨j, hj⟩ : ∃ j, vs.length - gk = j := ⟨_, rfl⟩
   have hjl : j < vs.length := by omega
   rw [hj] at HT ⊢
   obtain ⟨i, x, y, he⟩ := vt_at vs hjl
   obtain rfl := H.rdAddr m2 (vR_pos he)
   have hp := at_v (A := some ⟨b0, o0, none⟩) (b := b0) (off := o0) he
   obtain ⟨v1, hv1⟩ : ∃ v, (i == id) = v := ⟨_, rfl⟩
   have hfv : f ⟨i, ⟨x, y⟩⟩ = v1 := by rw [← hf]; exact hv1
   have HF := Lib.hid hfv
   have HE := Lib.hid he
   have HJ := Lib.hid hj
   clear hfv he hj hf
   cases v1
   ·have tk0 : True := trivial
    go_wp2_with (guard_target = wpList _ _ _ (_ :: _) _ _; (first | (refine a15dc6b3 ?_) | (refine a181aa22 ?_; clear H; (try clear w2); intro w2 H) | (refine a9475ade ?_; intro b2; clear H; (try clear w2); intro w2 H; (clear tk0; rename Nat => b4))))
    go_roundg (gk - 1)
    case rel => exact ⟨by omega, by have := HJ.out; congr 1; omega, by rw [show vs.length - (gk - 1) = j + 1 by have := HJ.out; omega]; exact any_step HE.out HT.out HF.out, H.tail⟩
    case measure => omega
   ·have tk0 : True := trivial
    go_wp2_with (guard_target = wpList _ _ _ (_ :: _) _ _; (first | (refine a15dc6b3 ?_) | (refine a181aa22 ?_; clear H; (try clear w2); intro w2 H) | (refine a9475ade ?_; intro b2; clear H; (try clear w2); intro w2 H; (clear tk0; rename Nat => b4))))
    have hr := H.loadVarN (P := Tryz.prog) (ty := 48) m1 (by simp) (by simp)
    rw [← HV.out, find_here HE.out HT.out HF.out]
    exact bodyPost_ret (v := .tuple #[v3 i x y, .bool true]) (by simp [results, Tryz.results43, asAddr, hr]) rfl ⟨rfl, H.below⟩
  ·obtain rfl : gk = 0 := by omega
   have tk0 : True := trivial
   go_wp2_with (guard_target = wpList _ _ _ (_ :: _) _ _; (refine a181aa22 ?_; clear H; (try clear w2); intro w2 H))
   have hr := H.loadVarN (P := Tryz.prog) (ty := 48) m0 (by simp) (by simp)
   rw [← HV.out, find_no (by rw [← HT.out, Nat.sub_zero, List.take_length])]
   exact bodyPost_ret (v := .tuple #[v3 0 0 0, .bool false]) (by simp [results, Tryz.results43, asAddr, hr]) rfl ⟨rfl, H.below⟩
set_option maxRecDepth 100000 in
set_option maxHeartbeats 4000000 in
theorem edge_any (es : List Eg) (A A2 : Option Addr) (n m : Nat) (c c2 : Nat) (F : Nat → Prop) (id : Int) (w : World) (hn : n = es.length) (hs : Sl F w A (eR es)) (hl : n ≤ 1000000) :
  Calls Tryz.prog 15 #[.agg #[.slice A2 m c2, .slice A n c], .int .i64 id] w fun e w' => e = .returned (.tuple #[egV (es.find? fun v => v.id == id), .bool (es.find? fun v => v.id == id).isSome]) ∧ Below w.heap.size w w' := by
 obtain ⟨o, hv⟩ : ∃ o, (es.find? fun v => v.id == id) = o := ⟨_, rfl⟩
 have HV := Lib.hid hv
 rw [hv]; clear hv
 obtain ⟨b0, o0, H, f0⟩ := (Own.start w).addSl (hs.ro (by rfl))
 clear hs
 subst hn
 generalize hf : (fun v : Eg => v.id == id) = f at HV
 go_enter Tryz.func15, Tryz.ntmps15
 have tk0 : True := trivial
 have tk1 : True := trivial
 go_wp2_with (guard_target = wpList _ _ _ (_ :: _) _ _; (first | (refine a15dc6b3 ?_) | (refine a9475ade ?_; intro b2; clear H; (try clear w2); intro w2 H; (first | (clear tk0; rename Nat => b1) | (clear tk1; rename Nat => b2)))))
 go_loopg [11] es.length (fun k i wr => k ≤ es.length ∧ i = .int .i64 ((es.length - k : Nat) : Int) ∧ (es.take (es.length - k)).any f = false ∧ Own w.heap.size w wr [.cells b2 [.int .i64 0, .int .i64 0, .int .i64 0], .cells b1 [.slice A2 m c2, .slice A es.length c], .rd A b0 o0 (eR es)])
 case atStart => exact ⟨Nat.le_refl _, by simp, by simp, H⟩
 case round =>
  clear H
  obtain ⟨hk, rfl, ht, H⟩ := hrel
  have HT := Lib.hid ht
  clear ht
  by_cases hlt : 0 < gk
  ·obtain ⟨j, hj⟩ : ∃ j, es.length - gk = j := ⟨_, rfl⟩
   have hjl : j < es.length := by omega
   rw [hj] at HT ⊢
   obtain ⟨i, x, y, he⟩ := eg_at es hjl
   obtain rfl := H.rdAddr m2 (eR_pos he)
   have hp := at_e (A := some ⟨b0, o0, none⟩) (b := b0) (off := o0) he
   obtain ⟨v1, hv1⟩ : ∃ v, (i == id) = v := ⟨_, rfl⟩
   have hfv : f ⟨i, x, y⟩ = v1 := by rw [← hf]; exact hv1
   have HF := Lib.hid hfv
   have HE := Lib.hid he
   have HJ := Lib.hid hj
   clear hfv he hj hf
   cases v1
   ·have tk0 : True := trivial
    go_wp2_with (guard_target = wpList _ _ _ (_ :: _) _ _; (first | (refine a15dc6b3 ?_) | (refine a181aa22 ?_; clear H; (try clear w2); intro w2 H) | (refine a9475ade ?_; intro b2; clear H; (try clear w2); intro w2 H; (clear tk0; rename Nat => b4))))
    go_roundg (gk - 1)
    case rel => exact ⟨by omega, by have := HJ.out; congr 1; omega, by rw [show es.length - (gk - 1) = j + 1 by have := HJ.out; omega]; exact any_step HE.out HT.out HF.out, H.tail⟩
    case measure => omega
   ·have tk0 : True := trivial
    go_wp2_with (guard_target = wpList _ _ _ (_ :: _) _ _; (first | (refine a15dc6b3 ?_) | (refine a181aa22 ?_; clear H; (try clear w2); intro w2 H) | (refine a9475ade ?_; intro b2; clear H; (try clear w2); intro w2 H; (clear tk0; rename Nat => b4))))
    have hr := H.loadVarN (P := Tryz.prog) (ty := 50) m1 (by simp) (by simp)
    rw [← HV.out, find_here HE.out HT.out HF.out]
    exact bodyPost_ret (v := .tuple #[v3 i x y, .bool true]) (by simp [results, Tryz.results15, asAddr, hr]) rfl ⟨rfl, H.below⟩
  ·obtain rfl : gk = 0 := by omega
   have tk0 : True := trivial
   go_wp2_with (guard_target = wpList _ _ _ (_ :: _) _ _; (refine a181aa22 ?_; clear H; (try clear w2); intro w2 H))
   have hr := H.loadVarN (P := Tryz.prog) (ty := 50) m0 (by simp) (by simp)
   rw [← HV.out, find_no (by rw [← HT.out, Nat.sub_zero, List.take_length])]
   exact bodyPost_ret (v := .tuple #[v3 0 0 0, .bool false]) (by simp [results, Tryz.results15, asAddr, hr]) rfl ⟨rfl, H.below⟩
set_option maxRecDepth 100000 in
set_option maxHeartbeats 4000000 in
theorem refVertex_any (vs : List Vt) (A A2 : Option Addr) (n m : Nat) (c c2 : Nat) (F : Nat → Prop) (id : Int) (w : World) (hn : n = vs.length) (hs : Sl F w A (vR vs)) (hl : n ≤ 1000000) :
  Calls Tryz.prog 19 #[.agg #[.slice A n c, .slice A2 m c2], .int .i64 id] w fun e w' => e = .returned (.int .i64 (ixZ (vs.findIdx? fun v => v.id == id))) ∧ Below w.heap.size w w' := by
 obtain ⟨o, hv⟩ : ∃ o, (vs.findIdx? fun v => v.id == id) = o := ⟨_, rfl⟩
 have HV := Lib.hid hv
 rw [hv]; clear hv
 obtain ⟨b0, o0, H, f0⟩ := (Own.start w).addSl (hs.ro (by rfl))
 clear hs
 subst hn
 generalize hf : (fun v : Vt => v.id == id) = f at HV
 go_enter Tryz.func19, Tryz.ntmps19
 have tk0 : True := trivial
 go_wp2_with (guard_target = wpList _ _ _ (_ :: _) _ _; (refine a9475ade ?_; intro b2; clear H; (try clear w2); intro w2 H; (clear tk0; rename Nat => b1)))
 go_loopg [5] vs.length (fun k i wr => k ≤ vs.length ∧ i = .int .i64 ((vs.length - k : Nat) : Int) ∧ (vs.take (vs.length - k)).any f = false ∧ Own w.heap.size w wr [.cells b1 [.slice A vs.length c, .slice A2 m c2], .rd A b0 o0 (vR vs)])
 case atStart => exact ⟨Nat.le_refl _, by simp, by simp, H⟩
 case round =>
  clear H
  obtain ⟨hk, rfl, ht, H⟩ := hrel
  have HT := Lib.hid ht
  clear ht
  by_cases hlt : 0 < gk
  ·obtain ⟨j, hj⟩ : ∃ j, vs.length - gk = j := ⟨_, rfl⟩
   have hjl : j < vs.length := by omega
   rw [hj] at HT ⊢
   obtain ⟨i, x, y, he⟩ := vt_at vs hjl
   obtain rfl := H.rdAddr m1 (vR_pos he)
   have hp := at_vid (A := some ⟨b0, o0, none⟩) (b := b0) (off := o0) he
   obtain ⟨v1, hv1⟩ : ∃ v, (i == id) = v := ⟨_, rfl⟩
   have hfv : f ⟨i, ⟨x, y⟩⟩ = v1 := by rw [← hf]; exact hv1
   have HF := Lib.hid hfv
   have HE := Lib.hid he
   have HJ := Lib.hid hj
   clear hfv he hj hf
   cases v1
   ·have tk0 : True := trivial
    go_wp2_with (guard_target = wpList _ _ _ (_ :: _) _ _; (refine a15dc6b3 ?_))
    go_roundg (gk - 1)
    case rel => exact ⟨by omega, by have := HJ.out; congr 1; omega, by rw [show vs.length - (gk - 1) = j + 1 by have := HJ.out; omega]; exact any_step HE.out HT.out HF.out, H⟩
    case measure => omega
   ·have tk0 : True := trivial
    go_wp2_with (guard_target = wpList _ _ _ (_ :: _) _ _; (refine a15dc6b3 ?_))
    go_ret
    exact ⟨ret_i (by rw [← HV.out, idx_here HE.out HT.out HF.out]; rfl), H.below⟩
  ·obtain rfl : gk = 0 := by omega
   have tk0 : True := trivial
   go_wp2_with (guard_target = wpList _ _ _ (_ :: _) _ _; (refine a15dc6b3 ?_))
   go_ret
   exact ⟨ret_i (by rw [← HV.out, idx_no (by rw [← HT.out, Nat.sub_zero, List.take_length])]; rfl), H.below⟩
end Go.Proofs.YtlhmjhildlnokaaGreat
