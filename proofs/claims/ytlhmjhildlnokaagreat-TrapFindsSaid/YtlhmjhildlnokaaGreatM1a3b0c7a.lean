/-
  The walk of the index's put.
-/
import Derived.Test.YtlhmjhildlnokaaGreatMd6b25c4b
import Derived.Test.YtlhmjhildlnokaaGreatM575e54b8
import Derived.Test.YtlhmjhildlnokaaGreatM91651bbc
namespace Go.Proofs.YtlhmjhildlnokaaGreat
set_option linter.unusedVariables false
set_option linter.unusedSimpArgs false
open Go.RowKit Go.Sort Go.Shelf
theorem trap6gx1 {P Q : Prop} (k : Q) (h : Hold Q → P := by (intro kk; guard_target = wpList _ _ _ (Oper.mk _ (.load _ _) _ _ _ _ :: _) _ _; (with_reducible refine BigFrame.wpList_want ?_ (fun K hK => ?_)); exact rfl; (refine o_loadPr (t0 := ?_) (t1 := ?_) (t2 := ?_) (t3 := ?_) (t4 := ?_) (t5 := ?_) (t6 := ?_) (t7 := ?_) (t8 := ?_) (t9 := ?_) rfl rfl H ?_ ?_ ?_ (hK _ _ ?_); rotate_left 10; (repeat first | exact .head _ | apply List.Mem.tail); (focus (intro _; simp; done)); (focus (intro _; simp; done))); clear hK K; simp only [Act.put, List.setIfInBounds_toArray, List.set_cons_succ, List.set_cons_zero]; exact kk.out)) : P := h ⟨k⟩
theorem trap6gg2 {P Q : Prop} (k : Q) (h : Hold Q → P := by (intro kk; (first | (guard_target = wpList _ _ _ (Oper.mk _ (.load _ _) _ _ _ _ :: _) _ _; exact trap6gx1 kk.out) | (guard_target = wpList _ _ _ (Oper.mk _ (.load _ _) _ _ _ _ :: _) _ _; exact a15dc6b3 kk.out)))) : P := h ⟨k⟩
theorem trap6gx3 {P Q : Prop} (k : Q) (h : Hold Q → P := by (intro kk; guard_target = wpList _ _ _ (Oper.mk _ (.load _ _) _ _ _ _ :: _) _ _; (with_reducible refine BigFrame.wpList_want ?_ (fun K hK => ?_)); exact rfl; (refine o_loadSb (t0 := ?_) (t1 := ?_) (t2 := ?_) (t3 := ?_) rfl rfl H ?_ ?_ ?_ (hK _ _ ?_); rotate_left 4; (repeat first | exact .head _ | apply List.Mem.tail); (focus (intro _; simp; done)); (focus (intro _; simp; done))); clear hK K; simp only [Act.put, List.setIfInBounds_toArray, List.set_cons_succ, List.set_cons_zero]; exact kk.out)) : P := h ⟨k⟩
theorem trap6gg4 {P Q : Prop} (k : Q) (h : Hold Q → P := by (intro kk; (guard_target = wpList _ _ _ (Oper.mk _ (.load _ _) _ _ _ _ :: _) _ _; exact trap6gx3 kk.out))) : P := h ⟨k⟩
theorem trap6gx5 {P Q : Prop} (k : Q) (h : Hold Q → P := by (intro kk; guard_target = wpList _ _ _ (Oper.mk _ (.store _ _ _) _ _ _ _ :: _) _ _; (with_reducible refine BigFrame.wpList_want ?_ (fun K hK => ?_)); exact rfl; (first | ((with_reducible refine o_store (l' := ?_) (row := ?_) (ty := ?_) (x := ?_) (y := ?_) (b := ?_) (off := ?_) (vs := ?_) ?_ ?_ H ?_ ?_ ?_ ?_ ?_ (fun w3 H2 => hK _ _ ?_)); rotate_left 8; exact rfl; exact rfl; exact rfl; (exact r0); (focus (intro _; simp [Act.eval, Value.cells]; done)); (focus (simp [Act.eval, Value.cells]; done)); (exact rfl); clear hK K; simp [Act.eval, Value.cells, setL, List.getD] at H2) | (refine o_storeG (e := ?_) (size := ?_) (n := ?_) (cap := ?_) (xs := ?_) (l' := ?_) rfl rfl H rfl ?_ ?_ ?_ ?_ (fun w3 H2 => hK _ _ ?_); rotate_left 6; (exact r3); (focus (intro _; simp [Act.eval, Value.cells]; done)); (focus ((try simp [Act.eval, Value.cells]); omega)); (exact rfl); clear hK K; simp [Act.eval, Value.cells, setL, List.getD] at H2)); simp only [Act.put, List.setIfInBounds_toArray, List.set_cons_succ, List.set_cons_zero]; revert H2; revert w3; exact kk.out)) : P := h ⟨k⟩
theorem trap6gg7 {P Q : Prop} (k : Q) (h : Hold Q → P := by (intro kk; (guard_target = wpTreeC _ _ _ (Tr.q _ _) _ _ _; exact a9e94fc6 kk.out))) : P := h ⟨k⟩
theorem trap6gx8 {P Q : Prop} (k : Q) (h : Hold Q → P := by (intro kk; guard_target = wpTreeC _ _ _ (Tr.e _ Tr.nil) _ _ _; (with_reducible refine treeC_last (o := ?_) (by decide +kernel) H ?_ ?_ (fun w3 H2 K hK => ?_)); rotate_left 1; exact rfl; exact rfl; simp only [List.getElem_toArray, List.getElem_cons_succ, List.getElem_cons_zero]; guard_target = Oper.wp _ (Oper.mk _ (.store _ _ _) _ _ _ _) _ _ _ _; (refine o_storeG (e := ?_) (size := ?_) (n := ?_) (cap := ?_) (xs := ?_) (l' := ?_) rfl rfl H2 rfl ?_ ?_ ?_ ?_ (fun w4 H3 => hK _ _ ?_); rotate_left 6; (exact r0); (focus (intro _; simp [Act.eval, Value.cells]; done)); (focus ((try simp [Act.eval, Value.cells]); omega)); (exact rfl); clear hK K; simp [Act.eval, Value.cells, setL, List.getD] at H3); simp only [Act.put, List.setIfInBounds_toArray, List.set_cons_succ, List.set_cons_zero]; revert H3; revert w4; exact kk.out)) : P := h ⟨k⟩
theorem trap6gg12 {P Q : Prop} (k : Q) (h : Hold Q → P := by (intro kk; (guard_target = wpTreeC _ _ _ (Tr.e _ Tr.nil) _ _ _; exact trap6gx8 kk.out))) : P := h ⟨k⟩
theorem trap6gr1 {P Q : Prop} (k : Q) (h : Hold Q → InR 37 1 (.q 0 (.q 4 (.q 5 (.q 6 (.e 1 (.q 2 (.q 3 (.q 7 (.e 8 .nil))))))))) P := by exact aRC) : P := h ⟨k⟩
def sqOf (n : Nat) : Code → Option Code
 | .seq a b => match a with
  | .region m _ _ => if m = n then some (.seq a b) else (match sqOf n a with | some c => some c | none => sqOf n b)
  | _ => match sqOf n a with | some c => some c | none => sqOf n b
 | .loop c => sqOf n c
 | .block _ c => sqOf n c
 | .scope c => sqOf n c
 | .cond _ a b => match sqOf n a with | some c => some c | none => sqOf n b
 | _ => none
theorem then_then {K K1 : Act → World → Prop} {Q : Exit → Act → World → Prop} : Exit.then K (Exit.then K1 Q) = Exit.then K Q := by
 funext e a w; cases e <;> rfl
theorem endS_len (c : Bool) (t : Tz) (b : Pt) (X : PSt × Nd) : (endS c t b X).1.N.length ≤ X.1.N.length + 2 ∧ X.1.N.length ≤ (endS c t b X).1.N.length ∧ (endS c t b X).1.P.length ≤ X.1.P.length + 1 := by unfold endS; split <;> simp
theorem begS_le (c : Bool) (t : Tz) (b : Pt) (X : PSt × Nd) : X.1.N.length ≤ (begS c t b X).1.N.length := by unfold begS; split <;> simp
theorem nd_set {N : List Nd} {i : Nat} (q : Nd) (h : i < N.length) : setL (nR N) (i * 6) (nd6 q) = nR (N.set i q) := by
 obtain ⟨p, hp⟩ : ∃ p, N[i]? = some p := ⟨_, List.getElem?_eq_getElem h⟩
 exact flatN_set (f := nd6) (k := 6) (fun _ => rfl) (d := 0) (vs := nd6 q) (a' := q) (by simp [nd6]) rfl N i hp
noncomputable def pSq (n : Nat) : Code := (Tryz.f16.body.bind (sqOf n)).getD .skip
set_option maxRecDepth 100000 in
set_option maxHeartbeats 16000000 in
theorem put_t {B : Nat} {w0 w : World} {l : List Res} {bx ks ke cn cp dn dp b5 b11 u d n on pu pd : Nat} {N : List Nd} {P : List Pc} {id ax ay sx sy tp bt lx ly rx ry : Int} {hl hr gn f la : Bool} {p1 p2 p0 : Pc} {c2 c3 c4 c6 c9 c14 c15 c16 c17 c18 c19 c20 c21 c22 c23 c24 c25 c26 c27 c28 c29 c30 c31 c32 c33 c34 c35 c36 c37 c38 c39 c40 c41 c42 c43 c44 c45 c46 c47 c48 c49 c50 c51 c52 c53 c54 c55 c56 c57 c58 c59 c60 c61 c62 c63 c64 c65 c66 c67 c68 c69 c70 c71 c72 c73 c74 c75 c76 c77 c78 c79 c80 c81 c82 c83 c84 c85 c86 c87 c88 c89 c90 c91 c92 c93 c94 c95 c96 c97 c98 c99 c100 c101 c102 c103 c104 c105 c106 c107 c108 c109 c110 c111 c112 c113 c114 c115 c116 c117 c118 c119 c120 c121 c122 c123 c124 c125 c126 c127 c128 c129 c130 c131 c132 c133 c134 c135 c136 c137 c138 c139 c140 c141 c142 c143 c144 c145 c146 c147 c148 c149 c150 c151 c152 c153 c154 c155 c156 c157 c158 c159 c160 c161 c162 c163 c164 c165 c166 c167 c168 c169 c170 c171 c172 c173 c174 c175 c176 c177 c178 c179 c180 c181 c182 c183 c184 c185 c186 c187 c188 c189 c190 c191 c192 c193 c194 c195 c196 c197 c198 c199 c200 c201 c202 c203 c204 c205 c206 c207 c208 c209 c210 c211 c212 c213 c214 c215 c216 c217 c218 c219 c220 c221 c222 c223 c224 c225 c226 c227 c228 c229 c230 c231 c232 c233 c234 c235 c236 c237 c238 c239 c240 c241 c242 c243 c244 c245 c246 c247 c248 c249 c250 c251 c252 c253 c254 c255 c256 c257 c258 c259 c260 c261 c262 c263 c264 c265 : Value} {Q : Exit → Act → World → Prop} (hNl : N.length ≤ 999980) (hPl : P.length ≤ 999980) (h1 : N[u]? = some (lfN pu)) (h2 : N[d]? = some (lfN pd)) (h3 : P[pu]? = some p1) (h4 : P[pd]? = some p2) (h6 : P[n]? = some p0) (hon : on < N.length)
  (hQ : ∀ {c a d v w}, Q (Exit.panic c) (Act.put a d v) w → Q (Exit.panic c) a w)
  (hR : ∀ (y14 y16 y17 y18 y19 y20 y149 y150 y151 y152 y153 y154 y155 y156 y157 y158 y159 y160 y161 y162 y163 y164 y165 y166 y167 y168 y169 y170 y171 y172 y173 y174 y175 y176 y177 y178 y179 y180 y181 y182 y183 y184 y185 y186 y187 y188 y189 y190 y191 y192 y193 y194 y195 y196 y197 y198 y199 y200 y201 y202 y203 y204 y205 y206 y207 y208 y209 y210 y211 y212 y213 y214 y215 y216 y217 y218 y219 y220 y221 y222 y223 y224 y225 y226 y227 y228 y229 y230 y231 y232 y233 y234 y235 y236 y237 y238 y239 y240 y241 y242 y243 y244 y245 y246 y247 y248 y249 y250 y251 y252 y253 y254 y255 y256 y257 y258 y259 y260 y261 y262 y263 y264 : Value) (w' : World) (Y : PSt) (dn dp cn cp : Nat), Y = nodeS on (begS (f && (!hl || lessB ⟨lx, ly⟩ ⟨ax, ay⟩)) ⟨tp, bt, hl, true, ⟨lx, ly⟩, ⟨ax, ay⟩⟩ ⟨ax, ay⟩ (endS (la && (!hr || lessB ⟨sx, sy⟩ ⟨rx, ry⟩)) ⟨tp, bt, true, hr, ⟨sx, sy⟩, ⟨rx, ry⟩⟩ ⟨sx, sy⟩ (rtS (if la then ⟨sx, sy⟩ else ⟨rx, ry⟩) n ⟨N, P, u, d⟩, ⟨2, id, ⟨0, 0⟩, (u : Int), (d : Int)⟩))) → Own B w0 w' (xB bx ks ke Y.N.length Y.P.length cn cp dn dp :: nG dn Y.N.length cn Y.N :: pG dp Y.P.length cp Y.P :: .cells b5 [.int .i64 ax, .int .i64 ay, .int .i64 sx, .int .i64 sy] :: l) → Q .normal ⟨#[.pointer (some ⟨bx, 0, none⟩), .int .i64 id, c2, c3, c4, .pointer (some ⟨b5, 0, none⟩), c6, .int .i64 (u : Int), .int .i64 (d : Int), c9, .int .i64 (n : Int), .pointer (some ⟨b11, 0, none⟩), .bool f, .bool la, y14, c15, y16, y17, y18, y19, y20, c21, c22, c23, c24, c25, c26, c27, c28, c29, c30, c31, c32, c33, c34, c35, c36, c37, c38, c39, c40, c41, c42, c43, c44, c45, c46, c47, c48, c49, c50, c51, c52, c53, c54, c55, c56, c57, c58, c59, c60, c61, c62, c63, c64, c65, c66, c67, c68, c69, c70, c71, c72, c73, c74, c75, c76, c77, c78, c79, c80, c81, c82, c83, c84, c85, c86, c87, c88, c89, c90, c91, c92, c93, c94, c95, c96, c97, c98, c99, c100, c101, c102, c103, c104, c105, c106, c107, c108, c109, c110, c111, c112, c113, c114, c115, c116, c117, c118, c119, c120, c121, c122, c123, c124, c125, c126, c127, c128, c129, c130, c131, c132, c133, c134, c135, c136, c137, c138, c139, c140, c141, c142, c143, c144, c145, c146, c147, c148, y149, y150, y151, y152, y153, y154, y155, y156, y157, y158, y159, y160, y161, y162, y163, y164, y165, y166, y167, y168, y169, y170, y171, y172, y173, y174, y175, y176, y177, y178, y179, y180, y181, y182, y183, y184, y185, y186, y187, y188, y189, y190, y191, y192, y193, y194, y195, y196, y197, y198, y199, y200, y201, y202, y203, y204, y205, y206, y207, y208, y209, y210, y211, y212, y213, y214, y215, y216, y217, y218, y219, y220, y221, y222, y223, y224, y225, y226, y227, y228, y229, y230, y231, y232, y233, y234, y235, y236, y237, y238, y239, y240, y241, y242, y243, y244, y245, y246, y247, y248, y249, y250, y251, y252, y253, y254, y255, y256, y257, y258, y259, y260, y261, y262, y263, y264, c265], []⟩ w')
  (H : Own B w0 w (.cells b11 [.int .i64 tp, .int .i64 bt, .bool hl, .bool hr, .int .i64 lx, .int .i64 ly, .int .i64 rx, .int .i64 ry, .int .i64 (on : Int), .bool gn] :: xB bx ks ke N.length P.length cn cp dn dp :: nG dn N.length cn N :: pG dp P.length cp P :: .cells b5 [.int .i64 ax, .int .i64 ay, .int .i64 sx, .int .i64 sy] :: l)) :
  Code.wp Tryz.prog (pSq 18) Q ⟨#[.pointer (some ⟨bx, 0, none⟩), .int .i64 id, c2, c3, c4, .pointer (some ⟨b5, 0, none⟩), c6, .int .i64 (u : Int), .int .i64 (d : Int), c9, .int .i64 (n : Int), .pointer (some ⟨b11, 0, none⟩), .bool f, .bool la, c14, c15, c16, c17, c18, c19, c20, c21, c22, c23, c24, c25, c26, c27, c28, c29, c30, c31, c32, c33, c34, c35, c36, c37, c38, c39, c40, c41, c42, c43, c44, c45, c46, c47, c48, c49, c50, c51, c52, c53, c54, c55, c56, c57, c58, c59, c60, c61, c62, c63, c64, c65, c66, c67, c68, c69, c70, c71, c72, c73, c74, c75, c76, c77, c78, c79, c80, c81, c82, c83, c84, c85, c86, c87, c88, c89, c90, c91, c92, c93, c94, c95, c96, c97, c98, c99, c100, c101, c102, c103, c104, c105, c106, c107, c108, c109, c110, c111, c112, c113, c114, c115, c116, c117, c118, c119, c120, c121, c122, c123, c124, c125, c126, c127, c128, c129, c130, c131, c132, c133, c134, c135, c136, c137, c138, c139, c140, c141, c142, c143, c144, c145, c146, c147, c148, c149, c150, c151, c152, c153, c154, c155, c156, c157, c158, c159, c160, c161, c162, c163, c164, c165, c166, c167, c168, c169, c170, c171, c172, c173, c174, c175, c176, c177, c178, c179, c180, c181, c182, c183, c184, c185, c186, c187, c188, c189, c190, c191, c192, c193, c194, c195, c196, c197, c198, c199, c200, c201, c202, c203, c204, c205, c206, c207, c208, c209, c210, c211, c212, c213, c214, c215, c216, c217, c218, c219, c220, c221, c222, c223, c224, c225, c226, c227, c228, c229, c230, c231, c232, c233, c234, c235, c236, c237, c238, c239, c240, c241, c242, c243, c244, c245, c246, c247, c248, c249, c250, c251, c252, c253, c254, c255, c256, c257, c258, c259, c260, c261, c262, c263, c264, c265], []⟩ w := by
 conv => arg 2; whnf
 have HR := Lib.hid hR
 have H1 := Lib.hid h1
 have H2 := Lib.hid h2
 have H3 := Lib.hid h3
 have H4 := Lib.hid h4
 have H6 := Lib.hid h6
 have HO := Lib.hid hon
 clear hR h1 h2 h3 h4 h6 hon
 simp only [xB, nG, pG] at H
 obtain ⟨nn, hnn⟩ : ∃ n, n = N.length := ⟨_, rfl⟩
 obtain ⟨mm, hmm⟩ : ∃ n, n = P.length := ⟨_, rfl⟩
 rw [← hnn] at H hNl
 rw [← hmm] at H hPl
 have HN := Lib.hid hnn
 have HM := Lib.hid hmm
 clear hnn hmm
 have tk0 : True := trivial
 go_upto_if 152 with (guard_target = wpList _ _ _ (_ :: _) _ _; (first | (refine trap6gg2 ?_) | (refine a181aa22 ?_; clear H; (try clear w2); intro w2 H) | (refine a9475ade ?_; intro b2; clear H; (try clear w2); intro w2 H; (clear tk0; rename Nat => b14))))
 obtain ⟨⟨qx, qy⟩, hq⟩ : ∃ q : Pt, (if la then ⟨sx, sy⟩ else ⟨rx, ry⟩ : Pt) = q := ⟨_, rfl⟩
 have HQ2 := Lib.hid hq
 go_cut [] from 153 to 154 (fun wx => Own B w0 wx (.cells b14 [.int .i64 qx, .int .i64 qy] :: .cells b11 [.int .i64 tp, .int .i64 bt, .bool hl, .bool hr, .int .i64 lx, .int .i64 ly, .int .i64 rx, .int .i64 ry, .int .i64 (on : Int), .bool gn] :: xB bx ks ke nn mm cn cp dn dp :: nG dn nn cn N :: pG dp mm cp P :: .cells b5 [.int .i64 ax, .int .i64 ay, .int .i64 sx, .int .i64 sy] :: l))
 case first =>
  cases la
  ·go_wp2_with (first | fail)
   go_meet
   case rel => simp at hq; obtain ⟨rfl, rfl⟩ := hq; exact H
  ·go_wp2_with (guard_target = wpList _ _ _ (_ :: _) _ _; (first | (refine trap6gg4 ?_) | (refine a181aa22 ?_; clear H; (try clear w2); intro w2 H)))
   go_meet
   case rel => simp at hq; obtain ⟨rfl, rfl⟩ := hq; exact H
 case rest =>
  clear H hq
  have H := hcut
  clear hcut
  simp only [xB, nG, pG] at H
  replace H:Own _ _ _ (Res.grow 80 _ _ _ _ :: _) := aF
  replace H:Own _ _ _ (Res.grow 75 _ _ _ _ :: _) := aF
  replace H:Own _ _ _ (Res.cells bx _ :: _) := aF
  replace H:Own _ _ _ (Res.cells b14 _ :: _) := aF
  go_upto_region 21 with (first | fail)
  rw [then_then]
  refine put_r (p1 := p1) (p2 := p2) (pu := pu) (pd := pd) HN.out HM.out H1.out H2.out H3.out H4.out ?_ (by assumption) ?_ H
  ·intro c a d v w h; exact hQ h
  intro r16 r17 r155 r156 r157 r158 r159 r160 r161 r162 r163 r164 r165 r166 r167 r168 r169 r170 r171 r172 r173 r174 r175 r176 r177 r178 r179 r180 r181 r182 r183 r184 r185 w5 H
  dsimp only
  simp only [xB, nG, pG] at H
  obtain ⟨p3, h3⟩ := setR_some (i := pu) ⟨qx, qy⟩ H6.out
  obtain ⟨p5, h5⟩ := setR_some (i := pd) ⟨qx, qy⟩ h3
  have hG : setG (setR (setR P pu ⟨qx, qy⟩) pd ⟨qx, qy⟩) n = (setR (setR P pu ⟨qx, qy⟩) pd ⟨qx, qy⟩).set n { p5 with g := true } := by unfold setG; rw [h5]
  have hlen : (pR (setR (setR P pu ⟨qx, qy⟩) pd ⟨qx, qy⟩)).length = mm * 10 := by rw [pR_len, setR_len, setR_len]; exact (congrArg (· * 10) HM.out).symm
  have hnm : n < mm := by rw [HM.out]; exact (List.getElem?_eq_some_iff.1 H6.out).1
  have hset := pc_set (d := 9) (vs := [.bool true]) (p := p5) (p' := { p5 with g := true }) h5 (by simp) rfl
  simp only [setL] at hset
  rw [← hG] at hset
  have HG := Lib.hid hset
  clear hset hG h3 h5
  have hrt : rtS (if la then ⟨sx, sy⟩ else ⟨rx, ry⟩) n ⟨N, P, u, d⟩ = ⟨N, (setG (setR (setR P pu ⟨qx, qy⟩) pd ⟨qx, qy⟩) n), u, d⟩ := by
   unfold rtS idN; simp only [H1.out, H2.out, HQ2.out, Option.getD_some, lfN, Int.toNat_natCast]
  have HRT := Lib.hid hrt
  clear hrt
  have hmm3 : mm = (setG (setR (setR P pu ⟨qx, qy⟩) pd ⟨qx, qy⟩) n).length := by rw [setG_len, setR_len, setR_len]; exact HM.out
  have HM3 := Lib.hid hmm3
  clear hmm3
  have tk0 : True := trivial
  go_upto_region 29 with (guard_target = wpList _ _ _ (_ :: _) _ _; (first | (refine trap6gg2 ?_) | (refine trap6gx5 ?_; clear H; (try clear w2); intro w2 H) | (refine a9475ade ?_; intro b2; clear H; (try clear w2); intro w2 H; (clear tk0; rename Nat => b18))))
  rw [HG.out] at H
  replace H:Own _ _ _ (Res.cells b5 _ :: _) := aF
  replace H:Own _ _ _ (Res.grow 80 _ _ _ _ :: _) := aF
  replace H:Own _ _ _ (Res.grow 75 _ _ _ _ :: _) := aF
  replace H:Own _ _ _ (Res.cells bx _ :: _) := aF
  replace H:Own _ _ _ (Res.cells b11 _ :: _) := aF
  replace H:Own _ _ _ (Res.cells b18 _ :: _) := aF
  clear hlen
  rw [then_then]
  refine put_e (ub := u) (db := d) (by omega) (by omega) HN.out HM3.out ?_ (by assumption) ?_ H
  ·intro c a d v w h; exact hQ h
  intro e19 e197 e198 e199 e200 e201 e202 e203 e204 e205 e206 e207 e208 e209 e210 e211 e212 e213 e214 e215 e216 e217 e218 e219 e220 e221 e222 e223 e224 e225 e226 w6 Y4 dn dp cn cp hY4 H
  dsimp only
  obtain ⟨⟨N4, P4, u4, d4⟩, ⟨k4, i4, ⟨px4, py4⟩, qa4, qb4⟩⟩ := Y4
  simp only [nd6, xB, nG, pG] at H
  have hb4 := endS_len (la && (!hr || lessB ⟨sx, sy⟩ ⟨rx, ry⟩)) ⟨tp, bt, true, hr, ⟨sx, sy⟩, ⟨rx, ry⟩⟩ ⟨sx, sy⟩ (⟨N, (setG (setR (setR P pu ⟨qx, qy⟩) pd ⟨qx, qy⟩) n), u, d⟩, ⟨2, id, ⟨0, 0⟩, (u : Int), (d : Int)⟩)
  rw [← hY4] at hb4
  simp only at hb4
  rw [← HN.out, ← HM3.out] at hb4
  have HY4 := Lib.hid hY4
  clear hY4
  obtain ⟨n4, hn4⟩ : ∃ n, n = N4.length := ⟨_, rfl⟩
  obtain ⟨m4, hm4⟩ : ∃ n, n = P4.length := ⟨_, rfl⟩
  rw [← hn4, ← hm4] at H hb4
  have HN4 := Lib.hid hn4
  have HM4 := Lib.hid hm4
  clear hn4 hm4
  go_upto_region 33 with (first | fail)
  rw [then_then]
  refine put_b (ub := u4) (db := d4) (by omega) (by omega) HN4.out HM4.out ?_ (by assumption) ?_ H
  ·intro c a d v w h; exact hQ h
  intro f20 f227 f228 f229 f230 f231 f232 f233 f234 f235 f236 f237 f238 f239 f240 f241 f242 f243 f244 f245 f246 f247 f248 f249 f250 f251 f252 f253 f254 f255 f256 w7 Y5 dnb dpb cnb cpb hY5 H
  dsimp only
  obtain ⟨⟨N5, P5, u5, d5⟩, ⟨k5, i5, ⟨px5, py5⟩, qa5, qb5⟩⟩ := Y5
  simp only [nd6, xB, nG, pG] at H
  have hb5 := begS_le (f && (!hl || lessB ⟨lx, ly⟩ ⟨ax, ay⟩)) ⟨tp, bt, hl, true, ⟨lx, ly⟩, ⟨ax, ay⟩⟩ ⟨ax, ay⟩ (⟨N4, P4, u4, d4⟩, ⟨k4, i4, ⟨px4, py4⟩, qa4, qb4⟩)
  rw [← hY5] at hb5
  simp only at hb5
  rw [← HN4.out] at hb5
  have HY5 := Lib.hid hY5
  clear hY5
  obtain ⟨n5, hn5⟩ : ∃ n, n = N5.length := ⟨_, rfl⟩
  obtain ⟨m5, hm5⟩ : ∃ n, n = P5.length := ⟨_, rfl⟩
  rw [← hn5, ← hm5] at H
  rw [← hn5] at hb5
  have hon5 : on < n5 := by have := HO.out; rw [← HN.out] at this; omega
  have hlen : (nR N5).length = n5 * 6 := by rw [nR_len, hn5]
  have HN5 := Lib.hid hn5
  have HM5 := Lib.hid hm5
  clear hn5 hm5
  go_wp2_with (first
   | (guard_target = Code.wp _ (Code.region 37 _ true) _ _ _; replace H:Own _ _ _ (Res.grow 75 _ _ _ _ :: _) := aF; refine trap6gr1 ?_; clear H; (try clear w2); intro w2 H)
   | ((guard_target = wpTreeC _ _ _ _ _ _ _); (first | (refine trap6gg7 ?_) | (refine trap6gg12 ?_; clear H; (try clear w2); intro w2 H) | (guard_target = wpTreeC _ _ _ Tr.nil _ _ _; refine treeC_nil H ?_; clear H; (try clear w2); intro w2 H) | (refine a9d8d0a4 ?_; clear H; (try clear w2); intro w2 H))))
  clear hlen
  have hset := nd_set ⟨k5, i5, ⟨px5, py5⟩, qa5, qb5⟩ (by rw [← HN5.out]; exact hon5 : on < N5.length)
  simp only [setL, nd6] at hset
  rw [hset] at H
  clear hset
  replace H:Own _ _ _ (Res.grow 80 _ _ _ _ :: _) := aF
  replace H:Own _ _ _ (Res.grow 75 _ _ _ _ :: _) := aF
  replace H:Own _ _ _ (Res.cells bx _ :: _) := aF
  rw [HN5.out, HM5.out] at H
  refine HR.out _ _ _ _ _ _ _ _ _ _ _ _ _ _ _ _ _ _ _ _ _ _ _ _ _ _ _ _ _ _ _ _ _ _ _ _ _ _ _ _ _ _ _ _ _ _ _ _ _ _ _ _ _ _ _ _ _ _ _ _ _ _ _ _ _ _ _ _ _ _ _ _ _ _ _ _ _ _ _ _ _ _ _ _ _ _ _ _ _ _ _ _ _ _ _ _ _ _ _ _ _ _ _ _ _ _ _ _ _ _ _ _ _ _ _ _ _ _ _ _ _ _ _ ⟨N5.set on ⟨k5, i5, ⟨px5, py5⟩, qa5, qb5⟩, P5, u5, d5⟩ dnb dpb cnb cpb (by rw [HRT.out, ← HY4.out, ← HY5.out]; rfl) ?_
  dsimp only
  simp only [List.length_set]
  exact (aW H)
theorem put_tK {B : Nat} {w0 w : World} {l : List Res} {bx ks ke cn cp dn dp b5 b11 u d n on pu pd : Nat} {N : List Nd} {P : List Pc} {id ax ay sx sy tp bt lx ly rx ry : Int} {hl hr gn f la : Bool} {p1 p2 p0 : Pc} {c2 c3 c4 c6 c9 c14 c15 c16 c17 c18 c19 c20 c21 c22 c23 c24 c25 c26 c27 c28 c29 c30 c31 c32 c33 c34 c35 c36 c37 c38 c39 c40 c41 c42 c43 c44 c45 c46 c47 c48 c49 c50 c51 c52 c53 c54 c55 c56 c57 c58 c59 c60 c61 c62 c63 c64 c65 c66 c67 c68 c69 c70 c71 c72 c73 c74 c75 c76 c77 c78 c79 c80 c81 c82 c83 c84 c85 c86 c87 c88 c89 c90 c91 c92 c93 c94 c95 c96 c97 c98 c99 c100 c101 c102 c103 c104 c105 c106 c107 c108 c109 c110 c111 c112 c113 c114 c115 c116 c117 c118 c119 c120 c121 c122 c123 c124 c125 c126 c127 c128 c129 c130 c131 c132 c133 c134 c135 c136 c137 c138 c139 c140 c141 c142 c143 c144 c145 c146 c147 c148 c149 c150 c151 c152 c153 c154 c155 c156 c157 c158 c159 c160 c161 c162 c163 c164 c165 c166 c167 c168 c169 c170 c171 c172 c173 c174 c175 c176 c177 c178 c179 c180 c181 c182 c183 c184 c185 c186 c187 c188 c189 c190 c191 c192 c193 c194 c195 c196 c197 c198 c199 c200 c201 c202 c203 c204 c205 c206 c207 c208 c209 c210 c211 c212 c213 c214 c215 c216 c217 c218 c219 c220 c221 c222 c223 c224 c225 c226 c227 c228 c229 c230 c231 c232 c233 c234 c235 c236 c237 c238 c239 c240 c241 c242 c243 c244 c245 c246 c247 c248 c249 c250 c251 c252 c253 c254 c255 c256 c257 c258 c259 c260 c261 c262 c263 c264 c265 : Value} {K : Act → World → Prop} {Q : Exit → Act → World → Prop} (hK : ∀ a w, Code.wp Tryz.prog (pSq 18) Q a w → K a w) (hNl : N.length ≤ 999980) (hPl : P.length ≤ 999980) (h1 : N[u]? = some (lfN pu)) (h2 : N[d]? = some (lfN pd)) (h3 : P[pu]? = some p1) (h4 : P[pd]? = some p2) (h6 : P[n]? = some p0) (hon : on < N.length)
  (hQ : ∀ {c a d v w}, Q (Exit.panic c) (Act.put a d v) w → Q (Exit.panic c) a w)
  (hR : ∀ (y14 y16 y17 y18 y19 y20 y149 y150 y151 y152 y153 y154 y155 y156 y157 y158 y159 y160 y161 y162 y163 y164 y165 y166 y167 y168 y169 y170 y171 y172 y173 y174 y175 y176 y177 y178 y179 y180 y181 y182 y183 y184 y185 y186 y187 y188 y189 y190 y191 y192 y193 y194 y195 y196 y197 y198 y199 y200 y201 y202 y203 y204 y205 y206 y207 y208 y209 y210 y211 y212 y213 y214 y215 y216 y217 y218 y219 y220 y221 y222 y223 y224 y225 y226 y227 y228 y229 y230 y231 y232 y233 y234 y235 y236 y237 y238 y239 y240 y241 y242 y243 y244 y245 y246 y247 y248 y249 y250 y251 y252 y253 y254 y255 y256 y257 y258 y259 y260 y261 y262 y263 y264 : Value) (w' : World) (Y : PSt) (dn dp cn cp : Nat), Y = nodeS on (begS (f && (!hl || lessB ⟨lx, ly⟩ ⟨ax, ay⟩)) ⟨tp, bt, hl, true, ⟨lx, ly⟩, ⟨ax, ay⟩⟩ ⟨ax, ay⟩ (endS (la && (!hr || lessB ⟨sx, sy⟩ ⟨rx, ry⟩)) ⟨tp, bt, true, hr, ⟨sx, sy⟩, ⟨rx, ry⟩⟩ ⟨sx, sy⟩ (rtS (if la then ⟨sx, sy⟩ else ⟨rx, ry⟩) n ⟨N, P, u, d⟩, ⟨2, id, ⟨0, 0⟩, (u : Int), (d : Int)⟩))) → Own B w0 w' (xB bx ks ke Y.N.length Y.P.length cn cp dn dp :: nG dn Y.N.length cn Y.N :: pG dp Y.P.length cp Y.P :: .cells b5 [.int .i64 ax, .int .i64 ay, .int .i64 sx, .int .i64 sy] :: l) → Q .normal ⟨#[.pointer (some ⟨bx, 0, none⟩), .int .i64 id, c2, c3, c4, .pointer (some ⟨b5, 0, none⟩), c6, .int .i64 (u : Int), .int .i64 (d : Int), c9, .int .i64 (n : Int), .pointer (some ⟨b11, 0, none⟩), .bool f, .bool la, y14, c15, y16, y17, y18, y19, y20, c21, c22, c23, c24, c25, c26, c27, c28, c29, c30, c31, c32, c33, c34, c35, c36, c37, c38, c39, c40, c41, c42, c43, c44, c45, c46, c47, c48, c49, c50, c51, c52, c53, c54, c55, c56, c57, c58, c59, c60, c61, c62, c63, c64, c65, c66, c67, c68, c69, c70, c71, c72, c73, c74, c75, c76, c77, c78, c79, c80, c81, c82, c83, c84, c85, c86, c87, c88, c89, c90, c91, c92, c93, c94, c95, c96, c97, c98, c99, c100, c101, c102, c103, c104, c105, c106, c107, c108, c109, c110, c111, c112, c113, c114, c115, c116, c117, c118, c119, c120, c121, c122, c123, c124, c125, c126, c127, c128, c129, c130, c131, c132, c133, c134, c135, c136, c137, c138, c139, c140, c141, c142, c143, c144, c145, c146, c147, c148, y149, y150, y151, y152, y153, y154, y155, y156, y157, y158, y159, y160, y161, y162, y163, y164, y165, y166, y167, y168, y169, y170, y171, y172, y173, y174, y175, y176, y177, y178, y179, y180, y181, y182, y183, y184, y185, y186, y187, y188, y189, y190, y191, y192, y193, y194, y195, y196, y197, y198, y199, y200, y201, y202, y203, y204, y205, y206, y207, y208, y209, y210, y211, y212, y213, y214, y215, y216, y217, y218, y219, y220, y221, y222, y223, y224, y225, y226, y227, y228, y229, y230, y231, y232, y233, y234, y235, y236, y237, y238, y239, y240, y241, y242, y243, y244, y245, y246, y247, y248, y249, y250, y251, y252, y253, y254, y255, y256, y257, y258, y259, y260, y261, y262, y263, y264, c265], []⟩ w')
  (H : Own B w0 w (.cells b11 [.int .i64 tp, .int .i64 bt, .bool hl, .bool hr, .int .i64 lx, .int .i64 ly, .int .i64 rx, .int .i64 ry, .int .i64 (on : Int), .bool gn] :: xB bx ks ke N.length P.length cn cp dn dp :: nG dn N.length cn N :: pG dp P.length cp P :: .cells b5 [.int .i64 ax, .int .i64 ay, .int .i64 sx, .int .i64 sy] :: l)) :
  K ⟨#[.pointer (some ⟨bx, 0, none⟩), .int .i64 id, c2, c3, c4, .pointer (some ⟨b5, 0, none⟩), c6, .int .i64 (u : Int), .int .i64 (d : Int), c9, .int .i64 (n : Int), .pointer (some ⟨b11, 0, none⟩), .bool f, .bool la, c14, c15, c16, c17, c18, c19, c20, c21, c22, c23, c24, c25, c26, c27, c28, c29, c30, c31, c32, c33, c34, c35, c36, c37, c38, c39, c40, c41, c42, c43, c44, c45, c46, c47, c48, c49, c50, c51, c52, c53, c54, c55, c56, c57, c58, c59, c60, c61, c62, c63, c64, c65, c66, c67, c68, c69, c70, c71, c72, c73, c74, c75, c76, c77, c78, c79, c80, c81, c82, c83, c84, c85, c86, c87, c88, c89, c90, c91, c92, c93, c94, c95, c96, c97, c98, c99, c100, c101, c102, c103, c104, c105, c106, c107, c108, c109, c110, c111, c112, c113, c114, c115, c116, c117, c118, c119, c120, c121, c122, c123, c124, c125, c126, c127, c128, c129, c130, c131, c132, c133, c134, c135, c136, c137, c138, c139, c140, c141, c142, c143, c144, c145, c146, c147, c148, c149, c150, c151, c152, c153, c154, c155, c156, c157, c158, c159, c160, c161, c162, c163, c164, c165, c166, c167, c168, c169, c170, c171, c172, c173, c174, c175, c176, c177, c178, c179, c180, c181, c182, c183, c184, c185, c186, c187, c188, c189, c190, c191, c192, c193, c194, c195, c196, c197, c198, c199, c200, c201, c202, c203, c204, c205, c206, c207, c208, c209, c210, c211, c212, c213, c214, c215, c216, c217, c218, c219, c220, c221, c222, c223, c224, c225, c226, c227, c228, c229, c230, c231, c232, c233, c234, c235, c236, c237, c238, c239, c240, c241, c242, c243, c244, c245, c246, c247, c248, c249, c250, c251, c252, c253, c254, c255, c256, c257, c258, c259, c260, c261, c262, c263, c264, c265], []⟩ w := hK _ _ (put_t hNl hPl h1 h2 h3 h4 h6 hon hQ hR H)
theorem two_leaves {N0 : Nat} {Pa : List Pc} {rest : List Nat} {n : Nat} {f c1 c2 : Bool} {t1 t2 : Tz} {X X1 X2 : PSt} (I : PInv N0 Pa (n :: rest) X) (hu : f = false → LeafIn N0 Pa.length X X.u ∧ LeafIn N0 Pa.length X X.d) (h1 : X1 = upS (f || c1) t1 X) (h2 : X2 = loS (f || c2) t2 X1) :
  LeafIn N0 Pa.length X2 X2.u ∧ LeafIn N0 Pa.length X2 X2.d ∧ X1.N.length ≤ X.N.length + 1 ∧ X1.P.length ≤ X.P.length + 1 ∧ X2.N.length ≤ X1.N.length + 1 ∧ X2.P.length ≤ X1.P.length + 1 ∧ X.N.length ≤ X2.N.length ∧ X1.d = X.d ∧ ∀ i, i < X.P.length → X2.P[i]? = X.P[i]? := by
 have k1 : Kp X X1 := by rw [h1]; exact upS_kp _ _ _
 have k2 : Kp X1 X2 := by rw [h2]; exact loS_kp _ _ _
 have d1 : X1.d = X.d := by rw [h1]; exact upS_d _ _ _
 have u2 : X2.u = X1.u := by rw [h2]; exact loS_u _ _ _
 have l1 : LeafIn N0 Pa.length X1 X1.u := by rw [h1]; exact upS_leaf I.nN I.nP fun hc => (hu (by cases f; rfl; simp at hc)).1
 have l2 : LeafIn N0 Pa.length X2 X2.d := by
  rw [h2]
  refine loS_leaf (Nat.le_trans I.nN k1.nl) (Nat.le_trans I.nP k1.pl) fun hc => ?_
  rw [d1]
  exact (hu (by cases f; rfl; simp at hc)).2.keep k1
 have b1 : X1.N.length ≤ X.N.length + 1 ∧ X1.P.length ≤ X.P.length + 1 := by rw [h1]; unfold upS; split <;> simp
 have b2 : X2.N.length ≤ X1.N.length + 1 ∧ X2.P.length ≤ X1.P.length + 1 := by rw [h2]; unfold loS; split <;> simp
 exact ⟨u2 ▸ l1.keep k2, l2, b1.1, b1.2, b2.1, b2.2, (k1.trans k2).nl, d1, (k1.trans k2).p⟩
theorem trap6x4 {P Q : Prop} (k : Q) (h : Hold Q → P := by (intro kk; guard_target = wpTreeC _ _ _ (Tr.q _ _) _ _ _; (with_reducible refine treeC_quiet (o := ?_) (aK H) ?_ ?_ ?_ (fun K hK => ?_)); rotate_left 1; exact rfl; exact rfl; exact rfl; simp only [List.getElem_toArray, List.getElem_cons_succ, List.getElem_cons_zero]; (guard_target = Oper.quiet _ (Oper.mk _ (.load _ _) _ _ _ _) _ _ _; (first | (refine q_loadSa (t0 := ?_) (t1 := ?_) (t2 := ?_) (t3 := ?_) rfl rfl ?_ ?_ ?_ (hK _ ?_); rotate_left 4; (repeat first | exact .head _ | apply List.Mem.tail); (focus (intro _; simp; done)); (focus (intro _; simp; done))) | (refine q_loadSb (t0 := ?_) (t1 := ?_) (t2 := ?_) (t3 := ?_) rfl rfl ?_ ?_ ?_ (hK _ ?_); rotate_left 4; (repeat first | exact .head _ | apply List.Mem.tail); (focus (intro _; simp; done)); (focus (intro _; simp; done)))); clear hK K; simp only [Act.put, List.setIfInBounds_toArray, List.set_cons_succ, List.set_cons_zero]); exact kk.out)) : P := h ⟨k⟩
theorem trap6g5 {P Q : Prop} (k : Q) (h : Hold Q → P := by (intro kk; (first | (guard_target = wpList _ _ _ (Oper.mk _ (.load _ _) _ _ _ _ :: _) _ _; exact a15dc6b3 kk.out) | (guard_target = wpTreeC _ _ _ (Tr.q _ _) _ _ _; exact trap6x4 kk.out) | (guard_target = wpTreeC _ _ _ (Tr.q _ _) _ _ _; exact a9e94fc6 kk.out) | (guard_target = wpTreeC _ _ _ (Tr.q _ _) _ _ _; exact a78e8504 kk.out)))) : P := h ⟨k⟩
theorem trap6x7 {P Q : Prop} (k : Q) (h : Hold Q → P := by (intro kk; guard_target = wpTreeC _ _ _ (Tr.e _ Tr.nil) _ _ _; (with_reducible refine treeC_last (o := ?_) (by decide +kernel) H ?_ ?_ (fun w3 H2 K hK => ?_)); rotate_left 1; exact rfl; exact rfl; simp only [List.getElem_toArray, List.getElem_cons_succ, List.getElem_cons_zero]; guard_target = Oper.wp _ (Oper.mk _ (.entryStore _ _ _ _) _ _ _ _) _ _ _ _; refine o_endPut (m := ?_) (k := ?_) (l0 := ?_) rfl rfl rfl rfl H2 ?_ (fun w4 H3 => hK _ _ ?_); rotate_left 3; (focus (intro _; (exact r0))); clear hK K; simp only [Act.put, List.setIfInBounds_toArray, List.set_cons_succ, List.set_cons_zero]; revert H3; revert w4; exact kk.out)) : P := h ⟨k⟩
theorem trap6x9 {P Q : Prop} (k : Q) (h : Hold Q → P := by (intro kk; guard_target = wpTreeC _ _ _ (Tr.e _ Tr.nil) _ _ _; (with_reducible refine treeC_last (o := ?_) (by decide +kernel) H ?_ ?_ (fun w3 H2 K hK => ?_)); rotate_left 1; exact rfl; exact rfl; simp only [List.getElem_toArray, List.getElem_cons_succ, List.getElem_cons_zero]; guard_target = Oper.wp _ (Oper.mk _ (.mapUpdate _ _ _ _) _ _ _ _) _ _ _ _; refine o_segSet (l0 := ?_) (m := ?_) rfl rfl rfl rfl H2 ?_ (fun w4 H3 => hK _ _ ?_); rotate_left 2; (focus (intro _; (exact r4))); clear hK K; simp only [Act.put, List.setIfInBounds_toArray, List.set_cons_succ, List.set_cons_zero]; revert H3; revert w4; exact kk.out)) : P := h ⟨k⟩
theorem trap6x10 {P Q : Prop} (k : Q) (h : Hold Q → P := by (intro kk; guard_target = wpTreeC _ _ _ (Tr.e _ _) _ _ _; (with_reducible refine treeC_one (o := ?_) H ?_ ?_ (fun w3 H2 K hK => ?_)); rotate_left 1; exact rfl; exact rfl; simp only [List.getElem_toArray, List.getElem_cons_succ, List.getElem_cons_zero]; guard_target = Oper.wp _ (Oper.mk _ (.entryStore _ _ _ _) _ _ _ _) _ _ _ _; refine o_endPut (m := ?_) (k := ?_) (l0 := ?_) rfl rfl rfl rfl H2 ?_ (fun w4 H3 => hK _ _ (aM H3 ?_) ?_); rotate_left 3; (focus (intro _; (exact r0))); (guard_target = Suf _ _; repeat first | exact .here | apply Suf.there); clear hK K; simp only [Act.put, List.setIfInBounds_toArray, List.set_cons_succ, List.set_cons_zero]; revert H3; revert w4; exact kk.out)) : P := h ⟨k⟩
theorem trap6g12 {P Q : Prop} (k : Q) (h : Hold Q → P := by (intro kk; (first | (guard_target = wpTreeC _ _ _ (Tr.e _ Tr.nil) _ _ _; exact trap6x7 kk.out) | (guard_target = wpTreeC _ _ _ (Tr.e _ Tr.nil) _ _ _; exact trap6x9 kk.out) | (guard_target = wpTreeC _ _ _ (Tr.e _ _) _ _ _; exact trap6x10 kk.out)))) : P := h ⟨k⟩
theorem trap6g14 {P Q : Prop} (k : Q) (h : Hold Q → P := by (intro kk; (exact a9475ade kk.out))) : P := h ⟨k⟩
theorem trap6x16 {P Q : Prop} (k : Q) (h : Hold Q → P := by (intro kk; guard_target = wpTreeC _ _ _ (Tr.e _ _) _ _ _; (with_reducible refine treeC_one (o := ?_) H ?_ ?_ (fun w3 H2 K hK => ?_)); rotate_left 1; exact rfl; exact rfl; simp only [List.getElem_toArray, List.getElem_cons_succ, List.getElem_cons_zero]; guard_target = Oper.wp _ (Oper.mk _ (.mapEntry _ _ _) _ _ _ _) _ _ _ _; refine o_endEnt (m := ?_) (l0 := ?_) rfl rfl rfl H2 ?_ (fun w4 v9 st9 H3 => hK _ _ (aM H3 ?_) ?_); rotate_left 2; (focus (intro _ _; (exact r0))); (guard_target = Suf _ _; repeat first | exact .here | apply Suf.there); clear hK K; simp only [Act.put, List.setIfInBounds_toArray, List.set_cons_succ, List.set_cons_zero]; revert H3; revert w4; revert st9; revert v9; exact kk.out)) : P := h ⟨k⟩
theorem trap6g17 {P Q : Prop} (k : Q) (h : Hold Q → P := by (intro kk; (guard_target = wpTreeC _ _ _ (Tr.e _ _) _ _ _; exact trap6x16 kk.out))) : P := h ⟨k⟩
theorem trap6g19 {P Q : Prop} (k : Q) (h : Hold Q → P := by (intro kk; (guard_target = wpList _ _ _ (Oper.mk _ (.load _ _) _ _ _ _ :: _) _ _; exact a15dc6b3 kk.out))) : P := h ⟨k⟩
theorem trap6r1 {P Q : Prop} (k : Q) (h : Hold Q → InR 3 1 (.q 0 (.q 1 (.q 2 (.q 3 (.q 4 (.q 5 (.q 6 (.q 7 (.q 8 (.q 9 (.q 10 (.q 11 (.e 12 (.q 13 (.e 14 (.e 15 (.q 16 (.e 17 .nil)))))))))))))))))) P := by exact aRC) : P := h ⟨k⟩
theorem trap6r2 {P Q : Prop} (k : Q) (h : Hold Q → InR 2 0 (.q 0 (.q 4 (.q 5 (.e 1 (.q 2 (.q 3 (.e 6 .nil))))))) P := by exact aRC0) : P := h ⟨k⟩
theorem cutA_again {K V : Type} [DecidableEq K] (A : List (K × V)) (k : K) (u : V) : cutA ((k, u) :: cutA A k) k = cutA A k := by
 unfold cutA
 rw [List.filter_cons]
 simp
theorem nR1_at {all : List Nat} {j n : Nat} (h : all[j]? = some n) : ((nR1 all).drop j).take 1 = [.int .i64 (n : Int)] := by
 have : (nR1 all)[j]? = some (.int .i64 (n : Int)) := by simp [nR1, h]
 obtain ⟨h1, h2⟩ := List.getElem?_eq_some_iff.1 this
 rw [List.drop_eq_getElem_cons h1, h2]; rfl
theorem tail_u {on n : Nat} {c1 c2 : Bool} {t1 t2 : Tz} {b1 b2 r : Pt} {q : Nd} {X : PSt} : (nodeS on (begS c1 t1 b1 (endS c2 t2 b2 (rtS r n X, q)))).u = X.u ∧ (nodeS on (begS c1 t1 b1 (endS c2 t2 b2 (rtS r n X, q)))).d = X.d := by
 cases c1 <;> cases c2 <;> exact ⟨rfl, rfl⟩
def PutRel (id : Int) (s : Sg) (all : List Nat) (X0 : PSt) (B : Nat) (w0 : World) (bx ks ke : Nat) (l : List Res) (j : Nat) (u d : Value) (wr : World) : Prop :=
 ∃ X dn dp cn cp, X = roundsS id s all j X0 ∧ PInv X0.N.length X0.P (all.drop j) X ∧ X.N.length ≤ X0.N.length + 6 * j ∧ X.P.length ≤ X0.P.length + 6 * j ∧ (j = 0 ∧ u = .int .i64 (-1) ∧ d = .int .i64 (-1) ∨ 0 < j ∧ u = .int .i64 (X.u : Int) ∧ d = .int .i64 (X.d : Int) ∧ LeafIn X0.N.length X0.P.length X X.u ∧ LeafIn X0.N.length X0.P.length X X.d) ∧
  Own B w0 wr (xB bx ks ke X.N.length X.P.length cn cp dn dp :: nG dn X.N.length cn X.N :: pG dp X.P.length cp X.P :: l)
set_option maxRecDepth 100000 in
set_option maxHeartbeats 64000000 in
theorem put_any {B : Nat} {w0 w : World} {l : List Res} {bx ks ke cn cp dn dp : Nat} {N : List Nd} {P : List Pc} {S : List (Int × Sg)} {E : List (Pt × Bool)} (id : Int) (s : Sg)
  (hW : ∀ p ∈ P, 0 ≤ p.n ∧ p.n < N.length) (hP : 0 < P.length) (hN : 0 < N.length) (hnl : N.length + 6 * P.length ≤ 999900) (hpl : P.length + 6 * P.length ≤ 999900)
  (H : Own B w0 w (xB bx ks ke N.length P.length cn cp dn dp :: nG dn N.length cn N :: pG dp P.length cp P :: mSeg ks S :: mEnd ke E :: l)) :
  Calls Tryz.prog 16 #[.pointer (some ⟨bx, 0, none⟩), .int .i64 id, sgV s] w fun e w' => e = .returned (.tuple #[]) ∧ ∃ all X dn' dp' cn' cp', CrossP P S s all ∧ X = roundsS id s all all.length ⟨N, P, 0, 0⟩ ∧
   Own B w0 w' (xB bx ks ke X.N.length X.P.length cn' cp' dn' dp' :: nG dn' X.N.length cn' X.N :: pG dp' X.P.length cp' X.P :: mSeg ks ((id, s) :: cutA S id) :: mEnd ke ((s.b, true) :: cutA ((s.a, true) :: cutA E s.a) s.b) :: l) := by
 obtain ⟨⟨ax, ay⟩, ⟨sx, sy⟩⟩ := s
 simp only [sgV, xB, nG, pG] at H ⊢
 have HW := Lib.hid hW
 clear hW
 go_enter Tryz.func16, Tryz.ntmps16
 have tk0 : True := trivial
 go_wp2_with (first
  | (go_at_call 40; replace H:Own _ _ _ (mSeg _ _ :: _) := aF; replace H:Own _ _ _ (Res.grow 80 _ _ _ _ :: _) := aF; replace H:Own _ _ _ (Res.grow 75 _ _ _ _ :: _) := aF; replace H:Own _ _ _ (Res.cells bx _ :: _) := aF; (with_reducible refine (tcrossed_any ⟨⟨ax, ay⟩, ⟨sx, sy⟩⟩ rfl hP (by omega) H).mono ?_); rintro e w3 ⟨A6, q, c6, all, rfl, hcross, hq, H2⟩; replace H := H2; clear H2; have HQ := Lib.hid hq; clear hq; dsimp only; (skip))
  | (guard_target = Code.wp _ (Code.region 3 _ true) _ _ _; replace H:Own _ _ _ (mEnd _ _ :: _) := aF; refine trap6r1 ?_; clear H; (try clear w2); intro w2 H)
  | (guard_target = Code.wp _ (Code.region 2 _ true) _ _ _; refine trap6r2 ?_; clear H; (try clear w2); intro w2 H)
  | ((first | guard_target = wpList _ _ _ (_ :: _) _ _ | guard_target = wpTreeC _ _ _ _ _ _ _); (first | (refine trap6g5 ?_) | (refine trap6g12 ?_; clear H; (try clear w2); intro w2 H) | (refine trap6g14 ?_; intro b2; clear H; (try clear w2); intro w2 H; (clear tk0; rename Nat => b5)) | (refine trap6g17 ?_; intro v9 st9; clear H; (try clear w2); intro w2 H) | (guard_target = wpTreeC _ _ _ Tr.nil _ _ _; refine treeC_nil H ?_; clear H; (try clear w2); intro w2 H) | (refine a9d8d0a4 ?_; clear H; (try clear w2); intro w2 H))))
 simp only [cutA_again] at H
 obtain ⟨S2, hS2⟩ : ∃ S2, S2 = (id, (⟨⟨ax, ay⟩, ⟨sx, sy⟩⟩ : Sg)) :: cutA S id := ⟨_, rfl⟩
 obtain ⟨E2, hE2⟩ : ∃ E2, E2 = ((⟨sx, sy⟩ : Pt), true) :: cutA (((⟨ax, ay⟩ : Pt), true) :: cutA E ⟨ax, ay⟩) ⟨sx, sy⟩ := ⟨_, rfl⟩
 rw [← hS2, ← hE2] at H
 have HS2 := Lib.hid hS2
 have HE2 := Lib.hid hE2
 have hq := HQ.out
 have HC := Lib.hid hcross
 have hql : q ≤ P.length := by rw [hq, hcross.1.length_eq]; exact crossL_len _ _ _ _
 have hnd : all.Nodup := hcross.1.nodup_iff.2 (List.nodup_range.filter _)
 have hin : ∀ n ∈ all, n < P.length := fun n hn => crossL_lt (hcross.1.subset hn)
 have HND := Lib.hid hnd
 clear hS2 hE2 hq hcross hnd
 go_loopg [48, 7, 8] q (fun k i u d wr => k ≤ q ∧ i = .int .i64 ((q - k : Nat) : Int) ∧ PutRel id ⟨⟨ax, ay⟩, ⟨sx, sy⟩⟩ all ⟨N, P, 0, 0⟩ B w0 bx ks ke (.grow 3 1 (.slice A6 q c6) q (nR1 all) :: .cells b5 [.int .i64 ax, .int .i64 ay, .int .i64 sx, .int .i64 sy] :: mSeg ks S2 :: mEnd ke E2 :: l) (q - k) u d wr)
 case atStart =>
  refine ⟨Nat.le_refl _, by simp, ⟨N, P, 0, 0⟩, dn, dp, cn, cp, by rw [Nat.sub_self]; rfl, ⟨Nat.le_refl _, Nat.le_refl _, fun n hn => ⟨hin n (List.mem_of_mem_drop hn), rfl⟩, HW.out⟩, Nat.le_add_right _ _, Nat.le_add_right _ _, .inl ⟨Nat.sub_self _, rfl, rfl⟩, ?_⟩
  replace H:Own _ _ _ (mEnd _ _ :: _) := aF
  replace H:Own _ _ _ (mSeg _ _ :: _) := aF
  replace H:Own _ _ _ (Res.cells b5 _ :: _) := aF
  replace H:Own _ _ _ (Res.grow 3 _ _ _ _ :: _) := aF
  replace H:Own _ _ _ (Res.grow 80 _ _ _ _ :: _) := aF
  replace H:Own _ _ _ (Res.grow 75 _ _ _ _ :: _) := aF
  replace H:Own _ _ _ (Res.cells bx _ :: _) := aF
  exact H
 case round =>
  clear H
  obtain ⟨hk, rfl, X, dn, dp, cn, cp, hX, hI, hn6, hp6, hud, H⟩ := hrel
  simp only [xB, nG, pG] at H
  by_cases hlt : 0 < gk
  ·obtain ⟨a6, hA6⟩ : ∃ a6, A6 = some ⟨a6, 0, none⟩ := by
    obtain ⟨b, c, he⟩ := H.growSome (e := 3) (size := 1) (n := q) (v := .slice A6 q c6) (xs := nR1 all) m3 (by omega) (by decide)
    injection he with h1 _ _
    exact ⟨b, h1⟩
   subst hA6
   have hlt2 : 0 < gk := hlt
   obtain ⟨j, hj⟩ : ∃ j, q - gk = j := ⟨_, rfl⟩
   have hjl : j < q := by omega
   rw [hj] at hX hI hn6 hp6 hud ⊢
   obtain ⟨n, hn⟩ : ∃ n, all[j]? = some n := ⟨_, List.getElem?_eq_getElem (by have := HQ.out; omega)⟩
   have hdrop : all.drop j = n :: all.drop (j + 1) := by
    rw [List.drop_eq_getElem_cons (List.getElem?_eq_some_iff.1 hn).1, (List.getElem?_eq_some_iff.1 hn).2]
   obtain ⟨hnP, hXn⟩ := hI.rest n (by rw [hdrop]; simp)
   obtain ⟨⟨⟨tp, bt, hl, hr, ⟨lx, ly⟩, ⟨rx, ry⟩⟩, on', gn⟩, hp0⟩ : ∃ p, P[n]? = some p := ⟨_, List.getElem?_eq_getElem hnP⟩
   rw [hp0] at hXn
   have hon := hI.nodes _ (List.mem_of_getElem? hp0)
   obtain ⟨on, rfl⟩ : ∃ on : Nat, on' = (on : Int) := ⟨on'.toNat, by simp only at hon; omega⟩
   obtain ⟨N0, P0, ub0, db0⟩ := X
   simp only at hX hI hn6 hp6 hud hXn hon H
   have hnN := hI.nN
   have hnPl := hI.nP
   obtain ⟨nn0, hn0⟩ : ∃ n, n = N0.length := ⟨_, rfl⟩
   obtain ⟨mm0, hm0⟩ : ∃ n, n = P0.length := ⟨_, rfl⟩
   rw [← hn0] at H hn6 hnN
   rw [← hm0] at H hp6 hnPl
   have hnm : n < mm0 := by rw [hm0]; exact (List.getElem?_eq_some_iff.1 hXn).1
   have honn : on < nn0 := by omega
   have hp := p_grow (n := mm0) (b := dp) (c := cp) hXn
   simp only [pc10] at hp
   have hpa : (Res.grow 3 1 (.slice (some ⟨a6, 0, none⟩) q c6) q (nR1 all)).at a6 j [.int .i64 (n : Int)] := at_grow (nR1_at hn)
   obtain ⟨f, hf⟩ : ∃ f, (((j : Nat) : Int) == 0) = f := ⟨_, rfl⟩
   have e1 : IntKind.i64.wrap ((q : Int) - 1) = (q : Int) - 1 := IntWalk.i64_in _ (by omega)
   obtain ⟨la, hla⟩ : ∃ f, (((j : Nat) : Int) == (q : Int) - 1) = f := ⟨_, rfl⟩
   have hff : f = decide (j = 0) := by rw [← hf, Bool.eq_iff_iff, beq_iff_eq, decide_eq_true_eq]; omega
   have hll : la = decide (j + 1 = all.length) := by rw [← hla, Bool.eq_iff_iff, beq_iff_eq, decide_eq_true_eq]; have := HQ.out; omega
   have hT := fun w => geomTurn_any ax ay sx sy lx ly w
   obtain ⟨tu, htu⟩ : ∃ t, turnB ⟨ax, ay⟩ ⟨sx, sy⟩ ⟨lx, ly⟩ = t := ⟨_, rfl⟩
   rw [htu] at hT
   have HU : Hid (f = false → u7 = .int .i64 (ub0 : Int) ∧ u8 = .int .i64 (db0 : Int)) := Lib.hid fun h => by
    rcases hud with ⟨h0, _⟩ | ⟨_, h1, h2, _⟩
    ·rw [hff, h0] at h; cases h
    ·exact ⟨h1, h2⟩
   have HUF : Hid (f = false → LeafIn N.length P.length ⟨N0, P0, ub0, db0⟩ ub0 ∧ LeafIn N.length P.length ⟨N0, P0, ub0, db0⟩ db0) := Lib.hid fun h => by
    rcases hud with ⟨h0, _⟩ | ⟨_, _, _, h1, h2⟩
    ·rw [hff, h0] at h; cases h
    ·exact ⟨h1, h2⟩
   have HN0 := Lib.hid hn0
   have HM0 := Lib.hid hm0
   have HX := Lib.hid hX
   have HI := Lib.hid hI
   have HUD := Lib.hid hud
   have HJ := Lib.hid hj
   have HFF := Lib.hid hff
   have HLL := Lib.hid hll
   have HTU := Lib.hid htu
   have HDROP := Lib.hid hdrop
   have HALL := Lib.hid hn
   have HXN := Lib.hid hXn
   clear hn0 hm0 hX hI hud hj hff hll htu hdrop hn hXn hp0 hon
   have tk0 : True := trivial
   go_upto_region 10 with (guard_target = wpList _ _ _ (_ :: _) _ _; (first | (refine trap6g19 ?_) | (refine a181aa22 ?_; clear H; (try clear w2); intro w2 H) | (refine a9475ade ?_; intro b2; clear H; (try clear w2); intro w2 H; (clear tk0; rename Nat => b11))))
   replace H:Own _ _ _ (Res.cells b5 _ :: _) := aF
   replace H:Own _ _ _ (Res.grow 80 _ _ _ _ :: _) := aF
   replace H:Own _ _ _ (Res.grow 75 _ _ _ _ :: _) := aF
   replace H:Own _ _ _ (Res.cells bx _ :: _) := aF
   replace H:Own _ _ _ (Res.cells b11 _ :: _) := aF
   rw [then_then]
   refine put_u (ub := ub0) (db := db0) (f := f) (tu := tu) HTU.out (fun h => (HU.out h).1) (by omega) (by omega) HN0.out HM0.out ?_ (by assumption) ?_ H
   ·intro c a d v w h; cases d <;> exact h
   intro y67 y68 y69 y70 y71 y72 y73 y74 y75 y76 y77 y78 y79 y80 y81 y82 y83 y84 y85 y86 y87 y88 y89 y90 y91 y92 y93 y94 y95 y96 y97 y98 y99 y100 y101 y102 y103 y104 y105 y106 y107 w4 X1 dn dp cn cp hX1 H
   dsimp only
   have LU := fun (X2 : PSt) (c2 : Bool) (t2 : Tz) => two_leaves (X2 := X2) (c2 := c2) (t2 := t2) (f := f) (HDROP.out ▸ HI.out) (HUF.out) hX1
   have hd1 := (LU _ false ⟨0, 0, false, false, ⟨0, 0⟩, ⟨0, 0⟩⟩ rfl).2.2.2.2.2.2.2.1
   have hb1 := (LU _ false ⟨0, 0, false, false, ⟨0, 0⟩, ⟨0, 0⟩⟩ rfl).2.2.1
   have hc1 := (LU _ false ⟨0, 0, false, false, ⟨0, 0⟩, ⟨0, 0⟩⟩ rfl).2.2.2.1
   simp only at hd1 hb1 hc1
   rw [← HN0.out] at hb1
   rw [← HM0.out] at hc1
   have HLU := Lib.hid LU
   have HX1 := Lib.hid hX1
   clear LU hX1
   obtain ⟨N1, P1, ub1, db1⟩ := X1
   simp only [xB, nG, pG] at H hd1 hb1 hc1
   obtain ⟨nn1, hn1⟩ : ∃ n, n = N1.length := ⟨_, rfl⟩
   obtain ⟨mm1, hm1⟩ : ∃ n, n = P1.length := ⟨_, rfl⟩
   rw [← hn1] at H hb1
   rw [← hm1] at H hc1
   have HN1 := Lib.hid hn1
   have HM1 := Lib.hid hm1
   have HD1 := Lib.hid hd1
   clear hn1 hm1 hd1
   go_upto_region 14 with (first | fail)
   rw [then_then]
   refine put_d (ub := ub1) (db := db1) (f := f) (tu := tu) HTU.out (fun h => by rw [HD1.out]; exact (HU.out h).2) (by omega) (by omega) HN1.out HM1.out ?_ (by assumption) ?_ H
   ·intro c a d v w h; cases d <;> exact h
   intro y108 y109 y110 y111 y112 y113 y114 y115 y116 y117 y118 y119 y120 y121 y122 y123 y124 y125 y126 y127 y128 y129 y130 y131 y132 y133 y134 y135 y136 y137 y138 y139 y140 y141 y142 y143 y144 y145 y146 y147 y148 w5 X2 dn dp cn cp hX2 H
   dsimp only
   obtain ⟨l1, l2, -, -, hb2, hc2, hb3, -, hold⟩ := HLU.out _ _ _ hX2
   obtain ⟨N2, P2, ub2, db2⟩ := X2
   simp only at l1 l2 hb2 hc2 hb3 hold
   rw [← HN1.out] at hb2
   rw [← HM1.out] at hc2
   rw [← HN0.out] at hb3
   obtain ⟨⟨pu, p1, h1, h3, -⟩, -⟩ := l1
   obtain ⟨⟨pd, p2, h2, h4, -⟩, -⟩ := l2
   simp only at h1 h2 h3 h4
   have h6 := hold n (by rw [← HM0.out]; exact hnm)
   rw [HXN.out] at h6
   have eu := congrArg PSt.u hX2
   rw [loS_u] at eu
   simp only at eu
   rw [eu] at h1
   have HEU := Lib.hid eu
   clear eu
   have HX2 := Lib.hid hX2
   clear hX2 hold
   refine put_tK (pu := pu) (pd := pd) (p1 := p1) (p2 := p2) (by assumption) (by omega) (by omega) h1 h2 h3 h4 h6 (by omega) ?_ ?_ H
   ·intro c a d v w h; cases d <;> exact h
   intro y14 y16 y17 y18 y19 y20 y149 y150 y151 y152 y153 y154 y155 y156 y157 y158 y159 y160 y161 y162 y163 y164 y165 y166 y167 y168 y169 y170 y171 y172 y173 y174 y175 y176 y177 y178 y179 y180 y181 y182 y183 y184 y185 y186 y187 y188 y189 y190 y191 y192 y193 y194 y195 y196 y197 y198 y199 y200 y201 y202 y203 y204 y205 y206 y207 y208 y209 y210 y211 y212 y213 y214 y215 y216 y217 y218 y219 y220 y221 y222 y223 y224 y225 y226 y227 y228 y229 y230 y231 y232 y233 y234 y235 y236 y237 y238 y239 y240 y241 y242 y243 y244 y245 y246 y247 y248 y249 y250 y251 y252 y253 y254 y255 y256 y257 y258 y259 y260 y261 y262 y263 y264 w6 Y dn dp cn cp hY H
   dsimp only [Exit.inBlock, Exit.then]
   have HY := Lib.hid hY
   have HH := Lib.hid H
   clear hY h1 h2 h3 h4 h6
   go_wp2_with (first | fail)
   replace H:Own _ _ _ (Res.cells b5 _ :: _) := aF
   replace H:Own _ _ _ (Res.grow 3 _ _ _ _ :: _) := aF
   replace H:Own _ _ _ (Res.grow 80 _ _ _ _ :: _) := aF
   replace H:Own _ _ _ (Res.grow 75 _ _ _ _ :: _) := aF
   replace H:Own _ _ _ (Res.cells bx _ :: _) := aF
   go_roundg (gk - 1)
   case measure => omega
   case rel =>
    have hj1 : q - (gk - 1) = j + 1 := by have := HJ.out; omega
    rw [hj1]
    have hYR : Y = roundS id ⟨⟨ax, ay⟩, ⟨sx, sy⟩⟩ f la n ⟨N0, P0, ub0, db0⟩ := by
     unfold roundS
     simp only [HXN.out, Option.getD_some, HTU.out, Int.toNat_natCast]
     rw [← HX1.out, ← HX2.out, HEU.out]
     exact HY.out
    have hnd : n ∉ all.drop (j + 1) := by
     have := HND.out.sublist (List.drop_sublist j all)
     rw [HDROP.out] at this
     exact (List.nodup_cons.1 this).1
    have hu1 : Y.u = ub1 ∧ Y.d = db2 := by rw [HY.out]; exact tail_u
    have R := roundS_inv (id := id) (s := ⟨⟨ax, ay⟩, ⟨sx, sy⟩⟩) (f := f) (la := la) (HDROP.out ▸ HI.out) hnd HUF.out
    rw [← hYR] at R
    obtain ⟨r1, r2, r3, r4, r5⟩ := R
    simp only at r4 r5
    refine ⟨by omega, by simp, Y, dn, dp, cn, cp, ?_, r1, ?_, ?_, .inr ⟨Nat.succ_pos _, ?_, ?_, r2, r3⟩, H⟩
    ·rw [hYR]
     show _ = roundS id _ _ _ _ _
     rw [← HFF.out, ← HLL.out, HALL.out, ← HX.out]
     rfl
    ·have := HN0.out
     show _ ≤ N.length + 6 * (j + 1)
     omega
    ·have := HM0.out
     show _ ≤ P.length + 6 * (j + 1)
     omega
    ·rw [hu1.1]
    ·rw [hu1.2]
  ·obtain rfl : gk = 0 := by omega
   rw [Nat.sub_zero] at hX
   have HX := Lib.hid hX
   clear hX
   go_wp2_with (first | fail)
   first | go_ret | go_end0
   refine ⟨rfl, all, HC.out, dn, dp, cn, cp, ?_⟩
   rw [← HS2.out, ← HE2.out, ← HQ.out, ← HX.out]
   replace H:Own _ _ _ (mEnd _ _ :: _) := aF
   replace H:Own _ _ _ (mSeg _ _ :: _) := aF
   replace H:Own _ _ _ (Res.grow 80 _ _ _ _ :: _) := aF
   replace H:Own _ _ _ (Res.grow 75 _ _ _ _ :: _) := aF
   replace H:Own _ _ _ (Res.cells bx _ :: _) := aF
   exact (aW H)
end Go.Proofs.YtlhmjhildlnokaaGreat
