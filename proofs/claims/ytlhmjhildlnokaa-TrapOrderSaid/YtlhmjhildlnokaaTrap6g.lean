/-
  A part of put: the round from the right on.
-/
import Derived.Test.YtlhmjhildlnokaaTrap6p
import Derived.Test.YtlhmjhildlnokaaTrap6c
import Derived.Test.YtlhmjhildlnokaaTrap6e
import Derived.Test.YtlhmjhildlnokaaTrap6f
namespace Go.Proofs.Ytlhmjhildlnokaa
set_option linter.unusedVariables false
set_option linter.unusedSimpArgs false
open Go.RowKit Go.Sort Go.Shelf

def sqOf (n : Nat) : Code → Option Code
  | .seq a b => match a with
    | .region m _ _ => if m = n then some (.seq a b) else (match sqOf n a with | some c => some c | none => sqOf n b)
    | _ => match sqOf n a with | some c => some c | none => sqOf n b
  | .loop c => sqOf n c
  | .block _ c => sqOf n c
  | .scope c => sqOf n c
  | .cond _ a b => match sqOf n a with | some c => some c | none => sqOf n b
  | _ => none
theorem then_then {K K1 : Act → World → Prop} {Q : Exit → Act → World → Prop} : Exit.then K (Exit.then K1 Q) = Exit.then K Q := by
  funext e a w; cases e <;> rfl
theorem endS_len (c : Bool) (t : Tz) (b : Pt) (X : PSt × Nd) : (endS c t b X).1.N.length ≤ X.1.N.length + 2 ∧ X.1.N.length ≤ (endS c t b X).1.N.length ∧ (endS c t b X).1.P.length ≤ X.1.P.length + 1 := by unfold endS; split <;> simp
theorem begS_le (c : Bool) (t : Tz) (b : Pt) (X : PSt × Nd) : X.1.N.length ≤ (begS c t b X).1.N.length := by unfold begS; split <;> simp
theorem nd_set {N : List Nd} {i : Nat} (q : Nd) (h : i < N.length) : setL (nR N) (i * 6) (nd6 q) = nR (N.set i q) := by
  obtain ⟨p, hp⟩ : ∃ p, N[i]? = some p := ⟨_, List.getElem?_eq_getElem h⟩
  exact flatN_set (f := nd6) (k := 6) (fun _ => rfl) (d := 0) (vs := nd6 q) (a' := q) (by simp [nd6]) rfl N i hp
noncomputable def pSq (n : Nat) : Code := (Try.f62.body.bind (sqOf n)).getD .skip
set_option maxRecDepth 100000 in
set_option maxHeartbeats 16000000 in
theorem put_t {B : Nat} {w0 w : World} {l : List Res} {bx ks ke cn cp dn dp b5 b11 u d n on pu pd : Nat} {N : List Nd} {P : List Pc} {id ax ay sx sy tp bt lx ly rx ry : Int} {hl hr gn f la : Bool} {p1 p2 p0 : Pc} {c2 c3 c4 c6 c9 c14 c15 c16 c17 c18 c19 c20 c21 c22 c23 c24 c25 c26 c27 c28 c29 c30 c31 c32 c33 c34 c35 c36 c37 c38 c39 c40 c41 c42 c43 c44 c45 c46 c47 c48 c49 c50 c51 c52 c53 c54 c55 c56 c57 c58 c59 c60 c61 c62 c63 c64 c65 c66 c67 c68 c69 c70 c71 c72 c73 c74 c75 c76 c77 c78 c79 c80 c81 c82 c83 c84 c85 c86 c87 c88 c89 c90 c91 c92 c93 c94 c95 c96 c97 c98 c99 c100 c101 c102 c103 c104 c105 c106 c107 c108 c109 c110 c111 c112 c113 c114 c115 c116 c117 c118 c119 c120 c121 c122 c123 c124 c125 c126 c127 c128 c129 c130 c131 c132 c133 c134 c135 c136 c137 c138 c139 c140 c141 c142 c143 c144 c145 c146 c147 c148 c149 c150 c151 c152 c153 c154 c155 c156 c157 c158 c159 c160 c161 c162 c163 c164 c165 c166 c167 c168 c169 c170 c171 c172 c173 c174 c175 c176 c177 c178 c179 c180 c181 c182 c183 c184 c185 c186 c187 c188 c189 c190 c191 c192 c193 c194 c195 c196 c197 c198 c199 c200 c201 c202 c203 c204 c205 c206 c207 c208 c209 c210 c211 c212 c213 c214 c215 c216 c217 c218 c219 c220 c221 c222 c223 c224 c225 c226 c227 c228 c229 c230 c231 c232 c233 c234 c235 c236 c237 c238 c239 c240 c241 c242 c243 c244 c245 c246 c247 c248 c249 c250 c251 c252 c253 c254 c255 c256 c257 c258 c259 c260 c261 c262 c263 c264 c265 : Value} {Q : Exit → Act → World → Prop} (hNl : N.length ≤ 999980) (hPl : P.length ≤ 999980) (h1 : N[u]? = some (lfN pu)) (h2 : N[d]? = some (lfN pd)) (h3 : P[pu]? = some p1) (h4 : P[pd]? = some p2) (h6 : P[n]? = some p0) (hon : on < N.length)
    (hQ : ∀ {c a d v w}, Q (Exit.panic c) (Act.put a d v) w → Q (Exit.panic c) a w)
    (hR : ∀ (y14 y16 y17 y18 y19 y20 y149 y150 y151 y152 y153 y154 y155 y156 y157 y158 y159 y160 y161 y162 y163 y164 y165 y166 y167 y168 y169 y170 y171 y172 y173 y174 y175 y176 y177 y178 y179 y180 y181 y182 y183 y184 y185 y186 y187 y188 y189 y190 y191 y192 y193 y194 y195 y196 y197 y198 y199 y200 y201 y202 y203 y204 y205 y206 y207 y208 y209 y210 y211 y212 y213 y214 y215 y216 y217 y218 y219 y220 y221 y222 y223 y224 y225 y226 y227 y228 y229 y230 y231 y232 y233 y234 y235 y236 y237 y238 y239 y240 y241 y242 y243 y244 y245 y246 y247 y248 y249 y250 y251 y252 y253 y254 y255 y256 y257 y258 y259 y260 y261 y262 y263 y264 : Value) (w' : World) (Y : PSt) (dn dp cn cp : Nat), Y = nodeS on (begS (f && (!hl || lessB ⟨lx, ly⟩ ⟨ax, ay⟩)) ⟨tp, bt, hl, true, ⟨lx, ly⟩, ⟨ax, ay⟩⟩ ⟨ax, ay⟩ (endS (la && (!hr || lessB ⟨sx, sy⟩ ⟨rx, ry⟩)) ⟨tp, bt, true, hr, ⟨sx, sy⟩, ⟨rx, ry⟩⟩ ⟨sx, sy⟩ (rtS (if la then ⟨sx, sy⟩ else ⟨rx, ry⟩) n ⟨N, P, u, d⟩, ⟨2, id, ⟨0, 0⟩, (u : Int), (d : Int)⟩))) → Own B w0 w' (xB bx ks ke Y.N.length Y.P.length cn cp dn dp :: nG dn Y.N.length cn Y.N :: pG dp Y.P.length cp Y.P :: .cells b5 [.int .i64 ax, .int .i64 ay, .int .i64 sx, .int .i64 sy] :: l) → Q .normal ⟨#[.pointer (some ⟨bx, 0, none⟩), .int .i64 id, c2, c3, c4, .pointer (some ⟨b5, 0, none⟩), c6, .int .i64 (u : Int), .int .i64 (d : Int), c9, .int .i64 (n : Int), .pointer (some ⟨b11, 0, none⟩), .bool f, .bool la, y14, c15, y16, y17, y18, y19, y20, c21, c22, c23, c24, c25, c26, c27, c28, c29, c30, c31, c32, c33, c34, c35, c36, c37, c38, c39, c40, c41, c42, c43, c44, c45, c46, c47, c48, c49, c50, c51, c52, c53, c54, c55, c56, c57, c58, c59, c60, c61, c62, c63, c64, c65, c66, c67, c68, c69, c70, c71, c72, c73, c74, c75, c76, c77, c78, c79, c80, c81, c82, c83, c84, c85, c86, c87, c88, c89, c90, c91, c92, c93, c94, c95, c96, c97, c98, c99, c100, c101, c102, c103, c104, c105, c106, c107, c108, c109, c110, c111, c112, c113, c114, c115, c116, c117, c118, c119, c120, c121, c122, c123, c124, c125, c126, c127, c128, c129, c130, c131, c132, c133, c134, c135, c136, c137, c138, c139, c140, c141, c142, c143, c144, c145, c146, c147, c148, y149, y150, y151, y152, y153, y154, y155, y156, y157, y158, y159, y160, y161, y162, y163, y164, y165, y166, y167, y168, y169, y170, y171, y172, y173, y174, y175, y176, y177, y178, y179, y180, y181, y182, y183, y184, y185, y186, y187, y188, y189, y190, y191, y192, y193, y194, y195, y196, y197, y198, y199, y200, y201, y202, y203, y204, y205, y206, y207, y208, y209, y210, y211, y212, y213, y214, y215, y216, y217, y218, y219, y220, y221, y222, y223, y224, y225, y226, y227, y228, y229, y230, y231, y232, y233, y234, y235, y236, y237, y238, y239, y240, y241, y242, y243, y244, y245, y246, y247, y248, y249, y250, y251, y252, y253, y254, y255, y256, y257, y258, y259, y260, y261, y262, y263, y264, c265], []⟩ w')
    (H : Own B w0 w (.cells b11 [.int .i64 tp, .int .i64 bt, .bool hl, .bool hr, .int .i64 lx, .int .i64 ly, .int .i64 rx, .int .i64 ry, .int .i64 (on : Int), .bool gn] :: xB bx ks ke N.length P.length cn cp dn dp :: nG dn N.length cn N :: pG dp P.length cp P :: .cells b5 [.int .i64 ax, .int .i64 ay, .int .i64 sx, .int .i64 sy] :: l)) :
    Code.wp Try.prog (pSq 18) Q ⟨#[.pointer (some ⟨bx, 0, none⟩), .int .i64 id, c2, c3, c4, .pointer (some ⟨b5, 0, none⟩), c6, .int .i64 (u : Int), .int .i64 (d : Int), c9, .int .i64 (n : Int), .pointer (some ⟨b11, 0, none⟩), .bool f, .bool la, c14, c15, c16, c17, c18, c19, c20, c21, c22, c23, c24, c25, c26, c27, c28, c29, c30, c31, c32, c33, c34, c35, c36, c37, c38, c39, c40, c41, c42, c43, c44, c45, c46, c47, c48, c49, c50, c51, c52, c53, c54, c55, c56, c57, c58, c59, c60, c61, c62, c63, c64, c65, c66, c67, c68, c69, c70, c71, c72, c73, c74, c75, c76, c77, c78, c79, c80, c81, c82, c83, c84, c85, c86, c87, c88, c89, c90, c91, c92, c93, c94, c95, c96, c97, c98, c99, c100, c101, c102, c103, c104, c105, c106, c107, c108, c109, c110, c111, c112, c113, c114, c115, c116, c117, c118, c119, c120, c121, c122, c123, c124, c125, c126, c127, c128, c129, c130, c131, c132, c133, c134, c135, c136, c137, c138, c139, c140, c141, c142, c143, c144, c145, c146, c147, c148, c149, c150, c151, c152, c153, c154, c155, c156, c157, c158, c159, c160, c161, c162, c163, c164, c165, c166, c167, c168, c169, c170, c171, c172, c173, c174, c175, c176, c177, c178, c179, c180, c181, c182, c183, c184, c185, c186, c187, c188, c189, c190, c191, c192, c193, c194, c195, c196, c197, c198, c199, c200, c201, c202, c203, c204, c205, c206, c207, c208, c209, c210, c211, c212, c213, c214, c215, c216, c217, c218, c219, c220, c221, c222, c223, c224, c225, c226, c227, c228, c229, c230, c231, c232, c233, c234, c235, c236, c237, c238, c239, c240, c241, c242, c243, c244, c245, c246, c247, c248, c249, c250, c251, c252, c253, c254, c255, c256, c257, c258, c259, c260, c261, c262, c263, c264, c265], []⟩ w := by
  conv => arg 2; whnf
  have HR := Lib.hid hR
  have H1 := Lib.hid h1
  have H2 := Lib.hid h2
  have H3 := Lib.hid h3
  have H4 := Lib.hid h4
  have H6 := Lib.hid h6
  have HO := Lib.hid hon
  clear hR h1 h2 h3 h4 h6 hon
  simp only [xB, nG, pG] at H
  obtain ⟨nn, hnn⟩ : ∃ n, n = N.length := ⟨_, rfl⟩
  obtain ⟨mm, hmm⟩ : ∃ n, n = P.length := ⟨_, rfl⟩
  rw [← hnn] at H hNl
  rw [← hmm] at H hPl
  have HN := Lib.hid hnn
  have HM := Lib.hid hmm
  clear hnn hmm
  have tk0 : True := trivial
  go_upto_if 152 with (guard_target =~ wpList _ _ _ (_ :: _) _ _; (first | (guard_target =~ wpList _ _ _ (Oper.mk _ (.load _ _) _ _ _ _ :: _) _ _; refine BigFrame.wpList_want rfl (fun K hK => ?_); (refine o_loadPr (t0 := ?_) (t1 := ?_) (t2 := ?_) (t3 := ?_) (t4 := ?_) (t5 := ?_) (t6 := ?_) (t7 := ?_) (t8 := ?_) (t9 := ?_) rfl rfl H ?_ ?_ ?_ (hK _ _ ?_); rotate_left 10; (repeat first | exact .head _ | apply List.Mem.tail); (focus (intro _; simp; done)); (focus (intro _; simp; done))); clear hK K) | (guard_target =~ wpList _ _ _ (Oper.mk _ (.store _ _ _) _ _ _ _ :: _) _ _; refine BigFrame.wpList_want rfl (fun K hK => ?_); refine o_store (l' := ?_) (row := ?_) rfl rfl H rfl ?_ ?_ ?_ ?_ (fun w3 H2 => hK _ _ ?_); rotate_left 2; (exact r0); (focus (intro _; simp [Act.eval, Value.cells]; done)); (focus (simp [Act.eval, Value.cells]; done)); (exact rfl); clear hK K; clear H; (try clear w2); revert w3; intro w2 H; simp [Act.eval, Value.cells, setL, List.getD] at H) | ((guard_target =~ wpList _ _ _ (Oper.mk _ (.alloc _) _ _ _ _ :: _) _ _; refine BigFrame.wpList_want rfl (fun K hK => ?_); refine o_alloc (z := ?_) rfl ?_ H rfl (fun w3 b2 he H2 => hK _ _ ?_); rotate_left 1; (focus (intro _; simp; with_reducible exact rfl))); clear hK K he; clear H; (try clear w2); revert w3; intro w2 H; simp [Act.eval, Value.cells, setL, List.getD] at H; (clear tk0; rename Nat => b14))); simp only [Act.put, List.setIfInBounds_toArray, List.set_cons_succ, List.set_cons_zero])
  obtain ⟨⟨qx, qy⟩, hq⟩ : ∃ q : Pt, (if la then ⟨sx, sy⟩ else ⟨rx, ry⟩ : Pt) = q := ⟨_, rfl⟩
  have HQ2 := Lib.hid hq
  go_cut [] from 153 to 154 (fun wx => Own B w0 wx (.cells b14 [.int .i64 qx, .int .i64 qy] :: .cells b11 [.int .i64 tp, .int .i64 bt, .bool hl, .bool hr, .int .i64 lx, .int .i64 ly, .int .i64 rx, .int .i64 ry, .int .i64 (on : Int), .bool gn] :: xB bx ks ke nn mm cn cp dn dp :: nG dn nn cn N :: pG dp mm cp P :: .cells b5 [.int .i64 ax, .int .i64 ay, .int .i64 sx, .int .i64 sy] :: l))
  case first =>
    cases la
    · go_wp2_with (first | fail)
      go_meet
      case rel => simp at hq; obtain ⟨rfl, rfl⟩ := hq; exact H
    · go_wp2_with (guard_target =~ wpList _ _ _ (_ :: _) _ _; (first | (guard_target =~ wpList _ _ _ (Oper.mk _ (.load _ _) _ _ _ _ :: _) _ _; refine BigFrame.wpList_want rfl (fun K hK => ?_); (refine o_loadSb (t0 := ?_) (t1 := ?_) (t2 := ?_) (t3 := ?_) rfl rfl H ?_ ?_ ?_ (hK _ _ ?_); rotate_left 4; (repeat first | exact .head _ | apply List.Mem.tail); (focus (intro _; simp; done)); (focus (intro _; simp; done))); clear hK K) | (guard_target =~ wpList _ _ _ (Oper.mk _ (.store _ _ _) _ _ _ _ :: _) _ _; refine BigFrame.wpList_want rfl (fun K hK => ?_); refine o_store (l' := ?_) (row := ?_) rfl rfl H rfl ?_ ?_ ?_ ?_ (fun w3 H2 => hK _ _ ?_); rotate_left 2; (exact r0); (focus (intro _; simp [Act.eval, Value.cells]; done)); (focus (simp [Act.eval, Value.cells]; done)); (exact rfl); clear hK K; clear H; (try clear w2); revert w3; intro w2 H; simp [Act.eval, Value.cells, setL, List.getD] at H)); simp only [Act.put, List.setIfInBounds_toArray, List.set_cons_succ, List.set_cons_zero])
      go_meet
      case rel => simp at hq; obtain ⟨rfl, rfl⟩ := hq; exact H
  case rest =>
    clear H hq
    have H := hcut
    clear hcut
    simp only [xB, nG, pG] at H
    (replace H:Own _ _ _ (Res.grow 121 _ _ _ _ :: _) := H.front4)
    (replace H:Own _ _ _ (Res.grow 127 _ _ _ _ :: _) := H.front4)
    (replace H:Own _ _ _ (Res.cells bx _ :: _) := H.front4)
    (replace H:Own _ _ _ (Res.cells b14 _ :: _) := H.front3)
    go_upto_region 21 with (first | fail)
    rw [then_then]
    refine put_r (p1 := p1) (p2 := p2) (pu := pu) (pd := pd) HN.out HM.out H1.out H2.out H3.out H4.out ?_ (by assumption) ?_ H
    · intro c a d v w h; exact hQ h
    intro r16 r17 r155 r156 r157 r158 r159 r160 r161 r162 r163 r164 r165 r166 r167 r168 r169 r170 r171 r172 r173 r174 r175 r176 r177 r178 r179 r180 r181 r182 r183 r184 r185 w5 H
    dsimp only
    simp only [xB, nG, pG] at H
    obtain ⟨p3, h3⟩ := setR_some (i := pu) ⟨qx, qy⟩ H6.out
    obtain ⟨p5, h5⟩ := setR_some (i := pd) ⟨qx, qy⟩ h3
    have hG : setG (setR (setR P pu ⟨qx, qy⟩) pd ⟨qx, qy⟩) n = (setR (setR P pu ⟨qx, qy⟩) pd ⟨qx, qy⟩).set n { p5 with g := true } := by unfold setG; rw [h5]
    have hlen : (pR (setR (setR P pu ⟨qx, qy⟩) pd ⟨qx, qy⟩)).length = mm * 10 := by rw [pR_len, setR_len, setR_len]; exact (congrArg (· * 10) HM.out).symm
    have hnm : n < mm := by rw [HM.out]; exact (List.getElem?_eq_some_iff.1 H6.out).1
    have hset := pc_set (d := 9) (vs := [.bool true]) (p := p5) (p' := { p5 with g := true }) h5 (by simp) rfl
    simp only [setL] at hset
    rw [← hG] at hset
    have HG := Lib.hid hset
    clear hset hG h3 h5
    have hrt : rtS (if la then ⟨sx, sy⟩ else ⟨rx, ry⟩) n ⟨N, P, u, d⟩ = ⟨N, (setG (setR (setR P pu ⟨qx, qy⟩) pd ⟨qx, qy⟩) n), u, d⟩ := by
      unfold rtS idN; simp only [H1.out, H2.out, HQ2.out, Option.getD_some, lfN, Int.toNat_natCast]
    have HRT := Lib.hid hrt
    clear hrt
    have hmm3 : mm = (setG (setR (setR P pu ⟨qx, qy⟩) pd ⟨qx, qy⟩) n).length := by rw [setG_len, setR_len, setR_len]; exact HM.out
    have HM3 := Lib.hid hmm3
    clear hmm3
    have tk0 : True := trivial
    go_upto_region 29 with (guard_target =~ wpList _ _ _ (_ :: _) _ _; (first | (guard_target =~ wpList _ _ _ (Oper.mk _ (.load _ _) _ _ _ _ :: _) _ _; refine BigFrame.wpList_want rfl (fun K hK => ?_); (refine o_loadC (v := ?_) (row := ?_) rfl rfl H ?_ ?_ ?_ (hK _ _ ?_); rotate_left 2; (repeat first | exact .head _ | apply List.Mem.tail); (exact rfl); (focus (intro _; simp; done))); clear hK K) | (guard_target =~ wpList _ _ _ (Oper.mk _ (.store _ _ _) _ _ _ _ :: _) _ _; refine BigFrame.wpList_want rfl (fun K hK => ?_); (first | (refine o_store (l' := ?_) (row := ?_) rfl rfl H rfl ?_ ?_ ?_ ?_ (fun w3 H2 => hK _ _ ?_); rotate_left 2; (exact r0); (focus (intro _; simp [Act.eval, Value.cells]; done)); (focus (simp [Act.eval, Value.cells]; done)); (exact rfl); clear hK K; clear H; (try clear w2); revert w3; intro w2 H; simp [Act.eval, Value.cells, setL, List.getD] at H) | (refine o_storeG (e := ?_) (size := ?_) (n := ?_) (cap := ?_) (xs := ?_) (l' := ?_) rfl rfl H rfl ?_ ?_ ?_ ?_ (fun w3 H2 => hK _ _ ?_); rotate_left 6; (exact r3); (focus (intro _; simp [Act.eval, Value.cells]; done)); (focus ((try simp [Act.eval, Value.cells]); omega)); (exact rfl); clear hK K; clear H; (try clear w2); revert w3; intro w2 H; simp [Act.eval, Value.cells, setL, List.getD] at H))) | ((guard_target =~ wpList _ _ _ (Oper.mk _ (.alloc _) _ _ _ _ :: _) _ _; refine BigFrame.wpList_want rfl (fun K hK => ?_); refine o_alloc (z := ?_) rfl ?_ H rfl (fun w3 b2 he H2 => hK _ _ ?_); rotate_left 1; (focus (intro _; simp; with_reducible exact rfl))); clear hK K he; clear H; (try clear w2); revert w3; intro w2 H; simp [Act.eval, Value.cells, setL, List.getD] at H; (clear tk0; rename Nat => b18))); simp only [Act.put, List.setIfInBounds_toArray, List.set_cons_succ, List.set_cons_zero])
    rw [HG.out] at H
    (replace H:Own _ _ _ (Res.cells b5 _ :: _) := H.front6)
    (replace H:Own _ _ _ (Res.grow 121 _ _ _ _ :: _) := H.front5)
    (replace H:Own _ _ _ (Res.grow 127 _ _ _ _ :: _) := H.front5)
    (replace H:Own _ _ _ (Res.cells bx _ :: _) := H.front5)
    (replace H:Own _ _ _ (Res.cells b11 _ :: _) := H.front6)
    (replace H:Own _ _ _ (Res.cells b18 _ :: _) := H.front5)
    clear hlen
    rw [then_then]
    refine put_e (ub := u) (db := d) (by omega) (by omega) HN.out HM3.out ?_ (by assumption) ?_ H
    · intro c a d v w h; exact hQ h
    intro e19 e197 e198 e199 e200 e201 e202 e203 e204 e205 e206 e207 e208 e209 e210 e211 e212 e213 e214 e215 e216 e217 e218 e219 e220 e221 e222 e223 e224 e225 e226 w6 Y4 dn dp cn cp hY4 H
    dsimp only
    obtain ⟨⟨N4, P4, u4, d4⟩, ⟨k4, i4, ⟨px4, py4⟩, qa4, qb4⟩⟩ := Y4
    simp only [nd6, xB, nG, pG] at H
    have hb4 := endS_len (la && (!hr || lessB ⟨sx, sy⟩ ⟨rx, ry⟩)) ⟨tp, bt, true, hr, ⟨sx, sy⟩, ⟨rx, ry⟩⟩ ⟨sx, sy⟩ (⟨N, (setG (setR (setR P pu ⟨qx, qy⟩) pd ⟨qx, qy⟩) n), u, d⟩, ⟨2, id, ⟨0, 0⟩, (u : Int), (d : Int)⟩)
    rw [← hY4] at hb4
    simp only at hb4
    rw [← HN.out, ← HM3.out] at hb4
    have HY4 := Lib.hid hY4
    clear hY4
    obtain ⟨n4, hn4⟩ : ∃ n, n = N4.length := ⟨_, rfl⟩
    obtain ⟨m4, hm4⟩ : ∃ n, n = P4.length := ⟨_, rfl⟩
    rw [← hn4, ← hm4] at H hb4
    have HN4 := Lib.hid hn4
    have HM4 := Lib.hid hm4
    clear hn4 hm4
    go_upto_region 33 with (first | fail)
    rw [then_then]
    refine put_b (ub := u4) (db := d4) (by omega) (by omega) HN4.out HM4.out ?_ (by assumption) ?_ H
    · intro c a d v w h; exact hQ h
    intro f20 f227 f228 f229 f230 f231 f232 f233 f234 f235 f236 f237 f238 f239 f240 f241 f242 f243 f244 f245 f246 f247 f248 f249 f250 f251 f252 f253 f254 f255 f256 w7 Y5 dnb dpb cnb cpb hY5 H
    dsimp only
    obtain ⟨⟨N5, P5, u5, d5⟩, ⟨k5, i5, ⟨px5, py5⟩, qa5, qb5⟩⟩ := Y5
    simp only [nd6, xB, nG, pG] at H
    have hb5 := begS_le (f && (!hl || lessB ⟨lx, ly⟩ ⟨ax, ay⟩)) ⟨tp, bt, hl, true, ⟨lx, ly⟩, ⟨ax, ay⟩⟩ ⟨ax, ay⟩ (⟨N4, P4, u4, d4⟩, ⟨k4, i4, ⟨px4, py4⟩, qa4, qb4⟩)
    rw [← hY5] at hb5
    simp only at hb5
    rw [← HN4.out] at hb5
    have HY5 := Lib.hid hY5
    clear hY5
    obtain ⟨n5, hn5⟩ : ∃ n, n = N5.length := ⟨_, rfl⟩
    obtain ⟨m5, hm5⟩ : ∃ n, n = P5.length := ⟨_, rfl⟩
    rw [← hn5, ← hm5] at H
    rw [← hn5] at hb5
    have hon5 : on < n5 := by have := HO.out; rw [← HN.out] at this; omega
    have hlen : (nR N5).length = n5 * 6 := by rw [nR_len, hn5]
    have HN5 := Lib.hid hn5
    have HM5 := Lib.hid hm5
    clear hn5 hm5
    go_wp2_with (first
      | (guard_target =~ Code.wp _ (Code.region 37 _ true) _ _ _; (replace H:Own _ _ _ (Res.grow 127 _ _ _ _ :: _) := H.front3); refine region_treeC 37 1 (G := True) (.q 0 (.q 4 (.q 5 (.q 6 (.e 1 (.q 2 (.q 3 (.q 7 (.e 8 .nil))))))))) (by kernel_rfl) (by intro c a d v w h; cases d <;> first | exact h | exact hQ h) (by kernel_rfl) H ⟨trivial⟩ (fun _ w3 H2 => ?_); (clear H; (try clear w2); revert w3; intro w2 H); simp only [List.drop_succ_cons, List.drop_zero])
      | (guard_target =~ wpTreeC _ _ _ _ _ _ _; first | (guard_target =~ wpTreeC _ _ _ (Tr.e _ Tr.nil) _ _ _; refine treeC_last (by decide +kernel) H rfl rfl (fun w3 H2 K hK => ?_); clear H; (try clear w2); (revert w3; intro w2 H); simp only [List.getElem_toArray, List.getElem_cons_succ, List.getElem_cons_zero]; (guard_target =~ Oper.wp _ (Oper.mk _ (.store _ _ _) _ _ _ _) _ _ _ _; (refine o_storeG (e := ?_) (size := ?_) (n := ?_) (cap := ?_) (xs := ?_) (l' := ?_) rfl rfl H rfl ?_ ?_ ?_ ?_ (fun w3 H2 => hK _ _ ?_); rotate_left 6; (exact r0); (focus (intro _; simp [Act.eval, Value.cells]; done)); (focus ((try simp [Act.eval, Value.cells]); omega)); (exact rfl); clear hK K; clear H; (try clear w2); revert w3; intro w2 H; simp [Act.eval, Value.cells, setL, List.getD] at H)); simp only [Act.put, List.setIfInBounds_toArray, List.set_cons_succ, List.set_cons_zero]) | (guard_target =~ wpTreeC _ _ _ (Tr.q _ _) _ _ _; first | (refine treeC_quiet ⟨_, H, by repeat first | exact .here | apply Suf.there⟩ rfl rfl rfl (fun K hK => ?_); simp only [List.getElem_toArray, List.getElem_cons_succ, List.getElem_cons_zero]; first | (guard_target =~ Oper.quiet _ (Oper.mk _ (.load _ _) _ _ _ _) _ _ _; (first | (refine q_loadC (v := ?_) (row := ?_) rfl rfl ?_ ?_ ?_ (hK _ ?_); rotate_left 2; (repeat first | exact .head _ | apply List.Mem.tail); (exact rfl); (focus (intro _; simp; done))) | (refine q_loadNC (row := ?_) rfl rfl ?_ ?_ ?_ (hK _ ?_); rotate_left 1; (repeat first | exact .head _ | apply List.Mem.tail); (focus (intro _; simp; done)); (focus (intro _; simp; done)))); clear hK K; simp only [Act.put, List.setIfInBounds_toArray, List.set_cons_succ, List.set_cons_zero]) | (go_big_quiet_op; (try refine ⟨_, fun _ _ => rfl, ?_⟩); refine hK _ ?_; clear hK K)) | (refine treeC_call (v := ?_) ⟨_, H, by repeat first | exact .here | apply Suf.there⟩ rfl rfl (fun w3 H K hK => ?_) ?_; rotate_left 1; (focus (simp only [List.getElem_toArray, List.getElem_cons_succ, List.getElem_cons_zero]; first | (go_big_op; first | exact hK _ (Ext.refl _)))); simp only [List.getElem_toArray, List.getElem_cons_succ, List.getElem_cons_zero, Act.put, List.setIfInBounds_toArray, List.set_cons_succ, List.set_cons_zero]) | (refine treeC_skip ⟨_, H, by repeat first | exact .here | apply Suf.there⟩ rfl rfl ?_; simp only [List.getElem_toArray, List.getElem_cons_succ, List.getElem_cons_zero, Act.put, List.setIfInBounds_toArray, List.set_cons_succ, List.set_cons_zero])) | (guard_target =~ wpTreeC _ _ _ (Tr.both _ _) _ _ _; refine treeC_both ?_ ?_) | (guard_target =~ wpTreeC _ _ _ (Tr.e _ _) _ _ _; first | (refine treeC_one H rfl rfl (fun w3 H2 K hK => ?_); clear H; (try clear w2); (revert w3; intro w2 H); simp only [List.getElem_toArray, List.getElem_cons_succ, List.getElem_cons_zero]; first | ((first | fail); simp only [Act.put, List.setIfInBounds_toArray, List.set_cons_succ, List.set_cons_zero]) | (go_big_op; (refine hK _ _ ⟨_, H, by repeat first | exact .here | apply Suf.there⟩ ?_; clear hK K; (try simp only [Act.put, List.setIfInBounds_toArray, List.set_cons_succ, List.set_cons_zero])))) | (refine treeC_one_skip (fun w3 hx => ⟨_, H.ext hx, by repeat first | exact .here | apply Suf.there⟩) rfl rfl (fun w3 hx => ?_); replace H := H.ext hx; clear hx; (try clear w2); revert w3; intro w2 H; simp only [List.getElem_toArray, List.getElem_cons_succ, List.getElem_cons_zero, Act.put, List.setIfInBounds_toArray, List.set_cons_succ, List.set_cons_zero])) | (guard_target =~ wpTreeC _ _ _ Tr.nil _ _ _; refine treeC_nil H (fun w3 H2 => ?_); clear H; (try clear w2); revert w3; intro w2 H)))
    clear hlen
    have hset := nd_set ⟨k5, i5, ⟨px5, py5⟩, qa5, qb5⟩ (by rw [← HN5.out]; exact hon5 : on < N5.length)
    simp only [setL, nd6] at hset
    rw [hset] at H
    clear hset
    (replace H:Own _ _ _ (Res.grow 121 _ _ _ _ :: _) := H.front4)
    (replace H:Own _ _ _ (Res.grow 127 _ _ _ _ :: _) := H.front1)
    (replace H:Own _ _ _ (Res.cells bx _ :: _) := H.front4)
    rw [HN5.out, HM5.out] at H
    refine HR.out _ _ _ _ _ _ _ _ _ _ _ _ _ _ _ _ _ _ _ _ _ _ _ _ _ _ _ _ _ _ _ _ _ _ _ _ _ _ _ _ _ _ _ _ _ _ _ _ _ _ _ _ _ _ _ _ _ _ _ _ _ _ _ _ _ _ _ _ _ _ _ _ _ _ _ _ _ _ _ _ _ _ _ _ _ _ _ _ _ _ _ _ _ _ _ _ _ _ _ _ _ _ _ _ _ _ _ _ _ _ _ _ _ _ _ _ _ _ _ _ _ _ _ ⟨N5.set on ⟨k5, i5, ⟨px5, py5⟩, qa5, qb5⟩, P5, u5, d5⟩ dnb dpb cnb cpb (by rw [HRT.out, ← HY4.out, ← HY5.out]; rfl) ?_
    dsimp only
    simp only [List.length_set]
    exact (H.sub (by repeat first | exact List.Sublist.refl _ | apply List.Sublist.cons_cons | apply List.Sublist.cons))
theorem put_tK {B : Nat} {w0 w : World} {l : List Res} {bx ks ke cn cp dn dp b5 b11 u d n on pu pd : Nat} {N : List Nd} {P : List Pc} {id ax ay sx sy tp bt lx ly rx ry : Int} {hl hr gn f la : Bool} {p1 p2 p0 : Pc} {c2 c3 c4 c6 c9 c14 c15 c16 c17 c18 c19 c20 c21 c22 c23 c24 c25 c26 c27 c28 c29 c30 c31 c32 c33 c34 c35 c36 c37 c38 c39 c40 c41 c42 c43 c44 c45 c46 c47 c48 c49 c50 c51 c52 c53 c54 c55 c56 c57 c58 c59 c60 c61 c62 c63 c64 c65 c66 c67 c68 c69 c70 c71 c72 c73 c74 c75 c76 c77 c78 c79 c80 c81 c82 c83 c84 c85 c86 c87 c88 c89 c90 c91 c92 c93 c94 c95 c96 c97 c98 c99 c100 c101 c102 c103 c104 c105 c106 c107 c108 c109 c110 c111 c112 c113 c114 c115 c116 c117 c118 c119 c120 c121 c122 c123 c124 c125 c126 c127 c128 c129 c130 c131 c132 c133 c134 c135 c136 c137 c138 c139 c140 c141 c142 c143 c144 c145 c146 c147 c148 c149 c150 c151 c152 c153 c154 c155 c156 c157 c158 c159 c160 c161 c162 c163 c164 c165 c166 c167 c168 c169 c170 c171 c172 c173 c174 c175 c176 c177 c178 c179 c180 c181 c182 c183 c184 c185 c186 c187 c188 c189 c190 c191 c192 c193 c194 c195 c196 c197 c198 c199 c200 c201 c202 c203 c204 c205 c206 c207 c208 c209 c210 c211 c212 c213 c214 c215 c216 c217 c218 c219 c220 c221 c222 c223 c224 c225 c226 c227 c228 c229 c230 c231 c232 c233 c234 c235 c236 c237 c238 c239 c240 c241 c242 c243 c244 c245 c246 c247 c248 c249 c250 c251 c252 c253 c254 c255 c256 c257 c258 c259 c260 c261 c262 c263 c264 c265 : Value} {K : Act → World → Prop} {Q : Exit → Act → World → Prop} (hK : ∀ a w, Code.wp Try.prog (pSq 18) Q a w → K a w) (hNl : N.length ≤ 999980) (hPl : P.length ≤ 999980) (h1 : N[u]? = some (lfN pu)) (h2 : N[d]? = some (lfN pd)) (h3 : P[pu]? = some p1) (h4 : P[pd]? = some p2) (h6 : P[n]? = some p0) (hon : on < N.length)
    (hQ : ∀ {c a d v w}, Q (Exit.panic c) (Act.put a d v) w → Q (Exit.panic c) a w)
    (hR : ∀ (y14 y16 y17 y18 y19 y20 y149 y150 y151 y152 y153 y154 y155 y156 y157 y158 y159 y160 y161 y162 y163 y164 y165 y166 y167 y168 y169 y170 y171 y172 y173 y174 y175 y176 y177 y178 y179 y180 y181 y182 y183 y184 y185 y186 y187 y188 y189 y190 y191 y192 y193 y194 y195 y196 y197 y198 y199 y200 y201 y202 y203 y204 y205 y206 y207 y208 y209 y210 y211 y212 y213 y214 y215 y216 y217 y218 y219 y220 y221 y222 y223 y224 y225 y226 y227 y228 y229 y230 y231 y232 y233 y234 y235 y236 y237 y238 y239 y240 y241 y242 y243 y244 y245 y246 y247 y248 y249 y250 y251 y252 y253 y254 y255 y256 y257 y258 y259 y260 y261 y262 y263 y264 : Value) (w' : World) (Y : PSt) (dn dp cn cp : Nat), Y = nodeS on (begS (f && (!hl || lessB ⟨lx, ly⟩ ⟨ax, ay⟩)) ⟨tp, bt, hl, true, ⟨lx, ly⟩, ⟨ax, ay⟩⟩ ⟨ax, ay⟩ (endS (la && (!hr || lessB ⟨sx, sy⟩ ⟨rx, ry⟩)) ⟨tp, bt, true, hr, ⟨sx, sy⟩, ⟨rx, ry⟩⟩ ⟨sx, sy⟩ (rtS (if la then ⟨sx, sy⟩ else ⟨rx, ry⟩) n ⟨N, P, u, d⟩, ⟨2, id, ⟨0, 0⟩, (u : Int), (d : Int)⟩))) → Own B w0 w' (xB bx ks ke Y.N.length Y.P.length cn cp dn dp :: nG dn Y.N.length cn Y.N :: pG dp Y.P.length cp Y.P :: .cells b5 [.int .i64 ax, .int .i64 ay, .int .i64 sx, .int .i64 sy] :: l) → Q .normal ⟨#[.pointer (some ⟨bx, 0, none⟩), .int .i64 id, c2, c3, c4, .pointer (some ⟨b5, 0, none⟩), c6, .int .i64 (u : Int), .int .i64 (d : Int), c9, .int .i64 (n : Int), .pointer (some ⟨b11, 0, none⟩), .bool f, .bool la, y14, c15, y16, y17, y18, y19, y20, c21, c22, c23, c24, c25, c26, c27, c28, c29, c30, c31, c32, c33, c34, c35, c36, c37, c38, c39, c40, c41, c42, c43, c44, c45, c46, c47, c48, c49, c50, c51, c52, c53, c54, c55, c56, c57, c58, c59, c60, c61, c62, c63, c64, c65, c66, c67, c68, c69, c70, c71, c72, c73, c74, c75, c76, c77, c78, c79, c80, c81, c82, c83, c84, c85, c86, c87, c88, c89, c90, c91, c92, c93, c94, c95, c96, c97, c98, c99, c100, c101, c102, c103, c104, c105, c106, c107, c108, c109, c110, c111, c112, c113, c114, c115, c116, c117, c118, c119, c120, c121, c122, c123, c124, c125, c126, c127, c128, c129, c130, c131, c132, c133, c134, c135, c136, c137, c138, c139, c140, c141, c142, c143, c144, c145, c146, c147, c148, y149, y150, y151, y152, y153, y154, y155, y156, y157, y158, y159, y160, y161, y162, y163, y164, y165, y166, y167, y168, y169, y170, y171, y172, y173, y174, y175, y176, y177, y178, y179, y180, y181, y182, y183, y184, y185, y186, y187, y188, y189, y190, y191, y192, y193, y194, y195, y196, y197, y198, y199, y200, y201, y202, y203, y204, y205, y206, y207, y208, y209, y210, y211, y212, y213, y214, y215, y216, y217, y218, y219, y220, y221, y222, y223, y224, y225, y226, y227, y228, y229, y230, y231, y232, y233, y234, y235, y236, y237, y238, y239, y240, y241, y242, y243, y244, y245, y246, y247, y248, y249, y250, y251, y252, y253, y254, y255, y256, y257, y258, y259, y260, y261, y262, y263, y264, c265], []⟩ w')
    (H : Own B w0 w (.cells b11 [.int .i64 tp, .int .i64 bt, .bool hl, .bool hr, .int .i64 lx, .int .i64 ly, .int .i64 rx, .int .i64 ry, .int .i64 (on : Int), .bool gn] :: xB bx ks ke N.length P.length cn cp dn dp :: nG dn N.length cn N :: pG dp P.length cp P :: .cells b5 [.int .i64 ax, .int .i64 ay, .int .i64 sx, .int .i64 sy] :: l)) :
    K ⟨#[.pointer (some ⟨bx, 0, none⟩), .int .i64 id, c2, c3, c4, .pointer (some ⟨b5, 0, none⟩), c6, .int .i64 (u : Int), .int .i64 (d : Int), c9, .int .i64 (n : Int), .pointer (some ⟨b11, 0, none⟩), .bool f, .bool la, c14, c15, c16, c17, c18, c19, c20, c21, c22, c23, c24, c25, c26, c27, c28, c29, c30, c31, c32, c33, c34, c35, c36, c37, c38, c39, c40, c41, c42, c43, c44, c45, c46, c47, c48, c49, c50, c51, c52, c53, c54, c55, c56, c57, c58, c59, c60, c61, c62, c63, c64, c65, c66, c67, c68, c69, c70, c71, c72, c73, c74, c75, c76, c77, c78, c79, c80, c81, c82, c83, c84, c85, c86, c87, c88, c89, c90, c91, c92, c93, c94, c95, c96, c97, c98, c99, c100, c101, c102, c103, c104, c105, c106, c107, c108, c109, c110, c111, c112, c113, c114, c115, c116, c117, c118, c119, c120, c121, c122, c123, c124, c125, c126, c127, c128, c129, c130, c131, c132, c133, c134, c135, c136, c137, c138, c139, c140, c141, c142, c143, c144, c145, c146, c147, c148, c149, c150, c151, c152, c153, c154, c155, c156, c157, c158, c159, c160, c161, c162, c163, c164, c165, c166, c167, c168, c169, c170, c171, c172, c173, c174, c175, c176, c177, c178, c179, c180, c181, c182, c183, c184, c185, c186, c187, c188, c189, c190, c191, c192, c193, c194, c195, c196, c197, c198, c199, c200, c201, c202, c203, c204, c205, c206, c207, c208, c209, c210, c211, c212, c213, c214, c215, c216, c217, c218, c219, c220, c221, c222, c223, c224, c225, c226, c227, c228, c229, c230, c231, c232, c233, c234, c235, c236, c237, c238, c239, c240, c241, c242, c243, c244, c245, c246, c247, c248, c249, c250, c251, c252, c253, c254, c255, c256, c257, c258, c259, c260, c261, c262, c263, c264, c265], []⟩ w := hK _ _ (put_t hNl hPl h1 h2 h3 h4 h6 hon hQ hR H)
theorem two_leaves {N0 : Nat} {Pa : List Pc} {rest : List Nat} {n : Nat} {f c1 c2 : Bool} {t1 t2 : Tz} {X X1 X2 : PSt} (I : PInv N0 Pa (n :: rest) X) (hu : f = false → LeafIn N0 Pa.length X X.u ∧ LeafIn N0 Pa.length X X.d) (h1 : X1 = upS (f || c1) t1 X) (h2 : X2 = loS (f || c2) t2 X1) :
    LeafIn N0 Pa.length X2 X2.u ∧ LeafIn N0 Pa.length X2 X2.d ∧ X1.N.length ≤ X.N.length + 1 ∧ X1.P.length ≤ X.P.length + 1 ∧ X2.N.length ≤ X1.N.length + 1 ∧ X2.P.length ≤ X1.P.length + 1 ∧ X.N.length ≤ X2.N.length ∧ X1.d = X.d ∧ ∀ i, i < X.P.length → X2.P[i]? = X.P[i]? := by
  have k1 : Kp X X1 := by rw [h1]; exact upS_kp _ _ _
  have k2 : Kp X1 X2 := by rw [h2]; exact loS_kp _ _ _
  have d1 : X1.d = X.d := by rw [h1]; exact upS_d _ _ _
  have u2 : X2.u = X1.u := by rw [h2]; exact loS_u _ _ _
  have l1 : LeafIn N0 Pa.length X1 X1.u := by rw [h1]; exact upS_leaf I.nN I.nP fun hc => (hu (by cases f; rfl; simp at hc)).1
  have l2 : LeafIn N0 Pa.length X2 X2.d := by
    rw [h2]
    refine loS_leaf (Nat.le_trans I.nN k1.nl) (Nat.le_trans I.nP k1.pl) fun hc => ?_
    rw [d1]
    exact (hu (by cases f; rfl; simp at hc)).2.keep k1
  have b1 : X1.N.length ≤ X.N.length + 1 ∧ X1.P.length ≤ X.P.length + 1 := by rw [h1]; unfold upS; split <;> simp
  have b2 : X2.N.length ≤ X1.N.length + 1 ∧ X2.P.length ≤ X1.P.length + 1 := by rw [h2]; unfold loS; split <;> simp
  exact ⟨u2 ▸ l1.keep k2, l2, b1.1, b1.2, b2.1, b2.2, (k1.trans k2).nl, d1, (k1.trans k2).p⟩
end Go.Proofs.Ytlhmjhildlnokaa
