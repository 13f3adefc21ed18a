/-
  A part of put: what is left at the left of the first trapeze.
-/
import Derived.Test.YtlhmjhildlnokaaGreatMd6b25c4b
import Derived.Test.YtlhmjhildlnokaaGreatM575e54b8
namespace Go.Proofs.YtlhmjhildlnokaaGreat
set_option linter.unusedVariables false
set_option linter.unusedSimpArgs false
open Go.RowKit Go.Sort Go.Shelf
theorem trap6ex1 {P Q : Prop} (k : Q) (h : Hold Q → P := by (intro kk; guard_target = wpList _ _ _ (Oper.mk _ (.load _ _) _ _ _ _ :: _) _ _; (with_reducible refine BigFrame.wpList_want ?_ (fun K hK => ?_)); exact rfl; (first | (refine o_loadSb (t0 := ?_) (t1 := ?_) (t2 := ?_) (t3 := ?_) rfl rfl H ?_ ?_ ?_ (hK _ _ ?_); rotate_left 4; (repeat first | exact .head _ | apply List.Mem.tail); (focus (intro _; simp; done)); (focus (intro _; simp; done))) | (refine o_loadPr (t0 := ?_) (t1 := ?_) (t2 := ?_) (t3 := ?_) (t4 := ?_) (t5 := ?_) (t6 := ?_) (t7 := ?_) (t8 := ?_) (t9 := ?_) rfl rfl H ?_ ?_ ?_ (hK _ _ ?_); rotate_left 10; (repeat first | exact .head _ | apply List.Mem.tail); (focus (intro _; simp; done)); (focus (intro _; simp; done)))); clear hK K; simp only [Act.put, List.setIfInBounds_toArray, List.set_cons_succ, List.set_cons_zero]; exact kk.out)) : P := h ⟨k⟩
theorem trap6eg2 {P Q : Prop} (k : Q) (h : Hold Q → P := by (intro kk; (first | (guard_target = wpList _ _ _ (Oper.mk _ (.load _ _) _ _ _ _ :: _) _ _; exact trap6ex1 kk.out) | (guard_target = wpList _ _ _ (Oper.mk _ (.load _ _) _ _ _ _ :: _) _ _; exact a15dc6b3 kk.out)))) : P := h ⟨k⟩
theorem trap6ex3 {P Q : Prop} (k : Q) (h : Hold Q → P := by (intro kk; guard_target = wpList _ _ _ (Oper.mk _ (.load _ _) _ _ _ _ :: _) _ _; (with_reducible refine BigFrame.wpList_want ?_ (fun K hK => ?_)); exact rfl; (refine o_loadPz (t0 := ?_) (t1 := ?_) (t2 := ?_) (t3 := ?_) (t4 := ?_) (t5 := ?_) (t6 := ?_) (t7 := ?_) (t8 := ?_) (t9 := ?_) rfl rfl H ?_ ?_ ?_ (hK _ _ ?_); rotate_left 10; (repeat first | exact .head _ | apply List.Mem.tail); (focus (intro _; simp; done)); (focus (intro _; simp; done))); clear hK K; simp only [Act.put, List.setIfInBounds_toArray, List.set_cons_succ, List.set_cons_zero]; exact kk.out)) : P := h ⟨k⟩
theorem trap6ex4 {P Q : Prop} (k : Q) (h : Hold Q → P := by (intro kk; guard_target = wpTreeC _ _ _ (Tr.q _ _) _ _ _; (with_reducible refine treeC_quiet (o := ?_) (aK H) ?_ ?_ ?_ (fun K hK => ?_)); rotate_left 1; exact rfl; exact rfl; exact rfl; simp only [List.getElem_toArray, List.getElem_cons_succ, List.getElem_cons_zero]; (guard_target = Oper.quiet _ (Oper.mk _ (.load _ _) _ _ _ _) _ _ _; (refine q_loadSb (t0 := ?_) (t1 := ?_) (t2 := ?_) (t3 := ?_) rfl rfl ?_ ?_ ?_ (hK _ ?_); rotate_left 4; (repeat first | exact .head _ | apply List.Mem.tail); (focus (intro _; simp; done)); (focus (intro _; simp; done))); clear hK K; simp only [Act.put, List.setIfInBounds_toArray, List.set_cons_succ, List.set_cons_zero]); exact kk.out)) : P := h ⟨k⟩
theorem trap6eg5 {P Q : Prop} (k : Q) (h : Hold Q → P := by (intro kk; (first | (guard_target = wpList _ _ _ (Oper.mk _ (.load _ _) _ _ _ _ :: _) _ _; exact trap6ex3 kk.out) | (guard_target = wpTreeC _ _ _ (Tr.q _ _) _ _ _; exact trap6ex4 kk.out) | (guard_target = wpTreeC _ _ _ (Tr.q _ _) _ _ _; exact a9e94fc6 kk.out)))) : P := h ⟨k⟩
theorem trap6eg8 {P Q : Prop} (k : Q) (h : Hold Q → P := by (intro kk; (first | (guard_target = wpList _ _ _ (Oper.mk _ (.store _ _ _) _ _ _ _ :: _) _ _; exact a181aa22 kk.out) | (guard_target = wpTreeC _ _ _ (Tr.e _ Tr.nil) _ _ _; exact a181f754 kk.out) | (guard_target = wpTreeC _ _ _ (Tr.e _ _) _ _ _; exact a447b417 kk.out)))) : P := h ⟨k⟩
theorem trap6er1 {P Q : Prop} (k : Q) (h : Hold Q → InR 31 1 (.q 0 (.q 1 (.q 2 (.e 3 (.q 4 (.e 5 .nil)))))) P := by exact aRC) : P := h ⟨k⟩
theorem trap6er2 {P Q : Prop} (k : Q) (h : Hold Q → InR 32 3 (.q 0 (.q 1 (.q 2 (.q 3 (.q 5 (.q 6 (.e 4 (.e 7 (.q 8 (.e 9 .nil)))))))))) P := by exact aRC) : P := h ⟨k⟩
set_option maxRecDepth 100000 in
set_option maxHeartbeats 16000000 in
theorem put_e {B : Nat} {w0 w : World} {l : List Res} {bx ks ke cn cp dn dp b5 b11 nn mm : Nat} {N : List Nd} {P : List Pc} {id ax ay sx sy tp bt lx ly rx ry on : Int} {hl hr gn : Bool} {ub db b18 : Nat} {la : Bool} {k0 i0 px py qa qb : Int} {c2 c3 c4 c6 c7 c8 c9 c10 c12 c14 c15 c16 c17 c19 c20 c21 c22 c23 c24 c25 c26 c27 c28 c29 c30 c31 c32 c33 c34 c35 c36 c37 c38 c39 c40 c41 c42 c43 c44 c45 c46 c47 c48 c49 c50 c51 c52 c53 c54 c55 c56 c57 c58 c59 c60 c61 c62 c63 c64 c65 c66 c67 c68 c69 c70 c71 c72 c73 c74 c75 c76 c77 c78 c79 c80 c81 c82 c83 c84 c85 c86 c87 c88 c89 c90 c91 c92 c93 c94 c95 c96 c97 c98 c99 c100 c101 c102 c103 c104 c105 c106 c107 c108 c109 c110 c111 c112 c113 c114 c115 c116 c117 c118 c119 c120 c121 c122 c123 c124 c125 c126 c127 c128 c129 c130 c131 c132 c133 c134 c135 c136 c137 c138 c139 c140 c141 c142 c143 c144 c145 c146 c147 c148 c149 c150 c151 c152 c153 c154 c155 c156 c157 c158 c159 c160 c161 c162 c163 c164 c165 c166 c167 c168 c169 c170 c171 c172 c173 c174 c175 c176 c177 c178 c179 c180 c181 c182 c183 c184 c185 c186 c187 c188 c189 c190 c191 c192 c193 c194 c195 c196 c197 c198 c199 c200 c201 c202 c203 c204 c205 c206 c207 c208 c209 c210 c211 c212 c213 c214 c215 c216 c217 c218 c219 c220 c221 c222 c223 c224 c225 c226 c227 c228 c229 c230 c231 c232 c233 c234 c235 c236 c237 c238 c239 c240 c241 c242 c243 c244 c245 c246 c247 c248 c249 c250 c251 c252 c253 c254 c255 c256 c257 c258 c259 c260 c261 c262 c263 c264 c265 : Value} {K K2 : Act → World → Prop} {Q : Exit → Act → World → Prop} (hnl : nn ≤ 999990) (hml : mm ≤ 999990) (hnn : nn = N.length) (hmm : mm = P.length)
  (hQ : ∀ {c a d v w}, Q (Exit.panic c) (Act.put a d v) w → Q (Exit.panic c) a w) (hK : ∀ a w, Code.wp Tryz.prog (pCd 211) (Exit.then K2 Q) a w → K a w)
  (hR : ∀ (y19 y197 y198 y199 y200 y201 y202 y203 y204 y205 y206 y207 y208 y209 y210 y211 y212 y213 y214 y215 y216 y217 y218 y219 y220 y221 y222 y223 y224 y225 y226 : Value) (w' : World) (Y : PSt × Nd) (dn dp cn cp : Nat), Y = endS (la && (!hr || lessB ⟨sx, sy⟩ ⟨rx, ry⟩)) ⟨tp, bt, true, hr, ⟨sx, sy⟩, ⟨rx, ry⟩⟩ ⟨sx, sy⟩ (⟨N, P, ub, db⟩, ⟨k0, i0, ⟨px, py⟩, qa, qb⟩) → Own B w0 w' (.cells b18 (nd6 Y.2) :: .cells b11 [.int .i64 tp, .int .i64 bt, .bool hl, .bool hr, .int .i64 lx, .int .i64 ly, .int .i64 rx, .int .i64 ry, .int .i64 on, .bool gn] :: xB bx ks ke Y.1.N.length Y.1.P.length cn cp dn dp :: nG dn Y.1.N.length cn Y.1.N :: pG dp Y.1.P.length cp Y.1.P :: .cells b5 [.int .i64 ax, .int .i64 ay, .int .i64 sx, .int .i64 sy] :: l) → K2 ⟨#[.pointer (some ⟨bx, 0, none⟩), .int .i64 id, c2, c3, c4, .pointer (some ⟨b5, 0, none⟩), c6, c7, c8, c9, c10, .pointer (some ⟨b11, 0, none⟩), c12, .bool la, c14, c15, c16, c17, .pointer (some ⟨b18, 0, none⟩), y19, c20, c21, c22, c23, c24, c25, c26, c27, c28, c29, c30, c31, c32, c33, c34, c35, c36, c37, c38, c39, c40, c41, c42, c43, c44, c45, c46, c47, c48, c49, c50, c51, c52, c53, c54, c55, c56, c57, c58, c59, c60, c61, c62, c63, c64, c65, c66, c67, c68, c69, c70, c71, c72, c73, c74, c75, c76, c77, c78, c79, c80, c81, c82, c83, c84, c85, c86, c87, c88, c89, c90, c91, c92, c93, c94, c95, c96, c97, c98, c99, c100, c101, c102, c103, c104, c105, c106, c107, c108, c109, c110, c111, c112, c113, c114, c115, c116, c117, c118, c119, c120, c121, c122, c123, c124, c125, c126, c127, c128, c129, c130, c131, c132, c133, c134, c135, c136, c137, c138, c139, c140, c141, c142, c143, c144, c145, c146, c147, c148, c149, c150, c151, c152, c153, c154, c155, c156, c157, c158, c159, c160, c161, c162, c163, c164, c165, c166, c167, c168, c169, c170, c171, c172, c173, c174, c175, c176, c177, c178, c179, c180, c181, c182, c183, c184, c185, c186, c187, c188, c189, c190, c191, c192, c193, c194, c195, c196, y197, y198, y199, y200, y201, y202, y203, y204, y205, y206, y207, y208, y209, y210, y211, y212, y213, y214, y215, y216, y217, y218, y219, y220, y221, y222, y223, y224, y225, y226, c227, c228, c229, c230, c231, c232, c233, c234, c235, c236, c237, c238, c239, c240, c241, c242, c243, c244, c245, c246, c247, c248, c249, c250, c251, c252, c253, c254, c255, c256, c257, c258, c259, c260, c261, c262, c263, c264, c265], []⟩ w')
  (H : Own B w0 w (.cells b18 [.int .i64 k0, .int .i64 i0, .int .i64 px, .int .i64 py, .int .i64 qa, .int .i64 qb] :: .cells b11 [.int .i64 tp, .int .i64 bt, .bool hl, .bool hr, .int .i64 lx, .int .i64 ly, .int .i64 rx, .int .i64 ry, .int .i64 on, .bool gn] :: xB bx ks ke nn mm cn cp dn dp :: nG dn nn cn N :: pG dp mm cp P :: .cells b5 [.int .i64 ax, .int .i64 ay, .int .i64 sx, .int .i64 sy] :: l)) :
  Code.wp Tryz.prog (pRg 29) (Exit.then K Q) ⟨#[.pointer (some ⟨bx, 0, none⟩), .int .i64 id, c2, c3, c4, .pointer (some ⟨b5, 0, none⟩), c6, c7, c8, c9, c10, .pointer (some ⟨b11, 0, none⟩), c12, .bool la, c14, c15, c16, c17, .pointer (some ⟨b18, 0, none⟩), c19, c20, c21, c22, c23, c24, c25, c26, c27, c28, c29, c30, c31, c32, c33, c34, c35, c36, c37, c38, c39, c40, c41, c42, c43, c44, c45, c46, c47, c48, c49, c50, c51, c52, c53, c54, c55, c56, c57, c58, c59, c60, c61, c62, c63, c64, c65, c66, c67, c68, c69, c70, c71, c72, c73, c74, c75, c76, c77, c78, c79, c80, c81, c82, c83, c84, c85, c86, c87, c88, c89, c90, c91, c92, c93, c94, c95, c96, c97, c98, c99, c100, c101, c102, c103, c104, c105, c106, c107, c108, c109, c110, c111, c112, c113, c114, c115, c116, c117, c118, c119, c120, c121, c122, c123, c124, c125, c126, c127, c128, c129, c130, c131, c132, c133, c134, c135, c136, c137, c138, c139, c140, c141, c142, c143, c144, c145, c146, c147, c148, c149, c150, c151, c152, c153, c154, c155, c156, c157, c158, c159, c160, c161, c162, c163, c164, c165, c166, c167, c168, c169, c170, c171, c172, c173, c174, c175, c176, c177, c178, c179, c180, c181, c182, c183, c184, c185, c186, c187, c188, c189, c190, c191, c192, c193, c194, c195, c196, c197, c198, c199, c200, c201, c202, c203, c204, c205, c206, c207, c208, c209, c210, c211, c212, c213, c214, c215, c216, c217, c218, c219, c220, c221, c222, c223, c224, c225, c226, c227, c228, c229, c230, c231, c232, c233, c234, c235, c236, c237, c238, c239, c240, c241, c242, c243, c244, c245, c246, c247, c248, c249, c250, c251, c252, c253, c254, c255, c256, c257, c258, c259, c260, c261, c262, c263, c264, c265], []⟩ w := by
 conv => arg 2; whnf
 obtain ⟨v1, hv1⟩ : ∃ v, lessB ⟨sx, sy⟩ ⟨rx, ry⟩ = v := ⟨_, rfl⟩
 have hT := fun w => geomLess_any sx sy rx ry w
 rw [hv1] at hT
 have HV := Lib.hid hv1
 have HR := Lib.hid hR
 have HN := Lib.hid hnn
 have HM := Lib.hid hmm
 clear hR hnn hmm hv1
 simp only [xB, nG, pG] at H
 cases la
 ·go_wp2_with (go_big_skip)
  conv => arg 2; whnf
  go_wp2_with (first | fail)
  obtain rfl := HN.out
  obtain rfl := HM.out
  exact HR.out _ _ _ _ _ _ _ _ _ _ _ _ _ _ _ _ _ _ _ _ _ _ _ _ _ _ _ _ _ _ _ _ (⟨N, P, ub, db⟩, ⟨k0, i0, ⟨px, py⟩, qa, qb⟩) _ _ _ _ (by rfl) H
 ·cases hr
  ·go_wp2_with (first
    | go_big_skip
    | (guard_target = wpList _ _ _ (_ :: _) _ _; (refine trap6eg2 ?_)))
   conv => arg 2; whnf
   have tk0 : True := trivial
   go_wp2_with (first
    | (go_at_call 42; replace H:Own _ _ _ (Res.grow 75 _ _ _ _ :: _) := aF; replace H:Own _ _ _ (Res.cells bx _ :: _) := aF; (with_reducible refine (ask_any ⟨k0, i0, ⟨px, py⟩, qa, qb⟩ (by omega) H).mono ?_); rintro e w3 ⟨e1, c7, rfl, H2⟩; replace H := H2; clear H2; dsimp only; (refine a8c34bfe ?_; clear hK K))
    | (go_at_call 41; replace H:Own _ _ _ (Res.grow 80 _ _ _ _ :: _) := aF; replace H:Own _ _ _ (Res.grow 75 _ _ _ _ :: _) := aF; replace H:Own _ _ _ (Res.cells bx _ :: _) := aF; (with_reducible refine (leafOf_any ⟨tp, bt, true, false, ⟨sx, sy⟩, ⟨rx, ry⟩⟩ (by omega) (by omega) H).mono ?_); rintro e w3 ⟨e2, e3, c8, c9, rfl, H2⟩; replace H := H2; clear H2; dsimp only; (refine a8c34bfe ?_; clear hK K))
    | (guard_target = Code.wp _ (Code.region 31 _ true) _ _ _; replace H:Own _ _ _ (Res.cells b9 _ :: _) := aF; refine trap6er1 ?_; clear H; (try clear w2); intro w2 H)
    | (guard_target = Code.wp _ (Code.region 32 _ true) _ _ _; replace H:Own _ _ _ (Res.grow 80 _ _ _ _ :: _) := aF; replace H:Own _ _ _ (Res.grow 75 _ _ _ _ :: _) := aF; replace H:Own _ _ _ (Res.cells bx _ :: _) := aF; refine trap6er2 ?_; clear H; (try clear w2); intro w2 H)
    | ((first | guard_target = wpList _ _ _ (_ :: _) _ _ | guard_target = wpTreeC _ _ _ _ _ _ _); (first | (refine trap6eg5 ?_) | (refine trap6eg8 ?_; clear H; (try clear w2); intro w2 H) | (refine aeebfb80 ?_; intro b2; clear H; (try clear w2); intro w2 H; (clear tk0; rename Nat => b9)) | (guard_target = wpTreeC _ _ _ Tr.nil _ _ _; refine treeC_nil H ?_; clear H; (try clear w2); intro w2 H) | (refine abe83802 ?_; clear H; (try clear w2); intro w2 H; intro K hK))))
   replace H:Own _ _ _ (Res.grow 80 _ _ _ _ :: _) := aF
   replace H:Own _ _ _ (Res.grow 75 _ _ _ _ :: _) := aF
   replace H:Own _ _ _ (Res.cells bx _ :: _) := aF
   replace H:Own _ _ _ (Res.cells b11 _ :: _) := aF
   replace H:Own _ _ _ (Res.cells b18 _ :: _) := aF
   obtain rfl := HN.out
   obtain rfl := HM.out
   have g1 : (N ++ [(⟨k0, i0, ⟨px, py⟩, qa, qb⟩ : Nd)] ++ [lfN P.length]).length = N.length + 1 + 1 := by simp
   have g2 : (P ++ [(⟨⟨tp, bt, true, false, ⟨sx, sy⟩, ⟨rx, ry⟩⟩, (N.length + 1 : Nat), false⟩ : Pc)]).length = P.length + 1 := by simp
   refine HR.out _ _ _ _ _ _ _ _ _ _ _ _ _ _ _ _ _ _ _ _ _ _ _ _ _ _ _ _ _ _ _ _ (⟨N ++ [(⟨k0, i0, ⟨px, py⟩, qa, qb⟩ : Nd)] ++ [lfN P.length], P ++ [⟨⟨tp, bt, true, false, ⟨sx, sy⟩, ⟨rx, ry⟩⟩, (N.length + 1 : Nat), false⟩], ub, db⟩, ⟨1, 0, ⟨sx, sy⟩, (N.length : Int), (N.length + 1 : Nat)⟩) e2 e3 c8 c9 (by rfl) ?_
   dsimp only
   rw [g1, g2]
   have gc : ((N.length + 1 : Nat) : Int) = (N.length : Int) + 1 := rfl
   simp only [gc, List.append_assoc, List.cons_append, List.nil_append, lfN, nd6, xB, nG, pG]
   exact (aW H)
  ·cases v1
   ·go_wp2_with (first
     | (go_at_call 25; (with_reducible refine (hT _).mono ?_); rintro e w3 ⟨rfl, hb⟩; replace H := H.ext hb; clear hb; dsimp only)
     | (guard_target = wpList _ _ _ (_ :: _) _ _; (refine trap6eg2 ?_)))
    conv => arg 2; whnf
    go_wp2_with (first | fail)
    obtain rfl := HN.out
    obtain rfl := HM.out
    exact HR.out _ _ _ _ _ _ _ _ _ _ _ _ _ _ _ _ _ _ _ _ _ _ _ _ _ _ _ _ _ _ _ _ (⟨N, P, ub, db⟩, ⟨k0, i0, ⟨px, py⟩, qa, qb⟩) _ _ _ _ (by rw [HV.out]; rfl) H
   ·go_wp2_with (first
     | (go_at_call 25; (with_reducible refine (hT _).mono ?_); rintro e w3 ⟨rfl, hb⟩; replace H := H.ext hb; clear hb; dsimp only)
     | (guard_target = wpList _ _ _ (_ :: _) _ _; (refine trap6eg2 ?_)))
    conv => arg 2; whnf
    have tk0 : True := trivial
    go_wp2_with (first
     | (go_at_call 42; replace H:Own _ _ _ (Res.grow 75 _ _ _ _ :: _) := aF; replace H:Own _ _ _ (Res.cells bx _ :: _) := aF; (with_reducible refine (ask_any ⟨k0, i0, ⟨px, py⟩, qa, qb⟩ (by omega) H).mono ?_); rintro e w3 ⟨e1, c7, rfl, H2⟩; replace H := H2; clear H2; dsimp only; (refine a8c34bfe ?_; clear hK K))
     | (go_at_call 41; replace H:Own _ _ _ (Res.grow 80 _ _ _ _ :: _) := aF; replace H:Own _ _ _ (Res.grow 75 _ _ _ _ :: _) := aF; replace H:Own _ _ _ (Res.cells bx _ :: _) := aF; (with_reducible refine (leafOf_any ⟨tp, bt, true, true, ⟨sx, sy⟩, ⟨rx, ry⟩⟩ (by omega) (by omega) H).mono ?_); rintro e w3 ⟨e2, e3, c8, c9, rfl, H2⟩; replace H := H2; clear H2; dsimp only; (refine a8c34bfe ?_; clear hK K))
     | (guard_target = Code.wp _ (Code.region 31 _ true) _ _ _; replace H:Own _ _ _ (Res.cells b9 _ :: _) := aF; refine trap6er1 ?_; clear H; (try clear w2); intro w2 H)
     | (guard_target = Code.wp _ (Code.region 32 _ true) _ _ _; replace H:Own _ _ _ (Res.grow 80 _ _ _ _ :: _) := aF; replace H:Own _ _ _ (Res.grow 75 _ _ _ _ :: _) := aF; replace H:Own _ _ _ (Res.cells bx _ :: _) := aF; refine trap6er2 ?_; clear H; (try clear w2); intro w2 H)
     | ((first | guard_target = wpList _ _ _ (_ :: _) _ _ | guard_target = wpTreeC _ _ _ _ _ _ _); (first | (refine trap6eg5 ?_) | (refine trap6eg8 ?_; clear H; (try clear w2); intro w2 H) | (refine aeebfb80 ?_; intro b2; clear H; (try clear w2); intro w2 H; (clear tk0; rename Nat => b9)) | (guard_target = wpTreeC _ _ _ Tr.nil _ _ _; refine treeC_nil H ?_; clear H; (try clear w2); intro w2 H) | (refine abe83802 ?_; clear H; (try clear w2); intro w2 H; intro K hK))))
    replace H:Own _ _ _ (Res.grow 80 _ _ _ _ :: _) := aF
    replace H:Own _ _ _ (Res.grow 75 _ _ _ _ :: _) := aF
    replace H:Own _ _ _ (Res.cells bx _ :: _) := aF
    replace H:Own _ _ _ (Res.cells b11 _ :: _) := aF
    replace H:Own _ _ _ (Res.cells b18 _ :: _) := aF
    obtain rfl := HN.out
    obtain rfl := HM.out
    have g1 : (N ++ [(⟨k0, i0, ⟨px, py⟩, qa, qb⟩ : Nd)] ++ [lfN P.length]).length = N.length + 1 + 1 := by simp
    have g2 : (P ++ [(⟨⟨tp, bt, true, true, ⟨sx, sy⟩, ⟨rx, ry⟩⟩, (N.length + 1 : Nat), false⟩ : Pc)]).length = P.length + 1 := by simp
    refine HR.out _ _ _ _ _ _ _ _ _ _ _ _ _ _ _ _ _ _ _ _ _ _ _ _ _ _ _ _ _ _ _ _ (⟨N ++ [(⟨k0, i0, ⟨px, py⟩, qa, qb⟩ : Nd)] ++ [lfN P.length], P ++ [⟨⟨tp, bt, true, true, ⟨sx, sy⟩, ⟨rx, ry⟩⟩, (N.length + 1 : Nat), false⟩], ub, db⟩, ⟨1, 0, ⟨sx, sy⟩, (N.length : Int), (N.length + 1 : Nat)⟩) e2 e3 c8 c9 (by rw [HV.out]; rfl) ?_
    dsimp only
    rw [g1, g2]
    have gc : ((N.length + 1 : Nat) : Int) = (N.length : Int) + 1 := rfl
    simp only [gc, List.append_assoc, List.cons_append, List.nil_append, lfN, nd6, xB, nG, pG]
    exact (aW H)
theorem trap6fx1 {P Q : Prop} (k : Q) (h : Hold Q → P := by (intro kk; guard_target = wpList _ _ _ (Oper.mk _ (.load _ _) _ _ _ _ :: _) _ _; (with_reducible refine BigFrame.wpList_want ?_ (fun K hK => ?_)); exact rfl; (first | (refine o_loadSa (t0 := ?_) (t1 := ?_) (t2 := ?_) (t3 := ?_) rfl rfl H ?_ ?_ ?_ (hK _ _ ?_); rotate_left 4; (repeat first | exact .head _ | apply List.Mem.tail); (focus (intro _; simp; done)); (focus (intro _; simp; done))) | (refine o_loadPl (t0 := ?_) (t1 := ?_) (t2 := ?_) (t3 := ?_) (t4 := ?_) (t5 := ?_) (t6 := ?_) (t7 := ?_) (t8 := ?_) (t9 := ?_) rfl rfl H ?_ ?_ ?_ (hK _ _ ?_); rotate_left 10; (repeat first | exact .head _ | apply List.Mem.tail); (focus (intro _; simp; done)); (focus (intro _; simp; done)))); clear hK K; simp only [Act.put, List.setIfInBounds_toArray, List.set_cons_succ, List.set_cons_zero]; exact kk.out)) : P := h ⟨k⟩
theorem trap6fg2 {P Q : Prop} (k : Q) (h : Hold Q → P := by (intro kk; (first | (guard_target = wpList _ _ _ (Oper.mk _ (.load _ _) _ _ _ _ :: _) _ _; exact trap6fx1 kk.out) | (guard_target = wpList _ _ _ (Oper.mk _ (.load _ _) _ _ _ _ :: _) _ _; exact a15dc6b3 kk.out)))) : P := h ⟨k⟩
theorem trap6fx3 {P Q : Prop} (k : Q) (h : Hold Q → P := by (intro kk; guard_target = wpList _ _ _ (Oper.mk _ (.load _ _) _ _ _ _ :: _) _ _; (with_reducible refine BigFrame.wpList_want ?_ (fun K hK => ?_)); exact rfl; (refine o_loadPz (t0 := ?_) (t1 := ?_) (t2 := ?_) (t3 := ?_) (t4 := ?_) (t5 := ?_) (t6 := ?_) (t7 := ?_) (t8 := ?_) (t9 := ?_) rfl rfl H ?_ ?_ ?_ (hK _ _ ?_); rotate_left 10; (repeat first | exact .head _ | apply List.Mem.tail); (focus (intro _; simp; done)); (focus (intro _; simp; done))); clear hK K; simp only [Act.put, List.setIfInBounds_toArray, List.set_cons_succ, List.set_cons_zero]; exact kk.out)) : P := h ⟨k⟩
theorem trap6fx4 {P Q : Prop} (k : Q) (h : Hold Q → P := by (intro kk; guard_target = wpTreeC _ _ _ (Tr.q _ _) _ _ _; (with_reducible refine treeC_quiet (o := ?_) (aK H) ?_ ?_ ?_ (fun K hK => ?_)); rotate_left 1; exact rfl; exact rfl; exact rfl; simp only [List.getElem_toArray, List.getElem_cons_succ, List.getElem_cons_zero]; (guard_target = Oper.quiet _ (Oper.mk _ (.load _ _) _ _ _ _) _ _ _; (refine q_loadSa (t0 := ?_) (t1 := ?_) (t2 := ?_) (t3 := ?_) rfl rfl ?_ ?_ ?_ (hK _ ?_); rotate_left 4; (repeat first | exact .head _ | apply List.Mem.tail); (focus (intro _; simp; done)); (focus (intro _; simp; done))); clear hK K; simp only [Act.put, List.setIfInBounds_toArray, List.set_cons_succ, List.set_cons_zero]); exact kk.out)) : P := h ⟨k⟩
theorem trap6fg5 {P Q : Prop} (k : Q) (h : Hold Q → P := by (intro kk; (first | (guard_target = wpList _ _ _ (Oper.mk _ (.load _ _) _ _ _ _ :: _) _ _; exact trap6fx3 kk.out) | (guard_target = wpTreeC _ _ _ (Tr.q _ _) _ _ _; exact trap6fx4 kk.out) | (guard_target = wpTreeC _ _ _ (Tr.q _ _) _ _ _; exact a9e94fc6 kk.out)))) : P := h ⟨k⟩
theorem trap6fg8 {P Q : Prop} (k : Q) (h : Hold Q → P := by (intro kk; (first | (guard_target = wpList _ _ _ (Oper.mk _ (.store _ _ _) _ _ _ _ :: _) _ _; exact a181aa22 kk.out) | (guard_target = wpTreeC _ _ _ (Tr.e _ Tr.nil) _ _ _; exact a181f754 kk.out) | (guard_target = wpTreeC _ _ _ (Tr.e _ _) _ _ _; exact a447b417 kk.out)))) : P := h ⟨k⟩
theorem trap6fr1 {P Q : Prop} (k : Q) (h : Hold Q → InR 35 1 (.q 0 (.q 1 (.q 2 (.e 3 (.q 4 (.e 5 .nil)))))) P := by exact aRC) : P := h ⟨k⟩
theorem trap6fr2 {P Q : Prop} (k : Q) (h : Hold Q → InR 36 3 (.q 0 (.q 1 (.q 2 (.q 3 (.q 5 (.q 6 (.e 4 (.e 7 (.q 8 (.e 9 .nil)))))))))) P := by exact aRC) : P := h ⟨k⟩
set_option maxRecDepth 100000 in
set_option maxHeartbeats 16000000 in
theorem put_b {B : Nat} {w0 w : World} {l : List Res} {bx ks ke cn cp dn dp b5 b11 nn mm : Nat} {N : List Nd} {P : List Pc} {id ax ay sx sy tp bt lx ly rx ry on : Int} {hl hr gn : Bool} {ub db b18 : Nat} {f : Bool} {k0 i0 px py qa qb : Int} {c2 c3 c4 c6 c7 c8 c9 c10 c13 c14 c15 c16 c17 c19 c20 c21 c22 c23 c24 c25 c26 c27 c28 c29 c30 c31 c32 c33 c34 c35 c36 c37 c38 c39 c40 c41 c42 c43 c44 c45 c46 c47 c48 c49 c50 c51 c52 c53 c54 c55 c56 c57 c58 c59 c60 c61 c62 c63 c64 c65 c66 c67 c68 c69 c70 c71 c72 c73 c74 c75 c76 c77 c78 c79 c80 c81 c82 c83 c84 c85 c86 c87 c88 c89 c90 c91 c92 c93 c94 c95 c96 c97 c98 c99 c100 c101 c102 c103 c104 c105 c106 c107 c108 c109 c110 c111 c112 c113 c114 c115 c116 c117 c118 c119 c120 c121 c122 c123 c124 c125 c126 c127 c128 c129 c130 c131 c132 c133 c134 c135 c136 c137 c138 c139 c140 c141 c142 c143 c144 c145 c146 c147 c148 c149 c150 c151 c152 c153 c154 c155 c156 c157 c158 c159 c160 c161 c162 c163 c164 c165 c166 c167 c168 c169 c170 c171 c172 c173 c174 c175 c176 c177 c178 c179 c180 c181 c182 c183 c184 c185 c186 c187 c188 c189 c190 c191 c192 c193 c194 c195 c196 c197 c198 c199 c200 c201 c202 c203 c204 c205 c206 c207 c208 c209 c210 c211 c212 c213 c214 c215 c216 c217 c218 c219 c220 c221 c222 c223 c224 c225 c226 c227 c228 c229 c230 c231 c232 c233 c234 c235 c236 c237 c238 c239 c240 c241 c242 c243 c244 c245 c246 c247 c248 c249 c250 c251 c252 c253 c254 c255 c256 c257 c258 c259 c260 c261 c262 c263 c264 c265 : Value} {K K2 : Act → World → Prop} {Q : Exit → Act → World → Prop} (hnl : nn ≤ 999990) (hml : mm ≤ 999990) (hnn : nn = N.length) (hmm : mm = P.length)
  (hQ : ∀ {c a d v w}, Q (Exit.panic c) (Act.put a d v) w → Q (Exit.panic c) a w) (hK : ∀ a w, Code.wp Tryz.prog (pCd 241) (Exit.then K2 Q) a w → K a w)
  (hR : ∀ (y20 y227 y228 y229 y230 y231 y232 y233 y234 y235 y236 y237 y238 y239 y240 y241 y242 y243 y244 y245 y246 y247 y248 y249 y250 y251 y252 y253 y254 y255 y256 : Value) (w' : World) (Y : PSt × Nd) (dn dp cn cp : Nat), Y = begS (f && (!hl || lessB ⟨lx, ly⟩ ⟨ax, ay⟩)) ⟨tp, bt, hl, true, ⟨lx, ly⟩, ⟨ax, ay⟩⟩ ⟨ax, ay⟩ (⟨N, P, ub, db⟩, ⟨k0, i0, ⟨px, py⟩, qa, qb⟩) → Own B w0 w' (.cells b18 (nd6 Y.2) :: .cells b11 [.int .i64 tp, .int .i64 bt, .bool hl, .bool hr, .int .i64 lx, .int .i64 ly, .int .i64 rx, .int .i64 ry, .int .i64 on, .bool gn] :: xB bx ks ke Y.1.N.length Y.1.P.length cn cp dn dp :: nG dn Y.1.N.length cn Y.1.N :: pG dp Y.1.P.length cp Y.1.P :: .cells b5 [.int .i64 ax, .int .i64 ay, .int .i64 sx, .int .i64 sy] :: l) → K2 ⟨#[.pointer (some ⟨bx, 0, none⟩), .int .i64 id, c2, c3, c4, .pointer (some ⟨b5, 0, none⟩), c6, c7, c8, c9, c10, .pointer (some ⟨b11, 0, none⟩), .bool f, c13, c14, c15, c16, c17, .pointer (some ⟨b18, 0, none⟩), c19, y20, c21, c22, c23, c24, c25, c26, c27, c28, c29, c30, c31, c32, c33, c34, c35, c36, c37, c38, c39, c40, c41, c42, c43, c44, c45, c46, c47, c48, c49, c50, c51, c52, c53, c54, c55, c56, c57, c58, c59, c60, c61, c62, c63, c64, c65, c66, c67, c68, c69, c70, c71, c72, c73, c74, c75, c76, c77, c78, c79, c80, c81, c82, c83, c84, c85, c86, c87, c88, c89, c90, c91, c92, c93, c94, c95, c96, c97, c98, c99, c100, c101, c102, c103, c104, c105, c106, c107, c108, c109, c110, c111, c112, c113, c114, c115, c116, c117, c118, c119, c120, c121, c122, c123, c124, c125, c126, c127, c128, c129, c130, c131, c132, c133, c134, c135, c136, c137, c138, c139, c140, c141, c142, c143, c144, c145, c146, c147, c148, c149, c150, c151, c152, c153, c154, c155, c156, c157, c158, c159, c160, c161, c162, c163, c164, c165, c166, c167, c168, c169, c170, c171, c172, c173, c174, c175, c176, c177, c178, c179, c180, c181, c182, c183, c184, c185, c186, c187, c188, c189, c190, c191, c192, c193, c194, c195, c196, c197, c198, c199, c200, c201, c202, c203, c204, c205, c206, c207, c208, c209, c210, c211, c212, c213, c214, c215, c216, c217, c218, c219, c220, c221, c222, c223, c224, c225, c226, y227, y228, y229, y230, y231, y232, y233, y234, y235, y236, y237, y238, y239, y240, y241, y242, y243, y244, y245, y246, y247, y248, y249, y250, y251, y252, y253, y254, y255, y256, c257, c258, c259, c260, c261, c262, c263, c264, c265], []⟩ w')
  (H : Own B w0 w (.cells b18 [.int .i64 k0, .int .i64 i0, .int .i64 px, .int .i64 py, .int .i64 qa, .int .i64 qb] :: .cells b11 [.int .i64 tp, .int .i64 bt, .bool hl, .bool hr, .int .i64 lx, .int .i64 ly, .int .i64 rx, .int .i64 ry, .int .i64 on, .bool gn] :: xB bx ks ke nn mm cn cp dn dp :: nG dn nn cn N :: pG dp mm cp P :: .cells b5 [.int .i64 ax, .int .i64 ay, .int .i64 sx, .int .i64 sy] :: l)) :
  Code.wp Tryz.prog (pRg 33) (Exit.then K Q) ⟨#[.pointer (some ⟨bx, 0, none⟩), .int .i64 id, c2, c3, c4, .pointer (some ⟨b5, 0, none⟩), c6, c7, c8, c9, c10, .pointer (some ⟨b11, 0, none⟩), .bool f, c13, c14, c15, c16, c17, .pointer (some ⟨b18, 0, none⟩), c19, c20, c21, c22, c23, c24, c25, c26, c27, c28, c29, c30, c31, c32, c33, c34, c35, c36, c37, c38, c39, c40, c41, c42, c43, c44, c45, c46, c47, c48, c49, c50, c51, c52, c53, c54, c55, c56, c57, c58, c59, c60, c61, c62, c63, c64, c65, c66, c67, c68, c69, c70, c71, c72, c73, c74, c75, c76, c77, c78, c79, c80, c81, c82, c83, c84, c85, c86, c87, c88, c89, c90, c91, c92, c93, c94, c95, c96, c97, c98, c99, c100, c101, c102, c103, c104, c105, c106, c107, c108, c109, c110, c111, c112, c113, c114, c115, c116, c117, c118, c119, c120, c121, c122, c123, c124, c125, c126, c127, c128, c129, c130, c131, c132, c133, c134, c135, c136, c137, c138, c139, c140, c141, c142, c143, c144, c145, c146, c147, c148, c149, c150, c151, c152, c153, c154, c155, c156, c157, c158, c159, c160, c161, c162, c163, c164, c165, c166, c167, c168, c169, c170, c171, c172, c173, c174, c175, c176, c177, c178, c179, c180, c181, c182, c183, c184, c185, c186, c187, c188, c189, c190, c191, c192, c193, c194, c195, c196, c197, c198, c199, c200, c201, c202, c203, c204, c205, c206, c207, c208, c209, c210, c211, c212, c213, c214, c215, c216, c217, c218, c219, c220, c221, c222, c223, c224, c225, c226, c227, c228, c229, c230, c231, c232, c233, c234, c235, c236, c237, c238, c239, c240, c241, c242, c243, c244, c245, c246, c247, c248, c249, c250, c251, c252, c253, c254, c255, c256, c257, c258, c259, c260, c261, c262, c263, c264, c265], []⟩ w := by
 conv => arg 2; whnf
 obtain ⟨v1, hv1⟩ : ∃ v, lessB ⟨lx, ly⟩ ⟨ax, ay⟩ = v := ⟨_, rfl⟩
 have hT := fun w => geomLess_any lx ly ax ay w
 rw [hv1] at hT
 have HV := Lib.hid hv1
 have HR := Lib.hid hR
 have HN := Lib.hid hnn
 have HM := Lib.hid hmm
 clear hR hnn hmm hv1
 simp only [xB, nG, pG] at H
 cases f
 ·go_wp2_with (go_big_skip)
  conv => arg 2; whnf
  go_wp2_with (first | fail)
  obtain rfl := HN.out
  obtain rfl := HM.out
  exact HR.out _ _ _ _ _ _ _ _ _ _ _ _ _ _ _ _ _ _ _ _ _ _ _ _ _ _ _ _ _ _ _ _ (⟨N, P, ub, db⟩, ⟨k0, i0, ⟨px, py⟩, qa, qb⟩) _ _ _ _ (by rfl) H
 ·cases hl
  ·go_wp2_with (first
    | go_big_skip
    | (guard_target = wpList _ _ _ (_ :: _) _ _; (refine trap6fg2 ?_)))
   conv => arg 2; whnf
   have tk0 : True := trivial
   go_wp2_with (first
    | (go_at_call 42; replace H:Own _ _ _ (Res.grow 75 _ _ _ _ :: _) := aF; replace H:Own _ _ _ (Res.cells bx _ :: _) := aF; (with_reducible refine (ask_any ⟨k0, i0, ⟨px, py⟩, qa, qb⟩ (by omega) H).mono ?_); rintro e w3 ⟨e1, c7, rfl, H2⟩; replace H := H2; clear H2; dsimp only; (refine a8c34bfe ?_; clear hK K))
    | (go_at_call 41; replace H:Own _ _ _ (Res.grow 80 _ _ _ _ :: _) := aF; replace H:Own _ _ _ (Res.grow 75 _ _ _ _ :: _) := aF; replace H:Own _ _ _ (Res.cells bx _ :: _) := aF; (with_reducible refine (leafOf_any ⟨tp, bt, false, true, ⟨lx, ly⟩, ⟨ax, ay⟩⟩ (by omega) (by omega) H).mono ?_); rintro e w3 ⟨e2, e3, c8, c9, rfl, H2⟩; replace H := H2; clear H2; dsimp only; (refine a8c34bfe ?_; clear hK K))
    | (guard_target = Code.wp _ (Code.region 35 _ true) _ _ _; replace H:Own _ _ _ (Res.cells b9 _ :: _) := aF; refine trap6fr1 ?_; clear H; (try clear w2); intro w2 H)
    | (guard_target = Code.wp _ (Code.region 36 _ true) _ _ _; replace H:Own _ _ _ (Res.grow 80 _ _ _ _ :: _) := aF; replace H:Own _ _ _ (Res.grow 75 _ _ _ _ :: _) := aF; replace H:Own _ _ _ (Res.cells bx _ :: _) := aF; refine trap6fr2 ?_; clear H; (try clear w2); intro w2 H)
    | ((first | guard_target = wpList _ _ _ (_ :: _) _ _ | guard_target = wpTreeC _ _ _ _ _ _ _); (first | (refine trap6fg5 ?_) | (refine trap6fg8 ?_; clear H; (try clear w2); intro w2 H) | (refine aeebfb80 ?_; intro b2; clear H; (try clear w2); intro w2 H; (clear tk0; rename Nat => b9)) | (guard_target = wpTreeC _ _ _ Tr.nil _ _ _; refine treeC_nil H ?_; clear H; (try clear w2); intro w2 H) | (refine abe83802 ?_; clear H; (try clear w2); intro w2 H; intro K hK))))
   replace H:Own _ _ _ (Res.grow 80 _ _ _ _ :: _) := aF
   replace H:Own _ _ _ (Res.grow 75 _ _ _ _ :: _) := aF
   replace H:Own _ _ _ (Res.cells bx _ :: _) := aF
   replace H:Own _ _ _ (Res.cells b11 _ :: _) := aF
   replace H:Own _ _ _ (Res.cells b18 _ :: _) := aF
   obtain rfl := HN.out
   obtain rfl := HM.out
   have g1 : (N ++ [lfN P.length] ++ [(⟨k0, i0, ⟨px, py⟩, qa, qb⟩ : Nd)]).length = N.length + 1 + 1 := by simp
   have g2 : (P ++ [(⟨⟨tp, bt, false, true, ⟨lx, ly⟩, ⟨ax, ay⟩⟩, (N.length : Int), false⟩ : Pc)]).length = P.length + 1 := by simp
   refine HR.out _ _ _ _ _ _ _ _ _ _ _ _ _ _ _ _ _ _ _ _ _ _ _ _ _ _ _ _ _ _ _ _ (⟨N ++ [lfN P.length] ++ [(⟨k0, i0, ⟨px, py⟩, qa, qb⟩ : Nd)], P ++ [⟨⟨tp, bt, false, true, ⟨lx, ly⟩, ⟨ax, ay⟩⟩, (N.length : Int), false⟩], ub, db⟩, ⟨1, 0, ⟨ax, ay⟩, (N.length : Int), (N.length + 1 : Nat)⟩) e1 e3 c7 c9 (by rfl) ?_
   dsimp only
   rw [g1, g2]
   have gc : ((N.length + 1 : Nat) : Int) = (N.length : Int) + 1 := rfl
   simp only [gc, List.append_assoc, List.cons_append, List.nil_append, lfN, nd6, xB, nG, pG]
   exact (aW H)
  ·cases v1
   ·go_wp2_with (first
     | (go_at_call 25; (with_reducible refine (hT _).mono ?_); rintro e w3 ⟨rfl, hb⟩; replace H := H.ext hb; clear hb; dsimp only)
     | (guard_target = wpList _ _ _ (_ :: _) _ _; (refine trap6fg2 ?_)))
    conv => arg 2; whnf
    go_wp2_with (first | fail)
    obtain rfl := HN.out
    obtain rfl := HM.out
    exact HR.out _ _ _ _ _ _ _ _ _ _ _ _ _ _ _ _ _ _ _ _ _ _ _ _ _ _ _ _ _ _ _ _ (⟨N, P, ub, db⟩, ⟨k0, i0, ⟨px, py⟩, qa, qb⟩) _ _ _ _ (by rw [HV.out]; rfl) H
   ·go_wp2_with (first
     | (go_at_call 25; (with_reducible refine (hT _).mono ?_); rintro e w3 ⟨rfl, hb⟩; replace H := H.ext hb; clear hb; dsimp only)
     | (guard_target = wpList _ _ _ (_ :: _) _ _; (refine trap6fg2 ?_)))
    conv => arg 2; whnf
    have tk0 : True := trivial
    go_wp2_with (first
     | (go_at_call 42; replace H:Own _ _ _ (Res.grow 75 _ _ _ _ :: _) := aF; replace H:Own _ _ _ (Res.cells bx _ :: _) := aF; (with_reducible refine (ask_any ⟨k0, i0, ⟨px, py⟩, qa, qb⟩ (by omega) H).mono ?_); rintro e w3 ⟨e1, c7, rfl, H2⟩; replace H := H2; clear H2; dsimp only; (refine a8c34bfe ?_; clear hK K))
     | (go_at_call 41; replace H:Own _ _ _ (Res.grow 80 _ _ _ _ :: _) := aF; replace H:Own _ _ _ (Res.grow 75 _ _ _ _ :: _) := aF; replace H:Own _ _ _ (Res.cells bx _ :: _) := aF; (with_reducible refine (leafOf_any ⟨tp, bt, true, true, ⟨lx, ly⟩, ⟨ax, ay⟩⟩ (by omega) (by omega) H).mono ?_); rintro e w3 ⟨e2, e3, c8, c9, rfl, H2⟩; replace H := H2; clear H2; dsimp only; (refine a8c34bfe ?_; clear hK K))
     | (guard_target = Code.wp _ (Code.region 35 _ true) _ _ _; replace H:Own _ _ _ (Res.cells b9 _ :: _) := aF; refine trap6fr1 ?_; clear H; (try clear w2); intro w2 H)
     | (guard_target = Code.wp _ (Code.region 36 _ true) _ _ _; replace H:Own _ _ _ (Res.grow 80 _ _ _ _ :: _) := aF; replace H:Own _ _ _ (Res.grow 75 _ _ _ _ :: _) := aF; replace H:Own _ _ _ (Res.cells bx _ :: _) := aF; refine trap6fr2 ?_; clear H; (try clear w2); intro w2 H)
     | ((first | guard_target = wpList _ _ _ (_ :: _) _ _ | guard_target = wpTreeC _ _ _ _ _ _ _); (first | (refine trap6fg5 ?_) | (refine trap6fg8 ?_; clear H; (try clear w2); intro w2 H) | (refine aeebfb80 ?_; intro b2; clear H; (try clear w2); intro w2 H; (clear tk0; rename Nat => b9)) | (guard_target = wpTreeC _ _ _ Tr.nil _ _ _; refine treeC_nil H ?_; clear H; (try clear w2); intro w2 H) | (refine abe83802 ?_; clear H; (try clear w2); intro w2 H; intro K hK))))
    replace H:Own _ _ _ (Res.grow 80 _ _ _ _ :: _) := aF
    replace H:Own _ _ _ (Res.grow 75 _ _ _ _ :: _) := aF
    replace H:Own _ _ _ (Res.cells bx _ :: _) := aF
    replace H:Own _ _ _ (Res.cells b11 _ :: _) := aF
    replace H:Own _ _ _ (Res.cells b18 _ :: _) := aF
    obtain rfl := HN.out
    obtain rfl := HM.out
    have g1 : (N ++ [lfN P.length] ++ [(⟨k0, i0, ⟨px, py⟩, qa, qb⟩ : Nd)]).length = N.length + 1 + 1 := by simp
    have g2 : (P ++ [(⟨⟨tp, bt, true, true, ⟨lx, ly⟩, ⟨ax, ay⟩⟩, (N.length : Int), false⟩ : Pc)]).length = P.length + 1 := by simp
    refine HR.out _ _ _ _ _ _ _ _ _ _ _ _ _ _ _ _ _ _ _ _ _ _ _ _ _ _ _ _ _ _ _ _ (⟨N ++ [lfN P.length] ++ [(⟨k0, i0, ⟨px, py⟩, qa, qb⟩ : Nd)], P ++ [⟨⟨tp, bt, true, true, ⟨lx, ly⟩, ⟨ax, ay⟩⟩, (N.length : Int), false⟩], ub, db⟩, ⟨1, 0, ⟨ax, ay⟩, (N.length : Int), (N.length + 1 : Nat)⟩) e1 e3 c7 c9 (by rw [HV.out]; rfl) ?_
    dsimp only
    rw [g1, g2]
    have gc : ((N.length + 1 : Nat) : Int) = (N.length : Int) + 1 := rfl
    simp only [gc, List.append_assoc, List.cons_append, List.nil_append, lfN, nd6, xB, nG, pG]
    exact (aW H)
end Go.Proofs.YtlhmjhildlnokaaGreat
