/-
  A part of put: the right of the leaf above and of the one below.
-/
import Derived.Test.YtlhmjhildlnokaaGreatMfa190596
import Derived.Test.YtlhmjhildlnokaaGreatMd6b25c4b
namespace Go.Proofs.YtlhmjhildlnokaaGreat
set_option linter.unusedVariables false
set_option linter.unusedSimpArgs false
open Go.RowKit Go.Sort Go.Shelf
def rgOf (n : Nat) : Code → Option Code
 | .region m a b => if m = n then some (.region m a b) else none
 | .seq a b => match rgOf n a with | some c => some c | none => rgOf n b
 | .loop c => rgOf n c
 | .block _ c => rgOf n c
 | .scope c => rgOf n c
 | .cond _ a b => match rgOf n a with | some c => some c | none => rgOf n b
 | _ => none
def cdOf (n : Nat) : Code → Option Code
 | .seq a b => match cdOf n a with | some c => some c | none => cdOf n b
 | .loop c => cdOf n c
 | .block _ c => cdOf n c
 | .scope c => cdOf n c
 | .cond (.tmp m) a b => if m = n then some (.cond (.tmp m) a b) else (match cdOf n a with | some c => some c | none => cdOf n b)
 | _ => none
def blOf (n : Nat) : Code → Option Code
 | .seq a b => match blOf n a with | some c => some c | none => blOf n b
 | .loop c => blOf n c
 | .block m c => if m = n then some (.block m c) else blOf n c
 | .scope c => blOf n c
 | .cond _ a b => match blOf n a with | some c => some c | none => blOf n b
 | _ => none
noncomputable def pBl (n : Nat) : Code := (Tryz.f16.body.bind (blOf n)).getD .skip
noncomputable def pRg (n : Nat) : Code := (Tryz.f16.body.bind (rgOf n)).getD .skip
noncomputable def pCd (n : Nat) : Code := (Tryz.f16.body.bind (cdOf n)).getD .skip
theorem setR_at {P : List Pc} {i : Nat} {p : Pc} (h : P[i]? = some p) (r : Pt) : (((pR P).set (i * 10 + 3) (.bool true)).set (i * 10 + 6) (.int .i64 r.x)).set (i * 10 + 6 + 1) (.int .i64 r.y) = pR (setR P i r) := by
 have hi := (List.getElem?_eq_some_iff.1 h).1
 have e1 := flatN_set (f := pc10) (k := 10) (fun _ => rfl) (d := 3) (vs := [.bool true]) (a := p) (a' := { p with t := { p.t with hr := true } }) (by simp) rfl P i h
 have e2 := flatN_set (f := pc10) (k := 10) (fun _ => rfl) (d := 6) (vs := [.int .i64 r.x, .int .i64 r.y]) (a := { p with t := { p.t with hr := true } }) (a' := { p with t := { p.t with hr := true, r := r } }) (by simp) rfl (P.set i { p with t := { p.t with hr := true } }) i (by simp [hi])
 simp only [setL] at e1 e2
 unfold pR setR
 rw [h]
 simp only
 rw [e1, e2, List.set_set]
theorem nd_id_at {N : List Nd} {i b k c : Nat} {q : Nd} (h : N[i]? = some q) : (Res.grow 75 6 (.slice (some ⟨b, 0, none⟩) k c) k (nR N)).at b (i * 6 + 1) [.int .i64 q.id] := at_grow (by
 have := flatN_sub (f := nd6) (k := 6) (fun _ => rfl) h 1 1 (by omega)
 unfold nR; exact this)
section
variable {Pg : Program} {o : Oper} {a : Act} {w w0 : World} {B : Nat} {l : List Res} {Q : Exit → Act → World → Prop} {ty : TypeId} {x y : Operand} {b : Nat} {t0 t1 t2 t3 t4 t5 t6 t7 t8 t9 : Value}
theorem o_loadPz {K : Act → World → Prop} (ho : o.op = .load ty x) (hx : a.eval x = .pointer (some ⟨b, 0, none⟩)) (H : Own B w0 w l) (hm : Res.cells b [t0, t1, t2, t3, t4, t5, t6, t7, t8, t9] ∈ l)
  (ha : ∀ w, (isAgg ty).run Pg w = .ok true w) (hs : ∀ w, (sizeOf ty).run Pg w = .ok 8 w) (hk : K (a.put o.dst (.agg #[t0, t1, t2, t3, t4, t5, t6, t7])) w) : o.wp Pg a w K Q := o_loadN (r := .cells b [t0, t1, t2, t3, t4, t5, t6, t7, t8, t9]) (cs := [t0, t1, t2, t3, t4, t5, t6, t7]) ho hx H ⟨rfl, rfl⟩ hm ha hs hk
end
theorem pc_set {P : List Pc} {i d : Nat} {p p' : Pc} {vs : List Value} (h : P[i]? = some p) (hd : d + vs.length ≤ 10) (hv : setL (pc10 p) d vs = pc10 p') : setL (pR P) (i * 10 + d) vs = pR (P.set i p') := flatN_set (f := pc10) (k := 10) (fun _ => rfl) hd hv P i h
theorem trap6ax1 {P Q : Prop} (k : Q) (h : Hold Q → P := by (intro kk; guard_target = wpList _ _ _ (Oper.mk _ (.load _ _) _ _ _ _ :: _) _ _; (with_reducible refine BigFrame.wpList_want ?_ (fun K hK => ?_)); exact rfl; (first | (refine o_loadSa (t0 := ?_) (t1 := ?_) (t2 := ?_) (t3 := ?_) rfl rfl H ?_ ?_ ?_ (hK _ _ ?_); rotate_left 4; (repeat first | exact .head _ | apply List.Mem.tail); (focus (intro _; simp; done)); (focus (intro _; simp; done))) | (refine o_loadSb (t0 := ?_) (t1 := ?_) (t2 := ?_) (t3 := ?_) rfl rfl H ?_ ?_ ?_ (hK _ _ ?_); rotate_left 4; (repeat first | exact .head _ | apply List.Mem.tail); (focus (intro _; simp; done)); (focus (intro _; simp; done))) | (refine o_loadPl (t0 := ?_) (t1 := ?_) (t2 := ?_) (t3 := ?_) (t4 := ?_) (t5 := ?_) (t6 := ?_) (t7 := ?_) (t8 := ?_) (t9 := ?_) rfl rfl H ?_ ?_ ?_ (hK _ _ ?_); rotate_left 10; (repeat first | exact .head _ | apply List.Mem.tail); (focus (intro _; simp; done)); (focus (intro _; simp; done)))); clear hK K; simp only [Act.put, List.setIfInBounds_toArray, List.set_cons_succ, List.set_cons_zero]; exact kk.out)) : P := h ⟨k⟩
theorem trap6ag2 {P Q : Prop} (k : Q) (h : Hold Q → P := by (intro kk; (first | (guard_target = wpList _ _ _ (Oper.mk _ (.load _ _) _ _ _ _ :: _) _ _; exact trap6ax1 kk.out) | (guard_target = wpList _ _ _ (Oper.mk _ (.load _ _) _ _ _ _ :: _) _ _; exact a15dc6b3 kk.out)))) : P := h ⟨k⟩
theorem trap6ax3 {P Q : Prop} (k : Q) (h : Hold Q → P := by (intro kk; guard_target = wpTreeC _ _ _ (Tr.q _ _) _ _ _; (with_reducible refine treeC_quiet (o := ?_) (aK H) ?_ ?_ ?_ (fun K hK => ?_)); rotate_left 1; exact rfl; exact rfl; exact rfl; simp only [List.getElem_toArray, List.getElem_cons_succ, List.getElem_cons_zero]; (guard_target = Oper.quiet _ (Oper.mk _ (.load _ _) _ _ _ _) _ _ _; (refine q_loadPl (t0 := ?_) (t1 := ?_) (t2 := ?_) (t3 := ?_) (t4 := ?_) (t5 := ?_) (t6 := ?_) (t7 := ?_) (t8 := ?_) (t9 := ?_) rfl rfl ?_ ?_ ?_ (hK _ ?_); rotate_left 10; (repeat first | exact .head _ | apply List.Mem.tail); (focus (intro _; simp; done)); (focus (intro _; simp; done))); clear hK K; simp only [Act.put, List.setIfInBounds_toArray, List.set_cons_succ, List.set_cons_zero]); exact kk.out)) : P := h ⟨k⟩
theorem trap6ag4 {P Q : Prop} (k : Q) (h : Hold Q → P := by (intro kk; (first | (guard_target = wpList _ _ _ (Oper.mk _ (.load _ _) _ _ _ _ :: _) _ _; exact trap6ax1 kk.out) | (guard_target = wpList _ _ _ (Oper.mk _ (.load _ _) _ _ _ _ :: _) _ _; exact a15dc6b3 kk.out) | (guard_target = wpTreeC _ _ _ (Tr.q _ _) _ _ _; exact trap6ax3 kk.out) | (guard_target = wpTreeC _ _ _ (Tr.q _ _) _ _ _; exact a9e94fc6 kk.out) | (guard_target = wpTreeC _ _ _ (Tr.q _ _) _ _ _; exact a78e8504 kk.out)))) : P := h ⟨k⟩
theorem trap6ax8 {P Q : Prop} (k : Q) (h : Hold Q → P := by (intro kk; guard_target = wpTreeC _ _ _ (Tr.e _ _) _ _ _; (with_reducible refine treeC_one (o := ?_) H ?_ ?_ (fun w3 H2 K hK => ?_)); rotate_left 1; exact rfl; exact rfl; simp only [List.getElem_toArray, List.getElem_cons_succ, List.getElem_cons_zero]; guard_target = Oper.wp _ (Oper.mk _ (.store _ _ _) _ _ _ _) _ _ _ _; (refine o_storeG (e := ?_) (size := ?_) (n := ?_) (cap := ?_) (xs := ?_) (l' := ?_) rfl rfl H2 rfl ?_ ?_ ?_ ?_ (fun w4 H3 => hK _ _ (aM H3 ?_) ?_); rotate_left 6; (exact r0); (focus (intro _; simp [Act.eval, Value.cells]; done)); (focus ((try simp [Act.eval, Value.cells]); omega)); (exact rfl); (guard_target = Suf _ _; repeat first | exact .here | apply Suf.there); clear hK K; simp [Act.eval, Value.cells, setL, List.getD] at H3); simp only [Act.put, List.setIfInBounds_toArray, List.set_cons_succ, List.set_cons_zero]; revert H3; revert w4; exact kk.out)) : P := h ⟨k⟩
theorem trap6ag10 {P Q : Prop} (k : Q) (h : Hold Q → P := by (intro kk; (guard_target = wpTreeC _ _ _ (Tr.e _ _) _ _ _; exact trap6ax8 kk.out))) : P := h ⟨k⟩
theorem trap6ar1 {P Q : Prop} (k : Q) (h : Hold Q → InR 13 1 (.q 0 (.q 1 (.q 2 (.q 3 (.q 4 (.q 5 (.q 6 (.q 7 (.q 8 (.q 9 (.q 10 (.q 11 (.q 12 (.q 13 (.q 14 (.q 15 (.q 16 (.q 17 (.e 18 .nil))))))))))))))))))) P := by exact aRC) : P := h ⟨k⟩
set_option maxRecDepth 100000 in
set_option maxHeartbeats 16000000 in
theorem put_u {B : Nat} {w0 w : World} {l : List Res} {bx ks ke cn cp dn dp b5 b11 nn mm : Nat} {N : List Nd} {P : List Pc} {id ax ay sx sy tp bt lx ly rx ry on : Int} {hl hr gn : Bool} {ub db : Nat} {f : Bool} {tu : Int} {v7 v8 c2 c3 c4 c6 c9 c10 c13 c14 c15 c16 c17 c18 c19 c20 c21 c22 c23 c24 c25 c26 c27 c28 c29 c30 c31 c32 c33 c34 c35 c36 c37 c38 c39 c40 c41 c42 c43 c44 c45 c46 c47 c48 c49 c50 c51 c52 c53 c54 c55 c56 c57 c58 c59 c60 c61 c62 c63 c64 c65 c66 c67 c68 c69 c70 c71 c72 c73 c74 c75 c76 c77 c78 c79 c80 c81 c82 c83 c84 c85 c86 c87 c88 c89 c90 c91 c92 c93 c94 c95 c96 c97 c98 c99 c100 c101 c102 c103 c104 c105 c106 c107 c108 c109 c110 c111 c112 c113 c114 c115 c116 c117 c118 c119 c120 c121 c122 c123 c124 c125 c126 c127 c128 c129 c130 c131 c132 c133 c134 c135 c136 c137 c138 c139 c140 c141 c142 c143 c144 c145 c146 c147 c148 c149 c150 c151 c152 c153 c154 c155 c156 c157 c158 c159 c160 c161 c162 c163 c164 c165 c166 c167 c168 c169 c170 c171 c172 c173 c174 c175 c176 c177 c178 c179 c180 c181 c182 c183 c184 c185 c186 c187 c188 c189 c190 c191 c192 c193 c194 c195 c196 c197 c198 c199 c200 c201 c202 c203 c204 c205 c206 c207 c208 c209 c210 c211 c212 c213 c214 c215 c216 c217 c218 c219 c220 c221 c222 c223 c224 c225 c226 c227 c228 c229 c230 c231 c232 c233 c234 c235 c236 c237 c238 c239 c240 c241 c242 c243 c244 c245 c246 c247 c248 c249 c250 c251 c252 c253 c254 c255 c256 c257 c258 c259 c260 c261 c262 c263 c264 c265 : Value} {K K2 : Act → World → Prop} {Q : Exit → Act → World → Prop} (htu : turnB ⟨ax, ay⟩ ⟨sx, sy⟩ ⟨lx, ly⟩ = tu) (hu : f = false → v7 = .int .i64 (ub : Int)) (hnl : nn ≤ 1000000) (hml : mm ≤ 1000000) (hnn : nn = N.length) (hmm : mm = P.length)
  (hQ : ∀ {c a d v w}, Q (Exit.panic c) (Act.put a d v) w → Q (Exit.panic c) a w) (hK : ∀ a w, Code.wp Tryz.prog (pCd 78) (Exit.then K2 Q) a w → K a w)
  (hR : ∀ (y67 y68 y69 y70 y71 y72 y73 y74 y75 y76 y77 y78 y79 y80 y81 y82 y83 y84 y85 y86 y87 y88 y89 y90 y91 y92 y93 y94 y95 y96 y97 y98 y99 y100 y101 y102 y103 y104 y105 y106 y107 : Value) (w' : World) (Y : PSt) (dn dp cn cp : Nat), Y = upS (f || decide (0 < tu)) ⟨tp, id, true, false, if f then ⟨ax, ay⟩ else ⟨lx, ly⟩, ⟨0, 0⟩⟩ ⟨N, P, ub, db⟩ → Own B w0 w' (.cells b11 [.int .i64 tp, .int .i64 bt, .bool hl, .bool hr, .int .i64 lx, .int .i64 ly, .int .i64 rx, .int .i64 ry, .int .i64 on, .bool gn] :: xB bx ks ke Y.N.length Y.P.length cn cp dn dp :: nG dn Y.N.length cn Y.N :: pG dp Y.P.length cp Y.P :: .cells b5 [.int .i64 ax, .int .i64 ay, .int .i64 sx, .int .i64 sy] :: l) → K2 ⟨#[.pointer (some ⟨bx, 0, none⟩), .int .i64 id, c2, c3, c4, .pointer (some ⟨b5, 0, none⟩), c6, .int .i64 (Y.u : Int), v8, c9, c10, .pointer (some ⟨b11, 0, none⟩), .bool f, c13, c14, c15, c16, c17, c18, c19, c20, c21, c22, c23, c24, c25, c26, c27, c28, c29, c30, c31, c32, c33, c34, c35, c36, c37, c38, c39, c40, c41, c42, c43, c44, c45, c46, c47, c48, c49, c50, c51, c52, c53, c54, c55, c56, c57, c58, c59, c60, c61, c62, c63, c64, c65, c66, y67, y68, y69, y70, y71, y72, y73, y74, y75, y76, y77, y78, y79, y80, y81, y82, y83, y84, y85, y86, y87, y88, y89, y90, y91, y92, y93, y94, y95, y96, y97, y98, y99, y100, y101, y102, y103, y104, y105, y106, y107, c108, c109, c110, c111, c112, c113, c114, c115, c116, c117, c118, c119, c120, c121, c122, c123, c124, c125, c126, c127, c128, c129, c130, c131, c132, c133, c134, c135, c136, c137, c138, c139, c140, c141, c142, c143, c144, c145, c146, c147, c148, c149, c150, c151, c152, c153, c154, c155, c156, c157, c158, c159, c160, c161, c162, c163, c164, c165, c166, c167, c168, c169, c170, c171, c172, c173, c174, c175, c176, c177, c178, c179, c180, c181, c182, c183, c184, c185, c186, c187, c188, c189, c190, c191, c192, c193, c194, c195, c196, c197, c198, c199, c200, c201, c202, c203, c204, c205, c206, c207, c208, c209, c210, c211, c212, c213, c214, c215, c216, c217, c218, c219, c220, c221, c222, c223, c224, c225, c226, c227, c228, c229, c230, c231, c232, c233, c234, c235, c236, c237, c238, c239, c240, c241, c242, c243, c244, c245, c246, c247, c248, c249, c250, c251, c252, c253, c254, c255, c256, c257, c258, c259, c260, c261, c262, c263, c264, c265], []⟩ w')
  (H : Own B w0 w (.cells b11 [.int .i64 tp, .int .i64 bt, .bool hl, .bool hr, .int .i64 lx, .int .i64 ly, .int .i64 rx, .int .i64 ry, .int .i64 on, .bool gn] :: xB bx ks ke nn mm cn cp dn dp :: nG dn nn cn N :: pG dp mm cp P :: .cells b5 [.int .i64 ax, .int .i64 ay, .int .i64 sx, .int .i64 sy] :: l)) :
  Code.wp Tryz.prog (pRg 10) (Exit.then K Q) ⟨#[.pointer (some ⟨bx, 0, none⟩), .int .i64 id, c2, c3, c4, .pointer (some ⟨b5, 0, none⟩), c6, v7, v8, c9, c10, .pointer (some ⟨b11, 0, none⟩), .bool f, c13, c14, c15, c16, c17, c18, c19, c20, c21, c22, c23, c24, c25, c26, c27, c28, c29, c30, c31, c32, c33, c34, c35, c36, c37, c38, c39, c40, c41, c42, c43, c44, c45, c46, c47, c48, c49, c50, c51, c52, c53, c54, c55, c56, c57, c58, c59, c60, c61, c62, c63, c64, c65, c66, c67, c68, c69, c70, c71, c72, c73, c74, c75, c76, c77, c78, c79, c80, c81, c82, c83, c84, c85, c86, c87, c88, c89, c90, c91, c92, c93, c94, c95, c96, c97, c98, c99, c100, c101, c102, c103, c104, c105, c106, c107, c108, c109, c110, c111, c112, c113, c114, c115, c116, c117, c118, c119, c120, c121, c122, c123, c124, c125, c126, c127, c128, c129, c130, c131, c132, c133, c134, c135, c136, c137, c138, c139, c140, c141, c142, c143, c144, c145, c146, c147, c148, c149, c150, c151, c152, c153, c154, c155, c156, c157, c158, c159, c160, c161, c162, c163, c164, c165, c166, c167, c168, c169, c170, c171, c172, c173, c174, c175, c176, c177, c178, c179, c180, c181, c182, c183, c184, c185, c186, c187, c188, c189, c190, c191, c192, c193, c194, c195, c196, c197, c198, c199, c200, c201, c202, c203, c204, c205, c206, c207, c208, c209, c210, c211, c212, c213, c214, c215, c216, c217, c218, c219, c220, c221, c222, c223, c224, c225, c226, c227, c228, c229, c230, c231, c232, c233, c234, c235, c236, c237, c238, c239, c240, c241, c242, c243, c244, c245, c246, c247, c248, c249, c250, c251, c252, c253, c254, c255, c256, c257, c258, c259, c260, c261, c262, c263, c264, c265], []⟩ w := by
 conv => arg 2; whnf
 have hT := fun w => geomTurn_any ax ay sx sy lx ly w
 rw [htu] at hT
 have HR := Lib.hid hR
 have HN := Lib.hid hnn
 have HM := Lib.hid hmm
 have HU := Lib.hid hu
 clear hR hnn hmm hu htu
 simp only [xB, nG, pG] at H
 cases f
 ·obtain ⟨v1, hv1⟩ : ∃ v, decide (0 < tu) = v := ⟨_, rfl⟩
  cases v1
  ·go_wp2_with (first
    | (go_at_call 26; (with_reducible refine (hT _).mono ?_); rintro e w3 ⟨rfl, hb⟩; replace H := H.ext hb; clear hb; dsimp only)
    | (guard_target = wpList _ _ _ (_ :: _) _ _; (refine trap6ag2 ?_)))
   conv => arg 2; whnf
   go_wp2_with (first | fail)
   have h7 := HU.out (by simp)
   subst h7
   obtain rfl := HN.out
   obtain rfl := HM.out
   exact HR.out _ _ _ _ _ _ _ _ _ _ _ _ _ _ _ _ _ _ _ _ _ _ _ _ _ _ _ _ _ _ _ _ _ _ _ _ _ _ _ _ _ _ ⟨N, P, ub, db⟩ _ _ _ _ (by rw [hv1]; rfl) H
  ·go_wp2_with (first
    | (go_at_call 26; (with_reducible refine (hT _).mono ?_); rintro e w3 ⟨rfl, hb⟩; replace H := H.ext hb; clear hb; dsimp only)
    | (guard_target = wpList _ _ _ (_ :: _) _ _; (refine trap6ag2 ?_)))
   conv => arg 2; whnf
   go_wp2_with (first
    | (go_at_call 41; replace H:Own _ _ _ (Res.grow 80 _ _ _ _ :: _) := aF; replace H:Own _ _ _ (Res.grow 75 _ _ _ _ :: _) := aF; replace H:Own _ _ _ (Res.cells bx _ :: _) := aF; (with_reducible refine (leafOf_any ⟨tp, id, true, false, ⟨ax, ay⟩, ⟨0, 0⟩⟩ (by omega) (by omega) H).mono ?_); rintro e w3 ⟨e1, e2, c7, c8, rfl, H2⟩; replace H := H2; clear H2; have hq1 := nd_id_at (b := e1) (c := c7) (k := nn + 1) (N := (N ++ [(⟨0, (mm:Int), ⟨0, 0⟩, 0, 0⟩:Nd)])) (i := nn) (q := ⟨0, (mm:Int), ⟨0, 0⟩, 0, 0⟩) (by rw [HN.out]; simp); have hfit:mm * 10 + 4 + 2 ≤ (pR (P ++ [(⟨⟨tp, id, true, false, ⟨ax, ay⟩, ⟨0, 0⟩⟩, (nn:Int), false⟩:Pc)])).length := (by rw [pR_len, List.length_append, ← HM.out]; simp; omega); dsimp only; (skip))
    | (guard_target = Code.wp _ (Code.region 13 _ true) _ _ _; replace H:Own _ _ _ (Res.grow 80 _ _ _ _ :: _) := aF; refine trap6ar1 ?_; clear H; (try clear w2); intro w2 H)
    | ((first | guard_target = wpList _ _ _ (_ :: _) _ _ | guard_target = wpTreeC _ _ _ _ _ _ _); (first | (refine trap6ag4 ?_) | (refine trap6ag10 ?_; clear H; (try clear w2); intro w2 H) | (guard_target = wpTreeC _ _ _ Tr.nil _ _ _; refine treeC_nil H ?_; clear H; (try clear w2); intro w2 H))))
   have hset := pc_set (P := P ++ [(⟨⟨tp, id, true, false, ⟨ax, ay⟩, ⟨0, 0⟩⟩, (nn : Int), false⟩ : Pc)]) (i := mm) (d := 4) (vs := [.int .i64 lx, .int .i64 ly]) (p := ⟨⟨tp, id, true, false, ⟨ax, ay⟩, ⟨0, 0⟩⟩, (nn : Int), false⟩) (p' := ⟨⟨tp, id, true, false, ⟨lx, ly⟩, ⟨0, 0⟩⟩, (nn : Int), false⟩) (by rw [HM.out]; simp) (by simp) rfl
   simp only [setL] at hset
   rw [hset] at H
   have hs2 : (P ++ [(⟨⟨tp, id, true, false, ⟨ax, ay⟩, ⟨0, 0⟩⟩, (nn : Int), false⟩ : Pc)]).set mm ⟨⟨tp, id, true, false, ⟨lx, ly⟩, ⟨0, 0⟩⟩, (nn : Int), false⟩ = P ++ [⟨⟨tp, id, true, false, ⟨lx, ly⟩, ⟨0, 0⟩⟩, (nn : Int), false⟩] := by rw [HM.out]; simp
   rw [hs2] at H
   clear hset hs2
   replace H:Own _ _ _ (Res.grow 80 _ _ _ _ :: _) := aF
   replace H:Own _ _ _ (Res.grow 75 _ _ _ _ :: _) := aF
   replace H:Own _ _ _ (Res.cells bx _ :: _) := aF
   replace H:Own _ _ _ (Res.cells b11 _ :: _) := aF
   obtain rfl := HN.out
   obtain rfl := HM.out
   have g1 : (N ++ [lfN P.length]).length = N.length + 1 := by simp
   have g2 : (P ++ [(⟨⟨tp, id, true, false, ⟨lx, ly⟩, ⟨0, 0⟩⟩, (N.length : Int), false⟩ : Pc)]).length = P.length + 1 := by simp
   refine HR.out _ _ _ _ _ _ _ _ _ _ _ _ _ _ _ _ _ _ _ _ _ _ _ _ _ _ _ _ _ _ _ _ _ _ _ _ _ _ _ _ _ _ ⟨N ++ [lfN P.length], P ++ [⟨⟨tp, id, true, false, ⟨lx, ly⟩, ⟨0, 0⟩⟩, (N.length : Int), false⟩], N.length, db⟩ e1 e2 c7 c8 (by rw [hv1]; rfl) ?_
   dsimp only
   rw [g1, g2]
   exact (aW H)
 ·go_wp2_with (go_big_skip)
  conv => arg 2; whnf
  go_wp2_with (first
   | (go_at_call 41; replace H:Own _ _ _ (Res.grow 80 _ _ _ _ :: _) := aF; replace H:Own _ _ _ (Res.grow 75 _ _ _ _ :: _) := aF; replace H:Own _ _ _ (Res.cells bx _ :: _) := aF; (with_reducible refine (leafOf_any ⟨tp, id, true, false, ⟨ax, ay⟩, ⟨0, 0⟩⟩ (by omega) (by omega) H).mono ?_); rintro e w3 ⟨e1, e2, c7, c8, rfl, H2⟩; replace H := H2; clear H2; dsimp only)
   | (guard_target = wpList _ _ _ (_ :: _) _ _; (refine trap6ag2 ?_)))
  replace H:Own _ _ _ (Res.grow 80 _ _ _ _ :: _) := aF
  replace H:Own _ _ _ (Res.grow 75 _ _ _ _ :: _) := aF
  replace H:Own _ _ _ (Res.cells bx _ :: _) := aF
  replace H:Own _ _ _ (Res.cells b11 _ :: _) := aF
  obtain rfl := HN.out
  obtain rfl := HM.out
  have g1 : (N ++ [lfN P.length]).length = N.length + 1 := by simp
  have g2 : (P ++ [(⟨⟨tp, id, true, false, ⟨ax, ay⟩, ⟨0, 0⟩⟩, (N.length : Int), false⟩ : Pc)]).length = P.length + 1 := by simp
  refine HR.out _ _ _ _ _ _ _ _ _ _ _ _ _ _ _ _ _ _ _ _ _ _ _ _ _ _ _ _ _ _ _ _ _ _ _ _ _ _ _ _ _ _ ⟨N ++ [lfN P.length], P ++ [⟨⟨tp, id, true, false, ⟨ax, ay⟩, ⟨0, 0⟩⟩, (N.length : Int), false⟩], N.length, db⟩ e1 e2 c7 c8 rfl ?_
  dsimp only
  rw [g1, g2]
  exact (aW H)
theorem trap6bx1 {P Q : Prop} (k : Q) (h : Hold Q → P := by (intro kk; guard_target = wpList _ _ _ (Oper.mk _ (.load _ _) _ _ _ _ :: _) _ _; (with_reducible refine BigFrame.wpList_want ?_ (fun K hK => ?_)); exact rfl; (first | (refine o_loadSa (t0 := ?_) (t1 := ?_) (t2 := ?_) (t3 := ?_) rfl rfl H ?_ ?_ ?_ (hK _ _ ?_); rotate_left 4; (repeat first | exact .head _ | apply List.Mem.tail); (focus (intro _; simp; done)); (focus (intro _; simp; done))) | (refine o_loadSb (t0 := ?_) (t1 := ?_) (t2 := ?_) (t3 := ?_) rfl rfl H ?_ ?_ ?_ (hK _ _ ?_); rotate_left 4; (repeat first | exact .head _ | apply List.Mem.tail); (focus (intro _; simp; done)); (focus (intro _; simp; done))) | (refine o_loadPl (t0 := ?_) (t1 := ?_) (t2 := ?_) (t3 := ?_) (t4 := ?_) (t5 := ?_) (t6 := ?_) (t7 := ?_) (t8 := ?_) (t9 := ?_) rfl rfl H ?_ ?_ ?_ (hK _ _ ?_); rotate_left 10; (repeat first | exact .head _ | apply List.Mem.tail); (focus (intro _; simp; done)); (focus (intro _; simp; done)))); clear hK K; simp only [Act.put, List.setIfInBounds_toArray, List.set_cons_succ, List.set_cons_zero]; exact kk.out)) : P := h ⟨k⟩
theorem trap6bg2 {P Q : Prop} (k : Q) (h : Hold Q → P := by (intro kk; (first | (guard_target = wpList _ _ _ (Oper.mk _ (.load _ _) _ _ _ _ :: _) _ _; exact trap6bx1 kk.out) | (guard_target = wpList _ _ _ (Oper.mk _ (.load _ _) _ _ _ _ :: _) _ _; exact a15dc6b3 kk.out)))) : P := h ⟨k⟩
theorem trap6bx3 {P Q : Prop} (k : Q) (h : Hold Q → P := by (intro kk; guard_target = wpTreeC _ _ _ (Tr.q _ _) _ _ _; (with_reducible refine treeC_quiet (o := ?_) (aK H) ?_ ?_ ?_ (fun K hK => ?_)); rotate_left 1; exact rfl; exact rfl; exact rfl; simp only [List.getElem_toArray, List.getElem_cons_succ, List.getElem_cons_zero]; (guard_target = Oper.quiet _ (Oper.mk _ (.load _ _) _ _ _ _) _ _ _; (refine q_loadPl (t0 := ?_) (t1 := ?_) (t2 := ?_) (t3 := ?_) (t4 := ?_) (t5 := ?_) (t6 := ?_) (t7 := ?_) (t8 := ?_) (t9 := ?_) rfl rfl ?_ ?_ ?_ (hK _ ?_); rotate_left 10; (repeat first | exact .head _ | apply List.Mem.tail); (focus (intro _; simp; done)); (focus (intro _; simp; done))); clear hK K; simp only [Act.put, List.setIfInBounds_toArray, List.set_cons_succ, List.set_cons_zero]); exact kk.out)) : P := h ⟨k⟩
theorem trap6bg4 {P Q : Prop} (k : Q) (h : Hold Q → P := by (intro kk; (first | (guard_target = wpList _ _ _ (Oper.mk _ (.load _ _) _ _ _ _ :: _) _ _; exact trap6bx1 kk.out) | (guard_target = wpList _ _ _ (Oper.mk _ (.load _ _) _ _ _ _ :: _) _ _; exact a15dc6b3 kk.out) | (guard_target = wpTreeC _ _ _ (Tr.q _ _) _ _ _; exact trap6bx3 kk.out) | (guard_target = wpTreeC _ _ _ (Tr.q _ _) _ _ _; exact a9e94fc6 kk.out) | (guard_target = wpTreeC _ _ _ (Tr.q _ _) _ _ _; exact a78e8504 kk.out)))) : P := h ⟨k⟩
theorem trap6bx8 {P Q : Prop} (k : Q) (h : Hold Q → P := by (intro kk; guard_target = wpTreeC _ _ _ (Tr.e _ _) _ _ _; (with_reducible refine treeC_one (o := ?_) H ?_ ?_ (fun w3 H2 K hK => ?_)); rotate_left 1; exact rfl; exact rfl; simp only [List.getElem_toArray, List.getElem_cons_succ, List.getElem_cons_zero]; guard_target = Oper.wp _ (Oper.mk _ (.store _ _ _) _ _ _ _) _ _ _ _; (refine o_storeG (e := ?_) (size := ?_) (n := ?_) (cap := ?_) (xs := ?_) (l' := ?_) rfl rfl H2 rfl ?_ ?_ ?_ ?_ (fun w4 H3 => hK _ _ (aM H3 ?_) ?_); rotate_left 6; (exact r0); (focus (intro _; simp [Act.eval, Value.cells]; done)); (focus ((try simp [Act.eval, Value.cells]); omega)); (exact rfl); (guard_target = Suf _ _; repeat first | exact .here | apply Suf.there); clear hK K; simp [Act.eval, Value.cells, setL, List.getD] at H3); simp only [Act.put, List.setIfInBounds_toArray, List.set_cons_succ, List.set_cons_zero]; revert H3; revert w4; exact kk.out)) : P := h ⟨k⟩
theorem trap6bg10 {P Q : Prop} (k : Q) (h : Hold Q → P := by (intro kk; (guard_target = wpTreeC _ _ _ (Tr.e _ _) _ _ _; exact trap6bx8 kk.out))) : P := h ⟨k⟩
theorem trap6br1 {P Q : Prop} (k : Q) (h : Hold Q → InR 17 1 (.q 0 (.q 1 (.q 2 (.q 3 (.q 4 (.q 5 (.q 6 (.q 7 (.q 8 (.q 9 (.q 10 (.q 11 (.q 12 (.q 13 (.q 14 (.q 15 (.q 16 (.q 17 (.e 18 .nil))))))))))))))))))) P := by exact aRC) : P := h ⟨k⟩
set_option maxRecDepth 100000 in
set_option maxHeartbeats 16000000 in
theorem put_d {B : Nat} {w0 w : World} {l : List Res} {bx ks ke cn cp dn dp b5 b11 nn mm : Nat} {N : List Nd} {P : List Pc} {id ax ay sx sy tp bt lx ly rx ry on : Int} {hl hr gn : Bool} {ub db : Nat} {f : Bool} {tu : Int} {v7 v8 c2 c3 c4 c6 c9 c10 c13 c14 c15 c16 c17 c18 c19 c20 c21 c22 c23 c24 c25 c26 c27 c28 c29 c30 c31 c32 c33 c34 c35 c36 c37 c38 c39 c40 c41 c42 c43 c44 c45 c46 c47 c48 c49 c50 c51 c52 c53 c54 c55 c56 c57 c58 c59 c60 c61 c62 c63 c64 c65 c66 c67 c68 c69 c70 c71 c72 c73 c74 c75 c76 c77 c78 c79 c80 c81 c82 c83 c84 c85 c86 c87 c88 c89 c90 c91 c92 c93 c94 c95 c96 c97 c98 c99 c100 c101 c102 c103 c104 c105 c106 c107 c108 c109 c110 c111 c112 c113 c114 c115 c116 c117 c118 c119 c120 c121 c122 c123 c124 c125 c126 c127 c128 c129 c130 c131 c132 c133 c134 c135 c136 c137 c138 c139 c140 c141 c142 c143 c144 c145 c146 c147 c148 c149 c150 c151 c152 c153 c154 c155 c156 c157 c158 c159 c160 c161 c162 c163 c164 c165 c166 c167 c168 c169 c170 c171 c172 c173 c174 c175 c176 c177 c178 c179 c180 c181 c182 c183 c184 c185 c186 c187 c188 c189 c190 c191 c192 c193 c194 c195 c196 c197 c198 c199 c200 c201 c202 c203 c204 c205 c206 c207 c208 c209 c210 c211 c212 c213 c214 c215 c216 c217 c218 c219 c220 c221 c222 c223 c224 c225 c226 c227 c228 c229 c230 c231 c232 c233 c234 c235 c236 c237 c238 c239 c240 c241 c242 c243 c244 c245 c246 c247 c248 c249 c250 c251 c252 c253 c254 c255 c256 c257 c258 c259 c260 c261 c262 c263 c264 c265 : Value} {K K2 : Act → World → Prop} {Q : Exit → Act → World → Prop} (htu : turnB ⟨ax, ay⟩ ⟨sx, sy⟩ ⟨lx, ly⟩ = tu) (hu : f = false → v8 = .int .i64 (db : Int)) (hnl : nn ≤ 1000000) (hml : mm ≤ 1000000) (hnn : nn = N.length) (hmm : mm = P.length)
  (hQ : ∀ {c a d v w}, Q (Exit.panic c) (Act.put a d v) w → Q (Exit.panic c) a w) (hK : ∀ a w, Code.wp Tryz.prog (pCd 119) (Exit.then K2 Q) a w → K a w)
  (hR : ∀ (y108 y109 y110 y111 y112 y113 y114 y115 y116 y117 y118 y119 y120 y121 y122 y123 y124 y125 y126 y127 y128 y129 y130 y131 y132 y133 y134 y135 y136 y137 y138 y139 y140 y141 y142 y143 y144 y145 y146 y147 y148 : Value) (w' : World) (Y : PSt) (dn dp cn cp : Nat), Y = loS (f || decide (tu < 0)) ⟨id, bt, true, false, if f then ⟨ax, ay⟩ else ⟨lx, ly⟩, ⟨0, 0⟩⟩ ⟨N, P, ub, db⟩ → Own B w0 w' (.cells b11 [.int .i64 tp, .int .i64 bt, .bool hl, .bool hr, .int .i64 lx, .int .i64 ly, .int .i64 rx, .int .i64 ry, .int .i64 on, .bool gn] :: xB bx ks ke Y.N.length Y.P.length cn cp dn dp :: nG dn Y.N.length cn Y.N :: pG dp Y.P.length cp Y.P :: .cells b5 [.int .i64 ax, .int .i64 ay, .int .i64 sx, .int .i64 sy] :: l) → K2 ⟨#[.pointer (some ⟨bx, 0, none⟩), .int .i64 id, c2, c3, c4, .pointer (some ⟨b5, 0, none⟩), c6, v7, .int .i64 (Y.d : Int), c9, c10, .pointer (some ⟨b11, 0, none⟩), .bool f, c13, c14, c15, c16, c17, c18, c19, c20, c21, c22, c23, c24, c25, c26, c27, c28, c29, c30, c31, c32, c33, c34, c35, c36, c37, c38, c39, c40, c41, c42, c43, c44, c45, c46, c47, c48, c49, c50, c51, c52, c53, c54, c55, c56, c57, c58, c59, c60, c61, c62, c63, c64, c65, c66, c67, c68, c69, c70, c71, c72, c73, c74, c75, c76, c77, c78, c79, c80, c81, c82, c83, c84, c85, c86, c87, c88, c89, c90, c91, c92, c93, c94, c95, c96, c97, c98, c99, c100, c101, c102, c103, c104, c105, c106, c107, y108, y109, y110, y111, y112, y113, y114, y115, y116, y117, y118, y119, y120, y121, y122, y123, y124, y125, y126, y127, y128, y129, y130, y131, y132, y133, y134, y135, y136, y137, y138, y139, y140, y141, y142, y143, y144, y145, y146, y147, y148, c149, c150, c151, c152, c153, c154, c155, c156, c157, c158, c159, c160, c161, c162, c163, c164, c165, c166, c167, c168, c169, c170, c171, c172, c173, c174, c175, c176, c177, c178, c179, c180, c181, c182, c183, c184, c185, c186, c187, c188, c189, c190, c191, c192, c193, c194, c195, c196, c197, c198, c199, c200, c201, c202, c203, c204, c205, c206, c207, c208, c209, c210, c211, c212, c213, c214, c215, c216, c217, c218, c219, c220, c221, c222, c223, c224, c225, c226, c227, c228, c229, c230, c231, c232, c233, c234, c235, c236, c237, c238, c239, c240, c241, c242, c243, c244, c245, c246, c247, c248, c249, c250, c251, c252, c253, c254, c255, c256, c257, c258, c259, c260, c261, c262, c263, c264, c265], []⟩ w')
  (H : Own B w0 w (.cells b11 [.int .i64 tp, .int .i64 bt, .bool hl, .bool hr, .int .i64 lx, .int .i64 ly, .int .i64 rx, .int .i64 ry, .int .i64 on, .bool gn] :: xB bx ks ke nn mm cn cp dn dp :: nG dn nn cn N :: pG dp mm cp P :: .cells b5 [.int .i64 ax, .int .i64 ay, .int .i64 sx, .int .i64 sy] :: l)) :
  Code.wp Tryz.prog (pRg 14) (Exit.then K Q) ⟨#[.pointer (some ⟨bx, 0, none⟩), .int .i64 id, c2, c3, c4, .pointer (some ⟨b5, 0, none⟩), c6, v7, v8, c9, c10, .pointer (some ⟨b11, 0, none⟩), .bool f, c13, c14, c15, c16, c17, c18, c19, c20, c21, c22, c23, c24, c25, c26, c27, c28, c29, c30, c31, c32, c33, c34, c35, c36, c37, c38, c39, c40, c41, c42, c43, c44, c45, c46, c47, c48, c49, c50, c51, c52, c53, c54, c55, c56, c57, c58, c59, c60, c61, c62, c63, c64, c65, c66, c67, c68, c69, c70, c71, c72, c73, c74, c75, c76, c77, c78, c79, c80, c81, c82, c83, c84, c85, c86, c87, c88, c89, c90, c91, c92, c93, c94, c95, c96, c97, c98, c99, c100, c101, c102, c103, c104, c105, c106, c107, c108, c109, c110, c111, c112, c113, c114, c115, c116, c117, c118, c119, c120, c121, c122, c123, c124, c125, c126, c127, c128, c129, c130, c131, c132, c133, c134, c135, c136, c137, c138, c139, c140, c141, c142, c143, c144, c145, c146, c147, c148, c149, c150, c151, c152, c153, c154, c155, c156, c157, c158, c159, c160, c161, c162, c163, c164, c165, c166, c167, c168, c169, c170, c171, c172, c173, c174, c175, c176, c177, c178, c179, c180, c181, c182, c183, c184, c185, c186, c187, c188, c189, c190, c191, c192, c193, c194, c195, c196, c197, c198, c199, c200, c201, c202, c203, c204, c205, c206, c207, c208, c209, c210, c211, c212, c213, c214, c215, c216, c217, c218, c219, c220, c221, c222, c223, c224, c225, c226, c227, c228, c229, c230, c231, c232, c233, c234, c235, c236, c237, c238, c239, c240, c241, c242, c243, c244, c245, c246, c247, c248, c249, c250, c251, c252, c253, c254, c255, c256, c257, c258, c259, c260, c261, c262, c263, c264, c265], []⟩ w := by
 conv => arg 2; whnf
 have hT := fun w => geomTurn_any ax ay sx sy lx ly w
 rw [htu] at hT
 have HR := Lib.hid hR
 have HN := Lib.hid hnn
 have HM := Lib.hid hmm
 have HU := Lib.hid hu
 clear hR hnn hmm hu htu
 simp only [xB, nG, pG] at H
 cases f
 ·obtain ⟨v1, hv1⟩ : ∃ v, decide (tu < 0) = v := ⟨_, rfl⟩
  cases v1
  ·go_wp2_with (first
    | (go_at_call 26; (with_reducible refine (hT _).mono ?_); rintro e w3 ⟨rfl, hb⟩; replace H := H.ext hb; clear hb; dsimp only)
    | (guard_target = wpList _ _ _ (_ :: _) _ _; (refine trap6bg2 ?_)))
   conv => arg 2; whnf
   go_wp2_with (first | fail)
   have h7 := HU.out (by simp)
   subst h7
   obtain rfl := HN.out
   obtain rfl := HM.out
   exact HR.out _ _ _ _ _ _ _ _ _ _ _ _ _ _ _ _ _ _ _ _ _ _ _ _ _ _ _ _ _ _ _ _ _ _ _ _ _ _ _ _ _ _ ⟨N, P, ub, db⟩ _ _ _ _ (by rw [hv1]; rfl) H
  ·go_wp2_with (first
    | (go_at_call 26; (with_reducible refine (hT _).mono ?_); rintro e w3 ⟨rfl, hb⟩; replace H := H.ext hb; clear hb; dsimp only)
    | (guard_target = wpList _ _ _ (_ :: _) _ _; (refine trap6bg2 ?_)))
   conv => arg 2; whnf
   go_wp2_with (first
    | (go_at_call 41; replace H:Own _ _ _ (Res.grow 80 _ _ _ _ :: _) := aF; replace H:Own _ _ _ (Res.grow 75 _ _ _ _ :: _) := aF; replace H:Own _ _ _ (Res.cells bx _ :: _) := aF; (with_reducible refine (leafOf_any ⟨id, bt, true, false, ⟨ax, ay⟩, ⟨0, 0⟩⟩ (by omega) (by omega) H).mono ?_); rintro e w3 ⟨e1, e2, c7, c8, rfl, H2⟩; replace H := H2; clear H2; have hq1 := nd_id_at (b := e1) (c := c7) (k := nn + 1) (N := (N ++ [(⟨0, (mm:Int), ⟨0, 0⟩, 0, 0⟩:Nd)])) (i := nn) (q := ⟨0, (mm:Int), ⟨0, 0⟩, 0, 0⟩) (by rw [HN.out]; simp); have hfit:mm * 10 + 4 + 2 ≤ (pR (P ++ [(⟨⟨id, bt, true, false, ⟨ax, ay⟩, ⟨0, 0⟩⟩, (nn:Int), false⟩:Pc)])).length := (by rw [pR_len, List.length_append, ← HM.out]; simp; omega); dsimp only; (skip))
    | (guard_target = Code.wp _ (Code.region 17 _ true) _ _ _; replace H:Own _ _ _ (Res.grow 80 _ _ _ _ :: _) := aF; refine trap6br1 ?_; clear H; (try clear w2); intro w2 H)
    | ((first | guard_target = wpList _ _ _ (_ :: _) _ _ | guard_target = wpTreeC _ _ _ _ _ _ _); (first | (refine trap6bg4 ?_) | (refine trap6bg10 ?_; clear H; (try clear w2); intro w2 H) | (guard_target = wpTreeC _ _ _ Tr.nil _ _ _; refine treeC_nil H ?_; clear H; (try clear w2); intro w2 H))))
   have hset := pc_set (P := P ++ [(⟨⟨id, bt, true, false, ⟨ax, ay⟩, ⟨0, 0⟩⟩, (nn : Int), false⟩ : Pc)]) (i := mm) (d := 4) (vs := [.int .i64 lx, .int .i64 ly]) (p := ⟨⟨id, bt, true, false, ⟨ax, ay⟩, ⟨0, 0⟩⟩, (nn : Int), false⟩) (p' := ⟨⟨id, bt, true, false, ⟨lx, ly⟩, ⟨0, 0⟩⟩, (nn : Int), false⟩) (by rw [HM.out]; simp) (by simp) rfl
   simp only [setL] at hset
   rw [hset] at H
   have hs2 : (P ++ [(⟨⟨id, bt, true, false, ⟨ax, ay⟩, ⟨0, 0⟩⟩, (nn : Int), false⟩ : Pc)]).set mm ⟨⟨id, bt, true, false, ⟨lx, ly⟩, ⟨0, 0⟩⟩, (nn : Int), false⟩ = P ++ [⟨⟨id, bt, true, false, ⟨lx, ly⟩, ⟨0, 0⟩⟩, (nn : Int), false⟩] := by rw [HM.out]; simp
   rw [hs2] at H
   clear hset hs2
   replace H:Own _ _ _ (Res.grow 80 _ _ _ _ :: _) := aF
   replace H:Own _ _ _ (Res.grow 75 _ _ _ _ :: _) := aF
   replace H:Own _ _ _ (Res.cells bx _ :: _) := aF
   replace H:Own _ _ _ (Res.cells b11 _ :: _) := aF
   obtain rfl := HN.out
   obtain rfl := HM.out
   have g1 : (N ++ [lfN P.length]).length = N.length + 1 := by simp
   have g2 : (P ++ [(⟨⟨id, bt, true, false, ⟨lx, ly⟩, ⟨0, 0⟩⟩, (N.length : Int), false⟩ : Pc)]).length = P.length + 1 := by simp
   refine HR.out _ _ _ _ _ _ _ _ _ _ _ _ _ _ _ _ _ _ _ _ _ _ _ _ _ _ _ _ _ _ _ _ _ _ _ _ _ _ _ _ _ _ ⟨N ++ [lfN P.length], P ++ [⟨⟨id, bt, true, false, ⟨lx, ly⟩, ⟨0, 0⟩⟩, (N.length : Int), false⟩], ub, N.length⟩ e1 e2 c7 c8 (by rw [hv1]; rfl) ?_
   dsimp only
   rw [g1, g2]
   exact (aW H)
 ·go_wp2_with (go_big_skip)
  conv => arg 2; whnf
  go_wp2_with (first
   | (go_at_call 41; replace H:Own _ _ _ (Res.grow 80 _ _ _ _ :: _) := aF; replace H:Own _ _ _ (Res.grow 75 _ _ _ _ :: _) := aF; replace H:Own _ _ _ (Res.cells bx _ :: _) := aF; (with_reducible refine (leafOf_any ⟨id, bt, true, false, ⟨ax, ay⟩, ⟨0, 0⟩⟩ (by omega) (by omega) H).mono ?_); rintro e w3 ⟨e1, e2, c7, c8, rfl, H2⟩; replace H := H2; clear H2; dsimp only)
   | (guard_target = wpList _ _ _ (_ :: _) _ _; (refine trap6bg2 ?_)))
  replace H:Own _ _ _ (Res.grow 80 _ _ _ _ :: _) := aF
  replace H:Own _ _ _ (Res.grow 75 _ _ _ _ :: _) := aF
  replace H:Own _ _ _ (Res.cells bx _ :: _) := aF
  replace H:Own _ _ _ (Res.cells b11 _ :: _) := aF
  obtain rfl := HN.out
  obtain rfl := HM.out
  have g1 : (N ++ [lfN P.length]).length = N.length + 1 := by simp
  have g2 : (P ++ [(⟨⟨id, bt, true, false, ⟨ax, ay⟩, ⟨0, 0⟩⟩, (N.length : Int), false⟩ : Pc)]).length = P.length + 1 := by simp
  refine HR.out _ _ _ _ _ _ _ _ _ _ _ _ _ _ _ _ _ _ _ _ _ _ _ _ _ _ _ _ _ _ _ _ _ _ _ _ _ _ _ _ _ _ ⟨N ++ [lfN P.length], P ++ [⟨⟨id, bt, true, false, ⟨ax, ay⟩, ⟨0, 0⟩⟩, (N.length : Int), false⟩], ub, N.length⟩ e1 e2 c7 c8 rfl ?_
  dsimp only
  rw [g1, g2]
  exact (aW H)
theorem trap6cx3 {P Q : Prop} (k : Q) (h : Hold Q → P := by (intro kk; guard_target = wpTreeC _ _ _ (Tr.e _ _) _ _ _; (with_reducible refine treeC_one (o := ?_) H ?_ ?_ (fun w3 H2 K hK => ?_)); rotate_left 1; exact rfl; exact rfl; simp only [List.getElem_toArray, List.getElem_cons_succ, List.getElem_cons_zero]; guard_target = Oper.wp _ (Oper.mk _ (.store _ _ _) _ _ _ _) _ _ _ _; (refine o_storeG (e := ?_) (size := ?_) (n := ?_) (cap := ?_) (xs := ?_) (l' := ?_) rfl rfl H2 rfl ?_ ?_ ?_ ?_ (fun w4 H3 => hK _ _ (aM H3 ?_) ?_); rotate_left 6; (exact r0); (focus (intro _; simp [Act.eval, Value.cells]; done)); (focus ((try simp [Act.eval, Value.cells]); omega)); (exact rfl); (guard_target = Suf _ _; repeat first | exact .here | apply Suf.there); clear hK K; simp [Act.eval, Value.cells, setL, List.getD] at H3); simp only [Act.put, List.setIfInBounds_toArray, List.set_cons_succ, List.set_cons_zero]; revert H3; revert w4; exact kk.out)) : P := h ⟨k⟩
theorem trap6cg4 {P Q : Prop} (k : Q) (h : Hold Q → P := by (intro kk; (guard_target = wpTreeC _ _ _ (Tr.e _ _) _ _ _; exact trap6cx3 kk.out))) : P := h ⟨k⟩
theorem trap6cr1 {P Q : Prop} (k : Q) (h : Hold Q → InR 25 1 (.q 0 (.q 1 (.q 2 (.e 3 (.q 4 (.q 5 (.e 6 (.e 7 (.q 8 (.q 9 (.e 10 .nil))))))))))) P := by exact aRC) : P := h ⟨k⟩
theorem trap6cr6 {P Q : Prop} (k : Q) (h : Hold Q → InR 24 0 (.q 0 (.q 1 (.q 2 (.q 3 (.q 4 (.q 5 (.q 6 (.q 7 (.q 8 (.q 9 (.q 10 (.q 11 (.q 12 (.q 13 .nil)))))))))))))) P := by exact aRC0) : P := h ⟨k⟩
set_option maxRecDepth 100000 in
set_option maxHeartbeats 16000000 in
theorem put_r {B : Nat} {w0 w : World} {l : List Res} {bx ks ke cn cp dn dp nn mm b14 u d pu pd : Nat} {N : List Nd} {P : List Pc} {qx qy : Int} {p1 p2 : Pc} {c1 c2 c3 c4 c5 c6 c9 c10 c11 c12 c13 c15 c16 c17 c18 c19 c20 c21 c22 c23 c24 c25 c26 c27 c28 c29 c30 c31 c32 c33 c34 c35 c36 c37 c38 c39 c40 c41 c42 c43 c44 c45 c46 c47 c48 c49 c50 c51 c52 c53 c54 c55 c56 c57 c58 c59 c60 c61 c62 c63 c64 c65 c66 c67 c68 c69 c70 c71 c72 c73 c74 c75 c76 c77 c78 c79 c80 c81 c82 c83 c84 c85 c86 c87 c88 c89 c90 c91 c92 c93 c94 c95 c96 c97 c98 c99 c100 c101 c102 c103 c104 c105 c106 c107 c108 c109 c110 c111 c112 c113 c114 c115 c116 c117 c118 c119 c120 c121 c122 c123 c124 c125 c126 c127 c128 c129 c130 c131 c132 c133 c134 c135 c136 c137 c138 c139 c140 c141 c142 c143 c144 c145 c146 c147 c148 c149 c150 c151 c152 c153 c154 c155 c156 c157 c158 c159 c160 c161 c162 c163 c164 c165 c166 c167 c168 c169 c170 c171 c172 c173 c174 c175 c176 c177 c178 c179 c180 c181 c182 c183 c184 c185 c186 c187 c188 c189 c190 c191 c192 c193 c194 c195 c196 c197 c198 c199 c200 c201 c202 c203 c204 c205 c206 c207 c208 c209 c210 c211 c212 c213 c214 c215 c216 c217 c218 c219 c220 c221 c222 c223 c224 c225 c226 c227 c228 c229 c230 c231 c232 c233 c234 c235 c236 c237 c238 c239 c240 c241 c242 c243 c244 c245 c246 c247 c248 c249 c250 c251 c252 c253 c254 c255 c256 c257 c258 c259 c260 c261 c262 c263 c264 c265 : Value} {K K2 : Act → World → Prop} {Q : Exit → Act → World → Prop} (hnn : nn = N.length) (hmm : mm = P.length) (h1 : N[u]? = some (lfN pu)) (h2 : N[d]? = some (lfN pd)) (h3 : P[pu]? = some p1) (h4 : P[pd]? = some p2)
  (hQ : ∀ {c a d v w}, Q (Exit.panic c) (Act.put a d v) w → Q (Exit.panic c) a w) (hK : ∀ a w, Code.wp Tryz.prog (pBl 2) (Exit.then K2 Q) a w → K a w)
  (hR : ∀ (y16 y17 y155 y156 y157 y158 y159 y160 y161 y162 y163 y164 y165 y166 y167 y168 y169 y170 y171 y172 y173 y174 y175 y176 y177 y178 y179 y180 y181 y182 y183 y184 y185 : Value) (w' : World), Own B w0 w' (.cells b14 [.int .i64 qx, .int .i64 qy] :: xB bx ks ke nn mm cn cp dn dp :: nG dn nn cn N :: pG dp mm cp (setR (setR P pu ⟨qx, qy⟩) pd ⟨qx, qy⟩) :: l) → K2 ⟨#[.pointer (some ⟨bx, 0, none⟩), c1, c2, c3, c4, c5, c6, .int .i64 (u : Int), .int .i64 (d : Int), c9, c10, c11, c12, c13, .pointer (some ⟨b14, 0, none⟩), c15, y16, y17, c18, c19, c20, c21, c22, c23, c24, c25, c26, c27, c28, c29, c30, c31, c32, c33, c34, c35, c36, c37, c38, c39, c40, c41, c42, c43, c44, c45, c46, c47, c48, c49, c50, c51, c52, c53, c54, c55, c56, c57, c58, c59, c60, c61, c62, c63, c64, c65, c66, c67, c68, c69, c70, c71, c72, c73, c74, c75, c76, c77, c78, c79, c80, c81, c82, c83, c84, c85, c86, c87, c88, c89, c90, c91, c92, c93, c94, c95, c96, c97, c98, c99, c100, c101, c102, c103, c104, c105, c106, c107, c108, c109, c110, c111, c112, c113, c114, c115, c116, c117, c118, c119, c120, c121, c122, c123, c124, c125, c126, c127, c128, c129, c130, c131, c132, c133, c134, c135, c136, c137, c138, c139, c140, c141, c142, c143, c144, c145, c146, c147, c148, c149, c150, c151, c152, c153, c154, y155, y156, y157, y158, y159, y160, y161, y162, y163, y164, y165, y166, y167, y168, y169, y170, y171, y172, y173, y174, y175, y176, y177, y178, y179, y180, y181, y182, y183, y184, y185, c186, c187, c188, c189, c190, c191, c192, c193, c194, c195, c196, c197, c198, c199, c200, c201, c202, c203, c204, c205, c206, c207, c208, c209, c210, c211, c212, c213, c214, c215, c216, c217, c218, c219, c220, c221, c222, c223, c224, c225, c226, c227, c228, c229, c230, c231, c232, c233, c234, c235, c236, c237, c238, c239, c240, c241, c242, c243, c244, c245, c246, c247, c248, c249, c250, c251, c252, c253, c254, c255, c256, c257, c258, c259, c260, c261, c262, c263, c264, c265], []⟩ w')
  (H : Own B w0 w (.cells b14 [.int .i64 qx, .int .i64 qy] :: xB bx ks ke nn mm cn cp dn dp :: nG dn nn cn N :: pG dp mm cp P :: l)) :
  Code.wp Tryz.prog (pRg 21) (Exit.then K Q) ⟨#[.pointer (some ⟨bx, 0, none⟩), c1, c2, c3, c4, c5, c6, .int .i64 (u : Int), .int .i64 (d : Int), c9, c10, c11, c12, c13, .pointer (some ⟨b14, 0, none⟩), c15, c16, c17, c18, c19, c20, c21, c22, c23, c24, c25, c26, c27, c28, c29, c30, c31, c32, c33, c34, c35, c36, c37, c38, c39, c40, c41, c42, c43, c44, c45, c46, c47, c48, c49, c50, c51, c52, c53, c54, c55, c56, c57, c58, c59, c60, c61, c62, c63, c64, c65, c66, c67, c68, c69, c70, c71, c72, c73, c74, c75, c76, c77, c78, c79, c80, c81, c82, c83, c84, c85, c86, c87, c88, c89, c90, c91, c92, c93, c94, c95, c96, c97, c98, c99, c100, c101, c102, c103, c104, c105, c106, c107, c108, c109, c110, c111, c112, c113, c114, c115, c116, c117, c118, c119, c120, c121, c122, c123, c124, c125, c126, c127, c128, c129, c130, c131, c132, c133, c134, c135, c136, c137, c138, c139, c140, c141, c142, c143, c144, c145, c146, c147, c148, c149, c150, c151, c152, c153, c154, c155, c156, c157, c158, c159, c160, c161, c162, c163, c164, c165, c166, c167, c168, c169, c170, c171, c172, c173, c174, c175, c176, c177, c178, c179, c180, c181, c182, c183, c184, c185, c186, c187, c188, c189, c190, c191, c192, c193, c194, c195, c196, c197, c198, c199, c200, c201, c202, c203, c204, c205, c206, c207, c208, c209, c210, c211, c212, c213, c214, c215, c216, c217, c218, c219, c220, c221, c222, c223, c224, c225, c226, c227, c228, c229, c230, c231, c232, c233, c234, c235, c236, c237, c238, c239, c240, c241, c242, c243, c244, c245, c246, c247, c248, c249, c250, c251, c252, c253, c254, c255, c256, c257, c258, c259, c260, c261, c262, c263, c264, c265], []⟩ w := by
 conv => arg 2; whnf
 have HR := Lib.hid hR
 have HN := Lib.hid hnn
 have HM := Lib.hid hmm
 simp only [xB, nG, pG] at H
 have hul : u < nn := by rw [hnn]; exact (List.getElem?_eq_some_iff.1 h1).1
 have hdl : d < nn := by rw [hnn]; exact (List.getElem?_eq_some_iff.1 h2).1
 have hpl : pu < mm := by rw [hmm]; exact (List.getElem?_eq_some_iff.1 h3).1
 have hql : pd < mm := by rw [hmm]; exact (List.getElem?_eq_some_iff.1 h4).1
 have q1 := nd_id_at (b := dn) (c := cn) (k := nn) h1
 have q2 := nd_id_at (b := dn) (c := cn) (k := nn) h2
 simp only [lfN] at q1 q2
 obtain ⟨p3, h5⟩ := setR_some (i := pu) ⟨qx, qy⟩ h4
 have H3 := Lib.hid h3
 have H5 := Lib.hid h5
 clear hR hnn hmm h1 h2 h3 h4 h5
 have tk0 : True := trivial
 go_wp2_with (guard_target = wpList _ _ _ (_ :: _) _ _; (refine a9475ade ?_; intro b2; clear H; (try clear w2); intro w2 H; (clear tk0; rename Nat => b21)))
 conv => arg 2; whnf
 go_wp2_with (first | fail)
 go_loopg [159] 2 (fun k i wr => k ≤ 2 ∧ i = .int .i64 ((2 - k : Nat) : Int) ∧ Own B w0 wr (.cells b21 [.int .i64 (u : Int), .int .i64 (d : Int)] :: .cells b14 [.int .i64 qx, .int .i64 qy] :: xB bx ks ke nn mm cn cp dn dp :: nG dn nn cn N :: pG dp mm cp (if k = 2 then P else if k = 1 then setR P pu ⟨qx, qy⟩ else setR (setR P pu ⟨qx, qy⟩) pd ⟨qx, qy⟩) :: l))
 case atStart => exact ⟨Nat.le_refl _, by simp, H⟩
 case round =>
  clear H
  obtain ⟨hk2, rfl, H⟩ := hrel
  simp only [xB, nG, pG] at H
  rcases (by omega : gk = 2 ∨ gk = 1 ∨ gk = 0) with rfl | rfl | rfl
  ·simp only [if_true] at H
   have hlen : (pR P).length = mm * 10 := by rw [pR_len]; exact (congrArg (· * 10) HM.out).symm
   go_wp2_with (first
    | (guard_target = Code.wp _ (Code.region 25 _ true) _ _ _; replace H:Own _ _ _ (Res.grow 80 _ _ _ _ :: _) := aF; refine trap6cr1 ?_; clear H; (try clear w2); intro w2 H)
    | (guard_target = Code.wp _ (Code.region 24 _ true) _ _ _; refine trap6cr6 ?_; clear H; (try clear w2); intro w2 H)
    | ((first | guard_target = wpList _ _ _ (_ :: _) _ _ | guard_target = wpTreeC _ _ _ _ _ _ _); (first | (refine aaad3d59 ?_) | (refine trap6cg4 ?_; clear H; (try clear w2); intro w2 H) | (guard_target = wpTreeC _ _ _ Tr.nil _ _ _; refine treeC_nil H ?_; clear H; (try clear w2); intro w2 H) | (refine a9d8d0a4 ?_; clear H; (try clear w2); intro w2 H))))
   have hset := setR_at (P := P) (i := pu) H3.out ⟨qx, qy⟩
   simp only at hset
   rw [hset] at H
   replace H:Own _ _ _ (Res.grow 80 _ _ _ _ :: _) := aF
   replace H:Own _ _ _ (Res.grow 75 _ _ _ _ :: _) := aF
   replace H:Own _ _ _ (Res.cells bx _ :: _) := aF
   replace H:Own _ _ _ (Res.cells b14 _ :: _) := aF
   replace H:Own _ _ _ (Res.cells b21 _ :: _) := aF
   clear hlen hset
   go_roundg 1
   case rel => exact ⟨by omega, by simp, (by simpa using H)⟩
   case measure => omega
  ·simp only [if_neg (by omega : ¬ (1 = 2)), if_true] at H
   have hlen : (pR (setR P pu ⟨qx, qy⟩)).length = mm * 10 := by rw [pR_len]; rw [setR_len]; exact (congrArg (· * 10) HM.out).symm
   go_wp2_with (first
    | (guard_target = Code.wp _ (Code.region 25 _ true) _ _ _; replace H:Own _ _ _ (Res.grow 80 _ _ _ _ :: _) := aF; refine trap6cr1 ?_; clear H; (try clear w2); intro w2 H)
    | (guard_target = Code.wp _ (Code.region 24 _ true) _ _ _; refine trap6cr6 ?_; clear H; (try clear w2); intro w2 H)
    | ((first | guard_target = wpList _ _ _ (_ :: _) _ _ | guard_target = wpTreeC _ _ _ _ _ _ _); (first | (refine aaad3d59 ?_) | (refine trap6cg4 ?_; clear H; (try clear w2); intro w2 H) | (guard_target = wpTreeC _ _ _ Tr.nil _ _ _; refine treeC_nil H ?_; clear H; (try clear w2); intro w2 H) | (refine a9d8d0a4 ?_; clear H; (try clear w2); intro w2 H))))
   have hset := setR_at (P := (setR P pu ⟨qx, qy⟩)) (i := pd) H5.out ⟨qx, qy⟩
   simp only at hset
   rw [hset] at H
   replace H:Own _ _ _ (Res.grow 80 _ _ _ _ :: _) := aF
   replace H:Own _ _ _ (Res.grow 75 _ _ _ _ :: _) := aF
   replace H:Own _ _ _ (Res.cells bx _ :: _) := aF
   replace H:Own _ _ _ (Res.cells b14 _ :: _) := aF
   replace H:Own _ _ _ (Res.cells b21 _ :: _) := aF
   clear hlen hset
   go_roundg 0
   case rel => exact ⟨by omega, by simp, (by simpa using H)⟩
   case measure => omega
  ·go_wp2_with (first | fail)
   exact HR.out _ _ _ _ _ _ _ _ _ _ _ _ _ _ _ _ _ _ _ _ _ _ _ _ _ _ _ _ _ _ _ _ _ _ H.tail
end Go.Proofs.YtlhmjhildlnokaaGreat
