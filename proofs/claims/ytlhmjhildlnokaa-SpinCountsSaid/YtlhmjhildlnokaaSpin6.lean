/-
  What leaves a vertex is sorted: the library's slices.SortFunc with the function of spin.turn.
-/
import Derived.Test.YtlhmjhildlnokaaSpin5
import Derived.Test.YtlhmjhildlnokaaLayH
namespace Go.Proofs.Ytlhmjhildlnokaa
set_option linter.unusedVariables false
set_option linter.unusedSimpArgs false
open Go.RowKit Go.Sort Go.Shelf

theorem sizeOf_half (w : World) : (Go.sizeOf 36).run Try.prog w = .ok 2 w := by kernel_rfl
theorem agg_half (w : World) : (isAgg 36).run Try.prog w = .ok true w := by kernel_rfl
theorem enter_less (args : Array Value) (w : World) : (callFunc 74 args).run Try.prog w = .ok (.enter 74 args) w := by
  kernel_rfl
theorem vt_rpt {vs : List Vt} {id : Int} (hid : vs.Pairwise fun e f => e.id < f.id) : ((vtM vs id).getD zVt).p = rpt vs id := by
  rw [vtM_find hid]
  unfold rpt
  cases vs.find? fun v => v.id == id <;> rfl
/-- What a world that keeps these resources lets a reader have. -/
theorem own_read {W : World} {bo b3 k1 k2 : Nat} {mv : Int → Option Vt} {mf : Hf → Option Int} {ox oy : Int} {u3 u4 : Value} (h1 : (mVat k1 mv).holds W ∧ ∀ j, (mVat k1 mv).foot j → j < W.heap.size) (h2 : (mFrom k2 mf).holds W ∧ ∀ j, (mFrom k2 mf).foot j → j < W.heap.size)
    (h3 : (Res.cells b3 [.map (some k1), .map (some k2), u3, u4]).holds W ∧ ∀ j, (Res.cells b3 [.map (some k1), .map (some k2), u3, u4]).foot j → j < W.heap.size) (h4 : (Res.cells bo [.int .i64 ox, .int .i64 oy]).holds W ∧ ∀ j, (Res.cells bo [.int .i64 ox, .int .i64 oy]).foot j → j < W.heap.size) :
    Own W.heap.size W W [mVatO k1 mv, mFromO k2 mf, .rd (some ⟨b3, 0, none⟩) b3 0 [.map (some k1), .map (some k2), u3, u4], .rd (some ⟨bo, 0, none⟩) bo 0 [.int .i64 ox, .int .i64 oy]] := by
  have cell : ∀ (b : Nat) (row : List Value), (Res.cells b row).holds W → (Res.rd (some ⟨b, 0, none⟩) b 0 row).holds W := by
    intro b row ⟨T, hT⟩
    refine ⟨fun _ => rfl, fun j v hv => ?_⟩
    have hj := (List.getElem?_eq_some_iff.1 hv).1
    simp only [World.cell?, World.frozen?, hT, Nat.zero_add]
    simp [hv]
  have H0 := Own.start W
  have H1 := H0.add (.rd (some ⟨bo, 0, none⟩) bo 0 [.int .i64 ox, .int .i64 oy]) (cell _ _ h4.1) (fun k hk => ⟨h4.2 k hk.1, fun h => by cases h⟩) (by simp)
  have H2 := H1.add (.rd (some ⟨b3, 0, none⟩) b3 0 [.map (some k1), .map (some k2), u3, u4]) (cell _ _ h3.1) (fun k hk => ⟨h3.2 k hk.1, fun h => by cases h⟩) (fun r hr => .inl ⟨rfl, by obtain rfl := List.mem_singleton.1 hr; rfl⟩)
  have ro2 : ∀ r ∈ [Res.rd (some ⟨b3, 0, none⟩) b3 0 [.map (some k1), .map (some k2), u3, u4], .rd (some ⟨bo, 0, none⟩) bo 0 [.int .i64 ox, .int .i64 oy]], r.ro = true := by
    intro r hr
    simp only [List.mem_cons, List.not_mem_nil, or_false] at hr
    rcases hr with rfl | rfl <;> rfl
  have H3 := H2.add (mFromO k2 mf) (fun w' hw => h2.1 w' hw) (fun k hk => ⟨h2.2 k hk, fun h => by cases h⟩) (fun r hr => .inl ⟨rfl, ro2 r hr⟩)
  refine H3.add (mVatO k1 mv) (fun w' hw => h1.1 w' hw) (fun k hk => ⟨h1.2 k hk, fun h => by cases h⟩) (fun r hr => .inl ⟨rfl, ?_⟩)
  rcases List.mem_cons.1 hr with rfl | hr
  · rfl
  · exact ro2 r hr
theorem sortH_any {B : Nat} {w0 w : World} {rest : List Res} {vs : List Vt} {es : List Eg} {bo b3 k1 k2 : Nat} {u3 u4 s : Value} {v ox oy : Int} {L : List Hf} (hR0 : RightP vs es) (hp : rpt vs v = ⟨ox, oy⟩) (hL : L.Perm (outU es v)) (hne : L ≠ [])
    (h1 : mVat k1 (vtM vs) ∈ rest) (h2 : mFrom k2 (frM es (halves es)) ∈ rest) (h3 : Res.cells b3 [.map (some k1), .map (some k2), u3, u4] ∈ rest) (h4 : Res.cells bo [.int .i64 ox, .int .i64 oy] ∈ rest)
    (H : Own B w0 w (.grow 36 2 s L.length (hR L) :: rest)) :
    Calls Try.prog 73 #[s, .func (.func 74) #[] #[.pointer (some ⟨bo, 0, none⟩), .pointer (some ⟨b3, 0, none⟩)]] w fun r w' =>
      r = .returned (.tuple #[]) ∧ Own B w0 w' (.grow 36 2 s L.length (hR (outZ vs es v)) :: rest) := by
  have hmem : ∀ h ∈ L, h ∈ halves es ∧ fromZ es h = v := fun h hh => mem_outU.1 (hL.subset hh)
  obtain ⟨xs, hxs⟩ := lift_at hmem
  have hlen : L.length ≤ 1000000 := by
    rw [hL.length_eq]
    have : (outU es v).length ≤ (halves es).length := List.length_filter_le _ _
    rw [halves_len] at this
    have := hR0.few.2
    omega
  cases xs with
  | nil => exact absurd hxs.symm hne
  | cons x0 xs0 =>
    letI : Inhabited (HfAt es v) := ⟨x0⟩
    generalize x0 :: xs0 = xs at hxs
    obtain ⟨b, cap, rfl⟩ := H.growSome m0 (by rcases L with _ | ⟨a, L⟩; exact absurd rfl hne; simp) (by decide)
    have hn : L.length = xs.length := by rw [← hxs, List.length_map]
    have hrow : hR L = xs.flatMap fun x => Go.Proofs.Ytlhmjhildlnokaa.h2 x.1 := by rw [hR_map, hxs]
    rw [hrow] at H
    refine (sortK_any (enc := fun x : HfAt es v => Go.Proofs.Ytlhmjhildlnokaa.h2 x.1) sortH (by decide) agg_half sizeOf_half (fun _ => rfl) (fun x u hu => by
      simp only [Go.Proofs.Ytlhmjhildlnokaa.h2, List.mem_cons, List.not_mem_nil, or_false] at hu
      rcases hu with rfl | rfl <;> rfl) (cfAt vs es v) (cf_swo hR0 v) 74 #[.pointer (some ⟨bo, 0, none⟩), .pointer (some ⟨b3, 0, none⟩)] enter_less hn hlen H ?_).mono ?_
    · intro W hW x y
      have := cmp_any (l := []) x.1.e y.1.e x.1.b y.1.b (own_read (hW _ h1) (hW _ h2) (hW _ h3) (hW _ h4))
      refine this.mono ?_
      rintro r W' ⟨rfl, hb⟩
      refine ⟨?_, hb⟩
      have hv : vs.Pairwise fun e f => e.id < f.id := hR0.verts.two.imp fun h => h.1
      have key : ∀ z : HfAt es v, ((vtM vs ((frM es (halves es) ⟨z.1.e, !z.1.b⟩).getD 0)).getD zVt).p = farP vs es z.1 := fun z => by
        rw [frM_eg es (halves es) ⟨z.1.e, !z.1.b⟩ (twin_mem z.2.1), Option.getD_some, vt_rpt hv]
        rfl
      rw [key, key, ← hp]
      rfl
    · rintro r w' ⟨rfl, ys, hys, hsort, H'⟩
      refine ⟨rfl, ?_⟩
      have := sorted_at hR0 (xs := xs) (ys := ys) (by rw [hxs]; exact hL) hys hsort
      rw [hR_map, this] at H'
      exact H'
end Go.Proofs.Ytlhmjhildlnokaa
