/-
  The document's layer 3: what several walks share.
-/
import Derived.Test.YtmmieilogpmocaaRef03d
import Derived.Test.YtmmieilogpmocaaDig2
namespace Go.Proofs.Ytmmieilogpmocaa
set_option linter.unusedVariables false
set_option linter.unusedSimpArgs false
open Go.RowKit

/-- What a function answers whose answer is the number n, not below 0. -/
def RetNn (F : Nat → Prop) (w : World) (n : Nat) (e : Ending) (w' : World) : Prop :=
  ∃ A c l, e = .returned (.agg #[.bool false, .slice A l.length c]) ∧ Below w.heap.size w w' ∧ Sl F w' A (dl l) ∧ CnI l (n : Int) ∧ l.length ≤ c ∧ c ≤ maxLen
theorem natneg (n : Nat) : decide ((n : Int) < 0) = false := by simp
theorem RetN.nat {F : Nat → Prop} {w w' : World} {n : Nat} {e : Ending} (h : RetN F w (n : Int) e w') : RetNn F w n e w' := by
  obtain ⟨A, c, l, he, h2⟩ := h
  rw [natneg] at he
  exact ⟨A, c, l, he, h2⟩
theorem trimC_any (F : Nat → Prop) (w : World) (hF : ∀ k, F k → k < w.heap.size) (A : Option Addr) (c : Nat) (l : List Nat) (ha : Sl F w A (dl l)) (g : Dg l) (hl : l.length ≤ 1000) (hc : l.length ≤ c) (hm : c ≤ maxLen) :
    Calls Try.prog 97 #[.agg #[.bool false, .slice A l.length c]] w (RetN F w (val l)) := trim_any F w hF false A c l ha g hl hc hm
theorem trimNn_any (F : Nat → Prop) (w : World) (hF : ∀ k, F k → k < w.heap.size) (A : Option Addr) (c : Nat) (l : List Nat) (n : Nat) (hv : val l = n) (ha : Sl F w A (dl l)) (g : Dg l) (hl : l.length ≤ 1000) (hc : l.length ≤ c) (hm : c ≤ maxLen) :
    Calls Try.prog 97 #[.agg #[.bool false, .slice A l.length c]] w (RetNn F w n) := (trimC_any F w hF A c l ha g hl hc hm).mono fun e w' h => by rw [← hv]; exact h.nat
theorem addNn_any (F : Nat → Prop) (w : World) (hF : ∀ k, F k → k < w.heap.size) (A1 A2 : Option Addr) (c1 c2 : Nat) (a b : List Nat) (m n p : Nat) (ga : CnI a (m : Int)) (gb : CnI b (n : Int)) (hp : m + n = p) (ha : Sl F w A1 (dl a)) (hb : Sl F w A2 (dl b)) (la : a.length ≤ 900) (lb : b.length ≤ 900) (ma : a.length ≤ c1) (mb : b.length ≤ c2) :
    Calls Try.prog 70 #[.agg #[.bool false, .slice A1 a.length c1], .agg #[.bool false, .slice A2 b.length c2]] w (RetNn F w p) := by
  have h := refAdd_any F w hF A1 A2 c1 c2 a b m n ha hb ga gb la lb ma mb
  rw [natneg, natneg] at h
  exact h.mono fun e w' h => by rw [← hp]; exact RetN.nat (by rw [Int.natCast_add]; exact h)
theorem CnI.len_of {l : List Nat} {n m K : Nat} (h : CnI l (n : Int)) (hn : n ≤ m) (hm : m < 65536 ^ K) : l.length ≤ K := h.len_le (by rw [Int.natAbs_natCast]; exact Nat.lt_of_le_of_lt hn hm)
end Go.Proofs.Ytmmieilogpmocaa
