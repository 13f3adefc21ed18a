/-
  Resources: bytes as a string; numbers in decimal. Nothing of the program stands here.
-/
import Derived.Test.YtlhmjhildlnokaaOwn5
import Derived.Laws.IdiomStrings
namespace Go.Proofs.Ytlhmjhildlnokaa
set_option linter.unusedVariables false
open Go.RowKit

/-- Bytes as cells. -/
def byl (l : List UInt8) : List Value := l.map fun b => Value.int .u8 (b.toNat : Int)
theorem byl_length (l : List UInt8) : (byl l).length = l.length := by simp [byl]
theorem byl_append (l m : List UInt8) : byl (l ++ m) = byl l ++ byl m := by simp [byl]
variable {P : Program} {o : Oper} {a : Act} {w w0 : World} {B : Nat} {rs : List Res} {Q : Exit → Act → World → Prop}
/-- string(b): the bytes lie in a resource. -/
theorem o_conv {K : Act → World → Prop} {src dst e : TypeId} {x : Operand} {b off n cap : Nat} {l : List UInt8} {r : Res} (hs : P.underlying src = some (.slice e)) (he : P.underlying e = some (.int .u8)) (hd : P.underlying dst = some .string)
    (ho : o.op = .convert src dst x) (hx : a.eval x = .slice (some ⟨b, off, none⟩) n cap) (H : Own B w0 w rs) (hm : r ∈ rs) (hc : r.at b off (byl l)) (hn : n = l.length) (hk : K (a.put o.dst (.string ⟨l.toArray⟩)) w) : o.wp P a w K Q := by
  subst hn
  have h := run_convert_bytes_back (P := P) w src dst e ⟨b, off, none⟩ cap l hs he hd (fun j hj => by
    have := H.range hm hc j (.int .u8 ((l[j]).toNat : Int)) (by simp [byl, hj])
    rw [Addr.add_mid, this])
  unfold Oper.wp execOp
  simp only [ho, hx, Sem.run_bind, h]
  exact hk
/-- A slice that has grown, its cells and what lies behind them. -/
theorem Own.growCells {e n : Nat} {v : Value} {xs : List Value} (H : Own B w0 w (.grow e 1 v n xs :: rs)) (hn : 0 < n) : ∃ b cap rest, v = .slice (some ⟨b, 0, none⟩) n cap ∧ Own B w0 w (.cells b (xs ++ rest) :: rs) := by
  have h := H.holds _ m0
  rcases h.2 with ⟨rfl, rfl⟩ | ⟨g, cap, cur, rfl, hbg, hg, hnc, hcm, hcs, htake⟩
  · omega
  · have hl := H.lt _ m0 g rfl
    refine ⟨g, cap, cur.toList.drop n, rfl, ?_⟩
    have e1 : xs ++ cur.toList.drop n = cur.toList := by
      rw [Nat.mul_one] at htake
      rw [← htake, List.take_append_drop]
    rw [e1]
    refine H.tail.add _ ⟨e, by simpa using hg⟩ (fun k hk => ?_) (fun r' hr' => ?_)
    · obtain rfl : k = g := hk
      exact ⟨hl.1, fun _ => hl.2 rfl⟩
    · rcases (List.pairwise_cons.1 H.apart).1 r' hr' with h' | h'
      · exact absurd h'.1 (by simp [Res.ro])
      · refine .inr fun k hk => ?_
        obtain rfl : k = g := hk
        exact h' k rfl
/-- What grows is a slice. -/
theorem Own.growForm {e size n : Nat} {v : Value} {xs : List Value} (H : Own B w0 w rs) (hm : Res.grow e size v n xs ∈ rs) : ∃ A c, v = .slice A n c := by
  have h := H.holds _ hm
  rcases h.2 with ⟨rfl, rfl⟩ | ⟨g, cap, cur, rfl, _⟩
  · exact ⟨none, 0, rfl⟩
  · exact ⟨_, _, rfl⟩
/-- A number in decimal. -/
def decL (n : Nat) : List UInt8 := (if n < 10 then [] else decL (n / 10)) ++ [UInt8.ofNat (48 + n % 10)]
termination_by n
decreasing_by omega
theorem decL_eq (n : Nat) : decL n = (if n < 10 then [] else decL (n / 10)) ++ [UInt8.ofNat (48 + n % 10)] := by
  conv => lhs; rw [decL]
theorem dig_byte {r : Nat} (h : r < 10) : (UInt8.ofNat (48 + r)).toNat = 48 + r := by
  rw [UInt8.toNat_ofNat']; omega
/-- A whole number in decimal. -/
def textL (x : Int) : List UInt8 := (if x < 0 then [45] else []) ++ decL x.natAbs
theorem decL_len : ∀ (k n : Nat), n < 2 ^ k → (decL n).length ≤ k + 1 := by
  intro k
  induction k with
  | zero => intro n h; rw [decL_eq, if_pos (by omega)]; simp
  | succ k ih =>
    intro n h
    rw [decL_eq]
    by_cases h1 : n < 10
    · rw [if_pos h1]; simp
    · rw [if_neg h1]
      have := ih (n / 10) (by rw [Nat.pow_succ] at h; omega)
      simp; omega
theorem str_add (l m : List UInt8) : (⟨l.toArray⟩ : ByteArray) ++ ⟨m.toArray⟩ = ⟨(l ++ m).toArray⟩ := by
  apply ByteArray.ext
  simp
end Go.Proofs.Ytlhmjhildlnokaa
