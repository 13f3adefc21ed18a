/-
  A fraction's words.
-/
import Derived.Test.YtdgpdafkngoegaaRat1
import Derived.Test.YtdgpdafkngoegaaOpenRat
namespace Go.Proofs.Ytdgpdafkngoegaa
set_option linter.unusedVariables false

theorem iL_sv {a b c d : Int} (ha : Wd a) (hb : Wd b) (hc : Wd c) (hd : Wd d) : iL (sv a b c d) = [.int .u64 a, .int .u64 b, .int .u64 c, .int .u64 d] := by
  have h : Value.agg (iL (sv a b c d)).toArray = _ := iV_sv ha hb hc hd
  injection h with h
  exact congrArg Array.toList h
theorem rV_sv {a b c d a' b' c' d' : Int} (ha : Wd a) (hb : Wd b) (hc : Wd c) (hd : Wd d) (ha' : Wd a') (hb' : Wd b') (hc' : Wd c') (hd' : Wd d') :
    rV (sv a b c d) (sv a' b' c' d') = .agg #[.int .u64 a, .int .u64 b, .int .u64 c, .int .u64 d, .int .u64 a', .int .u64 b', .int .u64 c', .int .u64 d'] := by
  unfold rV rL
  rw [iL_sv ha hb hc hd, iL_sv ha' hb' hc' hd']
  rfl
end Go.Proofs.Ytdgpdafkngoegaa
