/- The document on groups: tell. No condition. -/
import Derived.Test.YtgpikmonklainaaXGW
set_option maxRecDepth 20000
namespace Go.Proofs.Ytgpikmonklainaa
open Go Go.Vc
open Go.Vl Go.Od
def bs1 (k : Int) (p v : V3) : V3 := if p.k == 0 || k == 22 && decide (cmpV v p < 0) || k == 23 && decide (0 < cmpV v p) then v else p
def bs (k : Int) (vs : List V3) : V3 := vs.foldl (bs1 k) v30
theorem nn_len (l : List V3) : (nn l).length ≤ l.length := List.length_filter_le _ _
theorem take_snocV {xs : List V3} {i : Nat} (h : i < xs.length) : xs.take (i + 1) = xs.take i ++ [xs.getD i v3E] := by
  rw [List.take_add_one, getD_some (d := v3E) h]; rfl
abbrev nmL (vs : List V3) : List Int := vs.map fun v => v.n
theorem tv20 (vs : List V3) : tellV 20 vs = (⟨1, vs.length, e0⟩, 0) := rfl
theorem tv21 (vs : List V3) : tellV 21 vs = if vs.length = 0 then (v30, 0) else if -9223372036854775808 ≤ sm vs ∧ sm vs < 9223372036854775808 then (⟨1, sm vs, e0⟩, 0) else (v30, 35) := rfl
end Go.Proofs.Ytgpikmonklainaa
