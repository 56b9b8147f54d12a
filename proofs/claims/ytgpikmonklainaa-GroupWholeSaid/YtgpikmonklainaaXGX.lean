/- The document on groups: tell. No condition. -/
import Derived.Test.YtgpikmonklainaaXGW
set_option maxRecDepth 20000
namespace Go.Proofs.Ytgpikmonklainaa
open Go Go.Vc
open Go.Vl Go.Od
def bs1 (k : Int) (p v : V3) : V3 := if p.k == 0 || k == 22 && decide (cmpV v p < 0) || k == 23 && decide (0 < cmpV v p) then v else p
def bs (k : Int) (vs : List V3) : V3 := vs.foldl (bs1 k) v30
abbrev nmL (vs : List V3) : List Int := vs.map fun v => v.n
end Go.Proofs.Ytgpikmonklainaa
