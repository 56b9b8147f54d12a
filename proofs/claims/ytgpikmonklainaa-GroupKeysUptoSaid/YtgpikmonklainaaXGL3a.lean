/- Group: parts and the whole; plain laws. No condition. -/
import Derived.Test.YtgpikmonklainaaXGL2
namespace Go.Proofs.Ytgpikmonklainaa
open Go Go.Vc Go.Vl Go.Od
abbrev row4 (v : V3) : List V3 := [v, v, v, v]
abbrev pA (vals : List V3) : List (List V3) := vals.map row4
def t4 (vs : List V3) : List V3 := [nV vs.length, if vs.length = 0 then v30 else nV (sm vs), pkA (-1) vs, pkA 1 vs]
def kd5 : List Int := [21, 21, 22, 23]
end Go.Proofs.Ytgpikmonklainaa
