/- group: the law of the whole. No condition. -/
import Derived.Test.YtgpikmonklainaaXGL1
set_option maxRecDepth 20000
namespace Go.Proofs.Ytgpikmonklainaa
open Go Go.Vc
open Go.Vl Go.Od
abbrev nul4 : List V3 := [v30, v30, v30, v30]
def kd4 : List Int := [20, 21, 22, 23]
def wK (k : Nat) : List (List V3) := List.replicate k []
def wA (k : Nat) : List (List V3) := List.replicate k nul4
def wR (k : Nat) (whole : Bool) : List (List V3) := if k == 0 && !whole then [] else [[nV 0, v30, v30, v30]]
def wC (k : Nat) (ps : List RV) : List Value := ps.map RV.v ++ List.replicate (k - ps.length) (.slice none 0 0)
end Go.Proofs.Ytgpikmonklainaa
