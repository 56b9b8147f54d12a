/- The document on groups: may, check, sum. No condition. -/
import Derived.Test.YtgpikmonklainaaXM3
import Derived.Test.YtgpikmonklainaaXR5
set_option maxRecDepth 20000
namespace Go.Proofs.Ytgpikmonklainaa
open Go Go.Vc
open Go.Vl Go.Od
def sI : List Int → Int
  | [] => 0
  | x :: xs => x + sI xs
def loL (xs : List Int) : Int := sI (xs.map fun x => x % 4294967296)
def hiL (xs : List Int) : Int := sI (xs.map fun x => x / 4294967296)
section
variable {P : Program} {L : List Own} {Φ : List (World → Prop)} {H : Know} {dst : Option Nat} {ty : TypeId} {pos : String} {after : Array Edge} {g : Option (Nat × Bool)}
end
end Go.Proofs.Ytgpikmonklainaa
