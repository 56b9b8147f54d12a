/- The program logic, part 9. No condition. -/
import Derived.Test.YtbedigkncjbggaaGreatDoorXG7
namespace Go.Vc
open Go
def Stb (F : World → Prop) : Prop := ∀ (X : Nat → Prop) (w w' : World), Keeps X w w' → F w → F w'
section
variable {P : Program} {c : Ctx} {K : List (Nat × Ty)} {L : List Own} {Φ : List (World → Prop)} {Q : Exit → Act → World → Prop}
end
end Go.Vc
