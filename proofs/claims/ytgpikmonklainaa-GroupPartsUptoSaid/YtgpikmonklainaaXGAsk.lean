/- Group: what is asked, as an argument. No condition. -/
import Derived.Test.YtgpikmonklainaaXOJ
import Derived.Test.YtgpikmonklainaaXGN
namespace Go.Od
open Go Go.Vc Go.Vl
open Go.Proofs.Ytgpikmonklainaa (kC kC_len)
def inOf {H : Type} : DataW H → Int
  | .lit (.int _ n) => n
  | _ => 0
def askG {H : Type} : DataW H → DataW H × DataW H × DataW H
  | .agg [r, k, d] => (r, k, d)
  | _ => (.nil, .nil, .nil)
def AskG (rows keys : List (List V3)) (dn : List Int) (v : Value) (w : World) : Prop :=
  ∃ vr vk vd, v = .agg [vr, vk, vd].toArray ∧ RowsR noG rows vr w ∧ RowsR noG keys vk w ∧ SlC kC 1 dn vd w
structure AskGTy (P : Program) (tA tRs tVs tV tI tJ tS tBs tB : TypeId) : Prop extends ValTy P tV tI tJ tS where
  hA : P.underlying tA = some (.struct (P.fieldsOf tA))
  fA : (P.fieldsOf tA).map (fun f => (f.type, f.offset)) = #[(tRs, 0), (tRs, 1), (tBs, 2)]
  cA : P.cellsOf tA = 3
  hRs : P.underlying tRs = some (.slice tVs)
  cRs : P.cellsOf tRs = 1
  hVs : P.underlying tVs = some (.slice tV)
  cVs : P.cellsOf tVs = 1
  hBs : P.underlying tBs = some (.slice tB)
  cBs : P.cellsOf tBs = 1
  hB : P.underlying tB = some (.int .i64)
  cB : P.cellsOf tB = 1
section
variable {H : Type} {enc : TypeId × Value → H} {P : Program} {w : World} {base : Nat} {spare : Nat → Bool} {held : Bool}
end
section
variable {P : Program} {c : Ctx} {K : List (Nat × Ty)} {L : List Own} {Φ : List (World → Prop)} {Q : Exit → Act → World → Prop}
end
end Go.Od
