/- Ssi: what a script that is read in holds. No condition. -/
import Derived.Test.YtggmifnkgcladaaXLA
import Derived.Test.YtggmifnkgcladaaXG3
namespace Go.Si
open Go Go.Vc Go.Vl Go.Proofs.Ytggmifnkgcladaa
structure OpTy (P : Program) (tOs tO tR tW tVs tV tI tJ tS : TypeId) : Prop extends ValTy P tV tI tJ tS where
  hR : P.underlying tR = some (.struct (P.fieldsOf tR))
  fR : (P.fieldsOf tR).map (fun f => (f.type, f.offset)) = #[(tS, 0), (tI, 1), (tV, 2), (tV, 5)]
  cR : P.cellsOf tR = 8
  hW : P.underlying tW = some (.struct (P.fieldsOf tW))
  fW : (P.fieldsOf tW).map (fun f => (f.type, f.offset)) = #[(tS, 0), (tVs, 1), (tVs, 2)]
  cW : P.cellsOf tW = 3
  hO : P.underlying tO = some (.struct (P.fieldsOf tO))
  fO : (P.fieldsOf tO).map (fun f => (f.type, f.offset)) = #[(tI, 0), (tI, 1), (tR, 2), (tW, 10)]
  cO : P.cellsOf tO = 13
  hVs : P.underlying tVs = some (.slice tV)
  cVs : P.cellsOf tVs = 1
  hOs : P.underlying tOs = some (.slice tO)
def wrOf {H : Type} : DataW H → List V3 × List V3
  | .agg [_, o, n] => (rowOf o, rowOf n)
  | _ => ([], [])
def opOfS {H : Type} : DataW H → List V3 × List V3
  | .agg [_, _, _, w] => wrOf w
  | _ => ([], [])
section
variable {H : Type} {enc : TypeId × Value → H} {P : Program} {w : World} {base : Nat} {spare : Nat → Bool} {held : Bool} {tOs tO tR tW tVs tV tI tJ tS : TypeId}
def OpsB {H : Type} (ops : List OpA) (d : DataW H) : Prop := ops.length = (slOf opOfS d).length ∧ ∀ q ∈ ops, (q.w.o.row, q.w.n.row) ∈ slOf opOfS d
end
end Go.Si
