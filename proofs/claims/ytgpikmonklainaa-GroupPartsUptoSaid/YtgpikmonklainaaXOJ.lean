/- Order: what is asked, as an argument. No condition. -/
import Derived.Test.YtgpikmonklainaaXM2
import Derived.Test.YtgpikmonklainaaXG3
namespace Go.Od
open Go Go.Vc Go.Vl
def boOf {H : Type} : DataW H → Bool
  | .lit (.bool b) => b
  | _ => false
def askO {H : Type} : DataW H → DataW H × DataW H × DataW H × Int
  | .agg [r, k, d, .lit (.int _ n)] => (r, k, d, n)
  | _ => (.nil, .nil, .nil, 0)
def AskS (rows keys : List (List V3)) (dn : List Bool) (limit : Int) (v : Value) (w : World) : Prop :=
  ∃ vr vk vd, v = .agg [vr, vk, vd, .int .i64 limit].toArray ∧ RowsR noG rows vr w ∧ RowsR noG keys vk w ∧ SlC boC 1 dn vd w
structure AskSTy (P : Program) (tA tRs tVs tV tI tJ tS tBs tB tN : TypeId) : Prop extends ValTy P tV tI tJ tS where
  hA : P.underlying tA = some (.struct (P.fieldsOf tA))
  fA : (P.fieldsOf tA).map (fun f => (f.type, f.offset)) = #[(tRs, 0), (tRs, 1), (tBs, 2), (tN, 3)]
  cA : P.cellsOf tA = 4
  hRs : P.underlying tRs = some (.slice tVs)
  cRs : P.cellsOf tRs = 1
  hVs : P.underlying tVs = some (.slice tV)
  cVs : P.cellsOf tVs = 1
  hBs : P.underlying tBs = some (.slice tB)
  cBs : P.cellsOf tBs = 1
  hB : P.underlying tB = some .bool
  cB : P.cellsOf tB = 1
  hN : P.underlying tN = some (.int .i64)
  cN : P.cellsOf tN = 1
section
variable {H : Type} {enc : TypeId × Value → H} {P : Program} {w : World} {base : Nat} {spare : Nat → Bool} {held : Bool}
end
section
variable {P : Program} {c : Ctx} {K : List (Nat × Ty)} {L : List Own} {Φ : List (World → Prop)} {Q : Exit → Act → World → Prop}
theorem Sub.rowsF {rps : List RV} {rows : List (List V3)} {ra : Option Addr} {rl rc : Nat} (h : RowG RV.c 1 rps ra rl ∈ Φ) (hF : RVF rps ∈ Φ) (hc : rl ≤ rc) (hm : rps.map RV.row = rows) : Sub L Φ (.is (.slice ra rl rc)) (.rep (RowsR noG rows)) := fun E v w hf e => by
  rw [show v = _ from e]
  exact fun w' hk => ⟨rps, ra, rl, rc, hm, rfl, hc, hf.2 _ h w' hk, hf.2 _ hF w' hk, trivial⟩
end
end Go.Od
