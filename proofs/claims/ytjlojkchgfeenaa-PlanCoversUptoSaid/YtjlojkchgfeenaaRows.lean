/-
  NARROWER THAN 'FOR EVERY INPUT', by the rows' own cells (each row's printed sentence says how): BindNames: loops · BindTwice: loops · BindMoves: loops · ExprEvals: loops · ExprLogic: loops · ExprOrder: loops · ExprStops: loops · ExprNulls: loops · PlanCovers: loops.
  DERIVED. THE GIVEN ROWS OF THIS SEAT. 12 by the template 'for every input the law returns true; each argument reads behind the call as it read before'; 0 by the template 'total and deterministic' (their statements: YtjlojkchgfeenaaTotals.lean).
  GIVEN WITH THE SEED: the statements are not yours to turn. If you find one false, say at which input.
  Laid BY PROGRAM, IN A SANDBOX (cutbox-rows.mjs): the forced cells as the released guide's own fill.sh prints them over the translation 34b8fe3d224b41a3… (all of the seat's roots in one cut). By AI agents, Wed Nov 11 2026. No macro, syntax, notation, axiom, sorry.
-/
import Derived.Test.YtjlojkchgfeenaaChecked
import GoSem.Claim
import GoSem.ClaimJoined
import GoSem.ClaimMapViews
import Derived.JoinedTies
import Derived.KernelRfl
namespace Go.Proofs.Ytjlojkchgfeenaa
/- THE CELL 'sum', in the pinned program and in every row, IS THE sha256 OF THE DUMP (.gsa) THAT YtjlojkchgfeenaaProg.lean LOADS. Nothing in Lean hashes anything: it is a label: what it is worth is what the hold of that sum in a sandbox is worth. -/
noncomputable def Try.pinned : Pinned := { name := "ytjlojkchgfeenaa", sum := "34b8fe3d224b41a3b6b56ff66b287918595baa1569fae9915c263c7b9ea73abd", checked := Try.checked }
namespace Rows
def none {H : Type} : Left H := { results := [], args := [] }

/-- 'cadastrelaw14.BindNames': WHATEVER THE INPUT: true; the input reads as it did. -/
def bindNamesSpec : ChangeSpec := { name := "bindNames", fn := fun _ => fun
  | [d1, d2, d3] => { results := [.lit (.bool true)], args := [d1, d2, d3] }
  | _ => none }
def bindNamesRow : OpenClaim := { program := "ytjlojkchgfeenaa", sum := "34b8fe3d224b41a3b6b56ff66b287918595baa1569fae9915c263c7b9ea73abd", func := "cadastre/cadastrelaw14.BindNames", spec := "bindNames", unfollowed := true, recurses := true, loops := true, apart := false }
def BindNamesSaid : Prop := bindNamesRow.holds Try.pinned (OpenSpec.ofChange bindNamesSpec)

/-- ITS FALSE NEIGHBOUR: 'it returns false'. Refute it at one input. -/
def bindNamesWrong : ChangeSpec := { name := "bindNames", fn := fun _ => fun
  | [d1, d2, d3] => { results := [.lit (.bool false)], args := [d1, d2, d3] }
  | _ => none }
def BindNamesWrongFalsely : Prop := bindNamesRow.holds Try.pinned (OpenSpec.ofChange bindNamesWrong)

/-- 'cadastrelaw14.BindTwice': WHATEVER THE INPUT: true; the input reads as it did. -/
def bindTwiceSpec : ChangeSpec := { name := "bindTwice", fn := fun _ => fun
  | [d1, d2] => { results := [.lit (.bool true)], args := [d1, d2] }
  | _ => none }
def bindTwiceRow : OpenClaim := { program := "ytjlojkchgfeenaa", sum := "34b8fe3d224b41a3b6b56ff66b287918595baa1569fae9915c263c7b9ea73abd", func := "cadastre/cadastrelaw14.BindTwice", spec := "bindTwice", unfollowed := true, recurses := true, loops := true, apart := false }
def BindTwiceSaid : Prop := bindTwiceRow.holds Try.pinned (OpenSpec.ofChange bindTwiceSpec)

/-- ITS FALSE NEIGHBOUR: 'it returns false'. Refute it at one input. -/
def bindTwiceWrong : ChangeSpec := { name := "bindTwice", fn := fun _ => fun
  | [d1, d2] => { results := [.lit (.bool false)], args := [d1, d2] }
  | _ => none }
def BindTwiceWrongFalsely : Prop := bindTwiceRow.holds Try.pinned (OpenSpec.ofChange bindTwiceWrong)

/-- 'cadastrelaw14.BindMoves': WHATEVER THE INPUT: true; the input reads as it did. -/
def bindMovesSpec : ChangeSpec := { name := "bindMoves", fn := fun _ => fun
  | [d1, d2, d3] => { results := [.lit (.bool true)], args := [d1, d2, d3] }
  | _ => none }
def bindMovesRow : OpenClaim := { program := "ytjlojkchgfeenaa", sum := "34b8fe3d224b41a3b6b56ff66b287918595baa1569fae9915c263c7b9ea73abd", func := "cadastre/cadastrelaw14.BindMoves", spec := "bindMoves", unfollowed := true, recurses := true, loops := true, apart := false }
def BindMovesSaid : Prop := bindMovesRow.holds Try.pinned (OpenSpec.ofChange bindMovesSpec)

/-- ITS FALSE NEIGHBOUR: 'it returns false'. Refute it at one input. -/
def bindMovesWrong : ChangeSpec := { name := "bindMoves", fn := fun _ => fun
  | [d1, d2, d3] => { results := [.lit (.bool false)], args := [d1, d2, d3] }
  | _ => none }
def BindMovesWrongFalsely : Prop := bindMovesRow.holds Try.pinned (OpenSpec.ofChange bindMovesWrong)

/-- 'cadastrelaw12.ExprEvals': WHATEVER THE INPUT: true; the input reads as it did. -/
def exprEvalsSpec : ChangeSpec := { name := "exprEvals", fn := fun _ => fun
  | [d1, d2] => { results := [.lit (.bool true)], args := [d1, d2] }
  | _ => none }
def exprEvalsRow : OpenClaim := { program := "ytjlojkchgfeenaa", sum := "34b8fe3d224b41a3b6b56ff66b287918595baa1569fae9915c263c7b9ea73abd", func := "cadastre/cadastrelaw12.ExprEvals", spec := "exprEvals", unfollowed := true, recurses := true, loops := true, apart := false }
def ExprEvalsSaid : Prop := exprEvalsRow.holds Try.pinned (OpenSpec.ofChange exprEvalsSpec)

/-- ITS FALSE NEIGHBOUR: 'it returns false'. Refute it at one input. -/
def exprEvalsWrong : ChangeSpec := { name := "exprEvals", fn := fun _ => fun
  | [d1, d2] => { results := [.lit (.bool false)], args := [d1, d2] }
  | _ => none }
def ExprEvalsWrongFalsely : Prop := exprEvalsRow.holds Try.pinned (OpenSpec.ofChange exprEvalsWrong)

/-- 'cadastrelaw12.ExprNumbers': WHATEVER THE INPUT: true; the input reads as it did. -/
def exprNumbersSpec : ChangeSpec := { name := "exprNumbers", fn := fun _ => fun
  | [d1, d2, d3] => { results := [.lit (.bool true)], args := [d1, d2, d3] }
  | _ => none }
def exprNumbersRow : OpenClaim := { program := "ytjlojkchgfeenaa", sum := "34b8fe3d224b41a3b6b56ff66b287918595baa1569fae9915c263c7b9ea73abd", func := "cadastre/cadastrelaw12.ExprNumbers", spec := "exprNumbers", unfollowed := true, recurses := true, apart := false }
def ExprNumbersSaid : Prop := exprNumbersRow.holds Try.pinned (OpenSpec.ofChange exprNumbersSpec)

/-- ITS FALSE NEIGHBOUR: 'it returns false'. Refute it at one input. -/
def exprNumbersWrong : ChangeSpec := { name := "exprNumbers", fn := fun _ => fun
  | [d1, d2, d3] => { results := [.lit (.bool false)], args := [d1, d2, d3] }
  | _ => none }
def ExprNumbersWrongFalsely : Prop := exprNumbersRow.holds Try.pinned (OpenSpec.ofChange exprNumbersWrong)

/-- 'cadastrelaw12.ExprLogic': WHATEVER THE INPUT: true; the input reads as it did. -/
def exprLogicSpec : ChangeSpec := { name := "exprLogic", fn := fun _ => fun
  | [d1, d2, d3] => { results := [.lit (.bool true)], args := [d1, d2, d3] }
  | _ => none }
def exprLogicRow : OpenClaim := { program := "ytjlojkchgfeenaa", sum := "34b8fe3d224b41a3b6b56ff66b287918595baa1569fae9915c263c7b9ea73abd", func := "cadastre/cadastrelaw12.ExprLogic", spec := "exprLogic", unfollowed := true, recurses := true, loops := true, apart := false }
def ExprLogicSaid : Prop := exprLogicRow.holds Try.pinned (OpenSpec.ofChange exprLogicSpec)

/-- ITS FALSE NEIGHBOUR: 'it returns false'. Refute it at one input. -/
def exprLogicWrong : ChangeSpec := { name := "exprLogic", fn := fun _ => fun
  | [d1, d2, d3] => { results := [.lit (.bool false)], args := [d1, d2, d3] }
  | _ => none }
def ExprLogicWrongFalsely : Prop := exprLogicRow.holds Try.pinned (OpenSpec.ofChange exprLogicWrong)

/-- 'cadastrelaw12.ExprOrder': WHATEVER THE INPUT: true; the input reads as it did. -/
def exprOrderSpec : ChangeSpec := { name := "exprOrder", fn := fun _ => fun
  | [d1, d2, d3] => { results := [.lit (.bool true)], args := [d1, d2, d3] }
  | _ => none }
def exprOrderRow : OpenClaim := { program := "ytjlojkchgfeenaa", sum := "34b8fe3d224b41a3b6b56ff66b287918595baa1569fae9915c263c7b9ea73abd", func := "cadastre/cadastrelaw12.ExprOrder", spec := "exprOrder", unfollowed := true, recurses := true, loops := true, apart := false }
def ExprOrderSaid : Prop := exprOrderRow.holds Try.pinned (OpenSpec.ofChange exprOrderSpec)

/-- ITS FALSE NEIGHBOUR: 'it returns false'. Refute it at one input. -/
def exprOrderWrong : ChangeSpec := { name := "exprOrder", fn := fun _ => fun
  | [d1, d2, d3] => { results := [.lit (.bool false)], args := [d1, d2, d3] }
  | _ => none }
def ExprOrderWrongFalsely : Prop := exprOrderRow.holds Try.pinned (OpenSpec.ofChange exprOrderWrong)

/-- 'cadastrelaw12.ExprStops': WHATEVER THE INPUT: true; the input reads as it did. -/
def exprStopsSpec : ChangeSpec := { name := "exprStops", fn := fun _ => fun
  | [d1, d2, d3] => { results := [.lit (.bool true)], args := [d1, d2, d3] }
  | _ => none }
def exprStopsRow : OpenClaim := { program := "ytjlojkchgfeenaa", sum := "34b8fe3d224b41a3b6b56ff66b287918595baa1569fae9915c263c7b9ea73abd", func := "cadastre/cadastrelaw12.ExprStops", spec := "exprStops", unfollowed := true, recurses := true, loops := true, apart := false }
def ExprStopsSaid : Prop := exprStopsRow.holds Try.pinned (OpenSpec.ofChange exprStopsSpec)

/-- ITS FALSE NEIGHBOUR: 'it returns false'. Refute it at one input. -/
def exprStopsWrong : ChangeSpec := { name := "exprStops", fn := fun _ => fun
  | [d1, d2, d3] => { results := [.lit (.bool false)], args := [d1, d2, d3] }
  | _ => none }
def ExprStopsWrongFalsely : Prop := exprStopsRow.holds Try.pinned (OpenSpec.ofChange exprStopsWrong)

/-- 'cadastrelaw12.ExprNulls': WHATEVER THE INPUT: true; the input reads as it did. -/
def exprNullsSpec : ChangeSpec := { name := "exprNulls", fn := fun _ => fun
  | [d] => { results := [.lit (.bool true)], args := [d] }
  | _ => none }
def exprNullsRow : OpenClaim := { program := "ytjlojkchgfeenaa", sum := "34b8fe3d224b41a3b6b56ff66b287918595baa1569fae9915c263c7b9ea73abd", func := "cadastre/cadastrelaw12.ExprNulls", spec := "exprNulls", unfollowed := true, recurses := true, loops := true, apart := false }
def ExprNullsSaid : Prop := exprNullsRow.holds Try.pinned (OpenSpec.ofChange exprNullsSpec)

/-- ITS FALSE NEIGHBOUR: 'it returns false'. Refute it at one input. -/
def exprNullsWrong : ChangeSpec := { name := "exprNulls", fn := fun _ => fun
  | [d] => { results := [.lit (.bool false)], args := [d] }
  | _ => none }
def ExprNullsWrongFalsely : Prop := exprNullsRow.holds Try.pinned (OpenSpec.ofChange exprNullsWrong)

/-- 'cadastrelaw12.ExprParts': WHATEVER THE INPUT: true; the input reads as it did. -/
def exprPartsSpec : ChangeSpec := { name := "exprParts", fn := fun _ => fun
  | [d1, d2] => { results := [.lit (.bool true)], args := [d1, d2] }
  | _ => none }
def exprPartsRow : OpenClaim := { program := "ytjlojkchgfeenaa", sum := "34b8fe3d224b41a3b6b56ff66b287918595baa1569fae9915c263c7b9ea73abd", func := "cadastre/cadastrelaw12.ExprParts", spec := "exprParts", unfollowed := true, recurses := true, apart := false }
def ExprPartsSaid : Prop := exprPartsRow.holds Try.pinned (OpenSpec.ofChange exprPartsSpec)

/-- ITS FALSE NEIGHBOUR: 'it returns false'. Refute it at one input. -/
def exprPartsWrong : ChangeSpec := { name := "exprParts", fn := fun _ => fun
  | [d1, d2] => { results := [.lit (.bool false)], args := [d1, d2] }
  | _ => none }
def ExprPartsWrongFalsely : Prop := exprPartsRow.holds Try.pinned (OpenSpec.ofChange exprPartsWrong)

/-- 'cadastrelaw18.PlanWide': WHATEVER THE INPUT: true; the input reads as it did. -/
def planWideSpec : ChangeSpec := { name := "planWide", fn := fun _ => fun
  | [d] => { results := [.lit (.bool true)], args := [d] }
  | _ => none }
def planWideRow : OpenClaim := { program := "ytjlojkchgfeenaa", sum := "34b8fe3d224b41a3b6b56ff66b287918595baa1569fae9915c263c7b9ea73abd", func := "cadastre/cadastrelaw18.PlanWide", spec := "planWide", inPlace := ["internal/abi.NoEscape", "internal/bytealg.MakeNoZero"], unfollowed := true, recurses := true, apart := false }
def PlanWideSaid : Prop := planWideRow.holds Try.pinned (OpenSpec.ofChange planWideSpec)

/-- ITS FALSE NEIGHBOUR: 'it returns false'. Refute it at one input. -/
def planWideWrong : ChangeSpec := { name := "planWide", fn := fun _ => fun
  | [d] => { results := [.lit (.bool false)], args := [d] }
  | _ => none }
def PlanWideWrongFalsely : Prop := planWideRow.holds Try.pinned (OpenSpec.ofChange planWideWrong)

/-- 'cadastrelaw18.PlanCovers': WHATEVER THE INPUT: true; the input reads as it did. -/
def planCoversSpec : ChangeSpec := { name := "planCovers", fn := fun _ => fun
  | [d1, d2, d3] => { results := [.lit (.bool true)], args := [d1, d2, d3] }
  | _ => none }
def planCoversRow : OpenClaim := { program := "ytjlojkchgfeenaa", sum := "34b8fe3d224b41a3b6b56ff66b287918595baa1569fae9915c263c7b9ea73abd", func := "cadastre/cadastrelaw18.PlanCovers", spec := "planCovers", inPlace := ["internal/abi.NoEscape", "internal/bytealg.MakeNoZero"], unfollowed := true, recurses := true, loops := true, apart := false }
def PlanCoversSaid : Prop := planCoversRow.holds Try.pinned (OpenSpec.ofChange planCoversSpec)

/-- ITS FALSE NEIGHBOUR: 'it returns false'. Refute it at one input. -/
def planCoversWrong : ChangeSpec := { name := "planCovers", fn := fun _ => fun
  | [d1, d2, d3] => { results := [.lit (.bool false)], args := [d1, d2, d3] }
  | _ => none }
def PlanCoversWrongFalsely : Prop := planCoversRow.holds Try.pinned (OpenSpec.ofChange planCoversWrong)

/- THE SECOND FORM. 'bulk': how many values and letters a reading holds, each counted each time it is reached (what is shared counts as often as it is met; a slice's spare places count too). A statement '..UptoSaid' is the law's where the arguments, and the package variables that the reading takes, are together of bulk at most 1048576: NARROWER than '..Said'. Prove '..Said' where nothing that the law and all that it calls make is longer than what came in: it says more and counts as full. Else prove '..UptoSaid'. A law counts once. -/
mutual
def uptoBulk {H : Type} : DataW H → Nat
  | .lit (.string bytes) => bytes.length + 1
  | .lit _ => 1
  | .nil => 1
  | .ptr d => uptoBulk d + 1
  | .slice elems spare => uptoBulkAll elems + uptoBulkAll spare + 1
  | .agg parts => uptoBulkAll parts + 1
  | .iface _ d => uptoBulk d + 1
  | .map entries => uptoBulkEntries entries + 1
  | .held _ => 1
def uptoBulkAll {H : Type} : List (DataW H) → Nat
  | [] => 0
  | d :: r => uptoBulk d + uptoBulkAll r
def uptoBulkEntries {H : Type} : List (Lit × DataW H) → Nat
  | [] => 0
  | x :: r => uptoBulkEntry x + uptoBulkEntries r
def uptoBulkEntry {H : Type} : Lit × DataW H → Nat
  | (.string bytes, d) => bytes.length + uptoBulk d + 1
  | (_, d) => uptoBulk d + 1
 end
def uptoSmall : (H : Type) → List (DataW H) → Bool := fun _ ds => decide (uptoBulkAll ds ≤ 1048576)
def OpenSpec.upto (s : _root_.Go.ChangeSpec) : _root_.Go.OpenSpec := { _root_.Go.OpenSpec.ofChange s with cond := some uptoSmall }

/-- 'cadastrelaw14.BindNames', WHERE WHAT IT READS IS OF BULK AT MOST 1048576: true; the input reads as it did. -/
def bindNamesUptoRow : OpenClaim := { program := "ytjlojkchgfeenaa", sum := "34b8fe3d224b41a3b6b56ff66b287918595baa1569fae9915c263c7b9ea73abd", func := "cadastre/cadastrelaw14.BindNames", spec := "bindNames", unfollowed := true, recurses := true, loops := true, apart := false, narrowed := true }
def BindNamesUptoSaid : Prop := bindNamesUptoRow.holds Try.pinned (OpenSpec.upto bindNamesSpec)

/-- 'cadastrelaw14.BindTwice', WHERE WHAT IT READS IS OF BULK AT MOST 1048576: true; the input reads as it did. -/
def bindTwiceUptoRow : OpenClaim := { program := "ytjlojkchgfeenaa", sum := "34b8fe3d224b41a3b6b56ff66b287918595baa1569fae9915c263c7b9ea73abd", func := "cadastre/cadastrelaw14.BindTwice", spec := "bindTwice", unfollowed := true, recurses := true, loops := true, apart := false, narrowed := true }
def BindTwiceUptoSaid : Prop := bindTwiceUptoRow.holds Try.pinned (OpenSpec.upto bindTwiceSpec)

/-- 'cadastrelaw14.BindMoves', WHERE WHAT IT READS IS OF BULK AT MOST 1048576: true; the input reads as it did. -/
def bindMovesUptoRow : OpenClaim := { program := "ytjlojkchgfeenaa", sum := "34b8fe3d224b41a3b6b56ff66b287918595baa1569fae9915c263c7b9ea73abd", func := "cadastre/cadastrelaw14.BindMoves", spec := "bindMoves", unfollowed := true, recurses := true, loops := true, apart := false, narrowed := true }
def BindMovesUptoSaid : Prop := bindMovesUptoRow.holds Try.pinned (OpenSpec.upto bindMovesSpec)

/-- 'cadastrelaw12.ExprEvals', WHERE WHAT IT READS IS OF BULK AT MOST 1048576: true; the input reads as it did. -/
def exprEvalsUptoRow : OpenClaim := { program := "ytjlojkchgfeenaa", sum := "34b8fe3d224b41a3b6b56ff66b287918595baa1569fae9915c263c7b9ea73abd", func := "cadastre/cadastrelaw12.ExprEvals", spec := "exprEvals", unfollowed := true, recurses := true, loops := true, apart := false, narrowed := true }
def ExprEvalsUptoSaid : Prop := exprEvalsUptoRow.holds Try.pinned (OpenSpec.upto exprEvalsSpec)

/-- 'cadastrelaw12.ExprNumbers', WHERE WHAT IT READS IS OF BULK AT MOST 1048576: true; the input reads as it did. -/
def exprNumbersUptoRow : OpenClaim := { program := "ytjlojkchgfeenaa", sum := "34b8fe3d224b41a3b6b56ff66b287918595baa1569fae9915c263c7b9ea73abd", func := "cadastre/cadastrelaw12.ExprNumbers", spec := "exprNumbers", unfollowed := true, recurses := true, apart := false, narrowed := true }
def ExprNumbersUptoSaid : Prop := exprNumbersUptoRow.holds Try.pinned (OpenSpec.upto exprNumbersSpec)

/-- 'cadastrelaw12.ExprLogic', WHERE WHAT IT READS IS OF BULK AT MOST 1048576: true; the input reads as it did. -/
def exprLogicUptoRow : OpenClaim := { program := "ytjlojkchgfeenaa", sum := "34b8fe3d224b41a3b6b56ff66b287918595baa1569fae9915c263c7b9ea73abd", func := "cadastre/cadastrelaw12.ExprLogic", spec := "exprLogic", unfollowed := true, recurses := true, loops := true, apart := false, narrowed := true }
def ExprLogicUptoSaid : Prop := exprLogicUptoRow.holds Try.pinned (OpenSpec.upto exprLogicSpec)

/-- 'cadastrelaw12.ExprOrder', WHERE WHAT IT READS IS OF BULK AT MOST 1048576: true; the input reads as it did. -/
def exprOrderUptoRow : OpenClaim := { program := "ytjlojkchgfeenaa", sum := "34b8fe3d224b41a3b6b56ff66b287918595baa1569fae9915c263c7b9ea73abd", func := "cadastre/cadastrelaw12.ExprOrder", spec := "exprOrder", unfollowed := true, recurses := true, loops := true, apart := false, narrowed := true }
def ExprOrderUptoSaid : Prop := exprOrderUptoRow.holds Try.pinned (OpenSpec.upto exprOrderSpec)

/-- 'cadastrelaw12.ExprStops', WHERE WHAT IT READS IS OF BULK AT MOST 1048576: true; the input reads as it did. -/
def exprStopsUptoRow : OpenClaim := { program := "ytjlojkchgfeenaa", sum := "34b8fe3d224b41a3b6b56ff66b287918595baa1569fae9915c263c7b9ea73abd", func := "cadastre/cadastrelaw12.ExprStops", spec := "exprStops", unfollowed := true, recurses := true, loops := true, apart := false, narrowed := true }
def ExprStopsUptoSaid : Prop := exprStopsUptoRow.holds Try.pinned (OpenSpec.upto exprStopsSpec)

/-- 'cadastrelaw12.ExprNulls', WHERE WHAT IT READS IS OF BULK AT MOST 1048576: true; the input reads as it did. -/
def exprNullsUptoRow : OpenClaim := { program := "ytjlojkchgfeenaa", sum := "34b8fe3d224b41a3b6b56ff66b287918595baa1569fae9915c263c7b9ea73abd", func := "cadastre/cadastrelaw12.ExprNulls", spec := "exprNulls", unfollowed := true, recurses := true, loops := true, apart := false, narrowed := true }
def ExprNullsUptoSaid : Prop := exprNullsUptoRow.holds Try.pinned (OpenSpec.upto exprNullsSpec)

/-- 'cadastrelaw12.ExprParts', WHERE WHAT IT READS IS OF BULK AT MOST 1048576: true; the input reads as it did. -/
def exprPartsUptoRow : OpenClaim := { program := "ytjlojkchgfeenaa", sum := "34b8fe3d224b41a3b6b56ff66b287918595baa1569fae9915c263c7b9ea73abd", func := "cadastre/cadastrelaw12.ExprParts", spec := "exprParts", unfollowed := true, recurses := true, apart := false, narrowed := true }
def ExprPartsUptoSaid : Prop := exprPartsUptoRow.holds Try.pinned (OpenSpec.upto exprPartsSpec)

/-- 'cadastrelaw18.PlanWide', WHERE WHAT IT READS IS OF BULK AT MOST 1048576: true; the input reads as it did. -/
def planWideUptoRow : OpenClaim := { program := "ytjlojkchgfeenaa", sum := "34b8fe3d224b41a3b6b56ff66b287918595baa1569fae9915c263c7b9ea73abd", func := "cadastre/cadastrelaw18.PlanWide", spec := "planWide", inPlace := ["internal/abi.NoEscape", "internal/bytealg.MakeNoZero"], unfollowed := true, recurses := true, apart := false, narrowed := true }
def PlanWideUptoSaid : Prop := planWideUptoRow.holds Try.pinned (OpenSpec.upto planWideSpec)

/-- 'cadastrelaw18.PlanCovers', WHERE WHAT IT READS IS OF BULK AT MOST 1048576: true; the input reads as it did. -/
def planCoversUptoRow : OpenClaim := { program := "ytjlojkchgfeenaa", sum := "34b8fe3d224b41a3b6b56ff66b287918595baa1569fae9915c263c7b9ea73abd", func := "cadastre/cadastrelaw18.PlanCovers", spec := "planCovers", inPlace := ["internal/abi.NoEscape", "internal/bytealg.MakeNoZero"], unfollowed := true, recurses := true, loops := true, apart := false, narrowed := true }
def PlanCoversUptoSaid : Prop := planCoversUptoRow.holds Try.pinned (OpenSpec.upto planCoversSpec)

end Rows
end Go.Proofs.Ytjlojkchgfeenaa
