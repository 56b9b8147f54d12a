/-
  No cell of these rows narrows 'for every input' (looked for: loops, veiled, ifaces, maps, wideKeys, modest, calm, conditions, laid).
  DERIVED. THE GIVEN ROWS OF THIS SEAT. 6 by the template 'for every input the law returns true; each argument reads behind the call as it read before'; 0 by the template 'total and deterministic' (their statements: YtggmifnkgcladaaTotals.lean).
  GIVEN WITH THE SEED: the statements are not yours to turn. If you find one false, say at which input.
  Laid BY PROGRAM, IN A SANDBOX (cutbox-rows.mjs): the forced cells as the released guide's own fill.sh prints them over the translation 40f1d759103f06e9… (all of the seat's roots in one cut). By AI agents, Wed Nov 11 2026. No macro, syntax, notation, axiom, sorry.
-/
import Derived.Test.YtggmifnkgcladaaChecked
import GoSem.Claim
import GoSem.ClaimJoined
import GoSem.ClaimMapViews
import Derived.JoinedTies
import Derived.KernelRfl
namespace Go.Proofs.Ytggmifnkgcladaa
/- THE CELL 'sum', in the pinned program and in every row, IS THE sha256 OF THE DUMP (.gsa) THAT YtggmifnkgcladaaProg.lean LOADS. Nothing in Lean hashes anything: it is a label: what it is worth is what the hold of that sum in a sandbox is worth. -/
noncomputable def Try.pinned : Pinned := { name := "ytggmifnkgcladaa", sum := "40f1d759103f06e90a94f90a79bbddadeb6bbbae872d1963d4ab8bc474879531", checked := Try.checked }
namespace Rows
def none {H : Type} : Left H := { results := [], args := [] }

/-- 'cadastrelaw20.SsiScripts': WHATEVER THE INPUT: true; the input reads as it did. -/
def ssiScriptsSpec : ChangeSpec := { name := "ssiScripts", fn := fun _ => fun
  | [d] => { results := [.lit (.bool true)], args := [d] }
  | _ => none }
def ssiScriptsRow : OpenClaim := { program := "ytggmifnkgcladaa", sum := "40f1d759103f06e90a94f90a79bbddadeb6bbbae872d1963d4ab8bc474879531", func := "cadastre/cadastrelaw20.SsiScripts", spec := "ssiScripts", unfollowed := true, recurses := true, apart := false }
def SsiScriptsSaid : Prop := ssiScriptsRow.holds Try.pinned (OpenSpec.ofChange ssiScriptsSpec)

/-- ITS FALSE NEIGHBOUR: 'it returns false'. Refute it at one input. -/
def ssiScriptsWrong : ChangeSpec := { name := "ssiScripts", fn := fun _ => fun
  | [d] => { results := [.lit (.bool false)], args := [d] }
  | _ => none }
def SsiScriptsWrongFalsely : Prop := ssiScriptsRow.holds Try.pinned (OpenSpec.ofChange ssiScriptsWrong)

/-- 'cadastrelaw20.SsiSerial': WHATEVER THE INPUT: true; the input reads as it did. -/
def ssiSerialSpec : ChangeSpec := { name := "ssiSerial", fn := fun _ => fun
  | [d] => { results := [.lit (.bool true)], args := [d] }
  | _ => none }
def ssiSerialRow : OpenClaim := { program := "ytggmifnkgcladaa", sum := "40f1d759103f06e90a94f90a79bbddadeb6bbbae872d1963d4ab8bc474879531", func := "cadastre/cadastrelaw20.SsiSerial", spec := "ssiSerial", unfollowed := true, recurses := true, apart := false }
def SsiSerialSaid : Prop := ssiSerialRow.holds Try.pinned (OpenSpec.ofChange ssiSerialSpec)

/-- ITS FALSE NEIGHBOUR: 'it returns false'. Refute it at one input. -/
def ssiSerialWrong : ChangeSpec := { name := "ssiSerial", fn := fun _ => fun
  | [d] => { results := [.lit (.bool false)], args := [d] }
  | _ => none }
def SsiSerialWrongFalsely : Prop := ssiSerialRow.holds Try.pinned (OpenSpec.ofChange ssiSerialWrong)

/-- 'cadastrelaw20.SsiAlone': WHATEVER THE INPUT: true; the input reads as it did. -/
def ssiAloneSpec : ChangeSpec := { name := "ssiAlone", fn := fun _ => fun
  | [d1, d2] => { results := [.lit (.bool true)], args := [d1, d2] }
  | _ => none }
def ssiAloneRow : OpenClaim := { program := "ytggmifnkgcladaa", sum := "40f1d759103f06e90a94f90a79bbddadeb6bbbae872d1963d4ab8bc474879531", func := "cadastre/cadastrelaw20.SsiAlone", spec := "ssiAlone", unfollowed := true, recurses := true, apart := false }
def SsiAloneSaid : Prop := ssiAloneRow.holds Try.pinned (OpenSpec.ofChange ssiAloneSpec)

/-- ITS FALSE NEIGHBOUR: 'it returns false'. Refute it at one input. -/
def ssiAloneWrong : ChangeSpec := { name := "ssiAlone", fn := fun _ => fun
  | [d1, d2] => { results := [.lit (.bool false)], args := [d1, d2] }
  | _ => none }
def SsiAloneWrongFalsely : Prop := ssiAloneRow.holds Try.pinned (OpenSpec.ofChange ssiAloneWrong)

/-- 'cadastrelaw20.SsiLocks': WHATEVER THE INPUT: true; the input reads as it did. -/
def ssiLocksSpec : ChangeSpec := { name := "ssiLocks", fn := fun _ => fun
  | [d1, d2] => { results := [.lit (.bool true)], args := [d1, d2] }
  | _ => none }
def ssiLocksRow : OpenClaim := { program := "ytggmifnkgcladaa", sum := "40f1d759103f06e90a94f90a79bbddadeb6bbbae872d1963d4ab8bc474879531", func := "cadastre/cadastrelaw20.SsiLocks", spec := "ssiLocks", unfollowed := true, recurses := true, apart := false }
def SsiLocksSaid : Prop := ssiLocksRow.holds Try.pinned (OpenSpec.ofChange ssiLocksSpec)

/-- ITS FALSE NEIGHBOUR: 'it returns false'. Refute it at one input. -/
def ssiLocksWrong : ChangeSpec := { name := "ssiLocks", fn := fun _ => fun
  | [d1, d2] => { results := [.lit (.bool false)], args := [d1, d2] }
  | _ => none }
def SsiLocksWrongFalsely : Prop := ssiLocksRow.holds Try.pinned (OpenSpec.ofChange ssiLocksWrong)

/-- 'cadastrelaw20.SsiReaders': WHATEVER THE INPUT: true; the input reads as it did. -/
def ssiReadersSpec : ChangeSpec := { name := "ssiReaders", fn := fun _ => fun
  | [d1, d2] => { results := [.lit (.bool true)], args := [d1, d2] }
  | _ => none }
def ssiReadersRow : OpenClaim := { program := "ytggmifnkgcladaa", sum := "40f1d759103f06e90a94f90a79bbddadeb6bbbae872d1963d4ab8bc474879531", func := "cadastre/cadastrelaw20.SsiReaders", spec := "ssiReaders", unfollowed := true, recurses := true, apart := false }
def SsiReadersSaid : Prop := ssiReadersRow.holds Try.pinned (OpenSpec.ofChange ssiReadersSpec)

/-- ITS FALSE NEIGHBOUR: 'it returns false'. Refute it at one input. -/
def ssiReadersWrong : ChangeSpec := { name := "ssiReaders", fn := fun _ => fun
  | [d1, d2] => { results := [.lit (.bool false)], args := [d1, d2] }
  | _ => none }
def SsiReadersWrongFalsely : Prop := ssiReadersRow.holds Try.pinned (OpenSpec.ofChange ssiReadersWrong)

/-- 'cadastrelaw20.SsiOne': WHATEVER THE INPUT: true; the input reads as it did. -/
def ssiOneSpec : ChangeSpec := { name := "ssiOne", fn := fun _ => fun
  | [d1, d2] => { results := [.lit (.bool true)], args := [d1, d2] }
  | _ => none }
def ssiOneRow : OpenClaim := { program := "ytggmifnkgcladaa", sum := "40f1d759103f06e90a94f90a79bbddadeb6bbbae872d1963d4ab8bc474879531", func := "cadastre/cadastrelaw20.SsiOne", spec := "ssiOne", unfollowed := true, recurses := true, apart := false }
def SsiOneSaid : Prop := ssiOneRow.holds Try.pinned (OpenSpec.ofChange ssiOneSpec)

/-- ITS FALSE NEIGHBOUR: 'it returns false'. Refute it at one input. -/
def ssiOneWrong : ChangeSpec := { name := "ssiOne", fn := fun _ => fun
  | [d1, d2] => { results := [.lit (.bool false)], args := [d1, d2] }
  | _ => none }
def SsiOneWrongFalsely : Prop := ssiOneRow.holds Try.pinned (OpenSpec.ofChange ssiOneWrong)

/- THE SECOND FORM. 'bulk': how many values and letters a reading holds, each counted each time it is reached (what is shared counts as often as it is met; a slice's spare places count too). A statement '..UptoSaid' is the law's where the arguments, and the package variables that the reading takes, are together of bulk at most 1048576: NARROWER than '..Said'. Prove '..Said' where nothing that the law and all that it calls make is longer than what came in: it says more and counts as full. Else prove '..UptoSaid'. A law counts once. -/
mutual
def uptoBulk {H : Type} : DataW H → Nat
  | .lit (.string bytes) => bytes.length + 1
  | .lit _ => 1
  | .nil => 1
  | .ptr d => uptoBulk d + 1
  | .slice elems spare => uptoBulkAll elems + uptoBulkAll spare + 1
  | .agg parts => uptoBulkAll parts + 1
  | .iface _ d => uptoBulk d + 1
  | .map entries => uptoBulkEntries entries + 1
  | .held _ => 1
def uptoBulkAll {H : Type} : List (DataW H) → Nat
  | [] => 0
  | d :: r => uptoBulk d + uptoBulkAll r
def uptoBulkEntries {H : Type} : List (Lit × DataW H) → Nat
  | [] => 0
  | x :: r => uptoBulkEntry x + uptoBulkEntries r
def uptoBulkEntry {H : Type} : Lit × DataW H → Nat
  | (.string bytes, d) => bytes.length + uptoBulk d + 1
  | (_, d) => uptoBulk d + 1
 end
def uptoSmall : (H : Type) → List (DataW H) → Bool := fun _ ds => decide (uptoBulkAll ds ≤ 1048576)
def OpenSpec.upto (s : _root_.Go.ChangeSpec) : _root_.Go.OpenSpec := { _root_.Go.OpenSpec.ofChange s with cond := some uptoSmall }

/-- 'cadastrelaw20.SsiScripts', WHERE WHAT IT READS IS OF BULK AT MOST 1048576: true; the input reads as it did. -/
def ssiScriptsUptoRow : OpenClaim := { program := "ytggmifnkgcladaa", sum := "40f1d759103f06e90a94f90a79bbddadeb6bbbae872d1963d4ab8bc474879531", func := "cadastre/cadastrelaw20.SsiScripts", spec := "ssiScripts", unfollowed := true, recurses := true, apart := false, narrowed := true }
def SsiScriptsUptoSaid : Prop := ssiScriptsUptoRow.holds Try.pinned (OpenSpec.upto ssiScriptsSpec)

/-- 'cadastrelaw20.SsiSerial', WHERE WHAT IT READS IS OF BULK AT MOST 1048576: true; the input reads as it did. -/
def ssiSerialUptoRow : OpenClaim := { program := "ytggmifnkgcladaa", sum := "40f1d759103f06e90a94f90a79bbddadeb6bbbae872d1963d4ab8bc474879531", func := "cadastre/cadastrelaw20.SsiSerial", spec := "ssiSerial", unfollowed := true, recurses := true, apart := false, narrowed := true }
def SsiSerialUptoSaid : Prop := ssiSerialUptoRow.holds Try.pinned (OpenSpec.upto ssiSerialSpec)

/-- 'cadastrelaw20.SsiAlone', WHERE WHAT IT READS IS OF BULK AT MOST 1048576: true; the input reads as it did. -/
def ssiAloneUptoRow : OpenClaim := { program := "ytggmifnkgcladaa", sum := "40f1d759103f06e90a94f90a79bbddadeb6bbbae872d1963d4ab8bc474879531", func := "cadastre/cadastrelaw20.SsiAlone", spec := "ssiAlone", unfollowed := true, recurses := true, apart := false, narrowed := true }
def SsiAloneUptoSaid : Prop := ssiAloneUptoRow.holds Try.pinned (OpenSpec.upto ssiAloneSpec)

/-- 'cadastrelaw20.SsiLocks', WHERE WHAT IT READS IS OF BULK AT MOST 1048576: true; the input reads as it did. -/
def ssiLocksUptoRow : OpenClaim := { program := "ytggmifnkgcladaa", sum := "40f1d759103f06e90a94f90a79bbddadeb6bbbae872d1963d4ab8bc474879531", func := "cadastre/cadastrelaw20.SsiLocks", spec := "ssiLocks", unfollowed := true, recurses := true, apart := false, narrowed := true }
def SsiLocksUptoSaid : Prop := ssiLocksUptoRow.holds Try.pinned (OpenSpec.upto ssiLocksSpec)

/-- 'cadastrelaw20.SsiReaders', WHERE WHAT IT READS IS OF BULK AT MOST 1048576: true; the input reads as it did. -/
def ssiReadersUptoRow : OpenClaim := { program := "ytggmifnkgcladaa", sum := "40f1d759103f06e90a94f90a79bbddadeb6bbbae872d1963d4ab8bc474879531", func := "cadastre/cadastrelaw20.SsiReaders", spec := "ssiReaders", unfollowed := true, recurses := true, apart := false, narrowed := true }
def SsiReadersUptoSaid : Prop := ssiReadersUptoRow.holds Try.pinned (OpenSpec.upto ssiReadersSpec)

/-- 'cadastrelaw20.SsiOne', WHERE WHAT IT READS IS OF BULK AT MOST 1048576: true; the input reads as it did. -/
def ssiOneUptoRow : OpenClaim := { program := "ytggmifnkgcladaa", sum := "40f1d759103f06e90a94f90a79bbddadeb6bbbae872d1963d4ab8bc474879531", func := "cadastre/cadastrelaw20.SsiOne", spec := "ssiOne", unfollowed := true, recurses := true, apart := false, narrowed := true }
def SsiOneUptoSaid : Prop := ssiOneUptoRow.holds Try.pinned (OpenSpec.upto ssiOneSpec)

end Rows
end Go.Proofs.Ytggmifnkgcladaa
