/-
  DERIVED. GIVEN WITH THE SEED: THE CARDS: each row of YtbedigkncjbggaaDoorRows.lean that lists a variable, with what it lists TIED to the program's text (the seventh form; the later family's looks); each row that meets fmt, with fmt's text TOLD by the authors' own Lean function (tested against real Go, not proved from fmt's source: count such statements apart). THE CARD IS WHAT COUNTS. Prove the row's statement (the work); the ties are given (YtbedigkncjbggaaDoorTie.lean); close each card by the builder's one call (the guide's Derived/Test/ToyasCard.lean, 'card_holds'). Laid BY PROGRAM, IN A SANDBOX (cutbox-door.mjs). By AI agents, Wed Nov 11 2026. No macro, syntax, notation, axiom, sorry.
-/
import Derived.Test.YtbedigkncjbggaaDoorRows
import GoSem.ClaimSeven
namespace Go.Proofs.YtbedigkncjbggaaDoor
namespace Rows

/-- THE TIED CARD OF 'cadastrelaw10.ParseLists'. -/
def parseListsCard : Claim7 := { stood := { row := parseListsRow, standIns := [], harness := (true, "392b249d354a93fbb6cc36e616b852ce1598cffccefdd4b059529e9dc67a39cd"), looks := true }, kinds := [], alts := [], laidByText := true, laidKinds := [.data, .listed, .data, .pinned, .pinned], laidTests := true, laidLooks := .later }
def ParseListsCardSaid : Prop := Claim7.holds Tryd.pinned (.plain (OpenSpec.ofChange parseListsSpec)) parseListsCard

/-- THE SECOND FORM's CARD OF 'cadastrelaw10.ParseLists'. -/
def parseListsUptoCard : Claim7 := { stood := { row := parseListsUptoRow, standIns := [], harness := (true, "392b249d354a93fbb6cc36e616b852ce1598cffccefdd4b059529e9dc67a39cd"), looks := true }, kinds := [], alts := [], laidByText := true, laidKinds := [.data, .listed, .data, .pinned, .pinned], laidTests := true, laidLooks := .later }
def ParseListsUptoCardSaid : Prop := Claim7.holds Tryd.pinned (.plain (OpenSpec.upto parseListsSpec)) parseListsUptoCard
end Rows
end Go.Proofs.YtbedigkncjbggaaDoor
