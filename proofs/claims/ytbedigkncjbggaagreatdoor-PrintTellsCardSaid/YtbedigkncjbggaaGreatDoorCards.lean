/-
  DERIVED. GIVEN WITH THE SEED: THE CARDS: each row of YtbedigkncjbggaaGreatDoorRows.lean that lists a variable, with what it lists TIED to the program's text (the seventh form; the later family's looks); each row that meets fmt, with fmt's text TOLD by the authors' own Lean function (tested against real Go, not proved from fmt's source: count such statements apart). THE CARD IS WHAT COUNTS. Prove the row's statement (the work); the ties are given (YtbedigkncjbggaaGreatDoorTie.lean); close each card by the builder's one call (the guide's Derived/Test/ToyasCard.lean, 'card_holds'). Laid BY PROGRAM, IN A SANDBOX (cutbox-door.mjs). By AI agents, Wed Nov 11 2026. No macro, syntax, notation, axiom, sorry.
-/
import Derived.Test.YtbedigkncjbggaaGreatDoorRows
import GoSem.ClaimSeven
namespace Go.Proofs.YtbedigkncjbggaaGreatDoor
namespace Rows

/-- THE TIED CARD OF 'cadastrelaw10.ParseReads'. -/
def parseReadsCard : Claim7 := { stood := { row := parseReadsRow, standIns := [], harness := (true, "1e0404b4fd51a69b5ead8292a819d350287bd88a98086b6d71e5ca56418f0b38"), looks := true }, kinds := [], alts := [], laidByText := true, laidKinds := [.data, .listed, .data, .pinned, .pinned], laidTests := true, laidLooks := .later }
def ParseReadsCardSaid : Prop := Claim7.holds Tryz.pinned (.plain (OpenSpec.ofChange parseReadsSpec)) parseReadsCard

/-- THE TIED CARD OF 'cadastrelaw10.ParseParts'. -/
def parsePartsCard : Claim7 := { stood := { row := parsePartsRow, standIns := [], harness := (true, "1e0404b4fd51a69b5ead8292a819d350287bd88a98086b6d71e5ca56418f0b38"), looks := true }, kinds := [], alts := [], laidByText := true, laidKinds := [.data, .listed, .data, .pinned, .pinned], laidTests := true, laidLooks := .later }
def ParsePartsCardSaid : Prop := Claim7.holds Tryz.pinned (.plain (OpenSpec.ofChange parsePartsSpec)) parsePartsCard

/-- THE TIED CARD OF 'cadastrelaw10.ParseNests'. -/
def parseNestsCard : Claim7 := { stood := { row := parseNestsRow, standIns := [], harness := (true, "1e0404b4fd51a69b5ead8292a819d350287bd88a98086b6d71e5ca56418f0b38"), looks := true }, kinds := [], alts := [], laidByText := true, laidKinds := [.data, .listed, .data, .pinned, .pinned], laidTests := true, laidLooks := .later }
def ParseNestsCardSaid : Prop := Claim7.holds Tryz.pinned (.plain (OpenSpec.ofChange parseNestsSpec)) parseNestsCard

/-- THE TIED CARD OF 'cadastrelaw10.ParseOnce'. -/
def parseOnceCard : Claim7 := { stood := { row := parseOnceRow, standIns := [], harness := (true, "1e0404b4fd51a69b5ead8292a819d350287bd88a98086b6d71e5ca56418f0b38"), looks := true }, kinds := [], alts := [], laidByText := true, laidKinds := [.data, .listed, .data, .pinned, .pinned], laidTests := true, laidLooks := .later }
def ParseOnceCardSaid : Prop := Claim7.holds Tryz.pinned (.plain (OpenSpec.ofChange parseOnceSpec)) parseOnceCard

/-- THE TIED CARD OF 'cadastrelaw10.ParseKeeps'. -/
def parseKeepsCard : Claim7 := { stood := { row := parseKeepsRow, standIns := [], harness := (true, "1e0404b4fd51a69b5ead8292a819d350287bd88a98086b6d71e5ca56418f0b38"), looks := true }, kinds := [], alts := [], laidByText := true, laidKinds := [.data, .listed, .data, .pinned, .pinned], laidTests := true, laidLooks := .later }
def ParseKeepsCardSaid : Prop := Claim7.holds Tryz.pinned (.plain (OpenSpec.ofChange parseKeepsSpec)) parseKeepsCard

/-- THE TIED CARD OF 'cadastrelaw11.PrintTells'. -/
def printTellsCard : Claim7 := { stood := { row := printTellsRow, standIns := [], harness := (true, "1e0404b4fd51a69b5ead8292a819d350287bd88a98086b6d71e5ca56418f0b38"), looks := true }, kinds := [], alts := [], laidByText := true, laidKinds := [.data, .data, .data, .data, .listed, .data, .pinned, .pinned], laidTests := true, laidLooks := .later }
def PrintTellsCardSaid : Prop := Claim7.holds Tryz.pinned (.plain (OpenSpec.ofChange printTellsSpec)) printTellsCard

/-- THE TIED CARD OF 'cadastrelaw11.PrintBack'. -/
def printBackCard : Claim7 := { stood := { row := printBackRow, standIns := [], harness := (true, "1e0404b4fd51a69b5ead8292a819d350287bd88a98086b6d71e5ca56418f0b38"), looks := true }, kinds := [], alts := [], laidByText := true, laidKinds := [.data, .data, .data, .data, .listed, .data, .pinned, .pinned], laidTests := true, laidLooks := .later }
def PrintBackCardSaid : Prop := Claim7.holds Tryz.pinned (.plain (OpenSpec.ofChange printBackSpec)) printBackCard

/-- THE TIED CARD OF 'cadastrelaw11.PrintApart'. -/
def printApartCard : Claim7 := { stood := { row := printApartRow, standIns := [], harness := (true, "1e0404b4fd51a69b5ead8292a819d350287bd88a98086b6d71e5ca56418f0b38"), looks := true }, kinds := [], alts := [], laidByText := true, laidKinds := [.data, .data, .data, .data, .listed, .data, .pinned, .pinned], laidTests := true, laidLooks := .later }
def PrintApartCardSaid : Prop := Claim7.holds Tryz.pinned (.plain (OpenSpec.ofChange printApartSpec)) printApartCard

/-- THE TIED CARD OF 'cadastrelaw11.PrintExprs'. -/
def printExprsCard : Claim7 := { stood := { row := printExprsRow, standIns := [], harness := (true, "1e0404b4fd51a69b5ead8292a819d350287bd88a98086b6d71e5ca56418f0b38"), looks := true }, kinds := [], alts := [], laidByText := true, laidKinds := [.data, .data, .data, .data, .listed, .data, .pinned, .pinned], laidTests := true, laidLooks := .later }
def PrintExprsCardSaid : Prop := Claim7.holds Tryz.pinned (.plain (OpenSpec.ofChange printExprsSpec)) printExprsCard

/-- THE SECOND FORM's CARD OF 'cadastrelaw10.ParseReads'. -/
def parseReadsUptoCard : Claim7 := { stood := { row := parseReadsUptoRow, standIns := [], harness := (true, "1e0404b4fd51a69b5ead8292a819d350287bd88a98086b6d71e5ca56418f0b38"), looks := true }, kinds := [], alts := [], laidByText := true, laidKinds := [.data, .listed, .data, .pinned, .pinned], laidTests := true, laidLooks := .later }
def ParseReadsUptoCardSaid : Prop := Claim7.holds Tryz.pinned (.plain (OpenSpec.upto parseReadsSpec)) parseReadsUptoCard

/-- THE SECOND FORM's CARD OF 'cadastrelaw10.ParseParts'. -/
def parsePartsUptoCard : Claim7 := { stood := { row := parsePartsUptoRow, standIns := [], harness := (true, "1e0404b4fd51a69b5ead8292a819d350287bd88a98086b6d71e5ca56418f0b38"), looks := true }, kinds := [], alts := [], laidByText := true, laidKinds := [.data, .listed, .data, .pinned, .pinned], laidTests := true, laidLooks := .later }
def ParsePartsUptoCardSaid : Prop := Claim7.holds Tryz.pinned (.plain (OpenSpec.upto parsePartsSpec)) parsePartsUptoCard

/-- THE SECOND FORM's CARD OF 'cadastrelaw10.ParseNests'. -/
def parseNestsUptoCard : Claim7 := { stood := { row := parseNestsUptoRow, standIns := [], harness := (true, "1e0404b4fd51a69b5ead8292a819d350287bd88a98086b6d71e5ca56418f0b38"), looks := true }, kinds := [], alts := [], laidByText := true, laidKinds := [.data, .listed, .data, .pinned, .pinned], laidTests := true, laidLooks := .later }
def ParseNestsUptoCardSaid : Prop := Claim7.holds Tryz.pinned (.plain (OpenSpec.upto parseNestsSpec)) parseNestsUptoCard

/-- THE SECOND FORM's CARD OF 'cadastrelaw10.ParseOnce'. -/
def parseOnceUptoCard : Claim7 := { stood := { row := parseOnceUptoRow, standIns := [], harness := (true, "1e0404b4fd51a69b5ead8292a819d350287bd88a98086b6d71e5ca56418f0b38"), looks := true }, kinds := [], alts := [], laidByText := true, laidKinds := [.data, .listed, .data, .pinned, .pinned], laidTests := true, laidLooks := .later }
def ParseOnceUptoCardSaid : Prop := Claim7.holds Tryz.pinned (.plain (OpenSpec.upto parseOnceSpec)) parseOnceUptoCard

/-- THE SECOND FORM's CARD OF 'cadastrelaw10.ParseKeeps'. -/
def parseKeepsUptoCard : Claim7 := { stood := { row := parseKeepsUptoRow, standIns := [], harness := (true, "1e0404b4fd51a69b5ead8292a819d350287bd88a98086b6d71e5ca56418f0b38"), looks := true }, kinds := [], alts := [], laidByText := true, laidKinds := [.data, .listed, .data, .pinned, .pinned], laidTests := true, laidLooks := .later }
def ParseKeepsUptoCardSaid : Prop := Claim7.holds Tryz.pinned (.plain (OpenSpec.upto parseKeepsSpec)) parseKeepsUptoCard

/-- THE SECOND FORM's CARD OF 'cadastrelaw11.PrintTells'. -/
def printTellsUptoCard : Claim7 := { stood := { row := printTellsUptoRow, standIns := [], harness := (true, "1e0404b4fd51a69b5ead8292a819d350287bd88a98086b6d71e5ca56418f0b38"), looks := true }, kinds := [], alts := [], laidByText := true, laidKinds := [.data, .data, .data, .data, .listed, .data, .pinned, .pinned], laidTests := true, laidLooks := .later }
def PrintTellsUptoCardSaid : Prop := Claim7.holds Tryz.pinned (.plain (OpenSpec.upto printTellsSpec)) printTellsUptoCard

/-- THE SECOND FORM's CARD OF 'cadastrelaw11.PrintBack'. -/
def printBackUptoCard : Claim7 := { stood := { row := printBackUptoRow, standIns := [], harness := (true, "1e0404b4fd51a69b5ead8292a819d350287bd88a98086b6d71e5ca56418f0b38"), looks := true }, kinds := [], alts := [], laidByText := true, laidKinds := [.data, .data, .data, .data, .listed, .data, .pinned, .pinned], laidTests := true, laidLooks := .later }
def PrintBackUptoCardSaid : Prop := Claim7.holds Tryz.pinned (.plain (OpenSpec.upto printBackSpec)) printBackUptoCard

/-- THE SECOND FORM's CARD OF 'cadastrelaw11.PrintApart'. -/
def printApartUptoCard : Claim7 := { stood := { row := printApartUptoRow, standIns := [], harness := (true, "1e0404b4fd51a69b5ead8292a819d350287bd88a98086b6d71e5ca56418f0b38"), looks := true }, kinds := [], alts := [], laidByText := true, laidKinds := [.data, .data, .data, .data, .listed, .data, .pinned, .pinned], laidTests := true, laidLooks := .later }
def PrintApartUptoCardSaid : Prop := Claim7.holds Tryz.pinned (.plain (OpenSpec.upto printApartSpec)) printApartUptoCard

/-- THE SECOND FORM's CARD OF 'cadastrelaw11.PrintExprs'. -/
def printExprsUptoCard : Claim7 := { stood := { row := printExprsUptoRow, standIns := [], harness := (true, "1e0404b4fd51a69b5ead8292a819d350287bd88a98086b6d71e5ca56418f0b38"), looks := true }, kinds := [], alts := [], laidByText := true, laidKinds := [.data, .data, .data, .data, .listed, .data, .pinned, .pinned], laidTests := true, laidLooks := .later }
def PrintExprsUptoCardSaid : Prop := Claim7.holds Tryz.pinned (.plain (OpenSpec.upto printExprsSpec)) printExprsUptoCard
end Rows
end Go.Proofs.YtbedigkncjbggaaGreatDoor
