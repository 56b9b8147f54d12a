/-
  DERIVED. GIVEN WITH THE SEED: THE CARDS: each row of YtjjgckmdfblmgaaDoorRows.lean that lists a variable, with what it lists TIED to the program's text (the seventh form; the later family's looks); each row that meets fmt, with fmt's text TOLD by the authors' own Lean function (tested against real Go, not proved from fmt's source: count such statements apart). THE CARD IS WHAT COUNTS. Prove the row's statement (the work); the ties are given (YtjjgckmdfblmgaaDoorTie.lean); close each card by the builder's one call (the guide's Derived/Test/ToyasCard.lean, 'card_holds'). Laid BY PROGRAM, IN A SANDBOX (cutbox-door.mjs). By AI agents, Wed Nov 11 2026. No macro, syntax, notation, axiom, sorry.
-/
import Derived.Test.YtjjgckmdfblmgaaDoorRows
import GoSem.ClaimSeven
namespace Go.Proofs.YtjjgckmdfblmgaaDoor
namespace Rows

/-- THE TIED CARD OF 'cadastrelaw09.LexCuts'. -/
def lexCutsCard : Claim7 := { stood := { row := lexCutsRow, standIns := [], harness := (true, "a8244151a3f7b27b79993607336dbd153b77aa369a92703b6bd3abfe8c4502db"), looks := false }, kinds := [], alts := [], laidByText := true, laidKinds := [.data, .pinned, .pinned], laidTests := true, laidLooks := .later }
def LexCutsCardSaid : Prop := Claim7.holds Tryd.pinned (.plain (OpenSpec.ofChange lexCutsSpec)) lexCutsCard

/-- THE TIED CARD OF 'cadastrelaw09.LexLimits'. -/
def lexLimitsCard : Claim7 := { stood := { row := lexLimitsRow, standIns := [], harness := (true, "a8244151a3f7b27b79993607336dbd153b77aa369a92703b6bd3abfe8c4502db"), looks := false }, kinds := [], alts := [], laidByText := true, laidKinds := [.data, .pinned, .pinned], laidTests := true, laidLooks := .later }
def LexLimitsCardSaid : Prop := Claim7.holds Tryd.pinned (.plain (OpenSpec.ofChange lexLimitsSpec)) lexLimitsCard

/-- THE TIED CARD OF 'cadastrelaw09.LexParts'. -/
def lexPartsCard : Claim7 := { stood := { row := lexPartsRow, standIns := [], harness := (true, "a8244151a3f7b27b79993607336dbd153b77aa369a92703b6bd3abfe8c4502db"), looks := false }, kinds := [], alts := [], laidByText := true, laidKinds := [.data, .pinned, .pinned], laidTests := true, laidLooks := .later }
def LexPartsCardSaid : Prop := Claim7.holds Tryd.pinned (.plain (OpenSpec.ofChange lexPartsSpec)) lexPartsCard

/-- THE TIED CARD OF 'cadastrelaw09.LexCase'. -/
def lexCaseCard : Claim7 := { stood := { row := lexCaseRow, standIns := [], harness := (true, "a8244151a3f7b27b79993607336dbd153b77aa369a92703b6bd3abfe8c4502db"), looks := false }, kinds := [], alts := [], laidByText := true, laidKinds := [.data, .pinned, .pinned], laidTests := true, laidLooks := .later }
def LexCaseCardSaid : Prop := Claim7.holds Tryd.pinned (.plain (OpenSpec.ofChange lexCaseSpec)) lexCaseCard

/-- THE TIED CARD OF 'cadastrelaw09.LexJoins'. -/
def lexJoinsCard : Claim7 := { stood := { row := lexJoinsRow, standIns := [], harness := (true, "a8244151a3f7b27b79993607336dbd153b77aa369a92703b6bd3abfe8c4502db"), looks := false }, kinds := [], alts := [], laidByText := true, laidKinds := [.data, .data, .data, .data, .pinned, .pinned], laidTests := true, laidLooks := .later }
def LexJoinsCardSaid : Prop := Claim7.holds Tryd.pinned (.plain (OpenSpec.ofChange lexJoinsSpec)) lexJoinsCard

/-- THE SECOND FORM's CARD OF 'cadastrelaw09.LexCuts'. -/
def lexCutsUptoCard : Claim7 := { stood := { row := lexCutsUptoRow, standIns := [], harness := (true, "a8244151a3f7b27b79993607336dbd153b77aa369a92703b6bd3abfe8c4502db"), looks := false }, kinds := [], alts := [], laidByText := true, laidKinds := [.data, .pinned, .pinned], laidTests := true, laidLooks := .later }
def LexCutsUptoCardSaid : Prop := Claim7.holds Tryd.pinned (.plain (OpenSpec.upto lexCutsSpec)) lexCutsUptoCard

/-- THE SECOND FORM's CARD OF 'cadastrelaw09.LexLimits'. -/
def lexLimitsUptoCard : Claim7 := { stood := { row := lexLimitsUptoRow, standIns := [], harness := (true, "a8244151a3f7b27b79993607336dbd153b77aa369a92703b6bd3abfe8c4502db"), looks := false }, kinds := [], alts := [], laidByText := true, laidKinds := [.data, .pinned, .pinned], laidTests := true, laidLooks := .later }
def LexLimitsUptoCardSaid : Prop := Claim7.holds Tryd.pinned (.plain (OpenSpec.upto lexLimitsSpec)) lexLimitsUptoCard

/-- THE SECOND FORM's CARD OF 'cadastrelaw09.LexParts'. -/
def lexPartsUptoCard : Claim7 := { stood := { row := lexPartsUptoRow, standIns := [], harness := (true, "a8244151a3f7b27b79993607336dbd153b77aa369a92703b6bd3abfe8c4502db"), looks := false }, kinds := [], alts := [], laidByText := true, laidKinds := [.data, .pinned, .pinned], laidTests := true, laidLooks := .later }
def LexPartsUptoCardSaid : Prop := Claim7.holds Tryd.pinned (.plain (OpenSpec.upto lexPartsSpec)) lexPartsUptoCard

/-- THE SECOND FORM's CARD OF 'cadastrelaw09.LexCase'. -/
def lexCaseUptoCard : Claim7 := { stood := { row := lexCaseUptoRow, standIns := [], harness := (true, "a8244151a3f7b27b79993607336dbd153b77aa369a92703b6bd3abfe8c4502db"), looks := false }, kinds := [], alts := [], laidByText := true, laidKinds := [.data, .pinned, .pinned], laidTests := true, laidLooks := .later }
def LexCaseUptoCardSaid : Prop := Claim7.holds Tryd.pinned (.plain (OpenSpec.upto lexCaseSpec)) lexCaseUptoCard

/-- THE SECOND FORM's CARD OF 'cadastrelaw09.LexJoins'. -/
def lexJoinsUptoCard : Claim7 := { stood := { row := lexJoinsUptoRow, standIns := [], harness := (true, "a8244151a3f7b27b79993607336dbd153b77aa369a92703b6bd3abfe8c4502db"), looks := false }, kinds := [], alts := [], laidByText := true, laidKinds := [.data, .data, .data, .data, .pinned, .pinned], laidTests := true, laidLooks := .later }
def LexJoinsUptoCardSaid : Prop := Claim7.holds Tryd.pinned (.plain (OpenSpec.upto lexJoinsSpec)) lexJoinsUptoCard
end Rows
end Go.Proofs.YtjjgckmdfblmgaaDoor
