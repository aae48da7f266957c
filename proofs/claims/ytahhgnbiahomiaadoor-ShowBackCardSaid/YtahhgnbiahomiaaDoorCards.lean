/-
  DERIVED. GIVEN WITH THE SEED: THE CARDS: each row of YtahhgnbiahomiaaDoorRows.lean that lists a variable, with what it lists TIED to the program's text (the seventh form; the later family's looks); each row that meets fmt, with fmt's text TOLD by the authors' own Lean function (tested against real Go, not proved from fmt's source: count such statements apart). THE CARD IS WHAT COUNTS. Prove the row's statement (the work); the ties are given (YtahhgnbiahomiaaDoorTie.lean); close each card by the builder's one call (the guide's Derived/Test/ToyasCard.lean, 'card_holds'). Laid BY PROGRAM, IN A SANDBOX (cutbox-door.mjs). By AI agents, Wed Nov 11 2026. No macro, syntax, notation, axiom, sorry.
-/
import Derived.Test.YtahhgnbiahomiaaDoorRows
import GoSem.ClaimSeven
namespace Go.Proofs.YtahhgnbiahomiaaDoor
namespace Rows

/-- THE TIED CARD OF 'furcatelaw03.ShowBack'. -/
def showBackCard : Claim7 := { stood := { row := showBackRow, standIns := [], harness := (true, "f3e4c45f37759746f11a4aa31b51c866a67b18477554c5aeee4d35c28127bd63"), looks := true }, kinds := [], alts := [], laidByText := true, laidKinds := [.data, .data, .data, .sentinel, .sentinel], laidTests := true, laidLooks := .later }
def ShowBackCardSaid : Prop := Claim7.holds Tryd.pinned (.plain (OpenSpec.ofChange showBackSpec)) showBackCard

/-- THE TIED CARD OF 'furcatelaw03.ShowLines'. -/
def showLinesCard : Claim7 := { stood := { row := showLinesRow, standIns := [], harness := (true, "f3e4c45f37759746f11a4aa31b51c866a67b18477554c5aeee4d35c28127bd63"), looks := true }, kinds := [], alts := [], laidByText := true, laidKinds := [.data, .data, .data, .sentinel, .sentinel], laidTests := true, laidLooks := .later }
def ShowLinesCardSaid : Prop := Claim7.holds Tryd.pinned (.plain (OpenSpec.ofChange showLinesSpec)) showLinesCard

/-- THE TIED CARD OF 'furcatelaw03.ShowAll'. -/
def showAllCard : Claim7 := { stood := { row := showAllRow, standIns := [], harness := (true, "f3e4c45f37759746f11a4aa31b51c866a67b18477554c5aeee4d35c28127bd63"), looks := true }, kinds := [], alts := [], laidByText := true, laidKinds := [.data, .data, .data, .sentinel, .sentinel], laidTests := true, laidLooks := .later }
def ShowAllCardSaid : Prop := Claim7.holds Tryd.pinned (.plain (OpenSpec.ofChange showAllSpec)) showAllCard

/-- THE TIED CARD OF 'furcatelaw03.ShowParts'. -/
def showPartsCard : Claim7 := { stood := { row := showPartsRow, standIns := [], harness := (true, "f3e4c45f37759746f11a4aa31b51c866a67b18477554c5aeee4d35c28127bd63"), looks := true }, kinds := [], alts := [], laidByText := true, laidKinds := [.data, .data, .data, .sentinel, .sentinel], laidTests := true, laidLooks := .later }
def ShowPartsCardSaid : Prop := Claim7.holds Tryd.pinned (.plain (OpenSpec.ofChange showPartsSpec)) showPartsCard

/-- THE SECOND FORM's CARD OF 'furcatelaw03.ShowBack'. -/
def showBackUptoCard : Claim7 := { stood := { row := showBackUptoRow, standIns := [], harness := (true, "f3e4c45f37759746f11a4aa31b51c866a67b18477554c5aeee4d35c28127bd63"), looks := true }, kinds := [], alts := [], laidByText := true, laidKinds := [.data, .data, .data, .sentinel, .sentinel], laidTests := true, laidLooks := .later }
def ShowBackUptoCardSaid : Prop := Claim7.holds Tryd.pinned (.plain (OpenSpec.upto showBackSpec)) showBackUptoCard

/-- THE SECOND FORM's CARD OF 'furcatelaw03.ShowLines'. -/
def showLinesUptoCard : Claim7 := { stood := { row := showLinesUptoRow, standIns := [], harness := (true, "f3e4c45f37759746f11a4aa31b51c866a67b18477554c5aeee4d35c28127bd63"), looks := true }, kinds := [], alts := [], laidByText := true, laidKinds := [.data, .data, .data, .sentinel, .sentinel], laidTests := true, laidLooks := .later }
def ShowLinesUptoCardSaid : Prop := Claim7.holds Tryd.pinned (.plain (OpenSpec.upto showLinesSpec)) showLinesUptoCard

/-- THE SECOND FORM's CARD OF 'furcatelaw03.ShowAll'. -/
def showAllUptoCard : Claim7 := { stood := { row := showAllUptoRow, standIns := [], harness := (true, "f3e4c45f37759746f11a4aa31b51c866a67b18477554c5aeee4d35c28127bd63"), looks := true }, kinds := [], alts := [], laidByText := true, laidKinds := [.data, .data, .data, .sentinel, .sentinel], laidTests := true, laidLooks := .later }
def ShowAllUptoCardSaid : Prop := Claim7.holds Tryd.pinned (.plain (OpenSpec.upto showAllSpec)) showAllUptoCard

/-- THE SECOND FORM's CARD OF 'furcatelaw03.ShowParts'. -/
def showPartsUptoCard : Claim7 := { stood := { row := showPartsUptoRow, standIns := [], harness := (true, "f3e4c45f37759746f11a4aa31b51c866a67b18477554c5aeee4d35c28127bd63"), looks := true }, kinds := [], alts := [], laidByText := true, laidKinds := [.data, .data, .data, .sentinel, .sentinel], laidTests := true, laidLooks := .later }
def ShowPartsUptoCardSaid : Prop := Claim7.holds Tryd.pinned (.plain (OpenSpec.upto showPartsSpec)) showPartsUptoCard
end Rows
end Go.Proofs.YtahhgnbiahomiaaDoor
