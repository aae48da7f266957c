/-
  DERIVED. GIVEN WITH THE SEED: THE CARDS: each row of YtlbjicjinnnboaaGreatDoorRows.lean that lists a variable, with what it lists TIED to the program's text (the seventh form; the later family's looks); each row that meets fmt, with fmt's text TOLD by the authors' own Lean function (tested against real Go, not proved from fmt's source: count such statements apart). THE CARD IS WHAT COUNTS. Prove the row's statement (the work); the ties are given (YtlbjicjinnnboaaGreatDoorTie.lean); close each card by the builder's one call (the guide's Derived/Test/ToyasCard.lean, 'card_holds'). Laid BY PROGRAM, IN A SANDBOX (cutbox-door.mjs). By AI agents, Wed Nov 11 2026. No macro, syntax, notation, axiom, sorry.
-/
import Derived.Test.YtlbjicjinnnboaaGreatDoorRows
import GoSem.ClaimSeven
namespace Go.Proofs.YtlbjicjinnnboaaGreatDoor
namespace Rows

/-- THE TIED CARD OF 'furcatelaw09.CompileAll'. -/
def compileAllCard : Claim7 := { stood := { row := compileAllRow, standIns := [], harness := (true, "00702529d9cbff2402dac5ffcd9ffbdf95f03352e7685de0e1b5e2db46cc19bf"), looks := true }, kinds := [], alts := [], laidByText := true, laidKinds := [.data, .data, .data, .sentinel, .sentinel], laidTests := true, laidLooks := .later }
def CompileAllCardSaid : Prop := Claim7.holds Tryz.pinned (.plain (OpenSpec.ofChange compileAllSpec)) compileAllCard

/-- THE TIED CARD OF 'furcatelaw09.CompileMay'. -/
def compileMayCard : Claim7 := { stood := { row := compileMayRow, standIns := [], harness := (true, "00702529d9cbff2402dac5ffcd9ffbdf95f03352e7685de0e1b5e2db46cc19bf"), looks := true }, kinds := [], alts := [], laidByText := true, laidKinds := [.data, .data, .data, .sentinel, .sentinel], laidTests := true, laidLooks := .later }
def CompileMayCardSaid : Prop := Claim7.holds Tryz.pinned (.plain (OpenSpec.ofChange compileMaySpec)) compileMayCard

/-- THE TIED CARD OF 'furcatelaw09.CompileStacks'. -/
def compileStacksCard : Claim7 := { stood := { row := compileStacksRow, standIns := [], harness := (true, "00702529d9cbff2402dac5ffcd9ffbdf95f03352e7685de0e1b5e2db46cc19bf"), looks := true }, kinds := [], alts := [], laidByText := true, laidKinds := [.data, .data, .data, .sentinel, .sentinel], laidTests := true, laidLooks := .later }
def CompileStacksCardSaid : Prop := Claim7.holds Tryz.pinned (.plain (OpenSpec.ofChange compileStacksSpec)) compileStacksCard

/-- THE TIED CARD OF 'furcatelaw02.ParseBelow'. -/
def parseBelowCard : Claim7 := { stood := { row := parseBelowRow, standIns := [], harness := (true, "00702529d9cbff2402dac5ffcd9ffbdf95f03352e7685de0e1b5e2db46cc19bf"), looks := true }, kinds := [], alts := [], laidByText := true, laidKinds := [.data, .data, .data, .data, .sentinel, .sentinel, .pinned], laidTests := true, laidLooks := .later }
def ParseBelowCardSaid : Prop := Claim7.holds Tryz.pinned (.plain (OpenSpec.ofChange parseBelowSpec)) parseBelowCard

/-- THE TIED CARD OF 'furcatelaw04.CheckAll'. -/
def checkAllCard : Claim7 := { stood := { row := checkAllRow, standIns := [], harness := (true, "00702529d9cbff2402dac5ffcd9ffbdf95f03352e7685de0e1b5e2db46cc19bf"), looks := true }, kinds := [], alts := [], laidByText := true, laidKinds := [.data, .data, .data, .data, .sentinel, .sentinel, .pinned], laidTests := true, laidLooks := .later }
def CheckAllCardSaid : Prop := Claim7.holds Tryz.pinned (.plain (OpenSpec.ofChange checkAllSpec)) checkAllCard

/-- THE TIED CARD OF 'furcatelaw04.CheckVisible'. -/
def checkVisibleCard : Claim7 := { stood := { row := checkVisibleRow, standIns := [], harness := (true, "00702529d9cbff2402dac5ffcd9ffbdf95f03352e7685de0e1b5e2db46cc19bf"), looks := true }, kinds := [], alts := [], laidByText := true, laidKinds := [.data, .data, .data, .data, .sentinel, .sentinel, .pinned], laidTests := true, laidLooks := .later }
def CheckVisibleCardSaid : Prop := Claim7.holds Tryz.pinned (.plain (OpenSpec.ofChange checkVisibleSpec)) checkVisibleCard

/-- THE TIED CARD OF 'furcatelaw04.CheckTypes'. -/
def checkTypesCard : Claim7 := { stood := { row := checkTypesRow, standIns := [], harness := (true, "00702529d9cbff2402dac5ffcd9ffbdf95f03352e7685de0e1b5e2db46cc19bf"), looks := true }, kinds := [], alts := [], laidByText := true, laidKinds := [.data, .data, .data, .data, .sentinel, .sentinel, .pinned], laidTests := true, laidLooks := .later }
def CheckTypesCardSaid : Prop := Claim7.holds Tryz.pinned (.plain (OpenSpec.ofChange checkTypesSpec)) checkTypesCard

/-- THE TIED CARD OF 'furcatelaw04.CheckRefuses'. -/
def checkRefusesCard : Claim7 := { stood := { row := checkRefusesRow, standIns := [], harness := (true, "00702529d9cbff2402dac5ffcd9ffbdf95f03352e7685de0e1b5e2db46cc19bf"), looks := true }, kinds := [], alts := [], laidByText := true, laidKinds := [.data, .data, .data, .data, .sentinel, .sentinel, .pinned], laidTests := true, laidLooks := .later }
def CheckRefusesCardSaid : Prop := Claim7.holds Tryz.pinned (.plain (OpenSpec.ofChange checkRefusesSpec)) checkRefusesCard

/-- THE TIED CARD OF 'furcatelaw04.CheckSizes'. -/
def checkSizesCard : Claim7 := { stood := { row := checkSizesRow, standIns := [], harness := (true, "00702529d9cbff2402dac5ffcd9ffbdf95f03352e7685de0e1b5e2db46cc19bf"), looks := true }, kinds := [], alts := [], laidByText := true, laidKinds := [.data, .data, .data, .data, .sentinel, .sentinel, .pinned], laidTests := true, laidLooks := .later }
def CheckSizesCardSaid : Prop := Claim7.holds Tryz.pinned (.plain (OpenSpec.ofChange checkSizesSpec)) checkSizesCard

/-- THE TIED CARD OF 'furcatelaw04.CheckMoves'. -/
def checkMovesCard : Claim7 := { stood := { row := checkMovesRow, standIns := [], harness := (true, "00702529d9cbff2402dac5ffcd9ffbdf95f03352e7685de0e1b5e2db46cc19bf"), looks := true }, kinds := [], alts := [], laidByText := true, laidKinds := [.data, .data, .data, .data, .sentinel, .sentinel, .pinned], laidTests := true, laidLooks := .later }
def CheckMovesCardSaid : Prop := Claim7.holds Tryz.pinned (.plain (OpenSpec.ofChange checkMovesSpec)) checkMovesCard

/-- THE SECOND FORM's CARD OF 'furcatelaw09.CompileAll'. -/
def compileAllUptoCard : Claim7 := { stood := { row := compileAllUptoRow, standIns := [], harness := (true, "00702529d9cbff2402dac5ffcd9ffbdf95f03352e7685de0e1b5e2db46cc19bf"), looks := true }, kinds := [], alts := [], laidByText := true, laidKinds := [.data, .data, .data, .sentinel, .sentinel], laidTests := true, laidLooks := .later }
def CompileAllUptoCardSaid : Prop := Claim7.holds Tryz.pinned (.plain (OpenSpec.upto compileAllSpec)) compileAllUptoCard

/-- THE SECOND FORM's CARD OF 'furcatelaw09.CompileMay'. -/
def compileMayUptoCard : Claim7 := { stood := { row := compileMayUptoRow, standIns := [], harness := (true, "00702529d9cbff2402dac5ffcd9ffbdf95f03352e7685de0e1b5e2db46cc19bf"), looks := true }, kinds := [], alts := [], laidByText := true, laidKinds := [.data, .data, .data, .sentinel, .sentinel], laidTests := true, laidLooks := .later }
def CompileMayUptoCardSaid : Prop := Claim7.holds Tryz.pinned (.plain (OpenSpec.upto compileMaySpec)) compileMayUptoCard

/-- THE SECOND FORM's CARD OF 'furcatelaw09.CompileStacks'. -/
def compileStacksUptoCard : Claim7 := { stood := { row := compileStacksUptoRow, standIns := [], harness := (true, "00702529d9cbff2402dac5ffcd9ffbdf95f03352e7685de0e1b5e2db46cc19bf"), looks := true }, kinds := [], alts := [], laidByText := true, laidKinds := [.data, .data, .data, .sentinel, .sentinel], laidTests := true, laidLooks := .later }
def CompileStacksUptoCardSaid : Prop := Claim7.holds Tryz.pinned (.plain (OpenSpec.upto compileStacksSpec)) compileStacksUptoCard

/-- THE SECOND FORM's CARD OF 'furcatelaw02.ParseBelow'. -/
def parseBelowUptoCard : Claim7 := { stood := { row := parseBelowUptoRow, standIns := [], harness := (true, "00702529d9cbff2402dac5ffcd9ffbdf95f03352e7685de0e1b5e2db46cc19bf"), looks := true }, kinds := [], alts := [], laidByText := true, laidKinds := [.data, .data, .data, .data, .sentinel, .sentinel, .pinned], laidTests := true, laidLooks := .later }
def ParseBelowUptoCardSaid : Prop := Claim7.holds Tryz.pinned (.plain (OpenSpec.upto parseBelowSpec)) parseBelowUptoCard

/-- THE SECOND FORM's CARD OF 'furcatelaw04.CheckAll'. -/
def checkAllUptoCard : Claim7 := { stood := { row := checkAllUptoRow, standIns := [], harness := (true, "00702529d9cbff2402dac5ffcd9ffbdf95f03352e7685de0e1b5e2db46cc19bf"), looks := true }, kinds := [], alts := [], laidByText := true, laidKinds := [.data, .data, .data, .data, .sentinel, .sentinel, .pinned], laidTests := true, laidLooks := .later }
def CheckAllUptoCardSaid : Prop := Claim7.holds Tryz.pinned (.plain (OpenSpec.upto checkAllSpec)) checkAllUptoCard

/-- THE SECOND FORM's CARD OF 'furcatelaw04.CheckVisible'. -/
def checkVisibleUptoCard : Claim7 := { stood := { row := checkVisibleUptoRow, standIns := [], harness := (true, "00702529d9cbff2402dac5ffcd9ffbdf95f03352e7685de0e1b5e2db46cc19bf"), looks := true }, kinds := [], alts := [], laidByText := true, laidKinds := [.data, .data, .data, .data, .sentinel, .sentinel, .pinned], laidTests := true, laidLooks := .later }
def CheckVisibleUptoCardSaid : Prop := Claim7.holds Tryz.pinned (.plain (OpenSpec.upto checkVisibleSpec)) checkVisibleUptoCard

/-- THE SECOND FORM's CARD OF 'furcatelaw04.CheckTypes'. -/
def checkTypesUptoCard : Claim7 := { stood := { row := checkTypesUptoRow, standIns := [], harness := (true, "00702529d9cbff2402dac5ffcd9ffbdf95f03352e7685de0e1b5e2db46cc19bf"), looks := true }, kinds := [], alts := [], laidByText := true, laidKinds := [.data, .data, .data, .data, .sentinel, .sentinel, .pinned], laidTests := true, laidLooks := .later }
def CheckTypesUptoCardSaid : Prop := Claim7.holds Tryz.pinned (.plain (OpenSpec.upto checkTypesSpec)) checkTypesUptoCard

/-- THE SECOND FORM's CARD OF 'furcatelaw04.CheckRefuses'. -/
def checkRefusesUptoCard : Claim7 := { stood := { row := checkRefusesUptoRow, standIns := [], harness := (true, "00702529d9cbff2402dac5ffcd9ffbdf95f03352e7685de0e1b5e2db46cc19bf"), looks := true }, kinds := [], alts := [], laidByText := true, laidKinds := [.data, .data, .data, .data, .sentinel, .sentinel, .pinned], laidTests := true, laidLooks := .later }
def CheckRefusesUptoCardSaid : Prop := Claim7.holds Tryz.pinned (.plain (OpenSpec.upto checkRefusesSpec)) checkRefusesUptoCard

/-- THE SECOND FORM's CARD OF 'furcatelaw04.CheckSizes'. -/
def checkSizesUptoCard : Claim7 := { stood := { row := checkSizesUptoRow, standIns := [], harness := (true, "00702529d9cbff2402dac5ffcd9ffbdf95f03352e7685de0e1b5e2db46cc19bf"), looks := true }, kinds := [], alts := [], laidByText := true, laidKinds := [.data, .data, .data, .data, .sentinel, .sentinel, .pinned], laidTests := true, laidLooks := .later }
def CheckSizesUptoCardSaid : Prop := Claim7.holds Tryz.pinned (.plain (OpenSpec.upto checkSizesSpec)) checkSizesUptoCard

/-- THE SECOND FORM's CARD OF 'furcatelaw04.CheckMoves'. -/
def checkMovesUptoCard : Claim7 := { stood := { row := checkMovesUptoRow, standIns := [], harness := (true, "00702529d9cbff2402dac5ffcd9ffbdf95f03352e7685de0e1b5e2db46cc19bf"), looks := true }, kinds := [], alts := [], laidByText := true, laidKinds := [.data, .data, .data, .data, .sentinel, .sentinel, .pinned], laidTests := true, laidLooks := .later }
def CheckMovesUptoCardSaid : Prop := Claim7.holds Tryz.pinned (.plain (OpenSpec.upto checkMovesSpec)) checkMovesUptoCard
end Rows
end Go.Proofs.YtlbjicjinnnboaaGreatDoor
