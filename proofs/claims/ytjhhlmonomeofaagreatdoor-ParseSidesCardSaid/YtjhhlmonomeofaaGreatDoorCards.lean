/-
  DERIVED. GIVEN WITH THE SEED: THE CARDS: each row of YtjhhlmonomeofaaGreatDoorRows.lean that lists a variable, with what it lists TIED to the program's text (the seventh form; the later family's looks); each row that meets fmt, with fmt's text TOLD by the authors' own Lean function (tested against real Go, not proved from fmt's source: count such statements apart). THE CARD IS WHAT COUNTS. Prove the row's statement (the work); the ties are given (YtjhhlmonomeofaaGreatDoorTie.lean); close each card by the builder's one call (the guide's Derived/Test/ToyasCard.lean, 'card_holds'). Laid BY PROGRAM, IN A SANDBOX (cutbox-door.mjs). By AI agents, Wed Nov 11 2026. No macro, syntax, notation, axiom, sorry.
-/
import Derived.Test.YtjhhlmonomeofaaGreatDoorRows
import GoSem.ClaimSeven
namespace Go.Proofs.YtjhhlmonomeofaaGreatDoor
namespace Rows

/-- THE TIED CARD OF 'furcatelaw02.ParseAll'. -/
def parseAllCard : Claim7 := { stood := { row := parseAllRow, standIns := [], harness := (true, "7abe5146d3869ba72297ea7a320f3df54ae3b2f7d0dd7f57f84d9039f7313fee"), looks := true }, kinds := [], alts := [], laidByText := true, laidKinds := [.data, .data, .data, .data, .sentinel, .sentinel, .pinned], laidTests := true, laidLooks := .later }
def ParseAllCardSaid : Prop := Claim7.holds Tryz.pinned (.plain (OpenSpec.ofChange parseAllSpec)) parseAllCard

/-- THE TIED CARD OF 'furcatelaw02.ParseBelow'. -/
def parseBelowCard : Claim7 := { stood := { row := parseBelowRow, standIns := [], harness := (true, "7abe5146d3869ba72297ea7a320f3df54ae3b2f7d0dd7f57f84d9039f7313fee"), looks := true }, kinds := [], alts := [], laidByText := true, laidKinds := [.data, .data, .data, .data, .sentinel, .sentinel, .pinned], laidTests := true, laidLooks := .later }
def ParseBelowCardSaid : Prop := Claim7.holds Tryz.pinned (.plain (OpenSpec.ofChange parseBelowSpec)) parseBelowCard

/-- THE TIED CARD OF 'furcatelaw02.ParseRefuses'. -/
def parseRefusesCard : Claim7 := { stood := { row := parseRefusesRow, standIns := [], harness := (true, "7abe5146d3869ba72297ea7a320f3df54ae3b2f7d0dd7f57f84d9039f7313fee"), looks := true }, kinds := [], alts := [], laidByText := true, laidKinds := [.data, .data, .data, .data, .sentinel, .sentinel, .pinned], laidTests := true, laidLooks := .later }
def ParseRefusesCardSaid : Prop := Claim7.holds Tryz.pinned (.plain (OpenSpec.ofChange parseRefusesSpec)) parseRefusesCard

/-- THE TIED CARD OF 'furcatelaw02.ParseDeep'. -/
def parseDeepCard : Claim7 := { stood := { row := parseDeepRow, standIns := [], harness := (true, "7abe5146d3869ba72297ea7a320f3df54ae3b2f7d0dd7f57f84d9039f7313fee"), looks := true }, kinds := [], alts := [], laidByText := true, laidKinds := [.data, .data, .data, .data, .sentinel, .sentinel, .pinned], laidTests := true, laidLooks := .later }
def ParseDeepCardSaid : Prop := Claim7.holds Tryz.pinned (.plain (OpenSpec.ofChange parseDeepSpec)) parseDeepCard

/-- THE TIED CARD OF 'furcatelaw02.ParseBlanks'. -/
def parseBlanksCard : Claim7 := { stood := { row := parseBlanksRow, standIns := [], harness := (true, "7abe5146d3869ba72297ea7a320f3df54ae3b2f7d0dd7f57f84d9039f7313fee"), looks := true }, kinds := [], alts := [], laidByText := true, laidKinds := [.data, .data, .data, .data, .sentinel, .sentinel, .pinned], laidTests := true, laidLooks := .later }
def ParseBlanksCardSaid : Prop := Claim7.holds Tryz.pinned (.plain (OpenSpec.ofChange parseBlanksSpec)) parseBlanksCard

/-- THE TIED CARD OF 'furcatelaw02.ParseBoth'. -/
def parseBothCard : Claim7 := { stood := { row := parseBothRow, standIns := [], harness := (true, "7abe5146d3869ba72297ea7a320f3df54ae3b2f7d0dd7f57f84d9039f7313fee"), looks := true }, kinds := [], alts := [], laidByText := true, laidKinds := [.data, .data, .data, .data, .sentinel, .sentinel, .pinned], laidTests := true, laidLooks := .later }
def ParseBothCardSaid : Prop := Claim7.holds Tryz.pinned (.plain (OpenSpec.ofChange parseBothSpec)) parseBothCard

/-- THE TIED CARD OF 'furcatelaw02.ParseSides'. -/
def parseSidesCard : Claim7 := { stood := { row := parseSidesRow, standIns := [], harness := (true, "7abe5146d3869ba72297ea7a320f3df54ae3b2f7d0dd7f57f84d9039f7313fee"), looks := true }, kinds := [], alts := [], laidByText := true, laidKinds := [.data, .data, .data, .data, .sentinel, .sentinel, .pinned], laidTests := true, laidLooks := .later }
def ParseSidesCardSaid : Prop := Claim7.holds Tryz.pinned (.plain (OpenSpec.ofChange parseSidesSpec)) parseSidesCard

/-- THE SECOND FORM's CARD OF 'furcatelaw02.ParseAll'. -/
def parseAllUptoCard : Claim7 := { stood := { row := parseAllUptoRow, standIns := [], harness := (true, "7abe5146d3869ba72297ea7a320f3df54ae3b2f7d0dd7f57f84d9039f7313fee"), looks := true }, kinds := [], alts := [], laidByText := true, laidKinds := [.data, .data, .data, .data, .sentinel, .sentinel, .pinned], laidTests := true, laidLooks := .later }
def ParseAllUptoCardSaid : Prop := Claim7.holds Tryz.pinned (.plain (OpenSpec.upto parseAllSpec)) parseAllUptoCard

/-- THE SECOND FORM's CARD OF 'furcatelaw02.ParseBelow'. -/
def parseBelowUptoCard : Claim7 := { stood := { row := parseBelowUptoRow, standIns := [], harness := (true, "7abe5146d3869ba72297ea7a320f3df54ae3b2f7d0dd7f57f84d9039f7313fee"), looks := true }, kinds := [], alts := [], laidByText := true, laidKinds := [.data, .data, .data, .data, .sentinel, .sentinel, .pinned], laidTests := true, laidLooks := .later }
def ParseBelowUptoCardSaid : Prop := Claim7.holds Tryz.pinned (.plain (OpenSpec.upto parseBelowSpec)) parseBelowUptoCard

/-- THE SECOND FORM's CARD OF 'furcatelaw02.ParseRefuses'. -/
def parseRefusesUptoCard : Claim7 := { stood := { row := parseRefusesUptoRow, standIns := [], harness := (true, "7abe5146d3869ba72297ea7a320f3df54ae3b2f7d0dd7f57f84d9039f7313fee"), looks := true }, kinds := [], alts := [], laidByText := true, laidKinds := [.data, .data, .data, .data, .sentinel, .sentinel, .pinned], laidTests := true, laidLooks := .later }
def ParseRefusesUptoCardSaid : Prop := Claim7.holds Tryz.pinned (.plain (OpenSpec.upto parseRefusesSpec)) parseRefusesUptoCard

/-- THE SECOND FORM's CARD OF 'furcatelaw02.ParseDeep'. -/
def parseDeepUptoCard : Claim7 := { stood := { row := parseDeepUptoRow, standIns := [], harness := (true, "7abe5146d3869ba72297ea7a320f3df54ae3b2f7d0dd7f57f84d9039f7313fee"), looks := true }, kinds := [], alts := [], laidByText := true, laidKinds := [.data, .data, .data, .data, .sentinel, .sentinel, .pinned], laidTests := true, laidLooks := .later }
def ParseDeepUptoCardSaid : Prop := Claim7.holds Tryz.pinned (.plain (OpenSpec.upto parseDeepSpec)) parseDeepUptoCard

/-- THE SECOND FORM's CARD OF 'furcatelaw02.ParseBlanks'. -/
def parseBlanksUptoCard : Claim7 := { stood := { row := parseBlanksUptoRow, standIns := [], harness := (true, "7abe5146d3869ba72297ea7a320f3df54ae3b2f7d0dd7f57f84d9039f7313fee"), looks := true }, kinds := [], alts := [], laidByText := true, laidKinds := [.data, .data, .data, .data, .sentinel, .sentinel, .pinned], laidTests := true, laidLooks := .later }
def ParseBlanksUptoCardSaid : Prop := Claim7.holds Tryz.pinned (.plain (OpenSpec.upto parseBlanksSpec)) parseBlanksUptoCard

/-- THE SECOND FORM's CARD OF 'furcatelaw02.ParseBoth'. -/
def parseBothUptoCard : Claim7 := { stood := { row := parseBothUptoRow, standIns := [], harness := (true, "7abe5146d3869ba72297ea7a320f3df54ae3b2f7d0dd7f57f84d9039f7313fee"), looks := true }, kinds := [], alts := [], laidByText := true, laidKinds := [.data, .data, .data, .data, .sentinel, .sentinel, .pinned], laidTests := true, laidLooks := .later }
def ParseBothUptoCardSaid : Prop := Claim7.holds Tryz.pinned (.plain (OpenSpec.upto parseBothSpec)) parseBothUptoCard

/-- THE SECOND FORM's CARD OF 'furcatelaw02.ParseSides'. -/
def parseSidesUptoCard : Claim7 := { stood := { row := parseSidesUptoRow, standIns := [], harness := (true, "7abe5146d3869ba72297ea7a320f3df54ae3b2f7d0dd7f57f84d9039f7313fee"), looks := true }, kinds := [], alts := [], laidByText := true, laidKinds := [.data, .data, .data, .data, .sentinel, .sentinel, .pinned], laidTests := true, laidLooks := .later }
def ParseSidesUptoCardSaid : Prop := Claim7.holds Tryz.pinned (.plain (OpenSpec.upto parseSidesSpec)) parseSidesUptoCard
end Rows
end Go.Proofs.YtjhhlmonomeofaaGreatDoor
