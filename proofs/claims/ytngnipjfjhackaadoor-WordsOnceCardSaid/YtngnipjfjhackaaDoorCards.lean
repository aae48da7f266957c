/-
  DERIVED. GIVEN WITH THE SEED: THE CARDS: each row of YtngnipjfjhackaaDoorRows.lean that lists a variable, with what it lists TIED to the program's text (the seventh form; the later family's looks); each row that meets fmt, with fmt's text TOLD by the authors' own Lean function (tested against real Go, not proved from fmt's source: count such statements apart). THE CARD IS WHAT COUNTS. Prove the row's statement (the work); the ties are given (YtngnipjfjhackaaDoorTie.lean); close each card by the builder's one call (the guide's Derived/Test/ToyasCard.lean, 'card_holds'). Laid BY PROGRAM, IN A SANDBOX (cutbox-door.mjs). By AI agents, Wed Nov 11 2026. No macro, syntax, notation, axiom, sorry.
-/
import Derived.Test.YtngnipjfjhackaaDoorRows
import GoSem.ClaimSeven
namespace Go.Proofs.YtngnipjfjhackaaDoor
namespace Rows

/-- THE TIED CARD OF 'furcatelaw22.WordsVerbs'. -/
def wordsVerbsCard : Claim7 := { stood := { row := wordsVerbsRow, standIns := [], harness := (true, "27bce6f0118c5fa3b8885f10b02f4ac64a8f700dcdd3ecae6a05963a3b5ad13d"), looks := true }, kinds := [], alts := [], laidByText := true, laidKinds := [.data, .data, .data, .data, .sentinel, .sentinel, .pinned], laidTests := true, laidLooks := .later }
def WordsVerbsCardSaid : Prop := Claim7.holds Tryd.pinned (.plain (OpenSpec.ofChange wordsVerbsSpec)) wordsVerbsCard

/-- THE TIED CARD OF 'furcatelaw22.WordsBools'. -/
def wordsBoolsCard : Claim7 := { stood := { row := wordsBoolsRow, standIns := [], harness := (true, "27bce6f0118c5fa3b8885f10b02f4ac64a8f700dcdd3ecae6a05963a3b5ad13d"), looks := true }, kinds := [], alts := [], laidByText := true, laidKinds := [.data, .data, .data, .data, .sentinel, .sentinel, .pinned], laidTests := true, laidLooks := .later }
def WordsBoolsCardSaid : Prop := Claim7.holds Tryd.pinned (.plain (OpenSpec.ofChange wordsBoolsSpec)) wordsBoolsCard

/-- THE TIED CARD OF 'furcatelaw22.WordsOnce'. -/
def wordsOnceCard : Claim7 := { stood := { row := wordsOnceRow, standIns := [], harness := (true, "27bce6f0118c5fa3b8885f10b02f4ac64a8f700dcdd3ecae6a05963a3b5ad13d"), looks := true }, kinds := [], alts := [], laidByText := true, laidKinds := [.data, .data, .data, .data, .sentinel, .sentinel, .pinned], laidTests := true, laidLooks := .later }
def WordsOnceCardSaid : Prop := Claim7.holds Tryd.pinned (.plain (OpenSpec.ofChange wordsOnceSpec)) wordsOnceCard

/-- THE TIED CARD OF 'furcatelaw22.WordsValues'. -/
def wordsValuesCard : Claim7 := { stood := { row := wordsValuesRow, standIns := [], harness := (true, "27bce6f0118c5fa3b8885f10b02f4ac64a8f700dcdd3ecae6a05963a3b5ad13d"), looks := true }, kinds := [], alts := [], laidByText := true, laidKinds := [.data, .data, .data, .data, .sentinel, .sentinel, .pinned], laidTests := true, laidLooks := .later }
def WordsValuesCardSaid : Prop := Claim7.holds Tryd.pinned (.plain (OpenSpec.ofChange wordsValuesSpec)) wordsValuesCard

/-- THE SECOND FORM's CARD OF 'furcatelaw22.WordsVerbs'. -/
def wordsVerbsUptoCard : Claim7 := { stood := { row := wordsVerbsUptoRow, standIns := [], harness := (true, "27bce6f0118c5fa3b8885f10b02f4ac64a8f700dcdd3ecae6a05963a3b5ad13d"), looks := true }, kinds := [], alts := [], laidByText := true, laidKinds := [.data, .data, .data, .data, .sentinel, .sentinel, .pinned], laidTests := true, laidLooks := .later }
def WordsVerbsUptoCardSaid : Prop := Claim7.holds Tryd.pinned (.plain (OpenSpec.upto wordsVerbsSpec)) wordsVerbsUptoCard

/-- THE SECOND FORM's CARD OF 'furcatelaw22.WordsBools'. -/
def wordsBoolsUptoCard : Claim7 := { stood := { row := wordsBoolsUptoRow, standIns := [], harness := (true, "27bce6f0118c5fa3b8885f10b02f4ac64a8f700dcdd3ecae6a05963a3b5ad13d"), looks := true }, kinds := [], alts := [], laidByText := true, laidKinds := [.data, .data, .data, .data, .sentinel, .sentinel, .pinned], laidTests := true, laidLooks := .later }
def WordsBoolsUptoCardSaid : Prop := Claim7.holds Tryd.pinned (.plain (OpenSpec.upto wordsBoolsSpec)) wordsBoolsUptoCard

/-- THE SECOND FORM's CARD OF 'furcatelaw22.WordsOnce'. -/
def wordsOnceUptoCard : Claim7 := { stood := { row := wordsOnceUptoRow, standIns := [], harness := (true, "27bce6f0118c5fa3b8885f10b02f4ac64a8f700dcdd3ecae6a05963a3b5ad13d"), looks := true }, kinds := [], alts := [], laidByText := true, laidKinds := [.data, .data, .data, .data, .sentinel, .sentinel, .pinned], laidTests := true, laidLooks := .later }
def WordsOnceUptoCardSaid : Prop := Claim7.holds Tryd.pinned (.plain (OpenSpec.upto wordsOnceSpec)) wordsOnceUptoCard

/-- THE SECOND FORM's CARD OF 'furcatelaw22.WordsValues'. -/
def wordsValuesUptoCard : Claim7 := { stood := { row := wordsValuesUptoRow, standIns := [], harness := (true, "27bce6f0118c5fa3b8885f10b02f4ac64a8f700dcdd3ecae6a05963a3b5ad13d"), looks := true }, kinds := [], alts := [], laidByText := true, laidKinds := [.data, .data, .data, .data, .sentinel, .sentinel, .pinned], laidTests := true, laidLooks := .later }
def WordsValuesUptoCardSaid : Prop := Claim7.holds Tryd.pinned (.plain (OpenSpec.upto wordsValuesSpec)) wordsValuesUptoCard
end Rows
end Go.Proofs.YtngnipjfjhackaaDoor
