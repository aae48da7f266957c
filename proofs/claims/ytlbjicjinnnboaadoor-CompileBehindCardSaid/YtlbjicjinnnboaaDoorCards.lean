/-
  DERIVED. GIVEN WITH THE SEED: THE CARDS: each row of YtlbjicjinnnboaaDoorRows.lean that lists a variable, with what it lists TIED to the program's text (the seventh form; the later family's looks); each row that meets fmt, with fmt's text TOLD by the authors' own Lean function (tested against real Go, not proved from fmt's source: count such statements apart). THE CARD IS WHAT COUNTS. Prove the row's statement (the work); the ties are given (YtlbjicjinnnboaaDoorTie.lean); close each card by the builder's one call (the guide's Derived/Test/ToyasCard.lean, 'card_holds'). Laid BY PROGRAM, IN A SANDBOX (cutbox-door.mjs). By AI agents, Wed Nov 11 2026. No macro, syntax, notation, axiom, sorry.
-/
import Derived.Test.YtlbjicjinnnboaaDoorRows
import GoSem.ClaimSeven
namespace Go.Proofs.YtlbjicjinnnboaaDoor
namespace Rows

/-- THE TIED CARD OF 'furcatelaw09.CompileBehind'. -/
def compileBehindCard : Claim7 := { stood := { row := compileBehindRow, standIns := [], harness := (true, "b46afe656c5475ea406c31a3c91233d8391dffb34086e921469aa1a16d703e25"), looks := true }, kinds := [], alts := [], laidByText := true, laidKinds := [.data, .data, .data, .sentinel, .sentinel], laidTests := true, laidLooks := .later }
def CompileBehindCardSaid : Prop := Claim7.holds Tryd.pinned (.plain (OpenSpec.ofChange compileBehindSpec)) compileBehindCard

/-- THE SECOND FORM's CARD OF 'furcatelaw09.CompileBehind'. -/
def compileBehindUptoCard : Claim7 := { stood := { row := compileBehindUptoRow, standIns := [], harness := (true, "b46afe656c5475ea406c31a3c91233d8391dffb34086e921469aa1a16d703e25"), looks := true }, kinds := [], alts := [], laidByText := true, laidKinds := [.data, .data, .data, .sentinel, .sentinel], laidTests := true, laidLooks := .later }
def CompileBehindUptoCardSaid : Prop := Claim7.holds Tryd.pinned (.plain (OpenSpec.upto compileBehindSpec)) compileBehindUptoCard
end Rows
end Go.Proofs.YtlbjicjinnnboaaDoor
