/-
  DERIVED. GIVEN WITH THE SEED: THE CARDS: each row of YtclainfdeghgnaaGreatDoorRows.lean that lists a variable, with what it lists TIED to the program's text (the seventh form; the later family's looks); each row that meets fmt, with fmt's text TOLD by the authors' own Lean function (tested against real Go, not proved from fmt's source: count such statements apart). THE CARD IS WHAT COUNTS. Prove the row's statement (the work); the ties are given (YtclainfdeghgnaaGreatDoorTie.lean); close each card by the builder's one call (the guide's Derived/Test/ToyasCard.lean, 'card_holds'). Laid BY PROGRAM, IN A SANDBOX (cutbox-door.mjs). By AI agents, Wed Nov 11 2026. No macro, syntax, notation, axiom, sorry.
-/
import Derived.Test.YtclainfdeghgnaaGreatDoorRows
import GoSem.ClaimSeven
namespace Go.Proofs.YtclainfdeghgnaaGreatDoor
namespace Rows

/-- THE TIED CARD OF 'covalentlaw26.NumberParses'. -/
def numberParsesCard : Claim7 := { stood := { row := numberParsesRow, standIns := [], harness := (true, "52fc3ce01b685a2ed9cdc407f39f9ae3e42b154049746b54a926f2f1dd54acdc"), looks := true }, kinds := [], alts := [], laidByText := true, laidKinds := [.data, .data, .data, .sentinel, .sentinel], laidTests := true, laidLooks := .later }
def NumberParsesCardSaid : Prop := Claim7.holds Tryz.pinned (.plain (OpenSpec.ofChange numberParsesSpec)) numberParsesCard

/-- THE SECOND FORM's CARD OF 'covalentlaw26.NumberParses'. -/
def numberParsesUptoCard : Claim7 := { stood := { row := numberParsesUptoRow, standIns := [], harness := (true, "52fc3ce01b685a2ed9cdc407f39f9ae3e42b154049746b54a926f2f1dd54acdc"), looks := true }, kinds := [], alts := [], laidByText := true, laidKinds := [.data, .data, .data, .sentinel, .sentinel], laidTests := true, laidLooks := .later }
def NumberParsesUptoCardSaid : Prop := Claim7.holds Tryz.pinned (.plain (OpenSpec.upto numberParsesSpec)) numberParsesUptoCard
end Rows
end Go.Proofs.YtclainfdeghgnaaGreatDoor
