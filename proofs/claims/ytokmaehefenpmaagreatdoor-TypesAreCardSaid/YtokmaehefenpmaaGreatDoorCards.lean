/-
  DERIVED. GIVEN WITH THE SEED: THE CARDS: each row of YtokmaehefenpmaaGreatDoorRows.lean that lists a variable, with what it lists TIED to the program's text (the seventh form; the later family's looks); each row that meets fmt, with fmt's text TOLD by the authors' own Lean function (tested against real Go, not proved from fmt's source: count such statements apart). THE CARD IS WHAT COUNTS. Prove the row's statement (the work); the ties are given (YtokmaehefenpmaaGreatDoorTie.lean); close each card by the builder's one call (the guide's Derived/Test/ToyasCard.lean, 'card_holds'). Laid BY PROGRAM, IN A SANDBOX (cutbox-door.mjs). By AI agents, Wed Nov 11 2026. No macro, syntax, notation, axiom, sorry.
-/
import Derived.Test.YtokmaehefenpmaaGreatDoorRows
import GoSem.ClaimSeven
namespace Go.Proofs.YtokmaehefenpmaaGreatDoor
namespace Rows

/-- THE TIED CARD OF 'covalentlaw03.TypesAre'. -/
def typesAreCard : Claim7 := { stood := { row := typesAreRow, standIns := [], harness := (true, "f09025d997c511db43bde8213f20eada00d3d9b34b6796a766969b3182a8c866"), looks := false }, kinds := [], alts := [], laidByText := true, laidKinds := [.data, .data, .data], laidTests := true, laidLooks := .later }
def TypesAreCardSaid : Prop := Claim7.holds Tryz.pinned (.plain (OpenSpec.ofChange typesAreSpec)) typesAreCard

/-- THE SECOND FORM's CARD OF 'covalentlaw03.TypesAre'. -/
def typesAreUptoCard : Claim7 := { stood := { row := typesAreUptoRow, standIns := [], harness := (true, "f09025d997c511db43bde8213f20eada00d3d9b34b6796a766969b3182a8c866"), looks := false }, kinds := [], alts := [], laidByText := true, laidKinds := [.data, .data, .data], laidTests := true, laidLooks := .later }
def TypesAreUptoCardSaid : Prop := Claim7.holds Tryz.pinned (.plain (OpenSpec.upto typesAreSpec)) typesAreUptoCard
end Rows
end Go.Proofs.YtokmaehefenpmaaGreatDoor
