/-
  DERIVED. GIVEN WITH THE SEED: THE CARDS: each row of YtclainfdeghgnaaDoorRows.lean that lists a variable, with what it lists TIED to the program's text (the seventh form; the later family's looks); each row that meets fmt, with fmt's text TOLD by the authors' own Lean function (tested against real Go, not proved from fmt's source: count such statements apart). THE CARD IS WHAT COUNTS. Prove the row's statement (the work); the ties are given (YtclainfdeghgnaaDoorTie.lean); close each card by the builder's one call (the guide's Derived/Test/ToyasCard.lean, 'card_holds'). Laid BY PROGRAM, IN A SANDBOX (cutbox-door.mjs). By AI agents, Wed Nov 11 2026. No macro, syntax, notation, axiom, sorry.
-/
import Derived.Test.YtclainfdeghgnaaDoorRows
import GoSem.ClaimSeven
namespace Go.Proofs.YtclainfdeghgnaaDoor
namespace Rows

/-- THE TIED CARD OF 'covalentlaw26.NumberNormal'. -/
def numberNormalCard : Claim7 := { stood := { row := numberNormalRow, standIns := [], harness := (true, "3cc7a1d14e7f0a61192579cc2ecb5b2d291461b2ff0df47e0fa47f76e96ea8f9"), looks := true }, kinds := [], alts := [], laidByText := true, laidKinds := [.data, .data, .data], laidTests := true, laidLooks := .later }
def NumberNormalCardSaid : Prop := Claim7.holds Tryd.pinned (.plain (OpenSpec.ofChange numberNormalSpec)) numberNormalCard

/-- THE TIED CARD OF 'covalentlaw26.NumberTexts'. -/
def numberTextsCard : Claim7 := { stood := { row := numberTextsRow, standIns := [], harness := (true, "3cc7a1d14e7f0a61192579cc2ecb5b2d291461b2ff0df47e0fa47f76e96ea8f9"), looks := true }, kinds := [], alts := [], laidByText := true, laidKinds := [.data, .data, .data, .sentinel, .sentinel], laidTests := true, laidLooks := .later }
def NumberTextsCardSaid : Prop := Claim7.holds Tryd.pinned (.plain (OpenSpec.ofChange numberTextsSpec)) numberTextsCard

/-- THE SECOND FORM's CARD OF 'covalentlaw26.NumberNormal'. -/
def numberNormalUptoCard : Claim7 := { stood := { row := numberNormalUptoRow, standIns := [], harness := (true, "3cc7a1d14e7f0a61192579cc2ecb5b2d291461b2ff0df47e0fa47f76e96ea8f9"), looks := true }, kinds := [], alts := [], laidByText := true, laidKinds := [.data, .data, .data], laidTests := true, laidLooks := .later }
def NumberNormalUptoCardSaid : Prop := Claim7.holds Tryd.pinned (.plain (OpenSpec.upto numberNormalSpec)) numberNormalUptoCard

/-- THE SECOND FORM's CARD OF 'covalentlaw26.NumberTexts'. -/
def numberTextsUptoCard : Claim7 := { stood := { row := numberTextsUptoRow, standIns := [], harness := (true, "3cc7a1d14e7f0a61192579cc2ecb5b2d291461b2ff0df47e0fa47f76e96ea8f9"), looks := true }, kinds := [], alts := [], laidByText := true, laidKinds := [.data, .data, .data, .sentinel, .sentinel], laidTests := true, laidLooks := .later }
def NumberTextsUptoCardSaid : Prop := Claim7.holds Tryd.pinned (.plain (OpenSpec.upto numberTextsSpec)) numberTextsUptoCard
end Rows
end Go.Proofs.YtclainfdeghgnaaDoor
