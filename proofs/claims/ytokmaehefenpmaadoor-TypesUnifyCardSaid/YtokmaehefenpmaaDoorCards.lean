/-
  DERIVED. GIVEN WITH THE SEED: THE CARDS: each row of YtokmaehefenpmaaDoorRows.lean that lists a variable, with what it lists TIED to the program's text (the seventh form; the later family's looks); each row that meets fmt, with fmt's text TOLD by the authors' own Lean function (tested against real Go, not proved from fmt's source: count such statements apart). THE CARD IS WHAT COUNTS. Prove the row's statement (the work); the ties are given (YtokmaehefenpmaaDoorTie.lean); close each card by the builder's one call (the guide's Derived/Test/ToyasCard.lean, 'card_holds'). Laid BY PROGRAM, IN A SANDBOX (cutbox-door.mjs). By AI agents, Wed Nov 11 2026. No macro, syntax, notation, axiom, sorry.
-/
import Derived.Test.YtokmaehefenpmaaDoorRows
import GoSem.ClaimSeven
namespace Go.Proofs.YtokmaehefenpmaaDoor
namespace Rows

/-- THE TIED CARD OF 'covalentlaw03.TypesTwice'. -/
def typesTwiceCard : Claim7 := { stood := { row := typesTwiceRow, standIns := [], harness := (true, "79ff3491affca263dd6dd82ca77aa1e49ff6af32222f2804afa1a60c59480018"), looks := true }, kinds := [], alts := [], laidByText := true, laidKinds := [.data, .data, .data], laidTests := true, laidLooks := .later }
def TypesTwiceCardSaid : Prop := Claim7.holds Tryd.pinned (.plain (OpenSpec.ofChange typesTwiceSpec)) typesTwiceCard

/-- THE TIED CARD OF 'covalentlaw03.TypesApply'. -/
def typesApplyCard : Claim7 := { stood := { row := typesApplyRow, standIns := [], harness := (true, "79ff3491affca263dd6dd82ca77aa1e49ff6af32222f2804afa1a60c59480018"), looks := true }, kinds := [], alts := [], laidByText := true, laidKinds := [.data, .data, .data], laidTests := true, laidLooks := .later }
def TypesApplyCardSaid : Prop := Claim7.holds Tryd.pinned (.plain (OpenSpec.ofChange typesApplySpec)) typesApplyCard

/-- THE TIED CARD OF 'covalentlaw03.TypesOrder'. -/
def typesOrderCard : Claim7 := { stood := { row := typesOrderRow, standIns := [], harness := (true, "79ff3491affca263dd6dd82ca77aa1e49ff6af32222f2804afa1a60c59480018"), looks := true }, kinds := [], alts := [], laidByText := true, laidKinds := [.data, .data, .data], laidTests := true, laidLooks := .later }
def TypesOrderCardSaid : Prop := Claim7.holds Tryd.pinned (.plain (OpenSpec.ofChange typesOrderSpec)) typesOrderCard

/-- THE TIED CARD OF 'covalentlaw03.TypesMatch'. -/
def typesMatchCard : Claim7 := { stood := { row := typesMatchRow, standIns := [], harness := (true, "79ff3491affca263dd6dd82ca77aa1e49ff6af32222f2804afa1a60c59480018"), looks := true }, kinds := [], alts := [], laidByText := true, laidKinds := [.data, .data, .data], laidTests := true, laidLooks := .later }
def TypesMatchCardSaid : Prop := Claim7.holds Tryd.pinned (.plain (OpenSpec.ofChange typesMatchSpec)) typesMatchCard

/-- THE TIED CARD OF 'covalentlaw03.TypesMatches'. -/
def typesMatchesCard : Claim7 := { stood := { row := typesMatchesRow, standIns := [], harness := (true, "79ff3491affca263dd6dd82ca77aa1e49ff6af32222f2804afa1a60c59480018"), looks := true }, kinds := [], alts := [], laidByText := true, laidKinds := [.data, .data, .data], laidTests := true, laidLooks := .later }
def TypesMatchesCardSaid : Prop := Claim7.holds Tryd.pinned (.plain (OpenSpec.ofChange typesMatchesSpec)) typesMatchesCard

/-- THE TIED CARD OF 'covalentlaw03.TypesTexts'. -/
def typesTextsCard : Claim7 := { stood := { row := typesTextsRow, standIns := [], harness := (true, "79ff3491affca263dd6dd82ca77aa1e49ff6af32222f2804afa1a60c59480018"), looks := true }, kinds := [], alts := [], laidByText := true, laidKinds := [.data, .data, .data, .sentinel, .sentinel], laidTests := true, laidLooks := .later }
def TypesTextsCardSaid : Prop := Claim7.holds Tryd.pinned (.plain (OpenSpec.ofChange typesTextsSpec)) typesTextsCard

/-- THE TIED CARD OF 'covalentlaw03.TypesReads'. -/
def typesReadsCard : Claim7 := { stood := { row := typesReadsRow, standIns := [], harness := (true, "79ff3491affca263dd6dd82ca77aa1e49ff6af32222f2804afa1a60c59480018"), looks := true }, kinds := [], alts := [], laidByText := true, laidKinds := [.data, .data, .data, .sentinel, .sentinel], laidTests := true, laidLooks := .later }
def TypesReadsCardSaid : Prop := Claim7.holds Tryd.pinned (.plain (OpenSpec.ofChange typesReadsSpec)) typesReadsCard

/-- THE TIED CARD OF 'covalentlaw03.TypesSubst'. -/
def typesSubstCard : Claim7 := { stood := { row := typesSubstRow, standIns := [], harness := (true, "79ff3491affca263dd6dd82ca77aa1e49ff6af32222f2804afa1a60c59480018"), looks := true }, kinds := [], alts := [], laidByText := true, laidKinds := [.data, .data, .data], laidTests := true, laidLooks := .later }
def TypesSubstCardSaid : Prop := Claim7.holds Tryd.pinned (.plain (OpenSpec.ofChange typesSubstSpec)) typesSubstCard

/-- THE TIED CARD OF 'covalentlaw03.TypesUnify'. -/
def typesUnifyCard : Claim7 := { stood := { row := typesUnifyRow, standIns := [], harness := (true, "79ff3491affca263dd6dd82ca77aa1e49ff6af32222f2804afa1a60c59480018"), looks := true }, kinds := [], alts := [], laidByText := true, laidKinds := [.data, .data, .data], laidTests := true, laidLooks := .later }
def TypesUnifyCardSaid : Prop := Claim7.holds Tryd.pinned (.plain (OpenSpec.ofChange typesUnifySpec)) typesUnifyCard

/-- THE TIED CARD OF 'covalentlaw03.TypesOrders'. -/
def typesOrdersCard : Claim7 := { stood := { row := typesOrdersRow, standIns := [], harness := (true, "79ff3491affca263dd6dd82ca77aa1e49ff6af32222f2804afa1a60c59480018"), looks := true }, kinds := [], alts := [], laidByText := true, laidKinds := [.data, .data, .data], laidTests := true, laidLooks := .later }
def TypesOrdersCardSaid : Prop := Claim7.holds Tryd.pinned (.plain (OpenSpec.ofChange typesOrdersSpec)) typesOrdersCard

/-- THE TIED CARD OF 'covalentlaw03.TypesSolves'. -/
def typesSolvesCard : Claim7 := { stood := { row := typesSolvesRow, standIns := [], harness := (true, "79ff3491affca263dd6dd82ca77aa1e49ff6af32222f2804afa1a60c59480018"), looks := true }, kinds := [], alts := [], laidByText := true, laidKinds := [.data, .data, .data], laidTests := true, laidLooks := .later }
def TypesSolvesCardSaid : Prop := Claim7.holds Tryd.pinned (.plain (OpenSpec.ofChange typesSolvesSpec)) typesSolvesCard

/-- THE TIED CARD OF 'covalentlaw03.TypesGeneral'. -/
def typesGeneralCard : Claim7 := { stood := { row := typesGeneralRow, standIns := [], harness := (true, "79ff3491affca263dd6dd82ca77aa1e49ff6af32222f2804afa1a60c59480018"), looks := true }, kinds := [], alts := [], laidByText := true, laidKinds := [.data, .data, .data], laidTests := true, laidLooks := .later }
def TypesGeneralCardSaid : Prop := Claim7.holds Tryd.pinned (.plain (OpenSpec.ofChange typesGeneralSpec)) typesGeneralCard

/-- THE SECOND FORM's CARD OF 'covalentlaw03.TypesTwice'. -/
def typesTwiceUptoCard : Claim7 := { stood := { row := typesTwiceUptoRow, standIns := [], harness := (true, "79ff3491affca263dd6dd82ca77aa1e49ff6af32222f2804afa1a60c59480018"), looks := true }, kinds := [], alts := [], laidByText := true, laidKinds := [.data, .data, .data], laidTests := true, laidLooks := .later }
def TypesTwiceUptoCardSaid : Prop := Claim7.holds Tryd.pinned (.plain (OpenSpec.upto typesTwiceSpec)) typesTwiceUptoCard

/-- THE SECOND FORM's CARD OF 'covalentlaw03.TypesApply'. -/
def typesApplyUptoCard : Claim7 := { stood := { row := typesApplyUptoRow, standIns := [], harness := (true, "79ff3491affca263dd6dd82ca77aa1e49ff6af32222f2804afa1a60c59480018"), looks := true }, kinds := [], alts := [], laidByText := true, laidKinds := [.data, .data, .data], laidTests := true, laidLooks := .later }
def TypesApplyUptoCardSaid : Prop := Claim7.holds Tryd.pinned (.plain (OpenSpec.upto typesApplySpec)) typesApplyUptoCard

/-- THE SECOND FORM's CARD OF 'covalentlaw03.TypesOrder'. -/
def typesOrderUptoCard : Claim7 := { stood := { row := typesOrderUptoRow, standIns := [], harness := (true, "79ff3491affca263dd6dd82ca77aa1e49ff6af32222f2804afa1a60c59480018"), looks := true }, kinds := [], alts := [], laidByText := true, laidKinds := [.data, .data, .data], laidTests := true, laidLooks := .later }
def TypesOrderUptoCardSaid : Prop := Claim7.holds Tryd.pinned (.plain (OpenSpec.upto typesOrderSpec)) typesOrderUptoCard

/-- THE SECOND FORM's CARD OF 'covalentlaw03.TypesMatch'. -/
def typesMatchUptoCard : Claim7 := { stood := { row := typesMatchUptoRow, standIns := [], harness := (true, "79ff3491affca263dd6dd82ca77aa1e49ff6af32222f2804afa1a60c59480018"), looks := true }, kinds := [], alts := [], laidByText := true, laidKinds := [.data, .data, .data], laidTests := true, laidLooks := .later }
def TypesMatchUptoCardSaid : Prop := Claim7.holds Tryd.pinned (.plain (OpenSpec.upto typesMatchSpec)) typesMatchUptoCard

/-- THE SECOND FORM's CARD OF 'covalentlaw03.TypesMatches'. -/
def typesMatchesUptoCard : Claim7 := { stood := { row := typesMatchesUptoRow, standIns := [], harness := (true, "79ff3491affca263dd6dd82ca77aa1e49ff6af32222f2804afa1a60c59480018"), looks := true }, kinds := [], alts := [], laidByText := true, laidKinds := [.data, .data, .data], laidTests := true, laidLooks := .later }
def TypesMatchesUptoCardSaid : Prop := Claim7.holds Tryd.pinned (.plain (OpenSpec.upto typesMatchesSpec)) typesMatchesUptoCard

/-- THE SECOND FORM's CARD OF 'covalentlaw03.TypesTexts'. -/
def typesTextsUptoCard : Claim7 := { stood := { row := typesTextsUptoRow, standIns := [], harness := (true, "79ff3491affca263dd6dd82ca77aa1e49ff6af32222f2804afa1a60c59480018"), looks := true }, kinds := [], alts := [], laidByText := true, laidKinds := [.data, .data, .data, .sentinel, .sentinel], laidTests := true, laidLooks := .later }
def TypesTextsUptoCardSaid : Prop := Claim7.holds Tryd.pinned (.plain (OpenSpec.upto typesTextsSpec)) typesTextsUptoCard

/-- THE SECOND FORM's CARD OF 'covalentlaw03.TypesReads'. -/
def typesReadsUptoCard : Claim7 := { stood := { row := typesReadsUptoRow, standIns := [], harness := (true, "79ff3491affca263dd6dd82ca77aa1e49ff6af32222f2804afa1a60c59480018"), looks := true }, kinds := [], alts := [], laidByText := true, laidKinds := [.data, .data, .data, .sentinel, .sentinel], laidTests := true, laidLooks := .later }
def TypesReadsUptoCardSaid : Prop := Claim7.holds Tryd.pinned (.plain (OpenSpec.upto typesReadsSpec)) typesReadsUptoCard

/-- THE SECOND FORM's CARD OF 'covalentlaw03.TypesSubst'. -/
def typesSubstUptoCard : Claim7 := { stood := { row := typesSubstUptoRow, standIns := [], harness := (true, "79ff3491affca263dd6dd82ca77aa1e49ff6af32222f2804afa1a60c59480018"), looks := true }, kinds := [], alts := [], laidByText := true, laidKinds := [.data, .data, .data], laidTests := true, laidLooks := .later }
def TypesSubstUptoCardSaid : Prop := Claim7.holds Tryd.pinned (.plain (OpenSpec.upto typesSubstSpec)) typesSubstUptoCard

/-- THE SECOND FORM's CARD OF 'covalentlaw03.TypesUnify'. -/
def typesUnifyUptoCard : Claim7 := { stood := { row := typesUnifyUptoRow, standIns := [], harness := (true, "79ff3491affca263dd6dd82ca77aa1e49ff6af32222f2804afa1a60c59480018"), looks := true }, kinds := [], alts := [], laidByText := true, laidKinds := [.data, .data, .data], laidTests := true, laidLooks := .later }
def TypesUnifyUptoCardSaid : Prop := Claim7.holds Tryd.pinned (.plain (OpenSpec.upto typesUnifySpec)) typesUnifyUptoCard

/-- THE SECOND FORM's CARD OF 'covalentlaw03.TypesOrders'. -/
def typesOrdersUptoCard : Claim7 := { stood := { row := typesOrdersUptoRow, standIns := [], harness := (true, "79ff3491affca263dd6dd82ca77aa1e49ff6af32222f2804afa1a60c59480018"), looks := true }, kinds := [], alts := [], laidByText := true, laidKinds := [.data, .data, .data], laidTests := true, laidLooks := .later }
def TypesOrdersUptoCardSaid : Prop := Claim7.holds Tryd.pinned (.plain (OpenSpec.upto typesOrdersSpec)) typesOrdersUptoCard

/-- THE SECOND FORM's CARD OF 'covalentlaw03.TypesSolves'. -/
def typesSolvesUptoCard : Claim7 := { stood := { row := typesSolvesUptoRow, standIns := [], harness := (true, "79ff3491affca263dd6dd82ca77aa1e49ff6af32222f2804afa1a60c59480018"), looks := true }, kinds := [], alts := [], laidByText := true, laidKinds := [.data, .data, .data], laidTests := true, laidLooks := .later }
def TypesSolvesUptoCardSaid : Prop := Claim7.holds Tryd.pinned (.plain (OpenSpec.upto typesSolvesSpec)) typesSolvesUptoCard

/-- THE SECOND FORM's CARD OF 'covalentlaw03.TypesGeneral'. -/
def typesGeneralUptoCard : Claim7 := { stood := { row := typesGeneralUptoRow, standIns := [], harness := (true, "79ff3491affca263dd6dd82ca77aa1e49ff6af32222f2804afa1a60c59480018"), looks := true }, kinds := [], alts := [], laidByText := true, laidKinds := [.data, .data, .data], laidTests := true, laidLooks := .later }
def TypesGeneralUptoCardSaid : Prop := Claim7.holds Tryd.pinned (.plain (OpenSpec.upto typesGeneralSpec)) typesGeneralUptoCard
end Rows
end Go.Proofs.YtokmaehefenpmaaDoor
