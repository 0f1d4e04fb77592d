/-
  NARROWER THAN 'FOR EVERY INPUT', by the rows' own cells (each row's printed sentence says how): TypesTwice: loops, laid · TypesApply: loops, laid · TypesOrder: loops, laid · TypesMatch: loops, laid · TypesMatches: loops, laid · TypesTexts: loops, laid · TypesReads: laid · TypesSubst: loops, laid · TypesUnify: loops, laid · TypesOrders: loops, laid · TypesSolves: loops, laid · TypesGeneral: loops, laid.
  DERIVED. THE GIVEN ROWS OF THIS SEAT. 12 by the template 'for every input the law returns true; each argument reads behind the call as it read before'; 0 by the template 'total and deterministic' (their statements: YtokmaehefenpmaaDoorTotals.lean).
  GIVEN WITH THE SEED: the statements are not yours to turn. If you find one false, say at which input.
  Laid BY PROGRAM, IN A SANDBOX (cutbox-rows.mjs): the forced cells as the released guide's own fill.sh prints them over the translation a704f6562c485107… (all of the seat's roots in one cut). By AI agents, Wed Nov 11 2026. No macro, syntax, notation, axiom, sorry.
-/
import Derived.Test.YtokmaehefenpmaaDoorChecked
import GoSem.Claim
import GoSem.ClaimJoined
import GoSem.ClaimMapViews
import Derived.JoinedTies
import Derived.KernelRfl
namespace Go.Proofs.YtokmaehefenpmaaDoor
/- THE CELL 'sum', in the pinned program and in every row, IS THE sha256 OF THE DUMP (.gsa) THAT YtokmaehefenpmaaDoorProg.lean LOADS. Nothing in Lean hashes anything: it is a label: what it is worth is what the hold of that sum in a sandbox is worth. -/
noncomputable def Tryd.pinned : Pinned := { name := "ytokmaehefenpmaadoor", sum := "a704f6562c4851073f52f3e6cb72218f22b5281f132cf691178bbe87251f9a5b", checked := Tryd.checked }
namespace Rows
def none {H : Type} : Left H := { results := [], args := [] }

/- WHAT THE LISTED PACKAGE-LEVEL VARIABLES READ AS WHEN THE CALL BEGINS. Each datum BY PROGRAM (the guide's laid-datum.mjs) off the statement by which the dump's own 'gosem.cut.vars' lays the variable. In a bare row this is a premise. The card (YtokmaehefenpmaaDoorCards.lean) ties it to the program's text. -/
def laid_math_bits_deBruijn32tab {H : Type} : DataW H := .agg [.lit (.int .u8 0), .lit (.int .u8 1), .lit (.int .u8 28), .lit (.int .u8 2), .lit (.int .u8 29), .lit (.int .u8 14), .lit (.int .u8 24), .lit (.int .u8 3), .lit (.int .u8 30), .lit (.int .u8 22), .lit (.int .u8 20), .lit (.int .u8 15), .lit (.int .u8 25), .lit (.int .u8 17), .lit (.int .u8 4), .lit (.int .u8 8), .lit (.int .u8 31), .lit (.int .u8 27), .lit (.int .u8 13), .lit (.int .u8 23), .lit (.int .u8 21), .lit (.int .u8 19), .lit (.int .u8 16), .lit (.int .u8 7), .lit (.int .u8 26), .lit (.int .u8 12), .lit (.int .u8 18), .lit (.int .u8 6), .lit (.int .u8 11), .lit (.int .u8 5), .lit (.int .u8 10), .lit (.int .u8 9)]
def laid_math_bits_deBruijn64tab {H : Type} : DataW H := .agg [.lit (.int .u8 0), .lit (.int .u8 1), .lit (.int .u8 56), .lit (.int .u8 2), .lit (.int .u8 57), .lit (.int .u8 49), .lit (.int .u8 28), .lit (.int .u8 3), .lit (.int .u8 61), .lit (.int .u8 58), .lit (.int .u8 42), .lit (.int .u8 50), .lit (.int .u8 38), .lit (.int .u8 29), .lit (.int .u8 17), .lit (.int .u8 4), .lit (.int .u8 62), .lit (.int .u8 47), .lit (.int .u8 59), .lit (.int .u8 36), .lit (.int .u8 45), .lit (.int .u8 43), .lit (.int .u8 51), .lit (.int .u8 22), .lit (.int .u8 53), .lit (.int .u8 39), .lit (.int .u8 33), .lit (.int .u8 30), .lit (.int .u8 24), .lit (.int .u8 18), .lit (.int .u8 12), .lit (.int .u8 5), .lit (.int .u8 63), .lit (.int .u8 55), .lit (.int .u8 48), .lit (.int .u8 27), .lit (.int .u8 60), .lit (.int .u8 41), .lit (.int .u8 37), .lit (.int .u8 16), .lit (.int .u8 46), .lit (.int .u8 35), .lit (.int .u8 44), .lit (.int .u8 21), .lit (.int .u8 52), .lit (.int .u8 32), .lit (.int .u8 23), .lit (.int .u8 11), .lit (.int .u8 54), .lit (.int .u8 26), .lit (.int .u8 40), .lit (.int .u8 15), .lit (.int .u8 34), .lit (.int .u8 20), .lit (.int .u8 31), .lit (.int .u8 10), .lit (.int .u8 25), .lit (.int .u8 14), .lit (.int .u8 19), .lit (.int .u8 9), .lit (.int .u8 13), .lit (.int .u8 8), .lit (.int .u8 7), .lit (.int .u8 6)]
def laid_internal_strconv_uint64pow10 {H : Type} : DataW H := .agg [.lit (.int .u64 1), .lit (.int .u64 10), .lit (.int .u64 100), .lit (.int .u64 1000), .lit (.int .u64 10000), .lit (.int .u64 100000), .lit (.int .u64 1000000), .lit (.int .u64 10000000), .lit (.int .u64 100000000), .lit (.int .u64 1000000000), .lit (.int .u64 10000000000), .lit (.int .u64 100000000000), .lit (.int .u64 1000000000000), .lit (.int .u64 10000000000000), .lit (.int .u64 100000000000000), .lit (.int .u64 1000000000000000), .lit (.int .u64 10000000000000000), .lit (.int .u64 100000000000000000), .lit (.int .u64 1000000000000000000), .lit (.int .u64 10000000000000000000)]
def laid_strconv_ErrRange {H : Type} : DataW H := .iface "*errors.errorString" (.ptr (.agg [.lit (.string [118, 97, 108, 117, 101, 32, 111, 117, 116, 32, 111, 102, 32, 114, 97, 110, 103, 101])]))
def laid_strconv_ErrSyntax {H : Type} : DataW H := .iface "*errors.errorString" (.ptr (.agg [.lit (.string [105, 110, 118, 97, 108, 105, 100, 32, 115, 121, 110, 116, 97, 120])]))

/-- 'covalentlaw03.TypesTwice': WHATEVER THE INPUT: true; the input reads as it did. -/
def typesTwiceSpec : ChangeSpec := { name := "typesTwice", fn := fun _ => fun
  | [d1, d2, d3] => { results := [.lit (.bool true)], args := [d1, d2, d3] }
  | _ => none }
def typesTwiceRow : OpenClaim := { program := "ytokmaehefenpmaadoor", sum := "a704f6562c4851073f52f3e6cb72218f22b5281f132cf691178bbe87251f9a5b", func := "covalent/covalentlaw03.TypesTwice", spec := "typesTwice", inPlace := ["internal/abi.NoEscape"], unfollowed := true, recurses := true, named := ["internal/strconv.uint64pow10", "math/bits.deBruijn32tab", "math/bits.deBruijn64tab"], loops := true, apart := false, laid := [("math/bits.deBruijn32tab", laid_math_bits_deBruijn32tab), ("math/bits.deBruijn64tab", laid_math_bits_deBruijn64tab), ("internal/strconv.uint64pow10", laid_internal_strconv_uint64pow10)] }
def TypesTwiceSaid : Prop := typesTwiceRow.holds Tryd.pinned (OpenSpec.ofChange typesTwiceSpec)

/-- ITS FALSE NEIGHBOUR: 'it returns false'. Refute it at one input. -/
def typesTwiceWrong : ChangeSpec := { name := "typesTwice", fn := fun _ => fun
  | [d1, d2, d3] => { results := [.lit (.bool false)], args := [d1, d2, d3] }
  | _ => none }
def TypesTwiceWrongFalsely : Prop := typesTwiceRow.holds Tryd.pinned (OpenSpec.ofChange typesTwiceWrong)

/-- 'covalentlaw03.TypesApply': WHATEVER THE INPUT: true; the input reads as it did. -/
def typesApplySpec : ChangeSpec := { name := "typesApply", fn := fun _ => fun
  | [d1, d2] => { results := [.lit (.bool true)], args := [d1, d2] }
  | _ => none }
def typesApplyRow : OpenClaim := { program := "ytokmaehefenpmaadoor", sum := "a704f6562c4851073f52f3e6cb72218f22b5281f132cf691178bbe87251f9a5b", func := "covalent/covalentlaw03.TypesApply", spec := "typesApply", inPlace := ["internal/abi.NoEscape"], unfollowed := true, recurses := true, named := ["internal/strconv.uint64pow10", "math/bits.deBruijn32tab", "math/bits.deBruijn64tab"], loops := true, apart := false, laid := [("math/bits.deBruijn32tab", laid_math_bits_deBruijn32tab), ("math/bits.deBruijn64tab", laid_math_bits_deBruijn64tab), ("internal/strconv.uint64pow10", laid_internal_strconv_uint64pow10)] }
def TypesApplySaid : Prop := typesApplyRow.holds Tryd.pinned (OpenSpec.ofChange typesApplySpec)

/-- ITS FALSE NEIGHBOUR: 'it returns false'. Refute it at one input. -/
def typesApplyWrong : ChangeSpec := { name := "typesApply", fn := fun _ => fun
  | [d1, d2] => { results := [.lit (.bool false)], args := [d1, d2] }
  | _ => none }
def TypesApplyWrongFalsely : Prop := typesApplyRow.holds Tryd.pinned (OpenSpec.ofChange typesApplyWrong)

/-- 'covalentlaw03.TypesOrder': WHATEVER THE INPUT: true; the input reads as it did. -/
def typesOrderSpec : ChangeSpec := { name := "typesOrder", fn := fun _ => fun
  | [d1, d2, d3] => { results := [.lit (.bool true)], args := [d1, d2, d3] }
  | _ => none }
def typesOrderRow : OpenClaim := { program := "ytokmaehefenpmaadoor", sum := "a704f6562c4851073f52f3e6cb72218f22b5281f132cf691178bbe87251f9a5b", func := "covalent/covalentlaw03.TypesOrder", spec := "typesOrder", inPlace := ["internal/bytealg.abigen_runtime_cmpstring", "internal/abi.NoEscape"], unfollowed := true, recurses := true, named := ["internal/strconv.uint64pow10", "math/bits.deBruijn32tab", "math/bits.deBruijn64tab"], loops := true, apart := false, laid := [("math/bits.deBruijn32tab", laid_math_bits_deBruijn32tab), ("math/bits.deBruijn64tab", laid_math_bits_deBruijn64tab), ("internal/strconv.uint64pow10", laid_internal_strconv_uint64pow10)] }
def TypesOrderSaid : Prop := typesOrderRow.holds Tryd.pinned (OpenSpec.ofChange typesOrderSpec)

/-- ITS FALSE NEIGHBOUR: 'it returns false'. Refute it at one input. -/
def typesOrderWrong : ChangeSpec := { name := "typesOrder", fn := fun _ => fun
  | [d1, d2, d3] => { results := [.lit (.bool false)], args := [d1, d2, d3] }
  | _ => none }
def TypesOrderWrongFalsely : Prop := typesOrderRow.holds Tryd.pinned (OpenSpec.ofChange typesOrderWrong)

/-- 'covalentlaw03.TypesMatch': WHATEVER THE INPUT: true; the input reads as it did. -/
def typesMatchSpec : ChangeSpec := { name := "typesMatch", fn := fun _ => fun
  | [d1, d2, d3] => { results := [.lit (.bool true)], args := [d1, d2, d3] }
  | _ => none }
def typesMatchRow : OpenClaim := { program := "ytokmaehefenpmaadoor", sum := "a704f6562c4851073f52f3e6cb72218f22b5281f132cf691178bbe87251f9a5b", func := "covalent/covalentlaw03.TypesMatch", spec := "typesMatch", inPlace := ["internal/bytealg.abigen_runtime_cmpstring", "internal/abi.NoEscape"], unfollowed := true, recurses := true, named := ["internal/strconv.uint64pow10", "math/bits.deBruijn32tab", "math/bits.deBruijn64tab"], loops := true, apart := false, laid := [("math/bits.deBruijn32tab", laid_math_bits_deBruijn32tab), ("math/bits.deBruijn64tab", laid_math_bits_deBruijn64tab), ("internal/strconv.uint64pow10", laid_internal_strconv_uint64pow10)] }
def TypesMatchSaid : Prop := typesMatchRow.holds Tryd.pinned (OpenSpec.ofChange typesMatchSpec)

/-- ITS FALSE NEIGHBOUR: 'it returns false'. Refute it at one input. -/
def typesMatchWrong : ChangeSpec := { name := "typesMatch", fn := fun _ => fun
  | [d1, d2, d3] => { results := [.lit (.bool false)], args := [d1, d2, d3] }
  | _ => none }
def TypesMatchWrongFalsely : Prop := typesMatchRow.holds Tryd.pinned (OpenSpec.ofChange typesMatchWrong)

/-- 'covalentlaw03.TypesMatches': WHATEVER THE INPUT: true; the input reads as it did. -/
def typesMatchesSpec : ChangeSpec := { name := "typesMatches", fn := fun _ => fun
  | [d1, d2] => { results := [.lit (.bool true)], args := [d1, d2] }
  | _ => none }
def typesMatchesRow : OpenClaim := { program := "ytokmaehefenpmaadoor", sum := "a704f6562c4851073f52f3e6cb72218f22b5281f132cf691178bbe87251f9a5b", func := "covalent/covalentlaw03.TypesMatches", spec := "typesMatches", inPlace := ["internal/bytealg.abigen_runtime_cmpstring", "internal/abi.NoEscape"], unfollowed := true, recurses := true, named := ["internal/strconv.uint64pow10", "math/bits.deBruijn32tab", "math/bits.deBruijn64tab"], loops := true, apart := false, laid := [("math/bits.deBruijn32tab", laid_math_bits_deBruijn32tab), ("math/bits.deBruijn64tab", laid_math_bits_deBruijn64tab), ("internal/strconv.uint64pow10", laid_internal_strconv_uint64pow10)] }
def TypesMatchesSaid : Prop := typesMatchesRow.holds Tryd.pinned (OpenSpec.ofChange typesMatchesSpec)

/-- ITS FALSE NEIGHBOUR: 'it returns false'. Refute it at one input. -/
def typesMatchesWrong : ChangeSpec := { name := "typesMatches", fn := fun _ => fun
  | [d1, d2] => { results := [.lit (.bool false)], args := [d1, d2] }
  | _ => none }
def TypesMatchesWrongFalsely : Prop := typesMatchesRow.holds Tryd.pinned (OpenSpec.ofChange typesMatchesWrong)

/-- 'covalentlaw03.TypesTexts': WHATEVER THE INPUT: true; the input reads as it did. -/
def typesTextsSpec : ChangeSpec := { name := "typesTexts", fn := fun _ => fun
  | [d] => { results := [.lit (.bool true)], args := [d] }
  | _ => none }
def typesTextsRow : OpenClaim := { program := "ytokmaehefenpmaadoor", sum := "a704f6562c4851073f52f3e6cb72218f22b5281f132cf691178bbe87251f9a5b", func := "covalent/covalentlaw03.TypesTexts", spec := "typesTexts", inPlace := ["internal/abi.NoEscape"], unfollowed := true, recurses := true, named := ["internal/strconv.uint64pow10", "math/bits.deBruijn32tab", "math/bits.deBruijn64tab", "strconv.ErrSyntax", "strconv.ErrRange"], loops := true, apart := false, laid := [("math/bits.deBruijn32tab", laid_math_bits_deBruijn32tab), ("math/bits.deBruijn64tab", laid_math_bits_deBruijn64tab), ("internal/strconv.uint64pow10", laid_internal_strconv_uint64pow10), ("strconv.ErrRange", laid_strconv_ErrRange), ("strconv.ErrSyntax", laid_strconv_ErrSyntax)] }
def TypesTextsSaid : Prop := typesTextsRow.holds Tryd.pinned (OpenSpec.ofChange typesTextsSpec)

/-- ITS FALSE NEIGHBOUR: 'it returns false'. Refute it at one input. -/
def typesTextsWrong : ChangeSpec := { name := "typesTexts", fn := fun _ => fun
  | [d] => { results := [.lit (.bool false)], args := [d] }
  | _ => none }
def TypesTextsWrongFalsely : Prop := typesTextsRow.holds Tryd.pinned (OpenSpec.ofChange typesTextsWrong)

/-- 'covalentlaw03.TypesReads': WHATEVER THE INPUT: true; the input reads as it did. -/
def typesReadsSpec : ChangeSpec := { name := "typesReads", fn := fun _ => fun
  | [d] => { results := [.lit (.bool true)], args := [d] }
  | _ => none }
def typesReadsRow : OpenClaim := { program := "ytokmaehefenpmaadoor", sum := "a704f6562c4851073f52f3e6cb72218f22b5281f132cf691178bbe87251f9a5b", func := "covalent/covalentlaw03.TypesReads", spec := "typesReads", inPlace := ["internal/abi.NoEscape"], unfollowed := true, recurses := true, named := ["strconv.ErrSyntax", "strconv.ErrRange", "internal/strconv.uint64pow10", "math/bits.deBruijn32tab", "math/bits.deBruijn64tab"], apart := false, laid := [("math/bits.deBruijn32tab", laid_math_bits_deBruijn32tab), ("math/bits.deBruijn64tab", laid_math_bits_deBruijn64tab), ("internal/strconv.uint64pow10", laid_internal_strconv_uint64pow10), ("strconv.ErrRange", laid_strconv_ErrRange), ("strconv.ErrSyntax", laid_strconv_ErrSyntax)] }
def TypesReadsSaid : Prop := typesReadsRow.holds Tryd.pinned (OpenSpec.ofChange typesReadsSpec)

/-- ITS FALSE NEIGHBOUR: 'it returns false'. Refute it at one input. -/
def typesReadsWrong : ChangeSpec := { name := "typesReads", fn := fun _ => fun
  | [d] => { results := [.lit (.bool false)], args := [d] }
  | _ => none }
def TypesReadsWrongFalsely : Prop := typesReadsRow.holds Tryd.pinned (OpenSpec.ofChange typesReadsWrong)

/-- 'covalentlaw03.TypesSubst': WHATEVER THE INPUT: true; the input reads as it did. -/
def typesSubstSpec : ChangeSpec := { name := "typesSubst", fn := fun _ => fun
  | [d1, d2] => { results := [.lit (.bool true)], args := [d1, d2] }
  | _ => none }
def typesSubstRow : OpenClaim := { program := "ytokmaehefenpmaadoor", sum := "a704f6562c4851073f52f3e6cb72218f22b5281f132cf691178bbe87251f9a5b", func := "covalent/covalentlaw03.TypesSubst", spec := "typesSubst", inPlace := ["internal/abi.NoEscape"], unfollowed := true, recurses := true, named := ["internal/strconv.uint64pow10", "math/bits.deBruijn32tab", "math/bits.deBruijn64tab"], loops := true, apart := false, laid := [("math/bits.deBruijn32tab", laid_math_bits_deBruijn32tab), ("math/bits.deBruijn64tab", laid_math_bits_deBruijn64tab), ("internal/strconv.uint64pow10", laid_internal_strconv_uint64pow10)] }
def TypesSubstSaid : Prop := typesSubstRow.holds Tryd.pinned (OpenSpec.ofChange typesSubstSpec)

/-- ITS FALSE NEIGHBOUR: 'it returns false'. Refute it at one input. -/
def typesSubstWrong : ChangeSpec := { name := "typesSubst", fn := fun _ => fun
  | [d1, d2] => { results := [.lit (.bool false)], args := [d1, d2] }
  | _ => none }
def TypesSubstWrongFalsely : Prop := typesSubstRow.holds Tryd.pinned (OpenSpec.ofChange typesSubstWrong)

/-- 'covalentlaw03.TypesUnify': WHATEVER THE INPUT: true; the input reads as it did. -/
def typesUnifySpec : ChangeSpec := { name := "typesUnify", fn := fun _ => fun
  | [d] => { results := [.lit (.bool true)], args := [d] }
  | _ => none }
def typesUnifyRow : OpenClaim := { program := "ytokmaehefenpmaadoor", sum := "a704f6562c4851073f52f3e6cb72218f22b5281f132cf691178bbe87251f9a5b", func := "covalent/covalentlaw03.TypesUnify", spec := "typesUnify", inPlace := ["internal/bytealg.abigen_runtime_cmpstring", "internal/abi.NoEscape"], unfollowed := true, recurses := true, named := ["internal/strconv.uint64pow10", "math/bits.deBruijn32tab", "math/bits.deBruijn64tab"], loops := true, apart := false, laid := [("math/bits.deBruijn32tab", laid_math_bits_deBruijn32tab), ("math/bits.deBruijn64tab", laid_math_bits_deBruijn64tab), ("internal/strconv.uint64pow10", laid_internal_strconv_uint64pow10)] }
def TypesUnifySaid : Prop := typesUnifyRow.holds Tryd.pinned (OpenSpec.ofChange typesUnifySpec)

/-- ITS FALSE NEIGHBOUR: 'it returns false'. Refute it at one input. -/
def typesUnifyWrong : ChangeSpec := { name := "typesUnify", fn := fun _ => fun
  | [d] => { results := [.lit (.bool false)], args := [d] }
  | _ => none }
def TypesUnifyWrongFalsely : Prop := typesUnifyRow.holds Tryd.pinned (OpenSpec.ofChange typesUnifyWrong)

/-- 'covalentlaw03.TypesOrders': WHATEVER THE INPUT: true; the input reads as it did. -/
def typesOrdersSpec : ChangeSpec := { name := "typesOrders", fn := fun _ => fun
  | [d1, d2] => { results := [.lit (.bool true)], args := [d1, d2] }
  | _ => none }
def typesOrdersRow : OpenClaim := { program := "ytokmaehefenpmaadoor", sum := "a704f6562c4851073f52f3e6cb72218f22b5281f132cf691178bbe87251f9a5b", func := "covalent/covalentlaw03.TypesOrders", spec := "typesOrders", inPlace := ["internal/bytealg.abigen_runtime_cmpstring", "internal/abi.NoEscape"], unfollowed := true, recurses := true, named := ["internal/strconv.uint64pow10", "math/bits.deBruijn32tab", "math/bits.deBruijn64tab"], loops := true, apart := false, laid := [("math/bits.deBruijn32tab", laid_math_bits_deBruijn32tab), ("math/bits.deBruijn64tab", laid_math_bits_deBruijn64tab), ("internal/strconv.uint64pow10", laid_internal_strconv_uint64pow10)] }
def TypesOrdersSaid : Prop := typesOrdersRow.holds Tryd.pinned (OpenSpec.ofChange typesOrdersSpec)

/-- ITS FALSE NEIGHBOUR: 'it returns false'. Refute it at one input. -/
def typesOrdersWrong : ChangeSpec := { name := "typesOrders", fn := fun _ => fun
  | [d1, d2] => { results := [.lit (.bool false)], args := [d1, d2] }
  | _ => none }
def TypesOrdersWrongFalsely : Prop := typesOrdersRow.holds Tryd.pinned (OpenSpec.ofChange typesOrdersWrong)

/-- 'covalentlaw03.TypesSolves': WHATEVER THE INPUT: true; the input reads as it did. -/
def typesSolvesSpec : ChangeSpec := { name := "typesSolves", fn := fun _ => fun
  | [d] => { results := [.lit (.bool true)], args := [d] }
  | _ => none }
def typesSolvesRow : OpenClaim := { program := "ytokmaehefenpmaadoor", sum := "a704f6562c4851073f52f3e6cb72218f22b5281f132cf691178bbe87251f9a5b", func := "covalent/covalentlaw03.TypesSolves", spec := "typesSolves", inPlace := ["internal/bytealg.abigen_runtime_cmpstring", "internal/abi.NoEscape"], unfollowed := true, recurses := true, named := ["internal/strconv.uint64pow10", "math/bits.deBruijn32tab", "math/bits.deBruijn64tab"], loops := true, apart := false, laid := [("math/bits.deBruijn32tab", laid_math_bits_deBruijn32tab), ("math/bits.deBruijn64tab", laid_math_bits_deBruijn64tab), ("internal/strconv.uint64pow10", laid_internal_strconv_uint64pow10)] }
def TypesSolvesSaid : Prop := typesSolvesRow.holds Tryd.pinned (OpenSpec.ofChange typesSolvesSpec)

/-- ITS FALSE NEIGHBOUR: 'it returns false'. Refute it at one input. -/
def typesSolvesWrong : ChangeSpec := { name := "typesSolves", fn := fun _ => fun
  | [d] => { results := [.lit (.bool false)], args := [d] }
  | _ => none }
def TypesSolvesWrongFalsely : Prop := typesSolvesRow.holds Tryd.pinned (OpenSpec.ofChange typesSolvesWrong)

/-- 'covalentlaw03.TypesGeneral': WHATEVER THE INPUT: true; the input reads as it did. -/
def typesGeneralSpec : ChangeSpec := { name := "typesGeneral", fn := fun _ => fun
  | [d1, d2] => { results := [.lit (.bool true)], args := [d1, d2] }
  | _ => none }
def typesGeneralRow : OpenClaim := { program := "ytokmaehefenpmaadoor", sum := "a704f6562c4851073f52f3e6cb72218f22b5281f132cf691178bbe87251f9a5b", func := "covalent/covalentlaw03.TypesGeneral", spec := "typesGeneral", inPlace := ["internal/abi.NoEscape", "internal/bytealg.abigen_runtime_cmpstring"], unfollowed := true, recurses := true, named := ["internal/strconv.uint64pow10", "math/bits.deBruijn32tab", "math/bits.deBruijn64tab"], loops := true, apart := false, laid := [("math/bits.deBruijn32tab", laid_math_bits_deBruijn32tab), ("math/bits.deBruijn64tab", laid_math_bits_deBruijn64tab), ("internal/strconv.uint64pow10", laid_internal_strconv_uint64pow10)] }
def TypesGeneralSaid : Prop := typesGeneralRow.holds Tryd.pinned (OpenSpec.ofChange typesGeneralSpec)

/-- ITS FALSE NEIGHBOUR: 'it returns false'. Refute it at one input. -/
def typesGeneralWrong : ChangeSpec := { name := "typesGeneral", fn := fun _ => fun
  | [d1, d2] => { results := [.lit (.bool false)], args := [d1, d2] }
  | _ => none }
def TypesGeneralWrongFalsely : Prop := typesGeneralRow.holds Tryd.pinned (OpenSpec.ofChange typesGeneralWrong)

/- THE SECOND FORM. 'bulk': how many values and letters a reading holds, each counted each time it is reached (what is shared counts as often as it is met; a slice's spare places count too). A statement '..UptoSaid' is the law's where the arguments, and the package variables that the reading takes, are together of bulk at most 1048576: NARROWER than '..Said'. Prove '..Said' where nothing that the law and all that it calls make is longer than what came in: it says more and counts as full. Else prove '..UptoSaid'. A law counts once. -/
mutual
def uptoBulk {H : Type} : DataW H → Nat
  | .lit (.string bytes) => bytes.length + 1
  | .lit _ => 1
  | .nil => 1
  | .ptr d => uptoBulk d + 1
  | .slice elems spare => uptoBulkAll elems + uptoBulkAll spare + 1
  | .agg parts => uptoBulkAll parts + 1
  | .iface _ d => uptoBulk d + 1
  | .map entries => uptoBulkEntries entries + 1
  | .held _ => 1
def uptoBulkAll {H : Type} : List (DataW H) → Nat
  | [] => 0
  | d :: r => uptoBulk d + uptoBulkAll r
def uptoBulkEntries {H : Type} : List (Lit × DataW H) → Nat
  | [] => 0
  | x :: r => uptoBulkEntry x + uptoBulkEntries r
def uptoBulkEntry {H : Type} : Lit × DataW H → Nat
  | (.string bytes, d) => bytes.length + uptoBulk d + 1
  | (_, d) => uptoBulk d + 1
 end
def uptoSmall : (H : Type) → List (DataW H) → Bool := fun _ ds => decide (uptoBulkAll ds ≤ 1048576)
def OpenSpec.upto (s : _root_.Go.ChangeSpec) : _root_.Go.OpenSpec := { _root_.Go.OpenSpec.ofChange s with cond := some uptoSmall }

/-- 'covalentlaw03.TypesTwice', WHERE WHAT IT READS IS OF BULK AT MOST 1048576: true; the input reads as it did. -/
def typesTwiceUptoRow : OpenClaim := { program := "ytokmaehefenpmaadoor", sum := "a704f6562c4851073f52f3e6cb72218f22b5281f132cf691178bbe87251f9a5b", func := "covalent/covalentlaw03.TypesTwice", spec := "typesTwice", inPlace := ["internal/abi.NoEscape"], unfollowed := true, recurses := true, named := ["internal/strconv.uint64pow10", "math/bits.deBruijn32tab", "math/bits.deBruijn64tab"], loops := true, apart := false, laid := [("math/bits.deBruijn32tab", laid_math_bits_deBruijn32tab), ("math/bits.deBruijn64tab", laid_math_bits_deBruijn64tab), ("internal/strconv.uint64pow10", laid_internal_strconv_uint64pow10)], narrowed := true }
def TypesTwiceUptoSaid : Prop := typesTwiceUptoRow.holds Tryd.pinned (OpenSpec.upto typesTwiceSpec)

/-- 'covalentlaw03.TypesApply', WHERE WHAT IT READS IS OF BULK AT MOST 1048576: true; the input reads as it did. -/
def typesApplyUptoRow : OpenClaim := { program := "ytokmaehefenpmaadoor", sum := "a704f6562c4851073f52f3e6cb72218f22b5281f132cf691178bbe87251f9a5b", func := "covalent/covalentlaw03.TypesApply", spec := "typesApply", inPlace := ["internal/abi.NoEscape"], unfollowed := true, recurses := true, named := ["internal/strconv.uint64pow10", "math/bits.deBruijn32tab", "math/bits.deBruijn64tab"], loops := true, apart := false, laid := [("math/bits.deBruijn32tab", laid_math_bits_deBruijn32tab), ("math/bits.deBruijn64tab", laid_math_bits_deBruijn64tab), ("internal/strconv.uint64pow10", laid_internal_strconv_uint64pow10)], narrowed := true }
def TypesApplyUptoSaid : Prop := typesApplyUptoRow.holds Tryd.pinned (OpenSpec.upto typesApplySpec)

/-- 'covalentlaw03.TypesOrder', WHERE WHAT IT READS IS OF BULK AT MOST 1048576: true; the input reads as it did. -/
def typesOrderUptoRow : OpenClaim := { program := "ytokmaehefenpmaadoor", sum := "a704f6562c4851073f52f3e6cb72218f22b5281f132cf691178bbe87251f9a5b", func := "covalent/covalentlaw03.TypesOrder", spec := "typesOrder", inPlace := ["internal/bytealg.abigen_runtime_cmpstring", "internal/abi.NoEscape"], unfollowed := true, recurses := true, named := ["internal/strconv.uint64pow10", "math/bits.deBruijn32tab", "math/bits.deBruijn64tab"], loops := true, apart := false, laid := [("math/bits.deBruijn32tab", laid_math_bits_deBruijn32tab), ("math/bits.deBruijn64tab", laid_math_bits_deBruijn64tab), ("internal/strconv.uint64pow10", laid_internal_strconv_uint64pow10)], narrowed := true }
def TypesOrderUptoSaid : Prop := typesOrderUptoRow.holds Tryd.pinned (OpenSpec.upto typesOrderSpec)

/-- 'covalentlaw03.TypesMatch', WHERE WHAT IT READS IS OF BULK AT MOST 1048576: true; the input reads as it did. -/
def typesMatchUptoRow : OpenClaim := { program := "ytokmaehefenpmaadoor", sum := "a704f6562c4851073f52f3e6cb72218f22b5281f132cf691178bbe87251f9a5b", func := "covalent/covalentlaw03.TypesMatch", spec := "typesMatch", inPlace := ["internal/bytealg.abigen_runtime_cmpstring", "internal/abi.NoEscape"], unfollowed := true, recurses := true, named := ["internal/strconv.uint64pow10", "math/bits.deBruijn32tab", "math/bits.deBruijn64tab"], loops := true, apart := false, laid := [("math/bits.deBruijn32tab", laid_math_bits_deBruijn32tab), ("math/bits.deBruijn64tab", laid_math_bits_deBruijn64tab), ("internal/strconv.uint64pow10", laid_internal_strconv_uint64pow10)], narrowed := true }
def TypesMatchUptoSaid : Prop := typesMatchUptoRow.holds Tryd.pinned (OpenSpec.upto typesMatchSpec)

/-- 'covalentlaw03.TypesMatches', WHERE WHAT IT READS IS OF BULK AT MOST 1048576: true; the input reads as it did. -/
def typesMatchesUptoRow : OpenClaim := { program := "ytokmaehefenpmaadoor", sum := "a704f6562c4851073f52f3e6cb72218f22b5281f132cf691178bbe87251f9a5b", func := "covalent/covalentlaw03.TypesMatches", spec := "typesMatches", inPlace := ["internal/bytealg.abigen_runtime_cmpstring", "internal/abi.NoEscape"], unfollowed := true, recurses := true, named := ["internal/strconv.uint64pow10", "math/bits.deBruijn32tab", "math/bits.deBruijn64tab"], loops := true, apart := false, laid := [("math/bits.deBruijn32tab", laid_math_bits_deBruijn32tab), ("math/bits.deBruijn64tab", laid_math_bits_deBruijn64tab), ("internal/strconv.uint64pow10", laid_internal_strconv_uint64pow10)], narrowed := true }
def TypesMatchesUptoSaid : Prop := typesMatchesUptoRow.holds Tryd.pinned (OpenSpec.upto typesMatchesSpec)

/-- 'covalentlaw03.TypesTexts', WHERE WHAT IT READS IS OF BULK AT MOST 1048576: true; the input reads as it did. -/
def typesTextsUptoRow : OpenClaim := { program := "ytokmaehefenpmaadoor", sum := "a704f6562c4851073f52f3e6cb72218f22b5281f132cf691178bbe87251f9a5b", func := "covalent/covalentlaw03.TypesTexts", spec := "typesTexts", inPlace := ["internal/abi.NoEscape"], unfollowed := true, recurses := true, named := ["internal/strconv.uint64pow10", "math/bits.deBruijn32tab", "math/bits.deBruijn64tab", "strconv.ErrSyntax", "strconv.ErrRange"], loops := true, apart := false, laid := [("math/bits.deBruijn32tab", laid_math_bits_deBruijn32tab), ("math/bits.deBruijn64tab", laid_math_bits_deBruijn64tab), ("internal/strconv.uint64pow10", laid_internal_strconv_uint64pow10), ("strconv.ErrRange", laid_strconv_ErrRange), ("strconv.ErrSyntax", laid_strconv_ErrSyntax)], narrowed := true }
def TypesTextsUptoSaid : Prop := typesTextsUptoRow.holds Tryd.pinned (OpenSpec.upto typesTextsSpec)

/-- 'covalentlaw03.TypesReads', WHERE WHAT IT READS IS OF BULK AT MOST 1048576: true; the input reads as it did. -/
def typesReadsUptoRow : OpenClaim := { program := "ytokmaehefenpmaadoor", sum := "a704f6562c4851073f52f3e6cb72218f22b5281f132cf691178bbe87251f9a5b", func := "covalent/covalentlaw03.TypesReads", spec := "typesReads", inPlace := ["internal/abi.NoEscape"], unfollowed := true, recurses := true, named := ["strconv.ErrSyntax", "strconv.ErrRange", "internal/strconv.uint64pow10", "math/bits.deBruijn32tab", "math/bits.deBruijn64tab"], apart := false, laid := [("math/bits.deBruijn32tab", laid_math_bits_deBruijn32tab), ("math/bits.deBruijn64tab", laid_math_bits_deBruijn64tab), ("internal/strconv.uint64pow10", laid_internal_strconv_uint64pow10), ("strconv.ErrRange", laid_strconv_ErrRange), ("strconv.ErrSyntax", laid_strconv_ErrSyntax)], narrowed := true }
def TypesReadsUptoSaid : Prop := typesReadsUptoRow.holds Tryd.pinned (OpenSpec.upto typesReadsSpec)

/-- 'covalentlaw03.TypesSubst', WHERE WHAT IT READS IS OF BULK AT MOST 1048576: true; the input reads as it did. -/
def typesSubstUptoRow : OpenClaim := { program := "ytokmaehefenpmaadoor", sum := "a704f6562c4851073f52f3e6cb72218f22b5281f132cf691178bbe87251f9a5b", func := "covalent/covalentlaw03.TypesSubst", spec := "typesSubst", inPlace := ["internal/abi.NoEscape"], unfollowed := true, recurses := true, named := ["internal/strconv.uint64pow10", "math/bits.deBruijn32tab", "math/bits.deBruijn64tab"], loops := true, apart := false, laid := [("math/bits.deBruijn32tab", laid_math_bits_deBruijn32tab), ("math/bits.deBruijn64tab", laid_math_bits_deBruijn64tab), ("internal/strconv.uint64pow10", laid_internal_strconv_uint64pow10)], narrowed := true }
def TypesSubstUptoSaid : Prop := typesSubstUptoRow.holds Tryd.pinned (OpenSpec.upto typesSubstSpec)

/-- 'covalentlaw03.TypesUnify', WHERE WHAT IT READS IS OF BULK AT MOST 1048576: true; the input reads as it did. -/
def typesUnifyUptoRow : OpenClaim := { program := "ytokmaehefenpmaadoor", sum := "a704f6562c4851073f52f3e6cb72218f22b5281f132cf691178bbe87251f9a5b", func := "covalent/covalentlaw03.TypesUnify", spec := "typesUnify", inPlace := ["internal/bytealg.abigen_runtime_cmpstring", "internal/abi.NoEscape"], unfollowed := true, recurses := true, named := ["internal/strconv.uint64pow10", "math/bits.deBruijn32tab", "math/bits.deBruijn64tab"], loops := true, apart := false, laid := [("math/bits.deBruijn32tab", laid_math_bits_deBruijn32tab), ("math/bits.deBruijn64tab", laid_math_bits_deBruijn64tab), ("internal/strconv.uint64pow10", laid_internal_strconv_uint64pow10)], narrowed := true }
def TypesUnifyUptoSaid : Prop := typesUnifyUptoRow.holds Tryd.pinned (OpenSpec.upto typesUnifySpec)

/-- 'covalentlaw03.TypesOrders', WHERE WHAT IT READS IS OF BULK AT MOST 1048576: true; the input reads as it did. -/
def typesOrdersUptoRow : OpenClaim := { program := "ytokmaehefenpmaadoor", sum := "a704f6562c4851073f52f3e6cb72218f22b5281f132cf691178bbe87251f9a5b", func := "covalent/covalentlaw03.TypesOrders", spec := "typesOrders", inPlace := ["internal/bytealg.abigen_runtime_cmpstring", "internal/abi.NoEscape"], unfollowed := true, recurses := true, named := ["internal/strconv.uint64pow10", "math/bits.deBruijn32tab", "math/bits.deBruijn64tab"], loops := true, apart := false, laid := [("math/bits.deBruijn32tab", laid_math_bits_deBruijn32tab), ("math/bits.deBruijn64tab", laid_math_bits_deBruijn64tab), ("internal/strconv.uint64pow10", laid_internal_strconv_uint64pow10)], narrowed := true }
def TypesOrdersUptoSaid : Prop := typesOrdersUptoRow.holds Tryd.pinned (OpenSpec.upto typesOrdersSpec)

/-- 'covalentlaw03.TypesSolves', WHERE WHAT IT READS IS OF BULK AT MOST 1048576: true; the input reads as it did. -/
def typesSolvesUptoRow : OpenClaim := { program := "ytokmaehefenpmaadoor", sum := "a704f6562c4851073f52f3e6cb72218f22b5281f132cf691178bbe87251f9a5b", func := "covalent/covalentlaw03.TypesSolves", spec := "typesSolves", inPlace := ["internal/bytealg.abigen_runtime_cmpstring", "internal/abi.NoEscape"], unfollowed := true, recurses := true, named := ["internal/strconv.uint64pow10", "math/bits.deBruijn32tab", "math/bits.deBruijn64tab"], loops := true, apart := false, laid := [("math/bits.deBruijn32tab", laid_math_bits_deBruijn32tab), ("math/bits.deBruijn64tab", laid_math_bits_deBruijn64tab), ("internal/strconv.uint64pow10", laid_internal_strconv_uint64pow10)], narrowed := true }
def TypesSolvesUptoSaid : Prop := typesSolvesUptoRow.holds Tryd.pinned (OpenSpec.upto typesSolvesSpec)

/-- 'covalentlaw03.TypesGeneral', WHERE WHAT IT READS IS OF BULK AT MOST 1048576: true; the input reads as it did. -/
def typesGeneralUptoRow : OpenClaim := { program := "ytokmaehefenpmaadoor", sum := "a704f6562c4851073f52f3e6cb72218f22b5281f132cf691178bbe87251f9a5b", func := "covalent/covalentlaw03.TypesGeneral", spec := "typesGeneral", inPlace := ["internal/abi.NoEscape", "internal/bytealg.abigen_runtime_cmpstring"], unfollowed := true, recurses := true, named := ["internal/strconv.uint64pow10", "math/bits.deBruijn32tab", "math/bits.deBruijn64tab"], loops := true, apart := false, laid := [("math/bits.deBruijn32tab", laid_math_bits_deBruijn32tab), ("math/bits.deBruijn64tab", laid_math_bits_deBruijn64tab), ("internal/strconv.uint64pow10", laid_internal_strconv_uint64pow10)], narrowed := true }
def TypesGeneralUptoSaid : Prop := typesGeneralUptoRow.holds Tryd.pinned (OpenSpec.upto typesGeneralSpec)

end Rows
end Go.Proofs.YtokmaehefenpmaaDoor
