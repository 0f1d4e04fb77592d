/-
  No cell of these rows narrows 'for every input' (looked for: loops, veiled, ifaces, maps, wideKeys, modest, calm, conditions, laid).
  DERIVED. THE GIVEN ROWS OF THIS SEAT. 17 by the template 'for every input the law returns true; each argument reads behind the call as it read before'; 0 by the template 'total and deterministic' (their statements: YtclainfdeghgnaaTotals.lean).
  GIVEN WITH THE SEED: the statements are not yours to turn. If you find one false, say at which input.
  Laid BY PROGRAM, IN A SANDBOX (cutbox-rows.mjs): the forced cells as the released guide's own fill.sh prints them over the translation 12012e3b01eb5300… (all of the seat's roots in one cut). By AI agents, Wed Nov 11 2026. No macro, syntax, notation, axiom, sorry.
-/
import Derived.Test.YtclainfdeghgnaaChecked
import GoSem.Claim
import GoSem.ClaimJoined
import GoSem.ClaimMapViews
import Derived.JoinedTies
import Derived.KernelRfl
namespace Go.Proofs.Ytclainfdeghgnaa
/- THE CELL 'sum', in the pinned program and in every row, IS THE sha256 OF THE DUMP (.gsa) THAT YtclainfdeghgnaaProg.lean LOADS. Nothing in Lean hashes anything: it is a label: what it is worth is what the hold of that sum in a sandbox is worth. -/
noncomputable def Try.pinned : Pinned := { name := "ytclainfdeghgnaa", sum := "12012e3b01eb5300cf84b52df53c009d03df54ec6908942739e608f8a6cb8847", checked := Try.checked }
namespace Rows
def none {H : Type} : Left H := { results := [], args := [] }

/-- 'covalentlaw26.NumberDoes': WHATEVER THE INPUT: true; the input reads as it did. -/
def numberDoesSpec : ChangeSpec := { name := "numberDoes", fn := fun _ => fun
  | [d1, d2] => { results := [.lit (.bool true)], args := [d1, d2] }
  | _ => none }
def numberDoesRow : OpenClaim := { program := "ytclainfdeghgnaa", sum := "12012e3b01eb5300cf84b52df53c009d03df54ec6908942739e608f8a6cb8847", func := "covalent/covalentlaw26.NumberDoes", spec := "numberDoes", inPlace := ["internal/abi.NoEscape"], unfollowed := true, recurses := true, apart := false }
def NumberDoesSaid : Prop := numberDoesRow.holds Try.pinned (OpenSpec.ofChange numberDoesSpec)

/-- ITS FALSE NEIGHBOUR: 'it returns false'. Refute it at one input. -/
def numberDoesWrong : ChangeSpec := { name := "numberDoes", fn := fun _ => fun
  | [d1, d2] => { results := [.lit (.bool false)], args := [d1, d2] }
  | _ => none }
def NumberDoesWrongFalsely : Prop := numberDoesRow.holds Try.pinned (OpenSpec.ofChange numberDoesWrong)

/-- 'covalentlaw26.NumberDivs': WHATEVER THE INPUT: true; the input reads as it did. -/
def numberDivsSpec : ChangeSpec := { name := "numberDivs", fn := fun _ => fun
  | [d1, d2, d3] => { results := [.lit (.bool true)], args := [d1, d2, d3] }
  | _ => none }
def numberDivsRow : OpenClaim := { program := "ytclainfdeghgnaa", sum := "12012e3b01eb5300cf84b52df53c009d03df54ec6908942739e608f8a6cb8847", func := "covalent/covalentlaw26.NumberDivs", spec := "numberDivs", inPlace := ["internal/abi.NoEscape"], unfollowed := true, recurses := true, apart := false }
def NumberDivsSaid : Prop := numberDivsRow.holds Try.pinned (OpenSpec.ofChange numberDivsSpec)

/-- ITS FALSE NEIGHBOUR: 'it returns false'. Refute it at one input. -/
def numberDivsWrong : ChangeSpec := { name := "numberDivs", fn := fun _ => fun
  | [d1, d2, d3] => { results := [.lit (.bool false)], args := [d1, d2, d3] }
  | _ => none }
def NumberDivsWrongFalsely : Prop := numberDivsRow.holds Try.pinned (OpenSpec.ofChange numberDivsWrong)

/-- 'covalentlaw26.NumberWraps': WHATEVER THE INPUT: true; the input reads as it did. -/
def numberWrapsSpec : ChangeSpec := { name := "numberWraps", fn := fun _ => fun
  | [d1, d2, d3] => { results := [.lit (.bool true)], args := [d1, d2, d3] }
  | _ => none }
def numberWrapsRow : OpenClaim := { program := "ytclainfdeghgnaa", sum := "12012e3b01eb5300cf84b52df53c009d03df54ec6908942739e608f8a6cb8847", func := "covalent/covalentlaw26.NumberWraps", spec := "numberWraps", inPlace := ["internal/abi.NoEscape"], unfollowed := true, recurses := true, apart := false }
def NumberWrapsSaid : Prop := numberWrapsRow.holds Try.pinned (OpenSpec.ofChange numberWrapsSpec)

/-- ITS FALSE NEIGHBOUR: 'it returns false'. Refute it at one input. -/
def numberWrapsWrong : ChangeSpec := { name := "numberWraps", fn := fun _ => fun
  | [d1, d2, d3] => { results := [.lit (.bool false)], args := [d1, d2, d3] }
  | _ => none }
def NumberWrapsWrongFalsely : Prop := numberWrapsRow.holds Try.pinned (OpenSpec.ofChange numberWrapsWrong)

/-- 'covalentlaw26.NumberCompares': WHATEVER THE INPUT: true; the input reads as it did. -/
def numberComparesSpec : ChangeSpec := { name := "numberCompares", fn := fun _ => fun
  | [d1, d2] => { results := [.lit (.bool true)], args := [d1, d2] }
  | _ => none }
def numberComparesRow : OpenClaim := { program := "ytclainfdeghgnaa", sum := "12012e3b01eb5300cf84b52df53c009d03df54ec6908942739e608f8a6cb8847", func := "covalent/covalentlaw26.NumberCompares", spec := "numberCompares", inPlace := ["internal/abi.NoEscape"], unfollowed := true, recurses := true, apart := false }
def NumberComparesSaid : Prop := numberComparesRow.holds Try.pinned (OpenSpec.ofChange numberComparesSpec)

/-- ITS FALSE NEIGHBOUR: 'it returns false'. Refute it at one input. -/
def numberComparesWrong : ChangeSpec := { name := "numberCompares", fn := fun _ => fun
  | [d1, d2] => { results := [.lit (.bool false)], args := [d1, d2] }
  | _ => none }
def NumberComparesWrongFalsely : Prop := numberComparesRow.holds Try.pinned (OpenSpec.ofChange numberComparesWrong)

/-- 'covalentlaw26.NumberMuls': WHATEVER THE INPUT: true; the input reads as it did. -/
def numberMulsSpec : ChangeSpec := { name := "numberMuls", fn := fun _ => fun
  | [d1, d2, d3] => { results := [.lit (.bool true)], args := [d1, d2, d3] }
  | _ => none }
def numberMulsRow : OpenClaim := { program := "ytclainfdeghgnaa", sum := "12012e3b01eb5300cf84b52df53c009d03df54ec6908942739e608f8a6cb8847", func := "covalent/covalentlaw26.NumberMuls", spec := "numberMuls", inPlace := ["internal/abi.NoEscape"], unfollowed := true, recurses := true, apart := false }
def NumberMulsSaid : Prop := numberMulsRow.holds Try.pinned (OpenSpec.ofChange numberMulsSpec)

/-- ITS FALSE NEIGHBOUR: 'it returns false'. Refute it at one input. -/
def numberMulsWrong : ChangeSpec := { name := "numberMuls", fn := fun _ => fun
  | [d1, d2, d3] => { results := [.lit (.bool false)], args := [d1, d2, d3] }
  | _ => none }
def NumberMulsWrongFalsely : Prop := numberMulsRow.holds Try.pinned (OpenSpec.ofChange numberMulsWrong)

/-- 'covalentlaw26.NumberRounds': WHATEVER THE INPUT: true; the input reads as it did. -/
def numberRoundsSpec : ChangeSpec := { name := "numberRounds", fn := fun _ => fun
  | [d1, d2] => { results := [.lit (.bool true)], args := [d1, d2] }
  | _ => none }
def numberRoundsRow : OpenClaim := { program := "ytclainfdeghgnaa", sum := "12012e3b01eb5300cf84b52df53c009d03df54ec6908942739e608f8a6cb8847", func := "covalent/covalentlaw26.NumberRounds", spec := "numberRounds", inPlace := ["internal/abi.NoEscape"], unfollowed := true, recurses := true, apart := false }
def NumberRoundsSaid : Prop := numberRoundsRow.holds Try.pinned (OpenSpec.ofChange numberRoundsSpec)

/-- ITS FALSE NEIGHBOUR: 'it returns false'. Refute it at one input. -/
def numberRoundsWrong : ChangeSpec := { name := "numberRounds", fn := fun _ => fun
  | [d1, d2] => { results := [.lit (.bool false)], args := [d1, d2] }
  | _ => none }
def NumberRoundsWrongFalsely : Prop := numberRoundsRow.holds Try.pinned (OpenSpec.ofChange numberRoundsWrong)

/-- 'covalentlaw26.NumberGivesBack': WHATEVER THE INPUT: true; the input reads as it did. -/
def numberGivesBackSpec : ChangeSpec := { name := "numberGivesBack", fn := fun _ => fun
  | [d1, d2, d3] => { results := [.lit (.bool true)], args := [d1, d2, d3] }
  | _ => none }
def numberGivesBackRow : OpenClaim := { program := "ytclainfdeghgnaa", sum := "12012e3b01eb5300cf84b52df53c009d03df54ec6908942739e608f8a6cb8847", func := "covalent/covalentlaw26.NumberGivesBack", spec := "numberGivesBack", inPlace := ["internal/abi.NoEscape"], unfollowed := true, recurses := true, apart := false }
def NumberGivesBackSaid : Prop := numberGivesBackRow.holds Try.pinned (OpenSpec.ofChange numberGivesBackSpec)

/-- ITS FALSE NEIGHBOUR: 'it returns false'. Refute it at one input. -/
def numberGivesBackWrong : ChangeSpec := { name := "numberGivesBack", fn := fun _ => fun
  | [d1, d2, d3] => { results := [.lit (.bool false)], args := [d1, d2, d3] }
  | _ => none }
def NumberGivesBackWrongFalsely : Prop := numberGivesBackRow.holds Try.pinned (OpenSpec.ofChange numberGivesBackWrong)

/-- 'covalentlaw26.NumberFits': WHATEVER THE INPUT: true; the input reads as it did. -/
def numberFitsSpec : ChangeSpec := { name := "numberFits", fn := fun _ => fun
  | [d1, d2] => { results := [.lit (.bool true)], args := [d1, d2] }
  | _ => none }
def numberFitsRow : OpenClaim := { program := "ytclainfdeghgnaa", sum := "12012e3b01eb5300cf84b52df53c009d03df54ec6908942739e608f8a6cb8847", func := "covalent/covalentlaw26.NumberFits", spec := "numberFits", inPlace := ["internal/abi.NoEscape"], unfollowed := true, recurses := true, apart := false }
def NumberFitsSaid : Prop := numberFitsRow.holds Try.pinned (OpenSpec.ofChange numberFitsSpec)

/-- ITS FALSE NEIGHBOUR: 'it returns false'. Refute it at one input. -/
def numberFitsWrong : ChangeSpec := { name := "numberFits", fn := fun _ => fun
  | [d1, d2] => { results := [.lit (.bool false)], args := [d1, d2] }
  | _ => none }
def NumberFitsWrongFalsely : Prop := numberFitsRow.holds Try.pinned (OpenSpec.ofChange numberFitsWrong)

/-- 'covalentlaw26.NumberModes': WHATEVER THE INPUT: true; the input reads as it did. -/
def numberModesSpec : ChangeSpec := { name := "numberModes", fn := fun _ => fun
  | [d1, d2] => { results := [.lit (.bool true)], args := [d1, d2] }
  | _ => none }
def numberModesRow : OpenClaim := { program := "ytclainfdeghgnaa", sum := "12012e3b01eb5300cf84b52df53c009d03df54ec6908942739e608f8a6cb8847", func := "covalent/covalentlaw26.NumberModes", spec := "numberModes", inPlace := ["internal/abi.NoEscape"], unfollowed := true, recurses := true, apart := false }
def NumberModesSaid : Prop := numberModesRow.holds Try.pinned (OpenSpec.ofChange numberModesSpec)

/-- ITS FALSE NEIGHBOUR: 'it returns false'. Refute it at one input. -/
def numberModesWrong : ChangeSpec := { name := "numberModes", fn := fun _ => fun
  | [d1, d2] => { results := [.lit (.bool false)], args := [d1, d2] }
  | _ => none }
def NumberModesWrongFalsely : Prop := numberModesRow.holds Try.pinned (OpenSpec.ofChange numberModesWrong)

/-- 'covalentlaw26.NumberConverts': WHATEVER THE INPUT: true; the input reads as it did. -/
def numberConvertsSpec : ChangeSpec := { name := "numberConverts", fn := fun _ => fun
  | [d1, d2] => { results := [.lit (.bool true)], args := [d1, d2] }
  | _ => none }
def numberConvertsRow : OpenClaim := { program := "ytclainfdeghgnaa", sum := "12012e3b01eb5300cf84b52df53c009d03df54ec6908942739e608f8a6cb8847", func := "covalent/covalentlaw26.NumberConverts", spec := "numberConverts", inPlace := ["internal/abi.NoEscape"], unfollowed := true, recurses := true, apart := false }
def NumberConvertsSaid : Prop := numberConvertsRow.holds Try.pinned (OpenSpec.ofChange numberConvertsSpec)

/-- ITS FALSE NEIGHBOUR: 'it returns false'. Refute it at one input. -/
def numberConvertsWrong : ChangeSpec := { name := "numberConverts", fn := fun _ => fun
  | [d1, d2] => { results := [.lit (.bool false)], args := [d1, d2] }
  | _ => none }
def NumberConvertsWrongFalsely : Prop := numberConvertsRow.holds Try.pinned (OpenSpec.ofChange numberConvertsWrong)

/-- 'covalentlaw26.NumberSums': WHATEVER THE INPUT: true; the input reads as it did. -/
def numberSumsSpec : ChangeSpec := { name := "numberSums", fn := fun _ => fun
  | [d] => { results := [.lit (.bool true)], args := [d] }
  | _ => none }
def numberSumsRow : OpenClaim := { program := "ytclainfdeghgnaa", sum := "12012e3b01eb5300cf84b52df53c009d03df54ec6908942739e608f8a6cb8847", func := "covalent/covalentlaw26.NumberSums", spec := "numberSums", inPlace := ["internal/abi.NoEscape"], unfollowed := true, recurses := true, apart := false }
def NumberSumsSaid : Prop := numberSumsRow.holds Try.pinned (OpenSpec.ofChange numberSumsSpec)

/-- ITS FALSE NEIGHBOUR: 'it returns false'. Refute it at one input. -/
def numberSumsWrong : ChangeSpec := { name := "numberSums", fn := fun _ => fun
  | [d] => { results := [.lit (.bool false)], args := [d] }
  | _ => none }
def NumberSumsWrongFalsely : Prop := numberSumsRow.holds Try.pinned (OpenSpec.ofChange numberSumsWrong)

/-- 'covalentlaw26.NumberPows': WHATEVER THE INPUT: true; the input reads as it did. -/
def numberPowsSpec : ChangeSpec := { name := "numberPows", fn := fun _ => fun
  | [d1, d2, d3] => { results := [.lit (.bool true)], args := [d1, d2, d3] }
  | _ => none }
def numberPowsRow : OpenClaim := { program := "ytclainfdeghgnaa", sum := "12012e3b01eb5300cf84b52df53c009d03df54ec6908942739e608f8a6cb8847", func := "covalent/covalentlaw26.NumberPows", spec := "numberPows", inPlace := ["internal/abi.NoEscape"], unfollowed := true, recurses := true, apart := false }
def NumberPowsSaid : Prop := numberPowsRow.holds Try.pinned (OpenSpec.ofChange numberPowsSpec)

/-- ITS FALSE NEIGHBOUR: 'it returns false'. Refute it at one input. -/
def numberPowsWrong : ChangeSpec := { name := "numberPows", fn := fun _ => fun
  | [d1, d2, d3] => { results := [.lit (.bool false)], args := [d1, d2, d3] }
  | _ => none }
def NumberPowsWrongFalsely : Prop := numberPowsRow.holds Try.pinned (OpenSpec.ofChange numberPowsWrong)

/-- 'covalentlaw26.NumberAdds': WHATEVER THE INPUT: true; the input reads as it did. -/
def numberAddsSpec : ChangeSpec := { name := "numberAdds", fn := fun _ => fun
  | [d1, d2] => { results := [.lit (.bool true)], args := [d1, d2] }
  | _ => none }
def numberAddsRow : OpenClaim := { program := "ytclainfdeghgnaa", sum := "12012e3b01eb5300cf84b52df53c009d03df54ec6908942739e608f8a6cb8847", func := "covalent/covalentlaw26.NumberAdds", spec := "numberAdds", inPlace := ["internal/abi.NoEscape"], unfollowed := true, recurses := true, apart := false }
def NumberAddsSaid : Prop := numberAddsRow.holds Try.pinned (OpenSpec.ofChange numberAddsSpec)

/-- ITS FALSE NEIGHBOUR: 'it returns false'. Refute it at one input. -/
def numberAddsWrong : ChangeSpec := { name := "numberAdds", fn := fun _ => fun
  | [d1, d2] => { results := [.lit (.bool false)], args := [d1, d2] }
  | _ => none }
def NumberAddsWrongFalsely : Prop := numberAddsRow.holds Try.pinned (OpenSpec.ofChange numberAddsWrong)

/-- 'covalentlaw26.NumberUndoes': WHATEVER THE INPUT: true; the input reads as it did. -/
def numberUndoesSpec : ChangeSpec := { name := "numberUndoes", fn := fun _ => fun
  | [d1, d2, d3] => { results := [.lit (.bool true)], args := [d1, d2, d3] }
  | _ => none }
def numberUndoesRow : OpenClaim := { program := "ytclainfdeghgnaa", sum := "12012e3b01eb5300cf84b52df53c009d03df54ec6908942739e608f8a6cb8847", func := "covalent/covalentlaw26.NumberUndoes", spec := "numberUndoes", inPlace := ["internal/abi.NoEscape"], unfollowed := true, recurses := true, apart := false }
def NumberUndoesSaid : Prop := numberUndoesRow.holds Try.pinned (OpenSpec.ofChange numberUndoesSpec)

/-- ITS FALSE NEIGHBOUR: 'it returns false'. Refute it at one input. -/
def numberUndoesWrong : ChangeSpec := { name := "numberUndoes", fn := fun _ => fun
  | [d1, d2, d3] => { results := [.lit (.bool false)], args := [d1, d2, d3] }
  | _ => none }
def NumberUndoesWrongFalsely : Prop := numberUndoesRow.holds Try.pinned (OpenSpec.ofChange numberUndoesWrong)

/-- 'covalentlaw26.NumberNear': WHATEVER THE INPUT: true; the input reads as it did. -/
def numberNearSpec : ChangeSpec := { name := "numberNear", fn := fun _ => fun
  | [d1, d2, d3] => { results := [.lit (.bool true)], args := [d1, d2, d3] }
  | _ => none }
def numberNearRow : OpenClaim := { program := "ytclainfdeghgnaa", sum := "12012e3b01eb5300cf84b52df53c009d03df54ec6908942739e608f8a6cb8847", func := "covalent/covalentlaw26.NumberNear", spec := "numberNear", inPlace := ["internal/abi.NoEscape"], unfollowed := true, recurses := true, apart := false }
def NumberNearSaid : Prop := numberNearRow.holds Try.pinned (OpenSpec.ofChange numberNearSpec)

/-- ITS FALSE NEIGHBOUR: 'it returns false'. Refute it at one input. -/
def numberNearWrong : ChangeSpec := { name := "numberNear", fn := fun _ => fun
  | [d1, d2, d3] => { results := [.lit (.bool false)], args := [d1, d2, d3] }
  | _ => none }
def NumberNearWrongFalsely : Prop := numberNearRow.holds Try.pinned (OpenSpec.ofChange numberNearWrong)

/-- 'covalentlaw26.NumberBits': WHATEVER THE INPUT: true; the input reads as it did. -/
def numberBitsSpec : ChangeSpec := { name := "numberBits", fn := fun _ => fun
  | [d1, d2, d3] => { results := [.lit (.bool true)], args := [d1, d2, d3] }
  | _ => none }
def numberBitsRow : OpenClaim := { program := "ytclainfdeghgnaa", sum := "12012e3b01eb5300cf84b52df53c009d03df54ec6908942739e608f8a6cb8847", func := "covalent/covalentlaw26.NumberBits", spec := "numberBits", inPlace := ["internal/abi.NoEscape"], unfollowed := true, recurses := true, apart := false }
def NumberBitsSaid : Prop := numberBitsRow.holds Try.pinned (OpenSpec.ofChange numberBitsSpec)

/-- ITS FALSE NEIGHBOUR: 'it returns false'. Refute it at one input. -/
def numberBitsWrong : ChangeSpec := { name := "numberBits", fn := fun _ => fun
  | [d1, d2, d3] => { results := [.lit (.bool false)], args := [d1, d2, d3] }
  | _ => none }
def NumberBitsWrongFalsely : Prop := numberBitsRow.holds Try.pinned (OpenSpec.ofChange numberBitsWrong)

/-- 'covalentlaw26.NumberBitsBack': WHATEVER THE INPUT: true; the input reads as it did. -/
def numberBitsBackSpec : ChangeSpec := { name := "numberBitsBack", fn := fun _ => fun
  | [d1, d2] => { results := [.lit (.bool true)], args := [d1, d2] }
  | _ => none }
def numberBitsBackRow : OpenClaim := { program := "ytclainfdeghgnaa", sum := "12012e3b01eb5300cf84b52df53c009d03df54ec6908942739e608f8a6cb8847", func := "covalent/covalentlaw26.NumberBitsBack", spec := "numberBitsBack", inPlace := ["internal/abi.NoEscape"], unfollowed := true, recurses := true, apart := false }
def NumberBitsBackSaid : Prop := numberBitsBackRow.holds Try.pinned (OpenSpec.ofChange numberBitsBackSpec)

/-- ITS FALSE NEIGHBOUR: 'it returns false'. Refute it at one input. -/
def numberBitsBackWrong : ChangeSpec := { name := "numberBitsBack", fn := fun _ => fun
  | [d1, d2] => { results := [.lit (.bool false)], args := [d1, d2] }
  | _ => none }
def NumberBitsBackWrongFalsely : Prop := numberBitsBackRow.holds Try.pinned (OpenSpec.ofChange numberBitsBackWrong)

/- THE SECOND FORM. 'bulk': how many values and letters a reading holds, each counted each time it is reached (what is shared counts as often as it is met; a slice's spare places count too). A statement '..UptoSaid' is the law's where the arguments, and the package variables that the reading takes, are together of bulk at most 1048576: NARROWER than '..Said'. Prove '..Said' where nothing that the law and all that it calls make is longer than what came in: it says more and counts as full. Else prove '..UptoSaid'. A law counts once. -/
mutual
def uptoBulk {H : Type} : DataW H → Nat
  | .lit (.string bytes) => bytes.length + 1
  | .lit _ => 1
  | .nil => 1
  | .ptr d => uptoBulk d + 1
  | .slice elems spare => uptoBulkAll elems + uptoBulkAll spare + 1
  | .agg parts => uptoBulkAll parts + 1
  | .iface _ d => uptoBulk d + 1
  | .map entries => uptoBulkEntries entries + 1
  | .held _ => 1
def uptoBulkAll {H : Type} : List (DataW H) → Nat
  | [] => 0
  | d :: r => uptoBulk d + uptoBulkAll r
def uptoBulkEntries {H : Type} : List (Lit × DataW H) → Nat
  | [] => 0
  | x :: r => uptoBulkEntry x + uptoBulkEntries r
def uptoBulkEntry {H : Type} : Lit × DataW H → Nat
  | (.string bytes, d) => bytes.length + uptoBulk d + 1
  | (_, d) => uptoBulk d + 1
 end
def uptoSmall : (H : Type) → List (DataW H) → Bool := fun _ ds => decide (uptoBulkAll ds ≤ 1048576)
def OpenSpec.upto (s : _root_.Go.ChangeSpec) : _root_.Go.OpenSpec := { _root_.Go.OpenSpec.ofChange s with cond := some uptoSmall }

/-- 'covalentlaw26.NumberDoes', WHERE WHAT IT READS IS OF BULK AT MOST 1048576: true; the input reads as it did. -/
def numberDoesUptoRow : OpenClaim := { program := "ytclainfdeghgnaa", sum := "12012e3b01eb5300cf84b52df53c009d03df54ec6908942739e608f8a6cb8847", func := "covalent/covalentlaw26.NumberDoes", spec := "numberDoes", inPlace := ["internal/abi.NoEscape"], unfollowed := true, recurses := true, apart := false, narrowed := true }
def NumberDoesUptoSaid : Prop := numberDoesUptoRow.holds Try.pinned (OpenSpec.upto numberDoesSpec)

/-- 'covalentlaw26.NumberDivs', WHERE WHAT IT READS IS OF BULK AT MOST 1048576: true; the input reads as it did. -/
def numberDivsUptoRow : OpenClaim := { program := "ytclainfdeghgnaa", sum := "12012e3b01eb5300cf84b52df53c009d03df54ec6908942739e608f8a6cb8847", func := "covalent/covalentlaw26.NumberDivs", spec := "numberDivs", inPlace := ["internal/abi.NoEscape"], unfollowed := true, recurses := true, apart := false, narrowed := true }
def NumberDivsUptoSaid : Prop := numberDivsUptoRow.holds Try.pinned (OpenSpec.upto numberDivsSpec)

/-- 'covalentlaw26.NumberWraps', WHERE WHAT IT READS IS OF BULK AT MOST 1048576: true; the input reads as it did. -/
def numberWrapsUptoRow : OpenClaim := { program := "ytclainfdeghgnaa", sum := "12012e3b01eb5300cf84b52df53c009d03df54ec6908942739e608f8a6cb8847", func := "covalent/covalentlaw26.NumberWraps", spec := "numberWraps", inPlace := ["internal/abi.NoEscape"], unfollowed := true, recurses := true, apart := false, narrowed := true }
def NumberWrapsUptoSaid : Prop := numberWrapsUptoRow.holds Try.pinned (OpenSpec.upto numberWrapsSpec)

/-- 'covalentlaw26.NumberCompares', WHERE WHAT IT READS IS OF BULK AT MOST 1048576: true; the input reads as it did. -/
def numberComparesUptoRow : OpenClaim := { program := "ytclainfdeghgnaa", sum := "12012e3b01eb5300cf84b52df53c009d03df54ec6908942739e608f8a6cb8847", func := "covalent/covalentlaw26.NumberCompares", spec := "numberCompares", inPlace := ["internal/abi.NoEscape"], unfollowed := true, recurses := true, apart := false, narrowed := true }
def NumberComparesUptoSaid : Prop := numberComparesUptoRow.holds Try.pinned (OpenSpec.upto numberComparesSpec)

/-- 'covalentlaw26.NumberMuls', WHERE WHAT IT READS IS OF BULK AT MOST 1048576: true; the input reads as it did. -/
def numberMulsUptoRow : OpenClaim := { program := "ytclainfdeghgnaa", sum := "12012e3b01eb5300cf84b52df53c009d03df54ec6908942739e608f8a6cb8847", func := "covalent/covalentlaw26.NumberMuls", spec := "numberMuls", inPlace := ["internal/abi.NoEscape"], unfollowed := true, recurses := true, apart := false, narrowed := true }
def NumberMulsUptoSaid : Prop := numberMulsUptoRow.holds Try.pinned (OpenSpec.upto numberMulsSpec)

/-- 'covalentlaw26.NumberRounds', WHERE WHAT IT READS IS OF BULK AT MOST 1048576: true; the input reads as it did. -/
def numberRoundsUptoRow : OpenClaim := { program := "ytclainfdeghgnaa", sum := "12012e3b01eb5300cf84b52df53c009d03df54ec6908942739e608f8a6cb8847", func := "covalent/covalentlaw26.NumberRounds", spec := "numberRounds", inPlace := ["internal/abi.NoEscape"], unfollowed := true, recurses := true, apart := false, narrowed := true }
def NumberRoundsUptoSaid : Prop := numberRoundsUptoRow.holds Try.pinned (OpenSpec.upto numberRoundsSpec)

/-- 'covalentlaw26.NumberGivesBack', WHERE WHAT IT READS IS OF BULK AT MOST 1048576: true; the input reads as it did. -/
def numberGivesBackUptoRow : OpenClaim := { program := "ytclainfdeghgnaa", sum := "12012e3b01eb5300cf84b52df53c009d03df54ec6908942739e608f8a6cb8847", func := "covalent/covalentlaw26.NumberGivesBack", spec := "numberGivesBack", inPlace := ["internal/abi.NoEscape"], unfollowed := true, recurses := true, apart := false, narrowed := true }
def NumberGivesBackUptoSaid : Prop := numberGivesBackUptoRow.holds Try.pinned (OpenSpec.upto numberGivesBackSpec)

/-- 'covalentlaw26.NumberFits', WHERE WHAT IT READS IS OF BULK AT MOST 1048576: true; the input reads as it did. -/
def numberFitsUptoRow : OpenClaim := { program := "ytclainfdeghgnaa", sum := "12012e3b01eb5300cf84b52df53c009d03df54ec6908942739e608f8a6cb8847", func := "covalent/covalentlaw26.NumberFits", spec := "numberFits", inPlace := ["internal/abi.NoEscape"], unfollowed := true, recurses := true, apart := false, narrowed := true }
def NumberFitsUptoSaid : Prop := numberFitsUptoRow.holds Try.pinned (OpenSpec.upto numberFitsSpec)

/-- 'covalentlaw26.NumberModes', WHERE WHAT IT READS IS OF BULK AT MOST 1048576: true; the input reads as it did. -/
def numberModesUptoRow : OpenClaim := { program := "ytclainfdeghgnaa", sum := "12012e3b01eb5300cf84b52df53c009d03df54ec6908942739e608f8a6cb8847", func := "covalent/covalentlaw26.NumberModes", spec := "numberModes", inPlace := ["internal/abi.NoEscape"], unfollowed := true, recurses := true, apart := false, narrowed := true }
def NumberModesUptoSaid : Prop := numberModesUptoRow.holds Try.pinned (OpenSpec.upto numberModesSpec)

/-- 'covalentlaw26.NumberConverts', WHERE WHAT IT READS IS OF BULK AT MOST 1048576: true; the input reads as it did. -/
def numberConvertsUptoRow : OpenClaim := { program := "ytclainfdeghgnaa", sum := "12012e3b01eb5300cf84b52df53c009d03df54ec6908942739e608f8a6cb8847", func := "covalent/covalentlaw26.NumberConverts", spec := "numberConverts", inPlace := ["internal/abi.NoEscape"], unfollowed := true, recurses := true, apart := false, narrowed := true }
def NumberConvertsUptoSaid : Prop := numberConvertsUptoRow.holds Try.pinned (OpenSpec.upto numberConvertsSpec)

/-- 'covalentlaw26.NumberSums', WHERE WHAT IT READS IS OF BULK AT MOST 1048576: true; the input reads as it did. -/
def numberSumsUptoRow : OpenClaim := { program := "ytclainfdeghgnaa", sum := "12012e3b01eb5300cf84b52df53c009d03df54ec6908942739e608f8a6cb8847", func := "covalent/covalentlaw26.NumberSums", spec := "numberSums", inPlace := ["internal/abi.NoEscape"], unfollowed := true, recurses := true, apart := false, narrowed := true }
def NumberSumsUptoSaid : Prop := numberSumsUptoRow.holds Try.pinned (OpenSpec.upto numberSumsSpec)

/-- 'covalentlaw26.NumberPows', WHERE WHAT IT READS IS OF BULK AT MOST 1048576: true; the input reads as it did. -/
def numberPowsUptoRow : OpenClaim := { program := "ytclainfdeghgnaa", sum := "12012e3b01eb5300cf84b52df53c009d03df54ec6908942739e608f8a6cb8847", func := "covalent/covalentlaw26.NumberPows", spec := "numberPows", inPlace := ["internal/abi.NoEscape"], unfollowed := true, recurses := true, apart := false, narrowed := true }
def NumberPowsUptoSaid : Prop := numberPowsUptoRow.holds Try.pinned (OpenSpec.upto numberPowsSpec)

/-- 'covalentlaw26.NumberAdds', WHERE WHAT IT READS IS OF BULK AT MOST 1048576: true; the input reads as it did. -/
def numberAddsUptoRow : OpenClaim := { program := "ytclainfdeghgnaa", sum := "12012e3b01eb5300cf84b52df53c009d03df54ec6908942739e608f8a6cb8847", func := "covalent/covalentlaw26.NumberAdds", spec := "numberAdds", inPlace := ["internal/abi.NoEscape"], unfollowed := true, recurses := true, apart := false, narrowed := true }
def NumberAddsUptoSaid : Prop := numberAddsUptoRow.holds Try.pinned (OpenSpec.upto numberAddsSpec)

/-- 'covalentlaw26.NumberUndoes', WHERE WHAT IT READS IS OF BULK AT MOST 1048576: true; the input reads as it did. -/
def numberUndoesUptoRow : OpenClaim := { program := "ytclainfdeghgnaa", sum := "12012e3b01eb5300cf84b52df53c009d03df54ec6908942739e608f8a6cb8847", func := "covalent/covalentlaw26.NumberUndoes", spec := "numberUndoes", inPlace := ["internal/abi.NoEscape"], unfollowed := true, recurses := true, apart := false, narrowed := true }
def NumberUndoesUptoSaid : Prop := numberUndoesUptoRow.holds Try.pinned (OpenSpec.upto numberUndoesSpec)

/-- 'covalentlaw26.NumberNear', WHERE WHAT IT READS IS OF BULK AT MOST 1048576: true; the input reads as it did. -/
def numberNearUptoRow : OpenClaim := { program := "ytclainfdeghgnaa", sum := "12012e3b01eb5300cf84b52df53c009d03df54ec6908942739e608f8a6cb8847", func := "covalent/covalentlaw26.NumberNear", spec := "numberNear", inPlace := ["internal/abi.NoEscape"], unfollowed := true, recurses := true, apart := false, narrowed := true }
def NumberNearUptoSaid : Prop := numberNearUptoRow.holds Try.pinned (OpenSpec.upto numberNearSpec)

/-- 'covalentlaw26.NumberBits', WHERE WHAT IT READS IS OF BULK AT MOST 1048576: true; the input reads as it did. -/
def numberBitsUptoRow : OpenClaim := { program := "ytclainfdeghgnaa", sum := "12012e3b01eb5300cf84b52df53c009d03df54ec6908942739e608f8a6cb8847", func := "covalent/covalentlaw26.NumberBits", spec := "numberBits", inPlace := ["internal/abi.NoEscape"], unfollowed := true, recurses := true, apart := false, narrowed := true }
def NumberBitsUptoSaid : Prop := numberBitsUptoRow.holds Try.pinned (OpenSpec.upto numberBitsSpec)

/-- 'covalentlaw26.NumberBitsBack', WHERE WHAT IT READS IS OF BULK AT MOST 1048576: true; the input reads as it did. -/
def numberBitsBackUptoRow : OpenClaim := { program := "ytclainfdeghgnaa", sum := "12012e3b01eb5300cf84b52df53c009d03df54ec6908942739e608f8a6cb8847", func := "covalent/covalentlaw26.NumberBitsBack", spec := "numberBitsBack", inPlace := ["internal/abi.NoEscape"], unfollowed := true, recurses := true, apart := false, narrowed := true }
def NumberBitsBackUptoSaid : Prop := numberBitsBackUptoRow.holds Try.pinned (OpenSpec.upto numberBitsBackSpec)

end Rows
end Go.Proofs.Ytclainfdeghgnaa
