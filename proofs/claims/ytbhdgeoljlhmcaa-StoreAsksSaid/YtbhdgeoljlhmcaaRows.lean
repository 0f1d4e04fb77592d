/-
  No cell of these rows narrows 'for every input' (looked for: loops, veiled, ifaces, maps, wideKeys, modest, calm, conditions, laid).
  DERIVED. THE GIVEN ROWS OF THIS SEAT. 10 by the template 'for every input the law returns true; each argument reads behind the call as it read before'; 0 by the template 'total and deterministic' (their statements: YtbhdgeoljlhmcaaTotals.lean).
  GIVEN WITH THE SEED: the statements are not yours to turn. If you find one false, say at which input.
  Laid BY PROGRAM, IN A SANDBOX (cutbox-rows.mjs): the forced cells as the released guide's own fill.sh prints them over the translation ca63e401ea9edcd3… (all of the seat's roots in one cut). By AI agents, Wed Nov 11 2026. No macro, syntax, notation, axiom, sorry.
-/
import Derived.Test.YtbhdgeoljlhmcaaChecked
import GoSem.Claim
import GoSem.ClaimJoined
import GoSem.ClaimMapViews
import Derived.JoinedTies
import Derived.KernelRfl
namespace Go.Proofs.Ytbhdgeoljlhmcaa
/- THE CELL 'sum', in the pinned program and in every row, IS THE sha256 OF THE DUMP (.gsa) THAT YtbhdgeoljlhmcaaProg.lean LOADS. Nothing in Lean hashes anything: it is a label: what it is worth is what the hold of that sum in a sandbox is worth. -/
noncomputable def Try.pinned : Pinned := { name := "ytbhdgeoljlhmcaa", sum := "ca63e401ea9edcd39f15ec44c3ed38caf8621bed5c320aeab5daec8755b978d3", checked := Try.checked }
namespace Rows
def none {H : Type} : Left H := { results := [], args := [] }

/-- 'covalentlaw25.StorePlay': WHATEVER THE INPUT: true; the input reads as it did. -/
def storePlaySpec : ChangeSpec := { name := "storePlay", fn := fun _ => fun
  | [d] => { results := [.lit (.bool true)], args := [d] }
  | _ => none }
def storePlayRow : OpenClaim := { program := "ytbhdgeoljlhmcaa", sum := "ca63e401ea9edcd39f15ec44c3ed38caf8621bed5c320aeab5daec8755b978d3", func := "covalent/covalentlaw25.StorePlay", spec := "storePlay", unfollowed := true, recurses := true, apart := false }
def StorePlaySaid : Prop := storePlayRow.holds Try.pinned (OpenSpec.ofChange storePlaySpec)

/-- ITS FALSE NEIGHBOUR: 'it returns false'. Refute it at one input. -/
def storePlayWrong : ChangeSpec := { name := "storePlay", fn := fun _ => fun
  | [d] => { results := [.lit (.bool false)], args := [d] }
  | _ => none }
def StorePlayWrongFalsely : Prop := storePlayRow.holds Try.pinned (OpenSpec.ofChange storePlayWrong)

/-- 'covalentlaw25.StoreSeeds': WHATEVER THE INPUT: true; the input reads as it did. -/
def storeSeedsSpec : ChangeSpec := { name := "storeSeeds", fn := fun _ => fun
  | [d1, d2] => { results := [.lit (.bool true)], args := [d1, d2] }
  | _ => none }
def storeSeedsRow : OpenClaim := { program := "ytbhdgeoljlhmcaa", sum := "ca63e401ea9edcd39f15ec44c3ed38caf8621bed5c320aeab5daec8755b978d3", func := "covalent/covalentlaw25.StoreSeeds", spec := "storeSeeds", unfollowed := true, recurses := true, apart := false }
def StoreSeedsSaid : Prop := storeSeedsRow.holds Try.pinned (OpenSpec.ofChange storeSeedsSpec)

/-- ITS FALSE NEIGHBOUR: 'it returns false'. Refute it at one input. -/
def storeSeedsWrong : ChangeSpec := { name := "storeSeeds", fn := fun _ => fun
  | [d1, d2] => { results := [.lit (.bool false)], args := [d1, d2] }
  | _ => none }
def StoreSeedsWrongFalsely : Prop := storeSeedsRow.holds Try.pinned (OpenSpec.ofChange storeSeedsWrong)

/-- 'covalentlaw25.StoreCopies': WHATEVER THE INPUT: true; the input reads as it did. -/
def storeCopiesSpec : ChangeSpec := { name := "storeCopies", fn := fun _ => fun
  | [d1, d2, d3] => { results := [.lit (.bool true)], args := [d1, d2, d3] }
  | _ => none }
def storeCopiesRow : OpenClaim := { program := "ytbhdgeoljlhmcaa", sum := "ca63e401ea9edcd39f15ec44c3ed38caf8621bed5c320aeab5daec8755b978d3", func := "covalent/covalentlaw25.StoreCopies", spec := "storeCopies", unfollowed := true, recurses := true, apart := false }
def StoreCopiesSaid : Prop := storeCopiesRow.holds Try.pinned (OpenSpec.ofChange storeCopiesSpec)

/-- ITS FALSE NEIGHBOUR: 'it returns false'. Refute it at one input. -/
def storeCopiesWrong : ChangeSpec := { name := "storeCopies", fn := fun _ => fun
  | [d1, d2, d3] => { results := [.lit (.bool false)], args := [d1, d2, d3] }
  | _ => none }
def StoreCopiesWrongFalsely : Prop := storeCopiesRow.holds Try.pinned (OpenSpec.ofChange storeCopiesWrong)

/-- 'covalentlaw25.StoreCounts': WHATEVER THE INPUT: true; the input reads as it did. -/
def storeCountsSpec : ChangeSpec := { name := "storeCounts", fn := fun _ => fun
  | [d] => { results := [.lit (.bool true)], args := [d] }
  | _ => none }
def storeCountsRow : OpenClaim := { program := "ytbhdgeoljlhmcaa", sum := "ca63e401ea9edcd39f15ec44c3ed38caf8621bed5c320aeab5daec8755b978d3", func := "covalent/covalentlaw25.StoreCounts", spec := "storeCounts", unfollowed := true, recurses := true, apart := false }
def StoreCountsSaid : Prop := storeCountsRow.holds Try.pinned (OpenSpec.ofChange storeCountsSpec)

/-- ITS FALSE NEIGHBOUR: 'it returns false'. Refute it at one input. -/
def storeCountsWrong : ChangeSpec := { name := "storeCounts", fn := fun _ => fun
  | [d] => { results := [.lit (.bool false)], args := [d] }
  | _ => none }
def StoreCountsWrongFalsely : Prop := storeCountsRow.holds Try.pinned (OpenSpec.ofChange storeCountsWrong)

/-- 'covalentlaw25.StoreSorts': WHATEVER THE INPUT: true; the input reads as it did. -/
def storeSortsSpec : ChangeSpec := { name := "storeSorts", fn := fun _ => fun
  | [d1, d2, d3] => { results := [.lit (.bool true)], args := [d1, d2, d3] }
  | _ => none }
def storeSortsRow : OpenClaim := { program := "ytbhdgeoljlhmcaa", sum := "ca63e401ea9edcd39f15ec44c3ed38caf8621bed5c320aeab5daec8755b978d3", func := "covalent/covalentlaw25.StoreSorts", spec := "storeSorts", unfollowed := true, recurses := true, apart := false }
def StoreSortsSaid : Prop := storeSortsRow.holds Try.pinned (OpenSpec.ofChange storeSortsSpec)

/-- ITS FALSE NEIGHBOUR: 'it returns false'. Refute it at one input. -/
def storeSortsWrong : ChangeSpec := { name := "storeSorts", fn := fun _ => fun
  | [d1, d2, d3] => { results := [.lit (.bool false)], args := [d1, d2, d3] }
  | _ => none }
def StoreSortsWrongFalsely : Prop := storeSortsRow.holds Try.pinned (OpenSpec.ofChange storeSortsWrong)

/-- 'covalentlaw25.StoreHashes': WHATEVER THE INPUT: true; the input reads as it did. -/
def storeHashesSpec : ChangeSpec := { name := "storeHashes", fn := fun _ => fun
  | [d1, d2, d3] => { results := [.lit (.bool true)], args := [d1, d2, d3] }
  | _ => none }
def storeHashesRow : OpenClaim := { program := "ytbhdgeoljlhmcaa", sum := "ca63e401ea9edcd39f15ec44c3ed38caf8621bed5c320aeab5daec8755b978d3", func := "covalent/covalentlaw25.StoreHashes", spec := "storeHashes", unfollowed := true, recurses := true, apart := false }
def StoreHashesSaid : Prop := storeHashesRow.holds Try.pinned (OpenSpec.ofChange storeHashesSpec)

/-- ITS FALSE NEIGHBOUR: 'it returns false'. Refute it at one input. -/
def storeHashesWrong : ChangeSpec := { name := "storeHashes", fn := fun _ => fun
  | [d1, d2, d3] => { results := [.lit (.bool false)], args := [d1, d2, d3] }
  | _ => none }
def StoreHashesWrongFalsely : Prop := storeHashesRow.holds Try.pinned (OpenSpec.ofChange storeHashesWrong)

/-- 'covalentlaw25.StorePlays': WHATEVER THE INPUT: true; the input reads as it did. -/
def storePlaysSpec : ChangeSpec := { name := "storePlays", fn := fun _ => fun
  | [d] => { results := [.lit (.bool true)], args := [d] }
  | _ => none }
def storePlaysRow : OpenClaim := { program := "ytbhdgeoljlhmcaa", sum := "ca63e401ea9edcd39f15ec44c3ed38caf8621bed5c320aeab5daec8755b978d3", func := "covalent/covalentlaw25.StorePlays", spec := "storePlays", unfollowed := true, recurses := true, apart := false }
def StorePlaysSaid : Prop := storePlaysRow.holds Try.pinned (OpenSpec.ofChange storePlaysSpec)

/-- ITS FALSE NEIGHBOUR: 'it returns false'. Refute it at one input. -/
def storePlaysWrong : ChangeSpec := { name := "storePlays", fn := fun _ => fun
  | [d] => { results := [.lit (.bool false)], args := [d] }
  | _ => none }
def StorePlaysWrongFalsely : Prop := storePlaysRow.holds Try.pinned (OpenSpec.ofChange storePlaysWrong)

/-- 'covalentlaw25.StoreClones': WHATEVER THE INPUT: true; the input reads as it did. -/
def storeClonesSpec : ChangeSpec := { name := "storeClones", fn := fun _ => fun
  | [d1, d2] => { results := [.lit (.bool true)], args := [d1, d2] }
  | _ => none }
def storeClonesRow : OpenClaim := { program := "ytbhdgeoljlhmcaa", sum := "ca63e401ea9edcd39f15ec44c3ed38caf8621bed5c320aeab5daec8755b978d3", func := "covalent/covalentlaw25.StoreClones", spec := "storeClones", unfollowed := true, recurses := true, apart := false }
def StoreClonesSaid : Prop := storeClonesRow.holds Try.pinned (OpenSpec.ofChange storeClonesSpec)

/-- ITS FALSE NEIGHBOUR: 'it returns false'. Refute it at one input. -/
def storeClonesWrong : ChangeSpec := { name := "storeClones", fn := fun _ => fun
  | [d1, d2] => { results := [.lit (.bool false)], args := [d1, d2] }
  | _ => none }
def StoreClonesWrongFalsely : Prop := storeClonesRow.holds Try.pinned (OpenSpec.ofChange storeClonesWrong)

/-- 'covalentlaw25.StoreValues': WHATEVER THE INPUT: true; the input reads as it did. -/
def storeValuesSpec : ChangeSpec := { name := "storeValues", fn := fun _ => fun
  | [d] => { results := [.lit (.bool true)], args := [d] }
  | _ => none }
def storeValuesRow : OpenClaim := { program := "ytbhdgeoljlhmcaa", sum := "ca63e401ea9edcd39f15ec44c3ed38caf8621bed5c320aeab5daec8755b978d3", func := "covalent/covalentlaw25.StoreValues", spec := "storeValues", unfollowed := true, recurses := true, apart := false }
def StoreValuesSaid : Prop := storeValuesRow.holds Try.pinned (OpenSpec.ofChange storeValuesSpec)

/-- ITS FALSE NEIGHBOUR: 'it returns false'. Refute it at one input. -/
def storeValuesWrong : ChangeSpec := { name := "storeValues", fn := fun _ => fun
  | [d] => { results := [.lit (.bool false)], args := [d] }
  | _ => none }
def StoreValuesWrongFalsely : Prop := storeValuesRow.holds Try.pinned (OpenSpec.ofChange storeValuesWrong)

/-- 'covalentlaw25.StoreAsks': WHATEVER THE INPUT: true; the input reads as it did. -/
def storeAsksSpec : ChangeSpec := { name := "storeAsks", fn := fun _ => fun
  | [d1, d2] => { results := [.lit (.bool true)], args := [d1, d2] }
  | _ => none }
def storeAsksRow : OpenClaim := { program := "ytbhdgeoljlhmcaa", sum := "ca63e401ea9edcd39f15ec44c3ed38caf8621bed5c320aeab5daec8755b978d3", func := "covalent/covalentlaw25.StoreAsks", spec := "storeAsks", unfollowed := true, recurses := true, apart := false }
def StoreAsksSaid : Prop := storeAsksRow.holds Try.pinned (OpenSpec.ofChange storeAsksSpec)

/-- ITS FALSE NEIGHBOUR: 'it returns false'. Refute it at one input. -/
def storeAsksWrong : ChangeSpec := { name := "storeAsks", fn := fun _ => fun
  | [d1, d2] => { results := [.lit (.bool false)], args := [d1, d2] }
  | _ => none }
def StoreAsksWrongFalsely : Prop := storeAsksRow.holds Try.pinned (OpenSpec.ofChange storeAsksWrong)

/- THE SECOND FORM. 'bulk': how many values and letters a reading holds, each counted each time it is reached (what is shared counts as often as it is met; a slice's spare places count too). A statement '..UptoSaid' is the law's where the arguments, and the package variables that the reading takes, are together of bulk at most 1048576: NARROWER than '..Said'. Prove '..Said' where nothing that the law and all that it calls make is longer than what came in: it says more and counts as full. Else prove '..UptoSaid'. A law counts once. -/
mutual
def uptoBulk {H : Type} : DataW H → Nat
  | .lit (.string bytes) => bytes.length + 1
  | .lit _ => 1
  | .nil => 1
  | .ptr d => uptoBulk d + 1
  | .slice elems spare => uptoBulkAll elems + uptoBulkAll spare + 1
  | .agg parts => uptoBulkAll parts + 1
  | .iface _ d => uptoBulk d + 1
  | .map entries => uptoBulkEntries entries + 1
  | .held _ => 1
def uptoBulkAll {H : Type} : List (DataW H) → Nat
  | [] => 0
  | d :: r => uptoBulk d + uptoBulkAll r
def uptoBulkEntries {H : Type} : List (Lit × DataW H) → Nat
  | [] => 0
  | x :: r => uptoBulkEntry x + uptoBulkEntries r
def uptoBulkEntry {H : Type} : Lit × DataW H → Nat
  | (.string bytes, d) => bytes.length + uptoBulk d + 1
  | (_, d) => uptoBulk d + 1
 end
def uptoSmall : (H : Type) → List (DataW H) → Bool := fun _ ds => decide (uptoBulkAll ds ≤ 1048576)
def OpenSpec.upto (s : _root_.Go.ChangeSpec) : _root_.Go.OpenSpec := { _root_.Go.OpenSpec.ofChange s with cond := some uptoSmall }

/-- 'covalentlaw25.StorePlay', WHERE WHAT IT READS IS OF BULK AT MOST 1048576: true; the input reads as it did. -/
def storePlayUptoRow : OpenClaim := { program := "ytbhdgeoljlhmcaa", sum := "ca63e401ea9edcd39f15ec44c3ed38caf8621bed5c320aeab5daec8755b978d3", func := "covalent/covalentlaw25.StorePlay", spec := "storePlay", unfollowed := true, recurses := true, apart := false, narrowed := true }
def StorePlayUptoSaid : Prop := storePlayUptoRow.holds Try.pinned (OpenSpec.upto storePlaySpec)

/-- 'covalentlaw25.StoreSeeds', WHERE WHAT IT READS IS OF BULK AT MOST 1048576: true; the input reads as it did. -/
def storeSeedsUptoRow : OpenClaim := { program := "ytbhdgeoljlhmcaa", sum := "ca63e401ea9edcd39f15ec44c3ed38caf8621bed5c320aeab5daec8755b978d3", func := "covalent/covalentlaw25.StoreSeeds", spec := "storeSeeds", unfollowed := true, recurses := true, apart := false, narrowed := true }
def StoreSeedsUptoSaid : Prop := storeSeedsUptoRow.holds Try.pinned (OpenSpec.upto storeSeedsSpec)

/-- 'covalentlaw25.StoreCopies', WHERE WHAT IT READS IS OF BULK AT MOST 1048576: true; the input reads as it did. -/
def storeCopiesUptoRow : OpenClaim := { program := "ytbhdgeoljlhmcaa", sum := "ca63e401ea9edcd39f15ec44c3ed38caf8621bed5c320aeab5daec8755b978d3", func := "covalent/covalentlaw25.StoreCopies", spec := "storeCopies", unfollowed := true, recurses := true, apart := false, narrowed := true }
def StoreCopiesUptoSaid : Prop := storeCopiesUptoRow.holds Try.pinned (OpenSpec.upto storeCopiesSpec)

/-- 'covalentlaw25.StoreCounts', WHERE WHAT IT READS IS OF BULK AT MOST 1048576: true; the input reads as it did. -/
def storeCountsUptoRow : OpenClaim := { program := "ytbhdgeoljlhmcaa", sum := "ca63e401ea9edcd39f15ec44c3ed38caf8621bed5c320aeab5daec8755b978d3", func := "covalent/covalentlaw25.StoreCounts", spec := "storeCounts", unfollowed := true, recurses := true, apart := false, narrowed := true }
def StoreCountsUptoSaid : Prop := storeCountsUptoRow.holds Try.pinned (OpenSpec.upto storeCountsSpec)

/-- 'covalentlaw25.StoreSorts', WHERE WHAT IT READS IS OF BULK AT MOST 1048576: true; the input reads as it did. -/
def storeSortsUptoRow : OpenClaim := { program := "ytbhdgeoljlhmcaa", sum := "ca63e401ea9edcd39f15ec44c3ed38caf8621bed5c320aeab5daec8755b978d3", func := "covalent/covalentlaw25.StoreSorts", spec := "storeSorts", unfollowed := true, recurses := true, apart := false, narrowed := true }
def StoreSortsUptoSaid : Prop := storeSortsUptoRow.holds Try.pinned (OpenSpec.upto storeSortsSpec)

/-- 'covalentlaw25.StoreHashes', WHERE WHAT IT READS IS OF BULK AT MOST 1048576: true; the input reads as it did. -/
def storeHashesUptoRow : OpenClaim := { program := "ytbhdgeoljlhmcaa", sum := "ca63e401ea9edcd39f15ec44c3ed38caf8621bed5c320aeab5daec8755b978d3", func := "covalent/covalentlaw25.StoreHashes", spec := "storeHashes", unfollowed := true, recurses := true, apart := false, narrowed := true }
def StoreHashesUptoSaid : Prop := storeHashesUptoRow.holds Try.pinned (OpenSpec.upto storeHashesSpec)

/-- 'covalentlaw25.StorePlays', WHERE WHAT IT READS IS OF BULK AT MOST 1048576: true; the input reads as it did. -/
def storePlaysUptoRow : OpenClaim := { program := "ytbhdgeoljlhmcaa", sum := "ca63e401ea9edcd39f15ec44c3ed38caf8621bed5c320aeab5daec8755b978d3", func := "covalent/covalentlaw25.StorePlays", spec := "storePlays", unfollowed := true, recurses := true, apart := false, narrowed := true }
def StorePlaysUptoSaid : Prop := storePlaysUptoRow.holds Try.pinned (OpenSpec.upto storePlaysSpec)

/-- 'covalentlaw25.StoreClones', WHERE WHAT IT READS IS OF BULK AT MOST 1048576: true; the input reads as it did. -/
def storeClonesUptoRow : OpenClaim := { program := "ytbhdgeoljlhmcaa", sum := "ca63e401ea9edcd39f15ec44c3ed38caf8621bed5c320aeab5daec8755b978d3", func := "covalent/covalentlaw25.StoreClones", spec := "storeClones", unfollowed := true, recurses := true, apart := false, narrowed := true }
def StoreClonesUptoSaid : Prop := storeClonesUptoRow.holds Try.pinned (OpenSpec.upto storeClonesSpec)

/-- 'covalentlaw25.StoreValues', WHERE WHAT IT READS IS OF BULK AT MOST 1048576: true; the input reads as it did. -/
def storeValuesUptoRow : OpenClaim := { program := "ytbhdgeoljlhmcaa", sum := "ca63e401ea9edcd39f15ec44c3ed38caf8621bed5c320aeab5daec8755b978d3", func := "covalent/covalentlaw25.StoreValues", spec := "storeValues", unfollowed := true, recurses := true, apart := false, narrowed := true }
def StoreValuesUptoSaid : Prop := storeValuesUptoRow.holds Try.pinned (OpenSpec.upto storeValuesSpec)

/-- 'covalentlaw25.StoreAsks', WHERE WHAT IT READS IS OF BULK AT MOST 1048576: true; the input reads as it did. -/
def storeAsksUptoRow : OpenClaim := { program := "ytbhdgeoljlhmcaa", sum := "ca63e401ea9edcd39f15ec44c3ed38caf8621bed5c320aeab5daec8755b978d3", func := "covalent/covalentlaw25.StoreAsks", spec := "storeAsks", unfollowed := true, recurses := true, apart := false, narrowed := true }
def StoreAsksUptoSaid : Prop := storeAsksUptoRow.holds Try.pinned (OpenSpec.upto storeAsksSpec)

end Rows
end Go.Proofs.Ytbhdgeoljlhmcaa
