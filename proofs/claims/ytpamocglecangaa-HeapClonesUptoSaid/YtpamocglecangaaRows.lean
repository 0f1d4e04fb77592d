/-
  NARROWER THAN 'FOR EVERY INPUT', by the rows' own cells (each row's printed sentence says how): HeapOnce: loops · HeapPlays: loops · HeapClones: loops · HeapNil: loops.
  DERIVED. THE GIVEN ROWS OF THIS SEAT. 6 by the template 'for every input the law returns true; each argument reads behind the call as it read before'; 0 by the template 'total and deterministic' (their statements: YtpamocglecangaaTotals.lean).
  GIVEN WITH THE SEED: the statements are not yours to turn. If you find one false, say at which input.
  Laid BY PROGRAM, IN A SANDBOX (cutbox-rows.mjs): the forced cells as the released guide's own fill.sh prints them over the translation dea562d98cc327c7… (all of the seat's roots in one cut). By AI agents, Wed Nov 11 2026. No macro, syntax, notation, axiom, sorry.
-/
import Derived.Test.YtpamocglecangaaChecked
import GoSem.Claim
import GoSem.ClaimJoined
import GoSem.ClaimMapViews
import Derived.JoinedTies
import Derived.KernelRfl
namespace Go.Proofs.Ytpamocglecangaa
/- THE CELL 'sum', in the pinned program and in every row, IS THE sha256 OF THE DUMP (.gsa) THAT YtpamocglecangaaProg.lean LOADS. Nothing in Lean hashes anything: it is a label: what it is worth is what the hold of that sum in a sandbox is worth. -/
noncomputable def Try.pinned : Pinned := { name := "ytpamocglecangaa", sum := "dea562d98cc327c7758070841df41b830d719d6479fc09d693cca32c70d16799", checked := Try.checked }
namespace Rows
def none {H : Type} : Left H := { results := [], args := [] }

/-- 'covalentlaw14.HeapOnce': WHATEVER THE INPUT: true; the input reads as it did. -/
def heapOnceSpec : ChangeSpec := { name := "heapOnce", fn := fun _ => fun
  | [d1, d2] => { results := [.lit (.bool true)], args := [d1, d2] }
  | _ => none }
def heapOnceRow : OpenClaim := { program := "ytpamocglecangaa", sum := "dea562d98cc327c7758070841df41b830d719d6479fc09d693cca32c70d16799", func := "covalent/covalentlaw14.HeapOnce", spec := "heapOnce", unfollowed := true, recurses := true, loops := true, apart := false }
def HeapOnceSaid : Prop := heapOnceRow.holds Try.pinned (OpenSpec.ofChange heapOnceSpec)

/-- ITS FALSE NEIGHBOUR: 'it returns false'. Refute it at one input. -/
def heapOnceWrong : ChangeSpec := { name := "heapOnce", fn := fun _ => fun
  | [d1, d2] => { results := [.lit (.bool false)], args := [d1, d2] }
  | _ => none }
def HeapOnceWrongFalsely : Prop := heapOnceRow.holds Try.pinned (OpenSpec.ofChange heapOnceWrong)

/-- 'covalentlaw14.HeapPlays': WHATEVER THE INPUT: true; the input reads as it did. -/
def heapPlaysSpec : ChangeSpec := { name := "heapPlays", fn := fun _ => fun
  | [d1, d2] => { results := [.lit (.bool true)], args := [d1, d2] }
  | _ => none }
def heapPlaysRow : OpenClaim := { program := "ytpamocglecangaa", sum := "dea562d98cc327c7758070841df41b830d719d6479fc09d693cca32c70d16799", func := "covalent/covalentlaw14.HeapPlays", spec := "heapPlays", unfollowed := true, recurses := true, loops := true, apart := false }
def HeapPlaysSaid : Prop := heapPlaysRow.holds Try.pinned (OpenSpec.ofChange heapPlaysSpec)

/-- ITS FALSE NEIGHBOUR: 'it returns false'. Refute it at one input. -/
def heapPlaysWrong : ChangeSpec := { name := "heapPlays", fn := fun _ => fun
  | [d1, d2] => { results := [.lit (.bool false)], args := [d1, d2] }
  | _ => none }
def HeapPlaysWrongFalsely : Prop := heapPlaysRow.holds Try.pinned (OpenSpec.ofChange heapPlaysWrong)

/-- 'covalentlaw14.HeapClones': WHATEVER THE INPUT: true; the input reads as it did. -/
def heapClonesSpec : ChangeSpec := { name := "heapClones", fn := fun _ => fun
  | [d1, d2, d3] => { results := [.lit (.bool true)], args := [d1, d2, d3] }
  | _ => none }
def heapClonesRow : OpenClaim := { program := "ytpamocglecangaa", sum := "dea562d98cc327c7758070841df41b830d719d6479fc09d693cca32c70d16799", func := "covalent/covalentlaw14.HeapClones", spec := "heapClones", unfollowed := true, recurses := true, loops := true, apart := false }
def HeapClonesSaid : Prop := heapClonesRow.holds Try.pinned (OpenSpec.ofChange heapClonesSpec)

/-- ITS FALSE NEIGHBOUR: 'it returns false'. Refute it at one input. -/
def heapClonesWrong : ChangeSpec := { name := "heapClones", fn := fun _ => fun
  | [d1, d2, d3] => { results := [.lit (.bool false)], args := [d1, d2, d3] }
  | _ => none }
def HeapClonesWrongFalsely : Prop := heapClonesRow.holds Try.pinned (OpenSpec.ofChange heapClonesWrong)

/-- 'covalentlaw14.HeapBalances': WHATEVER THE INPUT: true; the input reads as it did. -/
def heapBalancesSpec : ChangeSpec := { name := "heapBalances", fn := fun _ => fun
  | [d] => { results := [.lit (.bool true)], args := [d] }
  | _ => none }
def heapBalancesRow : OpenClaim := { program := "ytpamocglecangaa", sum := "dea562d98cc327c7758070841df41b830d719d6479fc09d693cca32c70d16799", func := "covalent/covalentlaw14.HeapBalances", spec := "heapBalances", unfollowed := true, recurses := true, apart := false }
def HeapBalancesSaid : Prop := heapBalancesRow.holds Try.pinned (OpenSpec.ofChange heapBalancesSpec)

/-- ITS FALSE NEIGHBOUR: 'it returns false'. Refute it at one input. -/
def heapBalancesWrong : ChangeSpec := { name := "heapBalances", fn := fun _ => fun
  | [d] => { results := [.lit (.bool false)], args := [d] }
  | _ => none }
def HeapBalancesWrongFalsely : Prop := heapBalancesRow.holds Try.pinned (OpenSpec.ofChange heapBalancesWrong)

/-- 'covalentlaw14.HeapLeft': WHATEVER THE INPUT: true; the input reads as it did. -/
def heapLeftSpec : ChangeSpec := { name := "heapLeft", fn := fun _ => fun
  | [d] => { results := [.lit (.bool true)], args := [d] }
  | _ => none }
def heapLeftRow : OpenClaim := { program := "ytpamocglecangaa", sum := "dea562d98cc327c7758070841df41b830d719d6479fc09d693cca32c70d16799", func := "covalent/covalentlaw14.HeapLeft", spec := "heapLeft", unfollowed := true, recurses := true, apart := false }
def HeapLeftSaid : Prop := heapLeftRow.holds Try.pinned (OpenSpec.ofChange heapLeftSpec)

/-- ITS FALSE NEIGHBOUR: 'it returns false'. Refute it at one input. -/
def heapLeftWrong : ChangeSpec := { name := "heapLeft", fn := fun _ => fun
  | [d] => { results := [.lit (.bool false)], args := [d] }
  | _ => none }
def HeapLeftWrongFalsely : Prop := heapLeftRow.holds Try.pinned (OpenSpec.ofChange heapLeftWrong)

/-- 'covalentlaw14.HeapNil': WHATEVER THE INPUT: true; the input reads as it did. -/
def heapNilSpec : ChangeSpec := { name := "heapNil", fn := fun _ => fun
  | [d] => { results := [.lit (.bool true)], args := [d] }
  | _ => none }
def heapNilRow : OpenClaim := { program := "ytpamocglecangaa", sum := "dea562d98cc327c7758070841df41b830d719d6479fc09d693cca32c70d16799", func := "covalent/covalentlaw14.HeapNil", spec := "heapNil", unfollowed := true, recurses := true, loops := true, apart := false }
def HeapNilSaid : Prop := heapNilRow.holds Try.pinned (OpenSpec.ofChange heapNilSpec)

/-- ITS FALSE NEIGHBOUR: 'it returns false'. Refute it at one input. -/
def heapNilWrong : ChangeSpec := { name := "heapNil", fn := fun _ => fun
  | [d] => { results := [.lit (.bool false)], args := [d] }
  | _ => none }
def HeapNilWrongFalsely : Prop := heapNilRow.holds Try.pinned (OpenSpec.ofChange heapNilWrong)

/- THE SECOND FORM. 'bulk': how many values and letters a reading holds, each counted each time it is reached (what is shared counts as often as it is met; a slice's spare places count too). A statement '..UptoSaid' is the law's where the arguments, and the package variables that the reading takes, are together of bulk at most 1048576: NARROWER than '..Said'. Prove '..Said' where nothing that the law and all that it calls make is longer than what came in: it says more and counts as full. Else prove '..UptoSaid'. A law counts once. -/
mutual
def uptoBulk {H : Type} : DataW H → Nat
  | .lit (.string bytes) => bytes.length + 1
  | .lit _ => 1
  | .nil => 1
  | .ptr d => uptoBulk d + 1
  | .slice elems spare => uptoBulkAll elems + uptoBulkAll spare + 1
  | .agg parts => uptoBulkAll parts + 1
  | .iface _ d => uptoBulk d + 1
  | .map entries => uptoBulkEntries entries + 1
  | .held _ => 1
def uptoBulkAll {H : Type} : List (DataW H) → Nat
  | [] => 0
  | d :: r => uptoBulk d + uptoBulkAll r
def uptoBulkEntries {H : Type} : List (Lit × DataW H) → Nat
  | [] => 0
  | x :: r => uptoBulkEntry x + uptoBulkEntries r
def uptoBulkEntry {H : Type} : Lit × DataW H → Nat
  | (.string bytes, d) => bytes.length + uptoBulk d + 1
  | (_, d) => uptoBulk d + 1
 end
def uptoSmall : (H : Type) → List (DataW H) → Bool := fun _ ds => decide (uptoBulkAll ds ≤ 1048576)
def OpenSpec.upto (s : _root_.Go.ChangeSpec) : _root_.Go.OpenSpec := { _root_.Go.OpenSpec.ofChange s with cond := some uptoSmall }

/-- 'covalentlaw14.HeapOnce', WHERE WHAT IT READS IS OF BULK AT MOST 1048576: true; the input reads as it did. -/
def heapOnceUptoRow : OpenClaim := { program := "ytpamocglecangaa", sum := "dea562d98cc327c7758070841df41b830d719d6479fc09d693cca32c70d16799", func := "covalent/covalentlaw14.HeapOnce", spec := "heapOnce", unfollowed := true, recurses := true, loops := true, apart := false, narrowed := true }
def HeapOnceUptoSaid : Prop := heapOnceUptoRow.holds Try.pinned (OpenSpec.upto heapOnceSpec)

/-- 'covalentlaw14.HeapPlays', WHERE WHAT IT READS IS OF BULK AT MOST 1048576: true; the input reads as it did. -/
def heapPlaysUptoRow : OpenClaim := { program := "ytpamocglecangaa", sum := "dea562d98cc327c7758070841df41b830d719d6479fc09d693cca32c70d16799", func := "covalent/covalentlaw14.HeapPlays", spec := "heapPlays", unfollowed := true, recurses := true, loops := true, apart := false, narrowed := true }
def HeapPlaysUptoSaid : Prop := heapPlaysUptoRow.holds Try.pinned (OpenSpec.upto heapPlaysSpec)

/-- 'covalentlaw14.HeapClones', WHERE WHAT IT READS IS OF BULK AT MOST 1048576: true; the input reads as it did. -/
def heapClonesUptoRow : OpenClaim := { program := "ytpamocglecangaa", sum := "dea562d98cc327c7758070841df41b830d719d6479fc09d693cca32c70d16799", func := "covalent/covalentlaw14.HeapClones", spec := "heapClones", unfollowed := true, recurses := true, loops := true, apart := false, narrowed := true }
def HeapClonesUptoSaid : Prop := heapClonesUptoRow.holds Try.pinned (OpenSpec.upto heapClonesSpec)

/-- 'covalentlaw14.HeapBalances', WHERE WHAT IT READS IS OF BULK AT MOST 1048576: true; the input reads as it did. -/
def heapBalancesUptoRow : OpenClaim := { program := "ytpamocglecangaa", sum := "dea562d98cc327c7758070841df41b830d719d6479fc09d693cca32c70d16799", func := "covalent/covalentlaw14.HeapBalances", spec := "heapBalances", unfollowed := true, recurses := true, apart := false, narrowed := true }
def HeapBalancesUptoSaid : Prop := heapBalancesUptoRow.holds Try.pinned (OpenSpec.upto heapBalancesSpec)

/-- 'covalentlaw14.HeapLeft', WHERE WHAT IT READS IS OF BULK AT MOST 1048576: true; the input reads as it did. -/
def heapLeftUptoRow : OpenClaim := { program := "ytpamocglecangaa", sum := "dea562d98cc327c7758070841df41b830d719d6479fc09d693cca32c70d16799", func := "covalent/covalentlaw14.HeapLeft", spec := "heapLeft", unfollowed := true, recurses := true, apart := false, narrowed := true }
def HeapLeftUptoSaid : Prop := heapLeftUptoRow.holds Try.pinned (OpenSpec.upto heapLeftSpec)

/-- 'covalentlaw14.HeapNil', WHERE WHAT IT READS IS OF BULK AT MOST 1048576: true; the input reads as it did. -/
def heapNilUptoRow : OpenClaim := { program := "ytpamocglecangaa", sum := "dea562d98cc327c7758070841df41b830d719d6479fc09d693cca32c70d16799", func := "covalent/covalentlaw14.HeapNil", spec := "heapNil", unfollowed := true, recurses := true, loops := true, apart := false, narrowed := true }
def HeapNilUptoSaid : Prop := heapNilUptoRow.holds Try.pinned (OpenSpec.upto heapNilSpec)

end Rows
end Go.Proofs.Ytpamocglecangaa
