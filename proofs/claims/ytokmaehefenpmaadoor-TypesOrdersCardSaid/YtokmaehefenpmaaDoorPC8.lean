/- The document's table of nodes (node), and whether all nodes are as it says (all, Valid, Open). -/
import Derived.Deep.DeepCutAuto
import Derived.Test.YtokmaehefenpmaaDoorPC7
import Derived.Test.YtokmaehefenpmaaDoorPC1
namespace Go.Proofs.YtokmaehefenpmaaDoor
open Go.RowKit Go.Proofs.YtokmaehefenpmaaDoor.Nm
set_option linter.unusedSimpArgs false
def lit4 (s : ByteArray) : Bool := s.toList == [73, 110, 116] || (s.toList == [66, 111, 111, 108] || (s.toList == [84, 101, 120, 116] || s.toList == [85, 110, 105, 116]))
def lit2 (s : ByteArray) : Bool := s.toList == [65, 114, 114, 97, 121] || s.toList == [87, 101, 97, 107]
/-- Whether a node by itself is as the table of the chapter says; v: a variable may be. -/
def nodeK (v : Bool) (k : Int) (s : ByteArray) (n : Int) (l : List Ty) : Bool :=
  if k = 1 ∨ k = 2 ∨ k = 3 ∨ k = 4 then decide (l.length = 0) && s.toList.isEmpty
  else if k = 5 ∨ k = 11 then decide (l.length = 1) && s.toList.isEmpty
  else if k = 6 then !(decide (l.length = 0) && lit4 s || decide (l.length = 1) && lit2 s) && (decide (l.length ≤ 3) && tnameB s)
  else if k = 7 ∨ k = 9 then decide (l.length = 0) && tnameB s
  else if k = 8 then match l with | [u] => decide (u.kind ≠ 10) && (decide (u.kind ≠ 9) && tnameB s) | _ => false
  else if k = 10 then decide (1 ≤ l.length) && (decide (l.length ≤ 7) && s.toList.isEmpty)
  else if k = 12 then v && (decide (l.length = 0) && (s.toList.isEmpty && (decide (0 ≤ n) && decide (n < 40))))
  else false
def nodeB (v : Bool) : Ty → Bool | .node k s n l => (decide (k = 12) || decide (n = 0)) && nodeK v k s n l
end Go.Proofs.YtokmaehefenpmaaDoor
