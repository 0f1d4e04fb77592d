/- The text of a tree, plainly. No program in sight. -/
import Derived.Test.YtokmaehefenpmaaDoorTyLaw
import Derived.Lib.ItoaNum
namespace Go.Proofs.YtokmaehefenpmaaDoor
/-- The word of a node. -/
def wordT (k : Int) (s : ByteArray) (n : Int) : List UInt8 :=
  if k = 1 then [73, 110, 116] else if k = 2 then [66, 111, 111, 108] else if k = 3 then [84, 101, 120, 116] else if k = 4 then [85, 110, 105, 116]
  else if k = 5 then [65, 114, 114, 97, 121] else if k = 11 then [87, 101, 97, 107] else if k = 6 then s.data.toList else if k = 7 then 36 :: s.data.toList
  else if k = 9 then [97, 110, 121, 32] ++ s.data.toList else 63 :: Lib.decDigits n.toNat
mutual
/-- The text of a tree. -/
def txtT : Ty → List UInt8
  | .node k s n l =>
    if k = 8 then txtSep true l ++ (46 :: s.data.toList)
    else if k = 10 then 40 :: txtFn true l
    else wordT k s n ++ if l.isEmpty then [] else 60 :: (txtSep true l ++ [62])
/-- Texts with commas between them. -/
def txtSep (first : Bool) : List Ty → List UInt8
  | [] => []
  | t :: l => (if first then [] else [44, 32]) ++ (txtT t ++ txtSep false l)
/-- The parts of a function's text behind the first sign. -/
def txtFn (first : Bool) : List Ty → List UInt8
  | [] => []
  | t :: l => if l.isEmpty then [41, 32, 45, 62, 32] ++ txtT t else (if first then [] else [44, 32]) ++ (txtT t ++ txtFn false l)
end
theorem txtFn_eq : ∀ (l : List Ty) (t : Ty) (first : Bool), txtFn first (l ++ [t]) = txtSep first l ++ ([41, 32, 45, 62, 32] ++ txtT t)
  | [], t, first => by simp [txtFn, txtSep]
  | u :: l, t, first => by
    simp only [List.cons_append, txtFn, txtSep]
    rw [if_neg (by simp), txtFn_eq l t false]
    simp
end Go.Proofs.YtokmaehefenpmaaDoor
