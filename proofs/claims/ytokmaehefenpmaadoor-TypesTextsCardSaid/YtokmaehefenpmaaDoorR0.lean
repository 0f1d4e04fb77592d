/- What the rows of this seat share: trees taken out of a row's input; the condition on the tables. -/
import Derived.Test.YtokmaehefenpmaaDoorRows
import Derived.Test.YtokmaehefenpmaaDoorTie
import Derived.Test.YtokmaehefenpmaaDoorA2
import Derived.ProofKit
import Derived.LaidMore
import Derived.OpenShut
import Derived.Stop.Joined
import Derived.SevenTiedAt
namespace Go.Proofs.YtokmaehefenpmaaDoor
open Go.ChangeShapes Go.WideShapes Go.ChangeAt Go.RowKit
theorem own0 : ownKnob Tryd.prog.godebug = none := by kernel_rfl
theorem row_u4 : Tryd.prog.underlying 4 = some .bool := by kernel_rfl
theorem laidOut0 : laidOutB Tryd.prog = true := by kernel_rfl
def lay3 : List (String × DataW Unit) := [("math/bits.deBruijn32tab", Rows.laid_math_bits_deBruijn32tab), ("math/bits.deBruijn64tab", Rows.laid_math_bits_deBruijn64tab), ("internal/strconv.uint64pow10", Rows.laid_internal_strconv_uint64pow10)]
theorem lay3_met (os : Os) (args : Array Value) : laidMetH Tryd.prog lay3 ((World.doorLaid Tryd.prog 62 os).forCall (fun _ _ => 0) ⟨#[], args, []⟩).memory :=
  laidMetH_of_parts3 (fuel := 8) (laidMet_of_run' 8 (by kernel_rfl) (by kernel_rfl)) (by kernel_rfl) (by kernel_rfl)
section
variable {H : Type} {enc : TypeId × Value → H} {w : World} {sp : Nat → Bool} {held : Bool} {r : Reach} {b0 base : Nat} {v : Value} {d : DataW H} {p : List MemPlace}
set_option maxRecDepth 100000 in
theorem open_ty (hv : Value.okWide Tryd.prog w r b0 24 v) (h : DataW.Trod enc Tryd.prog w base sp held 24 v d p) : ∃ row t, v = .agg row ∧ TyAt w (fun b => base ≤ b) t row := by
  obtain ⟨cs, rfl, _⟩ := okWide_struct u24 hv
  obtain ⟨fuel, hf⟩ := h
  obtain ⟨t, ht⟩ := open_tree tyNums fuel _ _ hf
  exact ⟨cs, t, rfl, by simpa [Value.cells] using ht⟩
set_option maxRecDepth 100000 in
theorem open_tys (hv : Value.okWide Tryd.prog w r b0 22 v) (h : DataW.Trod enc Tryd.prog w base sp held 22 v d p) : ∃ A l c ts, v = .slice A l c ∧ TysAt w (fun b => base ≤ b) ts A l c := by
  obtain ⟨A, l, c, rfl⟩ := okWide_slice u22 hv
  obtain ⟨fuel, hf⟩ := h
  obtain ⟨A', l', c', args, rows, hcs, h1, h2, h3, h4, h5⟩ := open_args tyNums hf (fun m _ => open_tree tyNums m)
  simp [Value.cells] at hcs
  obtain ⟨rfl, rfl, rfl⟩ := hcs
  exact ⟨_, _, _, args, rfl, h1, h2, h3, rows, h4, h5⟩
end
end Go.Proofs.YtokmaehefenpmaaDoor
