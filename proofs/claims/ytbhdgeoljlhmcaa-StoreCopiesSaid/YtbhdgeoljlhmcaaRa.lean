/- Arguments that are a pair of bytes, opened. -/
import Derived.Test.YtbhdgeoljlhmcaaR0
namespace Go.Proofs.Ytbhdgeoljlhmcaa
open Go.ChangeShapes Go.WideShapes Go.ChangeAt Go.RowKit
section
variable {H : Type} {enc : TypeId × Value → H} {w : World} {base b0 : Nat} {sp : Nat → Bool} {held : Bool} {r : Reach} {v : Value} {d : DataW H} {p : List MemPlace}
theorem row_u45 : Try.prog.underlying 45 = some (.array 2 5) := by kernel_rfl
theorem row_u5 : Try.prog.underlying 5 = some (.int .u8) := by kernel_rfl
theorem cells5 : Try.prog.cellsOf 5 = 1 := by kernel_rfl
theorem cells45 : Try.prog.cellsOf 45 = 2 := by kernel_rfl
theorem bounds_u8 {n : Int} (h : (Lit.int .u8 n).wf = true) : 0 ≤ n ∧ n < 256 := by
  simp [Lit.wf, IntKind.min, IntKind.max, IntKind.signed, IntKind.bits] at h
  omega
set_option maxRecDepth 100000 in
theorem open_two8 (hv : Value.okWide Try.prog w r b0 45 v) (h : DataW.Trod enc Try.prog w base sp held 45 v d p) :
    ∃ a b : Nat, v = .agg #[.int .u8 (a : Int), .int .u8 (b : Int)] ∧ a < 256 ∧ b < 256 := by
  simp only [Value.okWide, row_u45] at hv
  obtain ⟨cs, rfl, _⟩ := hv
  obtain ⟨fuel, hf⟩ := h
  obtain ⟨xs, m, hm, hx, hcl, hxl, hall⟩ := DataW.trod_array row_u45 hf
  simp only [Value.cells, cells45] at hcl
  simp only [Value.cells, cells5] at hall
  obtain ⟨L, hL⟩ : ∃ L, L = cs.toList := ⟨_, rfl⟩
  rw [← hL] at hcl hall
  match L, hcl with
  | [v0, v1], _ =>
    match xs, hxl with
    | [y0, y1], _ =>
      have g0 := hall 0 (by omega)
      have g1 := hall 1 (by omega)
      simp at g0 g1
      obtain ⟨n0, q0, _, b0⟩ := DataW.trod_int row_u5 g0
      obtain ⟨n1, q1, _, b1⟩ := DataW.trod_int row_u5 g1
      simp at q0 q1
      subst q0 q1
      have z0 := bounds_u8 b0
      have z1 := bounds_u8 b1
      refine ⟨n0.toNat, n1.toNat, ?_, by omega, by omega⟩
      rw [show ((n0.toNat : Nat) : Int) = n0 by omega, show ((n1.toNat : Nat) : Int) = n1 by omega]
      congr 1
      apply Array.toList_inj.1
      rw [← hL]
end
end Go.Proofs.Ytbhdgeoljlhmcaa
