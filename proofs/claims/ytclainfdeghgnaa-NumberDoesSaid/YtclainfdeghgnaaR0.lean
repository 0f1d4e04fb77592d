/- What the rows of this seat share: arguments taken out of a row as values. -/
import Derived.Test.YtclainfdeghgnaaRows
import Derived.ProofKit
import Derived.Lib.SmallJoins
import Derived.Deep.Strs
import Derived.Carry
import Derived.IntWalk
namespace Go.Proofs.Ytclainfdeghgnaa
open Go.ChangeShapes Go.WideShapes Go.ChangeAt Go.RowKit
open Go.ChangeMaps (open_string shut_string)

theorem own0 : ownKnob Try.prog.godebug = none := by kernel_rfl
theorem row_u9 : Try.prog.underlying 9 = some .string := by kernel_rfl
theorem row_u3 : Try.prog.underlying 3 = some (.int .i64) := by kernel_rfl
theorem row_u4 : Try.prog.underlying 4 = some .bool := by kernel_rfl
theorem flds40 : (Try.prog.fieldsOf 40).toList.map (fun f => (f.type, f.offset)) = [(9, 0), (25, 1)] := by kernel_rfl
theorem flds25 : (Try.prog.fieldsOf 25).toList.map (fun f => (f.type, f.offset)) = [(3, 0), (4, 1), (9, 2)] := by kernel_rfl
theorem u40 : Try.prog.underlying 40 = some (.struct (Try.prog.fieldsOf 40)) := by kernel_rfl
theorem cells40 : Try.prog.cellsOf 40 = 4 := by kernel_rfl
theorem cells25 : Try.prog.cellsOf 25 = 3 := by kernel_rfl
theorem cells9 : Try.prog.cellsOf 9 = 1 := by kernel_rfl
theorem cells3 : Try.prog.cellsOf 3 = 1 := by kernel_rfl
theorem cells4 : Try.prog.cellsOf 4 = 1 := by kernel_rfl
theorem fields2 {fs : Array Field} {a b : Nat × Nat} (h : fs.toList.map (fun f => (f.type, f.offset)) = [a, b]) : ∃ f0 f1, fs = #[f0, f1] ∧ (f0.type, f0.offset) = a ∧ (f1.type, f1.offset) = b := by
  obtain ⟨l⟩ := fs
  match l, h with
  | [f0, f1], h => simp at h; exact ⟨f0, f1, rfl, by simp [h.1], by simp [h.2]⟩
theorem fields3 {fs : Array Field} {a b c : Nat × Nat} (h : fs.toList.map (fun f => (f.type, f.offset)) = [a, b, c]) : ∃ f0 f1 f2, fs = #[f0, f1, f2] ∧ (f0.type, f0.offset) = a ∧ (f1.type, f1.offset) = b ∧ (f2.type, f2.offset) = c := by
  obtain ⟨l⟩ := fs
  match l, h with
  | [f0, f1, f2], h => simp at h; exact ⟨f0, f1, f2, rfl, by simp [h.1], by simp [h.2.1], by simp [h.2.2]⟩
theorem u25r : Try.prog.underlying 25 = some (.struct (Try.prog.fieldsOf 25)) := by kernel_rfl
theorem laidOut0 : laidOutB Try.prog = true := by kernel_rfl
set_option maxRecDepth 100000 in
theorem open_third {H : Type} {enc : TypeId × Value → H} {w : World} {base b0 : Nat} {sp : Nat → Bool} {held : Bool} {r : Reach} {v : Value} {d : DataW H} {p : List MemPlace} (hv : Value.okWide Try.prog w r b0 40 v) (h : DataW.Trod enc Try.prog w base sp held 40 v d p) :
    ∃ (c : ByteArray) (b : Int) (s : Bool) (m : ByteArray), v = .agg #[.string c, .int .i64 b, .bool s, .string m] := by
  obtain ⟨cs, rfl, hsz⟩ := okWide_struct u40 hv
  obtain ⟨c0, c1, c2, c3, rfl⟩ := Joins.array4 (hsz.trans cells40)
  obtain ⟨fuel, hf⟩ := h
  obtain ⟨f0, f1, hfs, e0, e1⟩ := fields2 flds40
  obtain ⟨g0, g1, g2, hgs, k0, k1, k2⟩ := fields3 flds25
  simp only [Prod.mk.injEq] at e0 e1 k0 k1 k2
  have hu := u40
  rw [hfs] at hu
  obtain ⟨y0, y1, n, hx, _, h0, h1⟩ := trod_struct2 hu hf
  rw [e0.1, e0.2, cells9] at h0
  rw [e1.1, e1.2, cells25] at h1
  obtain ⟨c, hc, _⟩ := DataW.trod_string row_u9 h0
  have hg := u25r
  rw [hgs] at hg
  obtain ⟨z0, z1, z2, n', _, _, q0, q1, q2⟩ := Deep.trod_struct3 hg h1
  rw [k0.1, k0.2, cells3] at q0
  rw [k1.1, k1.2, cells4] at q1
  rw [k2.1, k2.2, cells9] at q2
  obtain ⟨b, hb, _⟩ := DataW.trod_int row_u3 q0
  obtain ⟨s, hs, _⟩ := DataW.trod_bool row_u4 q1
  obtain ⟨m, hm, _⟩ := DataW.trod_string row_u9 q2
  simp [Value.cells] at hc hb hs hm
  subst hc hb hs hm
  exact ⟨_, _, _, _, rfl⟩


section
variable {H : Type} {enc : TypeId × Value → H} {w : World} {base b0 : Nat} {sp : Nat → Bool} {held : Bool} {r : Reach} {v : Value} {d : DataW H} {p : List MemPlace}
theorem i64_wf {n : Int} (h : (Lit.int .i64 n).wf = true) : -9223372036854775808 ≤ n ∧ n ≤ 9223372036854775807 := by
  simp [Lit.wf, IntKind.min, IntKind.max, IntKind.signed, IntKind.bits] at h
  exact h
set_option maxRecDepth 100000 in
theorem open_str (hv : Value.okWide Try.prog w r b0 9 v) (h : DataW.Trod enc Try.prog w base sp held 9 v d p) : ∃ a : ByteArray, v = .string a ∧ a.size ≤ maxLen := by
  obtain ⟨a, rfl, _, _, wa⟩ := open_string row_u9 hv h
  exact ⟨a, rfl, wa⟩
end
end Go.Proofs.Ytclainfdeghgnaa
