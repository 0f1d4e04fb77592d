/- What the rows of this seat share: more arguments taken out of a row as values. -/
import Derived.Test.YtclainfdeghgnaaR0
namespace Go.Proofs.Ytclainfdeghgnaa
open Go.ChangeShapes Go.WideShapes Go.ChangeAt Go.RowKit
theorem flds33 : (Try.prog.fieldsOf 33).toList.map (fun f => (f.type, f.offset)) = [(3, 0), (3, 1)] := by kernel_rfl
theorem u33r : Try.prog.underlying 33 = some (.struct (Try.prog.fieldsOf 33)) := by kernel_rfl
theorem cells33 : Try.prog.cellsOf 33 = 2 := by kernel_rfl
theorem flds35 : (Try.prog.fieldsOf 35).toList.map (fun f => (f.type, f.offset)) = [(3, 0), (9, 1)] := by kernel_rfl
theorem u35r : Try.prog.underlying 35 = some (.struct (Try.prog.fieldsOf 35)) := by kernel_rfl
theorem cells35 : Try.prog.cellsOf 35 = 2 := by kernel_rfl
theorem flds23 : (Try.prog.fieldsOf 23).toList.map (fun f => (f.type, f.offset)) = [(9, 0), (9, 1), (9, 2)] := by kernel_rfl
theorem u23r : Try.prog.underlying 23 = some (.struct (Try.prog.fieldsOf 23)) := by kernel_rfl
theorem cells23 : Try.prog.cellsOf 23 = 3 := by kernel_rfl
section
variable {H : Type} {enc : TypeId × Value → H} {w : World} {base b0 : Nat} {sp : Nat → Bool} {held : Bool} {r : Reach} {v : Value} {d : DataW H} {p : List MemPlace}
set_option maxRecDepth 100000 in
theorem open_i64 (hv : Value.okWide Try.prog w r b0 3 v) (h : DataW.Trod enc Try.prog w base sp held 3 v d p) : ∃ n : Int, v = .int .i64 n ∧ (-9223372036854775808 ≤ n ∧ n ≤ 9223372036854775807) := by
  obtain ⟨n, rfl, _, _, hw⟩ := open_int row_u3 hv h
  exact ⟨_, rfl, i64_wf hw⟩
set_option maxRecDepth 100000 in
theorem open_dec (hv : Value.okWide Try.prog w r b0 33 v) (h : DataW.Trod enc Try.prog w base sp held 33 v d p) :
    ∃ u k : Int, v = .agg #[.int .i64 u, .int .i64 k] ∧ (-9223372036854775808 ≤ u ∧ u ≤ 9223372036854775807) ∧ (-9223372036854775808 ≤ k ∧ k ≤ 9223372036854775807) := by
  obtain ⟨cs, rfl, hsz⟩ := okWide_struct u33r hv
  obtain ⟨c0, c1, rfl⟩ := Joins.array2 (hsz.trans cells33)
  obtain ⟨fuel, hf⟩ := h
  obtain ⟨f0, f1, hfs, e0, e1⟩ := fields2 flds33
  simp only [Prod.mk.injEq] at e0 e1
  have hu := u33r
  rw [hfs] at hu
  obtain ⟨y0, y1, n, hx, _, h0, h1⟩ := trod_struct2 hu hf
  rw [e0.1, e0.2, cells3] at h0
  rw [e1.1, e1.2, cells3] at h1
  obtain ⟨u, hu', _, wu⟩ := DataW.trod_int row_u3 h0
  obtain ⟨k, hk', _, wk⟩ := DataW.trod_int row_u3 h1
  simp [Value.cells] at hu' hk'
  subst hu' hk'
  exact ⟨_, _, rfl, i64_wf wu, i64_wf wk⟩
set_option maxRecDepth 100000 in
theorem open_to (hv : Value.okWide Try.prog w r b0 35 v) (h : DataW.Trod enc Try.prog w base sp held 35 v d p) :
    ∃ (k : Int) (m : ByteArray), v = .agg #[.int .i64 k, .string m] ∧ (-9223372036854775808 ≤ k ∧ k ≤ 9223372036854775807) := by
  obtain ⟨cs, rfl, hsz⟩ := okWide_struct u35r hv
  obtain ⟨c0, c1, rfl⟩ := Joins.array2 (hsz.trans cells35)
  obtain ⟨fuel, hf⟩ := h
  obtain ⟨f0, f1, hfs, e0, e1⟩ := fields2 flds35
  simp only [Prod.mk.injEq] at e0 e1
  have hu := u35r
  rw [hfs] at hu
  obtain ⟨y0, y1, n, hx, _, h0, h1⟩ := trod_struct2 hu hf
  rw [e0.1, e0.2, cells3] at h0
  rw [e1.1, e1.2, cells9] at h1
  obtain ⟨u, hu', _, wu⟩ := DataW.trod_int row_u3 h0
  obtain ⟨k, hk', _, _⟩ := DataW.trod_string row_u9 h1
  simp [Value.cells] at hu' hk'
  subst hu' hk'
  exact ⟨_, _, rfl, i64_wf wu⟩
set_option maxRecDepth 100000 in
theorem open_kind (hv : Value.okWide Try.prog w r b0 25 v) (h : DataW.Trod enc Try.prog w base sp held 25 v d p) :
    ∃ (b : Int) (s : Bool) (m : ByteArray), v = .agg #[.int .i64 b, .bool s, .string m] ∧ (-9223372036854775808 ≤ b ∧ b ≤ 9223372036854775807) := by
  obtain ⟨cs, rfl, hsz⟩ := okWide_struct u25r hv
  obtain ⟨c0, c1, c2, rfl⟩ := Joins.array3 (hsz.trans cells25)
  obtain ⟨fuel, hf⟩ := h
  obtain ⟨f0, f1, f2, hfs, e0, e1, e2⟩ := fields3 flds25
  simp only [Prod.mk.injEq] at e0 e1 e2
  have hu := u25r
  rw [hfs] at hu
  obtain ⟨y0, y1, y2, n, hx, _, h0, h1, h2⟩ := Deep.trod_struct3 hu hf
  rw [e0.1, e0.2, cells3] at h0
  rw [e1.1, e1.2, cells4] at h1
  rw [e2.1, e2.2, cells9] at h2
  obtain ⟨b, hb, _, wb⟩ := DataW.trod_int row_u3 h0
  obtain ⟨s, hs, _⟩ := DataW.trod_bool row_u4 h1
  obtain ⟨m, hm, _⟩ := DataW.trod_string row_u9 h2
  simp [Value.cells] at hb hs hm
  subst hb hs hm
  exact ⟨_, _, _, rfl, i64_wf wb⟩
set_option maxRecDepth 100000 in
theorem open_call (hv : Value.okWide Try.prog w r b0 23 v) (h : DataW.Trod enc Try.prog w base sp held 23 v d p) :
    ∃ (o a b : ByteArray), v = .agg #[.string o, .string a, .string b] := by
  obtain ⟨cs, rfl, hsz⟩ := okWide_struct u23r hv
  obtain ⟨c0, c1, c2, rfl⟩ := Joins.array3 (hsz.trans cells23)
  obtain ⟨fuel, hf⟩ := h
  obtain ⟨f0, f1, f2, hfs, e0, e1, e2⟩ := fields3 flds23
  simp only [Prod.mk.injEq] at e0 e1 e2
  have hu := u23r
  rw [hfs] at hu
  obtain ⟨y0, y1, y2, n, hx, _, h0, h1, h2⟩ := Deep.trod_struct3 hu hf
  rw [e0.1, e0.2, cells9] at h0
  rw [e1.1, e1.2, cells9] at h1
  rw [e2.1, e2.2, cells9] at h2
  obtain ⟨o, ho, _⟩ := DataW.trod_string row_u9 h0
  obtain ⟨a, ha, _⟩ := DataW.trod_string row_u9 h1
  obtain ⟨b, hb, _⟩ := DataW.trod_string row_u9 h2
  simp [Value.cells] at ho ha hb
  subst ho ha hb
  exact ⟨_, _, _, rfl⟩
end
end Go.Proofs.Ytclainfdeghgnaa
