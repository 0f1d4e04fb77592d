/- Names and substitutions taken out of a row's input. -/
import Derived.Test.YtokmaehefenpmaaDoorR0
import Derived.Test.YtokmaehefenpmaaDoorN4
import Derived.SliceStrings
namespace Go.Proofs.YtokmaehefenpmaaDoor
open Go.ChangeShapes Go.WideShapes Go.ChangeAt Go.RowKit
theorem cells9c : Tryd.prog.cellsOf 9 = 1 := by kernel_rfl
theorem cells25c : Tryd.prog.cellsOf 25 = 1 := by kernel_rfl
theorem cells22c : Tryd.prog.cellsOf 22 = 1 := by kernel_rfl
theorem cells27c : Tryd.prog.cellsOf 27 = 2 := by kernel_rfl
theorem u27 : Tryd.prog.underlying 27 = some (.struct (Tryd.prog.fieldsOf 27)) := by kernel_rfl
theorem fl27 : (Tryd.prog.fieldsOf 27).toList.map (fun f => (f.type, f.offset)) = [(25, 0), (22, 1)] := by kernel_rfl
theorem two_fields {fs : Array Field} {a b : Nat × Nat} (h : fs.toList.map (fun f => (f.type, f.offset)) = [a, b]) : ∃ f0 f1, fs = #[f0, f1] ∧ (f0.type, f0.offset) = a ∧ (f1.type, f1.offset) = b := by
  obtain ⟨l⟩ := fs
  match l, h with
  | [f0, f1], h => simp at h; exact ⟨f0, f1, rfl, by simp [h.1], by simp [h.2]⟩
section
variable {H : Type} {enc : TypeId × Value → H} {w : World} {sp : Nat → Bool} {held : Bool} {r : Reach} {b0 base : Nat} {v : Value} {d : DataW H} {p : List MemPlace}
theorem names_of {fuel : Nat} {cs : List Value} {x : DataW H × List MemPlace} (hf : DataW.trod enc Tryd.prog w base sp held fuel 25 cs = some x) :
    ∃ A l c ns, cs = [.slice A l c] ∧ TxAt w ns A l c ∧ ∀ s, s ∈ ns → s.size ≤ maxLen := by
  rcases open_strings u25 u9 cells9c hf with ⟨rfl, -⟩ | ⟨a, len, cap, ss, rfl, hb, hl, hm, hlen, -, hel, hsz⟩
  · exact ⟨none, 0, 0, [], rfl, ⟨rfl, Nat.le_refl _, Nat.zero_le _, fun i s h => by simp at h⟩, fun s h => by simp at h⟩
  · have hll : len ≤ ss.length := by rw [hlen]; split <;> omega
    refine ⟨some a, len, cap, ss.take len, rfl, ⟨by simp; omega, hl, hm, fun i s hi => ?_⟩, fun s hs => hsz s (List.mem_of_mem_take hs)⟩
    have hi2 := (List.getElem?_eq_some_iff.1 hi).1
    simp at hi2
    have hc := hel i (by omega)
    rw [List.getElem?_take_of_lt (by omega)] at hi
    rw [List.getD_eq_getElem?_getD, hi] at hc
    have z0 := hel 0 (by omega)
    have hs : a.spot = none := by
      unfold World.cell? at z0
      simp [Addr.add] at z0
      split at z0
      · split at z0
        · cases z0
        · rename_i h; simpa using h
      · cases z0
    obtain ⟨b, off, s'⟩ := a
    simp at hs
    subst hs
    exact ⟨b, off, rfl, by simpa [Addr.add_mid] using hc⟩
set_option maxRecDepth 100000 in
theorem open_names (hv : Value.okWide Tryd.prog w r b0 25 v) (h : DataW.Trod enc Tryd.prog w base sp held 25 v d p) : ∃ A l c ns, v = .slice A l c ∧ TxAt w ns A l c ∧ ∀ s, s ∈ ns → s.size ≤ maxLen := by
  obtain ⟨A, l, c, rfl⟩ := okWide_slice u25 hv
  obtain ⟨fuel, hf⟩ := h
  obtain ⟨A', l', c', ns, hcs, h1⟩ := names_of hf
  simp [Value.cells] at hcs
  obtain ⟨rfl, rfl, rfl⟩ := hcs
  exact ⟨_, _, _, ns, rfl, h1⟩
set_option maxRecDepth 100000 in
theorem open_sub (hv : Value.okWide Tryd.prog w r b0 27 v) (h : DataW.Trod enc Tryd.prog w base sp held 27 v d p) : ∃ A l c ns B m e ts, v = .agg (cell2 A l c B m e) ∧ (TxAt w ns A l c ∧ ∀ s, s ∈ ns → s.size ≤ maxLen) ∧ TysAt w (fun b => base ≤ b) ts B m e := by
  obtain ⟨f0, f1, hfs, e0, e1⟩ := two_fields fl27
  simp only [Prod.mk.injEq] at e0 e1
  have hu := u27
  rw [hfs] at hu
  obtain ⟨cs, rfl, _⟩ := okWide_struct hu hv
  obtain ⟨fuel, hf⟩ := h
  obtain ⟨xs, k, rfl, _, hxl, hxs, hff⟩ := DataW.trod_struct hu hf
  rw [cells27c] at hxl
  obtain ⟨cl⟩ := cs
  simp only [Value.cells] at hxl hff
  match cl, hxl with
  | [v0, v1], _ =>
    match xs, hxs with
    | [y0, y1], _ =>
      have g0 := hff 0 f0 rfl
      have g1 := hff 1 f1 rfl
      simp [e0, e1, cells25c, cells22c] at g0 g1
      obtain ⟨A, l, c, ns, q0, h0⟩ := names_of g0
      obtain ⟨B, m, e, args, rows, q1, h1, h2, h3, h4, h5⟩ := open_args tyNums g1 (fun m _ => open_tree tyNums m)
      simp at q0 q1
      subst q0 q1
      exact ⟨A, l, c, ns, B, m, e, args, rfl, h0, h1, h2, h3, rows, h4, h5⟩
end
end Go.Proofs.YtokmaehefenpmaaDoor
