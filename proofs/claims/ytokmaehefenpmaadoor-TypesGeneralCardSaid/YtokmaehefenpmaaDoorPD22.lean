/- Equations taken out of a row's input. -/
import Derived.Test.YtokmaehefenpmaaDoorPD1
import Derived.Test.YtokmaehefenpmaaDoorPD8
namespace Go.Proofs.YtokmaehefenpmaaDoor
open Go.ChangeShapes Go.WideShapes Go.ChangeAt Go.RowKit
theorem cells24 : Tryd.prog.cellsOf 24 = 4 := by kernel_rfl
theorem cells58 : Tryd.prog.cellsOf 58 = 8 := by kernel_rfl
section
variable {H : Type} {enc : TypeId × Value → H} {w : World} {sp : Nat → Bool} {held : Bool} {r : Reach} {b0 base : Nat} {v : Value} {d : DataW H} {p : List MemPlace}
set_option maxRecDepth 100000 in
theorem open_eqs2 (hv : Value.okWide Tryd.prog w r b0 53 v) (h : DataW.Trod enc Tryd.prog w base sp held 53 v d p) : ∃ A l c es, v = .slice A l c ∧ EqsAt w (fun b => base ≤ b) es A l c ∧ (A = none → es = [] ∧ c = 0) := by
  obtain ⟨A, l, c, rfl⟩ := okWide_slice u53 hv
  obtain ⟨fuel, hf⟩ := h
  rcases DataW.trod_slice u53 hf with ⟨hcs, _⟩ | ⟨a, len, cap, elems, rest, k, hk, hcs, _, hb, hl, hm, hle, hall, _, _⟩
  · simp [Value.cells] at hcs
    obtain ⟨rfl, rfl, rfl⟩ := hcs
    exact ⟨_, _, _, [], rfl, ⟨rfl, Nat.le_refl _, Nat.zero_le _, fun i a b hi => by simp at hi⟩, fun _ => ⟨rfl, rfl⟩⟩
  · simp [Value.cells] at hcs
    obtain ⟨rfl, rfl, rfl⟩ := hcs
    have hs : ∀ i, i < l → a.spot = none := fun i hi => by
      have k0 := hall 0 (by omega)
      rw [List.getElem?_eq_getElem (by omega), Option.bind_eq_some_iff] at k0
      obtain ⟨cs0, k1, _⟩ := k0
      rw [cells58] at k1
      obtain ⟨_, hlen0, hcell0⟩ := World.cells?_some k1
      have z0 := hcell0 0 (by omega)
      rw [List.getElem?_eq_getElem (show 0 < cs0.length by omega)] at z0
      unfold World.cell? at z0
      simp [Addr.add] at z0
      split at z0
      · split at z0
        · cases z0
        · rename_i h; simpa using h
      · cases z0
    have each : ∀ i, i < l → ∃ q : Ty × Ty, ∃ Cs t fr, w.heap[a.block]? = some (.cells Cs t fr) ∧ ∃ rowa rowb, Cs.extract (a.off + i * 8) (a.off + i * 8 + 4) = rowa ∧ Cs.extract (a.off + i * 8 + 4) (a.off + i * 8 + 8) = rowb ∧ TyAt w (fun b => base ≤ b) q.1 rowa ∧ TyAt w (fun b => base ≤ b) q.2 rowb := fun i hi => by
      have hi2 := hall i hi
      rw [List.getElem?_eq_getElem (by omega), Option.bind_eq_some_iff] at hi2
      obtain ⟨cs', h1, h2⟩ := hi2
      rw [cells58] at h1
      obtain ⟨_, hlen, hcell⟩ := World.cells?_some h1
      obtain ⟨xs, m, _, _, _, hxl, hxs⟩ := DataW.trod_array u58 h2
      rw [cells24] at hxs
      have g0 := hxs 0 (by omega)
      have g1 := hxs 1 (by omega)
      rw [List.getElem?_eq_getElem (by omega)] at g0 g1
      obtain ⟨t0, ht0⟩ := open_tree tyNums m _ _ g0
      obtain ⟨t1, ht1⟩ := open_tree tyNums m _ _ g1
      have hsp := hs i hi
      obtain ⟨Cs, t', fr, q1, q2⟩ := four_row (w := w) (a := a) (i := i * 2) (cs := (cs'.drop (0 * 4)).take 4) (by simp; omega) (fun j hj => by
        rw [show i * 2 * 4 + j = i * 8 + j by omega, ← Addr.add_add, hcell j (by omega), List.getElem?_take_of_lt hj, List.getElem?_drop]
        simp) hsp
      obtain ⟨Cs', t'', fr', q3, q4⟩ := four_row (w := w) (a := a) (i := i * 2 + 1) (cs := (cs'.drop (1 * 4)).take 4) (by simp; omega) (fun j hj => by
        rw [show (i * 2 + 1) * 4 + j = i * 8 + (4 + j) by omega, ← Addr.add_add, hcell (4 + j) (by omega), List.getElem?_take_of_lt hj, List.getElem?_drop]) hsp
      rw [q1] at q3
      cases q3
      refine ⟨(t0, t1), Cs, t', fr, q1, _, _, ?_, ?_, ht0, ht1⟩
      · rw [← q2]; congr 1 <;> omega
      · rw [← q4]; congr 1 <;> omega
    obtain ⟨es, hln, hall2⟩ := choose_list l each
    refine ⟨_, _, _, es, rfl, ⟨hln, hl, hm, fun i x y hi => ?_⟩, fun h => by cases h⟩
    obtain ⟨Cs, t, fr, q1, rowa, rowb, q2, q3, q4, q5⟩ := hall2 i _ hi
    have hil := (List.getElem?_eq_some_iff.1 hi).1
    have hsp := hs i (by omega)
    exact ⟨a.block, a.off, Cs, t, fr, rowa, rowb, by obtain ⟨b, off, s⟩ := a; simp at hsp; simp [hsp], hb, q1, q2, q3, q4, q5⟩
set_option maxRecDepth 100000 in
theorem open_eqs (hv : Value.okWide Tryd.prog w r b0 53 v) (h : DataW.Trod enc Tryd.prog w base sp held 53 v d p) : ∃ A l c es, v = .slice A l c ∧ EqsAt w (fun b => base ≤ b) es A l c := by
  obtain ⟨A, l, c, es, h1, h2, -⟩ := open_eqs2 hv h
  exact ⟨A, l, c, es, h1, h2⟩
end
end Go.Proofs.YtokmaehefenpmaaDoor
