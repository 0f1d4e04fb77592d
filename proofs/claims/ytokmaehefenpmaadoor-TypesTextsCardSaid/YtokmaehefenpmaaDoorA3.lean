/- Steps of drawn regions that make trees. -/
import Derived.Test.YtokmaehefenpmaaDoorA2
namespace Go.Proofs.YtokmaehefenpmaaDoor
open Go.RowKit Go.Proofs.YtokmaehefenpmaaDoor.Nm
set_option linter.unusedSimpArgs false
section
variable {md : Region.Mode} {ops : Array Oper} {Q : Exit → Act → World → Prop} {S : World → Prop} {fuel : Nat} {listed : Array Bool} {a : Act} {w : World} {i : Nat} {oi : Oper}
theorem sh_do {P : Program} {v : Value} {w2 : World} (ho : ops[i]? = some oi) (hg : Region.wanted oi (yielded ops a.tmps) = true) (hx : (execOp a.eval oi).run P w = .ok (.value v) w2) (hS : S w2)
    (h : wpAnyH P md ops Q S fuel (listed.setIfInBounds i true) (a.put oi.dst v) w2) : StepH P md ops Q S fuel listed a w i := by
  unfold StepH wpOp
  simp only [ho]
  rw [if_pos hg]
  refine .inl ?_
  unfold Oper.wp
  rw [hx]
  exact ⟨hS, h⟩
theorem ha_bs (hr : Region.ready md ops listed = [i]) (ho : ops[i]? = some oi) (hg : Region.wanted oi (yielded ops a.tmps) = true) (x : Operand) (hop : oi.op = .buildSlice 22 1 #[(0, x)]) {k : Int} {s : ByteArray} {n : Int} {A : Option Addr} {l c : Nat} (hx : a.eval x = .agg (cell4 k s n A l c))
    (hS : ∀ W, Below w.heap.size w W → S W)
    (h : ∀ W p, Below w.heap.size w W → w.heap.size ≤ p → W.heap[p]? = some (.cells (cell4 k s n A l c) 24 (0, 0)) → S W → wpAnyH Tryd.prog md ops Q S fuel (listed.setIfInBounds i true) (a.put oi.dst (.slice (some ⟨p, 0, none⟩) 1 1)) W) : wpAnyH Tryd.prog md ops Q S (fuel + 1) listed a w :=
  have hb := (Below.refl _ w).alloc (Nat.le_refl _) (.cells (cell4 k s n A l c) 24)
  ha_do hr ho hg (ex_bs22 x hop hx) (hS _ hb) (h _ _ hb (Nat.le_refl _) (ha_new rfl) (hS _ hb))
theorem sh_bs (ho : ops[i]? = some oi) (hg : Region.wanted oi (yielded ops a.tmps) = true) (x : Operand) (hop : oi.op = .buildSlice 22 1 #[(0, x)]) {k : Int} {s : ByteArray} {n : Int} {A : Option Addr} {l c : Nat} (hx : a.eval x = .agg (cell4 k s n A l c))
    (hS : ∀ W, Below w.heap.size w W → S W)
    (h : ∀ W p, Below w.heap.size w W → w.heap.size ≤ p → W.heap[p]? = some (.cells (cell4 k s n A l c) 24 (0, 0)) → S W → wpAnyH Tryd.prog md ops Q S fuel (listed.setIfInBounds i true) (a.put oi.dst (.slice (some ⟨p, 0, none⟩) 1 1)) W) : StepH Tryd.prog md ops Q S fuel listed a w i :=
  have hb := (Below.refl _ w).alloc (Nat.le_refl _) (.cells (cell4 k s n A l c) 24)
  sh_do ho hg (ex_bs22 x hop hx) (hS _ hb) (h _ _ hb (Nat.le_refl _) (ha_new rfl) (hS _ hb))
theorem ha_put3 (hr : Region.ready md ops listed = [i]) (ho : ops[i]? = some oi) (hg : Region.wanted oi (yielded ops a.tmps) = true) (x y : Operand) (hop : oi.op = .store 22 x y) {k : Int} {s : ByteArray} {n : Int} {A : Option Addr} {l c : Nat} {p : Nat} {A' : Option Addr} {l' c' : Nat} (hx : a.eval x = .pointer (some ⟨p, 3, none⟩)) (hy : a.eval y = .slice A' l' c') (hp : w.heap[p]? = some (.cells (cell4 k s n A l c) 24 (0, 0)))
    (hS : ∀ W, (∀ B w0, B ≤ p → Below B w0 w → Below B w0 W) → S W)
    (h : ∀ W, (∀ B w0, B ≤ p → Below B w0 w → Below B w0 W) → W.heap.size = w.heap.size → (∀ g, g ≠ p → W.heap[g]? = w.heap[g]?) → W.heap[p]? = some (.cells (cell4 k s n A' l' c') 24 (0, 0)) → S W → wpAnyH Tryd.prog md ops Q S fuel (listed.setIfInBounds i true) (a.put oi.dst undef) W) : wpAnyH Tryd.prog md ops Q S (fuel + 1) listed a w := by
  have hb : ∀ B w0, B ≤ p → Below B w0 w → Below B w0 (w.setCell ⟨p, 3, none⟩ (.slice A' l' c')) := fun B w0 hB hb => hb.setCell hB _
  refine ha_storeC hr ho hg 22 x y hop p 3 _ hx hy info22 rfl (by rw [cell_of_row _ _ _ _ _ _ hp]; rfl) (by unfold World.frozen?; rw [hp]; rfl) (hS _ hb) fun hS => h _ hb (by simp [World.setCell]) (fun g hg => heap_setCell_other _ _ _ _ hg) (by rw [hs_new hp]; rfl) hS
theorem ha_put (hr : Region.ready md ops listed = [i]) (ho : ops[i]? = some oi) (hg : Region.wanted oi (yielded ops a.tmps) = true) (x y : Operand) (hop : oi.op = .store 24 x y) {k : Int} {s : ByteArray} {n : Int} {A : Option Addr} {l c : Nat} {p : Nat} {k' : Int} {s' : ByteArray} {n' : Int} {A' : Option Addr} {l' c' : Nat} (hx : a.eval x = .pointer (some ⟨p, 0, none⟩)) (hy : a.eval y = .agg (cell4 k s n A l c)) (hp : w.heap[p]? = some (.cells (cell4 k' s' n' A' l' c') 24 (0, 0)))
    (hS : ∀ W, (∀ B w0, B ≤ p → Below B w0 w → Below B w0 W) → S W)
    (h : ∀ W, (∀ B w0, B ≤ p → Below B w0 w → Below B w0 W) → W.heap.size = w.heap.size → (∀ g, g ≠ p → W.heap[g]? = w.heap[g]?) → W.heap[p]? = some (.cells (cell4 k s n A l c) 24 (0, 0)) → S W → wpAnyH Tryd.prog md ops Q S fuel (listed.setIfInBounds i true) (a.put oi.dst undef) W) : wpAnyH Tryd.prog md ops Q S (fuel + 1) listed a w := by
  have hb : ∀ B w0, B ≤ p → Below B w0 w → Below B w0 (w.setRow p (cell4 k s n A l c)) := fun B w0 hB hb => below_setRow hb hB _
  exact ha_store hr ho hg 24 x y hop p (cell4 k s n A l c) hx hy 24 _ hp info24 rfl (cell4_one _ _ _ _ _ _) (hS _ hb) fun hS => h _ hb (by simp) (fun g hg => setRow_other w p g _ hg) (hr_new hp) hS
end
end Go.Proofs.YtokmaehefenpmaaDoor
