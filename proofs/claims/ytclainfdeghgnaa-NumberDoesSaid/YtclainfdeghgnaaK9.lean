/- A region that draws its order, walked in the order of the text: what reads is taken first; calls may make memory and hand back whatever their contracts say; one block may be stored to. -/
import Derived.Test.YtclainfdeghgnaaK6
import Derived.Deep.RegionHeld
namespace Go.Proofs.Ytclainfdeghgnaa.Nm
open Go.RowKit

/-- Every block of W but those of D is as it was. -/
def Kept (D : List Nat) (W w' : World) : Prop := W.heap.size ≤ w'.heap.size ∧ ∀ k, k < W.heap.size → k ∉ D → w'.heap[k]? = W.heap[k]?
theorem Kept.drew (D : List Nat) (W : World) : Kept D W W.drew := ⟨Nat.le_refl _, fun _ _ _ => rfl⟩
theorem Kept.below {D : List Nat} {W w w' : World} (h : Kept D W w) (hb : Below w.heap.size w w') : Kept D W w' :=
  ⟨Nat.le_trans h.1 hb.size, fun k hk hp => by rw [hb.block k (by have := h.1; omega)]; exact h.2 k hk hp⟩
theorem Kept.setRow {D : List Nat} {p : Nat} {W w : World} (h : Kept D W w) (hm : p ∈ D) (cs : Array Value) : Kept D W (w.setRow p cs) :=
  ⟨by simpa using h.1, fun k hk hp => by rw [setRow_other w p k cs (fun e => hp (e ▸ hm))]; exact h.2 k hk hp⟩
theorem Kept.setCell {D : List Nat} {p : Nat} {W w : World} (h : Kept D W w) (hm : p ∈ D) (i : Nat) (v : Value) : Kept D W (w.setCell ⟨p, i, none⟩ v) :=
  ⟨by simpa using h.1, fun k hk hp => by rw [heap_setCell_other _ _ _ _ (fun e => hp (by simp at e; exact e ▸ hm))]; exact h.2 k hk hp⟩
theorem Kept.look {D : List Nat} {W w' : World} (h : Kept D W w') {g : Nat} {o : Obj} (ho : W.heap[g]? = some o) (hp : g ∉ D) : w'.heap[g]? = some o := by rw [h.2 g (heap_lt ho) hp]; exact ho
theorem Kept.cell {D : List Nat} {W w' : World} (h : Kept D W w') {g i : Nat} {v : Value} (hc : W.cell? ⟨g, i, none⟩ = some v) (hp : g ∉ D) : w'.cell? ⟨g, i, none⟩ = some v := by
  have hg : g < W.heap.size := block_lt_of_cell hc
  rw [← hc]
  exact World.cell?_of_block (h.2 g hg hp)

section
variable {P : Program} {ops : Array Oper} {Q : Exit → Act → World → Prop} {md : Region.Mode} {S : World → Prop} {i : Nat} {oi : Oper} {fuel : Nat} {listed : Array Bool} {a : Act} {w : World}

/-- An operation that yields one value in every world of the class. -/
theorem ha_val {v : Value} (hi : ops[i]? = some oi) (hs : Region.noSelect ops = true) (hf : Region.free md ops listed i = true) (hr : (Region.ready md ops listed).contains i = true)
    (hQ : ∀ c a w, Q (.panic c) (a.put oi.dst v) w → Q (.panic c) a w) (hS : S w) (hg : Region.wanted oi (yielded ops a.tmps) = true) (hv : ∀ w, S w → (execOp a.eval oi).run P w = .ok (.value v) w)
    (h : wpAnyH P md ops Q S fuel (listed.setIfInBounds i true) (a.put oi.dst v) w) : wpAnyH P md ops Q S (fuel + 1) listed a w :=
  wpAnyH_take hi hs hf hr hQ (.inl ⟨hg, hv⟩) hS h
/-- An operation that only reckons. -/
theorem ha_k (hi : ops[i]? = some oi) (hs : Region.noSelect ops = true) (hf : Region.free md ops listed i = true) (hr : (Region.ready md ops listed).contains i = true)
    (hQ : ∀ v c a w, Q (.panic c) (a.put oi.dst v) w → Q (.panic c) a w) (hS : S w) (hg : Region.wanted oi (yielded ops a.tmps) = true)
    (h : ∀ K : Act → Prop, (∀ a', wpAnyH P md ops Q S fuel (listed.setIfInBounds i true) a' w → K a') → ∃ v, (∀ w, (execOp a.eval oi).run P w = .ok (.value v) w) ∧ K (a.put oi.dst v)) : wpAnyH P md ops Q S (fuel + 1) listed a w := by
  obtain ⟨v, hv, hk⟩ := h _ (fun _ h => h)
  exact wpAnyH_take hi hs hf hr (hQ v) (.inl ⟨hg, fun w _ => hv w⟩) hS hk
/-- A guarded operation, left out. -/
theorem ha_skip (hi : ops[i]? = some oi) (hs : Region.noSelect ops = true) (hf : Region.free md ops listed i = true) (hr : (Region.ready md ops listed).contains i = true)
    (hQ : ∀ c a w, Q (.panic c) (a.put oi.dst undef) w → Q (.panic c) a w) (hS : S w) (hg : Region.wanted oi (yielded ops a.tmps) = false)
    (h : wpAnyH P md ops Q S fuel (listed.setIfInBounds i true) (a.put oi.dst undef) w) : wpAnyH P md ops Q S (fuel + 1) listed a w :=
  wpAnyH_take hi hs hf hr hQ (.inr ⟨hg, rfl⟩) hS h
/-- A call: whatever its contract says of the result. -/
theorem ha_call (hr : Region.ready md ops listed = [i]) (ho : ops[i]? = some oi) (hg : Region.wanted oi (yielded ops a.tmps) = true)
    (h : ∀ K : FuncId → Array Value → Prop, (∀ f args, (∃ F, Calls P f args w F ∧ ∀ e w', F e w' → ∃ v, e = .returned v ∧ S w' ∧ wpAnyH P md ops Q S fuel (listed.setIfInBounds i true) (a.put oi.dst v) w') → K f args) → ∃ f args, (∀ w, (execOp a.eval oi).run P w = .ok (.enter f args) w) ∧ K f args) :
    wpAnyH P md ops Q S (fuel + 1) listed a w := by
  obtain ⟨f, args, hv, F, hc, hk⟩ := h _ (fun _ _ h => h)
  refine wpAnyH_ready (rs := [i]) hr (by simp) (AllReadyH.cons ho (fun K hK => ?_) AllReadyH.nil)
  rw [if_pos hg]
  unfold Oper.wp
  rw [hv w]
  simp only [Oper.upon]
  refine hc.mono fun e w' hF => ?_
  obtain ⟨v, rfl, hSv, hw⟩ := hk e w' hF
  exact hK.out _ _ hSv (fun _ => hw)
/-- An operation that is carried out now, with what it does to the world. -/
theorem ha_do {v : Value} {w2 : World} (hr : Region.ready md ops listed = [i]) (ho : ops[i]? = some oi) (hg : Region.wanted oi (yielded ops a.tmps) = true) (hx : (execOp a.eval oi).run P w = .ok (.value v) w2) (hS : S w2)
    (h : wpAnyH P md ops Q S fuel (listed.setIfInBounds i true) (a.put oi.dst v) w2) : wpAnyH P md ops Q S (fuel + 1) listed a w := by
  refine wpAnyH_ready (rs := [i]) hr (by simp) (AllReadyH.cons ho (fun K hK => ?_) AllReadyH.nil)
  rw [if_pos hg]
  unfold Oper.wp
  rw [hx]
  exact hK.out _ _ hS (fun _ => h)
/-- A struct stored over a block that is known. -/
theorem ha_store (hr : Region.ready md ops listed = [i]) (ho : ops[i]? = some oi) (hg : Region.wanted oi (yielded ops a.tmps) = true) (ty : TypeId) (x y : Operand) (hop : oi.op = .store ty x y) (g : Nat) (cells : Array Value) (hx : a.eval x = .pointer (some ⟨g, 0, none⟩)) (hy : a.eval y = .agg cells)
    (t : TypeId) (old : Array Value) (hb : w.heap[g]? = some (.cells old t (0, 0))) (hin : (P.info? ty).map (·.size) = some cells.size) (hold : old.size = cells.size) (h1 : cells.all (·.oneCell') = true) (hS : S (w.setRow g cells))
    (h : S (w.setRow g cells) → wpAnyH P md ops Q S fuel (listed.setIfInBounds i true) (a.put oi.dst undef) (w.setRow g cells)) : wpAnyH P md ops Q S (fuel + 1) listed a w := by
  refine wpAnyH_ready (rs := [i]) hr (by simp) (AllReadyH.cons ho (fun K hK => ?_) AllReadyH.nil)
  rw [if_pos hg]
  exact wp_store_row ty x y hop g cells hx hy t old hb hin hold h1 (hK.out _ _ hS h)
/-- One operation carried out now. -/
def StepH (P : Program) (md : Region.Mode) (ops : Array Oper) (Q : Exit → Act → World → Prop) (S : World → Prop) (fuel : Nat) (listed : Array Bool) (a : Act) (w : World) (i : Nat) : Prop :=
  wpOp P ops Q i (fun a' w' => S w' ∧ wpAnyH P md ops Q S fuel (listed.setIfInBounds i true) a' w') a w
/-- Two operations may come up. -/
theorem ha_two {j : Nat} (hr : Region.ready md ops listed = [i, j]) (hi : StepH P md ops Q S fuel listed a w i) (hj : StepH P md ops Q S fuel listed a w j) : wpAnyH P md ops Q S (fuel + 1) listed a w :=
  wpAnyH_all hr (by simp) fun k hk => by
    rcases List.mem_cons.1 hk with rfl | hk
    · exact hi
    · rcases List.mem_cons.1 hk with rfl | hk
      · exact hj
      · cases hk
theorem sh_val {v : Value} (ho : ops[i]? = some oi) (hg : Region.wanted oi (yielded ops a.tmps) = true) (hv : (execOp a.eval oi).run P w = .ok (.value v) w) (hS : S w) (h : wpAnyH P md ops Q S fuel (listed.setIfInBounds i true) (a.put oi.dst v) w) : StepH P md ops Q S fuel listed a w i := by
  unfold StepH wpOp
  simp only [ho]
  rw [if_pos hg]
  refine .inl ?_
  unfold Oper.wp
  rw [hv]
  exact ⟨hS, h⟩
theorem sh_call (ho : ops[i]? = some oi) (hg : Region.wanted oi (yielded ops a.tmps) = true)
    (h : ∀ K : FuncId → Array Value → Prop, (∀ f args, (∃ F, Calls P f args w F ∧ ∀ e w', F e w' → ∃ v, e = .returned v ∧ S w' ∧ wpAnyH P md ops Q S fuel (listed.setIfInBounds i true) (a.put oi.dst v) w') → K f args) → ∃ f args, (∀ w, (execOp a.eval oi).run P w = .ok (.enter f args) w) ∧ K f args) :
    StepH P md ops Q S fuel listed a w i := by
  obtain ⟨f, args, hv, F, hc, hk⟩ := h _ (fun _ _ h => h)
  unfold StepH wpOp
  simp only [ho]
  rw [if_pos hg]
  refine .inl ?_
  unfold Oper.wp
  rw [hv w]
  simp only [Oper.upon]
  refine hc.mono fun e w' hF => ?_
  obtain ⟨v, rfl, hSv, hw⟩ := hk e w' hF
  exact ⟨hSv, hw⟩
end
end Go.Proofs.Ytclainfdeghgnaa.Nm
