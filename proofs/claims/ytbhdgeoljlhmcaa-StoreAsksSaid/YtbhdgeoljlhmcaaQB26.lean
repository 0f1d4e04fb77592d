/- The document's store beside the program's. -/
import Derived.Outline
import Derived.Test.YtbhdgeoljlhmcaaQB25
namespace Go.Proofs.Ytbhdgeoljlhmcaa
open Go.RowKit Go.Proofs.Ytbhdgeoljlhmcaa.Nm Go.Proofs.Ytbhdgeoljlhmcaa.St
/-- the document's store, whatever becomes of the blocks F -/
def DFar (w : World) (v : Value) (A : Sto) (F : Nat → Prop) : Prop := ∀ w', (∀ q, q < w.heap.size → ¬ F q → w'.heap[q]? = w.heap[q]?) → DAt w' 0 v A
theorem DFar.here {w : World} {v : Value} {A : Sto} {F : Nat → Prop} (h : DFar w v A F) : DAt w 0 v A := h w (fun _ _ _ => rfl)
theorem DFar.step {w w1 : World} {v : Value} {A : Sto} {F F1 : Nat → Prop} (h : DFar w v A F) (hz : w.heap.size ≤ w1.heap.size) (hs : ∀ q, q < w.heap.size → ¬ F q → w1.heap[q]? = w.heap[q]?) (hF : ∀ q, F1 q → F q ∨ w.heap.size ≤ q) : DFar w1 v A F1 := fun w' hw => h w' (fun q hq hn => by
  rw [hw q (by omega) (fun h1 => (hF q h1).elim hn (fun h2 => by omega)), hs q hq hn])
theorem DFar.below {w w1 : World} {v : Value} {A : Sto} {F : Nat → Prop} (h : DFar w v A F) (hb : Below w.heap.size w w1) : DFar w1 v A F := h.step hb.size (fun q hq _ => hb.block q hq) (fun _q h => Or.inl h)
theorem DFar.fresh {w w1 : World} {v : Value} {A : Sto} {F : Nat → Prop} (h : DAt w1 w.heap.size v A) (hF : ∀ q, F q → q < w.heap.size) : DFar w1 v A F := fun w' hw => (h.same (fun q hq hl => hw q hl (fun hf => by have := hF q hf; omega))).weak (Nat.zero_le _)
/-- what may change beside the document's store: the program's store, one variable -/
def Beside (s : Nat) (rs : List Row) (p : Nat) (q : Nat) : Prop := Foot s rs q ∨ q = p
theorem DFar.ran {w w1 : World} {v : Value} {A : Sto} {s p : Nat} {rs rs1 : List Row} (h : DFar w v A (Beside s rs p)) (hr : Ran s rs w rs1 w1) : DFar w1 v A (Beside s rs1 p) :=
  h.step hr.size (fun q hq hn => hr.block q hq (fun hf => hn (Or.inl hf))) (fun q hq => hq.elim (fun hf => (hr.foot q hf).elim (fun h => Or.inl (Or.inl h)) Or.inr) (fun e => Or.inl (Or.inr e)))
theorem DFar.row {w : World} {v : Value} {A : Sto} {s p : Nat} {rs : List Row} (h : DFar w v A (Beside s rs p)) (cs : Array Value) : DFar (w.setRow p cs) v A (Beside s rs p) :=
  h.step (by simp) (fun q hq hn => setRow_other _ _ _ _ (fun e => hn (Or.inr e))) (fun q h => Or.inl h)
/-- what the document's Do leaves, beside the program's store -/
theorem DoIPost.far {v : Value} {A : Sto} {o : OpV} {w w' : World} {e : Ending} {F : Nat → Prop} (hp : DoIPost v A o w e w') (h : DFar w v A F) (hF : ∀ q, F q → q < w.heap.size) : ∃ nv bv M sh, e = .returned (.tuple #[.agg (sc66 nv bv M sh), .int .i64 (refA A o)]) ∧ (sc66 nv bv M sh).all (·.oneCell') = true ∧ M = (doA A o).made ∧ sh = (doA A o).shared ∧ Below w.heap.size w w' ∧ DFar w' (.agg (sc66 nv bv M sh)) (doA A o) F := by
  obtain ⟨v', rfl, hb, hv⟩ := hp
  have hd : DFar w' v' (doA A o) F := by
    rcases hv with ⟨hr, rfl⟩ | ⟨hr, hd⟩
    · rw [show doA A o = A by unfold doA; rw [if_neg hr]]
      exact h.below hb
    · exact DFar.fresh hd hF
  obtain ⟨nv, bv, M, sh, rfl, h1, h2, h3⟩ := hd.here.form
  exact ⟨nv, bv, M, sh, rfl, h1, h2, h3, hb, hd⟩
theorem StoreAt.rowT {w : World} {s p : Nat} {A : Sto} {rs : List Row} (h : StoreAt w s A rs) (hp : ¬ Foot s rs p) (cs : Array Value) : StoreAt (w.setRow p cs) s A rs :=
  h.same (fun _q _ hf => setRow_other _ _ _ _ (fun e => hp (e ▸ hf)))
end Go.Proofs.Ytbhdgeoljlhmcaa
