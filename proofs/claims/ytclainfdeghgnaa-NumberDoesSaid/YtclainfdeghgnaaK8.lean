/- A region that draws its order, with last stores, where one part of a tuple is taken ahead of a store or behind it. -/
import Derived.Test.YtclainfdeghgnaaK7
namespace Go.Proofs.Ytclainfdeghgnaa.Nm
open Go.RowKit
section
variable {P : Program}
theorem wp_region_tail_late {id : Nat} {Q : Exit → Act → World → Prop} {a : Act} {w : World} {l : List Oper} (n d : Nat) (hm : P.follows .mixedOrders = true) (hB : Region.lexTailB .text l.toArray n = true) (hD : lateB l.toArray d = true)
    (h : wpQuiet P l.toArray (fun w' => Below w.heap.size w w') (fun a' => ∀ w', Below w.heap.size w w' → wpList P l.toArray (OnlyN Q) (l.drop n) a' w') (l.take n) a) : (Code.region id l.toArray true).wp P Q a w := by
  simp only [Region.lexTailB, Bool.and_eq_true, decide_eq_true_eq] at hB
  obtain ⟨⟨⟨⟨hsel, hn⟩, hs⟩, hc⟩, hlex⟩ := hB
  have hn' : n < l.length := by simpa using hn
  have htl : (l.take n).length = n := by simp; omega
  have hdl : (l.drop n).length = l.toArray.size - n := by simp
  have inv0 : HeadInv .text l.toArray n (Array.replicate l.toArray.size false) :=
    ⟨by simp, fun j oj _ hl => (by rw [getD_replicate_false] at hl; cases hl), fun t _ ht => getD_in (by simpa using ht) (getD_replicate_false _ _)⟩
  have H := wpAnyK_lex (C := fun w' => Below w.heap.size w w') (md := .text) (g := l.toArray.size - n) hsel hs hc hn (l.take n) 0 _ a (fun j hj => by
    have hj' : j < n := by rw [htl] at hj; exact hj
    simp [hj']) (by simpa using htl) inv0 (by rw [htl]; exact hlex) h
  refine Code.wp_mono (Q := OnlyN Q) OnlyN.up (wp_region_any hm ?_)
  obtain ⟨od, hod⟩ : ∃ od, l.toArray[d]? = some od := by
    unfold lateB at hD
    cases hx : l.toArray[d]? with
    | none => rw [hx] at hD; cases hD
    | some od => exact ⟨od, rfl⟩
  refine late_any hod (Region.noSelect_spec hsel) hD _ _ _ _ (by simp) ?_
  have := wpAny_of_headK (md := .text) (Q' := OnlyN Q) (g := l.toArray.size - n) (fun listed a' w' hw' hL => by
    have := wpAny_of_seq (md := .text) (Q' := OnlyN Q) (l.drop n) n listed a' w' (fun j => by simp [List.getElem?_drop]) (by rw [hdl]; exact hL.1) (hL.2 w' hw')
    rwa [hdl] at this) _ _ _ { w with drawn := w.drawn + 1 } ((Below.refl _ w).drew) H
  rw [htl, show n + (l.toArray.size - n) = l.toArray.size by omega] at this
  exact this
end
end Go.Proofs.Ytclainfdeghgnaa.Nm
