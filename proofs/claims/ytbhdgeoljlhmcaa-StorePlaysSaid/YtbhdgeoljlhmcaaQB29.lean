/- Items held beside a store, fields of an operation. -/
import Derived.Test.YtbhdgeoljlhmcaaQB16
import Derived.Test.YtbhdgeoljlhmcaaQB14
namespace Go.Proofs.Ytbhdgeoljlhmcaa
open Go.RowKit Go.Proofs.Ytbhdgeoljlhmcaa.Nm Go.Proofs.Ytbhdgeoljlhmcaa.St
/-- items keep while a store they are no part of changes -/
theorem ItemsAt.ran {w w' : World} {s B : Nat} {rs rs' : List Row} {v : Value} {bs : List Buf} (h : ItemsAt w B v bs) (hf : ∀ q, Foot s rs q → q < B) (hr : Ran s rs w rs' w') : ItemsAt w' B v bs := by
  obtain ⟨ps, h1, h2, h3⟩ := h
  have hs : ∀ {e : TypeId} {size n : Nat} {x : Value} {xs : List Value}, w.ownsRow B e size x n xs → w'.ownsRow B e size x n xs := fun h => own_same h (fun q hq hx => hr.block q hq (fun hc => by have := hf q hc; have := (own_block h hx).1; omega))
  exact ⟨ps, h1, hs h2, fun i b p hi hp => ⟨hs (h3 i b p hi hp).1, hs (h3 i b p hi hp).2⟩⟩
/-- the cells of a list of items -/
theorem ItemsAt.cells {w : World} {B : Nat} {v : Value} {bs : List Buf} (h : ItemsAt w B v bs) (hn : 1 ≤ bs.length) : ∃ q cap cur, v = .slice (some ⟨q, 0, none⟩) bs.length cap ∧ B ≤ q ∧ w.heap[q]? = some (.cells cur 32 (0, 0)) ∧ ∀ (i : Nat) (b : Buf), bs[i]? = some b → ∃ v : Array Value,
    v.size = 4 ∧ cur.extract (i * 4) (i * 4 + 4) = v ∧ ItemAt w B (.agg v) b := by
  obtain ⟨ps, hps, hr, hall⟩ := h
  rcases hr.2 with ⟨_, h0⟩ | ⟨q, cap, cur, hv, hB, hg, h1, h2, h3, h4⟩
  · omega
  · refine ⟨q, cap, cur, hv, hB, hg, fun i b hi => ?_⟩
    have hil := (List.getElem?_eq_some_iff.1 hi).1
    obtain ⟨p, hp⟩ : ∃ p, ps[i]? = some p := ⟨_, List.getElem?_eq_getElem (by omega)⟩
    obtain ⟨g0, g1, g2, g3⟩ := itRow_get hi hp
    have key : ∀ x u, x < bs.length * 4 → (itRow bs ps)[x]? = some u → cur[x]? = some u := fun x u hx hu => by
      rw [← h4, List.getElem?_take_of_lt hx] at hu; simpa using hu
    have k0 := key _ _ (by omega) g0
    have k1 := key _ _ (by omega) g1
    have k2 := key _ _ (by omega) g2
    have k3 := key _ _ (by omega) g3
    refine ⟨icells b.kd p.1 b.seed p.2, rfl, ?_, p.1, p.2, rfl, (hall i b p hi hp).1, (hall i b p hi hp).2⟩
    have hz : i * 4 + 4 ≤ cur.size := by omega
    apply Array.ext
    · simp [icells]; omega
    · intro j hj1 hj2
      have hj : j = 0 ∨ j = 1 ∨ j = 2 ∨ j = 3 := by simp [icells] at hj2; omega
      rw [Array.getElem_extract]
      rcases hj with rfl | rfl | rfl | rfl
      · have := (Array.getElem?_eq_some_iff.1 k0).2; simpa [icells] using this
      · have := (Array.getElem?_eq_some_iff.1 k1).2; simpa [icells] using this
      · have := (Array.getElem?_eq_some_iff.1 k2).2; simpa [icells] using this
      · have := (Array.getElem?_eq_some_iff.1 k3).2; simpa [icells] using this
end Go.Proofs.Ytbhdgeoljlhmcaa
