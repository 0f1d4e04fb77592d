/- TypesOrders: the law function answers true. -/
import Derived.Test.YtokmaehefenpmaaDoorPE17
import Derived.Test.YtokmaehefenpmaaDoorPE18
namespace Go.Proofs.YtokmaehefenpmaaDoor
open Go.RowKit Go.ChangeMaps Go.Proofs.YtokmaehefenpmaaDoor.Nm
set_option linter.unusedSimpArgs false
/-- A row of small numbers. -/
def OrdAt (w : World) (A : Option Addr) (l : Nat) : Prop := ∀ i, i < l → ∃ bl off x, A = some ⟨bl, off, none⟩ ∧ w.cell? ⟨bl, off + i, none⟩ = some (.int .u8 x) ∧ 0 ≤ x ∧ x < 256
theorem OrdAt.old {w w' : World} {A : Option Addr} {l : Nat} (h : OrdAt w A l) (hb : Below w.heap.size w w') : OrdAt w' A l := fun i hi => by
  obtain ⟨bl, off, x, h1, h2, h3⟩ := h i hi
  exact ⟨bl, off, x, h1, by
    have := World.block_lt_of_cell? w _ h2
    unfold World.cell? at h2 ⊢
    rw [hb.block _ this]; exact h2, h3⟩
theorem OrdAt.get {w : World} {A : Option Addr} {l : Nat} (h : OrdAt w A l) {j : Nat} (hj : j < l) : ∃ bl off x, A = some ⟨bl, off, none⟩ ∧ 0 ≤ x ∧ x < 256 ∧ ∀ w', Below w.heap.size w w' → OneAt w' 5 ⟨bl, off + j, none⟩ (.int .u8 x) := by
  obtain ⟨bl, off, x, h1, h2, h3, h4⟩ := h j hj
  refine ⟨bl, off, x, h1, h3, h4, fun w' hb => one_of u5 rfl ?_⟩
  have := World.block_lt_of_cell? w _ h2
  unfold World.cell? at h2 ⊢
  rw [hb.block _ this]; exact h2
theorem SrcE.get {w : World} {B : Nat} {es : Eqs} {A : Option Addr} (h : SrcE w B es A) {i : Nat} {t u : Ty} (hi : es[i]? = some (t, u)) : ∃ bl off k s n A1 l1 c1 k' s' n' A2 l2 c2, A = some ⟨bl, off, none⟩ ∧
    (∀ w', Below w.heap.size w w' → RowAt w' 58 ⟨bl, off + i * 8, none⟩ (cell8 k s n A1 l1 c1 k' s' n' A2 l2 c2)) ∧ TyAt w (fun b => b < B) t (cell4 k s n A1 l1 c1) ∧ TyAt w (fun b => b < B) u (cell4 k' s' n' A2 l2 c2) := by
  obtain ⟨bl, off, Cs, ty, fr, rowa, rowb, h1, h3, h4, h5, h6, h7⟩ := h i t u hi
  obtain ⟨k, s, n, A1, l1, c1, rfl⟩ := row4 h6
  obtain ⟨k', s', n', A2, l2, c2, rfl⟩ := row4 h7
  have h8 : Cs.extract (off + i * 8) (off + i * 8 + 8) = cell8 k s n A1 l1 c1 k' s' n' A2 l2 c2 := by
    have : Cs.extract (off + i * 8) (off + i * 8 + 4) ++ Cs.extract (off + i * 8 + 4) (off + i * 8 + 8) = Cs.extract (off + i * 8) (off + i * 8 + 8) := by
      rw [Array.extract_append_extract]
      congr 1 <;> omega
    rw [← this, h4, h5]
    rfl
  exact ⟨bl, off, k, s, n, A1, l1, c1, k', s', n', A2, l2, c2, h1, fun w' hb => row_mid (n := 8) (below_look hb h3) h8 u58 rfl rfl info58, h6, h7⟩
theorem OwnE.parts {w : World} {B : Nat} {es : Eqs} {A : Option Addr} {l c : Nat} (h : OwnE w B (.slice A l c) es) : es.length = l ∧ SrcE w B es A ∧ l ≤ c ∧ c ≤ maxLen ∧ ∀ a, A = some a → ∃ g, a = ⟨g, 0, none⟩ := by
  obtain ⟨A', c', e, h1, h2, h3, h4⟩ := h.src
  injection e with e1 e2 e3
  subst e1 e2 e3
  exact ⟨rfl, h1, h2, h3, h4⟩
theorem SrcE.old {w w' : World} {B : Nat} {es : Eqs} {A : Option Addr} (h : SrcE w B es A) (hb : Below w.heap.size w w') : SrcE w' B es A := fun i a b hi => by
  obtain ⟨bl, off, Cs, t, fr, rowa, rowb, h1, h3, h4, h5, h6, h7⟩ := h i a b hi
  exact ⟨bl, off, Cs, t, fr, rowa, rowb, h1, below_look hb h3, h4, h5, h6.old hb, h7.old hb⟩
end Go.Proofs.YtokmaehefenpmaaDoor
