/- What a match holds, in memory: the row of trees and the row of marks. -/
import Derived.Test.YtokmaehefenpmaaDoorW11
import Derived.Test.YtokmaehefenpmaaDoorTyMatch
import Derived.Test.YtokmaehefenpmaaDoorA3
import Derived.Laws.CopyRow
import Derived.Laws.MakeOwn
namespace Go.Proofs.YtokmaehefenpmaaDoor
open Go.RowKit Go.Proofs.YtokmaehefenpmaaDoor.Nm
set_option linter.unusedSimpArgs false
/-- The trees of what is known lie in row g1, the marks in row g2; the trees' own blocks are others. -/
structure MSt (w : World) (g1 g2 : Nat) (st : List (Option Ty)) : Prop where
  ne : g1 ≠ g2
  tys : ∃ cs, w.heap[g1]? = some (.cells cs 24 (0, 0)) ∧ cs.size = st.length * 4 ∧ ∀ (i : Nat) (o : Option Ty), st[i]? = some o → ∃ row, cs.extract (i * 4) (i * 4 + 4) = row ∧ TyAt w (fun b => b ≠ g1 ∧ b ≠ g2) (o.getD zeroTy) row
  kn : ∃ bs, w.heap[g2]? = some (.cells bs 4 (0, 0)) ∧ bs.size = st.length ∧ ∀ (i : Nat) (o : Option Ty), st[i]? = some o → bs[i]? = some (.bool o.isSome)
theorem MSt.lt {w : World} {g1 g2 : Nat} {st : List (Option Ty)} (h : MSt w g1 g2 st) : g1 < w.heap.size ∧ g2 < w.heap.size := by
  obtain ⟨cs, h1, -⟩ := h.tys
  obtain ⟨bs, h2, -⟩ := h.kn
  exact ⟨heap_lt h1, heap_lt h2⟩
theorem MSt.old {w w' : World} {g1 g2 : Nat} {st : List (Option Ty)} (h : MSt w g1 g2 st) (hb : Below w.heap.size w w') : MSt w' g1 g2 st := by
  obtain ⟨h0, ⟨cs, h1, h2, h3⟩, ⟨bs, k1, k2, k3⟩⟩ := h
  exact ⟨h0, ⟨cs, by rw [hb.block _ (heap_lt h1)]; exact h1, h2, fun i o ho => by
    obtain ⟨row, e, ht⟩ := h3 i o ho
    exact ⟨row, e, ht.old hb⟩⟩, ⟨bs, by rw [hb.block _ (heap_lt k1)]; exact k1, k2, k3⟩⟩
/-- Read as a row of trees. -/
theorem MSt.at {w : World} {g1 g2 : Nat} {st : List (Option Ty)} (h : MSt w g1 g2 st) (hm : st.length ≤ maxLen) : TysAt w Any (tysOf st) (some ⟨g1, 0, none⟩) st.length st.length := by
  obtain ⟨-, ⟨cs, h1, h2, h3⟩, -⟩ := h
  refine ⟨by simp [tysOf], Nat.le_refl _, hm, fun i => cs.extract (i * 4) (i * 4 + 4), fun i t ht => ?_, fun i t ht => ?_⟩
  · exact ⟨g1, 0, cs, 24, (0, 0), rfl, trivial, h1, by rw [Nat.zero_add]⟩
  · simp only [tysOf, List.getElem?_map, Option.map_eq_some_iff] at ht
    obtain ⟨o, ho, rfl⟩ := ht
    obtain ⟨row, e, hta⟩ := h3 i o ho
    show TyAt w Any _ (cs.extract (i * 4) (i * 4 + 4))
    rw [e]
    exact hta.weak fun _ _ => trivial
theorem MSt.mark {w : World} {g1 g2 : Nat} {st : List (Option Ty)} (h : MSt w g1 g2 st) {i : Nat} {o : Option Ty} (ho : st[i]? = some o) : OneAt w 4 ⟨g2, i, none⟩ (.bool o.isSome) := by
  obtain ⟨-, -, ⟨bs, k1, k2, k3⟩⟩ := h
  exact one_of u4 rfl (by rw [cell_of_row _ _ _ _ _ _ k1]; exact k3 i o ho)
theorem MSt.tree {w : World} {g1 g2 : Nat} {st : List (Option Ty)} (h : MSt w g1 g2 st) (hm : st.length ≤ maxLen) {i : Nat} {u : Ty} (ho : st[i]? = some (some u)) : ∃ row, RowK w ⟨g1, i * 4, none⟩ row ∧ TyAt w Any u row := by
  have := (h.at hm).rowK (i := i) (t := u) (tysOf_get ho)
  simpa using this
/-- The cells of a row with one tree put in. -/
def put4 (cs : Array Value) (i : Nat) (row : Array Value) : Array Value := (cs.toList.take (i * 4) ++ row.toList ++ cs.toList.drop (i * 4 + 4)).toArray
theorem put4_size {cs row : Array Value} {i : Nat} (hr : row.size = 4) (h : i * 4 + 4 ≤ cs.size) : (put4 cs i row).size = cs.size := by
  simp [put4, hr]; omega
theorem put4_same {cs row : Array Value} {i : Nat} (hr : row.size = 4) (h : i * 4 + 4 ≤ cs.size) : (put4 cs i row).extract (i * 4) (i * 4 + 4) = row := by
  apply Array.toList_inj.1
  have h1 : (cs.toList.take (i * 4)).length = i * 4 := by simp; omega
  simp only [put4, Array.toList_extract, List.extract_eq_take_drop, List.append_assoc]
  rw [List.drop_append_of_le_length (by omega), List.drop_of_length_le (by omega), List.nil_append, show i * 4 + 4 - i * 4 = row.toList.length by simp [hr], List.take_left']
  rfl
theorem put4_other {cs row : Array Value} {i j : Nat} (hr : row.size = 4) (h : i * 4 + 4 ≤ cs.size) (hj : j ≠ i) : (put4 cs i row).extract (j * 4) (j * 4 + 4) = cs.extract (j * 4) (j * 4 + 4) := by
  have h1 : (cs.toList.take (i * 4)).length = i * 4 := by simp; omega
  have hr2 : row.toList.length = 4 := by simp [hr]
  have key : ∀ m, (m < i * 4 ∨ i * 4 + 4 ≤ m) → (put4 cs i row)[m]? = cs[m]? := fun m hm => by
    rw [← Array.getElem?_toList, ← Array.getElem?_toList]
    simp only [put4, List.append_assoc]
    rcases hm with hm | hm
    · rw [List.getElem?_append_left (by omega), List.getElem?_take_of_lt hm]
    · rw [List.getElem?_append_right (by omega), List.getElem?_append_right (by omega), List.getElem?_drop]
      congr 1; omega
  apply Array.ext_getElem?
  intro m
  rw [Array.getElem?_extract, Array.getElem?_extract, put4_size hr h]
  split
  · exact key _ (by rcases Nat.lt_or_gt_of_ne hj with e | e <;> omega)
  · rfl
/-- What stands beside a match's two rows. -/
structure Fr (g1 g2 : Nat) (w w' : World) : Prop where
  keep : ∀ b, b < w.heap.size → b ≠ g1 → b ≠ g2 → w'.heap[b]? = w.heap[b]?
  bel : ∀ B' w0, B' ≤ g1 → B' ≤ g2 → B' ≤ w.heap.size → Below B' w0 w → Below B' w0 w'
theorem Fr.size {g1 g2 : Nat} {w w' : World} (h : Fr g1 g2 w w') : w.heap.size ≤ w'.heap.size := (h.bel 0 w (Nat.zero_le _) (Nat.zero_le _) (Nat.zero_le _) (Below.refl _ _)).size
theorem Fr.trans {g1 g2 : Nat} {w w1 w2 : World} (h : Fr g1 g2 w w1) (g : Fr g1 g2 w1 w2) : Fr g1 g2 w w2 where
  keep b hb h1 h2 := by
    have := h.size
    rw [g.keep b (by omega) h1 h2, h.keep b hb h1 h2]
  bel B' w0 h1 h2 h3 h4 := by
    have := h.size
    exact g.bel B' w0 h1 h2 (by omega) (h.bel B' w0 h1 h2 h3 h4)
theorem Fr.of {g1 g2 : Nat} {w w' : World} (hb : Below w.heap.size w w') : Fr g1 g2 w w' := ⟨fun b h _ _ => hb.block b h, fun _ _ _ _ h3 h4 => h4.trans (hb.mono h3)⟩
theorem run_store4 {w : World} {g i : Nat} {cs : Array Value} {k : Int} {s : ByteArray} {n : Int} {A : Option Addr} {l c : Nat} (hg : w.heap[g]? = some (.cells cs 24 (0, 0))) (h : i * 4 + 4 ≤ cs.size) :
    (storeVar 24 ⟨g, i * 4, none⟩ (.agg (cell4 k s n A l c))).run Tryd.prog w = .ok () (w.setRow g (put4 cs i (cell4 k s n A l c))) := by
  have h1 := run_storeCells_at (P := Tryd.prog) g (i * 4) 24 (cell4 k s n A l c).toList 0 cs w hg (by simp [cell4]; omega) (fun v hv => by simp [cell4] at hv; rcases hv with rfl | rfl | rfl | rfl <;> rfl)
  have hi := info24
  cases hq : Tryd.prog.info? 24 with
  | none => simp [hq] at hi
  | some i0 =>
    have hs : i0.size = 4 := by simpa [hq] using hi
    simp only [Nat.add_zero] at h1
    have hc : (cell4 k s n A l c).toList.length = 4 := rfl
    rw [hc] at h1
    have hz : (cell4 k s n A l c).size = 4 := rfl
    simp [storeVar, sizeOf, typeInfo, hq, Value.cells, hs, hz, h1, put4]
section
variable {ops : Array Oper} {rest : List Oper} {ty' : TypeId} {x y : Operand} {pos : String} {after : Array Edge} {a : Act} {w : World} {Q : Exit → Act → World → Prop}
theorem wl_store4 {g i : Nat} {cs : Array Value} {k : Int} {s : ByteArray} {n : Int} {A : Option Addr} {l c : Nat} (hx : a.eval x = .pointer (some ⟨g, i * 4, none⟩)) (hy : a.eval y = .agg (cell4 k s n A l c)) (hg : w.heap[g]? = some (.cells cs 24 (0, 0))) (hle : i * 4 + 4 ≤ cs.size)
    (h : wpList Tryd.prog ops Q rest (a.put none undef) (w.setRow g (put4 cs i (cell4 k s n A l c)))) : wpList Tryd.prog ops Q (⟨none, .store 24 x y, ty', pos, after, none⟩ :: rest) a w :=
  wpList_plain rfl fun _ hK => by
    unfold Oper.wp execOp
    simp only [hx, hy, Instr.storeAt, Instr.sureAddr, Sem.run_bind, Sem.run_pure, Result.andThen_ok, run_store4 hg hle]
    exact hK _ _ h
end
/-- A tree is known from now on. -/
theorem MSt.put {w : World} {g1 g2 : Nat} {st : List (Option Ty)} (h : MSt w g1 g2 st) {i : Nat} (hi : i < st.length) {t : Ty} {row : Array Value} (ht : TyAt w (fun b => b ≠ g1 ∧ b ≠ g2) t row) :
    ∃ cs, w.heap[g1]? = some (.cells cs 24 (0, 0)) ∧ i * 4 + 4 ≤ cs.size ∧ ((w.setRow g1 (put4 cs i row)).cell? ⟨g2, i, none⟩).isSome = true ∧ (w.setRow g1 (put4 cs i row)).frozen? ⟨g2, i, none⟩ = false ∧ MSt ((w.setRow g1 (put4 cs i row)).setCell ⟨g2, i, none⟩ (.bool true)) g1 g2 (st.set i (some t)) ∧ Fr g1 g2 w ((w.setRow g1 (put4 cs i row)).setCell ⟨g2, i, none⟩ (.bool true)) := by
  obtain ⟨h0, ⟨cs, h1, h2, h3⟩, ⟨bs, k1, k2, k3⟩⟩ := h
  have hr : row.size = 4 := ht.size
  have hle : i * 4 + 4 ≤ cs.size := by omega
  have hk1 : (w.setRow g1 (put4 cs i row)).heap[g2]? = some (.cells bs 4 (0, 0)) := by rw [setRow_other w g1 g2 _ (fun e => h0 e.symm)]; exact k1
  have hh1 : ((w.setRow g1 (put4 cs i row)).setCell ⟨g2, i, none⟩ (.bool true)).heap[g1]? = some (.cells (put4 cs i row) 24 (0, 0)) := by rw [heap_setCell_other _ _ _ _ h0]; exact hr_new h1
  have hoth : ∀ b, b ≠ g1 → b ≠ g2 → ((w.setRow g1 (put4 cs i row)).setCell ⟨g2, i, none⟩ (.bool true)).heap[b]? = w.heap[b]? := fun b e1 e2 => by rw [heap_setCell_other _ _ _ _ e2, setRow_other w g1 b _ e1]
  refine ⟨cs, h1, hle, by rw [cell_of_row _ _ _ _ _ _ hk1, Array.getElem?_eq_getElem (by omega)]; rfl, by unfold World.frozen?; rw [hk1]; rfl, ⟨h0, ⟨_, hh1, by rw [put4_size hr hle, List.length_set]; exact h2, fun j o hj => ?_⟩, ⟨_, hs_new hk1, by simp [k2], fun j o hj => ?_⟩⟩, ⟨fun b _ e1 e2 => hoth b e1 e2, fun B' w0 e1 e2 e3 e4 => (below_setRow e4 e1 _).setCell e2 _⟩⟩
  · by_cases e : j = i
    · subst e
      rw [List.getElem?_set_self hi] at hj
      cases hj
      exact ⟨_, put4_same hr hle, ht.mono (fun _ h => h) fun b hb => hoth b hb.1 hb.2⟩
    · rw [List.getElem?_set_ne (fun e2 => e e2.symm)] at hj
      obtain ⟨r, e1, e2⟩ := h3 j o hj
      exact ⟨r, by rw [put4_other hr hle e]; exact e1, e2.mono (fun _ h => h) fun b hb => hoth b hb.1 hb.2⟩
  · by_cases e : j = i
    · subst e
      rw [List.getElem?_set_self hi] at hj
      cases hj
      rw [Array.getElem?_setIfInBounds_self_of_lt (by omega)]
      rfl
    · rw [List.getElem?_set_ne (fun e2 => e e2.symm)] at hj
      rw [Array.getElem?_setIfInBounds_ne (fun e2 => e e2.symm)]
      exact k3 j o hj
end Go.Proofs.YtokmaehefenpmaaDoor
