/- Lists of names: the place of a name; short. Steps of drawn regions that make trees. What a match holds, in memory: the row of trees and the row of marks. A tree copied (CopyType, CopyTypes). Unification, plainly: trees with variables, what is put in for variables, one step of the solver. No program in sight. The document's Occurs: whether a variable stands in a tree. A tree in which nodes are replaced (replaced), for any function that says by what; a copy (copied). Unification, plainly: the steps of the solver, that they end, that a solution solves and is the most general one, and that the order of the equations does not matter. No program in sight. The solver's map in memory; put. The solver's put. -/
import Derived.Test.YtokmaehefenpmaaDoorPE1
import Derived.Laws.CopyRow
import Derived.Laws.MakeOwn
import Derived.Deep.DeepCutAuto
import Derived.Shelf.Abstract
import Derived.MapKept
import Derived.Maps.RangeRun
namespace Go.Proofs.YtokmaehefenpmaaDoor
open Go.RowKit Go.Proofs.YtokmaehefenpmaaDoor.Nm
set_option linter.unusedSimpArgs false
/-- A row of names at a slice. -/
structure TxAt (w : World) (ns : List ByteArray) (A : Option Addr) (l c : Nat) : Prop where
  len : ns.length = l
  cap : l ≤ c
  max : c ≤ maxLen
  el : ∀ (i : Nat) (s : ByteArray), ns[i]? = some s → ∃ b off, A = some ⟨b, off, none⟩ ∧ w.cell? ⟨b, off + i, none⟩ = some (.string s)
theorem cell_lt' {w : World} {a : Addr} {v : Value} (h : w.cell? a = some v) : a.block < w.heap.size := by
  apply Classical.byContradiction
  intro hn
  simp [World.cell?, Array.getElem?_eq_none (Nat.le_of_not_lt hn)] at h
theorem TxAt.old {w w' : World} {ns : List ByteArray} {A : Option Addr} {l c : Nat} (h : TxAt w ns A l c) (hb : Below w.heap.size w w') : TxAt w' ns A l c :=
  ⟨h.len, h.cap, h.max, fun i s hi => by
    obtain ⟨b, off, e, hc⟩ := h.el i s hi
    exact ⟨b, off, e, by rw [hb.cell (cell_lt' hc)]; exact hc⟩⟩
theorem TxAt.addr {w : World} {ns : List ByteArray} {A : Option Addr} {l c : Nat} (h : TxAt w ns A l c) {i : Nat} (hi : i < l) : ∃ b off s, A = some ⟨b, off, none⟩ ∧ ns[i]? = some s := by
  have hs : ns[i]? = some (ns[i]'(by rw [h.len]; exact hi)) := List.getElem?_eq_getElem _
  obtain ⟨b, off, e, _⟩ := h.el i _ hs
  exact ⟨b, off, _, e, hs⟩
theorem TxAt.one {w : World} {ns : List ByteArray} {b off : Nat} {l c : Nat} (h : TxAt w ns (some ⟨b, off, none⟩) l c) {i : Nat} {s : ByteArray} (hi : ns[i]? = some s) : OneAt w 9 ⟨b, off + i, none⟩ (.string s) := by
  obtain ⟨b', off', e, hc⟩ := h.el i s hi
  cases e
  exact one_of u9 rfl hc
def idxI (ns : List ByteArray) (s : ByteArray) : Int := match idx ns s with | some i => (i : Int) | none => -1
theorem idx_some {ns : List ByteArray} {s : ByteArray} {j : Nat} (h : ∀ i, i < j → ns[i]? ≠ some s) (hj : ns[j]? = some s) : idx ns s = some j := by
  unfold idx
  rw [List.findIdx?_eq_some_iff_getElem]
  have hl := (List.getElem?_eq_some_iff.1 hj).1
  refine ⟨hl, ?_, fun i hi => ?_⟩
  · rw [List.getElem?_eq_getElem hl] at hj; simpa using hj
  · have := h i hi
    rw [List.getElem?_eq_getElem (by omega)] at this
    simpa using this
theorem idx_none {ns : List ByteArray} {s : ByteArray} (h : ∀ i, i < ns.length → ns[i]? ≠ some s) : idx ns s = none := by
  unfold idx
  rw [List.findIdx?_eq_none_iff]
  intro x hx
  obtain ⟨i, hi⟩ := List.mem_iff_getElem?.1 hx
  have := h i (List.getElem?_eq_some_iff.1 hi).1
  rw [hi] at this
  simpa using this
set_option maxHeartbeats 2000000 in
set_option maxRecDepth 100000 in
theorem Index_any (ns : List ByteArray) (s : ByteArray) (A : Option Addr) (l c : Nat) (w : World) (h : TxAt w ns A l c) : Calls Tryd.prog 50 #[.slice A l c, .string s] w fun e w' => e = .returned (.int .i64 (idxI ns s)) ∧ Below w.heap.size w w' := by
  have HT := Lib.hid h
  have HL := Lib.hid h.len
  have hcm := h.cap
  have hmx := h.max
  unfold maxLen at hmx
  clear h
  have hb := Below.refl w.heap.size w
  go_enter Tryd.func50, Tryd.ntmps50
  go_wp2_with fail
  go_loopw [8] (fun i wr => ∃ j : Nat, j ≤ l ∧ i = .int .i64 (j : Int) ∧ Hid (∀ i, i < j → ns[i]? ≠ some s) ∧ Below w.heap.size w wr) (fun i _ => l - (intOf i).toNat)
  case atStart => exact ⟨0, by omega, rfl, Lib.hid (fun i hi => by omega), hb⟩
  case round =>
    clear hb
    obtain ⟨j, hj, rfl, HR, hb⟩ := hrel
    by_cases hlt : j < l
    · have hltI : (j : Int) < (l : Int) := by omega
      obtain ⟨b, off, x, rfl, hx⟩ := HT.out.addr hlt
      have hone := (HT.out.old hb).one hx
      by_cases he : s = x
      · have e1 : (s.toList == x.toList) = true := beq_iff_eq.2 (by rw [he])
        have HF : Hid (idxI ns s = (j : Int)) := Lib.hid (by unfold idxI; rw [idx_some HR.out (by rw [hx, he])])
        clear he hx HR
        go_upto_region 4 with (fail)
        apply wp_region_lit
        (with_reducible refine wl_k ?_ ?_); exact rfl; intro K hK; go_simp; refine hK _ ?_; clear hK K
        (with_reducible refine wl_k ?_ ?_); exact rfl; intro K hK; go_simp; refine hK _ ?_; clear hK K
        (with_reducible refine wl_k ?_ ?_); exact rfl; intro K hK; go_simp; refine hK _ ?_; clear hK K
        (with_reducible refine wl_k ?_ ?_); exact rfl; intro K hK; go_simp; refine hK _ ?_; clear hK K
        (first | ((with_reducible apply wl_oneG); exact rfl; exact rfl; first | exact f0 (by with_reducible assumption) | exact f1 (by with_reducible assumption) | exact f2 (by with_reducible assumption) | exact f3 (by with_reducible assumption) | with_reducible assumption | exact g22 (by with_reducible assumption) | exact g25 (by with_reducible assumption)) | ((with_reducible apply wl_rowG); exact rfl; exact rfl; first | with_reducible assumption | exact RowK.now (by with_reducible assumption) | exact f4 (by with_reducible assumption)))
        (with_reducible refine wl_k ?_ ?_); exact rfl; intro K hK; go_simp; refine hK _ ?_; clear hK K
        clear hone
        go_wp2_with fail
        go_ret
        exact ⟨ret_int HF.out.symm, hb⟩
      · have e1 : (s.toList == x.toList) = false := beq_eq_false_iff_ne.2 (fun e => he (bytes_inj e))
        have HR2 : Hid (∀ i, i < j + 1 → ns[i]? ≠ some s) := Lib.hid (fun i hi => by
          by_cases e : i = j
          · subst e; rw [hx]; simp; exact fun e => he e.symm
          · exact HR.out i (by omega))
        clear he hx HR
        go_upto_region 4 with (fail)
        apply wp_region_lit
        (with_reducible refine wl_k ?_ ?_); exact rfl; intro K hK; go_simp; refine hK _ ?_; clear hK K
        (with_reducible refine wl_k ?_ ?_); exact rfl; intro K hK; go_simp; refine hK _ ?_; clear hK K
        (with_reducible refine wl_k ?_ ?_); exact rfl; intro K hK; go_simp; refine hK _ ?_; clear hK K
        (with_reducible refine wl_k ?_ ?_); exact rfl; intro K hK; go_simp; refine hK _ ?_; clear hK K
        (first | ((with_reducible apply wl_oneG); exact rfl; exact rfl; first | exact f0 (by with_reducible assumption) | exact f1 (by with_reducible assumption) | exact f2 (by with_reducible assumption) | exact f3 (by with_reducible assumption) | with_reducible assumption | exact g22 (by with_reducible assumption) | exact g25 (by with_reducible assumption)) | ((with_reducible apply wl_rowG); exact rfl; exact rfl; first | with_reducible assumption | exact RowK.now (by with_reducible assumption) | exact f4 (by with_reducible assumption)))
        (with_reducible refine wl_k ?_ ?_); exact rfl; intro K hK; go_simp; refine hK _ ?_; clear hK K
        clear hone
        go_wp2_with fail
        go_roundw
        case rel => exact ⟨j + 1, by omega, by go_num, HR2, hb⟩
        case measure => simp [intOf]; omega
    · have hltI : ¬ (j : Int) < (l : Int) := by omega
      have HF : Hid (idxI ns s = -1) := Lib.hid (by unfold idxI; rw [idx_none (fun i hi => HR.out i (by rw [HL.out] at hi; omega))])
      go_wp2_with fail
      go_ret
      exact ⟨ret_int HF.out.symm, hb⟩
section
variable {md : Region.Mode} {ops : Array Oper} {Q : Exit → Act → World → Prop} {S : World → Prop} {fuel : Nat} {listed : Array Bool} {a : Act} {w : World} {i : Nat} {oi : Oper}
theorem sh_do {P : Program} {v : Value} {w2 : World} (ho : ops[i]? = some oi) (hg : Region.wanted oi (yielded ops a.tmps) = true) (hx : (execOp a.eval oi).run P w = .ok (.value v) w2) (hS : S w2)
    (h : wpAnyH P md ops Q S fuel (listed.setIfInBounds i true) (a.put oi.dst v) w2) : StepH P md ops Q S fuel listed a w i := by
  unfold StepH wpOp
  simp only [ho]
  rw [if_pos hg]
  refine .inl ?_
  unfold Oper.wp
  rw [hx]
  exact ⟨hS, h⟩
theorem ha_bs (hr : Region.ready md ops listed = [i]) (ho : ops[i]? = some oi) (hg : Region.wanted oi (yielded ops a.tmps) = true) (x : Operand) (hop : oi.op = .buildSlice 22 1 #[(0, x)]) {k : Int} {s : ByteArray} {n : Int} {A : Option Addr} {l c : Nat} (hx : a.eval x = .agg (cell4 k s n A l c))
    (hS : ∀ W, Below w.heap.size w W → S W)
    (h : ∀ W p, Below w.heap.size w W → w.heap.size ≤ p → W.heap[p]? = some (.cells (cell4 k s n A l c) 24 (0, 0)) → S W → wpAnyH Tryd.prog md ops Q S fuel (listed.setIfInBounds i true) (a.put oi.dst (.slice (some ⟨p, 0, none⟩) 1 1)) W) : wpAnyH Tryd.prog md ops Q S (fuel + 1) listed a w :=
  have hb := (Below.refl _ w).alloc (Nat.le_refl _) (.cells (cell4 k s n A l c) 24)
  ha_do hr ho hg (ex_bs22 x hop hx) (hS _ hb) (h _ _ hb (Nat.le_refl _) (ha_new rfl) (hS _ hb))
theorem sh_bs (ho : ops[i]? = some oi) (hg : Region.wanted oi (yielded ops a.tmps) = true) (x : Operand) (hop : oi.op = .buildSlice 22 1 #[(0, x)]) {k : Int} {s : ByteArray} {n : Int} {A : Option Addr} {l c : Nat} (hx : a.eval x = .agg (cell4 k s n A l c))
    (hS : ∀ W, Below w.heap.size w W → S W)
    (h : ∀ W p, Below w.heap.size w W → w.heap.size ≤ p → W.heap[p]? = some (.cells (cell4 k s n A l c) 24 (0, 0)) → S W → wpAnyH Tryd.prog md ops Q S fuel (listed.setIfInBounds i true) (a.put oi.dst (.slice (some ⟨p, 0, none⟩) 1 1)) W) : StepH Tryd.prog md ops Q S fuel listed a w i :=
  have hb := (Below.refl _ w).alloc (Nat.le_refl _) (.cells (cell4 k s n A l c) 24)
  sh_do ho hg (ex_bs22 x hop hx) (hS _ hb) (h _ _ hb (Nat.le_refl _) (ha_new rfl) (hS _ hb))
theorem ha_put3 (hr : Region.ready md ops listed = [i]) (ho : ops[i]? = some oi) (hg : Region.wanted oi (yielded ops a.tmps) = true) (x y : Operand) (hop : oi.op = .store 22 x y) {k : Int} {s : ByteArray} {n : Int} {A : Option Addr} {l c : Nat} {p : Nat} {A' : Option Addr} {l' c' : Nat} (hx : a.eval x = .pointer (some ⟨p, 3, none⟩)) (hy : a.eval y = .slice A' l' c') (hp : w.heap[p]? = some (.cells (cell4 k s n A l c) 24 (0, 0)))
    (hS : ∀ W, (∀ B w0, B ≤ p → Below B w0 w → Below B w0 W) → S W)
    (h : ∀ W, (∀ B w0, B ≤ p → Below B w0 w → Below B w0 W) → W.heap.size = w.heap.size → (∀ g, g ≠ p → W.heap[g]? = w.heap[g]?) → W.heap[p]? = some (.cells (cell4 k s n A' l' c') 24 (0, 0)) → S W → wpAnyH Tryd.prog md ops Q S fuel (listed.setIfInBounds i true) (a.put oi.dst undef) W) : wpAnyH Tryd.prog md ops Q S (fuel + 1) listed a w := by
  have hb : ∀ B w0, B ≤ p → Below B w0 w → Below B w0 (w.setCell ⟨p, 3, none⟩ (.slice A' l' c')) := fun B w0 hB hb => hb.setCell hB _
  refine ha_storeC hr ho hg 22 x y hop p 3 _ hx hy info22 rfl (by rw [cell_of_row _ _ _ _ _ _ hp]; rfl) (by unfold World.frozen?; rw [hp]; rfl) (hS _ hb) fun hS => h _ hb (by simp [World.setCell]) (fun g hg => heap_setCell_other _ _ _ _ hg) (by rw [hs_new hp]; rfl) hS
theorem ha_put (hr : Region.ready md ops listed = [i]) (ho : ops[i]? = some oi) (hg : Region.wanted oi (yielded ops a.tmps) = true) (x y : Operand) (hop : oi.op = .store 24 x y) {k : Int} {s : ByteArray} {n : Int} {A : Option Addr} {l c : Nat} {p : Nat} {k' : Int} {s' : ByteArray} {n' : Int} {A' : Option Addr} {l' c' : Nat} (hx : a.eval x = .pointer (some ⟨p, 0, none⟩)) (hy : a.eval y = .agg (cell4 k s n A l c)) (hp : w.heap[p]? = some (.cells (cell4 k' s' n' A' l' c') 24 (0, 0)))
    (hS : ∀ W, (∀ B w0, B ≤ p → Below B w0 w → Below B w0 W) → S W)
    (h : ∀ W, (∀ B w0, B ≤ p → Below B w0 w → Below B w0 W) → W.heap.size = w.heap.size → (∀ g, g ≠ p → W.heap[g]? = w.heap[g]?) → W.heap[p]? = some (.cells (cell4 k s n A l c) 24 (0, 0)) → S W → wpAnyH Tryd.prog md ops Q S fuel (listed.setIfInBounds i true) (a.put oi.dst undef) W) : wpAnyH Tryd.prog md ops Q S (fuel + 1) listed a w := by
  have hb : ∀ B w0, B ≤ p → Below B w0 w → Below B w0 (w.setRow p (cell4 k s n A l c)) := fun B w0 hB hb => below_setRow hb hB _
  exact ha_store hr ho hg 24 x y hop p (cell4 k s n A l c) hx hy 24 _ hp info24 rfl (cell4_one _ _ _ _ _ _) (hS _ hb) fun hS => h _ hb (by simp) (fun g hg => setRow_other w p g _ hg) (hr_new hp) hS
end
open Go.RowKit Go.Proofs.YtokmaehefenpmaaDoor.Nm
set_option linter.unusedSimpArgs false
/-- The trees of what is known lie in row g1, the marks in row g2; the trees' own blocks are others. -/
structure MSt (w : World) (g1 g2 : Nat) (st : List (Option Ty)) : Prop where
  ne : g1 ≠ g2
  tys : ∃ cs, w.heap[g1]? = some (.cells cs 24 (0, 0)) ∧ cs.size = st.length * 4 ∧ ∀ (i : Nat) (o : Option Ty), st[i]? = some o → ∃ row, cs.extract (i * 4) (i * 4 + 4) = row ∧ TyAt w (fun b => b ≠ g1 ∧ b ≠ g2) (o.getD zeroTy) row
  kn : ∃ bs, w.heap[g2]? = some (.cells bs 4 (0, 0)) ∧ bs.size = st.length ∧ ∀ (i : Nat) (o : Option Ty), st[i]? = some o → bs[i]? = some (.bool o.isSome)
theorem MSt.lt {w : World} {g1 g2 : Nat} {st : List (Option Ty)} (h : MSt w g1 g2 st) : g1 < w.heap.size ∧ g2 < w.heap.size := by
  obtain ⟨cs, h1, -⟩ := h.tys
  obtain ⟨bs, h2, -⟩ := h.kn
  exact ⟨heap_lt h1, heap_lt h2⟩
theorem MSt.old {w w' : World} {g1 g2 : Nat} {st : List (Option Ty)} (h : MSt w g1 g2 st) (hb : Below w.heap.size w w') : MSt w' g1 g2 st := by
  obtain ⟨h0, ⟨cs, h1, h2, h3⟩, ⟨bs, k1, k2, k3⟩⟩ := h
  exact ⟨h0, ⟨cs, by rw [hb.block _ (heap_lt h1)]; exact h1, h2, fun i o ho => by
    obtain ⟨row, e, ht⟩ := h3 i o ho
    exact ⟨row, e, ht.old hb⟩⟩, ⟨bs, by rw [hb.block _ (heap_lt k1)]; exact k1, k2, k3⟩⟩
/-- Read as a row of trees. -/
theorem MSt.at {w : World} {g1 g2 : Nat} {st : List (Option Ty)} (h : MSt w g1 g2 st) (hm : st.length ≤ maxLen) : TysAt w Any (tysOf st) (some ⟨g1, 0, none⟩) st.length st.length := by
  obtain ⟨-, ⟨cs, h1, h2, h3⟩, -⟩ := h
  refine ⟨by simp [tysOf], Nat.le_refl _, hm, fun i => cs.extract (i * 4) (i * 4 + 4), fun i t ht => ?_, fun i t ht => ?_⟩
  · exact ⟨g1, 0, cs, 24, (0, 0), rfl, trivial, h1, by rw [Nat.zero_add]⟩
  · simp only [tysOf, List.getElem?_map, Option.map_eq_some_iff] at ht
    obtain ⟨o, ho, rfl⟩ := ht
    obtain ⟨row, e, hta⟩ := h3 i o ho
    show TyAt w Any _ (cs.extract (i * 4) (i * 4 + 4))
    rw [e]
    exact hta.weak fun _ _ => trivial
theorem MSt.tree {w : World} {g1 g2 : Nat} {st : List (Option Ty)} (h : MSt w g1 g2 st) (hm : st.length ≤ maxLen) {i : Nat} {u : Ty} (ho : st[i]? = some (some u)) : ∃ row, RowK w ⟨g1, i * 4, none⟩ row ∧ TyAt w Any u row := by
  have := (h.at hm).rowK (i := i) (t := u) (tysOf_get ho)
  simpa using this
/-- The cells of a row with one tree put in. -/
def put4 (cs : Array Value) (i : Nat) (row : Array Value) : Array Value := (cs.toList.take (i * 4) ++ row.toList ++ cs.toList.drop (i * 4 + 4)).toArray
theorem put4_size {cs row : Array Value} {i : Nat} (hr : row.size = 4) (h : i * 4 + 4 ≤ cs.size) : (put4 cs i row).size = cs.size := by
  simp [put4, hr]; omega
theorem put4_same {cs row : Array Value} {i : Nat} (hr : row.size = 4) (h : i * 4 + 4 ≤ cs.size) : (put4 cs i row).extract (i * 4) (i * 4 + 4) = row := by
  apply Array.toList_inj.1
  have h1 : (cs.toList.take (i * 4)).length = i * 4 := by simp; omega
  simp only [put4, Array.toList_extract, List.extract_eq_take_drop, List.append_assoc]
  rw [List.drop_append_of_le_length (by omega), List.drop_of_length_le (by omega), List.nil_append, show i * 4 + 4 - i * 4 = row.toList.length by simp [hr], List.take_left']
  rfl
theorem put4_other {cs row : Array Value} {i j : Nat} (hr : row.size = 4) (h : i * 4 + 4 ≤ cs.size) (hj : j ≠ i) : (put4 cs i row).extract (j * 4) (j * 4 + 4) = cs.extract (j * 4) (j * 4 + 4) := by
  have h1 : (cs.toList.take (i * 4)).length = i * 4 := by simp; omega
  have hr2 : row.toList.length = 4 := by simp [hr]
  have key : ∀ m, (m < i * 4 ∨ i * 4 + 4 ≤ m) → (put4 cs i row)[m]? = cs[m]? := fun m hm => by
    rw [← Array.getElem?_toList, ← Array.getElem?_toList]
    simp only [put4, List.append_assoc]
    rcases hm with hm | hm
    · rw [List.getElem?_append_left (by omega), List.getElem?_take_of_lt hm]
    · rw [List.getElem?_append_right (by omega), List.getElem?_append_right (by omega), List.getElem?_drop]
      congr 1; omega
  apply Array.ext_getElem?
  intro m
  rw [Array.getElem?_extract, Array.getElem?_extract, put4_size hr h]
  split
  · exact key _ (by rcases Nat.lt_or_gt_of_ne hj with e | e <;> omega)
  · rfl
/-- What stands beside a match's two rows. -/
structure Fr (g1 g2 : Nat) (w w' : World) : Prop where
  keep : ∀ b, b < w.heap.size → b ≠ g1 → b ≠ g2 → w'.heap[b]? = w.heap[b]?
  bel : ∀ B' w0, B' ≤ g1 → B' ≤ g2 → B' ≤ w.heap.size → Below B' w0 w → Below B' w0 w'
theorem Fr.size {g1 g2 : Nat} {w w' : World} (h : Fr g1 g2 w w') : w.heap.size ≤ w'.heap.size := (h.bel 0 w (Nat.zero_le _) (Nat.zero_le _) (Nat.zero_le _) (Below.refl _ _)).size
theorem Fr.trans {g1 g2 : Nat} {w w1 w2 : World} (h : Fr g1 g2 w w1) (g : Fr g1 g2 w1 w2) : Fr g1 g2 w w2 where
  keep b hb h1 h2 := by
    have := h.size
    rw [g.keep b (by omega) h1 h2, h.keep b hb h1 h2]
  bel B' w0 h1 h2 h3 h4 := by
    have := h.size
    exact g.bel B' w0 h1 h2 (by omega) (h.bel B' w0 h1 h2 h3 h4)
theorem Fr.of {g1 g2 : Nat} {w w' : World} (hb : Below w.heap.size w w') : Fr g1 g2 w w' := ⟨fun b h _ _ => hb.block b h, fun _ _ _ _ h3 h4 => h4.trans (hb.mono h3)⟩
theorem run_store4 {w : World} {g i : Nat} {cs : Array Value} {k : Int} {s : ByteArray} {n : Int} {A : Option Addr} {l c : Nat} (hg : w.heap[g]? = some (.cells cs 24 (0, 0))) (h : i * 4 + 4 ≤ cs.size) :
    (storeVar 24 ⟨g, i * 4, none⟩ (.agg (cell4 k s n A l c))).run Tryd.prog w = .ok () (w.setRow g (put4 cs i (cell4 k s n A l c))) := by
  have h1 := run_storeCells_at (P := Tryd.prog) g (i * 4) 24 (cell4 k s n A l c).toList 0 cs w hg (by simp [cell4]; omega) (fun v hv => by simp [cell4] at hv; rcases hv with rfl | rfl | rfl | rfl <;> rfl)
  have hi := info24
  cases hq : Tryd.prog.info? 24 with
  | none => simp [hq] at hi
  | some i0 =>
    have hs : i0.size = 4 := by simpa [hq] using hi
    simp only [Nat.add_zero] at h1
    have hc : (cell4 k s n A l c).toList.length = 4 := rfl
    rw [hc] at h1
    have hz : (cell4 k s n A l c).size = 4 := rfl
    simp [storeVar, sizeOf, typeInfo, hq, Value.cells, hs, hz, h1, put4]
section
variable {ops : Array Oper} {rest : List Oper} {ty' : TypeId} {x y : Operand} {pos : String} {after : Array Edge} {a : Act} {w : World} {Q : Exit → Act → World → Prop}
theorem wl_store4 {g i : Nat} {cs : Array Value} {k : Int} {s : ByteArray} {n : Int} {A : Option Addr} {l c : Nat} (hx : a.eval x = .pointer (some ⟨g, i * 4, none⟩)) (hy : a.eval y = .agg (cell4 k s n A l c)) (hg : w.heap[g]? = some (.cells cs 24 (0, 0))) (hle : i * 4 + 4 ≤ cs.size)
    (h : wpList Tryd.prog ops Q rest (a.put none undef) (w.setRow g (put4 cs i (cell4 k s n A l c)))) : wpList Tryd.prog ops Q (⟨none, .store 24 x y, ty', pos, after, none⟩ :: rest) a w :=
  wpList_plain rfl fun _ hK => by
    unfold Oper.wp execOp
    simp only [hx, hy, Instr.storeAt, Instr.sureAddr, Sem.run_bind, Sem.run_pure, Result.andThen_ok, run_store4 hg hle]
    exact hK _ _ h
end
/-- A tree is known from now on. -/
theorem MSt.put {w : World} {g1 g2 : Nat} {st : List (Option Ty)} (h : MSt w g1 g2 st) {i : Nat} (hi : i < st.length) {t : Ty} {row : Array Value} (ht : TyAt w (fun b => b ≠ g1 ∧ b ≠ g2) t row) :
    ∃ cs, w.heap[g1]? = some (.cells cs 24 (0, 0)) ∧ i * 4 + 4 ≤ cs.size ∧ ((w.setRow g1 (put4 cs i row)).cell? ⟨g2, i, none⟩).isSome = true ∧ (w.setRow g1 (put4 cs i row)).frozen? ⟨g2, i, none⟩ = false ∧ MSt ((w.setRow g1 (put4 cs i row)).setCell ⟨g2, i, none⟩ (.bool true)) g1 g2 (st.set i (some t)) ∧ Fr g1 g2 w ((w.setRow g1 (put4 cs i row)).setCell ⟨g2, i, none⟩ (.bool true)) := by
  obtain ⟨h0, ⟨cs, h1, h2, h3⟩, ⟨bs, k1, k2, k3⟩⟩ := h
  have hr : row.size = 4 := ht.size
  have hle : i * 4 + 4 ≤ cs.size := by omega
  have hk1 : (w.setRow g1 (put4 cs i row)).heap[g2]? = some (.cells bs 4 (0, 0)) := by rw [setRow_other w g1 g2 _ (fun e => h0 e.symm)]; exact k1
  have hh1 : ((w.setRow g1 (put4 cs i row)).setCell ⟨g2, i, none⟩ (.bool true)).heap[g1]? = some (.cells (put4 cs i row) 24 (0, 0)) := by rw [heap_setCell_other _ _ _ _ h0]; exact hr_new h1
  have hoth : ∀ b, b ≠ g1 → b ≠ g2 → ((w.setRow g1 (put4 cs i row)).setCell ⟨g2, i, none⟩ (.bool true)).heap[b]? = w.heap[b]? := fun b e1 e2 => by rw [heap_setCell_other _ _ _ _ e2, setRow_other w g1 b _ e1]
  refine ⟨cs, h1, hle, by rw [cell_of_row _ _ _ _ _ _ hk1, Array.getElem?_eq_getElem (by omega)]; rfl, by unfold World.frozen?; rw [hk1]; rfl, ⟨h0, ⟨_, hh1, by rw [put4_size hr hle, List.length_set]; exact h2, fun j o hj => ?_⟩, ⟨_, hs_new hk1, by simp [k2], fun j o hj => ?_⟩⟩, ⟨fun b _ e1 e2 => hoth b e1 e2, fun B' w0 e1 e2 e3 e4 => (below_setRow e4 e1 _).setCell e2 _⟩⟩
  · by_cases e : j = i
    · subst e
      rw [List.getElem?_set_self hi] at hj
      cases hj
      exact ⟨_, put4_same hr hle, ht.mono (fun _ h => h) fun b hb => hoth b hb.1 hb.2⟩
    · rw [List.getElem?_set_ne (fun e2 => e e2.symm)] at hj
      obtain ⟨r, e1, e2⟩ := h3 j o hj
      exact ⟨r, by rw [put4_other hr hle e]; exact e1, e2.mono (fun _ h => h) fun b hb => hoth b hb.1 hb.2⟩
  · by_cases e : j = i
    · subst e
      rw [List.getElem?_set_self hi] at hj
      cases hj
      rw [Array.getElem?_setIfInBounds_self_of_lt (by omega)]
      rfl
    · rw [List.getElem?_set_ne (fun e2 => e e2.symm)] at hj
      rw [Array.getElem?_setIfInBounds_ne (fun e2 => e e2.symm)]
      exact k3 j o hj
open Go.RowKit Go.Proofs.YtokmaehefenpmaaDoor.Nm
set_option linter.unusedSimpArgs false
/-- A list of trees made by a call. -/
def NewOwn (w : World) (ts : List Ty) (e : Ending) (w' : World) : Prop := ∃ A l c, e = .returned (.slice A l c) ∧ OwnT w' w.heap.size (.slice A l c) ts ∧ Below w.heap.size w w'
def CopyC (t : Ty) : Prop := t.nodes ≤ 1000000 → ∀ (w : World) (D : Nat → Prop) (row : Array Value), TyAt w D t row → Calls Tryd.prog 53 #[.agg row] w (NewTy w t)
set_option maxHeartbeats 2000000 in
set_option maxRecDepth 100000 in
theorem CopyTypes_of (ts : List Ty) (ih : ∀ t, t ∈ ts → CopyC t) (hnl : nodesL ts ≤ 1000000) (A : Option Addr) (l c : Nat) (w : World) (D : Nat → Prop) (h : TysAt w D ts A l c) :
    Calls Tryd.prog 54 #[.slice A l c] w (NewOwn w ts) := by
  have HT := Lib.hid h
  have HL := Lib.hid h.len
  have hl6 : l ≤ 1000000 := by have := len_nodesL ts; have := h.len; omega
  have HI := Lib.hid fun t ht => ih t ht (Nat.le_trans (mem_nodesL ht) hnl)
  have hcm := h.cap
  have hmx := h.max
  unfold maxLen at hmx
  clear h ih hnl
  have hb := Below.refl w.heap.size w
  have HO := Lib.hid (OwnT.nil w w.heap.size)
  go_enter Tryd.func54, Tryd.ntmps54
  go_wp2_with fail
  go_loopw [3, 4] (fun v i wr => ∃ j : Nat, j ≤ l ∧ i = .int .i64 (j : Int) ∧ Hid (OwnT wr w.heap.size v (ts.take j)) ∧ Below w.heap.size w wr) (fun _ i _ => l - (intOf i).toNat)
  case atStart => exact ⟨0, by omega, rfl, HO, hb⟩
  case round =>
    clear hb HO
    obtain ⟨j, hj, rfl, HO, hb⟩ := hrel
    by_cases hlt : j < l
    · have hltI : (j : Int) < (l : Int) := by omega
      obtain ⟨b, off, t, row, rfl, -, ht, -⟩ := HT.out.get hlt
      obtain ⟨row, hrow, hta⟩ := (HT.out.old hb).rowK ht
      have HC := Lib.hid (HI.out t (List.mem_of_getElem? ht) wr D row hta)
      have HTK : Hid (ts.take (j + 1) = ts.take j ++ [t]) := Lib.hid (by rw [List.take_add_one, ht]; rfl)
      have hlen : (ts.take j).length ≤ 1000000 := by rw [List.length_take]; omega
      have HLN := Lib.hid hlen
      clear hta ht hlen
      go_upto_region 5 with (fail)
      apply wp_region_lit
      (with_reducible refine wl_k ?_ ?_); exact rfl; intro K hK; go_simp; refine hK _ ?_; clear hK K
      (with_reducible refine wl_k ?_ ?_); exact rfl; intro K hK; go_simp; refine hK _ ?_; clear hK K
      (with_reducible refine wl_k ?_ ?_); exact rfl; intro K hK; go_simp; refine hK _ ?_; clear hK K
      (with_reducible refine wl_k ?_ ?_); exact rfl; intro K hK; go_simp; refine hK _ ?_; clear hK K
      (first | ((with_reducible apply wl_oneG); exact rfl; exact rfl; first | exact f0 (by with_reducible assumption) | exact f1 (by with_reducible assumption) | exact f2 (by with_reducible assumption) | exact f3 (by with_reducible assumption) | with_reducible assumption | exact g22 (by with_reducible assumption) | exact g25 (by with_reducible assumption)) | ((with_reducible apply wl_rowG); exact rfl; exact rfl; first | with_reducible assumption | exact RowK.now (by with_reducible assumption) | exact f4 (by with_reducible assumption)))
      (with_reducible refine wl_ck ?_ ?_); exact rfl; intro K hK; go_simp; refine ⟨_, _, ⟨rfl, rfl⟩, hK _ _ ⟨_, HC.out, ?_⟩⟩; clear hK K; rintro e w7 ⟨row7, rfl, hta7, hb7⟩; refine ⟨_, rfl, ?_⟩; simp only [Zq]
      obtain ⟨k7, s7, n7, A7, l7, c7, ts7, rfl, rfl, -⟩ := hta7.parts
      have HA7 := Lib.hid (HO.out.apart hb.size hta7)
      replace HO := Lib.hid (HO.out.old hb7)
      clear hta7 HC hrow
      replace hb := hb.trans (hb7.mono hb.size); clear hb7
      have hb8 := Below.refl w7.heap.size w7
      (with_reducible refine wl_bs rfl ?_); intro w8 q hbn hlq hq; replace hb := hb.trans (hbn.mono hb.size); replace hb8 := hb8.trans (hbn.mono hb8.size); clear hbn; simp only [Zq]
      replace HA7 := Lib.hid (HA7.out.old hb8)
      replace HO := Lib.hid (HO.out.old hb8)
      refine wl_push rfl _ _ rfl rfl rfl HO.out HA7.out hq HLN.out hb.size ?_
      intro A9 l9 c9 w9 hown hk9 hbl
      replace hb := hbl _ _ (fun b hb => (HO.out.lt b hb).1) hb.size hb
      rw [← HTK.out] at hown
      replace HO := Lib.hid hown
      clear hown hk9 hbl HA7 hq hb8
      simp only [Zq]
      (with_reducible refine wl_k ?_ ?_); exact rfl; intro K hK; go_simp; refine hK _ ?_; clear hK K
      go_wp2_with fail
      go_roundw
      case rel => exact ⟨j + 1, by omega, by go_num, HO, hb⟩
      case measure => simp [intOf]; omega
    · have hltI : ¬ (j : Int) < (l : Int) := by omega
      replace HO : Hid (OwnT wr w.heap.size _ ts) := Lib.hid (by have := HO.out; rwa [List.take_of_length_le (by rw [HL.out]; omega)] at this)
      obtain ⟨A9, l9, c9, rfl, h9⟩ := HO.out.at
      clear h9
      go_wp2_with fail
      go_ret
      exact ⟨_, _, _, rfl, HO.out, hb⟩
set_option maxHeartbeats 2000000 in
set_option maxRecDepth 100000 in
theorem CopyType_any : ∀ t : Ty, CopyC t := Ty.ind fun k s n ts ih hnd w D row h => by
  obtain ⟨k1, s1, n1, A, l, c, ts1, e, rfl, hk, hn, hs, hT⟩ := h.parts
  cases e
  have HT := Lib.hid hT
  have HK := Lib.hid (show (Lit.int .i64 k).wf = true ∧ (Lit.int .i64 n).wf = true ∧ s.size ≤ maxLen from ⟨hk, hn, hs⟩)
  have HI := Lib.hid (show ∀ (w' : World), TysAt w' D ts A l c → Calls Tryd.prog 54 #[.slice A l c] w' (NewOwn w' ts) from fun w' h' => CopyTypes_of ts ih (by simp only [Ty.nodes] at hnd; omega) A l c w' D h')
  clear h hk hn hs hT ih hnd
  have hb := Below.refl w.heap.size w
  go_enter Tryd.func53, Tryd.ntmps53
  go_upto_region 0 with (fail)
  apply wp_region_lit
  (with_reducible refine wl_box rfl ?_); intro W p hbn hlp hp; replace hb := hb.trans (hbn.mono hb.size); clear hbn; simp only [Zq]
  have lthpq := heap_lt hp; (with_reducible refine wl_all ?_); intro W2 q hbn hlq hq; replace hp := below_look hbn hp; replace hb := hb.trans (hbn.mono hb.size); clear hbn; simp only [Zq]
  have HC := Lib.hid (HI.out W2 (HT.out.old hb))
  go_upto_region 1 with (fail)
  apply wp_region_lit
  (with_reducible refine wl_k ?_ ?_); exact rfl; intro K hK; go_simp; refine hK _ ?_; clear hK K
  (first | ((with_reducible apply wl_oneG); exact rfl; exact rfl; first | exact f0 (by with_reducible assumption) | exact f1 (by with_reducible assumption) | exact f2 (by with_reducible assumption) | exact f3 (by with_reducible assumption) | with_reducible assumption | exact g22 (by with_reducible assumption) | exact g25 (by with_reducible assumption)) | ((with_reducible apply wl_rowG); exact rfl; exact rfl; first | with_reducible assumption | exact RowK.now (by with_reducible assumption) | exact f4 (by with_reducible assumption)))
  (with_reducible refine wl_ck ?_ ?_); exact rfl; intro K hK; go_simp; refine ⟨_, _, ⟨rfl, rfl⟩, hK _ _ ⟨_, HC.out, ?_⟩⟩; clear hK K; rintro e w7 ⟨A7, l7, c7, rfl, hown7, hb7⟩; refine ⟨_, rfl, ?_⟩; simp only [Zq]
  obtain ⟨A7', l7', c7', he7, hta7⟩ := hown7.at
  cases he7
  clear hown7
  have hlp' := heap_lt hp
  have hlq' := heap_lt hq
  have HA := Lib.hid (hta7.weak (D' := fun b => w.heap.size ≤ b ∧ b ≠ p ∧ b ≠ q) fun b (hb : W2.heap.size ≤ b) => ⟨by have := hb; omega, by omega, by omega⟩)
  clear hta7 HC
  replace hp := below_look hb7 hp; replace hq := below_look hb7 hq; replace hb := hb.trans (hb7.mono hb.size); clear hb7
  (with_reducible refine wl_k ?_ ?_); exact rfl; intro K hK; go_simp; refine hK _ ?_; clear hK K
  (with_reducible refine wl_put3 rfl rfl hp ?_); rw [put_noneA]; intro W3 hbx hsz hkx hnx; replace hq := (hkx _ (by omega)).trans hq; replace hb := hbx _ _ (by omega) hb; clear hp; have hp := hnx; clear hnx
  replace HA := Lib.hid (HA.out.mono (fun _ h => h) (fun b h => hkx b h.2.1))
  clear hbx hkx hsz
  go_upto_region 2 with (fail)
  apply wp_region_lit
  (first | ((with_reducible apply wl_oneG); exact rfl; exact rfl; first | exact f0 (by with_reducible assumption) | exact f1 (by with_reducible assumption) | exact f2 (by with_reducible assumption) | exact f3 (by with_reducible assumption) | with_reducible assumption | exact g22 (by with_reducible assumption) | exact g25 (by with_reducible assumption)) | ((with_reducible apply wl_rowG); exact rfl; exact rfl; first | with_reducible assumption | exact RowK.now (by with_reducible assumption) | exact f4 (by with_reducible assumption)))
  (with_reducible refine wl_put rfl rfl hq ?_); rw [put_noneA]; intro W4 hbx hsz hkx hnx; replace hp := (hkx _ (by omega)).trans hp; replace hb := hbx _ _ (by omega) hb; clear hq; have hq := hnx; clear hnx
  replace HA := Lib.hid (HA.out.mono (fun _ h => h) (fun b h => hkx b h.2.2))
  clear hbx hkx hsz
  have HQ := Lib.hid hq
  clear hp hq
  go_wp2_with fail
  exact bodyPost_ret (res24 rfl _ _ q rfl HQ.out) rfl ⟨_, rfl, TyAt.of HK.out.1 HK.out.2.1 HK.out.2.2 (HA.out.weak fun b h => h.1), hb⟩
end Go.Proofs.YtokmaehefenpmaaDoor
namespace Go.Proofs.YtokmaehefenpmaaDoor
def varT (v : Nat) : Ty := .node 12 ⟨#[]⟩ (v : Int) []
theorem varT_inj {v w : Nat} (h : varT v = varT w) : v = w := by
  unfold varT at h
  injection h with _ _ h3
  omega
def fineB (m : Nat) (t : Ty) : Bool := decide (t.kind ≠ 0) && (decide (t.kind ≠ 12) || (decide (t.name = ⟨#[]⟩) && (t.args.isEmpty && decide (0 ≤ t.num ∧ t.num < (m : Int)))))
/-- Each variable of a tree is one of the first m, and no node is empty. -/
def FineV (m : Nat) (t : Ty) : Prop := t.all (fineB m) = true
theorem alls_iff {f : Ty → Bool} : ∀ {l : List Ty}, alls f l = true ↔ ∀ u, u ∈ l → u.all f = true
  | [] => by simp [alls]
  | t :: l => by simp [alls, alls_iff (l := l)]
theorem fine_node {m : Nat} {k : Int} {s : ByteArray} {n : Int} {l : List Ty} : FineV m (.node k s n l) ↔ fineB m (.node k s n l) = true ∧ ∀ u, u ∈ l → FineV m u := by
  unfold FineV
  simp only [Ty.all, Bool.and_eq_true, alls_iff]
theorem fine_var {m v : Nat} (h : v < m) : FineV m (varT v) := by
  unfold varT
  rw [fine_node]
  refine ⟨?_, fun u hu => by cases hu⟩
  simp [fineB, Ty.kind, Ty.name, Ty.args, Ty.num]
  omega
theorem FineV.cases {m : Nat} {t : Ty} (h : FineV m t) : (∃ v, v < m ∧ t = varT v) ∨ ∃ k s n l, t = .node k s n l ∧ k ≠ 12 ∧ k ≠ 0 ∧ ∀ u, u ∈ l → FineV m u := by
  cases t with | node k s n l => ?_
  rw [fine_node] at h
  obtain ⟨h1, h2⟩ := h
  simp only [fineB, Bool.and_eq_true, Bool.or_eq_true] at h1
  obtain ⟨h0, h1⟩ := h1
  have h0 : k ≠ 0 := of_decide_eq_true h0
  by_cases hk : k = 12
  · rcases h1 with h1 | ⟨h1, h3, h4⟩
    · exact absurd hk (show k ≠ 12 from of_decide_eq_true h1)
    have h1 : s = ⟨#[]⟩ := of_decide_eq_true h1
    have h3 : l = [] := List.isEmpty_iff.1 h3
    have h4 : 0 ≤ n ∧ n < (m : Int) := of_decide_eq_true h4
    refine Or.inl ⟨n.toNat, by omega, ?_⟩
    rw [hk, h1, h3, varT]
    congr 1
    omega
  · exact Or.inr ⟨k, s, n, l, rfl, hk, h0, h2⟩
theorem fine_mk {m : Nat} {k : Int} {s : ByteArray} {n : Int} {l : List Ty} (hk : k ≠ 12) (h0 : k ≠ 0) (h : ∀ u, u ∈ l → FineV m u) : FineV m (.node k s n l) := by
  rw [fine_node]
  exact ⟨by simp [fineB, Ty.kind, hk, h0], h⟩
theorem FineV.ind {m : Nat} {Q : Ty → Prop} (hv : ∀ v, v < m → Q (varT v)) (hn : ∀ k s n l, k ≠ 12 → k ≠ 0 → (∀ u, u ∈ l → FineV m u) → (∀ u, u ∈ l → Q u) → Q (.node k s n l)) : ∀ t, FineV m t → Q t := Ty.ind fun k s n l ih h => by
  rcases h.cases with ⟨v, h1, h2⟩ | ⟨k', s', n', l', e, h1, h2, h3⟩
  · rw [h2]; exact hv v h1
  · cases e
    exact hn k s n l h1 h2 h3 fun u hu => ih u hu (h3 u hu)
theorem FineV.kind {m : Nat} {t : Ty} (h : FineV m t) : t.kind ≠ 0 := by
  rcases h.cases with ⟨v, h1, rfl⟩ | ⟨k, s, n, l, rfl, h1, h2, h3⟩
  · show (12 : Int) ≠ 0; decide
  · exact h2
theorem FineV.is_var {m : Nat} {t : Ty} (h : FineV m t) (hk : t.kind = 12) : t.num.toNat < m ∧ t = varT t.num.toNat := by
  rcases h.cases with ⟨v, h1, rfl⟩ | ⟨k, s, n, l, rfl, h1, h2, h3⟩
  · have : (varT v).num.toNat = v := by simp [varT, Ty.num]
    rw [this]; exact ⟨h1, rfl⟩
  · exact absurd hk h1
/-- One variable replaced by a tree. -/
def selOne (v : Nat) (t x : Ty) : Option Ty := if x.kind = 12 ∧ x.num = (v : Int) then some t else none
def sub1 (v : Nat) (t : Ty) : Ty → Ty := repl (selOne v t)
theorem sub1_var (v w : Nat) (t : Ty) : sub1 v t (varT w) = if w = v then t else varT w := by
  unfold sub1
  by_cases h : w = v
  · rw [if_pos h, repl_some (u := t)]
    simp [selOne, varT, Ty.kind, Ty.num, h]
  · rw [if_neg h]
    unfold varT
    rw [repl_none]
    · rfl
    · simp [selOne, Ty.kind, Ty.num]; omega
theorem sub1_node {v : Nat} {t : Ty} {k : Int} {s : ByteArray} {n : Int} {l : List Ty} (hk : k ≠ 12) : sub1 v t (.node k s n l) = .node k s n (l.map (sub1 v t)) := by
  unfold sub1
  exact repl_none (by simp [selOne, Ty.kind, hk])
theorem app_var {sol : List Ty} {v : Nat} {u : Ty} (h : sol[v]? = some u) (hk : u.kind ≠ 0) : applyTy sol (varT v) = u := by
  unfold applyTy
  refine repl_some ?_
  simp [selVar, varT, Ty.kind, Ty.num, h]
  exact if_neg hk
theorem app_none {sol : List Ty} {v : Nat} (h : sol[v]? = none) : applyTy sol (varT v) = varT v := by
  unfold applyTy varT
  rw [repl_none]
  · rfl
  · simp only [selVar, Ty.kind, Ty.num, Int.toNat_natCast, h]
    simp
theorem app_node {sol : List Ty} {k : Int} {s : ByteArray} {n : Int} {l : List Ty} (hk : k ≠ 12) : applyTy sol (.node k s n l) = .node k s n (l.map (applyTy sol)) := by
  unfold applyTy
  exact repl_none (by simp [selVar, Ty.kind, hk])
theorem fine_sub1 {m v : Nat} {t : Ty} (ht : FineV m t) : ∀ x, FineV m x → FineV m (sub1 v t x) := FineV.ind (fun w hw => by
    rw [sub1_var]; split
    · exact ht
    · exact fine_var hw) fun k s n l h1 h2 _ ih => by
  rw [sub1_node h1]
  exact fine_mk h1 h2 fun u hu => by
    obtain ⟨x, hx, rfl⟩ := List.mem_map.1 hu
    exact ih x hx
mutual
/-- Whether a variable stands in a tree. -/
def Ty.occ (v : Nat) : Ty → Bool
  | .node k _ n l => decide (k = 12 ∧ n = (v : Int)) || occs v l
def occs (v : Nat) : List Ty → Bool
  | [] => false
  | t :: l => t.occ v || occs v l
end
theorem occs_iff {v : Nat} : ∀ {l : List Ty}, occs v l = true ↔ ∃ u, u ∈ l ∧ u.occ v = true
  | [] => by simp [occs]
  | t :: l => by simp [occs, occs_iff (l := l)]
theorem occ_var (v w : Nat) : (varT w).occ v = decide (w = v) := by
  unfold varT
  simp only [Ty.occ, occs, Bool.or_false]
  by_cases h : w = v
  · simp [h]
  · simp [h]; omega
theorem occ_node {v : Nat} {k : Int} {s : ByteArray} {n : Int} {l : List Ty} (hk : k ≠ 12) : (Ty.node k s n l).occ v = occs v l := by simp [Ty.occ, hk]
theorem sub1_absent {m v : Nat} {t : Ty} : ∀ x, FineV m x → x.occ v = false → sub1 v t x = x := FineV.ind (fun w _ h => by
    rw [occ_var] at h
    rw [sub1_var, if_neg (by simpa using h)]) fun k s n l h1 _ _ ih h => by
  rw [occ_node h1] at h
  rw [sub1_node h1]
  congr 1
  refine (List.map_congr_left fun u hu => ih u hu ?_).trans (List.map_id' l)
  cases hh : u.occ v with
  | false => rfl
  | true => rw [occs_iff.2 ⟨u, hu, hh⟩] at h; cases h
theorem sub1_gone {m v : Nat} {t : Ty} (ht : t.occ v = false) : ∀ x, FineV m x → (sub1 v t x).occ v = false := FineV.ind (fun w _ => by
    rw [sub1_var]; split
    · exact ht
    · rename_i h; rw [occ_var]; simp [h]) fun k s n l h1 _ _ ih => by
  rw [sub1_node h1, occ_node h1]
  cases hh : occs v (l.map (sub1 v t)) with
  | false => rfl
  | true =>
    obtain ⟨u, hu, h2⟩ := occs_iff.1 hh
    obtain ⟨x, hx, rfl⟩ := List.mem_map.1 hu
    rw [ih x hx] at h2; cases h2
/-- A solution: a tree for each variable; put in it does not change. -/
structure Good (m : Nat) (sol : List Ty) : Prop where
  len : sol.length = m
  fine : ∀ u, u ∈ sol → FineV m u
  idem : ∀ u, u ∈ sol → applyTy sol u = u
  size : ∀ u, u ∈ sol → u.nodes ≤ 40
theorem app_at {m : Nat} {sol : List Ty} (hl : sol.length = m) (hf : ∀ u, u ∈ sol → FineV m u) {v : Nat} (hv : v < m) : ∃ u, sol[v]? = some u ∧ u ∈ sol ∧ applyTy sol (varT v) = u := by
  have h : v < sol.length := by omega
  exact ⟨sol[v], by simp [h], List.getElem_mem h, app_var (by simp [h]) (hf _ (List.getElem_mem h)).kind⟩
theorem fine_app {m : Nat} {sol : List Ty} (hl : sol.length = m) (hf : ∀ u, u ∈ sol → FineV m u) : ∀ x, FineV m x → FineV m (applyTy sol x) := FineV.ind (fun v hv => by
    obtain ⟨u, h1, h2, h3⟩ := app_at hl hf hv
    rw [h3]; exact hf u h2) fun k s n l h1 h2 _ ih => by
  rw [app_node h1]
  exact fine_mk h1 h2 fun u hu => by
    obtain ⟨x, hx, rfl⟩ := List.mem_map.1 hu
    exact ih x hx
theorem app_app {m : Nat} {sol : List Ty} (h : Good m sol) : ∀ x, FineV m x → applyTy sol (applyTy sol x) = applyTy sol x := FineV.ind (fun v hv => by
    obtain ⟨u, h1, h2, h3⟩ := app_at h.len h.fine hv
    rw [h3, h.idem u h2]) fun k s n l h1 _ _ ih => by
  rw [app_node h1, app_node h1]
  congr 1
  rw [List.map_map]
  exact List.map_congr_left fun u hu => ih u hu
/-- A solution in which a further variable is replaced. -/
theorem app_map {m v : Nat} {t : Ty} {sol : List Ty} (hl : sol.length = m) (hf : ∀ u, u ∈ sol → FineV m u) (ht : FineV m t) : ∀ x, FineV m x → applyTy (sol.map (sub1 v t)) x = sub1 v t (applyTy sol x) := FineV.ind (fun w hw => by
    obtain ⟨u, h1, h2, h3⟩ := app_at hl hf hw
    rw [h3]
    exact app_var (by simp [h1]) (fine_sub1 ht u (hf u h2)).kind) fun k s n l h1 _ _ ih => by
  rw [app_node h1, app_node h1, sub1_node h1]
  congr 1
  rw [List.map_map]
  exact List.map_congr_left fun u hu => ih u hu
theorem nodesL_mem {t : Ty} : ∀ {l : List Ty}, t ∈ l → t.nodes ≤ nodesL l
  | [], h => by cases h
  | a :: l, h => by
    rcases List.mem_cons.1 h with rfl | h
    · simp only [nodesL]; omega
    · have := nodesL_mem h; simp only [nodesL]; omega
theorem nodesL_map {f : Ty → Ty} : ∀ {l : List Ty}, (∀ u, u ∈ l → u.nodes ≤ (f u).nodes) → nodesL l ≤ nodesL (l.map f)
  | [], _ => by simp [nodesL]
  | a :: l, h => by
    have h1 := h a (by simp)
    have h2 := nodesL_map (l := l) (f := f) fun u hu => h u (by simp [hu])
    simp only [List.map_cons, nodesL]; omega
theorem nodes_app {m : Nat} (sol : List Ty) : ∀ x, FineV m x → x.nodes ≤ (applyTy sol x).nodes := FineV.ind (fun v _ => by
    have := nodes_pos (applyTy sol (varT v))
    show (varT v).nodes ≤ _
    simp only [varT, Ty.nodes, nodesL] at *; omega) fun k s n l h1 _ _ ih => by
  rw [app_node h1]
  simp only [Ty.nodes]
  have := nodesL_map (f := applyTy sol) ih
  omega
theorem nodes_var (v : Nat) : (varT v).nodes = 1 := by simp [varT, Ty.nodes, nodesL]
open Go.RowKit Go.Proofs.YtokmaehefenpmaaDoor.Nm
set_option linter.unusedSimpArgs false
def OccC (v : Nat) (p : Ty) : Prop := ∀ (w : World) (D : Nat → Prop) (row : Array Value), TyAt w D p row →
  Calls Tryd.prog 122 #[.int .i64 (v : Int), .agg row] w fun e w' => e = .returned (.bool (p.occ v)) ∧ Below w.heap.size w w'
theorem occs_step {v : Nat} {ts : List Ty} {j : Nat} {u : Ty} (h : ts[j]? = some u) : occs v (ts.drop j) = (u.occ v || occs v (ts.drop (j + 1))) := by
  obtain ⟨h1, e1⟩ := List.getElem?_eq_some_iff.1 h
  rw [List.drop_eq_getElem_cons h1, e1, occs]
set_option maxHeartbeats 2000000 in
set_option maxRecDepth 100000 in
theorem Occurs_any (v : Nat) : ∀ p : Ty, OccC v p := Ty.ind fun k s n ts ih w D row h => by
  obtain ⟨k1, s1, n1, A, l, c, ts1, e, rfl, hk, hnn, hs, hT⟩ := h.parts
  cases e
  have HT := Lib.hid hT
  have HL := Lib.hid hT.len
  have HI := Lib.hid ih
  have hcm := hT.cap
  have hmx := hT.max
  unfold maxLen at hmx
  clear h hk hnn hs hT ih
  have hb := Below.refl w.heap.size w
  go_enter Tryd.func122, Tryd.ntmps122
  go_upto_region 0 with (fail)
  apply wp_region_lit
  (with_reducible refine wl_box rfl ?_); intro W p hbn hlp hp; replace hb := hb.trans (hbn.mono hb.size); clear hbn; simp only [Zq]
  (with_reducible refine wl_k ?_ ?_); exact rfl; intro K hK; go_simp; refine hK _ ?_; clear hK K
  go_upto_region 1 with (fail)
  go_cut [14] (fun s14 wx => ∃ b, s14 = .bool b ∧ Hid ((Ty.node k s n ts).occ v = (b || occs v ts)) ∧ Below w.heap.size w wx ∧ wx.heap[p]? = some (.cells (cell4 k s n A l c) 24 (0, 0)))
  case first =>
    by_cases hk : k = 12
    · have e1 : (k == 12) = true := by simp [hk]
      have HK := Lib.hid hk
      clear hk
      by_cases hv : n = (v : Int)
      · have e2 : (n == (v : Int)) = true := by simp [hv]
        have HF : Hid ((Ty.node k s n ts).occ v = (true || occs v ts)) := Lib.hid (by simp [Ty.occ, HK.out, hv])
        clear hv
        apply wp_region_lit
        (with_reducible refine wl_k ?_ ?_); exact rfl; intro K hK; go_simp; refine hK _ ?_; clear hK K
        (first | ((with_reducible apply wl_oneG); exact rfl; exact rfl; first | exact f0 (by with_reducible assumption) | exact f1 (by with_reducible assumption) | exact f2 (by with_reducible assumption) | exact f3 (by with_reducible assumption) | with_reducible assumption | exact g22 (by with_reducible assumption) | exact g25 (by with_reducible assumption)) | ((with_reducible apply wl_rowG); exact rfl; exact rfl; first | with_reducible assumption | exact RowK.now (by with_reducible assumption) | exact f4 (by with_reducible assumption)))
        (with_reducible refine wl_k ?_ ?_); exact rfl; intro K hK; go_simp; refine hK _ ?_; clear hK K
        (with_reducible refine wl_k ?_ ?_); exact rfl; intro K hK; go_simp; refine hK _ ?_; clear hK K
        (with_reducible refine wl_k ?_ ?_); exact rfl; intro K hK; go_simp; refine hK _ ?_; clear hK K
        (first | ((with_reducible apply wl_oneG); exact rfl; exact rfl; first | exact f0 (by with_reducible assumption) | exact f1 (by with_reducible assumption) | exact f2 (by with_reducible assumption) | exact f3 (by with_reducible assumption) | with_reducible assumption | exact g22 (by with_reducible assumption) | exact g25 (by with_reducible assumption)) | ((with_reducible apply wl_rowG); exact rfl; exact rfl; first | with_reducible assumption | exact RowK.now (by with_reducible assumption) | exact f4 (by with_reducible assumption)))
        (with_reducible refine wl_k ?_ ?_); exact rfl; intro K hK; go_simp; refine hK _ ?_; clear hK K
        (with_reducible refine wl_k ?_ ?_); exact rfl; intro K hK; go_simp; refine hK _ ?_; clear hK K
        (with_reducible refine wl_k ?_ ?_); exact rfl; intro K hK; go_simp; refine hK _ ?_; clear hK K
        go_wp2_with fail
        go_meet
        exact ⟨_, rfl, HF, hb, hp⟩
      · have e2 : (n == (v : Int)) = false := by simp [hv]
        have HF : Hid ((Ty.node k s n ts).occ v = (false || occs v ts)) := Lib.hid (by simp [Ty.occ, HK.out, hv])
        clear hv
        apply wp_region_lit
        (with_reducible refine wl_k ?_ ?_); exact rfl; intro K hK; go_simp; refine hK _ ?_; clear hK K
        (first | ((with_reducible apply wl_oneG); exact rfl; exact rfl; first | exact f0 (by with_reducible assumption) | exact f1 (by with_reducible assumption) | exact f2 (by with_reducible assumption) | exact f3 (by with_reducible assumption) | with_reducible assumption | exact g22 (by with_reducible assumption) | exact g25 (by with_reducible assumption)) | ((with_reducible apply wl_rowG); exact rfl; exact rfl; first | with_reducible assumption | exact RowK.now (by with_reducible assumption) | exact f4 (by with_reducible assumption)))
        (with_reducible refine wl_k ?_ ?_); exact rfl; intro K hK; go_simp; refine hK _ ?_; clear hK K
        (with_reducible refine wl_k ?_ ?_); exact rfl; intro K hK; go_simp; refine hK _ ?_; clear hK K
        (with_reducible refine wl_k ?_ ?_); exact rfl; intro K hK; go_simp; refine hK _ ?_; clear hK K
        (first | ((with_reducible apply wl_oneG); exact rfl; exact rfl; first | exact f0 (by with_reducible assumption) | exact f1 (by with_reducible assumption) | exact f2 (by with_reducible assumption) | exact f3 (by with_reducible assumption) | with_reducible assumption | exact g22 (by with_reducible assumption) | exact g25 (by with_reducible assumption)) | ((with_reducible apply wl_rowG); exact rfl; exact rfl; first | with_reducible assumption | exact RowK.now (by with_reducible assumption) | exact f4 (by with_reducible assumption)))
        (with_reducible refine wl_k ?_ ?_); exact rfl; intro K hK; go_simp; refine hK _ ?_; clear hK K
        (with_reducible refine wl_k ?_ ?_); exact rfl; intro K hK; go_simp; refine hK _ ?_; clear hK K
        (with_reducible refine wl_k ?_ ?_); exact rfl; intro K hK; go_simp; refine hK _ ?_; clear hK K
        go_wp2_with fail
        go_meet
        exact ⟨_, rfl, HF, hb, hp⟩
    · have e1 : (k == 12) = false := by simp [hk]
      have HF : Hid ((Ty.node k s n ts).occ v = (false || occs v ts)) := Lib.hid (by simp [Ty.occ, hk])
      clear hk
      apply wp_region_lit
      (with_reducible refine wl_k ?_ ?_); exact rfl; intro K hK; go_simp; refine hK _ ?_; clear hK K
      (first | ((with_reducible apply wl_oneG); exact rfl; exact rfl; first | exact f0 (by with_reducible assumption) | exact f1 (by with_reducible assumption) | exact f2 (by with_reducible assumption) | exact f3 (by with_reducible assumption) | with_reducible assumption | exact g22 (by with_reducible assumption) | exact g25 (by with_reducible assumption)) | ((with_reducible apply wl_rowG); exact rfl; exact rfl; first | with_reducible assumption | exact RowK.now (by with_reducible assumption) | exact f4 (by with_reducible assumption)))
      (with_reducible refine wl_k ?_ ?_); exact rfl; intro K hK; go_simp; refine hK _ ?_; clear hK K
      (with_reducible refine wl_k ?_ ?_); exact rfl; intro K hK; go_simp; refine hK _ ?_; clear hK K
      (first | ((with_reducible refine wl_skipU ?_ ?_ ?_); exact rfl; exact rfl) | ((with_reducible refine wl_skip ?_ ?_); exact rfl; simp only [Zq]))
      (first | ((with_reducible refine wl_skipU ?_ ?_ ?_); exact rfl; exact rfl) | ((with_reducible refine wl_skip ?_ ?_); exact rfl; simp only [Zq]))
      (first | ((with_reducible refine wl_skipU ?_ ?_ ?_); exact rfl; exact rfl) | ((with_reducible refine wl_skip ?_ ?_); exact rfl; simp only [Zq]))
      (first | ((with_reducible refine wl_skipU ?_ ?_ ?_); exact rfl; exact rfl) | ((with_reducible refine wl_skip ?_ ?_); exact rfl; simp only [Zq]))
      (with_reducible refine wl_k ?_ ?_); exact rfl; intro K hK; go_simp; refine hK _ ?_; clear hK K
      go_wp2_with fail
      go_meet
      exact ⟨_, rfl, HF, hb, hp⟩
  case rest =>
    clear hb hp
    obtain ⟨q, rfl, HQ, hb, hp⟩ := hcut
    cases q with
    | true =>
      go_upto_region 2 with (fail)
      apply wp_region_lit
      (with_reducible refine wl_k ?_ ?_); exact rfl; intro K hK; go_simp; refine hK _ ?_; clear hK K
      clear hp
      go_wp2_with fail
      go_ret
      exact ⟨by rw [HQ.out]; rfl, hb⟩
    | false =>
      have HF : Hid ((Ty.node k s n ts).occ v = occs v ts) := Lib.hid (by rw [HQ.out]; rfl)
      clear HQ
      go_wp2_with fail
      go_loopw [5] (fun i wr => ∃ j : Nat, j ≤ l ∧ i = .int .i64 (j : Int) ∧ Hid (occs v ts = occs v (ts.drop j)) ∧ Below w.heap.size w wr ∧ wr.heap[p]? = some (.cells (cell4 k s n A l c) 24 (0, 0))) (fun i _ => l - (intOf i).toNat)
      case atStart => exact ⟨0, by omega, rfl, Lib.hid rfl, hb, hp⟩
      case round =>
        clear hb hp
        obtain ⟨j, hj, rfl, HR, hb, hp⟩ := hrel
        go_upto_region 4 with (fail)
        by_cases hlt : j < l
        · have hltI : (j : Int) < (l : Int) := by omega
          obtain ⟨b, off, u, rowu, rfl, -, hu, -⟩ := (HT.out.old hb).get hlt
          obtain ⟨rowu, hru, htu⟩ := (HT.out.old hb).rowK hu
          have HSTEP := Lib.hid (occs_step (v := v) hu)
          have HC := Lib.hid (HI.out u (List.mem_of_getElem? hu) wr D rowu htu)
          obtain ⟨bb, hbb⟩ : ∃ bb, bb = u.occ v := ⟨_, rfl⟩
          rw [← hbb] at HSTEP HC
          clear hbb hu htu
          apply wp_region_lit
          (with_reducible refine wl_k ?_ ?_); exact rfl; intro K hK; go_simp; refine hK _ ?_; clear hK K
          (with_reducible refine wl_k ?_ ?_); exact rfl; intro K hK; go_simp; refine hK _ ?_; clear hK K
          (first | ((with_reducible apply wl_oneG); exact rfl; exact rfl; first | exact f0 (by with_reducible assumption) | exact f1 (by with_reducible assumption) | exact f2 (by with_reducible assumption) | exact f3 (by with_reducible assumption) | with_reducible assumption | exact g22 (by with_reducible assumption) | exact g25 (by with_reducible assumption)) | ((with_reducible apply wl_rowG); exact rfl; exact rfl; first | with_reducible assumption | exact RowK.now (by with_reducible assumption) | exact f4 (by with_reducible assumption)))
          (with_reducible refine wl_k ?_ ?_); exact rfl; intro K hK; go_simp; refine hK _ ?_; clear hK K
          (with_reducible refine wl_k ?_ ?_); exact rfl; intro K hK; go_simp; refine hK _ ?_; clear hK K
          go_upto_region 6 with (fail)
          apply wp_region_lit
          (with_reducible refine wl_k ?_ ?_); exact rfl; intro K hK; go_simp; refine hK _ ?_; clear hK K
          (with_reducible refine wl_k ?_ ?_); exact rfl; intro K hK; go_simp; refine hK _ ?_; clear hK K
          (first | ((with_reducible apply wl_oneG); exact rfl; exact rfl; first | exact f0 (by with_reducible assumption) | exact f1 (by with_reducible assumption) | exact f2 (by with_reducible assumption) | exact f3 (by with_reducible assumption) | with_reducible assumption | exact g22 (by with_reducible assumption) | exact g25 (by with_reducible assumption)) | ((with_reducible apply wl_rowG); exact rfl; exact rfl; first | with_reducible assumption | exact RowK.now (by with_reducible assumption) | exact f4 (by with_reducible assumption)))
          (with_reducible refine wl_k ?_ ?_); exact rfl; intro K hK; go_simp; refine hK _ ?_; clear hK K
          (with_reducible refine wl_k ?_ ?_); exact rfl; intro K hK; go_simp; refine hK _ ?_; clear hK K
          (first | ((with_reducible apply wl_oneG); exact rfl; exact rfl; first | exact f0 (by with_reducible assumption) | exact f1 (by with_reducible assumption) | exact f2 (by with_reducible assumption) | exact f3 (by with_reducible assumption) | with_reducible assumption | exact g22 (by with_reducible assumption) | exact g25 (by with_reducible assumption)) | ((with_reducible apply wl_rowG); exact rfl; exact rfl; first | with_reducible assumption | exact RowK.now (by with_reducible assumption) | exact f4 (by with_reducible assumption)))
          (with_reducible refine wl_ck ?_ ?_); exact rfl; intro K hK; go_simp; refine ⟨_, _, ⟨rfl, rfl⟩, hK _ _ ⟨_, HC.out, ?_⟩⟩; clear hK K; rintro e w7 ⟨rfl, hb7⟩; refine ⟨_, rfl, ?_⟩; simp only [Zq]
          clear hru HC
          replace hp := below_look hb7 hp; replace hb := hb.trans (hb7.mono hb.size); clear hb7
          cases bb with
          | true =>
            have HF2 : Hid ((Ty.node k s n ts).occ v = true) := Lib.hid (by rw [HF.out, HR.out, HSTEP.out]; rfl)
            clear hp HR HSTEP HF
            go_wp2_with fail
            go_ret
            exact ⟨by rw [HF2.out]; rfl, hb⟩
          | false =>
            have HR2 : Hid (occs v ts = occs v (ts.drop (j + 1))) := Lib.hid (by rw [HR.out, HSTEP.out]; rfl)
            clear HR HSTEP
            go_wp2_with fail
            go_roundw
            case rel => exact ⟨j + 1, by omega, by go_num, HR2, hb, hp⟩
            case measure => simp [intOf]; omega
        · have hltI : ¬ (j : Int) < (l : Int) := by omega
          have HF2 : Hid ((Ty.node k s n ts).occ v = false) := Lib.hid (by rw [HF.out, HR.out, List.drop_of_length_le (by rw [HL.out]; omega), occs])
          apply wp_region_lit
          (with_reducible refine wl_k ?_ ?_); exact rfl; intro K hK; go_simp; refine hK _ ?_; clear hK K
          (with_reducible refine wl_k ?_ ?_); exact rfl; intro K hK; go_simp; refine hK _ ?_; clear hK K
          (first | ((with_reducible apply wl_oneG); exact rfl; exact rfl; first | exact f0 (by with_reducible assumption) | exact f1 (by with_reducible assumption) | exact f2 (by with_reducible assumption) | exact f3 (by with_reducible assumption) | with_reducible assumption | exact g22 (by with_reducible assumption) | exact g25 (by with_reducible assumption)) | ((with_reducible apply wl_rowG); exact rfl; exact rfl; first | with_reducible assumption | exact RowK.now (by with_reducible assumption) | exact f4 (by with_reducible assumption)))
          (with_reducible refine wl_k ?_ ?_); exact rfl; intro K hK; go_simp; refine hK _ ?_; clear hK K
          (with_reducible refine wl_k ?_ ?_); exact rfl; intro K hK; go_simp; refine hK _ ?_; clear hK K
          clear hp HR HF
          go_wp2_with fail
          go_ret
          exact ⟨by rw [HF2.out]; rfl, hb⟩
theorem zero_at (w : World) (D : Nat → Prop) : TyAt w D zeroTy (cell4 0 ⟨#[]⟩ 0 none 0 0) := TyAt.of (by rfl) (by rfl) (Nat.zero_le _) (TysAt.nil w D)
/-- A call of a function value that the walk does not know. -/
theorem wl_fv {ops : Array Oper} {rest : List Oper} {o : Oper} {a : Act} {w : World} {Q : Exit → Act → World → Prop} (hg : o.guard = none) (x y : Operand) (T : Array TypeId) (ho : o.op = .call { callee := .value x, args := #[y], argTypes := T }) {K : FuncId} {caps : Array Value} {v : Value}
    (hx : a.eval x = .func (.func K) #[] caps) (hy : a.eval y = v) (hE : Enters Tryd.prog K) {R : Ending → World → Prop} (hc : Calls Tryd.prog K (#[v] ++ caps) w R) (h : ∀ e w1, R e w1 → ∃ u, e = .returned u ∧ wpList Tryd.prog ops Q rest (a.put o.dst u) w1) : wpList Tryd.prog ops Q (o :: rest) a w := by
  refine wpList_plain hg fun K' hK => ?_
  have hv : (execOp a.eval o).run Tryd.prog w = .ok (.enter K (#[v] ++ caps)) w := by
    unfold execOp
    simp only [ho, resolve, Deferred.ofValue, invoke, hx, hy, Sem.run_bind, Sem.run_pure, Result.andThen_ok, List.map_toArray, List.map_cons, List.map_nil]
    simpa using hE (#[v] ++ caps) w
  unfold Oper.wp; rw [hv]
  refine hc.mono fun e w1 hr => ?_
  obtain ⟨u, rfl, h2⟩ := h e w1 hr
  exact hK _ _ h2
def FPost (w : World) (o : Option Ty) (e : Ending) (w' : World) : Prop := ∃ row, e = .returned (.tuple #[.agg row, .bool o.isSome]) ∧ TyAt w' (fun b => w.heap.size ≤ b) (o.getD zeroTy) row ∧ Below w.heap.size w w'
/-- A function value that says by what a node is replaced. -/
structure FnC (K : FuncId) (caps : Array Value) (g : Ty → Option Ty) (w0 : World) : Prop where
  ent : Enters Tryd.prog K
  run : ∀ w, Below w0.heap.size w0 w → ∀ (t : Ty) (D : Nat → Prop) (row : Array Value), TyAt w D t row → Calls Tryd.prog K (#[.agg row] ++ caps) w (FPost w (g t))
def ReplC (g : Ty → Option Ty) (t : Ty) : Prop := t.nodes ≤ 1000000 → ∀ (K : FuncId) (caps : Array Value) (w0 : World), FnC K caps g w0 → ∀ (w : World), Below w0.heap.size w0 w → ∀ (D : Nat → Prop) (row : Array Value), TyAt w D t row →
  Calls Tryd.prog 48 #[.agg row, .func (.func K) #[] caps] w (NewTy w (repl g t))
set_option maxHeartbeats 4000000 in
set_option maxRecDepth 100000 in
theorem replaced_any (g : Ty → Option Ty) : ∀ t : Ty, ReplC g t := Ty.ind fun k s n ts ih hnd K caps w0 hF w hw0 D row h => by
  obtain ⟨k1, s1, n1, A, l, c, ts1, e, rfl, hk, hn, hs, hT⟩ := h.parts
  cases e
  have HT := Lib.hid hT
  have HTA := Lib.hid h
  have HL := Lib.hid hT.len
  have hcm := hT.cap
  have hmx := hT.max
  unfold maxLen at hmx
  have hl6 : l ≤ 1000000 := by have := len_nodesL ts; have := hT.len; simp only [Ty.nodes] at hnd; omega
  have HK := Lib.hid (show (Lit.int .i64 k).wf = true ∧ (Lit.int .i64 n).wf = true ∧ s.size ≤ maxLen from ⟨hk, hn, hs⟩)
  have HF := Lib.hid hF
  have HE := Lib.hid hF.ent
  have HW0 := Lib.hid hw0
  have HI := Lib.hid (fun t (ht : t ∈ ts) => ih t ht (by have := mem_nodesL ht; simp only [Ty.nodes] at hnd; omega) K caps w0 hF)
  clear h hk hn hs hT ih hnd hF hw0
  have hb := Below.refl w.heap.size w
  go_enter Tryd.func48, Tryd.ntmps48
  go_upto_region 0 with (fail)
  apply wp_region_lit
  (with_reducible refine wl_box rfl ?_); intro W p hbn hlp hp; replace hb := hb.trans (hbn.mono hb.size); clear hbn; simp only [Zq]
  have lthpr := heap_lt hp; (with_reducible refine wl_all ?_); intro W2 r hbn hlr hr; replace hp := below_look hbn hp; replace hb := hb.trans (hbn.mono hb.size); clear hbn; simp only [Zq]
  have HC := Lib.hid (HF.out.run W2 (HW0.out.trans (hb.mono HW0.out.size)) _ D _ (HTA.out.old hb))
  go_upto_region 1 with (fail)
  cases hg : g (.node k s n ts) with
  | some u =>
    have HG := Lib.hid (repl_some hg)
    rw [hg] at HC
    clear hg
    apply wp_region_lit
    (with_reducible refine wl_k ?_ ?_); exact rfl; intro K hK; go_simp; refine hK _ ?_; clear hK K
    (first | ((with_reducible apply wl_oneG); exact rfl; exact rfl; first | exact f0 (by with_reducible assumption) | exact f1 (by with_reducible assumption) | exact f2 (by with_reducible assumption) | exact f3 (by with_reducible assumption) | with_reducible assumption | exact g22 (by with_reducible assumption) | exact g25 (by with_reducible assumption)) | ((with_reducible apply wl_rowG); exact rfl; exact rfl; first | with_reducible assumption | exact RowK.now (by with_reducible assumption) | exact f4 (by with_reducible assumption)))
    refine wl_fv rfl _ _ _ rfl rfl rfl HE.out HC.out ?_
    rintro e w7 ⟨row7, rfl, hta7, hb7⟩
    refine ⟨_, rfl, ?_⟩
    simp only [Zq]
    obtain ⟨k7, s7, n7, A7, l7, c7, ts7, hu7, rfl, -⟩ := hta7.parts
    have hlp' := heap_lt hp
    have hlr' := heap_lt hr
    have HA := Lib.hid (hta7.weak (D' := fun b => w.heap.size ≤ b ∧ b ≠ p ∧ b ≠ r) fun b (hb : W2.heap.size ≤ b) => ⟨by have := hb; omega, by omega, by omega⟩)
    clear hta7 HC hu7
    replace hp := below_look hb7 hp; replace hr := below_look hb7 hr; replace hb := hb.trans (hb7.mono hb.size); clear hb7
    have hb8 := Below.refl w7.heap.size w7
    (with_reducible refine wl_k ?_ ?_); exact rfl; intro K hK; go_simp; refine hK _ ?_; clear hK K
    (with_reducible refine wl_k ?_ ?_); exact rfl; intro K hK; go_simp; refine hK _ ?_; clear hK K
    (with_reducible refine wl_k ?_ ?_); exact rfl; intro K hK; go_simp; refine hK _ ?_; clear hK K
    have lthpq := heap_lt hp; have lthrq := heap_lt hr; (with_reducible refine wl_all ?_); intro W3 q hbn hlq hq; replace hp := below_look hbn hp; replace hr := below_look hbn hr; replace hb := hb.trans (hbn.mono hb.size); replace hb8 := hb8.trans (hbn.mono hb8.size); clear hbn; simp only [Zq]
    have hpq := heap_lt hq
    (with_reducible refine wl_put rfl rfl hq ?_); rw [put_noneA]; intro W4 hbx hsz hkx hnx; replace hp := (hkx _ (by omega)).trans hp; replace hr := (hkx _ (by omega)).trans hr; replace hb := hbx _ _ (by omega) hb; replace hb8 := hbx _ _ (by omega) hb8; clear hq; have hq := hnx; clear hnx
    clear hbx hkx hsz
    replace HA := Lib.hid (HA.out.old hb8)
    clear hb8
    (with_reducible refine wl_k ?_ ?_); exact rfl; intro K hK; go_simp; refine hK _ ?_; clear hK K
    go_upto_region 3 with (fail)
    apply wp_region_lit
    (first | ((with_reducible apply wl_oneG); exact rfl; exact rfl; first | exact f0 (by with_reducible assumption) | exact f1 (by with_reducible assumption) | exact f2 (by with_reducible assumption) | exact f3 (by with_reducible assumption) | with_reducible assumption | exact g22 (by with_reducible assumption) | exact g25 (by with_reducible assumption)) | ((with_reducible apply wl_rowG); exact rfl; exact rfl; first | with_reducible assumption | exact RowK.now (by with_reducible assumption) | exact f4 (by with_reducible assumption)))
    (with_reducible refine wl_put rfl rfl hr ?_); rw [put_noneA]; intro W5 hbx hsz hkx hnx; replace hb := hbx _ _ (by omega) hb; clear hr; have hr := hnx; clear hnx
    replace HA := Lib.hid (HA.out.mono (fun _ h => h) (fun b h => hkx b h.2.2))
    clear hbx hkx hsz
    have HQ := Lib.hid hr
    clear hp hr hq
    go_wp2_with fail
    exact bodyPost_ret (res24 rfl _ _ r rfl HQ.out) rfl ⟨_, rfl, by rw [HG.out]; exact HA.out.weak fun b h => h.1, hb⟩
  | none =>
    have HG := Lib.hid (repl_none hg)
    rw [hg] at HC
    clear hg
    apply wp_region_lit
    (with_reducible refine wl_k ?_ ?_); exact rfl; intro K hK; go_simp; refine hK _ ?_; clear hK K
    (first | ((with_reducible apply wl_oneG); exact rfl; exact rfl; first | exact f0 (by with_reducible assumption) | exact f1 (by with_reducible assumption) | exact f2 (by with_reducible assumption) | exact f3 (by with_reducible assumption) | with_reducible assumption | exact g22 (by with_reducible assumption) | exact g25 (by with_reducible assumption)) | ((with_reducible apply wl_rowG); exact rfl; exact rfl; first | with_reducible assumption | exact RowK.now (by with_reducible assumption) | exact f4 (by with_reducible assumption)))
    refine wl_fv rfl _ _ _ rfl rfl rfl HE.out HC.out ?_
    rintro e w7 ⟨row7, rfl, hta7, hb7⟩
    refine ⟨_, rfl, ?_⟩
    simp only [Zq]
    obtain ⟨k7, s7, n7, A7, l7, c7, ts7, hu7, rfl, -⟩ := hta7.parts
    clear hta7 HC hu7
    replace hp := below_look hb7 hp; replace hr := below_look hb7 hr; replace hb := hb.trans (hb7.mono hb.size); clear hb7
    (with_reducible refine wl_k ?_ ?_); exact rfl; intro K hK; go_simp; refine hK _ ?_; clear hK K
    (with_reducible refine wl_k ?_ ?_); exact rfl; intro K hK; go_simp; refine hK _ ?_; clear hK K
    (with_reducible refine wl_k ?_ ?_); exact rfl; intro K hK; go_simp; refine hK _ ?_; clear hK K
    have lthpq := heap_lt hp; have lthrq := heap_lt hr; (with_reducible refine wl_all ?_); intro W3 q hbn hlq hq; replace hp := below_look hbn hp; replace hr := below_look hbn hr; replace hb := hb.trans (hbn.mono hb.size); clear hbn; simp only [Zq]
    have hpq := heap_lt hq
    (with_reducible refine wl_put rfl rfl hq ?_); rw [put_noneA]; intro W4 hbx hsz hkx hnx; replace hp := (hkx _ (by omega)).trans hp; replace hr := (hkx _ (by omega)).trans hr; replace hb := hbx _ _ (by omega) hb; clear hq; have hq := hnx; clear hnx
    clear hbx hkx hsz
    (with_reducible refine wl_k ?_ ?_); exact rfl; intro K hK; go_simp; refine hK _ ?_; clear hK K
    go_upto_region 4 with (fail)
    apply wp_region_lit
    (first | ((with_reducible apply wl_oneG); exact rfl; exact rfl; first | exact f0 (by with_reducible assumption) | exact f1 (by with_reducible assumption) | exact f2 (by with_reducible assumption) | exact f3 (by with_reducible assumption) | with_reducible assumption | exact g22 (by with_reducible assumption) | exact g25 (by with_reducible assumption)) | ((with_reducible apply wl_rowG); exact rfl; exact rfl; first | with_reducible assumption | exact RowK.now (by with_reducible assumption) | exact f4 (by with_reducible assumption)))
    have lthpo := heap_lt hp; have lthro := heap_lt hr; (with_reducible refine wl_all ?_); intro W5 o hbn hlo ho; replace hp := below_look hbn hp; replace hr := below_look hbn hr; replace hb := hb.trans (hbn.mono hb.size); clear hbn; simp only [Zq]
    (with_reducible refine wl_put rfl rfl ho ?_); rw [put_noneA]; intro W6 hbx hsz hkx hnx; replace hp := (hkx _ (by omega)).trans hp; replace hr := (hkx _ (by omega)).trans hr; replace hb := hbx _ _ (by omega) hb; clear ho; have ho := hnx; clear hnx
    clear hbx hkx hsz
    go_upto_region 5 with (fail)
    apply wp_region_lit
    (with_reducible refine wl_k ?_ ?_); exact rfl; intro K hK; go_simp; refine hK _ ?_; clear hK K
    (with_reducible refine wl_put3 rfl rfl ho ?_); rw [put_noneA]; intro W7 hbx hsz hkx hnx; replace hp := (hkx _ (by omega)).trans hp; replace hr := (hkx _ (by omega)).trans hr; replace hb := hbx _ _ (by omega) hb; clear ho; have ho := hnx; clear hnx
    clear hbx hkx hsz
    have hlo2 := heap_lt ho
    have HO := Lib.hid (OwnT.nil W7 W7.heap.size)
    obtain ⟨B2, hB2⟩ : ∃ B2, B2 = W7.heap.size := ⟨_, rfl⟩
    rw [← hB2] at HO
    have hB3 : B2 ≤ W7.heap.size := by omega
    have hoB : o < B2 := by omega
    have hpB : p < B2 := by have := heap_lt hp; omega
    have hrB : r < B2 := by have := heap_lt hr; omega
    clear hB2 hlo2 hq hpq
    go_upto_region 6 with (fail)
    apply wp_region_lit
    (with_reducible refine wl_k ?_ ?_); exact rfl; intro K hK; go_simp; refine hK _ ?_; clear hK K
    (first | ((with_reducible apply wl_oneG); exact rfl; exact rfl; first | exact f0 (by with_reducible assumption) | exact f1 (by with_reducible assumption) | exact f2 (by with_reducible assumption) | exact f3 (by with_reducible assumption) | with_reducible assumption | exact g22 (by with_reducible assumption) | exact g25 (by with_reducible assumption)) | ((with_reducible apply wl_rowG); exact rfl; exact rfl; first | with_reducible assumption | exact RowK.now (by with_reducible assumption) | exact f4 (by with_reducible assumption)))
    (with_reducible refine wl_k ?_ ?_); exact rfl; intro K hK; go_simp; refine hK _ ?_; clear hK K
    (with_reducible refine wl_k ?_ ?_); exact rfl; intro K hK; go_simp; refine hK _ ?_; clear hK K
    go_wp2_with fail
    go_loopw [24] (fun i wr => ∃ (j : Nat) (A' : Option Addr) (l' c' : Nat), j ≤ l ∧ i = .int .i64 (j : Int) ∧ Hid (OwnT wr B2 (.slice A' l' c') ((ts.take j).map (repl g))) ∧ Below w.heap.size w wr ∧ B2 ≤ wr.heap.size ∧ wr.heap[p]? = some (.cells (cell4 k s n A l c) 24 (0, 0)) ∧ wr.heap[r]? = some (.cells (cell4 0 ⟨#[]⟩ 0 none 0 0) 24 (0, 0)) ∧ wr.heap[o]? = some (.cells (cell4 k s n A' l' c') 24 (0, 0))) (fun i _ => l - (intOf i).toNat)
    case atStart => exact ⟨0, none, 0, 0, by omega, rfl, HO, hb, hB3, hp, hr, ho⟩
    case round =>
      clear hb HO hp hr ho hB3
      obtain ⟨j, A1, l1, c1, hj, rfl, HO, hb, hB3, hp, hr, ho⟩ := hrel
      by_cases hlt : j < l
      · have hltI : (j : Int) < (l : Int) := by omega
        obtain ⟨b, off, t, row, rfl, -, ht, -⟩ := HT.out.get hlt
        obtain ⟨row, hrow, hta⟩ := (HT.out.old hb).rowK ht
        obtain ⟨k3, s3, n3, A3, l3, c3, ts3, ht3, rfl, -⟩ := hta.parts
        have HTB := Lib.hid hta
        have HTK : Hid ((ts.take (j + 1)).map (repl g) = (ts.take j).map (repl g) ++ [repl g t]) := Lib.hid (by rw [List.take_add_one, ht]; simp)
        have HLN : Hid (((ts.take j).map (repl g)).length ≤ 1000000) := Lib.hid (by rw [List.length_map, List.length_take]; omega)
        have HM := Lib.hid (List.mem_of_getElem? ht)
        clear hta ht ht3
        have hz := Below.refl wr.heap.size wr
        have hBW := hB3
        go_upto_region 8 with (fail)
        apply wp_region_lit
        (with_reducible refine wl_k ?_ ?_); exact rfl; intro K hK; go_simp; refine hK _ ?_; clear hK K
        (first | ((with_reducible apply wl_oneG); exact rfl; exact rfl; first | exact f0 (by with_reducible assumption) | exact f1 (by with_reducible assumption) | exact f2 (by with_reducible assumption) | exact f3 (by with_reducible assumption) | with_reducible assumption | exact g22 (by with_reducible assumption) | exact g25 (by with_reducible assumption)) | ((with_reducible apply wl_rowG); exact rfl; exact rfl; first | with_reducible assumption | exact RowK.now (by with_reducible assumption) | exact f4 (by with_reducible assumption)))
        have lthpq := heap_lt hp; have lthrq := heap_lt hr; have lthoq := heap_lt ho; (with_reducible refine wl_all ?_); intro X1 q hbn hlq hq; replace hp := below_look hbn hp; replace hr := below_look hbn hr; replace ho := below_look hbn ho; replace hb := hb.trans (hbn.mono hb.size); replace hz := hz.trans (hbn.mono hz.size); clear hbn; simp only [Zq]
        (with_reducible refine wl_put rfl rfl hq ?_); rw [put_noneA]; intro X2 hbx hsz hkx hnx; replace hp := (hkx _ (by omega)).trans hp; replace hr := (hkx _ (by omega)).trans hr; replace ho := (hkx _ (by omega)).trans ho; replace hb := hbx _ _ (by omega) hb; replace hz := hbx _ _ (by omega) hz; clear hq; have hq := hnx; clear hnx
        clear hbx hkx hsz
        have HC := Lib.hid (HI.out t HM.out X2 (HW0.out.trans (hb.mono HW0.out.size)) D _ (HTB.out.old hz))
        have hzs := hz.size
        clear hrow HM HTB
        go_upto_region 9 with (fail)
        apply wp_region_lit
        (first | ((with_reducible apply wl_oneG); exact rfl; exact rfl; first | exact f0 (by with_reducible assumption) | exact f1 (by with_reducible assumption) | exact f2 (by with_reducible assumption) | exact f3 (by with_reducible assumption) | with_reducible assumption | exact g22 (by with_reducible assumption) | exact g25 (by with_reducible assumption)) | ((with_reducible apply wl_rowG); exact rfl; exact rfl; first | with_reducible assumption | exact RowK.now (by with_reducible assumption) | exact f4 (by with_reducible assumption)))
        (with_reducible refine wl_k ?_ ?_); exact rfl; intro K hK; go_simp; refine hK _ ?_; clear hK K
        (with_reducible refine wl_ck ?_ ?_); exact rfl; intro K hK; go_simp; refine ⟨_, _, ⟨rfl, rfl⟩, hK _ _ ⟨_, HC.out, ?_⟩⟩; clear hK K; rintro e w7 ⟨row7, rfl, hta7, hb7⟩; refine ⟨_, rfl, ?_⟩; simp only [Zq]
        obtain ⟨k7, s7, n7, A7, l7, c7, ts7, hu7, rfl, -⟩ := hta7.parts
        have HA7 := Lib.hid (HO.out.apart hB3 (hta7.weak (D' := fun b => wr.heap.size ≤ b) fun b (h : X2.heap.size ≤ b) => Nat.le_trans hz.size h))
        have hzz := hb7.size
        clear hta7 HC hu7 hq
        replace hp := below_look hb7 hp; replace hr := below_look hb7 hr; replace ho := below_look hb7 ho; replace hb := hb.trans (hb7.mono hb.size); replace hz := hz.trans (hb7.mono hz.size); clear hb7
        have hb8 := Below.refl w7.heap.size w7
        have lthpq2 := heap_lt hp; have lthrq2 := heap_lt hr; have lthoq2 := heap_lt ho; (with_reducible refine wl_all ?_); intro X3 q2 hbn hlq2 hq2; replace hp := below_look hbn hp; replace hr := below_look hbn hr; replace ho := below_look hbn ho; replace hb := hb.trans (hbn.mono hb.size); replace hz := hz.trans (hbn.mono hz.size); replace hb8 := hb8.trans (hbn.mono hb8.size); clear hbn; simp only [Zq]
        (with_reducible refine wl_put rfl rfl hq2 ?_); rw [put_noneA]; intro X4 hbx hsz hkx hnx; replace hp := (hkx _ (by omega)).trans hp; replace hr := (hkx _ (by omega)).trans hr; replace ho := (hkx _ (by omega)).trans ho; replace hb := hbx _ _ (by omega) hb; replace hz := hbx _ _ (by omega) hz; replace hb8 := hbx _ _ (by omega) hb8; clear hq2; have hq2 := hnx; clear hnx
        clear hbx hkx hsz
        replace HA7 := Lib.hid (HA7.out.old hb8)
        replace HO := Lib.hid (HO.out.old hz)
        have hB4 := hz.size
        clear hb8 hz
        go_upto_region 10 with (fail)
        have hb8 := Below.refl X4.heap.size X4
        apply wp_region_lit
        (with_reducible refine wl_k ?_ ?_); exact rfl; intro K hK; go_simp; refine hK _ ?_; clear hK K
        (first | ((with_reducible apply wl_oneG); exact rfl; exact rfl; first | exact f0 (by with_reducible assumption) | exact f1 (by with_reducible assumption) | exact f2 (by with_reducible assumption) | exact f3 (by with_reducible assumption) | with_reducible assumption | exact g22 (by with_reducible assumption) | exact g25 (by with_reducible assumption)) | ((with_reducible apply wl_rowG); exact rfl; exact rfl; first | with_reducible assumption | exact RowK.now (by with_reducible assumption) | exact f4 (by with_reducible assumption)))
        (first | ((with_reducible apply wl_oneG); exact rfl; exact rfl; first | exact f0 (by with_reducible assumption) | exact f1 (by with_reducible assumption) | exact f2 (by with_reducible assumption) | exact f3 (by with_reducible assumption) | with_reducible assumption | exact g22 (by with_reducible assumption) | exact g25 (by with_reducible assumption)) | ((with_reducible apply wl_rowG); exact rfl; exact rfl; first | with_reducible assumption | exact RowK.now (by with_reducible assumption) | exact f4 (by with_reducible assumption)))
        have lthpq3 := heap_lt hp; have lthrq3 := heap_lt hr; have lthoq3 := heap_lt ho; (with_reducible refine wl_bs rfl ?_); intro X5 q3 hbn hlq3 hq3; replace hp := below_look hbn hp; replace hr := below_look hbn hr; replace ho := below_look hbn ho; replace hb := hb.trans (hbn.mono hb.size); replace hb8 := hb8.trans (hbn.mono hb8.size); clear hbn; simp only [Zq]
        replace HA7 := Lib.hid (HA7.out.old hb8)
        replace HO := Lib.hid (HO.out.old hb8)
        have hB5 := hb8.size
        clear hb8
        refine wl_push rfl _ _ rfl rfl rfl HO.out HA7.out hq3 HLN.out (by omega) ?_
        intro A9 l9 c9 w9 hown hk9 hbl
        have HLT := Lib.hid HO.out.lt
        have hB7 := (hbl 0 X5 (fun _ _ => Nat.zero_le _) (Nat.zero_le _) (Below.refl 0 X5)).size
        replace hb := hbl _ _ (fun b hb => by have := (HLT.out b hb).1; omega) hb.size hb
        have hp5 := heap_lt hp
        have hr5 := heap_lt hr
        have ho5 := heap_lt ho
        replace hp := (hk9 p hp5 (fun e => by have := (HLT.out _ e).1; omega)).trans hp
        replace hr := (hk9 r hr5 (fun e => by have := (HLT.out _ e).1; omega)).trans hr
        replace ho := (hk9 o ho5 (fun e => by have := (HLT.out _ e).1; omega)).trans ho
        rw [← HTK.out] at hown
        replace HO := Lib.hid hown
        clear hown hk9 hbl HA7 hq3 HLT hp5 hr5 ho5 hq2
        simp only [Zq]
        (with_reducible refine wl_k ?_ ?_); exact rfl; intro K hK; go_simp; refine hK _ ?_; clear hK K
        (with_reducible refine wl_put3 rfl rfl ho ?_); rw [put_noneA]; intro X6 hbx hsz hkx hnx; replace hp := (hkx _ (by omega)).trans hp; replace hr := (hkx _ (by omega)).trans hr; replace hb := hbx _ _ (by omega) hb; clear ho; have ho := hnx; clear hnx
        replace HO := Lib.hid (HO.out.same (w' := X6) (fun q hq _ => hkx q (by omega)))
        have hB6 : B2 ≤ X6.heap.size := by omega
        clear hbx hkx hsz
        go_wp2_with fail
        go_roundw
        case rel => exact ⟨j + 1, _, _, _, by omega, by go_num, HO, hb, hB6, hp, hr, ho⟩
        case measure => simp [intOf]; omega
      · have hltI : ¬ (j : Int) < (l : Int) := by omega
        replace HO : Hid (OwnT wr B2 (.slice A1 l1 c1) (ts.map (repl g))) := Lib.hid (by have := HO.out; rwa [List.take_of_length_le (by rw [HL.out]; omega)] at this)
        obtain ⟨A9, l9, c9, he, h9⟩ := HO.out.at
        cases he
        have H9 := Lib.hid h9
        clear h9 HO
        go_upto_region 12 with (fail)
        apply wp_region_lit
        (first | ((with_reducible apply wl_oneG); exact rfl; exact rfl; first | exact f0 (by with_reducible assumption) | exact f1 (by with_reducible assumption) | exact f2 (by with_reducible assumption) | exact f3 (by with_reducible assumption) | with_reducible assumption | exact g22 (by with_reducible assumption) | exact g25 (by with_reducible assumption)) | ((with_reducible apply wl_rowG); exact rfl; exact rfl; first | with_reducible assumption | exact RowK.now (by with_reducible assumption) | exact f4 (by with_reducible assumption)))
        (with_reducible refine wl_put rfl rfl hr ?_); rw [put_noneA]; intro W8 hbx hsz hkx hnx; replace hb := hbx _ _ (by omega) hb; clear hr; have hr := hnx; clear hnx
        replace H9 := Lib.hid (H9.out.mono (D' := fun b => w.heap.size ≤ b) (fun b (h : B2 ≤ b) => (by omega : w.heap.size ≤ b)) (fun b (h : B2 ≤ b) => hkx b (by omega)))
        clear hbx hkx hsz
        have HQ := Lib.hid hr
        clear hp hr ho
        go_wp2_with fail
        exact bodyPost_ret (res24 rfl _ _ r rfl HQ.out) rfl ⟨_, rfl, by rw [HG.out]; exact TyAt.of HK.out.1 HK.out.2.1 HK.out.2.2 H9.out, hb⟩
theorem ent75 : Enters Tryd.prog 75 := enters_of Tryd.func75 (by kernel_rfl) rfl
theorem built24 : Tryd.prog.built 24 [] = some (cell4 0 ⟨#[]⟩ 0 none 0 0) := by kernel_rfl
/-- The function that replaces nothing. -/
theorem none_any (w : World) (t : Ty) (D : Nat → Prop) (row : Array Value) (h : TyAt w D t row) : Calls Tryd.prog 75 #[.agg row] w (FPost w none) := by
  obtain ⟨k, s, n, A, l, c, ts, -, rfl, -⟩ := h.parts
  clear h
  have hb := Below.refl w.heap.size w
  go_enter Tryd.func75, Tryd.ntmps75
  go_upto_region 0 with (fail)
  apply wp_region_lit
  (with_reducible refine wl_box rfl ?_); intro W p hbn hlp hp; replace hb := hb.trans (hbn.mono hb.size); clear hbn; simp only [Zq]
  have lthpr := heap_lt hp; (with_reducible refine wl_all ?_); intro W2 r hbn hlr hr; replace hp := below_look hbn hp; replace hb := hb.trans (hbn.mono hb.size); clear hbn; simp only [Zq]
  go_upto_region 1 with (fail)
  apply wp_region_lit
  refine wl_val rfl (ex_build 24 _ rfl (L := []) rfl built24) ?_
  simp only [Zq]
  (with_reducible refine wl_put rfl rfl hr ?_); rw [put_noneA]; intro W3 hbx hsz hkx hnx; replace hb := hbx _ _ (by omega) hb; clear hr; have hr := hnx; clear hnx
  clear hbx hkx hsz
  (with_reducible refine wl_k ?_ ?_); exact rfl; intro K hK; go_simp; refine hK _ ?_; clear hK K
  have HQ := Lib.hid hr
  clear hp hr
  go_wp2_with fail
  exact bodyPost_ret (res24t rfl _ _ r rfl rfl HQ.out) rfl ⟨_, rfl, zero_at _ _, hb⟩
theorem fnC_none (w0 : World) : FnC 75 #[] (fun _ => none) w0 := ⟨ent75, fun w _ t D row h => none_any w t D row h⟩
set_option maxHeartbeats 4000000 in
set_option maxRecDepth 100000 in
theorem copied_any (t : Ty) (hn : t.nodes ≤ 1000000) (w : World) (D : Nat → Prop) (row : Array Value) (h : TyAt w D t row) : Calls Tryd.prog 51 #[.agg row] w (NewTy w t) := by
  obtain ⟨k, s, n, A, l, c, ts, -, rfl, -⟩ := h.parts
  have HT := Lib.hid h
  have HN := Lib.hid hn
  clear h hn
  have hb := Below.refl w.heap.size w
  go_enter Tryd.func51, Tryd.ntmps51
  go_upto_region 0 with (fail)
  apply wp_region_lit
  (with_reducible refine wl_box rfl ?_); intro W p hbn hlp hp; replace hb := hb.trans (hbn.mono hb.size); clear hbn; simp only [Zq]
  have lthpr := heap_lt hp; (with_reducible refine wl_all ?_); intro W2 r hbn hlr hr; replace hp := below_look hbn hp; replace hb := hb.trans (hbn.mono hb.size); clear hbn; simp only [Zq]
  have hC := replaced_any (fun _ => none) t HN.out 75 #[] W2 (fnC_none W2) W2 (Below.refl _ _) D _ (HT.out.old hb)
  rw [repl_id] at hC
  have HC := Lib.hid hC
  clear hC
  go_upto_region 1 with (fail)
  apply wp_region_lit
  (first | ((with_reducible apply wl_oneG); exact rfl; exact rfl; first | exact f0 (by with_reducible assumption) | exact f1 (by with_reducible assumption) | exact f2 (by with_reducible assumption) | exact f3 (by with_reducible assumption) | with_reducible assumption | exact g22 (by with_reducible assumption) | exact g25 (by with_reducible assumption)) | ((with_reducible apply wl_rowG); exact rfl; exact rfl; first | with_reducible assumption | exact RowK.now (by with_reducible assumption) | exact f4 (by with_reducible assumption)))
  (with_reducible refine wl_ck ?_ ?_); exact rfl; intro K hK; go_simp; refine ⟨_, _, ⟨rfl, rfl⟩, hK _ _ ⟨_, HC.out, ?_⟩⟩; clear hK K; rintro e w7 ⟨row7, rfl, hta7, hb7⟩; refine ⟨_, rfl, ?_⟩; simp only [Zq]
  obtain ⟨k7, s7, n7, A7, l7, c7, ts7, hu7, rfl, -⟩ := hta7.parts
  have hlr' := heap_lt hr
  have HA := Lib.hid (hta7.weak (D' := fun b => w.heap.size ≤ b ∧ b ≠ r) fun b (hb : W2.heap.size ≤ b) => ⟨by have := hb; omega, by omega⟩)
  clear hta7 HC hu7 hp
  replace hr := below_look hb7 hr; replace hb := hb.trans (hb7.mono hb.size); clear hb7
  (with_reducible refine wl_put rfl rfl hr ?_); rw [put_noneA]; intro W3 hbx hsz hkx hnx; replace hb := hbx _ _ (by omega) hb; clear hr; have hr := hnx; clear hnx
  replace HA := Lib.hid (HA.out.mono (fun _ h => h) (fun b h => hkx b h.2))
  clear hbx hkx hsz
  have HQ := Lib.hid hr
  clear hr
  go_wp2_with fail
  exact bodyPost_ret (res24 rfl _ _ r rfl HQ.out) rfl ⟨_, rfl, HA.out.weak fun b h => h.1, hb⟩
end Go.Proofs.YtokmaehefenpmaaDoor
namespace Go.Proofs.YtokmaehefenpmaaDoor
abbrev Eqs := List (Ty × Ty)
def bindP (sol : List Ty) (v : Nat) (t : Ty) : Except Int (List Ty) :=
  if t.occ v = true then .error 32 else if 40 < t.nodes then .error 2 else if (sol.map (sub1 v t)).any (fun u => decide (40 < u.nodes)) = true then .error 2 else .ok (sol.map (sub1 v t))
def less1 (x : Except Int (List Ty)) : Except Int (Eqs × List Ty) := match x with | .ok s => .ok ([], s) | .error e => .error e
/-- One equation: what it asks further, and the solution. -/
def step1 (a b : Ty) (sol : List Ty) : Except Int (Eqs × List Ty) :=
  if applyTy sol a = applyTy sol b then .ok ([], sol)
  else if (applyTy sol a).kind = 12 ∧ (applyTy sol b).kind = 12 then less1 (bindP sol (max (applyTy sol a).num.toNat (applyTy sol b).num.toNat) (varT (min (applyTy sol a).num.toNat (applyTy sol b).num.toNat)))
  else if (applyTy sol a).kind = 12 then less1 (bindP sol (applyTy sol a).num.toNat (applyTy sol b))
  else if (applyTy sol b).kind = 12 then less1 (bindP sol (applyTy sol b).num.toNat (applyTy sol a))
  else if (applyTy sol a).kind ≠ (applyTy sol b).kind ∨ (applyTy sol a).name ≠ (applyTy sol b).name ∨ (applyTy sol a).num ≠ (applyTy sol b).num ∨ (applyTy sol a).args.length ≠ (applyTy sol b).args.length then .error 31
  else .ok ((applyTy sol a).args.zip (applyTy sol b).args, sol)
inductive Steps : Nat → Eqs → List Ty → Except Int (List Ty) → Prop where
  | nil {sol : List Ty} : Steps 0 [] sol (.ok sol)
  | err {a b : Ty} {rest : Eqs} {sol : List Ty} {e : Int} (h : step1 a b sol = .error e) : Steps 1 ((a, b) :: rest) sol (.error e)
  | go {a b : Ty} {rest next : Eqs} {sol sol' : List Ty} {k : Nat} {r : Except Int (List Ty)} (h : step1 a b sol = .ok (next, sol')) (h2 : Steps k (next ++ rest) sol' r) : Steps (k + 1) ((a, b) :: rest) sol r
def FineE (m : Nat) (l : Eqs) : Prop := ∀ p, p ∈ l → FineV m p.1 ∧ FineV m p.2
/-- What a step is. -/
inductive StepIs (m : Nat) (a b : Ty) (sol : List Ty) : Prop where
  | same (h : applyTy sol a = applyTy sol b) (hs : step1 a b sol = .ok ([], sol))
  | bind (v : Nat) (t : Ty) (hv : v < m) (ht : FineV m t) (hne : t ≠ varT v) (hfix : applyTy sol t = t) (hvar : applyTy sol (varT v) = varT v) (hle : ∀ w, t = varT w → w < v)
      (hab : (applyTy sol a = varT v ∧ applyTy sol b = t) ∨ (applyTy sol a = t ∧ applyTy sol b = varT v)) (hs : step1 a b sol = less1 (bindP sol v t))
  | clash {k k' : Int} {s s' : ByteArray} {n n' : Int} {l l' : List Ty} (h12 : k ≠ 12) (h12' : k' ≠ 12) (ha : applyTy sol a = .node k s n l) (hb : applyTy sol b = .node k' s' n' l') (hno : ¬ (k = k' ∧ s = s' ∧ n = n' ∧ l.length = l'.length)) (hs : step1 a b sol = .error 31)
  | parts {k : Int} {s : ByteArray} {n : Int} {l l' : List Ty} (h12 : k ≠ 12) (h0 : k ≠ 0) (ha : applyTy sol a = .node k s n l) (hb : applyTy sol b = .node k s n l') (hl : l.length = l'.length) (hs : step1 a b sol = .ok (l.zip l', sol))
theorem step_is {m : Nat} {sol : List Ty} (h : Good m sol) {a b : Ty} (ha : FineV m a) (hb : FineV m b) : StepIs m a b sol := by
  have fa := fine_app h.len h.fine a ha
  have fb := fine_app h.len h.fine b hb
  have ia := app_app h a ha
  have ib := app_app h b hb
  by_cases he : applyTy sol a = applyTy sol b
  · exact .same he (by unfold step1; rw [if_pos he])
  obtain ⟨x, hx⟩ : ∃ x, step1 a b sol = x := ⟨_, rfl⟩
  have hs := hx
  unfold step1 at hs
  rw [if_neg he] at hs
  rcases fa.cases with ⟨v, hv, ea⟩ | ⟨k, s, n, l, ea, k1, k0, -⟩
  · have kA : (applyTy sol a).kind = 12 := by rw [ea]; rfl
    have nA : (applyTy sol a).num.toNat = v := by rw [ea]; simp [varT, Ty.num]
    rcases fb.cases with ⟨w, hw, eb⟩ | ⟨k, s, n, l, eb, k1, k0, -⟩
    · have kB : (applyTy sol b).kind = 12 := by rw [eb]; rfl
      have nB : (applyTy sol b).num.toNat = w := by rw [eb]; simp [varT, Ty.num]
      rw [if_pos ⟨kA, kB⟩, nA, nB] at hs
      have hvw : v ≠ w := fun e => he (by rw [ea, eb, e])
      rw [ea] at ia
      rw [eb] at ib
      rcases Nat.lt_or_ge v w with h1 | h1
      · rw [Nat.max_eq_right (by omega), Nat.min_eq_left (by omega)] at hs
        exact .bind w (varT v) hw (fine_var hv) (fun e => hvw (varT_inj e)) ia ib (fun x hx => by have := varT_inj hx; omega) (Or.inr ⟨ea, eb⟩) (hx.trans hs.symm)
      · rw [Nat.max_eq_left (by omega), Nat.min_eq_right (by omega)] at hs
        exact .bind v (varT w) hv (fine_var hw) (fun e => hvw (varT_inj e).symm) ib ia (fun x hx => by have := varT_inj hx; omega) (Or.inl ⟨ea, eb⟩) (hx.trans hs.symm)
    · have kB : (applyTy sol b).kind ≠ 12 := by rw [eb]; exact k1
      rw [if_neg (fun h => kB h.2), if_pos kA, nA] at hs
      rw [ea] at ia
      exact .bind v (applyTy sol b) hv fb (fun e => kB (by rw [e]; rfl)) ib ia (fun w hw => absurd (by rw [hw]; rfl) kB) (Or.inl ⟨ea, rfl⟩) (hx.trans hs.symm)
  · have kA : (applyTy sol a).kind ≠ 12 := by rw [ea]; exact k1
    rcases fb.cases with ⟨w, hw, eb⟩ | ⟨k', s', n', l', eb, k1', k0', -⟩
    · have kB : (applyTy sol b).kind = 12 := by rw [eb]; rfl
      have nB : (applyTy sol b).num.toNat = w := by rw [eb]; simp [varT, Ty.num]
      rw [if_neg (fun h => kA h.1), if_neg kA, if_pos kB, nB] at hs
      rw [eb] at ib
      exact .bind w (applyTy sol a) hw fa (fun e => kA (by rw [e]; rfl)) ia ib (fun x hx => absurd (by rw [hx]; rfl) kA) (Or.inr ⟨rfl, eb⟩) (hx.trans hs.symm)
    · have kB : (applyTy sol b).kind ≠ 12 := by rw [eb]; exact k1'
      rw [if_neg (fun h => kA h.1), if_neg kA, if_neg kB] at hs
      by_cases hm : k = k' ∧ s = s' ∧ n = n' ∧ l.length = l'.length
      · obtain ⟨rfl, rfl, rfl, hl⟩ := hm
        refine .parts k1 k0 ea eb hl ?_
        rw [if_neg (by rw [ea, eb]; simp [Ty.kind, Ty.name, Ty.num, Ty.args, hl])] at hs
        rw [hx, ← hs, ea, eb]; rfl
      · refine .clash k1 k1' ea eb hm ?_
        rw [if_pos (by
          rw [ea, eb]
          simp only [Ty.kind, Ty.name, Ty.num, Ty.args]
          apply Classical.byContradiction
          intro hno
          simp only [not_or, Decidable.not_not] at hno
          exact hm ⟨hno.1, hno.2.1, hno.2.2.1, hno.2.2.2⟩)] at hs
        exact hx.trans hs.symm
theorem sub1_fix {m v : Nat} {t : Ty} {sol : List Ty} (ht : applyTy sol t = t) : ∀ x, FineV m x → applyTy sol x = x → applyTy sol (sub1 v t x) = sub1 v t x := FineV.ind (fun w _ h => by
    rw [sub1_var]; split
    · exact ht
    · exact h) fun k s n l h1 _ _ ih h => by
  rw [app_node h1] at h
  rw [sub1_node h1, app_node h1]
  congr 1
  rw [List.map_map]
  have hl : l.map (applyTy sol) = l := by injection h
  refine List.map_congr_left fun u hu => ih u hu ?_
  obtain ⟨i, hi, rfl⟩ := List.mem_iff_getElem.1 hu
  have := congrArg (fun x => x[i]?) hl
  simp only [List.getElem?_map, List.getElem?_eq_getElem hi, Option.map_some, Option.some.injEq] at this
  exact this
theorem bind_ok {sol : List Ty} {v : Nat} {t : Ty} {s : List Ty} (h : bindP sol v t = .ok s) : t.occ v = false ∧ t.nodes ≤ 40 ∧ s = sol.map (sub1 v t) ∧ ∀ u, u ∈ s → u.nodes ≤ 40 := by
  unfold bindP at h
  split at h
  · cases h
  · rename_i h1
    split at h
    · cases h
    · split at h
      · cases h
      · rename_i h2 h3
        cases h
        refine ⟨by simpa using h1, by omega, rfl, fun u hu => ?_⟩
        rw [Bool.not_eq_true, List.any_eq_false] at h3
        have := h3 u hu
        simp at this
        exact this
theorem good_bind {m : Nat} {sol : List Ty} (h : Good m sol) {v : Nat} {t : Ty} (ht : FineV m t) (hfix : applyTy sol t = t) {s : List Ty} (hs : bindP sol v t = .ok s) : Good m s := by
  obtain ⟨h1, h2, rfl, h4⟩ := bind_ok hs
  refine ⟨by rw [List.length_map, h.len], fun u hu => ?_, fun u hu => ?_, h4⟩
  · obtain ⟨x, hx, rfl⟩ := List.mem_map.1 hu
    exact fine_sub1 ht x (h.fine x hx)
  · obtain ⟨x, hx, rfl⟩ := List.mem_map.1 hu
    have hf := h.fine x hx
    rw [app_map h.len h.fine ht _ (fine_sub1 ht x hf), sub1_fix hfix x hf (h.idem x hx), sub1_absent _ (fine_sub1 ht x hf) (sub1_gone h1 x hf)]
theorem fine_parts {m : Nat} {k : Int} {s : ByteArray} {n : Int} {l : List Ty} (h : FineV m (.node k s n l)) : ∀ u, u ∈ l → FineV m u := (fine_node.1 h).2
theorem fine_zip {m : Nat} {l l' : List Ty} (h : ∀ u, u ∈ l → FineV m u) (h' : ∀ u, u ∈ l' → FineV m u) : FineE m (l.zip l') := fun p hp => by
  obtain ⟨a, b⟩ := p
  have := List.of_mem_zip hp
  exact ⟨h a this.1, h' b this.2⟩
theorem FineE.cat {m : Nat} {l l' : Eqs} (h : FineE m l) (h' : FineE m l') : FineE m (l ++ l') := fun p hp => by
  rcases List.mem_append.1 hp with hp | hp
  · exact h p hp
  · exact h' p hp
theorem less1_ok {x : Except Int (List Ty)} {p : Eqs × List Ty} (h : less1 x = .ok p) : ∃ s, x = .ok s ∧ p = ([], s) := by
  unfold less1 at h
  split at h
  · cases h; exact ⟨_, rfl, rfl⟩
  · cases h
theorem less1_err {x : Except Int (List Ty)} {e : Int} (h : less1 x = .error e) : x = .error e := by
  unfold less1 at h
  split at h
  · cases h
  · cases h; rfl
/-- What holds behind a step. -/
theorem step_good {m : Nat} {sol : List Ty} (h : Good m sol) {a b : Ty} {rest : Eqs} (hf : FineE m ((a, b) :: rest)) {next : Eqs} {s : List Ty} (hs : step1 a b sol = .ok (next, s)) : Good m s ∧ FineE m (next ++ rest) := by
  obtain ⟨fa, fb⟩ : FineV m a ∧ FineV m b := hf (a, b) (by simp)
  have hr : FineE m rest := fun p hp => hf p (by simp [hp])
  have e : FineE m ([] : Eqs) := fun p hp => by cases hp
  rcases step_is h fa fb with ⟨h1, h2⟩ | ⟨v, t, hv, ht, hne, hfix, hvar, hle, hab, h2⟩ | ⟨h12, h12', ha, hb, hno, h2⟩ | ⟨h12, h0, ha, hb, hl, h2⟩
  · rw [h2] at hs; cases hs; exact ⟨h, e.cat hr⟩
  · rw [h2] at hs
    obtain ⟨x, hx, e2⟩ := less1_ok hs
    cases e2
    exact ⟨good_bind h ht hfix hx, e.cat hr⟩
  · rw [h2] at hs; cases hs
  · rw [h2] at hs; cases hs
    exact ⟨h, (fine_zip (fine_parts (by rw [← ha]; exact fine_app h.len h.fine a fa)) (fine_parts (by rw [← hb]; exact fine_app h.len h.fine b fb))).cat hr⟩
def ub (m : Nat) (sol : List Ty) : Nat := ((List.range m).filter fun v => decide (applyTy sol (varT v) = varT v)).length
theorem filter_lt {α : Type} {p q : α → Bool} : ∀ {l : List α}, (∀ x, x ∈ l → q x = true → p x = true) → (∃ x, x ∈ l ∧ p x = true ∧ q x = false) → (l.filter q).length < (l.filter p).length
  | [], _, ⟨x, hx, _⟩ => by cases hx
  | a :: l, h, ⟨x, hx, h1, h2⟩ => by
    have hle : ∀ {l : List α}, (∀ x, x ∈ l → q x = true → p x = true) → (l.filter q).length ≤ (l.filter p).length := by
      intro l
      induction l with
      | nil => intro _; simp
      | cons b l ih =>
        intro h
        have := ih fun x hx => h x (by simp [hx])
        simp only [List.filter_cons]
        cases hq : q b with
        | true => rw [h b (by simp) hq]; simp; exact this
        | false => cases hp : p b <;> simp <;> omega
    rcases List.mem_cons.1 hx with rfl | hx
    · have := hle (l := l) fun y hy => h y (by simp [hy])
      simp only [List.filter_cons, h1, h2]
      simp; omega
    · have := filter_lt (l := l) (fun y hy => h y (by simp [hy])) ⟨x, hx, h1, h2⟩
      simp only [List.filter_cons]
      cases hq : q a with
      | true => rw [h a (by simp) hq]; simp; exact this
      | false => cases hp : p a <;> simp <;> omega
theorem ub_bind {m : Nat} {sol : List Ty} (h : Good m sol) {v : Nat} {t : Ty} (hv : v < m) (ht : FineV m t) (hne : t ≠ varT v) (hfix : applyTy sol t = t) (hvar : applyTy sol (varT v) = varT v) {s : List Ty} (hs : bindP sol v t = .ok s) : ub m s < ub m sol := by
  obtain ⟨-, -, rfl, -⟩ := bind_ok hs
  unfold ub
  refine filter_lt (fun w hw hq => ?_) ⟨v, by simpa using hv, by simpa using hvar, ?_⟩
  · have hw : w < m := by simpa using hw
    have hq := of_decide_eq_true hq
    rw [app_map h.len h.fine ht _ (fine_var hw)] at hq
    refine decide_eq_true ?_
    rcases (fine_app h.len h.fine _ (fine_var hw)).cases with ⟨y, hy, e⟩ | ⟨k, s, n, l, e, h1, h2, h3⟩
    · rw [e, sub1_var] at hq
      split at hq
      · rw [hq] at hfix; exact hfix
      · rw [e]; exact hq
    · rw [e, sub1_node h1] at hq
      unfold varT at hq
      injection hq with q1
      exact absurd q1 h1
  · refine decide_eq_false ?_
    rw [app_map h.len h.fine ht _ (fine_var hv), hvar, sub1_var, if_pos rfl]
    exact hne
def sz (sol : List Ty) : Eqs → Nat
  | [] => 0
  | (a, b) :: l => (applyTy sol a).nodes + (applyTy sol b).nodes + sz sol l
theorem sz_cat (sol : List Ty) : ∀ (l l' : Eqs), sz sol (l ++ l') = sz sol l + sz sol l'
  | [], l' => by simp [sz]
  | (a, b) :: l, l' => by simp only [List.cons_append, sz, sz_cat sol l l']; omega
theorem sz_zip (sol : List Ty) : ∀ (l l' : List Ty), sz sol (l.zip l') ≤ nodesL (l.map (applyTy sol)) + nodesL (l'.map (applyTy sol))
  | [], _ => by simp [sz]
  | _ :: _, [] => by simp [sz]
  | a :: l, b :: l' => by
    have := sz_zip sol l l'
    simp only [List.zip_cons_cons, sz, List.map_cons, nodesL]; omega
theorem map_fix {sol : List Ty} {k : Int} {s : ByteArray} {n : Int} {l : List Ty} (hk : k ≠ 12) (h : applyTy sol (.node k s n l) = .node k s n l) : l.map (applyTy sol) = l := by
  rw [app_node hk] at h
  injection h
/-- The solver ends. -/
theorem steps_end {m : Nat} : ∀ (u n : Nat) (todo : Eqs) (sol : List Ty), Good m sol → FineE m todo → ub m sol ≤ u → sz sol todo ≤ n → ∃ k r, Steps k todo sol r := by
  intro u
  induction u using Nat.strongRecOn with
  | ind u ihu =>
    intro n
    induction n using Nat.strongRecOn with
    | ind n ihn =>
      intro todo sol hg hf hu hn
      cases todo with
      | nil => exact ⟨0, _, .nil⟩
      | cons p rest =>
        obtain ⟨a, b⟩ := p
        obtain ⟨fa, fb⟩ : FineV m a ∧ FineV m b := hf (a, b) (by simp)
        simp only [sz] at hn
        have pa := nodes_pos (applyTy sol a)
        have pb := nodes_pos (applyTy sol b)
        rcases step_is hg fa fb with ⟨h1, h2⟩ | ⟨v, t, hv, ht, hne, hfix, hvar, hle, hab, h2⟩ | ⟨h12, h12', ha, hb, hno, h2⟩ | ⟨h12, h0, ha, hb, hl, h2⟩
        · obtain ⟨g1, g2⟩ := step_good hg hf h2
          obtain ⟨k, r, hr⟩ := ihn (sz sol rest) (by omega) rest sol hg (by simpa using g2) hu (Nat.le_refl _)
          exact ⟨k + 1, r, .go h2 (by simpa using hr)⟩
        · cases hb : bindP sol v t with
          | error e => exact ⟨1, _, .err (by rw [h2, hb]; rfl)⟩
          | ok s =>
            have hs : step1 a b sol = .ok ([], s) := by rw [h2, hb]; rfl
            obtain ⟨g1, g2⟩ := step_good hg hf hs
            have hlt := ub_bind hg hv ht hne hfix hvar hb
            obtain ⟨k, r, hr⟩ := ihu (ub m s) (by omega) (sz s ([] ++ rest)) ([] ++ rest) s g1 g2 (Nat.le_refl _) (Nat.le_refl _)
            exact ⟨k + 1, r, .go hs hr⟩
        · exact ⟨1, _, .err h2⟩
        · obtain ⟨g1, g2⟩ := step_good hg hf h2
          have ea := app_app hg a fa
          have eb := app_app hg b fb
          rw [ha] at ea
          rw [hb] at eb
          rename_i k s n' l l'
          have hz := sz_zip sol l l'
          rw [map_fix h12 ea, map_fix h12 eb] at hz
          rw [ha, hb] at hn
          simp only [Ty.nodes] at hn
          obtain ⟨k, r, hr⟩ := ihn (sz sol (l.zip l' ++ rest)) (by rw [sz_cat]; omega) _ sol hg g2 hu (Nat.le_refl _)
          exact ⟨k + 1, r, .go h2 hr⟩
theorem Steps.split {k : Nat} {l l' : Eqs} {sol : List Ty} {r : Except Int (List Ty)} (h : Steps k (l ++ l') sol r) : (∃ e, r = .error e ∧ Steps k l sol (.error e)) ∨ ∃ s k1 k2, Steps k1 l sol (.ok s) ∧ Steps k2 l' s r ∧ k1 + k2 = k := by
  induction k generalizing l sol with
  | zero =>
    cases l with
    | nil => exact Or.inr ⟨sol, 0, 0, .nil, h, rfl⟩
    | cons p l => cases h
  | succ k ih =>
    cases l with
    | nil => exact Or.inr ⟨sol, 0, k + 1, .nil, h, by omega⟩
    | cons p l =>
      cases h with
      | err h1 => exact Or.inl ⟨_, rfl, .err h1⟩
      | @go _ _ _ next _ sol' _ _ h1 h2 =>
        have h2' : Steps k ((next ++ l) ++ l') sol' r := by rw [List.append_assoc]; exact h2
        rcases ih h2' with ⟨e, h3, h4⟩ | ⟨s, k1, k2, h3, h4, h5⟩
        · exact Or.inl ⟨e, h3, .go h1 h4⟩
        · exact Or.inr ⟨s, k1 + 1, k2, .go h1 h3, h4, by omega⟩
theorem steps_err {k : Nat} {l : Eqs} {sol : List Ty} {r : Except Int (List Ty)} (h : Steps k l sol r) {m : Nat} (hg : Good m sol) (hf : FineE m l) : ∀ e, r = .error e → e = 2 ∨ e = 31 ∨ e = 32 := by
  induction h with
  | nil => intro e h; cases h
  | err hE =>
    rename_i a b rest sol e
    intro e' h
    cases h
    obtain ⟨fa, fb⟩ : FineV m a ∧ FineV m b := hf (a, b) (by simp)
    rcases step_is hg fa fb with ⟨h1, h2⟩ | ⟨v, t, hv, ht, hne, hfix, hvar, hle, hab, h2⟩ | ⟨h12, h12', ha, hb, hno, h2⟩ | ⟨h12, h0, ha, hb, hl, h2⟩
    · rw [h2] at hE; cases hE
    · rw [h2] at hE
      have := less1_err hE
      unfold bindP at this
      split at this
      · cases this; simp
      · split at this
        · cases this; simp
        · split at this
          · cases this; simp
          · cases this
    · rw [h2] at hE; cases hE; simp
    · rw [h2] at hE; cases hE
  | go h1 h2 ih =>
    obtain ⟨g1, g2⟩ := step_good hg hf h1
    exact ih g1 g2
/-- A variable's class is named by its least variable. -/
def Least (m : Nat) (sol : List Ty) : Prop := ∀ v w, v < m → applyTy sol (varT v) = varT w → w ≤ v
theorem zip_all {f : Ty → Ty} : ∀ {l l' : List Ty}, l.length = l'.length → (∀ p, p ∈ l.zip l' → f p.1 = f p.2) → l.map f = l'.map f
  | [], [], _, _ => rfl
  | [], _ :: _, h, _ => by cases h
  | _ :: _, [], h, _ => by cases h
  | a :: l, b :: l', h, hp => by
    rw [List.map_cons, List.map_cons, hp (a, b) (by simp), zip_all (l := l) (l' := l') (by simpa using h) fun p h => hp p (by simp [h])]
/-- A solution solves, and goes on from the one before it. -/
theorem steps_sound {k : Nat} {l : Eqs} {sol : List Ty} {r : Except Int (List Ty)} (h : Steps k l sol r) {m : Nat} (hg : Good m sol) (hf : FineE m l) : ∀ s, r = .ok s → Good m s ∧ (∀ x, FineV m x → applyTy s (applyTy sol x) = applyTy s x) ∧ (∀ p, p ∈ l → applyTy s p.1 = applyTy s p.2) ∧ (Least m sol → Least m s) := by
  induction h with
  | nil =>
    intro s h
    cases h
    exact ⟨hg, fun x hx => app_app hg x hx, fun p hp => (by cases hp), fun h => h⟩
  | err h1 => intro s h; cases h
  | go h1 h2 ih =>
    rename_i a b rest next sol sol' k r
    intro s hr
    obtain ⟨g1, g2⟩ := step_good hg hf h1
    obtain ⟨i1, i2, i3, i4⟩ := ih g1 g2 s hr
    obtain ⟨fa, fb⟩ : FineV m a ∧ FineV m b := hf (a, b) (by simp)
    have hrest : ∀ p, p ∈ rest → applyTy s p.1 = applyTy s p.2 := fun p hp => i3 p (by simp [hp])
    rcases step_is hg fa fb with ⟨e1, e2⟩ | ⟨v, t, hv, ht, hne, hfix, hvar, hle, hab, e2⟩ | ⟨h12, h12', ha, hb, hno, e2⟩ | ⟨h12, h0, ha, hb, hl, e2⟩
    · rw [e2] at h1; cases h1
      refine ⟨i1, i2, fun p hp => ?_, i4⟩
      rcases List.mem_cons.1 hp with rfl | hp
      · show applyTy s a = applyTy s b
        rw [← i2 a fa, ← i2 b fb, e1]
      · exact hrest p hp
    · rw [e2] at h1
      obtain ⟨x, hx, e3⟩ := less1_ok h1
      cases e3
      obtain ⟨-, -, rfl, -⟩ := bind_ok hx
      have key : ∀ x, FineV m x → applyTy s (applyTy sol x) = applyTy s x := fun x hx => by
        have fx := fine_app hg.len hg.fine x hx
        rw [← i2 _ fx, app_map hg.len hg.fine ht _ fx, app_app hg x hx, ← app_map hg.len hg.fine ht x hx, i2 x hx]
      have hvt : applyTy s (varT v) = applyTy s t := by
        have := i2 (varT v) (fine_var hv)
        rw [app_map hg.len hg.fine ht _ (fine_var hv), hvar, sub1_var, if_pos rfl] at this
        exact this.symm
      refine ⟨i1, key, fun p hp => ?_, fun hL => i4 fun w y hw hy => ?_⟩
      · rcases List.mem_cons.1 hp with rfl | hp
        · show applyTy s a = applyTy s b
          rw [← key a fa, ← key b fb]
          rcases hab with ⟨h3, h4⟩ | ⟨h3, h4⟩
          · rw [h3, h4, hvt]
          · rw [h3, h4, hvt]
        · exact hrest p hp
      · rw [app_map hg.len hg.fine ht _ (fine_var hw)] at hy
        rcases (fine_app hg.len hg.fine _ (fine_var hw)).cases with ⟨z, hz, e⟩ | ⟨k, s, n, l, e, h1, h2, h3⟩
        · have hzw := hL w z hw e
          rw [e, sub1_var] at hy
          split at hy
          · rename_i hzv
            have := hle y hy
            omega
          · have : z = y := varT_inj hy
            omega
        · rw [e, sub1_node h1] at hy
          unfold varT at hy
          injection hy with q1
          exact absurd q1 h1
    · rw [e2] at h1; cases h1
    · rw [e2] at h1; cases h1
      refine ⟨i1, i2, fun p hp => ?_, i4⟩
      rcases List.mem_cons.1 hp with rfl | hp
      · show applyTy s a = applyTy s b
        rw [← i2 a fa, ← i2 b fb, ha, hb, app_node h12, app_node h12, zip_all hl fun p hp => i3 p (by simp [hp])]
      · exact hrest p hp
def start (m : Nat) : List Ty := (List.range m).map varT
theorem start_good (m : Nat) : Good m (start m) where
  len := by simp [start]
  fine u hu := by
    obtain ⟨v, hv, rfl⟩ := List.mem_map.1 hu
    exact fine_var (by simpa using hv)
  idem u hu := by
    obtain ⟨v, hv, rfl⟩ := List.mem_map.1 hu
    refine app_var ?_ (show (12 : Int) ≠ 0 by decide)
    have : v < m := by simpa using hv
    simp [start, this]
  size u hu := by
    obtain ⟨v, hv, rfl⟩ := List.mem_map.1 hu
    rw [nodes_var]; omega
open Go.RowKit Go.Proofs.YtokmaehefenpmaaDoor.Nm
set_option linter.unusedSimpArgs false
theorem u90 : Tryd.prog.underlying 90 = some (.map 3 24) := by kernel_rfl
theorem u89 : ∃ T, Tryd.prog.underlying 89 = some (.pointer T) := ⟨92, by kernel_rfl⟩
/-- A map from variables to trees, as the solver holds it. -/
structure MapR (w : World) (m : Nat) (f : Nat → Option Ty) (es : Array MapEntry) (clock : Nat) : Prop where
  blk : w.heap[m]? = some (.map es clock)
  st : MapKept.Stamped es clock
  ent : ∀ x, x ∈ es.toList → ∃ (v : Nat) (row : Array Value) (t : Ty), x.key = .int .i64 (v : Int) ∧ x.val = .agg row ∧ f v = some t ∧ TyAt w (fun b => b ≠ m) t row
  has : ∀ v t, f v = some t → ∃ x, x ∈ es.toList ∧ x.key = .int .i64 (v : Int)
theorem MapR.old {w w' : World} {m : Nat} {f : Nat → Option Ty} {es : Array MapEntry} {clock : Nat} (h : MapR w m f es clock) (hb : Below w.heap.size w w') : MapR w' m f es clock :=
  ⟨below_look hb h.blk, h.st, fun x hx => by
    obtain ⟨v, row, t, h1, h2, h3, h4⟩ := h.ent x hx
    exact ⟨v, row, t, h1, h2, h3, h4.old hb⟩, h.has⟩
theorem MapR.key {w : World} {m : Nat} {f : Nat → Option Ty} {es : Array MapEntry} {clock : Nat} (h : MapR w m f es clock) : ∀ x, x ∈ es.toList → MapKept.IsKey (.int .i64) x.key := fun x hx => by
  obtain ⟨v, row, t, h1, -⟩ := h.ent x hx
  rw [h1]
  simp [MapKept.IsKey]
theorem MapR.hit {w : World} {m : Nat} {f : Nat → Option Ty} {es : Array MapEntry} {clock : Nat} (h : MapR w m f es clock) {v : Nat} {t : Ty} (hf : f v = some t) :
    ∃ j e row, Instr.findNow (.int .i64) (.int .i64 (v : Int)) es.toList 0 = some (some (j, .agg row)) ∧ es[j]? = some e ∧ e.key = .int .i64 (v : Int) ∧ TyAt w (fun b => b ≠ m) t row := by
  rcases MapKept.findNow_spec (d := .int .i64) (k := .int .i64 (v : Int)) (by simp [MapKept.IsKey]) es.toList 0 h.key with ⟨h1, h2⟩ | ⟨j, e, h1, h2, h3⟩
  · obtain ⟨x, hx, hk⟩ := h.has v t hf
    exact absurd hk (h2 x hx)
  · obtain ⟨v', row, t', g1, g2, g3, g4⟩ := h.ent e (List.mem_of_getElem? h2)
    rw [h3] at g1
    obtain rfl : v = v' := by injection g1 with _ g; omega
    rw [hf] at g3
    cases g3
    exact ⟨j, e, row, by rw [h1, g2]; simp, by simpa using h2, h3, g4⟩
theorem MapR.miss {w : World} {m : Nat} {f : Nat → Option Ty} {es : Array MapEntry} {clock : Nat} (h : MapR w m f es clock) {k : Int} (hn : ∀ v : Nat, k = (v : Int) → f v = none) : Instr.findNow (.int .i64) (.int .i64 k) es.toList 0 = some none ∧ ∀ x, x ∈ es.toList → x.key ≠ .int .i64 k := by
  rcases MapKept.findNow_spec (d := .int .i64) (k := .int .i64 k) (by simp [MapKept.IsKey]) es.toList 0 h.key with ⟨h1, h2⟩ | ⟨j, e, h1, h2, h3⟩
  · exact ⟨h1, h2⟩
  · obtain ⟨v', row, t', g1, g2, g3, g4⟩ := h.ent e (List.mem_of_getElem? h2)
    rw [h3] at g1
    have : k = (v' : Int) := by injection g1
    rw [hn v' this] at g3
    cases g3
theorem run_hit90 {r : Nat} {es : Array MapEntry} {c : Nat} {k : Int} {m : Nat} {v : Value} (w : World) (hb : w.heap[r]? = some (.map es c)) (hf : Instr.findNow (.int .i64) (.int .i64 k) es.toList 0 = some (some (m, v))) : (Instr.lookup 90 (.map (some r)) (.int .i64 k) true).run Tryd.prog w = .ok (.tuple #[v, .bool true]) w := by
  unfold Instr.lookup
  simp [Sem.run_bind, run_underlying u90, Result.andThen, MapKept.run_getObj_map hb, MapKept.run_checkKey u3 (k := .int .i64 k) (by simp [MapKept.IsKey]) _ 9999, MapKept.run_findKey u3 hf]
theorem zero24 (w : World) : (zeroValue 24).run Tryd.prog w = .ok (.agg (cell4 0 ⟨#[]⟩ 0 none 0 0)) w := by kernel_rfl
theorem run_miss90 {r : Nat} {es : Array MapEntry} {c : Nat} {k : Int} (w : World) (hb : w.heap[r]? = some (.map es c)) (hf : Instr.findNow (.int .i64) (.int .i64 k) es.toList 0 = some none) : (Instr.lookup 90 (.map (some r)) (.int .i64 k) true).run Tryd.prog w = .ok (.tuple #[.agg (cell4 0 ⟨#[]⟩ 0 none 0 0), .bool false]) w := by
  unfold Instr.lookup
  simp [Sem.run_bind, run_underlying u90, Result.andThen, MapKept.run_getObj_map hb, MapKept.run_checkKey u3 (k := .int .i64 k) (by simp [MapKept.IsKey]) _ 9999, MapKept.run_findKey u3 hf, zero24]
  rfl
theorem ex_hit90 {ev : Operand → Value} {o : Oper} {w : World} (x y : Operand) (ho : o.op = .lookup 90 x y true) {r : Nat} {es : Array MapEntry} {c : Nat} {k : Int} {m : Nat} {v : Value} (hx : ev x = .map (some r)) (hy : ev y = .int .i64 k) (hb : w.heap[r]? = some (.map es c)) (hf : Instr.findNow (.int .i64) (.int .i64 k) es.toList 0 = some (some (m, v))) :
    (execOp ev o).run Tryd.prog w = .ok (.value (.tuple #[v, .bool true])) w := by
  unfold execOp
  simp [ho, hx, hy, run_hit90 w hb hf, Result.andThen]
theorem ex_miss90 {ev : Operand → Value} {o : Oper} {w : World} (x y : Operand) (ho : o.op = .lookup 90 x y true) {r : Nat} {es : Array MapEntry} {c : Nat} {k : Int} (hx : ev x = .map (some r)) (hy : ev y = .int .i64 k) (hb : w.heap[r]? = some (.map es c)) (hf : Instr.findNow (.int .i64) (.int .i64 k) es.toList 0 = some none) :
    (execOp ev o).run Tryd.prog w = .ok (.value (.tuple #[.agg (cell4 0 ⟨#[]⟩ 0 none 0 0), .bool false])) w := by
  unfold execOp
  simp [ho, hx, hy, run_miss90 w hb hf, Result.andThen]
/-- What is known of a node's variable. -/
def selK (f : Nat → Option Ty) (t : Ty) : Option Ty := if t.kind = 12 ∧ 0 ≤ t.num then f t.num.toNat else none
theorem g89 {w : World} {p : Nat} {v : Value} {t : TypeId} {fr : Nat × Nat} (h : w.heap[p]? = some (.cells #[v] t fr)) : OneAt w 89 ⟨p, 0, none⟩ v := by
  obtain ⟨T, hT⟩ := u89
  exact one_of hT rfl (by rw [cell_of_row _ _ _ _ _ _ h]; rfl)
theorem g90 {w : World} {p : Nat} {v : Value} {t : TypeId} {fr : Nat × Nat} (h : w.heap[p]? = some (.cells #[v] t fr)) : OneAt w 90 ⟨p, 0, none⟩ v := one_of u90 rfl (by rw [cell_of_row _ _ _ _ _ _ h]; rfl)
section
variable {md : Region.Mode} {ops : Array Oper} {Q : Exit → Act → World → Prop} {S : World → Prop} {fuel : Nat} {listed : Array Bool} {a : Act} {w : World} {i : Nat} {oi : Oper}
theorem ha_all24 (hr : Region.ready md ops listed = [i]) (ho : ops[i]? = some oi) (hg : Region.wanted oi (yielded ops a.tmps) = true) (hop : oi.op = .alloc 24) (hS : ∀ W, Below w.heap.size w W → S W)
    (h : ∀ W p, Below w.heap.size w W → w.heap.size ≤ p → W.heap[p]? = some (.cells (cell4 0 ⟨#[]⟩ 0 none 0 0) 24 (0, 0)) → S W → wpAnyH Tryd.prog md ops Q S fuel (listed.setIfInBounds i true) (a.put oi.dst (.pointer (some ⟨p, 0, none⟩))) W) : wpAnyH Tryd.prog md ops Q S (fuel + 1) listed a w :=
  have hb := (Below.refl _ w).alloc (Nat.le_refl _) (.cells (cell4 0 ⟨#[]⟩ 0 none 0 0) 24)
  ha_do hr ho hg (ex_alloc24 hop _ w) (hS _ hb) (h _ _ hb (Nat.le_refl _) (ha_new rfl) (hS _ hb))
end
theorem ent101 : Enters Tryd.prog 101 := enters_of Tryd.func101 (by kernel_rfl) rfl
set_option maxHeartbeats 4000000 in
set_option maxRecDepth 100000 in
theorem putF_any (f : Nat → Option Ty) (hnl : ∀ v t, f v = some t → t.nodes ≤ 1000000) (pb ps m : Nat) (es : Array MapEntry) (clock : Nat) (w : World) (hpb : w.heap[pb]? = some (.cells #[.pointer (some ⟨ps, 0, none⟩)] 89 (0, 0))) (hps : w.heap[ps]? = some (.cells #[.map (some m)] 92 (0, 0))) (hm : MapR w m f es clock) (t : Ty) (D : Nat → Prop) (row : Array Value) (h : TyAt w D t row) :
    Calls Tryd.prog 101 #[.agg row, .pointer (some ⟨pb, 0, none⟩)] w (FPost w (selK f t)) := by
  obtain ⟨k, s, n, A1, l1, c1, ts, rfl, rfl, hk, hn, -⟩ := h.parts
  have HM0 := Lib.hid hm
  have HNL := Lib.hid hnl
  clear h hm hnl
  have hb := Below.refl w.heap.size w
  go_enter Tryd.func101, Tryd.ntmps101
  go_upto_region 0 with (fail)
  apply wp_region_lit
  have lthpbp := heap_lt hpb; have lthpsp := heap_lt hps; (with_reducible refine wl_box rfl ?_); intro W p hbn hlp hp; replace hpb := below_look hbn hpb; replace hps := below_look hbn hps; replace hb := hb.trans (hbn.mono hb.size); clear hbn; simp only [Zq]
  have lthpbr := heap_lt hpb; have lthpsr := heap_lt hps; have lthpr := heap_lt hp; (with_reducible refine wl_all ?_); intro W2 r hbn hlr hr; replace hpb := below_look hbn hpb; replace hps := below_look hbn hps; replace hp := below_look hbn hp; replace hb := hb.trans (hbn.mono hb.size); clear hbn; simp only [Zq]
  (with_reducible refine wl_k ?_ ?_); exact rfl; intro K hK; go_simp; refine hK _ ?_; clear hK K
  have HM := Lib.hid (HM0.out.old hb)
  have hW2 := hb.size
  have hrW := heap_lt hr
  clear HM0
  by_cases h1 : k = 12
  · have e1 : (k != 12) = false := by simp [h1]
    by_cases h3 : ∃ v t, n = ((v : Nat) : Int) ∧ f v = some t
    · obtain ⟨v, u, rfl, hfv⟩ := h3
      have HG : Hid (selK f (.node k s (v : Int) ts) = some u) := Lib.hid (by simp [selK, Ty.kind, Ty.num, h1, hfv])
      obtain ⟨j, e, row7, hf, -, -, hta⟩ := HM.out.hit hfv
      have HF := Lib.hid hf
      have HTA := Lib.hid hta
      have HNU := Lib.hid (HNL.out v u hfv)
      clear h1 hfv hf hta
      go_upto_region 1 with (fail)
      apply wp_region_lit
      (with_reducible refine wl_k ?_ ?_); exact rfl; intro K hK; go_simp; refine hK _ ?_; clear hK K
      (first | ((with_reducible apply wl_oneG); exact rfl; exact rfl; first | exact f0 (by with_reducible assumption) | exact f1 (by with_reducible assumption) | exact f2 (by with_reducible assumption) | exact f3 (by with_reducible assumption) | with_reducible assumption | exact g22 (by with_reducible assumption) | exact g25 (by with_reducible assumption)) | ((with_reducible apply wl_rowG); exact rfl; exact rfl; first | with_reducible assumption | exact RowK.now (by with_reducible assumption) | exact f4 (by with_reducible assumption)))
      (with_reducible refine wl_k ?_ ?_); exact rfl; intro K hK; go_simp; refine hK _ ?_; clear hK K
      clear e1
      obtain ⟨k7, s7, n7, A7, l7, c7, ts7, hu7, rfl, -⟩ := HTA.out.parts
      clear hu7
      go_upto_region 3 with (fail)
      have hdr := Below.refl W2.heap.size W2 |>.drew
      refine wp_region_held_drew (S := Below W2.heap.size W2) mixed hdr (fun hS => ?_)
      refine hv3 (i := 0) rfl (by kernel_rfl) Zg hS rfl (fun w' hw' => ex_one rfl (g89 (below_look hw' hpb))) ?_; try simp only [Zy]
      refine hk3 (i := 1) rfl (by kernel_rfl) Zh hS rfl (fun K hK => ?_); go_simp; refine hK _ ?_; clear hK K; try simp only [Zq]
      refine hk3 (i := 2) rfl (by kernel_rfl) Zh hS rfl (fun K hK => ?_); go_simp; refine hK _ ?_; clear hK K; try simp only [Zq]
      refine hv3 (i := 3) rfl (by kernel_rfl) Zg hS rfl (fun w' hw' => ex_one rfl (g90 (below_look hw' hps))) ?_; try simp only [Zy]
      refine hk3 (i := 4) rfl (by kernel_rfl) Zh hS rfl (fun K hK => ?_); go_simp; refine hK _ ?_; clear hK K; try simp only [Zq]
      refine hv3 (i := 5) rfl (by kernel_rfl) Zg hS rfl (fun w' hw' => ex_one rfl (f2 (below_look hw' hp))) ?_; try simp only [Zy]
      refine hv3 (i := 6) rfl (by kernel_rfl) Zg hS rfl (fun w' hw' => ex_hit90 _ _ rfl rfl rfl (below_look hw' HM.out.blk) HF.out) ?_; try simp only [Zy]
      refine hk3 (i := 7) rfl (by kernel_rfl) Zh hS rfl (fun K hK => ?_); go_simp; refine hK _ ?_; clear hK K; try simp only [Zq]
      refine hk3 (i := 8) rfl (by kernel_rfl) Zh hS rfl (fun K hK => ?_); go_simp; refine hK _ ?_; clear hK K; try simp only [Zq]
      refine hk3 (i := 9) rfl (by kernel_rfl) Zh hS rfl (fun K hK => ?_); go_simp; refine hK _ ?_; clear hK K; try simp only [Zq]
      refine ha_all24 (i := 10) (by kernel_rfl) rfl rfl rfl (fun W' hW' => hS.trans (hW'.mono hS.size)) ?_
      intro X1 q hbn hlq hq hS1
      try simp only [Zy]
      have hrq : W2.heap.size ≤ q := by have := hS.size; omega
      have hbX := hdr.trans (hbn.mono hdr.size)
      clear hS
      refine ha_put (i := 11) (by kernel_rfl) rfl rfl _ _ rfl rfl rfl hq (fun W' hbx => hbx _ _ hrq hS1) ?_
      intro X2 hbx hsz hkx hq2 hS
      try simp only [Zy]
      refine hk3 (i := 12) rfl (by kernel_rfl) Zh hS rfl (fun K hK => ?_); go_simp; refine hK _ ?_; clear hK K; try simp only [Zq]
      refine wpAnyH_done (by kernel_rfl) ?_ _
      try simp only [Zy]
      try simp only [put_noneA]
      have hS2 := hS
      clear hS
      replace hr := below_look hS2 hr
      have hb2 := hb.trans (hS2.mono hb.size)
      clear hbx hsz hkx hS1 hbX hdr hbn hq hpb hps hp
      have HC := Lib.hid (copied_any u HNU.out X2 _ _ (HTA.out.old hS2))
      clear hS2
      go_upto_region 4 with (fail)
      apply wp_region_lit
      (first | ((with_reducible apply wl_oneG); exact rfl; exact rfl; first | exact f0 (by with_reducible assumption) | exact f1 (by with_reducible assumption) | exact f2 (by with_reducible assumption) | exact f3 (by with_reducible assumption) | with_reducible assumption | exact g22 (by with_reducible assumption) | exact g25 (by with_reducible assumption)) | ((with_reducible apply wl_rowG); exact rfl; exact rfl; first | with_reducible assumption | exact RowK.now (by with_reducible assumption) | exact f4 (by with_reducible assumption)))
      (with_reducible refine wl_ck ?_ ?_); exact rfl; intro K hK; go_simp; refine ⟨_, _, ⟨rfl, rfl⟩, hK _ _ ⟨_, HC.out, ?_⟩⟩; clear hK K; rintro e w7 ⟨row9, rfl, hta9, hb9⟩; refine ⟨_, rfl, ?_⟩; simp only [Zq]
      obtain ⟨k9, s9, n9, A9, l9, c9, ts9, hu9, rfl, -⟩ := hta9.parts
      have hX2 := hb2.size
      have HA := Lib.hid (hta9.weak (D' := fun b => w.heap.size ≤ b ∧ b ≠ r) fun b (hb : X2.heap.size ≤ b) => ⟨by omega, by have := heap_lt hr; omega⟩)
      replace hr := below_look hb9 hr
      replace hb2 := hb2.trans (hb9.mono hb2.size)
      clear hta9 hu9 hb9
      (with_reducible refine wl_k ?_ ?_); exact rfl; intro K hK; go_simp; refine hK _ ?_; clear hK K
      (with_reducible refine wl_put rfl rfl hr ?_); rw [put_noneA]; intro W3 hbx hsz hkx hnx; replace hb2 := hbx _ _ (by omega) hb2; clear hr; have hr := hnx; clear hnx
      replace HA := Lib.hid (HA.out.mono (fun _ h => h) (fun b h => hkx b h.2))
      clear hbx hkx hsz
      (with_reducible refine wl_k ?_ ?_); exact rfl; intro K hK; go_simp; refine hK _ ?_; clear hK K
      have HQ := Lib.hid hr
      have HB := Lib.hid hb2
      clear hr hb hb2 hq2 HC
      go_wp2_with fail
      refine bodyPost_ret (res24t rfl _ _ r rfl rfl HQ.out) rfl ?_
      exact ⟨_, by rw [HG.out]; rfl, by rw [HG.out]; exact HA.out.weak fun b h => h.1, HB.out⟩
    · have hno : ∀ v : Nat, n = (v : Int) → f v = none := fun v hv => by
        cases hh : f v with
        | none => rfl
        | some t => exact absurd ⟨v, t, hv, hh⟩ h3
      have HG : Hid (selK f (.node k s n ts) = none) := Lib.hid (by
        unfold selK
        split
        · rename_i hh
          exact hno _ (by have : 0 ≤ n := hh.2; show n = ((n.toNat : Nat) : Int); omega)
        · rfl)
      have HF := Lib.hid (HM.out.miss hno).1
      clear h1 h3 hno
      go_upto_region 1 with (fail)
      apply wp_region_lit
      (with_reducible refine wl_k ?_ ?_); exact rfl; intro K hK; go_simp; refine hK _ ?_; clear hK K
      (first | ((with_reducible apply wl_oneG); exact rfl; exact rfl; first | exact f0 (by with_reducible assumption) | exact f1 (by with_reducible assumption) | exact f2 (by with_reducible assumption) | exact f3 (by with_reducible assumption) | with_reducible assumption | exact g22 (by with_reducible assumption) | exact g25 (by with_reducible assumption)) | ((with_reducible apply wl_rowG); exact rfl; exact rfl; first | with_reducible assumption | exact RowK.now (by with_reducible assumption) | exact f4 (by with_reducible assumption)))
      (with_reducible refine wl_k ?_ ?_); exact rfl; intro K hK; go_simp; refine hK _ ?_; clear hK K
      clear e1
      go_upto_region 3 with (fail)
      have hdr := Below.refl W2.heap.size W2 |>.drew
      refine wp_region_held_drew (S := Below W2.heap.size W2) mixed hdr (fun hS => ?_)
      refine hv3 (i := 0) rfl (by kernel_rfl) Zg hS rfl (fun w' hw' => ex_one rfl (g89 (below_look hw' hpb))) ?_; try simp only [Zy]
      refine hk3 (i := 1) rfl (by kernel_rfl) Zh hS rfl (fun K hK => ?_); go_simp; refine hK _ ?_; clear hK K; try simp only [Zq]
      refine hk3 (i := 2) rfl (by kernel_rfl) Zh hS rfl (fun K hK => ?_); go_simp; refine hK _ ?_; clear hK K; try simp only [Zq]
      refine hv3 (i := 3) rfl (by kernel_rfl) Zg hS rfl (fun w' hw' => ex_one rfl (g90 (below_look hw' hps))) ?_; try simp only [Zy]
      refine hk3 (i := 4) rfl (by kernel_rfl) Zh hS rfl (fun K hK => ?_); go_simp; refine hK _ ?_; clear hK K; try simp only [Zq]
      refine hv3 (i := 5) rfl (by kernel_rfl) Zg hS rfl (fun w' hw' => ex_one rfl (f2 (below_look hw' hp))) ?_; try simp only [Zy]
      refine hv3 (i := 6) rfl (by kernel_rfl) Zg hS rfl (fun w' hw' => ex_miss90 _ _ rfl rfl rfl (below_look hw' HM.out.blk) HF.out) ?_; try simp only [Zy]
      refine hk3 (i := 7) rfl (by kernel_rfl) Zh hS rfl (fun K hK => ?_); go_simp; refine hK _ ?_; clear hK K; try simp only [Zq]
      refine hk3 (i := 8) rfl (by kernel_rfl) Zh hS rfl (fun K hK => ?_); go_simp; refine hK _ ?_; clear hK K; try simp only [Zq]
      refine hk3 (i := 9) rfl (by kernel_rfl) Zh hS rfl (fun K hK => ?_); go_simp; refine hK _ ?_; clear hK K; try simp only [Zq]
      refine ha_all24 (i := 10) (by kernel_rfl) rfl rfl rfl (fun W' hW' => hS.trans (hW'.mono hS.size)) ?_
      intro X1 q hbn hlq hq hS1
      try simp only [Zy]
      have hrq : W2.heap.size ≤ q := by have := hS.size; omega
      have hbX := hdr.trans (hbn.mono hdr.size)
      clear hS
      refine ha_put (i := 11) (by kernel_rfl) rfl rfl _ _ rfl rfl rfl hq (fun W' hbx => hbx _ _ hrq hS1) ?_
      intro X2 hbx hsz hkx hq2 hS
      try simp only [Zy]
      refine hk3 (i := 12) rfl (by kernel_rfl) Zh hS rfl (fun K hK => ?_); go_simp; refine hK _ ?_; clear hK K; try simp only [Zq]
      refine wpAnyH_done (by kernel_rfl) ?_ _
      try simp only [Zy]
      try simp only [put_noneA]
      have hS2 := hS
      clear hS
      replace hr := below_look hS2 hr
      have hb2 := hb.trans (hS2.mono hb.size)
      clear hbx hsz hkx hS1 hbX hdr hbn hq hpb hps hp
      have HC := Lib.hid (copied_any zeroTy (by decide) X2 _ _ (zero_at X2 (fun _ => True)))
      clear hS2
      go_upto_region 4 with (fail)
      apply wp_region_lit
      (first | ((with_reducible apply wl_oneG); exact rfl; exact rfl; first | exact f0 (by with_reducible assumption) | exact f1 (by with_reducible assumption) | exact f2 (by with_reducible assumption) | exact f3 (by with_reducible assumption) | with_reducible assumption | exact g22 (by with_reducible assumption) | exact g25 (by with_reducible assumption)) | ((with_reducible apply wl_rowG); exact rfl; exact rfl; first | with_reducible assumption | exact RowK.now (by with_reducible assumption) | exact f4 (by with_reducible assumption)))
      (with_reducible refine wl_ck ?_ ?_); exact rfl; intro K hK; go_simp; refine ⟨_, _, ⟨rfl, rfl⟩, hK _ _ ⟨_, HC.out, ?_⟩⟩; clear hK K; rintro e w7 ⟨row9, rfl, hta9, hb9⟩; refine ⟨_, rfl, ?_⟩; simp only [Zq]
      obtain ⟨k9, s9, n9, A9, l9, c9, ts9, hu9, rfl, -⟩ := hta9.parts
      have hX2 := hb2.size
      have HA := Lib.hid (hta9.weak (D' := fun b => w.heap.size ≤ b ∧ b ≠ r) fun b (hb : X2.heap.size ≤ b) => ⟨by omega, by have := heap_lt hr; omega⟩)
      replace hr := below_look hb9 hr
      replace hb2 := hb2.trans (hb9.mono hb2.size)
      clear hta9 hu9 hb9
      (with_reducible refine wl_k ?_ ?_); exact rfl; intro K hK; go_simp; refine hK _ ?_; clear hK K
      (with_reducible refine wl_put rfl rfl hr ?_); rw [put_noneA]; intro W3 hbx hsz hkx hnx; replace hb2 := hbx _ _ (by omega) hb2; clear hr; have hr := hnx; clear hnx
      replace HA := Lib.hid (HA.out.mono (fun _ h => h) (fun b h => hkx b h.2))
      clear hbx hkx hsz
      (with_reducible refine wl_k ?_ ?_); exact rfl; intro K hK; go_simp; refine hK _ ?_; clear hK K
      have HQ := Lib.hid hr
      have HB := Lib.hid hb2
      clear hr hb hb2 hq2 HC
      go_wp2_with fail
      refine bodyPost_ret (res24t rfl _ _ r rfl rfl HQ.out) rfl ?_
      exact ⟨_, by rw [HG.out]; rfl, by rw [HG.out]; exact HA.out.weak fun b h => h.1, HB.out⟩
  · have e1 : (k != 12) = true := by simp [h1]
    have HG : Hid (selK f (.node k s n ts) = none) := Lib.hid (by simp [selK, Ty.kind, h1])
    clear h1
    go_upto_region 1 with (fail)
    apply wp_region_lit
    (with_reducible refine wl_k ?_ ?_); exact rfl; intro K hK; go_simp; refine hK _ ?_; clear hK K
    (first | ((with_reducible apply wl_oneG); exact rfl; exact rfl; first | exact f0 (by with_reducible assumption) | exact f1 (by with_reducible assumption) | exact f2 (by with_reducible assumption) | exact f3 (by with_reducible assumption) | with_reducible assumption | exact g22 (by with_reducible assumption) | exact g25 (by with_reducible assumption)) | ((with_reducible apply wl_rowG); exact rfl; exact rfl; first | with_reducible assumption | exact RowK.now (by with_reducible assumption) | exact f4 (by with_reducible assumption)))
    (with_reducible refine wl_k ?_ ?_); exact rfl; intro K hK; go_simp; refine hK _ ?_; clear hK K
    clear e1
    go_upto_region 2 with (fail)
    apply wp_region_lit
    refine wl_val rfl (ex_build 24 _ rfl (L := []) rfl built24) ?_
    simp only [Zq]
    (with_reducible refine wl_put rfl rfl hr ?_); rw [put_noneA]; intro W3 hbx hsz hkx hnx; replace hb := hbx _ _ (by omega) hb; clear hr; have hr := hnx; clear hnx
    clear hbx hkx hsz
    (with_reducible refine wl_k ?_ ?_); exact rfl; intro K hK; go_simp; refine hK _ ?_; clear hK K
    have HQ := Lib.hid hr
    have HB := Lib.hid hb
    clear hp hr hpb hps hb
    go_wp2_with fail
    exact bodyPost_ret (res24t rfl _ _ r rfl rfl HQ.out) rfl ⟨_, by rw [HG.out]; rfl, by rw [HG.out]; exact zero_at _ _, HB.out⟩
open Go.RowKit Go.Proofs.YtokmaehefenpmaaDoor.Nm
set_option linter.unusedSimpArgs false
theorem run_box89 (p : Option Addr) (w : World) : (Instr.box 89 (.pointer p)).run Tryd.prog w = .ok (.pointer (some ⟨w.heap.size, 0, none⟩)) (w.alloc (.cells #[.pointer p] 89)) := by kernel_rfl
section
variable {ops : Array Oper} {rest : List Oper} {dst : Option Tmp} {ty' : TypeId} {x : Operand} {pos : String} {after : Array Edge} {a : Act} {w : World} {Q : Exit → Act → World → Prop}
theorem wl_box89 {q : Option Addr} (hx : a.eval x = .pointer q)
    (h : ∀ W p, Below w.heap.size w W → w.heap.size ≤ p → W.heap[p]? = some (.cells #[.pointer q] 89 (0, 0)) → wpList Tryd.prog ops Q rest (a.put dst (.pointer (some ⟨p, 0, none⟩))) W) :
    wpList Tryd.prog ops Q (⟨dst, .box 89 x, ty', pos, after, none⟩ :: rest) a w :=
  wl_w rfl (by unfold execOp; simp [hx, run_box89 q w, Result.andThen]) (h _ _ ((Below.refl _ w).alloc (Nat.le_refl _) _) (Nat.le_refl _) (ha_new rfl))
end
/-- The solver in memory: its variable, its map. -/
structure SolR (w : World) (ps m : Nat) (f : Nat → Option Ty) (es : Array MapEntry) (clock : Nat) : Prop where
  var : w.heap[ps]? = some (.cells #[.map (some m)] 92 (0, 0))
  map : MapR w m f es clock
  small : ∀ v t, f v = some t → t.nodes ≤ 1000000
theorem SolR.old {w w' : World} {ps m : Nat} {f : Nat → Option Ty} {es : Array MapEntry} {clock : Nat} (h : SolR w ps m f es clock) (hb : Below w.heap.size w w') : SolR w' ps m f es clock := ⟨below_look hb h.var, h.map.old hb, h.small⟩
theorem fnC_put {f : Nat → Option Ty} {p ps m : Nat} {es : Array MapEntry} {clock : Nat} {w : World} (hp : w.heap[p]? = some (.cells #[.pointer (some ⟨ps, 0, none⟩)] 89 (0, 0))) (hs : SolR w ps m f es clock) : FnC 101 #[.pointer (some ⟨p, 0, none⟩)] (selK f) w :=
  ⟨ent101, fun w' hw t D row h => putF_any f hs.small p ps m es clock w' (below_look hw hp) (below_look hw hs.var) (hs.map.old hw) t D row h⟩
set_option maxHeartbeats 1000000 in
set_option maxRecDepth 100000 in
theorem put_any (f : Nat → Option Ty) (ps m : Nat) (es : Array MapEntry) (clock : Nat) (w : World) (hs : SolR w ps m f es clock) (t : Ty) (hn : t.nodes ≤ 1000000) (D : Nat → Prop) (row : Array Value) (h : TyAt w D t row) :
    Calls Tryd.prog 71 #[.pointer (some ⟨ps, 0, none⟩), .agg row] w (NewTy w (repl (selK f) t)) := by
  have hmf : ∀ (fn : Fn) (first cap : Array Value) (w : World), (Instr.makeFunc fn first cap).run Tryd.prog w = .ok (.func fn first cap) w := fun _ _ _ _ => rfl
  obtain ⟨k, s, n, A1, l1, c1, ts, -, rfl, -⟩ := h.parts
  have HT := Lib.hid h
  have HN := Lib.hid hn
  have H2 := Lib.hid hs
  clear h hn hs
  have hb := Below.refl w.heap.size w
  go_enter Tryd.func71, Tryd.ntmps71
  go_upto_region 0 with (fail)
  apply wp_region_lit
  (with_reducible refine wl_box89 rfl ?_); intro W p hbn hlp hp; replace hb := hb.trans (hbn.mono hb.size); clear hbn; simp only [Zq]
  have lthpq := heap_lt hp; (with_reducible refine wl_box rfl ?_); intro W1 q hbn hlq hq; replace hp := below_look hbn hp; replace hb := hb.trans (hbn.mono hb.size); clear hbn; simp only [Zq]
  have lthpr := heap_lt hp; have lthqr := heap_lt hq; (with_reducible refine wl_all ?_); intro W2 r hbn hlr hr; replace hp := below_look hbn hp; replace hq := below_look hbn hq; replace hb := hb.trans (hbn.mono hb.size); clear hbn; simp only [Zq]
  have HS2 := Lib.hid (H2.out.old hb)
  have HC : Hid (Calls Tryd.prog 48 #[.agg (cell4 k s n A1 l1 c1), .func (.func 101) #[] #[.pointer (some ⟨p, 0, none⟩)]] W2 (NewTy W2 (repl (selK f) t))) := Lib.hid (replaced_any (selK f) t HN.out 101 _ W2 (fnC_put hp HS2.out) W2 (Below.refl _ _) D _ (HT.out.old hb))
  go_upto_region 1 with (fail)
  apply wp_region_lit
  (first | ((with_reducible apply wl_oneG); exact rfl; exact rfl; first | exact f0 (by with_reducible assumption) | exact f1 (by with_reducible assumption) | exact f2 (by with_reducible assumption) | exact f3 (by with_reducible assumption) | with_reducible assumption | exact g22 (by with_reducible assumption) | exact g25 (by with_reducible assumption)) | ((with_reducible apply wl_rowG); exact rfl; exact rfl; first | with_reducible assumption | exact RowK.now (by with_reducible assumption) | exact f4 (by with_reducible assumption)))
  (with_reducible refine wl_k ?_ ?_); exact rfl; intro K hK; go_simp; refine hK _ ?_; clear hK K
  (with_reducible refine wl_ck ?_ ?_); exact rfl; intro K hK; go_simp; refine ⟨_, _, ⟨rfl, rfl⟩, hK _ _ ⟨_, HC.out, ?_⟩⟩; clear hK K; rintro e w7 ⟨row7, rfl, hta7, hb7⟩; refine ⟨_, rfl, ?_⟩; simp only [Zq]
  obtain ⟨k7, s7, n7, A7, l7, c7, ts7, hu7, rfl, -⟩ := hta7.parts
  have hlr' := heap_lt hr
  have HA := Lib.hid (hta7.weak (D' := fun b => w.heap.size ≤ b ∧ b ≠ r) fun b (hb : W2.heap.size ≤ b) => ⟨by have := hb; omega, by omega⟩)
  clear hta7 HC hu7 hp hq
  replace hr := below_look hb7 hr; replace hb := hb.trans (hb7.mono hb.size); clear hb7
  (with_reducible refine wl_put rfl rfl hr ?_); rw [put_noneA]; intro W3 hbx hsz hkx hnx; replace hb := hbx _ _ (by omega) hb; clear hr; have hr := hnx; clear hnx
  replace HA := Lib.hid (HA.out.mono (fun _ h => h) (fun b h => hkx b h.2))
  clear hbx hkx hsz
  have HQ := Lib.hid hr
  clear hr
  go_wp2_with fail
  exact bodyPost_ret (res24 rfl _ _ r rfl HQ.out) rfl ⟨_, rfl, HA.out.weak fun b h => h.1, hb⟩
/-- What is known, and the solution that stands for it. -/
structure Known (m : Nat) (sol : List Ty) (f : Nat → Option Ty) : Prop where
  dom : ∀ v t, f v = some t → v < m ∧ sol[v]? = some t
  rest : ∀ v, v < m → f v = none → sol[v]? = some (varT v)
/-- To put in what is known is to put in the solution. -/
theorem put_app {m : Nat} {sol : List Ty} {f : Nat → Option Ty} (hk : Known m sol f) (hg : Good m sol) : ∀ x, FineV m x → repl (selK f) x = applyTy sol x := FineV.ind (fun v hv => by
    obtain ⟨u, h1, h2, h3⟩ := app_at hg.len hg.fine hv
    rw [h3]
    cases hf : f v with
    | some t =>
      have := (hk.dom v t hf).2
      rw [h1] at this
      cases this
      exact repl_some (by simp [selK, varT, Ty.kind, Ty.num, hf])
    | none =>
      have := hk.rest v hv hf
      rw [h1] at this
      cases this
      unfold varT
      rw [repl_none (by simp [selK, Ty.kind, Ty.num, hf])]
      rfl) fun k s n l h1 _ _ ih => by
  rw [app_node h1, repl_none (by simp [selK, Ty.kind, h1])]
  congr 1
  exact List.map_congr_left ih
end Go.Proofs.YtokmaehefenpmaaDoor
