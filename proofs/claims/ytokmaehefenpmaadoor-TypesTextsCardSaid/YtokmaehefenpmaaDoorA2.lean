/- Trees in memory: rows of them, lists of the call's own, and the steps of a walk over them. -/
import Derived.Test.YtokmaehefenpmaaDoorA1
import Derived.Test.YtokmaehefenpmaaDoorTyList
namespace Go.Proofs.YtokmaehefenpmaaDoor
open Go.RowKit Go.Proofs.YtokmaehefenpmaaDoor.Nm
set_option linter.unusedSimpArgs false
theorem u24 : Tryd.prog.underlying 24 = some (.struct (Tryd.prog.fieldsOf 24)) := by kernel_rfl
theorem u22 : Tryd.prog.underlying 22 = some (.slice 24) := by kernel_rfl
theorem u9 : Tryd.prog.underlying 9 = some .string := by kernel_rfl
theorem u25 : Tryd.prog.underlying 25 = some (.slice 9) := by kernel_rfl
theorem tyNums : TyNums Tryd.prog 24 22 9 3 := ⟨u24, by kernel_rfl, u22, u9, u3, by kernel_rfl, by kernel_rfl, by kernel_rfl, by kernel_rfl⟩
theorem info24 : (Tryd.prog.info? 24).map (·.size) = some 4 := by kernel_rfl
theorem info24b : (Tryd.prog.info? 24).map (fun i => (i.zero, i.size, i.bytes)) = some (some (.agg (cell4 0 ⟨#[]⟩ 0 none 0 0)), 4, 56) := by kernel_rfl
theorem info22 : (Tryd.prog.info? 22).map (·.size) = some 1 := by kernel_rfl
theorem info3 : (Tryd.prog.info? 3).map (·.size) = some 1 := by kernel_rfl
theorem cell4_size (k : Int) (s : ByteArray) (n : Int) (A : Option Addr) (l c : Nat) : (cell4 k s n A l c).size = 4 := rfl
theorem cell4_one (k : Int) (s : ByteArray) (n : Int) (A : Option Addr) (l c : Nat) : (cell4 k s n A l c).all (·.oneCell') = true := by simp [cell4, Value.oneCell']
/-- A row of trees at a slice. -/
structure TysAt (w : World) (D : Nat → Prop) (ts : List Ty) (A : Option Addr) (l c : Nat) : Prop where
  len : ts.length = l
  cap : l ≤ c
  max : c ≤ maxLen
  el : ∃ rows : Nat → Array Value, (∀ i t, ts[i]? = some t → Four w D A i (rows i)) ∧ ∀ i t, ts[i]? = some t → TyAt w D t (rows i)
theorem TyAt.parts {w : World} {D : Nat → Prop} {t : Ty} {row : Array Value} (h : TyAt w D t row) : ∃ k s n A l c ts, t = .node k s n ts ∧ row = cell4 k s n A l c ∧ (Lit.int .i64 k).wf = true ∧ (Lit.int .i64 n).wf = true ∧ s.size ≤ maxLen ∧ TysAt w D ts A l c := by
  cases h with
  | mk rows hk hn hs hl hc hm hf ht => exact ⟨_, _, _, _, _, _, _, rfl, rfl, hk, hn, hs, hl, hc, hm, rows, hf, ht⟩
theorem TyAt.of {w : World} {D : Nat → Prop} {k : Int} {s : ByteArray} {n : Int} {A : Option Addr} {l c : Nat} {ts : List Ty} (hk : (Lit.int .i64 k).wf = true) (hn : (Lit.int .i64 n).wf = true) (hs : s.size ≤ maxLen) (h : TysAt w D ts A l c) : TyAt w D (.node k s n ts) (cell4 k s n A l c) := by
  obtain ⟨h1, h2, h3, rows, h4, h5⟩ := h
  exact .mk rows hk hn hs h1 h2 h3 h4 h5
theorem TysAt.nil (w : World) (D : Nat → Prop) : TysAt w D [] none 0 0 := ⟨rfl, Nat.le_refl _, Nat.zero_le _, fun _ => #[], fun i t h => by simp at h, fun i t h => by simp at h⟩
theorem Four.low {w : World} {D : Nat → Prop} {A : Option Addr} {i : Nat} {row : Array Value} (h : Four w D A i row) : Four w (fun b => D b ∧ b < w.heap.size) A i row := by
  obtain ⟨b, off, Cs, t, fr, h1, h2, h3, h4⟩ := h
  exact ⟨b, off, Cs, t, fr, h1, ⟨h2, heap_lt h3⟩, h3, h4⟩
theorem TyAt.low {w : World} {D : Nat → Prop} {t : Ty} {row : Array Value} (h : TyAt w D t row) : TyAt w (fun b => D b ∧ b < w.heap.size) t row := by
  induction h with
  | mk rows hk hn hs hl hc hm hf _ ih => exact .mk rows hk hn hs hl hc hm (fun i t hi => (hf i t hi).low) ih
theorem TyAt.old {w w' : World} {D : Nat → Prop} {t : Ty} {row : Array Value} (h : TyAt w D t row) (hb : Below w.heap.size w w') : TyAt w' D t row :=
  (h.low.mono (fun _ h => h) (fun b h => hb.block b h.2)).mono (fun _ h => h.1) (fun _ _ => rfl)
theorem TyAt.weak {w : World} {D D' : Nat → Prop} {t : Ty} {row : Array Value} (h : TyAt w D t row) (hD : ∀ b, D b → D' b) : TyAt w D' t row := h.mono hD fun _ _ => rfl
theorem TysAt.mono {w w' : World} {D D' : Nat → Prop} {ts : List Ty} {A : Option Addr} {l c : Nat} (h : TysAt w D ts A l c) (hD : ∀ b, D b → D' b) (hw : ∀ b, D b → w'.heap[b]? = w.heap[b]?) : TysAt w' D' ts A l c := by
  obtain ⟨h1, h2, h3, rows, h4, h5⟩ := h
  exact ⟨h1, h2, h3, rows, fun i t hi => (h4 i t hi).mono hD hw, fun i t hi => (h5 i t hi).mono hD hw⟩
theorem TysAt.old {w w' : World} {D : Nat → Prop} {ts : List Ty} {A : Option Addr} {l c : Nat} (h : TysAt w D ts A l c) (hb : Below w.heap.size w w') : TysAt w' D ts A l c := by
  obtain ⟨h1, h2, h3, rows, h4, h5⟩ := h
  exact ⟨h1, h2, h3, rows, fun i t hi => ((h4 i t hi).low.mono (fun _ h => h) (fun b h => hb.block b h.2)).mono (fun _ h => h.1) (fun _ _ => rfl), fun i t hi => (h5 i t hi).old hb⟩
theorem TysAt.weak {w : World} {D D' : Nat → Prop} {ts : List Ty} {A : Option Addr} {l c : Nat} (h : TysAt w D ts A l c) (hD : ∀ b, D b → D' b) : TysAt w D' ts A l c := h.mono hD fun _ _ => rfl
/-- Any places at all. -/
def Any (_ : Nat) : Prop := True
theorem TysAt.get {w : World} {D : Nat → Prop} {ts : List Ty} {A : Option Addr} {l c : Nat} (h : TysAt w D ts A l c) {i : Nat} (hi : i < l) :
    ∃ b off t row, A = some ⟨b, off, none⟩ ∧ D b ∧ ts[i]? = some t ∧ RowAt w 24 ⟨b, off + i * 4, none⟩ row ∧ TyAt w D t row := by
  obtain ⟨h1, h2, h3, rows, h4, h5⟩ := h
  have ht : ts[i]? = some ts[i] := List.getElem?_eq_getElem (by omega)
  obtain ⟨b, off, Cs, t, fr, e1, e2, e3, e4⟩ := h4 i _ ht
  exact ⟨b, off, _, rows i, e1, e2, ht, row_mid e3 e4 u24 rfl (h5 i _ ht).size info24, h5 i _ ht⟩
theorem TysAt.addr {w : World} {D : Nat → Prop} {ts : List Ty} {A : Option Addr} {l c : Nat} (h : TysAt w D ts A l c) {i : Nat} (hi : i < l) : ∃ b off, A = some ⟨b, off, none⟩ := by
  obtain ⟨b, off, _, _, e, _⟩ := h.get hi
  exact ⟨b, off, e⟩
theorem TysAt.row {w : World} {D : Nat → Prop} {ts : List Ty} {b off : Nat} {l c : Nat} (h : TysAt w D ts (some ⟨b, off, none⟩) l c) {i : Nat} {t : Ty} (hi : ts[i]? = some t) : ∃ row, RowAt w 24 ⟨b, off + i * 4, none⟩ row ∧ TyAt w D t row := by
  have hl : i < l := by rw [← h.len]; exact (List.getElem?_eq_some_iff.1 hi).1
  obtain ⟨b', off', t', row, e, _, ht, hr, ha⟩ := h.get hl
  cases e; rw [hi] at ht; cases ht
  exact ⟨row, hr, ha⟩
/-- Four cells that are loaded so whatever is made beside them. -/
@[irreducible] def RowK (w : World) (ad : Addr) (row : Array Value) : Prop := ∀ w', Below w.heap.size w w' → RowAt w' 24 ad row
theorem RowK.at {w w' : World} {ad : Addr} {row : Array Value} (h : RowK w ad row) (hb : Below w.heap.size w w') : RowAt w' 24 ad row := by unfold RowK at h; exact h w' hb
theorem RowK.now {w : World} {ad : Addr} {row : Array Value} (h : RowK w ad row) : RowAt w 24 ad row := h.at (Below.refl _ _)
theorem RowK.old {w w' : World} {ad : Addr} {row : Array Value} (h : RowK w ad row) (hb : Below w.heap.size w w') : RowK w' ad row := by
  unfold RowK at *
  exact fun x hx => h x (hb.trans (hx.mono hb.size))
theorem TysAt.rowK {w : World} {D : Nat → Prop} {ts : List Ty} {b off : Nat} {l c : Nat} (h : TysAt w D ts (some ⟨b, off, none⟩) l c) {i : Nat} {t : Ty} (hi : ts[i]? = some t) : ∃ row, RowK w ⟨b, off + i * 4, none⟩ row ∧ TyAt w D t row := by
  obtain ⟨h1, h2, h3, rows, h4, h5⟩ := h
  obtain ⟨b', off', Cs, t', fr, e1, e2, e3, e4⟩ := h4 i _ hi
  cases e1
  exact ⟨rows i, by unfold RowK; exact fun w' hb => row_mid (below_look hb e3) e4 u24 rfl (h5 i _ hi).size info24, h5 i _ hi⟩
section
variable {w : World} {p : Nat} {k : Int} {s : ByteArray} {n : Int} {A : Option Addr} {l c : Nat} {t : TypeId} {fr : Nat × Nat}
theorem f0 (h : w.heap[p]? = some (.cells (cell4 k s n A l c) t fr)) : OneAt w 3 ⟨p, 0, none⟩ (.int .i64 k) := one_of u3 rfl (by rw [cell_of_row _ _ _ _ _ _ h]; rfl)
theorem f1 (h : w.heap[p]? = some (.cells (cell4 k s n A l c) t fr)) : OneAt w 9 ⟨p, 1, none⟩ (.string s) := one_of u9 rfl (by rw [cell_of_row _ _ _ _ _ _ h]; rfl)
theorem f2 (h : w.heap[p]? = some (.cells (cell4 k s n A l c) t fr)) : OneAt w 3 ⟨p, 2, none⟩ (.int .i64 n) := one_of u3 rfl (by rw [cell_of_row _ _ _ _ _ _ h]; rfl)
theorem f3 (h : w.heap[p]? = some (.cells (cell4 k s n A l c) t fr)) : OneAt w 22 ⟨p, 3, none⟩ (.slice A l c) := one_of u22 rfl (by rw [cell_of_row _ _ _ _ _ _ h]; rfl)
theorem f4 (h : w.heap[p]? = some (.cells (cell4 k s n A l c) t fr)) : RowAt w 24 ⟨p, 0, none⟩ (cell4 k s n A l c) := row_mid (n := 4) h (by rfl) u24 rfl rfl info24
end
theorem run_box24 (k : Int) (s : ByteArray) (n : Int) (A : Option Addr) (l c : Nat) (w : World) : (Instr.box 24 (.agg (cell4 k s n A l c))).run Tryd.prog w = .ok (.pointer (some ⟨w.heap.size, 0, none⟩)) (w.alloc (.cells (cell4 k s n A l c) 24)) := by kernel_rfl
theorem ex_box24 {ev : Operand → Value} {o : Oper} {w : World} (x : Operand) (ho : o.op = .box 24 x) {k : Int} {s : ByteArray} {n : Int} {A : Option Addr} {l c : Nat} (hx : ev x = .agg (cell4 k s n A l c)) :
    (execOp ev o).run Tryd.prog w = .ok (.value (.pointer (some ⟨w.heap.size, 0, none⟩))) (w.alloc (.cells (cell4 k s n A l c) 24)) := by
  unfold execOp
  simp [ho, hx, run_box24 k s n A l c w, Result.andThen]
theorem ex_alloc24 {o : Oper} (ho : o.op = .alloc 24) (ev : Operand → Value) (w : World) : (execOp ev o).run Tryd.prog w = .ok (.value (.pointer (some ⟨w.heap.size, 0, none⟩))) (w.alloc (.cells (cell4 0 ⟨#[]⟩ 0 none 0 0) 24)) := by
  unfold execOp
  simp only [ho]
  kernel_rfl
theorem run_bs22 (k : Int) (s : ByteArray) (n : Int) (A : Option Addr) (l c : Nat) (w : World) : (Instr.buildSlice 22 1 #[(0, .agg (cell4 k s n A l c))]).run Tryd.prog w = .ok (.slice (some ⟨w.heap.size, 0, none⟩) 1 1) (w.alloc (.cells (cell4 k s n A l c) 24)) := by kernel_rfl
theorem ex_bs22 {ev : Operand → Value} {o : Oper} {w : World} (x : Operand) (ho : o.op = .buildSlice 22 1 #[(0, x)]) {k : Int} {s : ByteArray} {n : Int} {A : Option Addr} {l c : Nat} (hx : ev x = .agg (cell4 k s n A l c)) :
    (execOp ev o).run Tryd.prog w = .ok (.value (.slice (some ⟨w.heap.size, 0, none⟩) 1 1)) (w.alloc (.cells (cell4 k s n A l c) 24)) := by
  unfold execOp
  have := run_bs22 k s n A l c w
  simp [ho, hx, this, Result.andThen]
section
variable {ops : Array Oper} {rest : List Oper} {dst : Option Tmp} {ty ty' : TypeId} {x y : Operand} {pos : String} {after : Array Edge} {a : Act} {w : World} {Q : Exit → Act → World → Prop}
/-- A tree's four cells in a new variable. -/
theorem wl_box {k : Int} {s : ByteArray} {n : Int} {A : Option Addr} {l c : Nat} (hx : a.eval x = .agg (cell4 k s n A l c))
    (h : ∀ W p, Below w.heap.size w W → w.heap.size ≤ p → W.heap[p]? = some (.cells (cell4 k s n A l c) 24 (0, 0)) → wpList Tryd.prog ops Q rest (a.put dst (.pointer (some ⟨p, 0, none⟩))) W) :
    wpList Tryd.prog ops Q (⟨dst, .box 24 x, ty', pos, after, none⟩ :: rest) a w :=
  wl_w rfl (ex_box24 x rfl hx) (h _ _ ((Below.refl _ w).alloc (Nat.le_refl _) _) (Nat.le_refl _) (ha_new rfl))
theorem wl_all (h : ∀ W p, Below w.heap.size w W → w.heap.size ≤ p → W.heap[p]? = some (.cells (cell4 0 ⟨#[]⟩ 0 none 0 0) 24 (0, 0)) → wpList Tryd.prog ops Q rest (a.put dst (.pointer (some ⟨p, 0, none⟩))) W) :
    wpList Tryd.prog ops Q (⟨dst, .alloc 24, ty', pos, after, none⟩ :: rest) a w :=
  wl_w rfl (ex_alloc24 rfl _ w) (h _ _ ((Below.refl _ w).alloc (Nat.le_refl _) _) (Nat.le_refl _) (ha_new rfl))
/-- A tree's four cells over a variable. -/
theorem wl_put {k : Int} {s : ByteArray} {n : Int} {A : Option Addr} {l c : Nat} {p : Nat} {k' : Int} {s' : ByteArray} {n' : Int} {A' : Option Addr} {l' c' : Nat} (hx : a.eval x = .pointer (some ⟨p, 0, none⟩)) (hy : a.eval y = .agg (cell4 k s n A l c)) (hp : w.heap[p]? = some (.cells (cell4 k' s' n' A' l' c') 24 (0, 0)))
    (h : ∀ W, (∀ B w0, B ≤ p → Below B w0 w → Below B w0 W) → W.heap.size = w.heap.size → (∀ g, g ≠ p → W.heap[g]? = w.heap[g]?) → W.heap[p]? = some (.cells (cell4 k s n A l c) 24 (0, 0)) → wpList Tryd.prog ops Q rest (a.put none undef) W) :
    wpList Tryd.prog ops Q (⟨none, .store 24 x y, ty', pos, after, none⟩ :: rest) a w := by
  refine wpList_plain rfl fun _ hK => wp_store_row 24 x y rfl p (cell4 k s n A l c) hx hy 24 _ hp info24 rfl (cell4_one _ _ _ _ _ _) (hK _ _ ?_)
  exact h _ (fun B w0 hB hb => below_setRow hb hB _) (by simp) (fun g hg => setRow_other w p g _ hg) (hr_new hp)
/-- The slice of a tree's variable. -/
theorem wl_put3 {k : Int} {s : ByteArray} {n : Int} {A : Option Addr} {l c : Nat} {p : Nat} {A' : Option Addr} {l' c' : Nat} (hx : a.eval x = .pointer (some ⟨p, 3, none⟩)) (hy : a.eval y = .slice A' l' c') (hp : w.heap[p]? = some (.cells (cell4 k s n A l c) 24 (0, 0)))
    (h : ∀ W, (∀ B w0, B ≤ p → Below B w0 w → Below B w0 W) → W.heap.size = w.heap.size → (∀ g, g ≠ p → W.heap[g]? = w.heap[g]?) → W.heap[p]? = some (.cells (cell4 k s n A' l' c') 24 (0, 0)) → wpList Tryd.prog ops Q rest (a.put none undef) W) :
    wpList Tryd.prog ops Q (⟨none, .store 22 x y, ty', pos, after, none⟩ :: rest) a w := by
  refine wl_storeC rfl 22 x y rfl p 3 _ hx hy info22 rfl (by rw [cell_of_row _ _ _ _ _ _ hp]; rfl) (by unfold World.frozen?; rw [hp]; rfl) ?_
  exact h _ (fun B w0 hB hb => hb.setCell hB _) (by simp [World.setCell]) (fun g hg => heap_setCell_other _ _ _ _ hg) (by rw [hs_new hp]; rfl)
end
/-- A list of trees of the call's own: its blocks and those of its trees lie at B or behind, the trees not in the list's own block. -/
structure OwnT (w : World) (B : Nat) (v : Value) (ts : List Ty) : Prop where
  own : ∃ rows : List (Array Value), rows.length = ts.length ∧ w.ownsRow B 24 4 v ts.length (rows.flatMap (·.toList)) ∧ ∀ (i : Nat) (t : Ty) (row : Array Value), ts[i]? = some t → rows[i]? = some row → TyAt w (fun b => B ≤ b ∧ v.ownBlock ≠ some b) t row
theorem OwnT.nil (w : World) (B : Nat) : OwnT w B (.slice none 0 0) [] := ⟨[], rfl, World.ownsRow_nil _ _ _ _, fun i t row h => by simp at h⟩
theorem own_same {w w' : World} {b n : Nat} {e : TypeId} {size : Nat} {v : Value} {xs : List Value} (h : w.ownsRow b e size v n xs) (hs : ∀ q, q < w.heap.size → v.ownBlock = some q → w'.heap[q]? = w.heap[q]?) : w'.ownsRow b e size v n xs := by
  refine ⟨h.1, ?_⟩
  rcases h.2 with h | ⟨g, cap, cur, rfl, hB, hg, rest⟩
  · exact Or.inl h
  · exact Or.inr ⟨g, cap, cur, rfl, hB, by rw [hs g (heap_lt hg) rfl, hg], rest⟩
/-- It stands where its blocks stand. -/
theorem OwnT.same {w w' : World} {B : Nat} {v : Value} {ts : List Ty} (h : OwnT w B v ts) (hs : ∀ q, B ≤ q → q < w.heap.size → w'.heap[q]? = w.heap[q]?) : OwnT w' B v ts := by
  obtain ⟨rows, h1, h2, h3⟩ := h
  exact ⟨rows, h1, own_same h2 fun q hq hv => hs q (h2.lt q hv).1 hq, fun i t row ht hr => (((h3 i t row ht hr).low).mono (fun _ h => h) (fun b hb => hs b hb.1.1 hb.2)).weak fun _ h => h.1⟩
theorem OwnT.old {w w' : World} {B : Nat} {v : Value} {ts : List Ty} (h : OwnT w B v ts) (hb : Below w.heap.size w w') : OwnT w' B v ts := h.same fun q _ hq => hb.block q hq
theorem flat_len {rows : List (Array Value)} (h : ∀ r, r ∈ rows → r.size = 4) : (rows.flatMap (·.toList)).length = rows.length * 4 := by
  induction rows with
  | nil => rfl
  | cons r rows ih =>
    simp only [List.flatMap_cons, List.length_append, List.length_cons, ih fun r hr => h r (by simp [hr]), Array.length_toList, h r (by simp)]
    omega
theorem flat_get : ∀ {rows : List (Array Value)}, (∀ r, r ∈ rows → r.size = 4) → ∀ {i : Nat} {row : Array Value}, rows[i]? = some row → ((rows.flatMap (·.toList)).drop (i * 4)).take 4 = row.toList
  | [], _, i, row, hi => by simp at hi
  | r :: rows, h, 0, row, hi => by
    have hr : r.toList.length = 4 := by simp [h r (by simp)]
    simp at hi; subst hi
    simp only [List.flatMap_cons, Nat.zero_mul, List.drop_zero]
    rw [List.take_append_of_le_length (by omega), List.take_of_length_le (by omega)]
  | r :: rows, h, i + 1, row, hi => by
    have hr : r.toList.length = 4 := by simp [h r (by simp)]
    simp only [List.flatMap_cons]
    rw [show (i + 1) * 4 = r.toList.length + i * 4 by omega, List.drop_append]
    simp only [Nat.add_sub_cancel_left]
    rw [List.drop_of_length_le (by omega), List.nil_append]
    exact flat_get (fun r hr => h r (by simp [hr])) (by simpa using hi)
/-- Such a list read as a row of trees. -/
theorem OwnT.at {w : World} {B : Nat} {v : Value} {ts : List Ty} (h : OwnT w B v ts) : ∃ A l c, v = .slice A l c ∧ TysAt w (fun b => B ≤ b) ts A l c := by
  obtain ⟨rows, h1, h2, h3⟩ := h
  have h4 : ∀ r, r ∈ rows → r.size = 4 := fun r hr => by
    obtain ⟨i, hi, rfl⟩ := List.getElem_of_mem hr
    exact (h3 i _ _ (List.getElem?_eq_getElem (by omega)) (List.getElem?_eq_getElem hi)).size
  rcases h2.2 with ⟨rfl, hn⟩ | ⟨g, cap, cur, rfl, hB, hg, hc, hm, hs, hcur⟩
  · have : ts = [] := by cases ts with | nil => rfl | cons => simp at hn
    subst this
    exact ⟨none, 0, 0, rfl, TysAt.nil _ _⟩
  · refine ⟨_, _, _, rfl, rfl, hc, hm, fun i => (rows[i]?).getD #[], fun i t ht => ?_, fun i t ht => ?_⟩
    · have hi : i < ts.length := (List.getElem?_eq_some_iff.1 ht).1
      have hr : rows[i]? = some rows[i] := List.getElem?_eq_getElem (by omega)
      refine ⟨g, 0, cur, 24, (0, 0), rfl, hB, hg, ?_⟩
      have hf := flat_get h4 hr
      rw [← hcur, List.drop_take, List.take_take] at hf
      simp only [hr, Option.getD_some]
      apply Array.toList_inj.1
      rw [← hf]
      simp only [Array.toList_extract, List.extract_eq_take_drop, Nat.zero_add]
      rw [show i * 4 + 4 - i * 4 = min 4 (ts.length * 4 - i * 4) by omega]
    · have hi : i < ts.length := (List.getElem?_eq_some_iff.1 ht).1
      have hr : rows[i]? = some rows[i] := List.getElem?_eq_getElem (by omega)
      simp only [hr, Option.getD_some]
      exact (h3 i t _ ht hr).weak fun _ h => h.1
/-- What an append of one tree leaves. -/
theorem OwnT.snoc {w w' : World} {B : Nat} {v v' : Value} {ts : List Ty} {t : Ty} {row : Array Value} (rows : List (Array Value)) (h1 : rows.length = ts.length)
    (h3 : ∀ (i : Nat) (t : Ty) (row : Array Value), ts[i]? = some t → rows[i]? = some row → TyAt w (fun b => B ≤ b ∧ v.ownBlock ≠ some b) t row) (ht : TyAt w (fun b => B ≤ b ∧ v.ownBlock ≠ some b) t row)
    (ho : w'.ownsRow B 24 4 v' (ts.length + 1) (rows.flatMap (·.toList) ++ row.toList)) (hg : w.grownBy w' v.ownBlock) (hv : ∀ b, v'.ownBlock = some b → v.ownBlock = some b ∨ w.heap.size ≤ b) : OwnT w' B v' (ts ++ [t]) := by
  refine ⟨rows ++ [row], by simp [h1], by simpa using ho, fun i u r hu hr => ?_⟩
  have key : ∀ {u : Ty} {r : Array Value}, TyAt w (fun b => B ≤ b ∧ v.ownBlock ≠ some b) u r → TyAt w' (fun b => B ≤ b ∧ v'.ownBlock ≠ some b) u r := fun h =>
    h.low.mono (fun b hb => ⟨hb.1.1, fun e => (hv b e).elim (fun e => hb.1.2 e) (fun e => absurd hb.2 (by omega))⟩) (fun b hb => hg.block b hb.2 (fun e => hb.1.2 e.symm))
  rcases Nat.lt_or_ge i ts.length with hi | hi
  · rw [List.getElem?_append_left hi] at hu
    rw [List.getElem?_append_left (by omega)] at hr
    exact key (h3 i u r hu hr)
  · have hl := (List.getElem?_eq_some_iff.1 hu).1
    simp at hl
    obtain rfl : i = ts.length := by omega
    rw [List.getElem?_append_right (Nat.le_refl _)] at hu
    rw [List.getElem?_append_right (by omega), h1] at hr
    simp at hu hr
    subst hu hr
    exact key ht
/-- An append of one tree, whose four cells stand in a new block. -/
theorem run_push {w : World} {B : Nat} {v : Value} {ts : List Ty} {t : Ty} {row : Array Value} (oty : TypeId) (h : OwnT w B v ts) (ht : TyAt w (fun b => B ≤ b ∧ v.ownBlock ≠ some b) t row) {q : Nat} {tq : TypeId} (hq : w.heap[q]? = some (.cells row tq (0, 0))) (hn : ts.length ≤ 1000000) (hB : B ≤ w.heap.size) :
    ∃ v' w', (Builtin.append_ #[22, 22] oty #[v, .slice (some ⟨q, 0, none⟩) 1 1]).run Tryd.prog w = .ok v' w' ∧ OwnT w' B v' (ts ++ [t]) ∧ (∀ b, b < w.heap.size → v.ownBlock ≠ some b → w'.heap[b]? = w.heap[b]?) ∧ (∀ B' w0, (∀ b, v.ownBlock = some b → B' ≤ b) → B' ≤ w.heap.size → Below B' w0 w → Below B' w0 w') ∧ ∃ A l c, v' = .slice A l c := by
  obtain ⟨i0, hi, hz0, hz1, hz2⟩ := info_parts info24b
  obtain ⟨rows, h1, h2, h3⟩ := h
  obtain ⟨k, s, n, A, l, c, ts', rfl, rfl, -⟩ := ht.parts
  obtain ⟨v', w', hr, g2, g3, g4, g5⟩ := run_append_own_at (P := Tryd.prog) w B 22 oty 24 i0 _ 4 56 u22 hi hz0 hz1 hz2 rfl (by decide) v ts.length _ h2 ⟨q, 0, none⟩ 1 1 (cell4 k s n A l c).toList rfl (fun j u hj => by
      rw [show (Addr.add ⟨q, 0, none⟩ j) = ⟨q, j, none⟩ by rw [Addr.add_mid]; simp, cell_of_row _ _ _ _ _ _ hq]
      simpa using hj) (fun u hu => by simp [cell4] at hu; rcases hu with rfl | rfl | rfl | rfl <;> rfl) (by unfold maxLen; omega) (by omega) hB
  have hO := OwnT.snoc rows h1 h3 ht (by simpa using g2) g3 (fun b hb => by
    rcases g5 with e | e
    · rw [e] at hb; exact Or.inl hb
    · rw [e] at hb; simp at hb; exact Or.inr (by omega))
  obtain ⟨A', l', c', hv', -⟩ := hO.at
  exact ⟨v', w', hr, hO, fun b hb hne => g3.block b hb (fun e => hne e.symm), fun B' w0 hb1 hb2 hb => hb.grown g3 hb2 hb1, A', l', c', hv'⟩
section
variable {ops : Array Oper} {rest : List Oper} {o : Oper} {a : Act} {w : World} {Q : Exit → Act → World → Prop}
theorem wl_push (hg : o.guard = none) (s x : Operand) (ho : o.op = .call { callee := .builtin .append, args := #[s, x], argTypes := #[22, 22] }) {B : Nat} {v : Value} {ts : List Ty} {t : Ty} {row : Array Value} {q : Nat} {tq : TypeId}
    (hs : a.eval s = v) (hx : a.eval x = .slice (some ⟨q, 0, none⟩) 1 1) (h : OwnT w B v ts) (ht : TyAt w (fun b => B ≤ b ∧ v.ownBlock ≠ some b) t row) (hq : w.heap[q]? = some (.cells row tq (0, 0))) (hn : ts.length ≤ 1000000) (hB : B ≤ w.heap.size)
    (hK : ∀ A l c w', OwnT w' B (.slice A l c) (ts ++ [t]) → (∀ b, b < w.heap.size → v.ownBlock ≠ some b → w'.heap[b]? = w.heap[b]?) → (∀ B' w0, (∀ b, v.ownBlock = some b → B' ≤ b) → B' ≤ w.heap.size → Below B' w0 w → Below B' w0 w') → wpList Tryd.prog ops Q rest (a.put o.dst (.slice A l c)) w') : wpList Tryd.prog ops Q (o :: rest) a w := by
  obtain ⟨v', w', hr, h2, h3, h4, A, l, c, rfl⟩ := run_push o.type h ht hq hn hB
  refine wl_w hg ?_ (hK A l c w' h2 h3 h4)
  unfold execOp
  simp only [ho, resolve, invoke, builtin, Sem.run_bind, Sem.run_pure, Result.andThen_ok, List.map_toArray, List.map_cons, List.map_nil, hs, hx, hr]
end
section
variable {md : Region.Mode} {ops : Array Oper} {Q : Exit → Act → World → Prop} {S : World → Prop} {fuel : Nat} {listed : Array Bool} {a : Act} {w : World} {i : Nat} {oi : Oper}
theorem ha_push (hr : Region.ready md ops listed = [i]) (ho : ops[i]? = some oi) (hg : Region.wanted oi (yielded ops a.tmps) = true) (s x : Operand) (hop : oi.op = .call { callee := .builtin .append, args := #[s, x], argTypes := #[22, 22] }) {B : Nat} {v : Value} {ts : List Ty} {t : Ty} {row : Array Value} {q : Nat} {tq : TypeId}
    (hs : a.eval s = v) (hx : a.eval x = .slice (some ⟨q, 0, none⟩) 1 1) (h : OwnT w B v ts) (ht : TyAt w (fun b => B ≤ b ∧ v.ownBlock ≠ some b) t row) (hq : w.heap[q]? = some (.cells row tq (0, 0))) (hn : ts.length ≤ 1000000) (hB : B ≤ w.heap.size)
    (hS : ∀ w', (∀ B' w0, (∀ b, v.ownBlock = some b → B' ≤ b) → B' ≤ w.heap.size → Below B' w0 w → Below B' w0 w') → S w')
    (hK : ∀ A l c w', OwnT w' B (.slice A l c) (ts ++ [t]) → (∀ b, b < w.heap.size → v.ownBlock ≠ some b → w'.heap[b]? = w.heap[b]?) → (∀ B' w0, (∀ b, v.ownBlock = some b → B' ≤ b) → B' ≤ w.heap.size → Below B' w0 w → Below B' w0 w') → S w' → wpAnyH Tryd.prog md ops Q S fuel (listed.setIfInBounds i true) (a.put oi.dst (.slice A l c)) w') : wpAnyH Tryd.prog md ops Q S (fuel + 1) listed a w := by
  obtain ⟨v', w', hx2, h2, h3, h4, A, l, c, rfl⟩ := run_push oi.type h ht hq hn hB
  refine ha_do hr ho hg (w2 := w') (v := .slice A l c) ?_ (hS w' h4) (hK A l c w' h2 h3 h4 (hS w' h4))
  unfold execOp
  simp only [hop, resolve, invoke, builtin, Sem.run_bind, Sem.run_pure, Result.andThen_ok, List.map_toArray, List.map_cons, List.map_nil, hs, hx, hx2]
end
theorem OwnT.lt {w : World} {B : Nat} {v : Value} {ts : List Ty} (h : OwnT w B v ts) : ∀ b, v.ownBlock = some b → B ≤ b ∧ b < w.heap.size := by
  obtain ⟨rows, _, h2, _⟩ := h
  exact h2.lt
/-- A tree made later lies apart. -/
theorem OwnT.apart {w w' : World} {B : Nat} {v : Value} {ts : List Ty} (h : OwnT w B v ts) (hB : B ≤ w.heap.size) {t : Ty} {row : Array Value} (ht : TyAt w' (fun b => w.heap.size ≤ b) t row) : TyAt w' (fun b => B ≤ b ∧ v.ownBlock ≠ some b) t row :=
  ht.weak fun b hb => ⟨by omega, fun e => by have := (h.lt b e).2; omega⟩
section
variable {ops : Array Oper} {rest : List Oper} {dst : Option Tmp} {ty' : TypeId} {x : Operand} {pos : String} {after : Array Edge} {a : Act} {w : World} {Q : Exit → Act → World → Prop}
theorem wl_bs {k : Int} {s : ByteArray} {n : Int} {A : Option Addr} {l c : Nat} (hx : a.eval x = .agg (cell4 k s n A l c))
    (h : ∀ W p, Below w.heap.size w W → w.heap.size ≤ p → W.heap[p]? = some (.cells (cell4 k s n A l c) 24 (0, 0)) → wpList Tryd.prog ops Q rest (a.put dst (.slice (some ⟨p, 0, none⟩) 1 1)) W) :
    wpList Tryd.prog ops Q (⟨dst, .buildSlice 22 1 #[(0, x)], ty', pos, after, none⟩ :: rest) a w :=
  wl_w rfl (ex_bs22 x rfl hx) (h _ _ ((Below.refl _ w).alloc (Nat.le_refl _) _) (Nat.le_refl _) (ha_new rfl))
end
/-- What a call hands back that makes a tree: the tree in new blocks; nothing old turned. -/
def NewTy (w : World) (t : Ty) (e : Ending) (w' : World) : Prop := ∃ row, e = .returned (.agg row) ∧ TyAt w' (fun b => w.heap.size ≤ b) t row ∧ Below w.heap.size w w'
def NewTys (w : World) (ts : List Ty) (e : Ending) (w' : World) : Prop := ∃ A l c, e = .returned (.slice A l c) ∧ TysAt w' (fun b => w.heap.size ≤ b) ts A l c ∧ Below w.heap.size w w'
theorem res24 {fn : Func} {p : Tmp} (h : fn.results = #[.cell p 24]) (tmps : Array Value) (w : World) (g : Nat) (hp : tmps.getD p undef = .pointer (some ⟨g, 0, none⟩)) {k : Int} {s : ByteArray} {n : Int} {A : Option Addr} {l c : Nat}
    (hg : w.heap[g]? = some (.cells (cell4 k s n A l c) 24 (0, 0))) : (results fn tmps).run Tryd.prog w = .ok (.agg (cell4 k s n A l c)) w := by
  have hp' : tmps[p]?.getD undef = .pointer (some ⟨g, 0, none⟩) := by simpa using hp
  have l1 : (loadVar 24 ⟨g, 0, none⟩).run Tryd.prog w = .ok (.agg (cell4 k s n A l c)) w := by have := f4 hg; unfold RowAt at this; exact this
  unfold results
  simp [h, hp', asAddr, l1, Result.andThen]
theorem res24t {fn : Func} {p q : Tmp} (h : fn.results = #[.cell p 24, .tmp q]) (tmps : Array Value) (w : World) (g : Nat) (hp : tmps.getD p undef = .pointer (some ⟨g, 0, none⟩)) {k : Int} {s : ByteArray} {n : Int} {A : Option Addr} {l c : Nat} {x : Value}
    (hq : tmps.getD q undef = x) (hg : w.heap[g]? = some (.cells (cell4 k s n A l c) 24 (0, 0))) : (results fn tmps).run Tryd.prog w = .ok (.tuple #[.agg (cell4 k s n A l c), x]) w := by
  have hp' : tmps[p]?.getD undef = .pointer (some ⟨g, 0, none⟩) := by simpa using hp
  have hq' : tmps[q]?.getD undef = x := by simpa using hq
  have l1 : (loadVar 24 ⟨g, 0, none⟩).run Tryd.prog w = .ok (.agg (cell4 k s n A l c)) w := by have := f4 hg; unfold RowAt at this; exact this
  unfold results
  simp [h, hp', hq', asAddr, l1, Result.andThen]
theorem mem_nodesL {t : Ty} : ∀ {l : List Ty}, t ∈ l → t.nodes ≤ nodesL l
  | [], h => by cases h
  | u :: l, h => by
    simp only [nodesL]
    rcases List.mem_cons.1 h with rfl | h
    · omega
    · have := mem_nodesL h; omega
theorem len_nodesL : ∀ (l : List Ty), l.length ≤ nodesL l
  | [] => by simp [nodesL]
  | t :: l => by have := len_nodesL l; have := nodes_pos t; simp only [nodesL, List.length_cons]; omega
/-- The kind of a tree of a row. -/
theorem TysAt.kind {w : World} {D : Nat → Prop} {ts : List Ty} {b off : Nat} {l c : Nat} (h : TysAt w D ts (some ⟨b, off, none⟩) l c) {i : Nat} {t : Ty} (hi : ts[i]? = some t) : OneAt w 3 ⟨b, off + i * 4, none⟩ (.int .i64 t.kind) := by
  obtain ⟨h1, h2, h3, rows, h4, h5⟩ := h
  obtain ⟨b', off', Cs, t', fr, e1, e2, e3, e4⟩ := h4 i _ hi
  cases e1
  obtain ⟨k, s, n, A, l', c', ts', rfl, hr, -⟩ := (h5 i _ hi).parts
  rw [hr] at e4
  refine one_of u3 rfl ?_
  rw [cell_of_row _ _ _ _ _ _ e3]
  have := congrArg (fun x : Array Value => x[0]?) e4
  rw [Array.getElem?_extract] at this
  simp [cell4] at this
  simpa [Ty.kind] using this.2
theorem run_box22 (A : Option Addr) (l c : Nat) (w : World) : (Instr.box 22 (.slice A l c)).run Tryd.prog w = .ok (.pointer (some ⟨w.heap.size, 0, none⟩)) (w.alloc (.cells #[.slice A l c] 22)) := by kernel_rfl
theorem run_box25 (A : Option Addr) (l c : Nat) (w : World) : (Instr.box 25 (.slice A l c)).run Tryd.prog w = .ok (.pointer (some ⟨w.heap.size, 0, none⟩)) (w.alloc (.cells #[.slice A l c] 25)) := by kernel_rfl
section
variable {ops : Array Oper} {rest : List Oper} {dst : Option Tmp} {ty' : TypeId} {x : Operand} {pos : String} {after : Array Edge} {a : Act} {w : World} {Q : Exit → Act → World → Prop}
theorem wl_box22 {A : Option Addr} {l c : Nat} (hx : a.eval x = .slice A l c)
    (h : ∀ W p, Below w.heap.size w W → w.heap.size ≤ p → W.heap[p]? = some (.cells #[.slice A l c] 22 (0, 0)) → wpList Tryd.prog ops Q rest (a.put dst (.pointer (some ⟨p, 0, none⟩))) W) :
    wpList Tryd.prog ops Q (⟨dst, .box 22 x, ty', pos, after, none⟩ :: rest) a w :=
  wl_w rfl (by unfold execOp; simp [hx, run_box22 A l c w, Result.andThen]) (h _ _ ((Below.refl _ w).alloc (Nat.le_refl _) _) (Nat.le_refl _) (ha_new rfl))
theorem wl_box25 {A : Option Addr} {l c : Nat} (hx : a.eval x = .slice A l c)
    (h : ∀ W p, Below w.heap.size w W → w.heap.size ≤ p → W.heap[p]? = some (.cells #[.slice A l c] 25 (0, 0)) → wpList Tryd.prog ops Q rest (a.put dst (.pointer (some ⟨p, 0, none⟩))) W) :
    wpList Tryd.prog ops Q (⟨dst, .box 25 x, ty', pos, after, none⟩ :: rest) a w :=
  wl_w rfl (by unfold execOp; simp [hx, run_box25 A l c w, Result.andThen]) (h _ _ ((Below.refl _ w).alloc (Nat.le_refl _) _) (Nat.le_refl _) (ha_new rfl))
end
theorem g22 {w : World} {p : Nat} {A : Option Addr} {l c : Nat} {t : TypeId} {fr : Nat × Nat} (h : w.heap[p]? = some (.cells #[.slice A l c] t fr)) : OneAt w 22 ⟨p, 0, none⟩ (.slice A l c) := one_of u22 rfl (by rw [cell_of_row _ _ _ _ _ _ h]; rfl)
theorem g25 {w : World} {p : Nat} {A : Option Addr} {l c : Nat} {t : TypeId} {fr : Nat × Nat} (h : w.heap[p]? = some (.cells #[.slice A l c] t fr)) : OneAt w 25 ⟨p, 0, none⟩ (.slice A l c) := one_of u25 rfl (by rw [cell_of_row _ _ _ _ _ _ h]; rfl)
/-- A guarded operation left out, whose slot is empty. -/
theorem put_undef (l : List Value) (df : List Deferred) (d : Nat) (h : l[d]? = some undef) : (Act.mk l.toArray df).put (some d) undef = Act.mk l.toArray df := by
  rw [put_lit]
  congr 2
  apply List.ext_getElem?
  intro i
  rw [List.getElem?_set]
  split
  · rename_i e; subst e
    split
    · exact h.symm
    · rename_i hn; rw [List.getElem?_eq_none (by omega)]
  · rfl
theorem wl_skipU {P : Program} {ops : Array Oper} {rest : List Oper} {op : Op} {d : Nat} {ty : TypeId} {pos : String} {after : Array Edge} {g : Option (Nat × Bool)} {l : List Value} {df : List Deferred} {w : World} {Q : Exit → Act → World → Prop} (hg : Region.wanted ⟨some d, op, ty, pos, after, g⟩ (yielded ops (Act.mk l.toArray df).tmps) = false) (hu : l[d]? = some undef)
    (h : wpList P ops Q rest (Act.mk l.toArray df) w) : wpList P ops Q (⟨some d, op, ty, pos, after, g⟩ :: rest) (Act.mk l.toArray df) w :=
  wl_skip hg (by rw [put_undef l df d hu]; exact h)
end Go.Proofs.YtokmaehefenpmaaDoor
