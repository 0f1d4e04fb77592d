/- Rows of the call's own: slices whose elements are read and written one by one. The program's heap in memory. -/
import Derived.Laws.CopyRow
import Derived.Laws.OwnMore
import Derived.Maps.AppendAt
import Derived.Test.YtpamocglecangaaPB1
import Derived.MapKept
namespace Go.Proofs.Ytpamocglecangaa
open Go.RowKit Go.Proofs.Ytpamocglecangaa.Nm
/-- A slice whose elements (sz cells each) are these rows. -/
structure OwnL (w : World) (ty : TypeId) (sz : Nat) (A : Option Addr) (c : Nat) (rows : List (Array Value)) : Prop where
  size : ∀ r, r ∈ rows → r.size = sz
  cap : rows.length ≤ c
  max : c ≤ maxLen
  el : (A = none ∧ rows = [] ∧ c = 0) ∨ ∃ g cur, A = some ⟨g, 0, none⟩ ∧ w.heap[g]? = some (.cells cur ty (0, 0)) ∧ cur.size = c * sz ∧ ∀ (i : Nat) (r : Array Value), rows[i]? = some r → cur.extract (i * sz) (i * sz + sz) = r
theorem OwnL.nil (w : World) (ty : TypeId) (sz : Nat) : OwnL w ty sz none 0 [] := ⟨fun r h => (by cases h), Nat.le_refl _, Nat.zero_le _, .inl ⟨rfl, rfl, rfl⟩⟩
section
variable {w w' : World} {ty : TypeId} {sz : Nat} {A : Option Addr} {c : Nat} {rows : List (Array Value)}
theorem OwnL.same (h : OwnL w ty sz A c rows) (hs : ∀ g, A = some ⟨g, 0, none⟩ → g < w.heap.size → w'.heap[g]? = w.heap[g]?) : OwnL w' ty sz A c rows := by
  obtain ⟨h1, h2, h3, h4⟩ := h
  refine ⟨h1, h2, h3, h4.imp id ?_⟩
  rintro ⟨g, cur, e, hg, h5, h6⟩
  exact ⟨g, cur, e, by rw [hs g e (heap_lt hg)]; exact hg, h5, h6⟩
theorem OwnL.old (h : OwnL w ty sz A c rows) (hb : Below w.heap.size w w') : OwnL w' ty sz A c rows := h.same fun g _ hl => hb.block g hl
theorem OwnL.keep {C : Nat → Prop} (h : OwnL w ty sz A c rows) (hk : Keep C w w') (hC : ∀ g, A = some ⟨g, 0, none⟩ → ¬ C g) : OwnL w' ty sz A c rows := h.same fun g e hl => hk.block g hl (hC g e)
theorem OwnL.addr (h : OwnL w ty sz A c rows) {i : Nat} (hi : i < rows.length) : ∃ g cur, A = some ⟨g, 0, none⟩ ∧ w.heap[g]? = some (.cells cur ty (0, 0)) ∧ cur.size = c * sz ∧ ∀ (i : Nat) (r : Array Value), rows[i]? = some r → cur.extract (i * sz) (i * sz + sz) = r := by
  rcases h.el with ⟨-, e, -⟩ | h
  · rw [e] at hi; simp at hi
  · exact h
theorem OwnL.fits (h : OwnL w ty sz A c rows) {i : Nat} (hi : i < rows.length) : i * sz + sz ≤ c * sz := by
  have := h.cap
  calc i * sz + sz = (i + 1) * sz := by rw [Nat.succ_mul]
    _ ≤ c * sz := Nat.mul_le_mul_right _ (by omega)
theorem OwnL.cut (h : OwnL w ty sz A c rows) (n : Nat) : OwnL w ty sz A c (rows.take n) := by
  obtain ⟨h1, h2, h3, h4⟩ := h
  refine ⟨fun r hr => h1 r (List.mem_of_mem_take hr), by rw [List.length_take]; omega, h3, ?_⟩
  rcases h4 with ⟨e1, e2, e3⟩ | ⟨g, cur, e, hg, h5, h6⟩
  · exact .inl ⟨e1, by rw [e2]; simp, e3⟩
  · refine .inr ⟨g, cur, e, hg, h5, fun i r hr => h6 i r ?_⟩
    rw [List.getElem?_take] at hr
    split at hr
    · exact hr
    · cases hr
/-- One element's cells. -/
theorem OwnL.at {g : Nat} (h : OwnL w ty sz (some ⟨g, 0, none⟩) c rows) {i : Nat} {r : Array Value} (hi : rows[i]? = some r) : ∃ cur, w.heap[g]? = some (.cells cur ty (0, 0)) ∧ cur.size = c * sz ∧ i * sz + sz ≤ cur.size ∧ cur.extract (i * sz) (i * sz + sz) = r ∧ r.size = sz := by
  have hl := (List.getElem?_eq_some_iff.1 hi).1
  obtain ⟨g', cur, e, hg, h5, h6⟩ := h.addr hl
  cases e
  exact ⟨cur, hg, h5, by rw [h5]; exact h.fits hl, h6 i r hi, h.size r (List.mem_of_getElem? hi)⟩
theorem ext_get {cur r : Array Value} {o n j : Nat} (h : cur.extract o (o + n) = r) {x : Value} (hx : r[j]? = some x) : cur[o + j]? = some x := by
  rw [← h, Array.getElem?_extract] at hx
  split at hx
  · exact hx
  · cases hx
theorem OwnL.cell {g : Nat} (h : OwnL w ty sz (some ⟨g, 0, none⟩) c rows) {i j : Nat} {r : Array Value} (hi : rows[i]? = some r) {x : Value} (hx : r[j]? = some x) : w.cell? ⟨g, i * sz + j, none⟩ = some x := by
  obtain ⟨cur, hg, -, -, h6, -⟩ := h.at hi
  rw [cell_of_row _ _ _ _ _ _ hg]
  exact ext_get h6 hx
theorem OwnL.lies {g : Nat} (h : OwnL w ty sz (some ⟨g, 0, none⟩) c rows) {i j : Nat} {r : Array Value} (hi : rows[i]? = some r) (hj : j < sz) : (w.cell? ⟨g, i * sz + j, none⟩).isSome = true ∧ w.frozen? ⟨g, i * sz + j, none⟩ = false := by
  obtain ⟨cur, hg, h5, h7, h6, h8⟩ := h.at hi
  refine ⟨?_, by unfold World.frozen?; rw [hg]; rfl⟩
  rw [cell_of_row _ _ _ _ _ _ hg, Array.getElem?_eq_getElem (by omega)]
  rfl
/-- One cell of one element set anew. -/
theorem OwnL.set {g : Nat} (h : OwnL w ty sz (some ⟨g, 0, none⟩) c rows) {i j : Nat} {r : Array Value} (hi : rows[i]? = some r) (hj : j < sz) (x : Value) : OwnL (w.setCell ⟨g, i * sz + j, none⟩ x) ty sz (some ⟨g, 0, none⟩) c (rows.set i (r.setIfInBounds j x)) := by
  obtain ⟨cur, hg, h5, h7, h6, h8⟩ := h.at hi
  have hil := (List.getElem?_eq_some_iff.1 hi).1
  obtain ⟨g', cur', e, hg', -, hall⟩ := h.addr hil
  cases e
  rw [hg] at hg'
  cases hg'
  refine ⟨fun r' hr' => ?_, by rw [List.length_set]; exact h.cap, h.max, .inr ⟨g, cur.setIfInBounds (i * sz + j) x, rfl, hs_new hg, by rw [Array.size_setIfInBounds, h5], fun k r' hk => ?_⟩⟩
  · obtain ⟨k, hk⟩ := List.mem_iff_getElem?.1 hr'
    by_cases e : i = k
    · subst e
      rw [List.getElem?_set_self hil] at hk
      cases hk; rw [Array.size_setIfInBounds]; exact h8
    · rw [List.getElem?_set_ne e] at hk
      exact h.size r' (List.mem_of_getElem? hk)
  · apply Array.ext_getElem?
    intro m
    by_cases hm : m < sz
    · have hkl : k < rows.length := by
        have := (List.getElem?_eq_some_iff.1 hk).1
        rwa [List.length_set] at this
      have hfk := h.fits hkl
      rw [Array.getElem?_extract, if_pos (by rw [Array.size_setIfInBounds]; omega), Array.getElem?_setIfInBounds]
      by_cases e : i = k
      · subst e
        rw [List.getElem?_set_self hil] at hk
        cases hk
        by_cases e2 : j = m
        · subst e2
          rw [if_pos rfl, if_pos (by omega), Array.getElem?_setIfInBounds, if_pos rfl, if_pos (by omega)]
        · rw [if_neg (by omega), Array.getElem?_setIfInBounds, if_neg e2, ← h6, Array.getElem?_extract, if_pos (by omega)]
      · rw [List.getElem?_set_ne e] at hk
        have hne : ¬ i * sz + j = k * sz + m := by
          intro e2
          rcases Nat.lt_or_ge i k with h9 | h9
          · have : i * sz + sz ≤ k * sz := by
              calc i * sz + sz = (i + 1) * sz := by rw [Nat.succ_mul]
                _ ≤ k * sz := Nat.mul_le_mul_right _ (by omega)
            omega
          · have : k * sz + sz ≤ i * sz := by
              calc k * sz + sz = (k + 1) * sz := by rw [Nat.succ_mul]
                _ ≤ i * sz := Nat.mul_le_mul_right _ (by omega)
            omega
        rw [if_neg hne, ← hall k r' hk, Array.getElem?_extract, if_pos (by omega)]
    · have hrs : r'.size = sz := by
        by_cases e : i = k
        · subst e
          rw [List.getElem?_set_self hil] at hk
          cases hk; rw [Array.size_setIfInBounds]; exact h8
        · rw [List.getElem?_set_ne e] at hk
          exact h.size r' (List.mem_of_getElem? hk)
      rw [Array.getElem?_eq_none (by rw [Array.size_extract]; omega), Array.getElem?_eq_none (by omega)]
end
theorem flatn_len {sz : Nat} : ∀ {rows : List (Array Value)}, (∀ r, r ∈ rows → r.size = sz) → (rows.flatMap (·.toList)).length = rows.length * sz
  | [], _ => by simp
  | r :: rows, h => by
    rw [List.flatMap_cons, List.length_append, flatn_len fun r hr => h r (by simp [hr]), List.length_cons, Nat.succ_mul]
    have := h r (by simp)
    rw [Array.length_toList, this]; omega
theorem flatn_get {sz : Nat} : ∀ {rows : List (Array Value)}, (∀ r, r ∈ rows → r.size = sz) → ∀ (i : Nat) (r : Array Value), rows[i]? = some r → ((rows.flatMap (·.toList)).drop (i * sz)).take sz = r.toList
  | [], _, i, r, hr => by simp at hr
  | a :: rows, h, 0, r, hr => by
    simp at hr; subst hr
    have := h a (by simp)
    rw [Nat.zero_mul, List.drop_zero, List.flatMap_cons, List.take_append_of_le_length (by rw [Array.length_toList]; omega), List.take_of_length_le (by rw [Array.length_toList]; omega)]
  | a :: rows, h, i + 1, r, hr => by
    have ha := h a (by simp)
    have := flatn_get (rows := rows) (fun r hr => h r (by simp [hr])) i r (by simpa using hr)
    rw [List.flatMap_cons, Nat.succ_mul, List.drop_append, List.drop_of_length_le (by rw [Array.length_toList, ha]; omega), List.nil_append, Array.length_toList, ha, show i * sz + sz - sz = i * sz by omega]
    exact this
theorem flatn_take {sz : Nat} {cur : Array Value} : ∀ {rows : List (Array Value)} (o : Nat), (∀ r, r ∈ rows → r.size = sz) → (∀ (i : Nat) (r : Array Value), rows[i]? = some r → cur.extract (o + i * sz) (o + i * sz + sz) = r) → (cur.toList.drop o).take (rows.length * sz) = rows.flatMap (·.toList)
  | [], o, _, _ => by simp
  | a :: rows, o, h, hx => by
    have ha := h a (by simp)
    have h0 := hx 0 a rfl
    have h1 := flatn_take (sz := sz) (cur := cur) (rows := rows) (o + sz) (fun r hr => h r (by simp [hr])) (fun i r hr => by
      have := hx (i + 1) r (by simpa using hr)
      rw [← this]
      congr 1 <;> rw [Nat.succ_mul] <;> omega)
    rw [List.length_cons, Nat.succ_mul, Nat.add_comm (rows.length * sz) sz, List.take_add, List.flatMap_cons]
    congr 1
    · rw [Nat.zero_mul, Nat.add_zero] at h0
      rw [← h0, Array.toList_extract, List.extract_eq_take_drop]
      congr 1; omega
    · rw [List.drop_drop]; exact h1
section
variable {w : World} {ty : TypeId} {sz : Nat} {A : Option Addr} {c : Nat} {rows : List (Array Value)}
theorem OwnL.owns (h : OwnL w ty sz A c rows) : w.ownsRow 0 ty sz (.slice A rows.length c) rows.length (rows.flatMap (·.toList)) := by
  refine ⟨flatn_len h.size, ?_⟩
  rcases h.el with ⟨rfl, rfl, rfl⟩ | ⟨g, cur, rfl, hg, h5, h6⟩
  · exact .inl ⟨rfl, rfl⟩
  · refine .inr ⟨g, c, cur, rfl, Nat.zero_le _, hg, h.cap, h.max, h5, ?_⟩
    have := flatn_take (sz := sz) (cur := cur) (rows := rows) 0 h.size (fun i r hr => by rw [Nat.zero_add]; exact h6 i r hr)
    simpa using this
theorem ownsL {v : Value} {n : Nat} (h : w.ownsRow 0 ty sz v n (rows.flatMap (·.toList))) (hs : ∀ r, r ∈ rows → r.size = sz) (hn : n = rows.length) : ∃ A c, v = .slice A rows.length c ∧ OwnL w ty sz A c rows := by
  subst hn
  obtain ⟨-, ⟨rfl, h2⟩ | ⟨g, cap, cur, rfl, -, hg, hc, hm, h5, h6⟩⟩ := h
  · exact ⟨none, 0, by rw [h2], hs, by omega, Nat.zero_le _, .inl ⟨rfl, List.length_eq_zero_iff.1 h2, rfl⟩⟩
  · refine ⟨some ⟨g, 0, none⟩, cap, rfl, hs, hc, hm, .inr ⟨g, cur, rfl, hg, h5, fun i r hr => ?_⟩⟩
    have h7 := flatn_get hs i r hr
    have hil := (List.getElem?_eq_some_iff.1 hr).1
    have hfit : i * sz + sz ≤ rows.length * sz := by
      calc i * sz + sz = (i + 1) * sz := by rw [Nat.succ_mul]
        _ ≤ rows.length * sz := Nat.mul_le_mul_right _ (by omega)
    rw [← h6, List.drop_take, List.take_take, Nat.min_eq_left (by omega)] at h7
    apply Array.ext'
    rw [Array.toList_extract, List.extract_eq_take_drop, ← h7]
    congr 1; omega
/-- An append: the rows in one block or another, all else as it was. -/
theorem run_catL {sty oty : TypeId} {i0 : TypeInfo} {z0 : Value} {by0 : Nat} (hu : Try.prog.underlying sty = some (.slice ty)) (hi : Try.prog.info? ty = some i0) (hz0 : i0.zero = some z0) (hz1 : i0.size = sz) (hz2 : i0.bytes = by0) (hzl : z0.cells.size = sz) (hsz : 0 < sz)
    (h : OwnL w ty sz A c rows) {news : List (Array Value)} (hns : ∀ r, r ∈ news → r.size = sz) (hn1 : ∀ r, r ∈ news → ∀ u, u ∈ r.toList → u.oneCell' = true) {a : Addr} {cn : Nat} (hat : ∀ j u, (news.flatMap (·.toList))[j]? = some u → w.cell? (a.add j) = some u) (hlen : rows.length + news.length ≤ maxLen) (hby : (rows.length + news.length) * by0 ≤ 140737488355328) :
    ∃ A' c' w', (Builtin.append_ #[sty, sty] oty #[.slice A rows.length c, .slice (some a) news.length cn]).run Try.prog w = .ok (.slice A' (rows ++ news).length c') w' ∧ OwnL w' ty sz A' c' (rows ++ news) ∧ Keep (fun b => A = some ⟨b, 0, none⟩) w w' ∧ (A' = A ∨ ∃ g, A' = some ⟨g, 0, none⟩ ∧ w.heap.size ≤ g) := by
  obtain ⟨v', w', hr, g2, g3, g4, g5⟩ := run_append_own_at (P := Try.prog) w 0 sty oty ty i0 z0 sz by0 hu hi hz0 hz1 hz2 hzl hsz (.slice A rows.length c) rows.length _ h.owns a news.length cn (news.flatMap (·.toList)) (flatn_len hns) hat (fun u hu => by
    obtain ⟨r, hr, hu2⟩ := List.mem_flatMap.1 hu
    exact hn1 r hr u hu2) hlen hby (Nat.zero_le _)
  have g2' : w'.ownsRow 0 ty sz v' (rows.length + news.length) ((rows ++ news).flatMap (·.toList)) := by rw [List.flatMap_append]; exact g2
  obtain ⟨A', c', rfl, hown⟩ := ownsL g2' (fun r hr => by
    rcases List.mem_append.1 hr with hr | hr
    · exact h.size r hr
    · exact hns r hr) (by rw [List.length_append])
  refine ⟨A', c', w', hr, hown, ⟨g3.os, g3.tape, g3.output, g3.size, fun b hb hne => g3.block b hb (fun e => ?_)⟩, ?_⟩
  · cases A with
    | none => simp [Value.ownBlock] at e
    | some ad =>
      simp [Value.ownBlock] at e
      rcases h.el with ⟨e1, -⟩ | ⟨g, cur, e1, -⟩
      · cases e1
      · cases e1
        simp at e
        exact hne (by rw [e])
  · rcases hown.el with ⟨e1, e2, e3⟩ | ⟨g, cur, e1, -⟩
    · have e4 : rows = [] := (List.append_eq_nil_iff.1 e2).1
      rcases h.el with ⟨e5, -⟩ | ⟨g, cur, e5, -⟩
      · exact .inl (by rw [e1, e5])
      · rcases g5 with g5 | g5
        · rw [e1, e5] at g5; simp [Value.ownBlock] at g5
        · rw [e1] at g5; simp [Value.ownBlock] at g5
    · rcases g5 with g5 | g5
      · rcases h.el with ⟨e5, -⟩ | ⟨g', cur', e5, -⟩
        · rw [e1, e5] at g5; simp [Value.ownBlock] at g5
        · rw [e1, e5] at g5; simp [Value.ownBlock] at g5
          exact .inl (by rw [e1, e5, g5])
      · rw [e1] at g5; simp [Value.ownBlock] at g5
        exact .inr ⟨g, e1, by omega⟩
/-- An element's cells, all set anew. -/
def putN (cs : Array Value) (o : Nat) (row : Array Value) : Array Value := (cs.toList.take o ++ row.toList ++ cs.toList.drop (o + row.size)).toArray
theorem putN_size {cs row : Array Value} {o : Nat} (h : o + row.size ≤ cs.size) : (putN cs o row).size = cs.size := by
  simp [putN]; omega
theorem putN_in {cs row : Array Value} {o m : Nat} (h : o + row.size ≤ cs.size) (hm : m < row.size) : (putN cs o row)[o + m]? = row[m]? := by
  have h1 : (cs.toList.take o).length = o := by simp; omega
  simp only [putN, List.append_assoc, List.getElem?_toArray]
  rw [List.getElem?_append_right (by omega), h1, List.getElem?_append_left (by simp; omega)]
  simp [show o + m - o = m by omega]
theorem putN_out {cs row : Array Value} {o m : Nat} (h : o + row.size ≤ cs.size) (hm : m < o ∨ o + row.size ≤ m) : (putN cs o row)[m]? = cs[m]? := by
  have h1 : (cs.toList.take o).length = o := by simp; omega
  simp only [putN, List.append_assoc, List.getElem?_toArray]
  rcases hm with hm | hm
  · rw [List.getElem?_append_left (by omega), List.getElem?_take_of_lt hm]
    simp
  · rw [List.getElem?_append_right (by omega), h1, List.getElem?_append_right (by simp; omega), List.getElem?_drop]
    simp [show o + row.size + (m - o - row.size) = m by omega]
theorem OwnL.put {g : Nat} (h : OwnL w ty sz (some ⟨g, 0, none⟩) c rows) {i : Nat} (hi : i < rows.length) {row : Array Value} (hr : row.size = sz) : ∃ cur, w.heap[g]? = some (.cells cur ty (0, 0)) ∧ i * sz + row.size ≤ cur.size ∧ OwnL (w.setRow g (putN cur (i * sz) row)) ty sz (some ⟨g, 0, none⟩) c (rows.set i row) := by
  obtain ⟨cur, hg, h5, h7, h6, h8⟩ := h.at (List.getElem?_eq_getElem hi)
  obtain ⟨g', cur', e, hg', -, hall⟩ := h.addr hi
  cases e
  rw [hg] at hg'
  cases hg'
  have hfit : i * sz + row.size ≤ cur.size := by omega
  refine ⟨cur, hg, hfit, fun r' hr' => ?_, by rw [List.length_set]; exact h.cap, h.max, .inr ⟨g, _, rfl, hr_new hg, by rw [putN_size hfit, h5], fun k r' hk => ?_⟩⟩
  · obtain ⟨k, hk⟩ := List.mem_iff_getElem?.1 hr'
    by_cases e : i = k
    · subst e
      rw [List.getElem?_set_self hi] at hk
      cases hk; exact hr
    · rw [List.getElem?_set_ne e] at hk
      exact h.size r' (List.mem_of_getElem? hk)
  · have hkl : k < rows.length := by
      have := (List.getElem?_eq_some_iff.1 hk).1
      rwa [List.length_set] at this
    have hfk := h.fits hkl
    apply Array.ext_getElem?
    intro m
    by_cases e : i = k
    · subst e
      rw [List.getElem?_set_self hi] at hk
      cases hk
      by_cases hm : m < sz
      · rw [Array.getElem?_extract, if_pos (by rw [putN_size hfit]; omega), putN_in hfit (by omega)]
      · rw [Array.getElem?_eq_none (by rw [Array.size_extract]; omega), Array.getElem?_eq_none (by omega)]
    · rw [List.getElem?_set_ne e] at hk
      by_cases hm : m < sz
      · rw [Array.getElem?_extract, if_pos (by rw [putN_size hfit]; omega), putN_out hfit (by
          rcases Nat.lt_or_ge i k with h9 | h9
          · have : i * sz + sz ≤ k * sz := by
              calc i * sz + sz = (i + 1) * sz := by rw [Nat.succ_mul]
                _ ≤ k * sz := Nat.mul_le_mul_right _ (by omega)
            omega
          · have : k * sz + sz ≤ i * sz := by
              calc k * sz + sz = (k + 1) * sz := by rw [Nat.succ_mul]
                _ ≤ i * sz := Nat.mul_le_mul_right _ (by omega)
            omega), ← hall k r' hk, Array.getElem?_extract, if_pos (by omega)]
      · have := h.size r' (List.mem_of_getElem? hk)
        rw [Array.getElem?_eq_none (by rw [Array.size_extract]; omega), Array.getElem?_eq_none (by omega)]
end
theorem run_storeN {w : World} {g o : Nat} {cs row : Array Value} {ty ty2 : TypeId} {n : Nat} (hi : (Try.prog.info? ty2).map (·.size) = some n) (hr : row.size = n) (h1 : ∀ u, u ∈ row.toList → u.oneCell' = true) (hg : w.heap[g]? = some (.cells cs ty (0, 0))) (h : o + row.size ≤ cs.size) :
    (storeVar ty2 ⟨g, o, none⟩ (.agg row)).run Try.prog w = .ok () (w.setRow g (putN cs o row)) := by
  have h2 := run_storeCells_at (P := Try.prog) g o ty row.toList 0 cs w hg (by simpa using h) h1
  cases hq : Try.prog.info? ty2 with
  | none => simp [hq] at hi
  | some i0 =>
    have hs : i0.size = n := by simpa [hq] using hi
    simp only [Nat.add_zero] at h2
    simp [storeVar, sizeOf, typeInfo, hq, Value.cells, hs, hr, h2, putN]
end Go.Proofs.Ytpamocglecangaa
namespace Go.Proofs.Ytpamocglecangaa
open Go.RowKit Go.Proofs.Ytpamocglecangaa.Nm
/-- What a block serves for, in one heap: its struct, the rows of objects, buffers and levels, the fields, elements and tasks of one of them, the map of deinits. -/
inductive Role where
  | hdr | arr | bar | lar | dei | tmp
  | fld (i : Nat)
  | elm (i : Nat)
  | lvl (i : Nat)
abbrev Gh := Nat → Option (Nat × Role)
/-- Blocks that no heap writes into. -/
def Imm (G : Gh) (b : Nat) : Prop := G b = none
/-- Blocks that heap k writes into (not those of role tmp: a call's own variables). -/
def Mine (G : Gh) (k : Nat) (b : Nat) : Prop := ∃ r, G b = some (k, r) ∧ r ≠ .tmp
def RoleOf (G : Gh) (A : Option Addr) (r : Nat × Role) : Prop := ∀ g, A = some ⟨g, 0, none⟩ → G g = some r
/-- A list of values in a block of a heap's own. -/
def ListV (w : World) (G : Gh) (r : Nat × Role) (l : List Va) (A : Option Addr) (c : Nat) : Prop :=
  ∃ rows, OwnL w 35 9 A c rows ∧ rows.length = l.length ∧ RoleOf G A r ∧ ∀ (j : Nat) (v : Va) (row : Array Value), l[j]? = some v → rows[j]? = some row → VAt w (Imm G) v row
def cell8 (tr : Array Value) (s c k : Int) (A : Option Addr) (l m : Nat) : Array Value := tr ++ #[.int .i64 s, .int .i64 c, .int .i64 k, .slice A l m]
structure ObAt (w : World) (G : Gh) (k i : Nat) (o : Ob) (row tr : Array Value) (fA : Option Addr) (fc : Nat) : Prop where
  eq : row = cell8 tr o.state o.count o.weak fA o.fields.length fc
  ty : TyAt w (Imm G) o.t tr
  fld : ListV w G (k, .fld i) o.fields fA fc
def ObsAt (w : World) (G : Gh) (k : Nat) (obs : List Ob) (A : Option Addr) (c : Nat) : Prop :=
  ∃ rows, OwnL w 41 8 A c rows ∧ rows.length = obs.length ∧ RoleOf G A (k, .arr) ∧ ∀ (i : Nat) (o : Ob) (row : Array Value), obs[i]? = some o → rows[i]? = some row → ∃ tr fA fc, ObAt w G k i o row tr fA fc
structure BuAt (w : World) (G : Gh) (k i : Nat) (b : Bu) (row : Array Value) (eA : Option Addr) (ec : Nat) : Prop where
  eq : row = #[.int .i64 b.count, .slice eA b.elems.length ec]
  elm : ListV w G (k, .elm i) b.elems eA ec
def BusAt (w : World) (G : Gh) (k : Nat) (bus : List Bu) (A : Option Addr) (c : Nat) : Prop :=
  ∃ rows, OwnL w 97 2 A c rows ∧ rows.length = bus.length ∧ RoleOf G A (k, .bar) ∧ ∀ (i : Nat) (b : Bu) (row : Array Value), bus[i]? = some b → rows[i]? = some row → ∃ eA ec, BuAt w G k i b row eA ec
/-- A task: a value that ends, or an object's fields from a place on. -/
def TkAt (w : World) (G : Gh) (t : Tk) (row : Array Value) : Prop :=
  match t with
  | .val v => ∃ rv, VAt w (Imm G) v rv ∧ row = rv ++ #[.int .i64 0, .int .i64 0, .int .i64 0]
  | .flds o i => ∃ rv v, VAt w (Imm G) v rv ∧ row = rv ++ #[.int .i64 (o : Int), .int .i64 (i : Int), .int .i64 1]
def TksAt (w : World) (G : Gh) (r : Nat × Role) (ts : List Tk) (A : Option Addr) (c : Nat) : Prop :=
  ∃ rows, OwnL w 101 12 A c rows ∧ rows.length = ts.length ∧ RoleOf G A r ∧ ∀ (j : Nat) (t : Tk) (row : Array Value), ts[j]? = some t → rows[j]? = some row → TkAt w G t row
def LevAt (w : World) (G : Gh) (k : Nat) (lev : List (List Tk)) (A : Option Addr) (c : Nat) : Prop :=
  ∃ rows, OwnL w 98 1 A c rows ∧ rows.length = lev.length ∧ RoleOf G A (k, .lar) ∧ ∀ (i : Nat) (ts : List Tk) (row : Array Value), lev[i]? = some ts → rows[i]? = some row → ∃ tA tc, row = #[.slice tA ts.length tc] ∧ TksAt w G (k, .lvl i) ts tA tc
/-- A map of texts, each with true. -/
def DeiAt (w : World) (m : Nat) (dei : List ByteArray) : Prop :=
  ∃ es c, w.heap[m]? = some (.map es c) ∧ MapKept.Stamped es c ∧ (∀ x, x ∈ es.toList → ∃ s, x.key = .string s ∧ x.val = .bool true ∧ s ∈ dei) ∧ ∀ s, s ∈ dei → ∃ x, x ∈ es.toList ∧ x.key = .string s
theorem DeiAt.find {w : World} {m : Nat} {dei : List ByteArray} (h : DeiAt w m dei) : ∃ es c, w.heap[m]? = some (.map es c) ∧ ∀ s : ByteArray, (s ∈ dei → ∃ i e, Instr.findNow .string (.string s) es.toList 0 = some (some (i, .bool true)) ∧ es[i]? = some e ∧ e.key = .string s) ∧ (s ∉ dei → Instr.findNow .string (.string s) es.toList 0 = some none ∧ ∀ x, x ∈ es.toList → x.key ≠ .string s) := by
  obtain ⟨es, c, hb, -, he, hh⟩ := h
  have hk : ∀ x, x ∈ es.toList → MapKept.IsKey .string x.key := fun x hx => by
    obtain ⟨s, e, -⟩ := he x hx
    rw [e]; simp [MapKept.IsKey]
  refine ⟨es, c, hb, fun s => ?_⟩
  rcases MapKept.findNow_spec (d := .string) (k := .string s) (by simp [MapKept.IsKey]) es.toList 0 hk with ⟨h1, h2⟩ | ⟨j, e, h1, h2, h3⟩
  · refine ⟨fun hs => ?_, fun _ => ⟨h1, h2⟩⟩
    obtain ⟨x, hx, e⟩ := hh s hs
    exact absurd e (h2 x hx)
  · obtain ⟨s', e1, e2, e3⟩ := he e (List.mem_of_getElem? h2)
    rw [h3] at e1
    cases e1
    exact ⟨fun _ => ⟨j, e, by rw [h1, e2]; simp, by simpa using h2, h3⟩, fun hn => absurd e3 hn⟩
def cellH (oA : Option Addr) (ol oc : Nat) (bA : Option Addr) (bl bc : Nat) (m : Nat) (lA : Option Addr) (ll lc : Nat) : Array Value := #[.slice oA ol oc, .slice bA bl bc, .map (some m), .slice lA ll lc]
/-- The program's heap k at block p is the plain heap h. -/
structure HAt (w : World) (G : Gh) (k p : Nat) (h : Hp) (oA : Option Addr) (oc : Nat) (bA : Option Addr) (bc : Nat) (m : Nat) (lA : Option Addr) (lc : Nat) : Prop where
  blk : w.heap[p]? = some (.cells (cellH oA h.obs.length oc bA h.bus.length bc m lA h.lev.length lc) 87 (0, 0))
  rp : G p = some (k, .hdr)
  rm : G m = some (k, .dei)
  obs : ObsAt w G k h.obs oA oc
  bus : BusAt w G k h.bus bA bc
  lev : LevAt w G k h.lev lA lc
  map : DeiAt w m h.dei
section
variable {w w' : World} {G : Gh} {C : Nat → Prop}
theorem ListV.same {r : Nat × Role} {l : List Va} {A : Option Addr} {c : Nat} (h : ListV w G r l A c) (h1 : ∀ b, b < w.heap.size → G b = some r → w'.heap[b]? = w.heap[b]?) (h2 : ∀ b, b < w.heap.size → G b = none → w'.heap[b]? = w.heap[b]?) : ListV w' G r l A c := by
  obtain ⟨rows, ho, hl, hr, hv⟩ := h
  exact ⟨rows, ho.same fun g e hg => h1 g hg (hr g e), hl, hr, fun j v row hj hrj => (hv j v row hj hrj).mono (fun _ h => h) fun b hb hlt => h2 b hlt hb⟩
theorem ObsAt.same {k : Nat} {obs : List Ob} {A : Option Addr} {c : Nat} (h : ObsAt w G k obs A c) (h1 : ∀ b, b < w.heap.size → (G b = some (k, .arr) ∨ ∃ i, G b = some (k, .fld i)) → w'.heap[b]? = w.heap[b]?) (h2 : ∀ b, b < w.heap.size → G b = none → w'.heap[b]? = w.heap[b]?) : ObsAt w' G k obs A c := by
  obtain ⟨rows, ho, hl, hr, hv⟩ := h
  refine ⟨rows, ho.same fun g e hg => h1 g hg (.inl (hr g e)), hl, hr, fun i o row hi hri => ?_⟩
  obtain ⟨tr, fA, fc, g1, g2, g3⟩ := hv i o row hi hri
  exact ⟨tr, fA, fc, g1, (g2.low.mono (fun _ h => h) fun b hb => h2 b hb.2 hb.1).weak (fun b hb => hb.1), g3.same (fun b hb e => h1 b hb (.inr ⟨i, e⟩)) h2⟩
theorem BusAt.same {k : Nat} {bus : List Bu} {A : Option Addr} {c : Nat} (h : BusAt w G k bus A c) (h1 : ∀ b, b < w.heap.size → (G b = some (k, .bar) ∨ ∃ i, G b = some (k, .elm i)) → w'.heap[b]? = w.heap[b]?) (h2 : ∀ b, b < w.heap.size → G b = none → w'.heap[b]? = w.heap[b]?) : BusAt w' G k bus A c := by
  obtain ⟨rows, ho, hl, hr, hv⟩ := h
  refine ⟨rows, ho.same fun g e hg => h1 g hg (.inl (hr g e)), hl, hr, fun i b row hi hri => ?_⟩
  obtain ⟨eA, ec, g1, g2⟩ := hv i b row hi hri
  exact ⟨eA, ec, g1, g2.same (fun b hb e => h1 b hb (.inr ⟨i, e⟩)) h2⟩
theorem TkAt.same {t : Tk} {row : Array Value} (h : TkAt w G t row) (h2 : ∀ b, b < w.heap.size → G b = none → w'.heap[b]? = w.heap[b]?) : TkAt w' G t row := by
  cases t with
  | val v =>
    obtain ⟨rv, h3, h4⟩ := h
    exact ⟨rv, h3.mono (fun _ h => h) fun b hb hl => h2 b hl hb, h4⟩
  | flds o i =>
    obtain ⟨rv, v, h3, h4⟩ := h
    exact ⟨rv, v, h3.mono (fun _ h => h) fun b hb hl => h2 b hl hb, h4⟩
theorem TksAt.same {r : Nat × Role} {ts : List Tk} {A : Option Addr} {c : Nat} (h : TksAt w G r ts A c) (h1 : ∀ b, b < w.heap.size → G b = some r → w'.heap[b]? = w.heap[b]?) (h2 : ∀ b, b < w.heap.size → G b = none → w'.heap[b]? = w.heap[b]?) : TksAt w' G r ts A c := by
  obtain ⟨rows, ho, hl, hr, hv⟩ := h
  exact ⟨rows, ho.same fun g e hg => h1 g hg (hr g e), hl, hr, fun j t row hj hrj => (hv j t row hj hrj).same h2⟩
theorem LevAt.same {k : Nat} {lev : List (List Tk)} {A : Option Addr} {c : Nat} (h : LevAt w G k lev A c) (h1 : ∀ b, b < w.heap.size → (G b = some (k, .lar) ∨ ∃ i, G b = some (k, .lvl i)) → w'.heap[b]? = w.heap[b]?) (h2 : ∀ b, b < w.heap.size → G b = none → w'.heap[b]? = w.heap[b]?) : LevAt w' G k lev A c := by
  obtain ⟨rows, ho, hl, hr, hv⟩ := h
  refine ⟨rows, ho.same fun g e hg => h1 g hg (.inl (hr g e)), hl, hr, fun i ts row hi hri => ?_⟩
  obtain ⟨tA, tc, g1, g2⟩ := hv i ts row hi hri
  exact ⟨tA, tc, g1, g2.same (fun b hb e => h1 b hb (.inr ⟨i, e⟩)) h2⟩
theorem DeiAt.same {m : Nat} {dei : List ByteArray} (h : DeiAt w m dei) (h1 : m < w.heap.size → w'.heap[m]? = w.heap[m]?) : DeiAt w' m dei := by
  obtain ⟨es, c, h2, h3⟩ := h
  exact ⟨es, c, by rw [h1 (heap_lt h2)]; exact h2, h3⟩
end
section
variable {w w' : World} {G : Gh} {k p : Nat} {h : Hp} {oA : Option Addr} {oc : Nat} {bA : Option Addr} {bc m : Nat} {lA : Option Addr} {lc : Nat}
/-- Where the blocks of a heap, and those that no heap writes into, stand, the heap stands. -/
theorem HAt.same (hh : HAt w G k p h oA oc bA bc m lA lc) (h1 : ∀ b, b < w.heap.size → Mine G k b → w'.heap[b]? = w.heap[b]?) (h2 : ∀ b, b < w.heap.size → G b = none → w'.heap[b]? = w.heap[b]?) : HAt w' G k p h oA oc bA bc m lA lc where
  blk := by rw [h1 p (heap_lt hh.blk) ⟨_, hh.rp, by simp⟩]; exact hh.blk
  rp := hh.rp
  rm := hh.rm
  obs := hh.obs.same (fun b hb e => h1 b hb (by rcases e with e | ⟨i, e⟩ <;> exact ⟨_, e, by simp⟩)) h2
  bus := hh.bus.same (fun b hb e => h1 b hb (by rcases e with e | ⟨i, e⟩ <;> exact ⟨_, e, by simp⟩)) h2
  lev := hh.lev.same (fun b hb e => h1 b hb (by rcases e with e | ⟨i, e⟩ <;> exact ⟨_, e, by simp⟩)) h2
  map := hh.map.same fun hl => h1 m hl ⟨_, hh.rm, by simp⟩
theorem HAt.old (hh : HAt w G k p h oA oc bA bc m lA lc) (hb : Below w.heap.size w w') : HAt w' G k p h oA oc bA bc m lA lc := hh.same (fun b hl _ => hb.block b hl) fun b hl _ => hb.block b hl
theorem HAt.keep {C : Nat → Prop} (hh : HAt w G k p h oA oc bA bc m lA lc) (hk : Keep C w w') (hC : ∀ b, C b → ¬ Mine G k b ∧ G b ≠ none) : HAt w' G k p h oA oc bA bc m lA lc := hh.same (fun b hl hm => hk.block b hl fun hc => (hC b hc).1 hm) fun b hl hn => hk.block b hl fun hc => (hC b hc).2 hn
end
section
variable {w : World} {G G' : Gh}
theorem VAt.regh {v : Va} {row : Array Value} (h : VAt w (Imm G) v row) (hG : ∀ b, b < w.heap.size → G' b = G b) : VAt w (Imm G') v row := h.low.weak fun b hb => by unfold Imm; rw [hG b hb.2]; exact hb.1
theorem TyAt.regh {t : Ty} {row : Array Value} (h : TyAt w (Imm G) t row) (hG : ∀ b, b < w.heap.size → G' b = G b) : TyAt w (Imm G') t row := h.low.weak fun b hb => by unfold Imm; rw [hG b hb.2]; exact hb.1
theorem RoleOf.regh {A : Option Addr} {r : Nat × Role} {ty : TypeId} {sz c : Nat} {rows : List (Array Value)} (h : RoleOf G A r) (ho : OwnL w ty sz A c rows) (hG : ∀ b, b < w.heap.size → G' b = G b) : RoleOf G' A r := fun g e => by
  rcases ho.el with ⟨e1, -⟩ | ⟨g', cur, e1, hg, -⟩
  · rw [e1] at e; cases e
  · rw [e1] at e; cases e; rw [hG _ (heap_lt hg)]; exact h _ e1
theorem ListV.regh {r : Nat × Role} {l : List Va} {A : Option Addr} {c : Nat} (h : ListV w G r l A c) (hG : ∀ b, b < w.heap.size → G' b = G b) : ListV w G' r l A c := by
  obtain ⟨rows, ho, hl, hr, hv⟩ := h
  exact ⟨rows, ho, hl, hr.regh ho hG, fun j v row h1 h2 => (hv j v row h1 h2).regh hG⟩
theorem TkAt.regh {t : Tk} {row : Array Value} (h : TkAt w G t row) (hG : ∀ b, b < w.heap.size → G' b = G b) : TkAt w G' t row := by
  cases t with
  | val v =>
    obtain ⟨rv, h3, h4⟩ := h
    exact ⟨rv, h3.regh hG, h4⟩
  | flds o i =>
    obtain ⟨rv, v, h3, h4⟩ := h
    exact ⟨rv, v, h3.regh hG, h4⟩
/-- What the ghost says of blocks that are not there yet does not matter. -/
theorem HAt.regh {k p : Nat} {h : Hp} {oA : Option Addr} {oc : Nat} {bA : Option Addr} {bc m : Nat} {lA : Option Addr} {lc : Nat} (hh : HAt w G k p h oA oc bA bc m lA lc) (hG : ∀ b, b < w.heap.size → G' b = G b) : HAt w G' k p h oA oc bA bc m lA lc where
  blk := hh.blk
  rp := by rw [hG p (heap_lt hh.blk)]; exact hh.rp
  rm := by
    obtain ⟨es, c, hm, -⟩ := hh.map
    rw [hG m (heap_lt hm)]; exact hh.rm
  obs := by
    obtain ⟨rows, ho, hl, hr, hv⟩ := hh.obs
    refine ⟨rows, ho, hl, hr.regh ho hG, fun i o row h1 h2 => ?_⟩
    obtain ⟨tr, fA, fc, g1, g2, g3⟩ := hv i o row h1 h2
    exact ⟨tr, fA, fc, g1, g2.regh hG, g3.regh hG⟩
  bus := by
    obtain ⟨rows, ho, hl, hr, hv⟩ := hh.bus
    refine ⟨rows, ho, hl, hr.regh ho hG, fun i o row h1 h2 => ?_⟩
    obtain ⟨eA, ec, g1, g2⟩ := hv i o row h1 h2
    exact ⟨eA, ec, g1, g2.regh hG⟩
  lev := by
    obtain ⟨rows, ho, hl, hr, hv⟩ := hh.lev
    refine ⟨rows, ho, hl, hr.regh ho hG, fun i o row h1 h2 => ?_⟩
    obtain ⟨tA, tc, g1, rows2, ho2, hl2, hr2, hv2⟩ := hv i o row h1 h2
    exact ⟨tA, tc, g1, rows2, ho2, hl2, hr2.regh ho2 hG, fun j t row h3 h4 => (hv2 j t row h3 h4).regh hG⟩
  map := hh.map
end
theorem u38 : Try.prog.underlying 38 = some (.slice 41) := by kernel_rfl
theorem u78 : Try.prog.underlying 78 = some (.slice 97) := by kernel_rfl
theorem u85 : Try.prog.underlying 85 = some (.slice 98) := by kernel_rfl
theorem u98 : Try.prog.underlying 98 = some (.slice 101) := by kernel_rfl
theorem u84 : Try.prog.underlying 84 = some (.map 9 4) := by kernel_rfl
theorem u101 : Try.prog.underlying 101 = some (.struct (Try.prog.fieldsOf 101)) := by kernel_rfl
theorem info101 : (Try.prog.info? 101).map (·.size) = some 12 := by kernel_rfl
section
variable {w : World} {p : Nat} {oA : Option Addr} {ol oc : Nat} {bA : Option Addr} {bl bc : Nat} {m : Nat} {lA : Option Addr} {ll lc : Nat} {t : TypeId} {fr : Nat × Nat}
theorem h0 (hp : w.heap[p]? = some (.cells (cellH oA ol oc bA bl bc m lA ll lc) t fr)) : OneAt w 38 ⟨p, 0, none⟩ (.slice oA ol oc) := one_of u38 rfl (by rw [cell_of_row _ _ _ _ _ _ hp]; rfl)
theorem h1 (hp : w.heap[p]? = some (.cells (cellH oA ol oc bA bl bc m lA ll lc) t fr)) : OneAt w 78 ⟨p, 1, none⟩ (.slice bA bl bc) := one_of u78 rfl (by rw [cell_of_row _ _ _ _ _ _ hp]; rfl)
theorem h2 (hp : w.heap[p]? = some (.cells (cellH oA ol oc bA bl bc m lA ll lc) t fr)) : OneAt w 84 ⟨p, 2, none⟩ (.map (some m)) := one_of u84 rfl (by rw [cell_of_row _ _ _ _ _ _ hp]; rfl)
theorem h3 (hp : w.heap[p]? = some (.cells (cellH oA ol oc bA bl bc m lA ll lc) t fr)) : OneAt w 85 ⟨p, 3, none⟩ (.slice lA ll lc) := one_of u85 rfl (by rw [cell_of_row _ _ _ _ _ _ hp]; rfl)
end
end Go.Proofs.Ytpamocglecangaa
