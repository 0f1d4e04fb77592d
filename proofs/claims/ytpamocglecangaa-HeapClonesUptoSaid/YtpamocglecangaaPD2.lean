/- Rows of the call's own: slices whose elements are read and written one by one. The program's heap in memory. The program's of: whether a value is of the heap. Objects and buffers of a heap, read and changed cell by cell. Levels, array, place, alone. The program's alone: the error of changing a buffer. -/
import Derived.Laws.CopyRow
import Derived.Laws.OwnMore
import Derived.Maps.AppendAt
import Derived.Test.YtpamocglecangaaPD1
import Derived.MapKept
set_option maxHeartbeats 16000000
set_option maxRecDepth 100000
namespace Go.Proofs.Ytpamocglecangaa
open Go.RowKit Go.Proofs.Ytpamocglecangaa.Nm
structure OwnL (w : World) (ty : TypeId) (sz : Nat) (A : Option Addr) (c : Nat) (rows : List (Array Value)) : Prop where
 size : ∀ r, r ∈ rows -> r.size = sz
 cap : rows.length <= c
 max : c <= maxLen
 el : (A = none /\ rows = [] /\ c = 0) ∨ ∃ g cur, A = some ⟨g, 0, none⟩ /\ w.heap[g]? = some (.cells cur ty (0, 0)) /\ cur.size = c * sz /\ ∀ (i : Nat) (r : Array Value), rows[i]? = some r -> cur.extract (i * sz) (i * sz + sz) = r
theorem OwnL.nil (w : World) (ty : TypeId) (sz : Nat) : OwnL w ty sz none 0 [] := ⟨fun r h => (by cases h), Nat.le_refl _, Nat.zero_le _, .inl ⟨rfl, rfl, rfl⟩⟩
section
variable {w w' : World} {ty : TypeId} {sz : Nat} {A : Option Addr} {c : Nat} {rows : List (Array Value)}
theorem OwnL.same (h : OwnL w ty sz A c rows) (hs : ∀ g, A = some ⟨g, 0, none⟩ -> g < w.heap.size -> w'.heap[g]? = w.heap[g]?) : OwnL w' ty sz A c rows := by
 obtain ⟨h1, h2, h3, h4⟩ := h
 refine ⟨h1, h2, h3, h4.imp id ?_⟩
 rintro ⟨g, cur, e, hg, h5, h6⟩
 exact ⟨g, cur, e, by rw [hs g e (heap_lt hg)]; exact hg, h5, h6⟩
theorem OwnL.old (h : OwnL w ty sz A c rows) (hb : Below w.heap.size w w') : OwnL w' ty sz A c rows := h.same fun g _ hl => hb.block g hl
theorem OwnL.keep {C : Nat -> Prop} (h : OwnL w ty sz A c rows) (hk : Keep C w w') (hC : ∀ g, A = some ⟨g, 0, none⟩ -> ¬ C g) : OwnL w' ty sz A c rows := h.same fun g e hl => hk.block g hl (hC g e)
theorem OwnL.addr (h : OwnL w ty sz A c rows) {i : Nat} (hi : i < rows.length) : ∃ g cur, A = some ⟨g, 0, none⟩ /\ w.heap[g]? = some (.cells cur ty (0, 0)) /\ cur.size = c * sz /\ ∀ (i : Nat) (r : Array Value), rows[i]? = some r -> cur.extract (i * sz) (i * sz + sz) = r := by
 rcases h.el with ⟨-, e, -⟩ | h
 ·rw [e] at hi; simp at hi
 ·exact h
theorem OwnL.fits (h : OwnL w ty sz A c rows) {i : Nat} (hi : i < rows.length) : i * sz + sz <= c * sz := by
 have := h.cap
 calc i * sz + sz = (i + 1) * sz := by rw [Nat.succ_mul]
  _ <= c * sz := Nat.mul_le_mul_right _ (by omega)
theorem OwnL.cut (h : OwnL w ty sz A c rows) (n : Nat) : OwnL w ty sz A c (rows.take n) := by
 obtain ⟨h1, h2, h3, h4⟩ := h
 refine ⟨fun r hr => h1 r (List.mem_of_mem_take hr), by rw [List.length_take]; omega, h3, ?_⟩
 rcases h4 with ⟨e1, e2, e3⟩ | ⟨g, cur, e, hg, h5, h6⟩
 ·exact .inl ⟨e1, by rw [e2]; simp, e3⟩
 ·refine .inr ⟨g, cur, e, hg, h5, fun i r hr => h6 i r ?_⟩
  rw [List.getElem?_take] at hr
  split at hr
  ·exact hr
  ·cases hr
theorem OwnL.at {g : Nat} (h : OwnL w ty sz (some ⟨g, 0, none⟩) c rows) {i : Nat} {r : Array Value} (hi : rows[i]? = some r) : ∃ cur, w.heap[g]? = some (.cells cur ty (0, 0)) /\ cur.size = c * sz /\ i * sz + sz <= cur.size /\ cur.extract (i * sz) (i * sz + sz) = r /\ r.size = sz := by
 have hl := (List.getElem?_eq_some_iff.1 hi).1
 obtain ⟨g', cur, e, hg, h5, h6⟩ := h.addr hl
 cases e
 exact ⟨cur, hg, h5, by rw [h5]; exact h.fits hl, h6 i r hi, h.size r (List.mem_of_getElem? hi)⟩
theorem ext_get {cur r : Array Value} {o n j : Nat} (h : cur.extract o (o + n) = r) {x : Value} (hx : r[j]? = some x) : cur[o + j]? = some x := by
 rw [<- h, Array.getElem?_extract] at hx
 split at hx
 ·exact hx
 ·cases hx
theorem OwnL.cell {g : Nat} (h : OwnL w ty sz (some ⟨g, 0, none⟩) c rows) {i j : Nat} {r : Array Value} (hi : rows[i]? = some r) {x : Value} (hx : r[j]? = some x) : w.cell? ⟨g, i * sz + j, none⟩ = some x := by
 obtain ⟨cur, hg, -, -, h6, -⟩ := h.at hi
 rw [cell_of_row _ _ _ _ _ _ hg]
 exact ext_get h6 hx
theorem OwnL.lies {g : Nat} (h : OwnL w ty sz (some ⟨g, 0, none⟩) c rows) {i j : Nat} {r : Array Value} (hi : rows[i]? = some r) (hj : j < sz) : (w.cell? ⟨g, i * sz + j, none⟩).isSome = true /\ w.frozen? ⟨g, i * sz + j, none⟩ = false := by
 obtain ⟨cur, hg, h5, h7, h6, h8⟩ := h.at hi
 refine ⟨?_, by unfold World.frozen?; rw [hg]; rfl⟩
 rw [cell_of_row _ _ _ _ _ _ hg, Array.getElem?_eq_getElem (by omega)]
 rfl
theorem OwnL.set {g : Nat} (h : OwnL w ty sz (some ⟨g, 0, none⟩) c rows) {i j : Nat} {r : Array Value} (hi : rows[i]? = some r) (hj : j < sz) (x : Value) : OwnL (w.setCell ⟨g, i * sz + j, none⟩ x) ty sz (some ⟨g, 0, none⟩) c (rows.set i (r.setIfInBounds j x)) := by
 obtain ⟨cur, hg, h5, h7, h6, h8⟩ := h.at hi
 have hil := (List.getElem?_eq_some_iff.1 hi).1
 obtain ⟨g', cur', e, hg', -, hall⟩ := h.addr hil
 cases e
 rw [hg] at hg'
 cases hg'
 refine ⟨fun r' hr' => ?_, by rw [List.length_set]; exact h.cap, h.max, .inr ⟨g, cur.setIfInBounds (i * sz + j) x, rfl, hs_new hg, by rw [Array.size_setIfInBounds, h5], fun k r' hk => ?_⟩⟩
 ·obtain ⟨k, hk⟩ := List.mem_iff_getElem?.1 hr'
  by_cases e : i = k
  ·subst e
   rw [List.getElem?_set_self hil] at hk
   cases hk; rw [Array.size_setIfInBounds]; exact h8
  ·rw [List.getElem?_set_ne e] at hk
   exact h.size r' (List.mem_of_getElem? hk)
 ·apply Array.ext_getElem?
  intro m
  by_cases hm : m < sz
  ·have hkl : k < rows.length := by
    have := (List.getElem?_eq_some_iff.1 hk).1
    rwa [List.length_set] at this
   have hfk := h.fits hkl
   rw [Array.getElem?_extract, if_pos (by rw [Array.size_setIfInBounds]; omega), Array.getElem?_setIfInBounds]
   by_cases e : i = k
   ·subst e
    rw [List.getElem?_set_self hil] at hk
    cases hk
    by_cases e2 : j = m
    ·subst e2
     rw [if_pos rfl, if_pos (by omega), Array.getElem?_setIfInBounds, if_pos rfl, if_pos (by omega)]
    ·rw [if_neg (by omega), Array.getElem?_setIfInBounds, if_neg e2, <- h6, Array.getElem?_extract, if_pos (by omega)]
   ·rw [List.getElem?_set_ne e] at hk
    have hne : ¬ i * sz + j = k * sz + m := by
     intro e2
     rcases Nat.lt_or_ge i k with h9 | h9
     ·have : i * sz + sz <= k * sz := by
       calc i * sz + sz = (i + 1) * sz := by rw [Nat.succ_mul]
        _ <= k * sz := Nat.mul_le_mul_right _ (by omega)
      omega
     ·have : k * sz + sz <= i * sz := by
       calc k * sz + sz = (k + 1) * sz := by rw [Nat.succ_mul]
        _ <= i * sz := Nat.mul_le_mul_right _ (by omega)
      omega
    rw [if_neg hne, <- hall k r' hk, Array.getElem?_extract, if_pos (by omega)]
  ·have hrs : r'.size = sz := by
    by_cases e : i = k
    ·subst e
     rw [List.getElem?_set_self hil] at hk
     cases hk; rw [Array.size_setIfInBounds]; exact h8
    ·rw [List.getElem?_set_ne e] at hk
     exact h.size r' (List.mem_of_getElem? hk)
   rw [Array.getElem?_eq_none (by rw [Array.size_extract]; omega), Array.getElem?_eq_none (by omega)]
end
theorem flatn_len {sz : Nat} : ∀ {rows : List (Array Value)}, (∀ r, r ∈ rows -> r.size = sz) -> (rows.flatMap (·.toList)).length = rows.length * sz
 | [], _ => by simp
 | r :: rows, h => by
  rw [List.flatMap_cons, List.length_append, flatn_len fun r hr => h r (by simp [hr]), List.length_cons, Nat.succ_mul]
  have := h r (by simp)
  rw [Array.length_toList, this]; omega
theorem flatn_get {sz : Nat} : ∀ {rows : List (Array Value)}, (∀ r, r ∈ rows -> r.size = sz) -> ∀ (i : Nat) (r : Array Value), rows[i]? = some r -> ((rows.flatMap (·.toList)).drop (i * sz)).take sz = r.toList
 | [], _, i, r, hr => by simp at hr
 | a :: rows, h, 0, r, hr => by
  simp at hr; subst hr
  have := h a (by simp)
  rw [Nat.zero_mul, List.drop_zero, List.flatMap_cons, List.take_append_of_le_length (by rw [Array.length_toList]; omega), List.take_of_length_le (by rw [Array.length_toList]; omega)]
 | a :: rows, h, i + 1, r, hr => by
  have ha := h a (by simp)
  have := flatn_get (rows := rows) (fun r hr => h r (by simp [hr])) i r (by simpa using hr)
  rw [List.flatMap_cons, Nat.succ_mul, List.drop_append, List.drop_of_length_le (by rw [Array.length_toList, ha]; omega), List.nil_append, Array.length_toList, ha, show i * sz + sz - sz = i * sz by omega]
  exact this
theorem flatn_take {sz : Nat} {cur : Array Value} : ∀ {rows : List (Array Value)} (o : Nat), (∀ r, r ∈ rows -> r.size = sz) -> (∀ (i : Nat) (r : Array Value), rows[i]? = some r -> cur.extract (o + i * sz) (o + i * sz + sz) = r) -> (cur.toList.drop o).take (rows.length * sz) = rows.flatMap (·.toList)
 | [], o, _, _ => by simp
 | a :: rows, o, h, hx => by
  have ha := h a (by simp)
  have h0 := hx 0 a rfl
  have h1 := flatn_take (sz := sz) (cur := cur) (rows := rows) (o + sz) (fun r hr => h r (by simp [hr])) (fun i r hr => by
   have := hx (i + 1) r (by simpa using hr)
   rw [<- this]
   congr 1 <;> rw [Nat.succ_mul] <;> omega)
  rw [List.length_cons, Nat.succ_mul, Nat.add_comm (rows.length * sz) sz, List.take_add, List.flatMap_cons]
  congr 1
  ·rw [Nat.zero_mul, Nat.add_zero] at h0
   rw [<- h0, Array.toList_extract, List.extract_eq_take_drop]
   congr 1; omega
  ·rw [List.drop_drop]; exact h1
section
variable {w : World} {ty : TypeId} {sz : Nat} {A : Option Addr} {c : Nat} {rows : List (Array Value)}
theorem OwnL.owns (h : OwnL w ty sz A c rows) : w.ownsRow 0 ty sz (.slice A rows.length c) rows.length (rows.flatMap (·.toList)) := by
 refine ⟨flatn_len h.size, ?_⟩
 rcases h.el with ⟨rfl, rfl, rfl⟩ | ⟨g, cur, rfl, hg, h5, h6⟩
 ·exact .inl ⟨rfl, rfl⟩
 ·refine .inr ⟨g, c, cur, rfl, Nat.zero_le _, hg, h.cap, h.max, h5, ?_⟩
  have := flatn_take (sz := sz) (cur := cur) (rows := rows) 0 h.size (fun i r hr => by rw [Nat.zero_add]; exact h6 i r hr)
  simpa using this
theorem ownsL {v : Value} {n : Nat} (h : w.ownsRow 0 ty sz v n (rows.flatMap (·.toList))) (hs : ∀ r, r ∈ rows -> r.size = sz) (hn : n = rows.length) : ∃ A c, v = .slice A rows.length c /\ OwnL w ty sz A c rows := by
 subst hn
 obtain ⟨-, ⟨rfl, h2⟩ | ⟨g, cap, cur, rfl, -, hg, hc, hm, h5, h6⟩⟩ := h
 ·exact ⟨none, 0, by rw [h2], hs, by omega, Nat.zero_le _, .inl ⟨rfl, List.length_eq_zero_iff.1 h2, rfl⟩⟩
 ·refine ⟨some ⟨g, 0, none⟩, cap, rfl, hs, hc, hm, .inr ⟨g, cur, rfl, hg, h5, fun i r hr => ?_⟩⟩
  have h7 := flatn_get hs i r hr
  have hil := (List.getElem?_eq_some_iff.1 hr).1
  have hfit : i * sz + sz <= rows.length * sz := by
   calc i * sz + sz = (i + 1) * sz := by rw [Nat.succ_mul]
    _ <= rows.length * sz := Nat.mul_le_mul_right _ (by omega)
  rw [<- h6, List.drop_take, List.take_take, Nat.min_eq_left (by omega)] at h7
  apply Array.ext'
  rw [Array.toList_extract, List.extract_eq_take_drop, <- h7]
  congr 1; omega
theorem run_catL {sty oty : TypeId} {i0 : TypeInfo} {z0 : Value} {by0 : Nat} (hu : Try.prog.underlying sty = some (.slice ty)) (hi : Try.prog.info? ty = some i0) (hz0 : i0.zero = some z0) (hz1 : i0.size = sz) (hz2 : i0.bytes = by0) (hzl : z0.cells.size = sz) (hsz : 0 < sz)
  (h : OwnL w ty sz A c rows) {news : List (Array Value)} (hns : ∀ r, r ∈ news -> r.size = sz) (hn1 : ∀ r, r ∈ news -> ∀ u, u ∈ r.toList -> u.oneCell' = true) {a : Addr} {cn : Nat} (hat : ∀ j u, (news.flatMap (·.toList))[j]? = some u -> w.cell? (a.add j) = some u) (hlen : rows.length + news.length <= maxLen) (hby : (rows.length + news.length) * by0 <= 140737488355328) :
  ∃ A' c' w', (Builtin.append_ #[sty, sty] oty #[.slice A rows.length c, .slice (some a) news.length cn]).run Try.prog w = .ok (.slice A' (rows ++ news).length c') w' /\ OwnL w' ty sz A' c' (rows ++ news) /\ Keep (fun b => A = some ⟨b, 0, none⟩) w w' /\ (A' = A ∨ ∃ g, A' = some ⟨g, 0, none⟩ /\ w.heap.size <= g) := by
 obtain ⟨v', w', hr, g2, g3, g4, g5⟩ := run_append_own_at (P := Try.prog) w 0 sty oty ty i0 z0 sz by0 hu hi hz0 hz1 hz2 hzl hsz (.slice A rows.length c) rows.length _ h.owns a news.length cn (news.flatMap (·.toList)) (flatn_len hns) hat (fun u hu => by
  obtain ⟨r, hr, hu2⟩ := List.mem_flatMap.1 hu
  exact hn1 r hr u hu2) hlen hby (Nat.zero_le _)
 have g2' : w'.ownsRow 0 ty sz v' (rows.length + news.length) ((rows ++ news).flatMap (·.toList)) := by rw [List.flatMap_append]; exact g2
 obtain ⟨A', c', rfl, hown⟩ := ownsL g2' (fun r hr => by
  rcases List.mem_append.1 hr with hr | hr
  ·exact h.size r hr
  ·exact hns r hr) (by rw [List.length_append])
 refine ⟨A', c', w', hr, hown, ⟨g3.os, g3.tape, g3.output, g3.size, fun b hb hne => g3.block b hb (fun e => ?_)⟩, ?_⟩
 ·cases A with
  | none => simp [Value.ownBlock] at e
  | some ad =>
   simp [Value.ownBlock] at e
   rcases h.el with ⟨e1, -⟩ | ⟨g, cur, e1, -⟩
   ·cases e1
   ·cases e1
    simp at e
    exact hne (by rw [e])
 ·rcases hown.el with ⟨e1, e2, e3⟩ | ⟨g, cur, e1, -⟩
  ·have e4 : rows = [] := (List.append_eq_nil_iff.1 e2).1
   rcases h.el with ⟨e5, -⟩ | ⟨g, cur, e5, -⟩
   ·exact .inl (by rw [e1, e5])
   ·rcases g5 with g5 | g5
    ·rw [e1, e5] at g5; simp [Value.ownBlock] at g5
    ·rw [e1] at g5; simp [Value.ownBlock] at g5
  ·rcases g5 with g5 | g5
   ·rcases h.el with ⟨e5, -⟩ | ⟨g', cur', e5, -⟩
    ·rw [e1, e5] at g5; simp [Value.ownBlock] at g5
    ·rw [e1, e5] at g5; simp [Value.ownBlock] at g5
     exact .inl (by rw [e1, e5, g5])
   ·rw [e1] at g5; simp [Value.ownBlock] at g5
    exact .inr ⟨g, e1, by omega⟩
def putN (cs : Array Value) (o : Nat) (row : Array Value) : Array Value := (cs.toList.take o ++ row.toList ++ cs.toList.drop (o + row.size)).toArray
theorem putN_size {cs row : Array Value} {o : Nat} (h : o + row.size <= cs.size) : (putN cs o row).size = cs.size := by
 simp [putN]; omega
theorem putN_in {cs row : Array Value} {o m : Nat} (h : o + row.size <= cs.size) (hm : m < row.size) : (putN cs o row)[o + m]? = row[m]? := by
 have h1 : (cs.toList.take o).length = o := by simp; omega
 simp only [putN, List.append_assoc, List.getElem?_toArray]
 rw [List.getElem?_append_right (by omega), h1, List.getElem?_append_left (by simp; omega)]
 simp [show o + m - o = m by omega]
theorem putN_out {cs row : Array Value} {o m : Nat} (h : o + row.size <= cs.size) (hm : m < o ∨ o + row.size <= m) : (putN cs o row)[m]? = cs[m]? := by
 have h1 : (cs.toList.take o).length = o := by simp; omega
 simp only [putN, List.append_assoc, List.getElem?_toArray]
 rcases hm with hm | hm
 ·rw [List.getElem?_append_left (by omega), List.getElem?_take_of_lt hm]
  simp
 ·rw [List.getElem?_append_right (by omega), h1, List.getElem?_append_right (by simp; omega), List.getElem?_drop]
  simp [show o + row.size + (m - o - row.size) = m by omega]
theorem OwnL.put {g : Nat} (h : OwnL w ty sz (some ⟨g, 0, none⟩) c rows) {i : Nat} (hi : i < rows.length) {row : Array Value} (hr : row.size = sz) : ∃ cur, w.heap[g]? = some (.cells cur ty (0, 0)) /\ i * sz + row.size <= cur.size /\ OwnL (w.setRow g (putN cur (i * sz) row)) ty sz (some ⟨g, 0, none⟩) c (rows.set i row) := by
 obtain ⟨cur, hg, h5, h7, h6, h8⟩ := h.at (List.getElem?_eq_getElem hi)
 obtain ⟨g', cur', e, hg', -, hall⟩ := h.addr hi
 cases e
 rw [hg] at hg'
 cases hg'
 have hfit : i * sz + row.size <= cur.size := by omega
 refine ⟨cur, hg, hfit, fun r' hr' => ?_, by rw [List.length_set]; exact h.cap, h.max, .inr ⟨g, _, rfl, hr_new hg, by rw [putN_size hfit, h5], fun k r' hk => ?_⟩⟩
 ·obtain ⟨k, hk⟩ := List.mem_iff_getElem?.1 hr'
  by_cases e : i = k
  ·subst e
   rw [List.getElem?_set_self hi] at hk
   cases hk; exact hr
  ·rw [List.getElem?_set_ne e] at hk
   exact h.size r' (List.mem_of_getElem? hk)
 ·have hkl : k < rows.length := by
   have := (List.getElem?_eq_some_iff.1 hk).1
   rwa [List.length_set] at this
  have hfk := h.fits hkl
  apply Array.ext_getElem?
  intro m
  by_cases e : i = k
  ·subst e
   rw [List.getElem?_set_self hi] at hk
   cases hk
   by_cases hm : m < sz
   ·rw [Array.getElem?_extract, if_pos (by rw [putN_size hfit]; omega), putN_in hfit (by omega)]
   ·rw [Array.getElem?_eq_none (by rw [Array.size_extract]; omega), Array.getElem?_eq_none (by omega)]
  ·rw [List.getElem?_set_ne e] at hk
   by_cases hm : m < sz
   ·rw [Array.getElem?_extract, if_pos (by rw [putN_size hfit]; omega), putN_out hfit (by
     rcases Nat.lt_or_ge i k with h9 | h9
     ·have : i * sz + sz <= k * sz := by
       calc i * sz + sz = (i + 1) * sz := by rw [Nat.succ_mul]
        _ <= k * sz := Nat.mul_le_mul_right _ (by omega)
      omega
     ·have : k * sz + sz <= i * sz := by
       calc k * sz + sz = (k + 1) * sz := by rw [Nat.succ_mul]
        _ <= i * sz := Nat.mul_le_mul_right _ (by omega)
      omega), <- hall k r' hk, Array.getElem?_extract, if_pos (by omega)]
   ·have := h.size r' (List.mem_of_getElem? hk)
    rw [Array.getElem?_eq_none (by rw [Array.size_extract]; omega), Array.getElem?_eq_none (by omega)]
end
theorem run_storeN {w : World} {g o : Nat} {cs row : Array Value} {ty ty2 : TypeId} {n : Nat} (hi : (Try.prog.info? ty2).map (·.size) = some n) (hr : row.size = n) (h1 : ∀ u, u ∈ row.toList -> u.oneCell' = true) (hg : w.heap[g]? = some (.cells cs ty (0, 0))) (h : o + row.size <= cs.size) :
  (storeVar ty2 ⟨g, o, none⟩ (.agg row)).run Try.prog w = .ok () (w.setRow g (putN cs o row)) := by
 have h2 := run_storeCells_at (P := Try.prog) g o ty row.toList 0 cs w hg (by simpa using h) h1
 cases hq : Try.prog.info? ty2 with
 | none => simp [hq] at hi
 | some i0 =>
  have hs : i0.size = n := by simpa [hq] using hi
  simp only [Nat.add_zero] at h2
  simp [storeVar, sizeOf, typeInfo, hq, Value.cells, hs, hr, h2, putN]
open Go.RowKit Go.Proofs.Ytpamocglecangaa.Nm
inductive Role where
 | hdr | arr | bar | lar | dei | tmp
 | fld (i : Nat)
 | elm (i : Nat)
 | lvl (i : Nat)
abbrev Gh := Nat -> Option (Nat × Role)
def Imm (G : Gh) (b : Nat) : Prop := G b = none
def Mine (G : Gh) (k : Nat) (b : Nat) : Prop := ∃ r, G b = some (k, r) /\ r ≠ .tmp
def RoleOf (G : Gh) (A : Option Addr) (r : Nat × Role) : Prop := ∀ g, A = some ⟨g, 0, none⟩ -> G g = some r
def ListV (w : World) (G : Gh) (r : Nat × Role) (l : List Va) (A : Option Addr) (c : Nat) : Prop :=
 ∃ rows, OwnL w 35 9 A c rows /\ rows.length = l.length /\ RoleOf G A r /\ ∀ (j : Nat) (v : Va) (row : Array Value), l[j]? = some v -> rows[j]? = some row -> VAt w (Imm G) v row
def cell8 (tr : Array Value) (s c k : Int) (A : Option Addr) (l m : Nat) : Array Value := tr ++ #[.int .i64 s, .int .i64 c, .int .i64 k, .slice A l m]
structure ObAt (w : World) (G : Gh) (k i : Nat) (o : Ob) (row tr : Array Value) (fA : Option Addr) (fc : Nat) : Prop where
 eq : row = cell8 tr o.state o.count o.weak fA o.fields.length fc
 ty : TyAt w (Imm G) o.t tr
 fld : ListV w G (k, .fld i) o.fields fA fc
def ObsAt (w : World) (G : Gh) (k : Nat) (obs : List Ob) (A : Option Addr) (c : Nat) : Prop :=
 ∃ rows, OwnL w 41 8 A c rows /\ rows.length = obs.length /\ RoleOf G A (k, .arr) /\ ∀ (i : Nat) (o : Ob) (row : Array Value), obs[i]? = some o -> rows[i]? = some row -> ∃ tr fA fc, ObAt w G k i o row tr fA fc
structure BuAt (w : World) (G : Gh) (k i : Nat) (b : Bu) (row : Array Value) (eA : Option Addr) (ec : Nat) : Prop where
 eq : row = #[.int .i64 b.count, .slice eA b.elems.length ec]
 elm : ListV w G (k, .elm i) b.elems eA ec
def BusAt (w : World) (G : Gh) (k : Nat) (bus : List Bu) (A : Option Addr) (c : Nat) : Prop :=
 ∃ rows, OwnL w 97 2 A c rows /\ rows.length = bus.length /\ RoleOf G A (k, .bar) /\ ∀ (i : Nat) (b : Bu) (row : Array Value), bus[i]? = some b -> rows[i]? = some row -> ∃ eA ec, BuAt w G k i b row eA ec
def TkAt (w : World) (G : Gh) (t : Tk) (row : Array Value) : Prop :=
 match t with
 | .val v => ∃ rv, VAt w (Imm G) v rv /\ row = rv ++ #[.int .i64 0, .int .i64 0, .int .i64 0]
 | .flds o i => ∃ rv v, VAt w (Imm G) v rv /\ row = rv ++ #[.int .i64 (o : Int), .int .i64 (i : Int), .int .i64 1]
def TksAt (w : World) (G : Gh) (r : Nat × Role) (ts : List Tk) (A : Option Addr) (c : Nat) : Prop :=
 ∃ rows, OwnL w 101 12 A c rows /\ rows.length = ts.length /\ RoleOf G A r /\ ∀ (j : Nat) (t : Tk) (row : Array Value), ts[j]? = some t -> rows[j]? = some row -> TkAt w G t row
def LevAt (w : World) (G : Gh) (k : Nat) (lev : List (List Tk)) (A : Option Addr) (c : Nat) : Prop :=
 ∃ rows, OwnL w 98 1 A c rows /\ rows.length = lev.length /\ RoleOf G A (k, .lar) /\ ∀ (i : Nat) (ts : List Tk) (row : Array Value), lev[i]? = some ts -> rows[i]? = some row -> ∃ tA tc, row = #[.slice tA ts.length tc] /\ TksAt w G (k, .lvl i) ts tA tc
def DeiAt (w : World) (m : Nat) (dei : List ByteArray) : Prop :=
 ∃ es c, w.heap[m]? = some (.map es c) /\ MapKept.Stamped es c /\ (∀ x, x ∈ es.toList -> ∃ s, x.key = .string s /\ x.val = .bool true /\ s ∈ dei) /\ ∀ s, s ∈ dei -> ∃ x, x ∈ es.toList /\ x.key = .string s
theorem DeiAt.find {w : World} {m : Nat} {dei : List ByteArray} (h : DeiAt w m dei) : ∃ es c, w.heap[m]? = some (.map es c) /\ ∀ s : ByteArray, (s ∈ dei -> ∃ i e, Instr.findNow .string (.string s) es.toList 0 = some (some (i, .bool true)) /\ es[i]? = some e /\ e.key = .string s) /\ (s ∉ dei -> Instr.findNow .string (.string s) es.toList 0 = some none /\ ∀ x, x ∈ es.toList -> x.key ≠ .string s) := by
 obtain ⟨es, c, hb, -, he, hh⟩ := h
 have hk : ∀ x, x ∈ es.toList -> MapKept.IsKey .string x.key := fun x hx => by
  obtain ⟨s, e, -⟩ := he x hx
  rw [e]; simp [MapKept.IsKey]
 refine ⟨es, c, hb, fun s => ?_⟩
 rcases MapKept.findNow_spec (d := .string) (k := .string s) (by simp [MapKept.IsKey]) es.toList 0 hk with ⟨h1, h2⟩ | ⟨j, e, h1, h2, h3⟩
 ·refine ⟨fun hs => ?_, fun _ => ⟨h1, h2⟩⟩
  obtain ⟨x, hx, e⟩ := hh s hs
  exact absurd e (h2 x hx)
 ·obtain ⟨s', e1, e2, e3⟩ := he e (List.mem_of_getElem? h2)
  rw [h3] at e1
  cases e1
  exact ⟨fun _ => ⟨j, e, by rw [h1, e2]; simp, by simpa using h2, h3⟩, fun hn => absurd e3 hn⟩
def cellH (oA : Option Addr) (ol oc : Nat) (bA : Option Addr) (bl bc : Nat) (m : Nat) (lA : Option Addr) (ll lc : Nat) : Array Value := #[.slice oA ol oc, .slice bA bl bc, .map (some m), .slice lA ll lc]
structure HAt (w : World) (G : Gh) (k p : Nat) (h : Hp) (oA : Option Addr) (oc : Nat) (bA : Option Addr) (bc : Nat) (m : Nat) (lA : Option Addr) (lc : Nat) : Prop where
 blk : w.heap[p]? = some (.cells (cellH oA h.obs.length oc bA h.bus.length bc m lA h.lev.length lc) 87 (0, 0))
 rp : G p = some (k, .hdr)
 rm : G m = some (k, .dei)
 obs : ObsAt w G k h.obs oA oc
 bus : BusAt w G k h.bus bA bc
 lev : LevAt w G k h.lev lA lc
 map : DeiAt w m h.dei
section
variable {w w' : World} {G : Gh} {C : Nat -> Prop}
theorem ListV.same {r : Nat × Role} {l : List Va} {A : Option Addr} {c : Nat} (h : ListV w G r l A c) (h1 : ∀ b, b < w.heap.size -> G b = some r -> w'.heap[b]? = w.heap[b]?) (h2 : ∀ b, b < w.heap.size -> G b = none -> w'.heap[b]? = w.heap[b]?) : ListV w' G r l A c := by
 obtain ⟨rows, ho, hl, hr, hv⟩ := h
 exact ⟨rows, ho.same fun g e hg => h1 g hg (hr g e), hl, hr, fun j v row hj hrj => (hv j v row hj hrj).mono (fun _ h => h) fun b hb hlt => h2 b hlt hb⟩
theorem ObsAt.same {k : Nat} {obs : List Ob} {A : Option Addr} {c : Nat} (h : ObsAt w G k obs A c) (h1 : ∀ b, b < w.heap.size -> (G b = some (k, .arr) ∨ ∃ i, G b = some (k, .fld i)) -> w'.heap[b]? = w.heap[b]?) (h2 : ∀ b, b < w.heap.size -> G b = none -> w'.heap[b]? = w.heap[b]?) : ObsAt w' G k obs A c := by
 obtain ⟨rows, ho, hl, hr, hv⟩ := h
 refine ⟨rows, ho.same fun g e hg => h1 g hg (.inl (hr g e)), hl, hr, fun i o row hi hri => ?_⟩
 obtain ⟨tr, fA, fc, g1, g2, g3⟩ := hv i o row hi hri
 exact ⟨tr, fA, fc, g1, (g2.low.mono (fun _ h => h) fun b hb => h2 b hb.2 hb.1).weak (fun b hb => hb.1), g3.same (fun b hb e => h1 b hb (.inr ⟨i, e⟩)) h2⟩
theorem BusAt.same {k : Nat} {bus : List Bu} {A : Option Addr} {c : Nat} (h : BusAt w G k bus A c) (h1 : ∀ b, b < w.heap.size -> (G b = some (k, .bar) ∨ ∃ i, G b = some (k, .elm i)) -> w'.heap[b]? = w.heap[b]?) (h2 : ∀ b, b < w.heap.size -> G b = none -> w'.heap[b]? = w.heap[b]?) : BusAt w' G k bus A c := by
 obtain ⟨rows, ho, hl, hr, hv⟩ := h
 refine ⟨rows, ho.same fun g e hg => h1 g hg (.inl (hr g e)), hl, hr, fun i b row hi hri => ?_⟩
 obtain ⟨eA, ec, g1, g2⟩ := hv i b row hi hri
 exact ⟨eA, ec, g1, g2.same (fun b hb e => h1 b hb (.inr ⟨i, e⟩)) h2⟩
theorem TkAt.same {t : Tk} {row : Array Value} (h : TkAt w G t row) (h2 : ∀ b, b < w.heap.size -> G b = none -> w'.heap[b]? = w.heap[b]?) : TkAt w' G t row := by
 cases t with
 | val v =>
  obtain ⟨rv, h3, h4⟩ := h
  exact ⟨rv, h3.mono (fun _ h => h) fun b hb hl => h2 b hl hb, h4⟩
 | flds o i =>
  obtain ⟨rv, v, h3, h4⟩ := h
  exact ⟨rv, v, h3.mono (fun _ h => h) fun b hb hl => h2 b hl hb, h4⟩
theorem TksAt.same {r : Nat × Role} {ts : List Tk} {A : Option Addr} {c : Nat} (h : TksAt w G r ts A c) (h1 : ∀ b, b < w.heap.size -> G b = some r -> w'.heap[b]? = w.heap[b]?) (h2 : ∀ b, b < w.heap.size -> G b = none -> w'.heap[b]? = w.heap[b]?) : TksAt w' G r ts A c := by
 obtain ⟨rows, ho, hl, hr, hv⟩ := h
 exact ⟨rows, ho.same fun g e hg => h1 g hg (hr g e), hl, hr, fun j t row hj hrj => (hv j t row hj hrj).same h2⟩
theorem LevAt.same {k : Nat} {lev : List (List Tk)} {A : Option Addr} {c : Nat} (h : LevAt w G k lev A c) (h1 : ∀ b, b < w.heap.size -> (G b = some (k, .lar) ∨ ∃ i, G b = some (k, .lvl i)) -> w'.heap[b]? = w.heap[b]?) (h2 : ∀ b, b < w.heap.size -> G b = none -> w'.heap[b]? = w.heap[b]?) : LevAt w' G k lev A c := by
 obtain ⟨rows, ho, hl, hr, hv⟩ := h
 refine ⟨rows, ho.same fun g e hg => h1 g hg (.inl (hr g e)), hl, hr, fun i ts row hi hri => ?_⟩
 obtain ⟨tA, tc, g1, g2⟩ := hv i ts row hi hri
 exact ⟨tA, tc, g1, g2.same (fun b hb e => h1 b hb (.inr ⟨i, e⟩)) h2⟩
theorem DeiAt.same {m : Nat} {dei : List ByteArray} (h : DeiAt w m dei) (h1 : m < w.heap.size -> w'.heap[m]? = w.heap[m]?) : DeiAt w' m dei := by
 obtain ⟨es, c, h2, h3⟩ := h
 exact ⟨es, c, by rw [h1 (heap_lt h2)]; exact h2, h3⟩
end
section
variable {w w' : World} {G : Gh} {k p : Nat} {h : Hp} {oA : Option Addr} {oc : Nat} {bA : Option Addr} {bc m : Nat} {lA : Option Addr} {lc : Nat}
theorem HAt.same (hh : HAt w G k p h oA oc bA bc m lA lc) (h1 : ∀ b, b < w.heap.size -> Mine G k b -> w'.heap[b]? = w.heap[b]?) (h2 : ∀ b, b < w.heap.size -> G b = none -> w'.heap[b]? = w.heap[b]?) : HAt w' G k p h oA oc bA bc m lA lc where
 blk := by rw [h1 p (heap_lt hh.blk) ⟨_, hh.rp, by simp⟩]; exact hh.blk
 rp := hh.rp
 rm := hh.rm
 obs := hh.obs.same (fun b hb e => h1 b hb (by rcases e with e | ⟨i, e⟩ <;> exact ⟨_, e, by simp⟩)) h2
 bus := hh.bus.same (fun b hb e => h1 b hb (by rcases e with e | ⟨i, e⟩ <;> exact ⟨_, e, by simp⟩)) h2
 lev := hh.lev.same (fun b hb e => h1 b hb (by rcases e with e | ⟨i, e⟩ <;> exact ⟨_, e, by simp⟩)) h2
 map := hh.map.same fun hl => h1 m hl ⟨_, hh.rm, by simp⟩
theorem HAt.old (hh : HAt w G k p h oA oc bA bc m lA lc) (hb : Below w.heap.size w w') : HAt w' G k p h oA oc bA bc m lA lc := hh.same (fun b hl _ => hb.block b hl) fun b hl _ => hb.block b hl
theorem HAt.keep {C : Nat -> Prop} (hh : HAt w G k p h oA oc bA bc m lA lc) (hk : Keep C w w') (hC : ∀ b, C b -> ¬ Mine G k b /\ G b ≠ none) : HAt w' G k p h oA oc bA bc m lA lc := hh.same (fun b hl hm => hk.block b hl fun hc => (hC b hc).1 hm) fun b hl hn => hk.block b hl fun hc => (hC b hc).2 hn
end
section
variable {w : World} {G G' : Gh}
theorem VAt.regh {v : Va} {row : Array Value} (h : VAt w (Imm G) v row) (hG : ∀ b, b < w.heap.size -> G' b = G b) : VAt w (Imm G') v row := h.low.weak fun b hb => by unfold Imm; rw [hG b hb.2]; exact hb.1
theorem TyAt.regh {t : Ty} {row : Array Value} (h : TyAt w (Imm G) t row) (hG : ∀ b, b < w.heap.size -> G' b = G b) : TyAt w (Imm G') t row := h.low.weak fun b hb => by unfold Imm; rw [hG b hb.2]; exact hb.1
theorem RoleOf.regh {A : Option Addr} {r : Nat × Role} {ty : TypeId} {sz c : Nat} {rows : List (Array Value)} (h : RoleOf G A r) (ho : OwnL w ty sz A c rows) (hG : ∀ b, b < w.heap.size -> G' b = G b) : RoleOf G' A r := fun g e => by
 rcases ho.el with ⟨e1, -⟩ | ⟨g', cur, e1, hg, -⟩
 ·rw [e1] at e; cases e
 ·rw [e1] at e; cases e; rw [hG _ (heap_lt hg)]; exact h _ e1
theorem ListV.regh {r : Nat × Role} {l : List Va} {A : Option Addr} {c : Nat} (h : ListV w G r l A c) (hG : ∀ b, b < w.heap.size -> G' b = G b) : ListV w G' r l A c := by
 obtain ⟨rows, ho, hl, hr, hv⟩ := h
 exact ⟨rows, ho, hl, hr.regh ho hG, fun j v row h1 h2 => (hv j v row h1 h2).regh hG⟩
theorem TkAt.regh {t : Tk} {row : Array Value} (h : TkAt w G t row) (hG : ∀ b, b < w.heap.size -> G' b = G b) : TkAt w G' t row := by
 cases t with
 | val v =>
  obtain ⟨rv, h3, h4⟩ := h
  exact ⟨rv, h3.regh hG, h4⟩
 | flds o i =>
  obtain ⟨rv, v, h3, h4⟩ := h
  exact ⟨rv, v, h3.regh hG, h4⟩
theorem HAt.regh {k p : Nat} {h : Hp} {oA : Option Addr} {oc : Nat} {bA : Option Addr} {bc m : Nat} {lA : Option Addr} {lc : Nat} (hh : HAt w G k p h oA oc bA bc m lA lc) (hG : ∀ b, b < w.heap.size -> G' b = G b) : HAt w G' k p h oA oc bA bc m lA lc where
 blk := hh.blk
 rp := by rw [hG p (heap_lt hh.blk)]; exact hh.rp
 rm := by
  obtain ⟨es, c, hm, -⟩ := hh.map
  rw [hG m (heap_lt hm)]; exact hh.rm
 obs := by
  obtain ⟨rows, ho, hl, hr, hv⟩ := hh.obs
  refine ⟨rows, ho, hl, hr.regh ho hG, fun i o row h1 h2 => ?_⟩
  obtain ⟨tr, fA, fc, g1, g2, g3⟩ := hv i o row h1 h2
  exact ⟨tr, fA, fc, g1, g2.regh hG, g3.regh hG⟩
 bus := by
  obtain ⟨rows, ho, hl, hr, hv⟩ := hh.bus
  refine ⟨rows, ho, hl, hr.regh ho hG, fun i o row h1 h2 => ?_⟩
  obtain ⟨eA, ec, g1, g2⟩ := hv i o row h1 h2
  exact ⟨eA, ec, g1, g2.regh hG⟩
 lev := by
  obtain ⟨rows, ho, hl, hr, hv⟩ := hh.lev
  refine ⟨rows, ho, hl, hr.regh ho hG, fun i o row h1 h2 => ?_⟩
  obtain ⟨tA, tc, g1, rows2, ho2, hl2, hr2, hv2⟩ := hv i o row h1 h2
  exact ⟨tA, tc, g1, rows2, ho2, hl2, hr2.regh ho2 hG, fun j t row h3 h4 => (hv2 j t row h3 h4).regh hG⟩
 map := hh.map
end
theorem u38 : Try.prog.underlying 38 = some (.slice 41) := by kernel_rfl
theorem u78 : Try.prog.underlying 78 = some (.slice 97) := by kernel_rfl
theorem u85 : Try.prog.underlying 85 = some (.slice 98) := by kernel_rfl
theorem u98 : Try.prog.underlying 98 = some (.slice 101) := by kernel_rfl
theorem u84 : Try.prog.underlying 84 = some (.map 9 4) := by kernel_rfl
theorem u41 : Try.prog.underlying 41 = some (.struct (Try.prog.fieldsOf 41)) := by kernel_rfl
theorem u101 : Try.prog.underlying 101 = some (.struct (Try.prog.fieldsOf 101)) := by kernel_rfl
theorem info41 : (Try.prog.info? 41).map (·.size) = some 8 := by kernel_rfl
theorem info101 : (Try.prog.info? 101).map (·.size) = some 12 := by kernel_rfl
section
variable {w : World} {p : Nat} {oA : Option Addr} {ol oc : Nat} {bA : Option Addr} {bl bc : Nat} {m : Nat} {lA : Option Addr} {ll lc : Nat} {t : TypeId} {fr : Nat × Nat}
theorem h0 (hp : w.heap[p]? = some (.cells (cellH oA ol oc bA bl bc m lA ll lc) t fr)) : OneAt w 38 ⟨p, 0, none⟩ (.slice oA ol oc) := one_of u38 rfl (by rw [cell_of_row _ _ _ _ _ _ hp]; rfl)
theorem h1 (hp : w.heap[p]? = some (.cells (cellH oA ol oc bA bl bc m lA ll lc) t fr)) : OneAt w 78 ⟨p, 1, none⟩ (.slice bA bl bc) := one_of u78 rfl (by rw [cell_of_row _ _ _ _ _ _ hp]; rfl)
theorem h2 (hp : w.heap[p]? = some (.cells (cellH oA ol oc bA bl bc m lA ll lc) t fr)) : OneAt w 84 ⟨p, 2, none⟩ (.map (some m)) := one_of u84 rfl (by rw [cell_of_row _ _ _ _ _ _ hp]; rfl)
theorem h3 (hp : w.heap[p]? = some (.cells (cellH oA ol oc bA bl bc m lA ll lc) t fr)) : OneAt w 85 ⟨p, 3, none⟩ (.slice lA ll lc) := one_of u85 rfl (by rw [cell_of_row _ _ _ _ _ _ hp]; rfl)
end
open Go.RowKit Go.Proofs.Ytpamocglecangaa.Nm
set_option linter.unusedSimpArgs false
abbrev Hdr (w : World) (p : Nat) (no nb : Nat) : Prop := ∃ oA oc bA bc m lA ll lc, w.heap[p]? = some (.cells (cellH oA no oc bA nb bc m lA ll lc) 87 (0, 0))
def OfC (p no nb : Nat) (v : Va) : Prop := ∀ (w : World) (D : Nat -> Prop) (row : Array Value), VAt w D v row -> Hdr w p no nb ->
 Calls Try.prog 73 #[.pointer (some ⟨p, 0, none⟩), .agg row] w fun e w' => e = .returned (.bool (ofV no nb v)) /\ Below w.heap.size w w'
theorem hasK_eq (k : Int) : hasK k = ((k == 5) || ((k == 6) || ((k == 9) || (k == 10)))) := by
 unfold hasK
 rw [Bool.eq_iff_iff]
 simp
theorem of_any (p no nb : Nat) (hno : no <= maxLen) (hnb : nb <= maxLen) : ∀ v : Va, OfC p no nb v := Va.ind fun v ih w D row h hh => by
 obtain ⟨oA, oc, bA, bc, m, lA, ll, lc, hh⟩ := hh
 obtain ⟨tr, A2, l2, c2, A3, l3, c3, hr⟩ := h.row
 unfold maxLen at hno hnb
 have HR := Zi hr
 have HI := Zi ih
 have hcm3 := hr.vs.cap
 have hmx3 := hr.vs.max
 unfold maxLen at hmx3
 have HL3 := Zi hr.vs.len
 clear h hr ih
 have hb := Below.refl w.heap.size w
 go_enter Try.func73, Try.ntmps73
 go_upto_region 0 with fail
 apply Zl
 have lthhq := heap_lt hh; (with_reducible refine wl_boxV rfl ?_); intro W q hbn hlq hq; replace hh := below_look hbn hh; replace hb := hb.trans (hbn.mono hb.size); clear hbn; simp only [Zq]
 refine Zm ?_
 have hp := hq
 clear hq
 go_upto_region 1 with fail
 apply Zl
 refine Zm ?_
 refine Zo rfl (vk (by assumption) (by assumption)) ?_
 by_cases h7 : v.kind = 7
 ·have e7 : (v.kind == 7) = true := by simp [h7]
  have HK := Zi h7
  clear h7
  go_upto_region 4 with fail
  by_cases hn0 : 0 <= v.num
  ·have hn0g : v.num ≥ 0 := hn0
   by_cases hn1 : v.num < (no : Int)
   ·have HF : Hid (ofV no nb v = true) := Zi (by rw [ofV_eq]; simp [HK.out, hn0, hn1])
    refine wp_region_belowAll mixed (by kernel_rfl) ?_
    refine Zt ?_
    refine Zv rfl (fun w' hw' => vn (below_look hw' (by assumption)) (by assumption)) ?_
    iterate 3 refine Zt ?_
    refine Zv rfl (fun w' hw' => vn (below_look hw' (by assumption)) (by assumption)) ?_
    iterate 3 refine Zt ?_
    refine Zv rfl (fun w' hw' => h0 (below_look hw' (by assumption))) ?_
    iterate 4 refine Zt ?_
    intro w7 hb7
    replace hb := hb.trans (hb7.mono hb.size)
    clear hb7 hp hh
    go_wp2_with fail
    go_ret
    exact ⟨by rw [HF.out]; rfl, hb⟩
   ·have HF : Hid (ofV no nb v = false) := Zi (by rw [ofV_eq]; simp [HK.out, hn0, hn1])
    refine wp_region_belowAll mixed (by kernel_rfl) ?_
    refine Zt ?_
    refine Zv rfl (fun w' hw' => vn (below_look hw' (by assumption)) (by assumption)) ?_
    iterate 3 refine Zt ?_
    refine Zv rfl (fun w' hw' => vn (below_look hw' (by assumption)) (by assumption)) ?_
    iterate 3 refine Zt ?_
    refine Zv rfl (fun w' hw' => h0 (below_look hw' (by assumption))) ?_
    iterate 4 refine Zt ?_
    intro w7 hb7
    replace hb := hb.trans (hb7.mono hb.size)
    clear hb7 hp hh
    go_wp2_with fail
    go_ret
    exact ⟨by rw [HF.out]; rfl, hb⟩
  ·have hn0g : ¬ v.num ≥ 0 := hn0
   have HF : Hid (ofV no nb v = false) := Zi (by rw [ofV_eq]; simp [HK.out, hn0])
   refine wp_region_belowAll mixed (by kernel_rfl) ?_
   refine Zt ?_
   refine Zv rfl (fun w' hw' => vn (below_look hw' (by assumption)) (by assumption)) ?_
   iterate 2 refine Zt ?_
   iterate 8 ((with_reducible refine wq_skip ?_ ?_); exact rfl; simp only [Zy])
   iterate 2 refine Zt ?_
   intro w7 hb7
   replace hb := hb.trans (hb7.mono hb.size)
   clear hb7 hp hh
   go_wp2_with fail
   go_ret
   exact ⟨by rw [HF.out]; rfl, hb⟩
 ·have e7 : (v.kind == 7) = false := by simp [h7]
  by_cases h11 : v.kind = 11
  ·have e11 : (v.kind == 11) = true := by simp [h11]
   have HK := Zi h11
   clear h7 h11
   go_upto_region 4 with fail
   by_cases hn0 : 0 <= v.num
   ·have hn0g : v.num ≥ 0 := hn0
    by_cases hn1 : v.num < (no : Int)
    ·have HF : Hid (ofV no nb v = true) := Zi (by rw [ofV_eq]; simp [HK.out, hn0, hn1])
     refine wp_region_belowAll mixed (by kernel_rfl) ?_
     refine Zt ?_
     refine Zv rfl (fun w' hw' => vn (below_look hw' (by assumption)) (by assumption)) ?_
     iterate 3 refine Zt ?_
     refine Zv rfl (fun w' hw' => vn (below_look hw' (by assumption)) (by assumption)) ?_
     iterate 3 refine Zt ?_
     refine Zv rfl (fun w' hw' => h0 (below_look hw' (by assumption))) ?_
     iterate 4 refine Zt ?_
     intro w7 hb7
     replace hb := hb.trans (hb7.mono hb.size)
     clear hb7 hp hh
     go_wp2_with fail
     go_ret
     exact ⟨by rw [HF.out]; rfl, hb⟩
    ·have HF : Hid (ofV no nb v = false) := Zi (by rw [ofV_eq]; simp [HK.out, hn0, hn1])
     refine wp_region_belowAll mixed (by kernel_rfl) ?_
     refine Zt ?_
     refine Zv rfl (fun w' hw' => vn (below_look hw' (by assumption)) (by assumption)) ?_
     iterate 3 refine Zt ?_
     refine Zv rfl (fun w' hw' => vn (below_look hw' (by assumption)) (by assumption)) ?_
     iterate 3 refine Zt ?_
     refine Zv rfl (fun w' hw' => h0 (below_look hw' (by assumption))) ?_
     iterate 4 refine Zt ?_
     intro w7 hb7
     replace hb := hb.trans (hb7.mono hb.size)
     clear hb7 hp hh
     go_wp2_with fail
     go_ret
     exact ⟨by rw [HF.out]; rfl, hb⟩
   ·have hn0g : ¬ v.num ≥ 0 := hn0
    have HF : Hid (ofV no nb v = false) := Zi (by rw [ofV_eq]; simp [HK.out, hn0])
    refine wp_region_belowAll mixed (by kernel_rfl) ?_
    refine Zt ?_
    refine Zv rfl (fun w' hw' => vn (below_look hw' (by assumption)) (by assumption)) ?_
    iterate 2 refine Zt ?_
    iterate 8 ((with_reducible refine wq_skip ?_ ?_); exact rfl; simp only [Zy])
    iterate 2 refine Zt ?_
    intro w7 hb7
    replace hb := hb.trans (hb7.mono hb.size)
    clear hb7 hp hh
    go_wp2_with fail
    go_ret
    exact ⟨by rw [HF.out]; rfl, hb⟩
  ·have e11 : (v.kind == 11) = false := by simp [h11]
   by_cases h8 : v.kind = 8
   ·have e8 : (v.kind == 8) = true := by simp [h8]
    have HK := Zi h8
    clear h7 h11 h8
    go_upto_region 6 with fail
    by_cases hn0 : 0 <= v.num
    ·have hn0g : v.num ≥ 0 := hn0
     by_cases hn1 : v.num < (nb : Int)
     ·have HF : Hid (ofV no nb v = true) := Zi (by rw [ofV_eq]; simp [HK.out, hn0, hn1])
      refine wp_region_belowAll mixed (by kernel_rfl) ?_
      refine Zt ?_
      refine Zv rfl (fun w' hw' => vn (below_look hw' (by assumption)) (by assumption)) ?_
      iterate 3 refine Zt ?_
      refine Zv rfl (fun w' hw' => vn (below_look hw' (by assumption)) (by assumption)) ?_
      iterate 3 refine Zt ?_
      refine Zv rfl (fun w' hw' => h1 (below_look hw' (by assumption))) ?_
      iterate 4 refine Zt ?_
      intro w7 hb7
      replace hb := hb.trans (hb7.mono hb.size)
      clear hb7 hp hh
      go_wp2_with fail
      go_ret
      exact ⟨by rw [HF.out]; rfl, hb⟩
     ·have HF : Hid (ofV no nb v = false) := Zi (by rw [ofV_eq]; simp [HK.out, hn0, hn1])
      refine wp_region_belowAll mixed (by kernel_rfl) ?_
      refine Zt ?_
      refine Zv rfl (fun w' hw' => vn (below_look hw' (by assumption)) (by assumption)) ?_
      iterate 3 refine Zt ?_
      refine Zv rfl (fun w' hw' => vn (below_look hw' (by assumption)) (by assumption)) ?_
      iterate 3 refine Zt ?_
      refine Zv rfl (fun w' hw' => h1 (below_look hw' (by assumption))) ?_
      iterate 4 refine Zt ?_
      intro w7 hb7
      replace hb := hb.trans (hb7.mono hb.size)
      clear hb7 hp hh
      go_wp2_with fail
      go_ret
      exact ⟨by rw [HF.out]; rfl, hb⟩
    ·have hn0g : ¬ v.num ≥ 0 := hn0
     have HF : Hid (ofV no nb v = false) := Zi (by rw [ofV_eq]; simp [HK.out, hn0])
     refine wp_region_belowAll mixed (by kernel_rfl) ?_
     refine Zt ?_
     refine Zv rfl (fun w' hw' => vn (below_look hw' (by assumption)) (by assumption)) ?_
     iterate 2 refine Zt ?_
     iterate 8 ((with_reducible refine wq_skip ?_ ?_); exact rfl; simp only [Zy])
     iterate 2 refine Zt ?_
     intro w7 hb7
     replace hb := hb.trans (hb7.mono hb.size)
     clear hb7 hp hh
     go_wp2_with fail
     go_ret
     exact ⟨by rw [HF.out]; rfl, hb⟩
   ·have e8 : (v.kind == 8) = false := by simp [h8]
    have HE : Hid (ofV no nb v = if hasK v.kind then ofVs no nb v.parts else decide (0 <= v.kind /\ v.kind <= 4)) := Zi (by rw [ofV_eq]; simp [h7, h11, h8])
    clear h7 h11 h8
    obtain ⟨c0, hc0⟩ : ∃ b : Bool, b = (v.kind == 0) := ⟨_, rfl⟩
    obtain ⟨c1, hc1⟩ : ∃ b : Bool, b = (v.kind == 1) := ⟨_, rfl⟩
    obtain ⟨c4, hc4⟩ : ∃ b : Bool, b = (v.kind == 2) := ⟨_, rfl⟩
    obtain ⟨c5, hc5⟩ : ∃ b : Bool, b = (v.kind == 3) := ⟨_, rfl⟩
    obtain ⟨c6, hc6⟩ : ∃ b : Bool, b = (v.kind == 4) := ⟨_, rfl⟩
    have d0 := hc0.symm
    have d1 := hc1.symm
    have d2 := hc4.symm
    have d3 := hc5.symm
    have d4 := hc6.symm
    obtain ⟨q40, hq40⟩ : ∃ b : Bool, b = (c0 || (c1 || (c4 || (c5 || c6)))) := ⟨_, rfl⟩
    have HQ := Zi hq40
    have HD : Hid (q40 = decide (0 <= v.kind /\ v.kind <= 4)) := Zi (by
     rw [hq40, hc0, hc1, hc4, hc5, hc6, Bool.eq_iff_iff]
     simp
     omega)
    clear hc0 hc1 hc4 hc5 hc6 hq40
    go_upto_if 40 with fail
    go_cut [40] (fun s40 wx => s40 = .bool q40 /\ W = wx)
    case first =>
     cases c0 <;> cases c1 <;> cases c4 <;> cases c5 <;> cases c6
     all_goals
      go_wp2_with fail
      go_meet
      exact ⟨by rw [HQ.out]; rfl, rfl⟩
    case rest =>
     obtain ⟨rfl, rfl⟩ := hcut
     clear d0 d1 d2 d3 d4 HQ
     cases q40 with
     | true =>
      have HF : Hid (ofV no nb v = true) := Zi (by
       have h1 := of_decide_eq_true HD.out.symm
       rw [HE.out, if_neg (by unfold hasK; simp; omega)]
       exact HD.out.symm)
      clear hp hh
      go_upto_region 12 with fail
      apply Zl
      refine Zm ?_
      go_wp2_with fail
      go_ret
      exact ⟨by rw [HF.out]; rfl, hb⟩
     | false =>
      obtain ⟨f5, hf5⟩ : ∃ b : Bool, b = (v.kind == 5) := ⟨_, rfl⟩
      obtain ⟨f6, hf6⟩ : ∃ b : Bool, b = (v.kind == 6) := ⟨_, rfl⟩
      obtain ⟨f9, hf9⟩ : ∃ b : Bool, b = (v.kind == 9) := ⟨_, rfl⟩
      obtain ⟨f10, hf10⟩ : ∃ b : Bool, b = (v.kind == 10) := ⟨_, rfl⟩
      have d5 := hf5.symm
      have d6 := hf6.symm
      have d9 := hf9.symm
      have d10 := hf10.symm
      obtain ⟨q46, hq46⟩ : ∃ b : Bool, b = (f5 || (f6 || (f9 || f10))) := ⟨_, rfl⟩
      have HQ := Zi hq46
      have HK : Hid (q46 = hasK v.kind) := Zi (by rw [hq46, hasK_eq, hf5, hf6, hf9, hf10])
      clear hf5 hf6 hf9 hf10 hq46
      go_upto_if 46 with fail
      go_cut [46] (fun s46 wx => s46 = .bool q46 /\ W = wx)
      case first =>
       cases f5 <;> cases f6 <;> cases f9 <;> cases f10
       all_goals
        go_wp2_with fail
        go_meet
        exact ⟨by rw [HQ.out]; rfl, rfl⟩
      case rest =>
       obtain ⟨rfl, rfl⟩ := hcut
       clear d5 d6 d9 d10 HQ
       cases q46 with
       | false =>
        have HF : Hid (ofV no nb v = false) := Zi (by rw [HE.out, <- HK.out, if_neg (by simp)]; exact HD.out.symm)
        clear hp hh
        go_upto_region 24 with fail
        apply Zl
        refine Zm ?_
        go_wp2_with fail
        go_ret
        exact ⟨by rw [HF.out]; rfl, hb⟩
       | true =>
        have HF : Hid (ofV no nb v = ofVs no nb (v.parts.drop 0)) := Zi (by rw [HE.out, <- HK.out, if_pos rfl]; rfl)
        go_upto_region 17 with fail
        apply Zl
        refine Zm ?_
        refine Zo rfl (vl (by assumption) (by assumption)) ?_
        iterate 2 refine Zm ?_
        go_wp2_with fail
        go_loopw [54] (fun i wr => ∃ j : Nat, j <= l3 /\ i = .int .i64 (j : Int) /\ Hid (ofV no nb v = ofVs no nb (v.parts.drop j)) /\ Below w.heap.size w wr /\ wr.heap[p]? = some (.cells (cellH oA no oc bA nb bc m lA ll lc) 87 (0, 0))) (fun i _ => l3 - (intOf i).toNat)
        case atStart => exact ⟨0, by omega, rfl, HF, hb, hh⟩
        case round =>
         clear hb hh HF
         obtain ⟨j, hj, rfl, HF, hb, hh⟩ := hrel
         go_upto_region 18 with fail
         by_cases hlt : j < l3
         ·have hltI : (j : Int) < (l3 : Int) := by omega
          obtain ⟨b2, off2, u, rowu, rfl, -, hu, hua, hrow⟩ := (HR.out.vs.old hb).getB hlt
          have HST := Zi (ofVs_step (no := no) (nb := nb) hu)
          have HIU := Zi (HI.out u (List.mem_of_getElem? hu))
          have HUA := Zi hua
          have HRU := Zi (hrow wr (Below.refl _ _))
          have hus : rowu.size = 9 := hua.size
          have hu1 : rowu.all (·.oneCell') = true := hua.one
          have hzz := Below.refl wr.heap.size wr
          clear hu hua hrow
          obtain ⟨tr5, A5, l5, c5, A6, l6, c6, hru⟩ := HUA.out.row
          have HRV := Zi hru
          clear hru
          apply Zl
          refine Zm ?_
          go_upto_region 19 with fail
          apply Zl
          refine Zm ?_
          refine Zw rfl (HRU.out) ?_
          have lthhq5 := heap_lt hh; (with_reducible refine wl_allV ?_); intro W5 q5 hbn hlq5 hq5; replace hh := below_look hbn hh; replace hzz := hzz.trans (hbn.mono hzz.size); clear hbn; simp only [Zq]
          (with_reducible refine wl_putV hus hu1 rfl rfl rfl hq5 ?_); rw [put_noneA]; intro W6 hbx hsz hkx hnx; have hh5 := heap_lt hh; replace hh := (hkx _ (by omega)).trans hh; replace hzz := hbx _ _ (by omega) hzz; clear hq5; have hq5 := hnx; clear hnx
          clear hbx hkx hsz hus hu1
          obtain ⟨bb, hbb⟩ : ∃ b, b = ofV no nb u := ⟨_, rfl⟩
          have hc := HIU.out W6 _ _ (HUA.out.old hzz) ⟨_, _, _, _, _, _, _, _, hh⟩
          rw [<- hbb] at hc HST
          have HC := Zi hc
          clear hc hbb hp
          go_upto_region 20 with fail
          apply Zl
          refine Zm ?_
          refine Zw rfl (vrow (by assumption) (by assumption)) ?_
          refine Zn HC.out ?_; rintro e w7 ⟨rfl, hb7⟩; refine ⟨_, rfl, ?_⟩; simp only [Zq]
          replace hh := below_look hb7 hh; replace hzz := hzz.trans (hb7.mono hzz.size); clear hb7
          refine Zm ?_
          replace hb := hb.trans (hzz.mono hb.size)
          clear HC hq5 hzz
          cases bb with
          | false =>
           have HF2 : Hid (ofV no nb v = false) := Zi (by rw [HF.out, HST.out]; rfl)
           clear hh HF HST
           go_upto_region 21 with fail
           apply Zl
           refine Zm ?_
           go_wp2_with fail
           go_ret
           exact ⟨by rw [HF2.out]; rfl, hb⟩
          | true =>
           have HF2 : Hid (ofV no nb v = ofVs no nb (v.parts.drop (j + 1))) := Zi (by rw [HF.out, HST.out]; rfl)
           clear HF HST
           go_wp2_with fail
           go_roundw
           case rel => exact ⟨j + 1, by omega, by go_num, HF2, hb, hh⟩
           case measure => simp [intOf]; omega
         ·have hltI : ¬ (j : Int) < (l3 : Int) := by omega
          have HF2 : Hid (ofV no nb v = true) := Zi (by rw [HF.out, List.drop_of_length_le (by rw [HL3.out]; omega), ofVs])
          apply Zl
          refine Zm ?_
          clear hh HF
          go_upto_region 23 with fail
          apply Zl
          refine Zm ?_
          go_wp2_with fail
          go_ret
          exact ⟨by rw [HF2.out]; rfl, hb⟩
structure ObL (w : World) (g i : Nat) (o : Ob) (tr : Array Value) (fA : Option Addr) (fc : Nat) : Prop where
 t : RowAt w 32 ⟨g, i * 8, none⟩ tr
 n : OneAt w 9 ⟨g, i * 8 + 1, none⟩ (.string o.t.name)
 s : OneAt w 3 ⟨g, i * 8 + 4, none⟩ (.int .i64 o.state)
 c : OneAt w 3 ⟨g, i * 8 + 5, none⟩ (.int .i64 o.count)
 k : OneAt w 3 ⟨g, i * 8 + 6, none⟩ (.int .i64 o.weak)
 f : OneAt w 33 ⟨g, i * 8 + 7, none⟩ (.slice fA o.fields.length fc)
structure BuL (w : World) (g i : Nat) (b : Bu) (eA : Option Addr) (ec : Nat) : Prop where
 c : OneAt w 3 ⟨g, i * 2, none⟩ (.int .i64 b.count)
 e : OneAt w 33 ⟨g, i * 2 + 1, none⟩ (.slice eA b.elems.length ec)
section
variable {w w' : World} {G : Gh} {k : Nat} {obs : List Ob} {bus : List Bu} {A : Option Addr} {c i : Nat} {o : Ob} {b : Bu}
theorem cell8_at {tr : Array Value} (h : tr.size = 4) (s c k : Int) (A : Option Addr) (l m : Nat) : (cell8 tr s c k A l m).size = 8 /\ (cell8 tr s c k A l m)[4]? = some (.int .i64 s) /\ (cell8 tr s c k A l m)[5]? = some (.int .i64 c) /\ (cell8 tr s c k A l m)[6]? = some (.int .i64 k) /\ (cell8 tr s c k A l m)[7]? = some (.slice A l m) := by
 obtain ⟨l0⟩ := tr
 match l0, h with
 | [a0, a1, a2, a3], _ => exact ⟨rfl, rfl, rfl, rfl, rfl⟩
theorem cell8_set {tr : Array Value} (h : tr.size = 4) (s c k : Int) (A : Option Addr) (l m : Nat) (x : Int) (A' : Option Addr) (l' m' : Nat) : (cell8 tr s c k A l m).setIfInBounds 4 (.int .i64 x) = cell8 tr x c k A l m /\ (cell8 tr s c k A l m).setIfInBounds 5 (.int .i64 x) = cell8 tr s x k A l m /\ (cell8 tr s c k A l m).setIfInBounds 6 (.int .i64 x) = cell8 tr s c x A l m /\ (cell8 tr s c k A l m).setIfInBounds 7 (.slice A' l' m') = cell8 tr s c k A' l' m' := by
 obtain ⟨l0⟩ := tr
 match l0, h with
 | [a0, a1, a2, a3], _ => exact ⟨rfl, rfl, rfl, rfl⟩
theorem cell8_ty {tr : Array Value} (h : tr.size = 4) (s c k : Int) (A : Option Addr) (l m : Nat) : (cell8 tr s c k A l m).extract 0 4 = tr := by
 obtain ⟨l0⟩ := tr
 match l0, h with
 | [a0, a1, a2, a3], _ => rfl
structure ObsR (w : World) (G : Gh) (k : Nat) (obs : List Ob) (g c : Nat) (rows : List (Array Value)) : Prop where
 own : OwnL w 41 8 (some ⟨g, 0, none⟩) c rows
 len : rows.length = obs.length
 role : G g = some (k, .arr)
 lt : g < w.heap.size
 all : ∀ (i : Nat) (o : Ob) (row : Array Value), obs[i]? = some o -> rows[i]? = some row -> ∃ tr fA fc, ObAt w G k i o row tr fA fc
theorem ObsAt.rows (h : ObsAt w G k obs A c) (hi : obs[i]? = some o) : ∃ g rows, A = some ⟨g, 0, none⟩ /\ ObsR w G k obs g c rows := by
 obtain ⟨rows, ho, hl, hr, hv⟩ := h
 have h1 := (List.getElem?_eq_some_iff.1 hi).1
 obtain ⟨g, cur, e, hg, -⟩ := ho.addr (i := i) (by omega)
 subst e
 exact ⟨g, rows, rfl, ho, hl, hr g rfl, heap_lt hg, hv⟩
theorem ObsR.get {g : Nat} {rows : List (Array Value)} (h : ObsR w G k obs g c rows) (hi : obs[i]? = some o) : ∃ row tr fA fc, rows[i]? = some row /\ ObAt w G k i o row tr fA fc := by
 have h1 := (List.getElem?_eq_some_iff.1 hi).1
 have hl := h.len
 have h2 : rows[i]? = some rows[i] := List.getElem?_eq_getElem (by omega)
 obtain ⟨tr, fA, fc, g1⟩ := h.all i o _ hi h2
 exact ⟨_, tr, fA, fc, h2, g1⟩
structure BusR (w : World) (G : Gh) (k : Nat) (bus : List Bu) (g c : Nat) (rows : List (Array Value)) : Prop where
 own : OwnL w 97 2 (some ⟨g, 0, none⟩) c rows
 len : rows.length = bus.length
 role : G g = some (k, .bar)
 lt : g < w.heap.size
 all : ∀ (i : Nat) (b : Bu) (row : Array Value), bus[i]? = some b -> rows[i]? = some row -> ∃ eA ec, BuAt w G k i b row eA ec
theorem BusAt.rows (h : BusAt w G k bus A c) (hi : bus[i]? = some b) : ∃ g rows, A = some ⟨g, 0, none⟩ /\ BusR w G k bus g c rows := by
 obtain ⟨rows, ho, hl, hr, hv⟩ := h
 have h1 := (List.getElem?_eq_some_iff.1 hi).1
 obtain ⟨g, cur, e, hg, -⟩ := ho.addr (i := i) (by omega)
 subst e
 exact ⟨g, rows, rfl, ho, hl, hr g rfl, heap_lt hg, hv⟩
theorem BusR.get {g : Nat} {rows : List (Array Value)} (h : BusR w G k bus g c rows) (hi : bus[i]? = some b) : ∃ row eA ec, rows[i]? = some row /\ BuAt w G k i b row eA ec := by
 have h1 := (List.getElem?_eq_some_iff.1 hi).1
 have hl := h.len
 have h2 : rows[i]? = some rows[i] := List.getElem?_eq_getElem (by omega)
 obtain ⟨eA, ec, g1⟩ := h.all i b _ hi h2
 exact ⟨_, eA, ec, h2, g1⟩
theorem ObAt.size {row tr : Array Value} {fA : Option Addr} {fc : Nat} (h : ObAt w G k i o row tr fA fc) : tr.size = 4 := h.ty.size
theorem OwnL.loads {rows : List (Array Value)} {row tr : Array Value} {fA : Option Addr} {fc g : Nat} (ho : OwnL w 41 8 (some ⟨g, 0, none⟩) c rows) (hr : rows[i]? = some row) (h : ObAt w G k i o row tr fA fc) : ObL w g i o tr fA fc := by
 obtain ⟨-, e4, e5, e6, e7⟩ := cell8_at h.size o.state o.count o.weak fA o.fields.length fc
 rw [<- h.eq] at e4 e5 e6 e7
 obtain ⟨cur, hg, hs, hf, hx, hsz⟩ := ho.at hr
 have ht : cur.extract (i * 8) (i * 8 + 4) = tr := by
  have h1 := cell8_ty h.size o.state o.count o.weak fA o.fields.length fc
  rw [<- h.eq, <- hx, Array.extract_extract] at h1
  rw [<- h1]
  congr 1; omega
 obtain ⟨tk, ts, tn, tA, tl, tc, tt, e1, e2, -⟩ := h.ty.parts
 refine ⟨row_mid (n := 4) hg (by exact ht) u24 rfl h.size info24, one_of u9 rfl ?_, one_of u3 rfl (ho.cell hr e4), one_of u3 rfl (ho.cell hr e5), one_of u3 rfl (ho.cell hr e6), one_of u33 rfl (ho.cell hr e7)⟩
 refine ho.cell hr ?_
 rw [h.eq, e2, e1]
 rfl
theorem modify_eq {α : Type} {l : List α} {i : Nat} {x : α} (f : α -> α) (h : l[i]? = some x) : l.modify i f = l.set i (f x) := by
 apply List.ext_getElem?
 intro j
 by_cases e : i = j
 ·subst e
  simp [List.getElem?_modify, List.getElem?_set_self (List.getElem?_eq_some_iff.1 h).1, h]
 ·simp [List.getElem?_modify, List.getElem?_set_ne e, e]
theorem ObAt.same {row tr : Array Value} {fA : Option Addr} {fc : Nat} (h : ObAt w G k i o row tr fA fc) (h1 : ∀ b, b < w.heap.size -> G b = some (k, .fld i) -> w'.heap[b]? = w.heap[b]?) (h2 : ∀ b, b < w.heap.size -> G b = none -> w'.heap[b]? = w.heap[b]?) : ObAt w' G k i o row tr fA fc :=
 ⟨h.eq, (h.ty.low.mono (fun _ h => h) fun b hb => h2 b hb.2 hb.1).weak (fun b hb => hb.1), h.fld.same h1 h2⟩
theorem BuAt.same {row : Array Value} {eA : Option Addr} {ec : Nat} (h : BuAt w G k i b row eA ec) (h1 : ∀ b, b < w.heap.size -> G b = some (k, .elm i) -> w'.heap[b]? = w.heap[b]?) (h2 : ∀ b, b < w.heap.size -> G b = none -> w'.heap[b]? = w.heap[b]?) : BuAt w' G k i b row eA ec :=
 ⟨h.eq, h.elm.same h1 h2⟩
theorem OwnL.loadsB {rows : List (Array Value)} {row : Array Value} {eA : Option Addr} {ec g : Nat} (ho : OwnL w 97 2 (some ⟨g, 0, none⟩) c rows) (hr : rows[i]? = some row) (h : BuAt w G k i b row eA ec) : BuL w g i b eA ec :=
 ⟨one_of u3 rfl (ho.cell hr (j := 0) (by rw [h.eq]; rfl)), one_of u33 rfl (ho.cell hr (j := 1) (by rw [h.eq]; rfl))⟩
theorem ObsR.loads {g : Nat} {rows : List (Array Value)} (h : ObsR w G k obs g c rows) (hi : obs[i]? = some o) : ∃ tr fA fc, (∀ w', Below w.heap.size w w' -> ObL w' g i o tr fA fc) /\ TyAt w (Imm G) o.t tr /\ ListV w G (k, .fld i) o.fields fA fc := by
 obtain ⟨row, tr, fA, fc, hr, hx⟩ := h.get hi
 exact ⟨tr, fA, fc, fun w' hb => (h.own.old hb).loads hr (hx.same (fun b hl _ => hb.block b hl) fun b hl _ => hb.block b hl), hx.ty, hx.fld⟩
theorem BusR.loads {g : Nat} {rows : List (Array Value)} (h : BusR w G k bus g c rows) (hi : bus[i]? = some b) : ∃ eA ec, (∀ w', Below w.heap.size w w' -> BuL w' g i b eA ec) /\ ListV w G (k, .elm i) b.elems eA ec := by
 obtain ⟨row, eA, ec, hr, hx⟩ := h.get hi
 exact ⟨eA, ec, fun w' hb => (h.own.old hb).loadsB hr (hx.same (fun b hl _ => hb.block b hl) fun b hl _ => hb.block b hl), hx.elm⟩
theorem vnN {w0 : World} {D : Nat -> Prop} {v : Va} {p n : Nat} {row tr : Array Value} {A2 : Option Addr} {l2 c2 : Nat} {A3 : Option Addr} {l3 c3 : Nat} {t : TypeId} {fr : Nat × Nat} (hp : w.heap[p]? = some (.cells row t fr)) (HR : Hid (VRow w0 D v row tr A2 l2 c2 A3 l3 c3)) (HN : Hid (v.num = (n : Int))) : OneAt w 3 ⟨p, 1, none⟩ (.int .i64 (n : Int)) := by
 rw [<- HN.out]; exact vn hp HR
theorem ObsR.upd {g : Nat} {rows : List (Array Value)} (h : ObsR w G k obs g c rows) (hi : obs[i]? = some o) {row' tr' : Array Value} {fA' : Option Addr} {fc' : Nat} {o' : Ob} (hw : ∀ (j : Nat) (b : Nat), j ≠ i -> b < w.heap.size -> G b = some (k, .fld j) -> w'.heap[b]? = w.heap[b]?) (h2 : ∀ b, b < w.heap.size -> G b = none -> w'.heap[b]? = w.heap[b]?)
  (ho : OwnL w' 41 8 (some ⟨g, 0, none⟩) c (rows.set i row')) (h' : ObAt w' G k i o' row' tr' fA' fc') : ObsAt w' G k (obs.set i o') (some ⟨g, 0, none⟩) c := by
 have h1 := (List.getElem?_eq_some_iff.1 hi).1
 refine ⟨_, ho, by simp [h.len], fun g' e => by cases e; exact h.role, fun j x row hj hrj => ?_⟩
 by_cases e : i = j
 ·subst e
  rw [List.getElem?_set_self h1] at hj
  rw [List.getElem?_set_self (by have := h.len; omega)] at hrj
  cases hj; cases hrj
  exact ⟨_, _, _, h'⟩
 ·rw [List.getElem?_set_ne e] at hj hrj
  obtain ⟨tr, fA, fc, h3⟩ := h.all j x row hj hrj
  exact ⟨_, _, _, h3.same (fun b => hw j b fun e2 => e e2.symm) h2⟩
theorem BusR.upd {g : Nat} {rows : List (Array Value)} (h : BusR w G k bus g c rows) (hi : bus[i]? = some b) {row' : Array Value} {eA' : Option Addr} {ec' : Nat} {b' : Bu} (hw : ∀ (j : Nat) (b : Nat), j ≠ i -> b < w.heap.size -> G b = some (k, .elm j) -> w'.heap[b]? = w.heap[b]?) (h2 : ∀ b, b < w.heap.size -> G b = none -> w'.heap[b]? = w.heap[b]?)
  (ho : OwnL w' 97 2 (some ⟨g, 0, none⟩) c (rows.set i row')) (h' : BuAt w' G k i b' row' eA' ec') : BusAt w' G k (bus.set i b') (some ⟨g, 0, none⟩) c := by
 have h1 := (List.getElem?_eq_some_iff.1 hi).1
 refine ⟨_, ho, by simp [h.len], fun g' e => by cases e; exact h.role, fun j x row hj hrj => ?_⟩
 by_cases e : i = j
 ·subst e
  rw [List.getElem?_set_self h1] at hj
  rw [List.getElem?_set_self (by have := h.len; omega)] at hrj
  cases hj; cases hrj
  exact ⟨_, _, h'⟩
 ·rw [List.getElem?_set_ne e] at hj hrj
  obtain ⟨eA, ec, h3⟩ := h.all j x row hj hrj
  exact ⟨_, _, h3.same (fun b => hw j b fun e2 => e e2.symm) h2⟩
theorem Keep.cellOne (w : World) (g j : Nat) (v : Value) : Keep (fun b => b = g) w (w.setCell ⟨g, j, none⟩ v) := ⟨rfl, rfl, rfl, by simp, fun b _ hn => heap_setCell_other _ _ _ _ hn⟩
theorem ObsR.num {g : Nat} {rows : List (Array Value)} (h : ObsR w G k obs g c rows) (hi : obs[i]? = some o) {j : Nat} {x : Int} {o' : Ob} (ht : o'.t = o.t) (hf : o'.fields = o.fields)
  (hj : (j = 4 /\ o'.state = x /\ o'.count = o.count /\ o'.weak = o.weak) ∨ (j = 5 /\ o'.state = o.state /\ o'.count = x /\ o'.weak = o.weak) ∨ (j = 6 /\ o'.state = o.state /\ o'.count = o.count /\ o'.weak = x)) :
  ObsAt (w.setCell ⟨g, i * 8 + j, none⟩ (.int .i64 x)) G k (obs.set i o') (some ⟨g, 0, none⟩) c := by
 obtain ⟨row, tr, fA, fc, hr, hx⟩ := h.get hi
 have hs1 := (Keep.cellOne w g (i * 8 + j) (.int .i64 x)).block
 have hc := cell8_set hx.size o.state o.count o.weak fA o.fields.length fc x none 0 0
 have hne : ∀ b r, G b = some (k, r) -> r ≠ .arr -> b ≠ g := fun b r e hr e2 => by rw [e2, h.role] at e; cases e; exact hr rfl
 have hno : ∀ b, G b = none -> b ≠ g := fun b e e2 => by rw [e2, h.role] at e; cases e
 refine h.upd hi (fun j b _ hb e => hs1 b hb (hne b _ e (by simp))) (fun b hb e => hs1 b hb (hno b e)) (h.own.set hr (j := j) (by omega) _) (tr' := tr) (fA' := fA) (fc' := fc) ?_
 have h0 := hx.same (w' := w.setCell ⟨g, i * 8 + j, none⟩ (.int .i64 x)) (fun b hb e => hs1 b hb (hne b _ e (by simp))) (fun b hb e => hs1 b hb (hno b e))
 refine ⟨?_, by rw [ht]; exact h0.ty, by rw [hf]; exact h0.fld⟩
 rw [hx.eq, hf]
 rcases hj with ⟨rfl, e1, e2, e3⟩ | ⟨rfl, e1, e2, e3⟩ | ⟨rfl, e1, e2, e3⟩
 ·rw [hc.1, e1, e2, e3]
 ·rw [hc.2.1, e1, e2, e3]
 ·rw [hc.2.2.1, e1, e2, e3]
theorem BusR.num {g : Nat} {rows : List (Array Value)} (h : BusR w G k bus g c rows) (hi : bus[i]? = some b) {x : Int} {b' : Bu} (hf : b'.elems = b.elems) (hc : b'.count = x) :
  BusAt (w.setCell ⟨g, i * 2, none⟩ (.int .i64 x)) G k (bus.set i b') (some ⟨g, 0, none⟩) c := by
 obtain ⟨row, eA, ec, hr, hx⟩ := h.get hi
 have hs1 := (Keep.cellOne w g (i * 2 + 0) (.int .i64 x)).block
 have hne : ∀ b r, G b = some (k, r) -> r ≠ .bar -> b ≠ g := fun b r e hr e2 => by rw [e2, h.role] at e; cases e; exact hr rfl
 have hno : ∀ b, G b = none -> b ≠ g := fun b e e2 => by rw [e2, h.role] at e; cases e
 refine h.upd hi (fun j b _ hb e => hs1 b hb (hne b _ e (by simp))) (fun b hb e => hs1 b hb (hno b e)) (h.own.set hr (j := 0) (by omega) _) (eA' := eA) (ec' := ec) ?_
 have h0 := hx.same (w' := w.setCell ⟨g, i * 2 + 0, none⟩ (.int .i64 x)) (fun b hb e => hs1 b hb (hne b _ e (by simp))) (fun b hb e => hs1 b hb (hno b e))
 refine ⟨?_, by rw [hf]; exact h0.elm⟩
 rw [hx.eq, hf, hc]; rfl
end
section
variable {w w' : World} {G : Gh} {k p : Nat} {h : Hp} {oA : Option Addr} {oc : Nat} {bA : Option Addr} {bc m : Nat} {lA : Option Addr} {lc : Nat}
theorem HAt.obsC (hh : HAt w G k p h oA oc bA bc m lA lc) {obs : List Ob} (hl : obs.length = h.obs.length) (hs : ∀ b, b < w.heap.size -> (∃ r, G b = some (k, r) /\ r ≠ .arr /\ ∀ i, r ≠ .fld i) -> w'.heap[b]? = w.heap[b]?) (h2 : ∀ b, b < w.heap.size -> G b = none -> w'.heap[b]? = w.heap[b]?) (ho : ObsAt w' G k obs oA oc) : HAt w' G k p { h with obs := obs } oA oc bA bc m lA lc where
 blk := by rw [hs p (heap_lt hh.blk) ⟨_, hh.rp, by simp, by simp⟩]; show _ = some (Obj.cells (cellH oA obs.length oc bA h.bus.length bc m lA h.lev.length lc) 87 (0, 0)); rw [hl]; exact hh.blk
 rp := hh.rp
 rm := hh.rm
 obs := ho
 bus := hh.bus.same (fun b hb e => hs b hb (by rcases e with e | ⟨i, e⟩ <;> exact ⟨_, e, by simp, by simp⟩)) h2
 lev := hh.lev.same (fun b hb e => hs b hb (by rcases e with e | ⟨i, e⟩ <;> exact ⟨_, e, by simp, by simp⟩)) h2
 map := hh.map.same fun hl => hs m hl ⟨_, hh.rm, by simp, by simp⟩
theorem HAt.busC (hh : HAt w G k p h oA oc bA bc m lA lc) {bus : List Bu} (hl : bus.length = h.bus.length) (hs : ∀ b, b < w.heap.size -> (∃ r, G b = some (k, r) /\ r ≠ .bar /\ ∀ i, r ≠ .elm i) -> w'.heap[b]? = w.heap[b]?) (h2 : ∀ b, b < w.heap.size -> G b = none -> w'.heap[b]? = w.heap[b]?) (ho : BusAt w' G k bus bA bc) : HAt w' G k p { h with bus := bus } oA oc bA bc m lA lc where
 blk := by rw [hs p (heap_lt hh.blk) ⟨_, hh.rp, by simp, by simp⟩]; show _ = some (Obj.cells (cellH oA h.obs.length oc bA bus.length bc m lA h.lev.length lc) 87 (0, 0)); rw [hl]; exact hh.blk
 rp := hh.rp
 rm := hh.rm
 obs := hh.obs.same (fun b hb e => hs b hb (by rcases e with e | ⟨i, e⟩ <;> exact ⟨_, e, by simp, by simp⟩)) h2
 bus := ho
 lev := hh.lev.same (fun b hb e => hs b hb (by rcases e with e | ⟨i, e⟩ <;> exact ⟨_, e, by simp, by simp⟩)) h2
 map := hh.map.same fun hl => hs m hl ⟨_, hh.rm, by simp, by simp⟩
theorem HAt.setO (hh : HAt w G k p h oA oc bA bc m lA lc) {g i j : Nat} {rows : List (Array Value)} (hA : oA = some ⟨g, 0, none⟩) (hR : ObsR w G k h.obs g oc rows) {o o' : Ob} (hi : h.obs[i]? = some o) {x : Int} (ht : o'.t = o.t) (hf : o'.fields = o.fields)
  (hj : (j = 4 /\ o'.state = x /\ o'.count = o.count /\ o'.weak = o.weak) ∨ (j = 5 /\ o'.state = o.state /\ o'.count = x /\ o'.weak = o.weak) ∨ (j = 6 /\ o'.state = o.state /\ o'.count = o.count /\ o'.weak = x)) :
  HAt (w.setCell ⟨g, i * 8 + j, none⟩ (.int .i64 x)) G k p { h with obs := h.obs.set i o' } oA oc bA bc m lA lc := by
 have hs1 := (Keep.cellOne w g (i * 8 + j) (.int .i64 x)).block
 refine hh.obsC (by simp) (fun b hb e => hs1 b hb fun e2 => ?_) (fun b hb e => hs1 b hb fun e2 => by rw [e2, hR.role] at e; cases e) (by rw [hA]; exact hR.num hi ht hf hj)
 obtain ⟨r, e3, e4, -⟩ := e
 rw [e2, hR.role] at e3; cases e3; exact e4 rfl
theorem HAt.setB (hh : HAt w G k p h oA oc bA bc m lA lc) {g i : Nat} {rows : List (Array Value)} (hA : bA = some ⟨g, 0, none⟩) (hR : BusR w G k h.bus g bc rows) {b b' : Bu} (hi : h.bus[i]? = some b) {x : Int} (hf : b'.elems = b.elems) (hc : b'.count = x) :
  HAt (w.setCell ⟨g, i * 2, none⟩ (.int .i64 x)) G k p { h with bus := h.bus.set i b' } oA oc bA bc m lA lc := by
 have hs1 := (Keep.cellOne w g (i * 2) (.int .i64 x)).block
 refine hh.busC (by simp) (fun b hb e => hs1 b hb fun e2 => ?_) (fun b hb e => hs1 b hb fun e2 => by rw [e2, hR.role] at e; cases e) (by rw [hA]; exact hR.num hi hf hc)
 obtain ⟨r, e3, e4, -⟩ := e
 rw [e2, hR.role] at e3; cases e3; exact e4 rfl
theorem HAt.stO {g i : Nat} (hh : HAt w G k p h (some ⟨g, 0, none⟩) oc bA bc m lA lc) {o : Ob} (hi : h.obs[i]? = some o) (j : Nat) (hj : j < 8) : (w.cell? ⟨g, i * 8 + j, none⟩).isSome = true /\ w.frozen? ⟨g, i * 8 + j, none⟩ = false /\ G g = some (k, .arr) /\
  ∀ (x : Int) (o' : Ob), o'.t = o.t -> o'.fields = o.fields -> ((j = 4 /\ o'.state = x /\ o'.count = o.count /\ o'.weak = o.weak) ∨ (j = 5 /\ o'.state = o.state /\ o'.count = x /\ o'.weak = o.weak) ∨ (j = 6 /\ o'.state = o.state /\ o'.count = o.count /\ o'.weak = x)) -> HAt (w.setCell ⟨g, i * 8 + j, none⟩ (.int .i64 x)) G k p { h with obs := h.obs.set i o' } (some ⟨g, 0, none⟩) oc bA bc m lA lc := by
 obtain ⟨g', rows, e, hR⟩ := hh.obs.rows hi
 cases e
 obtain ⟨row, tr, fA, fc, hr, -⟩ := hR.get hi
 obtain ⟨h1, h2⟩ := hR.own.lies hr hj
 exact ⟨h1, h2, hR.role, fun x o' a b c => hh.setO rfl hR hi a b c⟩
theorem HAt.stB {g i : Nat} (hh : HAt w G k p h oA oc (some ⟨g, 0, none⟩) bc m lA lc) {b : Bu} (hi : h.bus[i]? = some b) : (w.cell? ⟨g, i * 2, none⟩).isSome = true /\ w.frozen? ⟨g, i * 2, none⟩ = false /\ G g = some (k, .bar) /\
  ∀ (x : Int) (b' : Bu), b'.elems = b.elems -> b'.count = x -> HAt (w.setCell ⟨g, i * 2, none⟩ (.int .i64 x)) G k p { h with bus := h.bus.set i b' } oA oc (some ⟨g, 0, none⟩) bc m lA lc := by
 obtain ⟨g', rows, e, hR⟩ := hh.bus.rows hi
 cases e
 obtain ⟨row, eA, ec, hr, -⟩ := hR.get hi
 obtain ⟨h1, h2⟩ := hR.own.lies hr (j := 0) (by omega)
 exact ⟨h1, h2, hR.role, fun x b' a c => hh.setB rfl hR hi a c⟩
end
open Go.RowKit Go.Proofs.Ytpamocglecangaa.Nm
set_option linter.unusedSimpArgs false
theorem res35 {fn : Func} {p : Tmp} (h : fn.results = #[.cell p 35]) (tmps : Array Value) (w : World) (g : Nat) (hp : tmps.getD p undef = .pointer (some ⟨g, 0, none⟩)) {row : Array Value} (hs : row.size = 9) (hg : w.heap[g]? = some (.cells row 35 (0, 0))) : (results fn tmps).run Try.prog w = .ok (.agg row) w := by
 have hp' : tmps[p]?.getD undef = .pointer (some ⟨g, 0, none⟩) := by simpa using hp
 have l1 : (loadVar 35 ⟨g, 0, none⟩).run Try.prog w = .ok (.agg row) w := by
  have : RowAt w 35 ⟨g, 0, none⟩ row := row_mid (n := 9) hg (by simp [<- hs]) u35 rfl hs info35
  unfold RowAt at this; exact this
 unfold results
 simp [h, hp', asAddr, l1, Result.andThen]
theorem res35t {fn : Func} {p q : Tmp} (h : fn.results = #[.cell p 35, .tmp q]) (tmps : Array Value) (w : World) (g : Nat) (hp : tmps.getD p undef = .pointer (some ⟨g, 0, none⟩)) {row : Array Value} {x : Value} (hq : tmps.getD q undef = x) (hs : row.size = 9) (hg : w.heap[g]? = some (.cells row 35 (0, 0))) : (results fn tmps).run Try.prog w = .ok (.tuple #[.agg row, x]) w := by
 have hp' : tmps[p]?.getD undef = .pointer (some ⟨g, 0, none⟩) := by simpa using hp
 have hq' : tmps[q]?.getD undef = x := by simpa using hq
 have l1 : (loadVar 35 ⟨g, 0, none⟩).run Try.prog w = .ok (.agg row) w := by
  have : RowAt w 35 ⟨g, 0, none⟩ row := row_mid (n := 9) hg (by simp [<- hs]) u35 rfl hs info35
  unfold RowAt at this; exact this
 unfold results
 simp [h, hp', hq', asAddr, l1, Result.andThen]
theorem res35tt {fn : Func} {p q r : Tmp} (h : fn.results = #[.cell p 35, .tmp q, .tmp r]) (tmps : Array Value) (w : World) (g : Nat) (hp : tmps.getD p undef = .pointer (some ⟨g, 0, none⟩)) {row : Array Value} {x y : Value} (hq : tmps.getD q undef = x) (hr : tmps.getD r undef = y) (hs : row.size = 9) (hg : w.heap[g]? = some (.cells row 35 (0, 0))) : (results fn tmps).run Try.prog w = .ok (.tuple #[.agg row, x, y]) w := by
 have hp' : tmps[p]?.getD undef = .pointer (some ⟨g, 0, none⟩) := by simpa using hp
 have hq' : tmps[q]?.getD undef = x := by simpa using hq
 have hr' : tmps[r]?.getD undef = y := by simpa using hr
 have l1 : (loadVar 35 ⟨g, 0, none⟩).run Try.prog w = .ok (.agg row) w := by
  have : RowAt w 35 ⟨g, 0, none⟩ row := row_mid (n := 9) hg (by simp [<- hs]) u35 rfl hs info35
  unfold RowAt at this; exact this
 unfold results
 simp [h, hp', hq', hr', asAddr, l1, Result.andThen]
theorem Levels_any {G : Gh} {k p : Nat} {h : Hp} {w : World} {oA : Option Addr} {oc : Nat} {bA : Option Addr} {bc m : Nat} {lA : Option Addr} {lc : Nat} (hh : HAt w G k p h oA oc bA bc m lA lc) :
  Calls Try.prog 39 #[.pointer (some ⟨p, 0, none⟩)] w fun e w' => e = .returned (.int .i64 (h.lev.length : Int)) /\ Below w.heap.size w w' := by
 have hb := Below.refl w.heap.size w
 have hp := hh.blk
 clear hh
 go_enter Try.func39, Try.ntmps39
 go_upto_region 0 with fail
 apply Zl
 refine Zm ?_
 go_upto_region 1 with fail
 apply Zl
 iterate 2 refine Zm ?_
 go_upto_region 3 with fail
 apply Zl
 iterate 3 refine Zm ?_
 refine Zo rfl (h3 (by assumption)) ?_
 iterate 2 refine Zm ?_
 clear hp
 go_wp2_with fail
 go_ret
 exact ⟨rfl, hb⟩
def arrV (nb : Nat) (v : Va) : Bool := decide (v.kind = 8 /\ 0 <= v.num /\ v.num < (nb : Int))
theorem array_any {p no nb : Nat} (hno : no <= maxLen) (hnb : nb <= maxLen) {v : Va} {w : World} {D : Nat -> Prop} {row : Array Value} (hv : VAt w D v row) (hh : Hdr w p no nb) :
  Calls Try.prog 78 #[.pointer (some ⟨p, 0, none⟩), .agg row] w fun e w' => e = .returned (.bool (arrV nb v)) /\ Below w.heap.size w w' := by
 obtain ⟨tr, A2, l2, c2, A3, l3, c3, hr⟩ := hv.row
 have HR := Zi hr
 have HO := Zi (of_any p no nb hno hnb v)
 have HV := Zi hv
 have hb := Below.refl w.heap.size w
 obtain ⟨oA, oc, bA, bc, m, lA, ll, lc, hh⟩ := hh
 clear hv hr hno hnb
 go_enter Try.func78, Try.ntmps78
 go_upto_region 0 with fail
 apply Zl
 have lthhq := heap_lt hh; (with_reducible refine wl_boxV rfl ?_); intro W q hbn hlq hq; replace hh := below_look hbn hh; replace hb := hb.trans (hbn.mono hb.size); clear hbn; simp only [Zq]
 refine Zm ?_
 have hp := hq
 clear hq
 have HC := Zi (HO.out W D row (HV.out.old hb) ⟨_, _, _, _, _, _, _, _, hh⟩)
 clear HO
 by_cases h8 : v.kind = 8
 ·have e8 : (v.kind == 8) = true := by simp [h8]
  have HD : Hid (ofV no nb v = arrV nb v) := Zi (by rw [ofV_eq, if_neg (by omega), if_pos h8]; simp [arrV, h8])
  clear h8
  go_upto_region 1 with fail
  apply Zl
  iterate 4 refine Zm ?_
  refine Zo rfl (vk (by assumption) (by assumption)) ?_
  iterate 4 refine Zm ?_
  refine Zw rfl (vrow (by assumption) (by assumption)) ?_
  refine Zn HC.out ?_; rintro e w7 ⟨rfl, hb7⟩; refine ⟨_, rfl, ?_⟩; simp only [Zq]
  iterate 2 refine Zm ?_
  replace hb := hb.trans (hb7.mono hb.size)
  clear hb7 HC hh hp
  go_wp2_with fail
  go_ret
  exact ⟨by rw [<- HD.out]; rfl, hb⟩
 ·have e8 : (v.kind == 8) = false := by simp [h8]
  have HD : Hid (false = arrV nb v) := Zi (by simp [arrV, h8])
  clear h8
  go_upto_region 1 with fail
  apply Zl
  iterate 4 refine Zm ?_
  refine Zo rfl (vk (by assumption) (by assumption)) ?_
  iterate 3 refine Zm ?_
  iterate 3 ((first | ((with_reducible refine wl_skipU ?_ ?_ ?_); exact rfl; exact rfl) | ((with_reducible refine wl_skip ?_ ?_); exact rfl; simp only [Zq])))
  iterate 2 refine Zm ?_
  clear HC hh hp
  go_wp2_with fail
  go_ret
  exact ⟨by rw [<- HD.out]; rfl, hb⟩
def placeE (h : Hp) (o f : Int) : Int := match (if 0 <= o then h.obs[o.toNat]? else none) with | none => 1 | some ob => if 0 <= f /\ f < (ob.fields.length : Int) then (if ob.state = 3 then 141 else 0) else 1
theorem place_any {G : Gh} {k p : Nat} {h : Hp} {w : World} {oA : Option Addr} {oc : Nat} {bA : Option Addr} {bc m : Nat} {lA : Option Addr} {lc : Nat} (hh : HAt w G k p h oA oc bA bc m lA lc) (o f : Int) (ho : (Lit.int .i64 o).wf = true) (hf : (Lit.int .i64 f).wf = true) :
  Calls Try.prog 77 #[.pointer (some ⟨p, 0, none⟩), .int .i64 o, .int .i64 f] w fun e w' => e = .returned (.int .i64 (placeE h o f)) /\ Below w.heap.size w w' := by
 have hb := Below.refl w.heap.size w
 have hp := hh.blk
 have HH := Zi hh
 clear hh ho hf
 go_enter Try.func77, Try.ntmps77
 go_upto_region 0 with fail
 apply Zl
 refine Zm ?_
 by_cases h1 : 0 <= o
 ·obtain ⟨n, rfl⟩ : ∃ n : Nat, o = (n : Int) := ⟨o.toNat, by omega⟩
  have h1I : ¬ (n : Int) < 0 := by omega
  by_cases h2 : n < h.obs.length
  ·have h2I : ¬ (n : Int) ≥ (h.obs.length : Int) := by omega
   have h2J : (n : Int) < (h.obs.length : Int) := by omega
   have ho := List.getElem?_eq_getElem h2
   obtain ⟨ob, hoe⟩ : ∃ ob, ob = h.obs[n] := ⟨_, rfl⟩
   rw [<- hoe] at ho
   obtain ⟨g, rows, rfl, hR⟩ := HH.out.obs.rows ho
   obtain ⟨tr0, fA, fc, hL, -, -⟩ := hR.loads ho
   have HL := Zi hL
   have HL0 := Zi (hL w (Below.refl _ _))
   have HE : Hid (placeE h (n : Int) f = if 0 <= f /\ f < (ob.fields.length : Int) then (if ob.state = 3 then 141 else 0) else 1) := Zi (by simp [placeE, ho])
   clear hL hR hoe HH ho
   by_cases h3 : 0 <= f
   ·have h3I : ¬ f < 0 := by omega
    by_cases h4 : f < (ob.fields.length : Int)
    ·have h4I : ¬ f ≥ (ob.fields.length : Int) := by omega
     have HE2 : Hid (placeE h (n : Int) f = if ob.state = 3 then 141 else 0) := Zi (by rw [HE.out, if_pos ⟨h3, h4⟩])
     clear h3 h4 HE h1
     go_upto_region 1 with fail
     apply Zl
     iterate 7 refine Zm ?_
     refine Zo rfl (h0 (by assumption)) ?_
     iterate 12 refine Zm ?_
     refine Zo rfl (h0 (by assumption)) ?_
     iterate 3 refine Zm ?_
     refine Zo rfl (HL0.out.f) ?_
     iterate 4 refine Zm ?_
     go_upto_region 3 with fail
     apply Zl
     iterate 3 refine Zm ?_
     refine Zo rfl (h0 (by assumption)) ?_
     iterate 3 refine Zm ?_
     refine Zo rfl (HL0.out.s) ?_
     iterate 2 refine Zm ?_
     clear HL HL0 hp
     by_cases h5 : ob.state = 3
     ·have e5 : (ob.state == 3) = true := by simp [h5]
      rw [if_pos h5] at HE2
      clear h5
      go_upto_region 4 with fail
      apply Zl
      refine Zm ?_
      go_wp2_with fail
      go_ret
      exact ⟨by rw [HE2.out]; rfl, hb⟩
     ·have e5 : (ob.state == 3) = false := by simp [h5]
      rw [if_neg h5] at HE2
      clear h5
      go_upto_region 5 with fail
      apply Zl
      refine Zm ?_
      go_wp2_with fail
      go_ret
      exact ⟨by rw [HE2.out]; rfl, hb⟩
    ·have h4I : f ≥ (ob.fields.length : Int) := by omega
     have HE2 : Hid (placeE h (n : Int) f = 1) := Zi (by rw [HE.out, if_neg (fun c => h4 c.2)])
     clear h3 h4 HE h1
     go_upto_region 1 with fail
     apply Zl
     iterate 7 refine Zm ?_
     refine Zo rfl (h0 (by assumption)) ?_
     iterate 12 refine Zm ?_
     refine Zo rfl (h0 (by assumption)) ?_
     iterate 3 refine Zm ?_
     refine Zo rfl (HL0.out.f) ?_
     iterate 4 refine Zm ?_
     clear HL HL0 hp
     go_upto_region 2 with fail
     apply Zl
     refine Zm ?_
     go_wp2_with fail
     go_ret
     exact ⟨by rw [HE2.out]; rfl, hb⟩
   ·have h3I : f < 0 := by omega
    have HE2 : Hid (placeE h (n : Int) f = 1) := Zi (by rw [HE.out, if_neg (fun c => h3 c.1)])
    clear h3 HE h1
    go_upto_region 1 with fail
    apply Zl
    iterate 7 refine Zm ?_
    refine Zo rfl (h0 (by assumption)) ?_
    iterate 8 refine Zm ?_
    iterate 11 ((first | ((with_reducible refine wl_skipU ?_ ?_ ?_); exact rfl; exact rfl) | ((with_reducible refine wl_skip ?_ ?_); exact rfl; simp only [Zq])))
    iterate 2 refine Zm ?_
    clear HL HL0 hp
    go_upto_region 2 with fail
    apply Zl
    refine Zm ?_
    go_wp2_with fail
    go_ret
    exact ⟨by rw [HE2.out]; rfl, hb⟩
  ·have h2I : (n : Int) ≥ (h.obs.length : Int) := by omega
   have HE2 : Hid (placeE h (n : Int) f = 1) := Zi (by simp [placeE, List.getElem?_eq_none (by omega : h.obs.length <= n)])
   clear h1 HH
   go_upto_region 1 with fail
   apply Zl
   iterate 7 refine Zm ?_
   refine Zo rfl (h0 (by assumption)) ?_
   iterate 4 refine Zm ?_
   iterate 2 ((first | ((with_reducible refine wl_skipU ?_ ?_ ?_); exact rfl; exact rfl) | ((with_reducible refine wl_skip ?_ ?_); exact rfl; simp only [Zq])))
   iterate 2 refine Zm ?_
   iterate 11 ((first | ((with_reducible refine wl_skipU ?_ ?_ ?_); exact rfl; exact rfl) | ((with_reducible refine wl_skip ?_ ?_); exact rfl; simp only [Zq])))
   iterate 2 refine Zm ?_
   clear hp
   go_upto_region 2 with fail
   apply Zl
   refine Zm ?_
   go_wp2_with fail
   go_ret
   exact ⟨by rw [HE2.out]; rfl, hb⟩
 ·have h1I : o < 0 := by omega
  have HE2 : Hid (placeE h o f = 1) := Zi (by simp [placeE, h1])
  clear h1 HH hp
  go_upto_region 1 with fail
  apply Zl
  iterate 3 refine Zm ?_
  iterate 7 ((first | ((with_reducible refine wl_skipU ?_ ?_ ?_); exact rfl; exact rfl) | ((with_reducible refine wl_skip ?_ ?_); exact rfl; simp only [Zq])))
  iterate 2 refine Zm ?_
  iterate 2 ((first | ((with_reducible refine wl_skipU ?_ ?_ ?_); exact rfl; exact rfl) | ((with_reducible refine wl_skip ?_ ?_); exact rfl; simp only [Zq])))
  iterate 2 refine Zm ?_
  iterate 11 ((first | ((with_reducible refine wl_skipU ?_ ?_ ?_); exact rfl; exact rfl) | ((with_reducible refine wl_skip ?_ ?_); exact rfl; simp only [Zq])))
  iterate 2 refine Zm ?_
  go_upto_region 2 with fail
  apply Zl
  refine Zm ?_
  go_wp2_with fail
  go_ret
  exact ⟨by rw [HE2.out]; rfl, hb⟩
def aloneE (h : Hp) (v x : Va) : Int := if arrV h.bus.length v && ofV h.obs.length h.bus.length x then (match h.bus[v.num.toNat]? with | some b => if b.count = 0 then 140 else if b.count > 1 then 141 else 0 | none => 4) else 4
theorem HAt.lens {w : World} {G : Gh} {k p : Nat} {h : Hp} {oA : Option Addr} {oc : Nat} {bA : Option Addr} {bc m : Nat} {lA : Option Addr} {lc : Nat} (hh : HAt w G k p h oA oc bA bc m lA lc) : h.obs.length <= oc /\ oc <= maxLen /\ h.bus.length <= bc /\ bc <= maxLen /\ h.lev.length <= lc /\ lc <= maxLen := by
 obtain ⟨r1, g1, e1, -⟩ := hh.obs
 obtain ⟨r2, g2, e2, -⟩ := hh.bus
 obtain ⟨r3, g3, e3, -⟩ := hh.lev
 exact ⟨by rw [<- e1]; exact g1.cap, g1.max, by rw [<- e2]; exact g2.cap, g2.max, by rw [<- e3]; exact g3.cap, g3.max⟩
theorem HAt.hdr {w : World} {G : Gh} {k p : Nat} {h : Hp} {oA : Option Addr} {oc : Nat} {bA : Option Addr} {bc m : Nat} {lA : Option Addr} {lc : Nat} (hh : HAt w G k p h oA oc bA bc m lA lc) : Hdr w p h.obs.length h.bus.length := ⟨_, _, _, _, _, _, _, _, hh.blk⟩
theorem of_heap {w : World} {G : Gh} {k p : Nat} {h : Hp} {oA : Option Addr} {oc : Nat} {bA : Option Addr} {bc m : Nat} {lA : Option Addr} {lc : Nat} (hh : HAt w G k p h oA oc bA bc m lA lc) {D : Nat -> Prop} {v : Va} {row : Array Value} (hv : VAt w D v row) : Calls Try.prog 73 #[.pointer (some ⟨p, 0, none⟩), .agg row] w fun e w' => e = .returned (.bool (ofV h.obs.length h.bus.length v)) /\ Below w.heap.size w w' :=
 of_any p _ _ (Nat.le_trans hh.lens.1 hh.lens.2.1) (Nat.le_trans hh.lens.2.2.1 hh.lens.2.2.2.1) v w D row hv hh.hdr
theorem array_heap {w : World} {G : Gh} {k p : Nat} {h : Hp} {oA : Option Addr} {oc : Nat} {bA : Option Addr} {bc m : Nat} {lA : Option Addr} {lc : Nat} (hh : HAt w G k p h oA oc bA bc m lA lc) {D : Nat -> Prop} {v : Va} {row : Array Value} (hv : VAt w D v row) : Calls Try.prog 78 #[.pointer (some ⟨p, 0, none⟩), .agg row] w fun e w' => e = .returned (.bool (arrV h.bus.length v)) /\ Below w.heap.size w w' :=
 array_any (Nat.le_trans hh.lens.1 hh.lens.2.1) (Nat.le_trans hh.lens.2.2.1 hh.lens.2.2.2.1) hv hh.hdr
theorem row35 {w : World} {q : Nat} {row : Array Value} {t : TypeId} {fr : Nat × Nat} (h : w.heap[q]? = some (.cells row t fr)) (hs : row.size = 9) : RowAt w 35 ⟨q, 0, none⟩ row := row_mid (n := 9) h (by simp [<- hs]) u35 rfl hs info35
theorem arrV.get {h : Hp} {v : Va} (ha : arrV h.bus.length v = true) : ∃ (n : Nat) (b : Bu), v.kind = 8 /\ v.num = (n : Int) /\ n < h.bus.length /\ h.bus[n]? = some b := by
 have := of_decide_eq_true ha
 exact ⟨v.num.toNat, h.bus[v.num.toNat]'(by omega), this.1, by omega, by omega, List.getElem?_eq_getElem _⟩
theorem alone_any {G : Gh} {k p : Nat} {h : Hp} {w : World} {oA : Option Addr} {oc : Nat} {bA : Option Addr} {bc m : Nat} {lA : Option Addr} {lc : Nat} (hh : HAt w G k p h oA oc bA bc m lA lc) {v x : Va} {D : Nat -> Prop} {row rowx : Array Value} (hv : VAt w D v row) (hx : VAt w D x rowx) :
  Calls Try.prog 79 #[.pointer (some ⟨p, 0, none⟩), .agg row, .agg rowx] w fun e w' => e = .returned (.int .i64 (aloneE h v x)) /\ Below w.heap.size w w' := by
 obtain ⟨tr, A2, l2, c2, A3, l3, c3, hr⟩ := hv.row
 have HR := Zi hr
 have HH := Zi hh
 have HV := Zi hv
 have HX := Zi hx
 have hs1 := hv.size
 have hs2 := hx.size
 have hb := Below.refl w.heap.size w
 have hh0 := hh.blk
 clear hv hx hr hh
 have hh := hh0
 clear hh0
 go_enter Try.func79, Try.ntmps79
 go_upto_region 0 with fail
 apply Zl
 have lthhq := heap_lt hh; (with_reducible refine wl_boxV rfl ?_); intro W q hbn hlq hq; replace hh := below_look hbn hh; replace hb := hb.trans (hbn.mono hb.size); clear hbn; simp only [Zq]
 have lthhqx := heap_lt hh; have lthqqx := heap_lt hq; (with_reducible refine wl_boxV rfl ?_); intro W2 qx hbn hlqx hqx; replace hh := below_look hbn hh; replace hq := below_look hbn hq; replace hb := hb.trans (hbn.mono hb.size); clear hbn; simp only [Zq]
 refine Zm ?_
 have hp := hq
 clear hq
 obtain ⟨ba, hba⟩ : ∃ b, b = arrV h.bus.length v := ⟨_, rfl⟩
 obtain ⟨bo, hbo⟩ : ∃ b, b = ofV h.obs.length h.bus.length x := ⟨_, rfl⟩
 have hc := array_heap (HH.out.old hb) (HV.out.old hb)
 rw [<- hba] at hc
 have HC := Zi hc
 clear hc
 go_upto_region 1 with fail
 cases ba with
 | false =>
  have HD : Hid (aloneE h v x = 4) := Zi (by unfold aloneE; rw [<- hba]; rfl)
  clear hba hbo HH HX
  apply Zl
  refine Zm ?_
  refine Zw rfl (row35 hp hs1) ?_
  refine Zn HC.out ?_; rintro e w7 ⟨rfl, hb7⟩; refine ⟨_, rfl, ?_⟩; simp only [Zq]
  iterate 2 refine Zm ?_
  iterate 4 ((first | ((with_reducible refine wl_skipU ?_ ?_ ?_); exact rfl; exact rfl) | ((with_reducible refine wl_skip ?_ ?_); exact rfl; simp only [Zq])))
  iterate 2 refine Zm ?_
  replace hb := hb.trans (hb7.mono hb.size)
  clear hb7 HC hh hp hqx
  go_upto_region 2 with fail
  apply Zl
  refine Zm ?_
  go_wp2_with fail
  go_ret
  exact ⟨by rw [HD.out]; rfl, hb⟩
 | true =>
  have HBA := Zi hba
  have HBO := Zi hbo
  clear hba hbo
  apply Zl
  refine Zm ?_
  refine Zw rfl (row35 hp hs1) ?_
  refine Zn HC.out ?_; rintro e w7 ⟨rfl, hb7⟩; refine ⟨_, rfl, ?_⟩; simp only [Zq]
  replace hh := below_look hb7 hh; replace hp := below_look hb7 hp; replace hqx := below_look hb7 hqx; replace hb := hb.trans (hb7.mono hb.size); clear hb7
  have hc := of_heap (HH.out.old hb) (HX.out.old hb)
  rw [<- HBO.out] at hc
  clear HC
  have HC := Zi hc
  clear hc
  cases bo with
  | false =>
   have HD : Hid (aloneE h v x = 4) := Zi (by unfold aloneE; rw [<- HBA.out, <- HBO.out]; rfl)
   clear HH HX
   iterate 3 refine Zm ?_
   refine Zw rfl (row35 hqx hs2) ?_
   refine Zn HC.out ?_; rintro e w8 ⟨rfl, hb8⟩; refine ⟨_, rfl, ?_⟩; simp only [Zq]
   iterate 3 refine Zm ?_
   replace hb := hb.trans (hb8.mono hb.size)
   clear hb8 HC hh hp hqx
   go_upto_region 2 with fail
   apply Zl
   refine Zm ?_
   go_wp2_with fail
   go_ret
   exact ⟨by rw [HD.out]; rfl, hb⟩
  | true =>
   iterate 3 refine Zm ?_
   refine Zw rfl (row35 hqx hs2) ?_
   refine Zn HC.out ?_; rintro e w8 ⟨rfl, hb8⟩; refine ⟨_, rfl, ?_⟩; simp only [Zq]
   iterate 3 refine Zm ?_
   replace hh := below_look hb8 hh; replace hp := below_look hb8 hp; replace hb := hb.trans (hb8.mono hb.size); clear hb8
   clear HC hqx
   obtain ⟨n, o, h8, hn, hnl, ho⟩ := arrV.get HBA.out.symm
   have hnlI : (n : Int) < (h.bus.length : Int) := by omega
   obtain ⟨g, rows, rfl, hR⟩ := (HH.out.old hb).bus.rows ho
   obtain ⟨fA, fc, hL, -⟩ := hR.loads ho
   have HL := Zi hL
   have HD : Hid (aloneE h v x = if o.count = 0 then 140 else if o.count > 1 then 141 else 0) := Zi (by unfold aloneE; rw [<- HBA.out, <- HBO.out, hn]; simp [ho])
   have HN := Zi hn
   clear h8 hn ho hR hL
   go_upto_region 3 with fail
   refine wp_region_belowAll mixed (by kernel_rfl) ?_
   iterate 3 refine Zt ?_
   refine Zv rfl (fun w' hw' => h1 (below_look hw' (by assumption))) ?_
   refine Zt ?_
   refine Zv rfl (fun w' hw' => vnN (below_look hw' (by assumption)) (by assumption) (by assumption)) ?_
   iterate 2 refine Zt ?_
   refine Zv rfl (fun w' hw' => (HL.out w' hw').c) ?_
   iterate 2 refine Zt ?_
   intro w9 hb9
   have HL9 := Zi (fun w' hw => HL.out w' (hb9.trans (Below.mono hw hb9.size)))
   replace hh := below_look hb9 hh; replace hp := below_look hb9 hp; replace hb := hb.trans (hb9.mono hb.size); clear hb9
   clear HL
   have HL := HL9
   by_cases c0 : o.count = 0
   ·have e0 : (o.count == 0) = true := by simp [c0]
    rw [if_pos c0] at HD
    clear c0 HL HL9
    go_upto_region 4 with fail
    apply Zl
    refine Zm ?_
    go_wp2_with fail
    go_ret
    exact ⟨by rw [HD.out]; rfl, hb⟩
   ·have e0 : (o.count == 0) = false := by simp [c0]
    rw [if_neg c0] at HD
    clear c0 HL9
    go_upto_region 5 with fail
    by_cases c1 : o.count > 1
    ·have h1I : (1 : Int) < o.count := c1
     rw [if_pos c1] at HD
     refine wp_region_belowAll mixed (by kernel_rfl) ?_
     iterate 3 refine Zt ?_
     refine Zv rfl (fun w' hw' => h1 (below_look hw' (by assumption))) ?_
     refine Zt ?_
     refine Zv rfl (fun w' hw' => vnN (below_look hw' (by assumption)) (by assumption) (by assumption)) ?_
     iterate 2 refine Zt ?_
     refine Zv rfl (fun w' hw' => (HL.out w' hw').c) ?_
     iterate 2 refine Zt ?_
     intro w10 hb10
     replace hb := hb.trans (hb10.mono hb.size)
     clear hb10 HL hh hp
     go_upto_region 6 with fail
     apply Zl
     refine Zm ?_
     go_wp2_with fail
     go_ret
     exact ⟨by rw [HD.out]; rfl, hb⟩
    ·have h1I : ¬ (1 : Int) < o.count := c1
     rw [if_neg c1] at HD
     refine wp_region_belowAll mixed (by kernel_rfl) ?_
     iterate 3 refine Zt ?_
     refine Zv rfl (fun w' hw' => h1 (below_look hw' (by assumption))) ?_
     refine Zt ?_
     refine Zv rfl (fun w' hw' => vnN (below_look hw' (by assumption)) (by assumption) (by assumption)) ?_
     iterate 2 refine Zt ?_
     refine Zv rfl (fun w' hw' => (HL.out w' hw').c) ?_
     iterate 2 refine Zt ?_
     intro w10 hb10
     replace hb := hb.trans (hb10.mono hb.size)
     clear hb10 HL hh hp
     go_upto_region 7 with fail
     apply Zl
     refine Zm ?_
     go_wp2_with fail
     go_ret
     exact ⟨by rw [HD.out]; rfl, hb⟩
end Go.Proofs.Ytpamocglecangaa
