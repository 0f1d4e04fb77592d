/- The solver's map: an entry laid, an entry changed, a step through the entries; what binding does to what is known. Which variables a tree has, by the program's Vars; Contains; the steps of the loop over the solver's map. The solver's binding: plain, and the steps of its walk. -/
import Derived.Test.YtokmaehefenpmaaDoorPD2
import Derived.Test.YtokmaehefenpmaaDoorPD3
namespace Go.Proofs.YtokmaehefenpmaaDoor
open Go.RowKit Go.ChangeMaps Go.Proofs.YtokmaehefenpmaaDoor.Nm
theorem run_new90 {r : Nat} {es : Array MapEntry} {c : Nat} {k : Int} {v : Value} (w : World) (hb : w.heap[r]? = some (.map es c)) (hf : Instr.findNow (.int .i64) (.int .i64 k) es.toList 0 = some none) :
    (Instr.mapUpdate 90 (.map (some r)) (.int .i64 k) v).run Tryd.prog w = .ok () { w with heap := w.heap.setIfInBounds r (.map (es.push { key := .int .i64 k, val := v, born := c }) (c + 1)) } := by
  unfold Instr.mapUpdate
  simp only [Sem.run_bind, run_underlying u90, Result.andThen, MapKept.run_getObj_map hb, MapKept.run_checkKey u3 (k := .int .i64 k) (by simp [MapKept.IsKey]) false 9999, MapKept.run_findKey u3 hf, MapKept.run_setObj_map _ hb]
theorem run_upd90 {r : Nat} {es : Array MapEntry} {c : Nat} {k : Int} {v x : Value} {j : Nat} {e : MapEntry} (w : World) (hb : w.heap[r]? = some (.map es c)) (hf : Instr.findNow (.int .i64) (.int .i64 k) es.toList 0 = some (some (j, x))) (hj : es[j]? = some e) (hk : e.key = .int .i64 k) :
    (Instr.mapUpdate 90 (.map (some r)) (.int .i64 k) v).run Tryd.prog w = .ok () { w with heap := w.heap.setIfInBounds r (.map (es.modify j fun e => { e with key := .int .i64 k, val := v }) c) } := by
  unfold Instr.mapUpdate
  simp [Sem.run_bind, run_underlying u90, Result.andThen, MapKept.run_getObj_map hb, MapKept.run_checkKey u3 (k := .int .i64 k) (by simp [MapKept.IsKey]) false 9999, MapKept.run_findKey u3 hf, hj, hk, MapKept.run_keyThatStays (d := .int .i64) (k := .int .i64 k) (by simp [MapKept.IsKey]), MapKept.run_setObj_map _ hb]
def setMap (w : World) (q : Nat) (o : Obj) : World := { w with heap := w.heap.setIfInBounds q o }
theorem setMap_new {w : World} {q : Nat} {o o' : Obj} (hb : w.heap[q]? = some o) : (setMap w q o').heap[q]? = some o' := (MapKept.heap_set hb).1
theorem setMap_old {w : World} {q : Nat} {o o' : Obj} (hb : w.heap[q]? = some o) {p : Nat} (hp : p ≠ q) : (setMap w q o').heap[p]? = w.heap[p]? := (MapKept.heap_set hb).2 p hp
theorem setMap_size (w : World) (q : Nat) (o : Obj) : (setMap w q o).heap.size = w.heap.size := by simp [setMap]
theorem setMap_keep {w : World} {q : Nat} {o o' : Obj} (hb : w.heap[q]? = some o) : Keep (fun b => b = q) w (setMap w q o') := ⟨rfl, rfl, rfl, by rw [setMap_size]; omega, fun b _ hn => setMap_old hb hn⟩
theorem tree_keep {w w' : World} {q : Nat} {t : Ty} {row : Array Value} (h : TyAt w (fun b => b ≠ q) t row) (hk : Keep (fun b => b = q) w w') : TyAt w' (fun b => b ≠ q) t row := h.keep hk fun _ h e => h e
/-- A new entry. -/
theorem MapR.new {w : World} {q : Nat} {f : Nat → Option Ty} {es : Array MapEntry} {c : Nat} (h : MapR w q f es c) {v : Nat} (hv : f v = none) {t : Ty} {row : Array Value} (ht : TyAt w (fun b => b ≠ q) t row) :
    MapR (setMap w q (.map (es.push { key := .int .i64 (v : Int), val := .agg row, born := c }) (c + 1))) q (fun x => if x = v then some t else f x) (es.push { key := .int .i64 (v : Int), val := .agg row, born := c }) (c + 1) := by
  have hm := (h.miss (k := (v : Int)) (fun v' e => by
    have e2 : v = v' := by omega
    rw [← e2]; exact hv)).2
  refine ⟨setMap_new h.blk, MapKept.stamped_push h.st hm, fun x hx => ?_, fun x t' hx => ?_⟩
  · simp only [Array.toList_push, List.mem_append, List.mem_singleton] at hx
    rcases hx with hx | rfl
    · obtain ⟨v', row', t', h1, h2, h3, h4⟩ := h.ent x hx
      have hne : v' ≠ v := fun e => by rw [e, hv] at h3; cases h3
      exact ⟨v', row', t', h1, h2, by rw [if_neg hne]; exact h3, tree_keep h4 (setMap_keep h.blk)⟩
    · exact ⟨v, row, t, rfl, rfl, if_pos rfl, tree_keep ht (setMap_keep h.blk)⟩
  · by_cases e : x = v
    · subst e
      exact ⟨{ key := .int .i64 (x : Int), val := .agg row, born := c }, by simp, rfl⟩
    · simp only [if_neg e] at hx
      obtain ⟨y, hy, hk⟩ := h.has x t' hx
      exact ⟨y, by simp [hy], hk⟩
/-- An entry changed. -/
theorem MapR.upd {w : World} {q : Nat} {f : Nat → Option Ty} {es : Array MapEntry} {c : Nat} (h : MapR w q f es c) {v j : Nat} {e : MapEntry} (hj : es[j]? = some e) (hk : e.key = .int .i64 (v : Int)) {t : Ty} {row : Array Value} (ht : TyAt w (fun b => b ≠ q) t row) :
    MapR (setMap w q (.map (es.modify j fun e => { e with key := .int .i64 (v : Int), val := .agg row }) c)) q (fun x => if x = v then some t else f x) (es.modify j fun e => { e with key := .int .i64 (v : Int), val := .agg row }) c := by
  have hmem : ∀ x, x ∈ (es.modify j fun e => { e with key := .int .i64 (v : Int), val := .agg row }).toList → (∃ y, es[j]? = some y ∧ x = { y with key := .int .i64 (v : Int), val := .agg row }) ∨ ∃ i, i ≠ j ∧ es[i]? = some x := fun x hx => by
    obtain ⟨i, hi⟩ := List.mem_iff_getElem?.1 hx
    rw [Array.getElem?_toList, Array.getElem?_modify] at hi
    split at hi
    · rename_i e2
      subst e2
      rw [hj] at hi
      exact Or.inl ⟨e, hj, by simpa using hi.symm⟩
    · rename_i e2
      exact Or.inr ⟨i, fun h => e2 h.symm, hi⟩
  have hnd := h.st.2.2
  refine ⟨setMap_new h.blk, MapKept.stamped_modify h.st _ _ (fun _ _ => rfl) (fun e' _ he' => by rw [hj] at he'; cases he'; exact hk.symm), fun x hx => ?_, fun x t' hx => ?_⟩
  · rcases hmem x hx with ⟨y, hy, rfl⟩ | ⟨i, hi, hx⟩
    · exact ⟨v, row, t, rfl, rfl, if_pos rfl, tree_keep ht (setMap_keep h.blk)⟩
    · obtain ⟨v', row', t', h1, h2, h3, h4⟩ := h.ent x (List.mem_of_getElem? (by rw [Array.getElem?_toList]; exact hx))
      have hne : v' ≠ v := fun e2 => hi (by
        have g1 : (es.toList.map (·.key))[i]? = some (.int .i64 (v : Int)) := by rw [List.getElem?_map, Array.getElem?_toList, hx, ← e2]; simp [h1]
        have g2 : (es.toList.map (·.key))[j]? = some (.int .i64 (v : Int)) := by rw [List.getElem?_map, Array.getElem?_toList, hj]; simp [hk]
        exact (List.getElem?_inj (List.getElem?_eq_some_iff.1 g1).1 hnd).1 (g1.trans g2.symm))
      exact ⟨v', row', t', h1, h2, by rw [if_neg hne]; exact h3, tree_keep h4 (setMap_keep h.blk)⟩
  · by_cases e2 : x = v
    · subst e2
      refine ⟨{ e with key := .int .i64 (x : Int), val := .agg row }, List.mem_of_getElem? (i := j) (by rw [Array.getElem?_toList, Array.getElem?_modify, if_pos rfl, hj]; rfl), rfl⟩
    · simp only [if_neg e2] at hx
      obtain ⟨y, hy, hk2⟩ := h.has x t' hx
      obtain ⟨i, hi⟩ := List.mem_iff_getElem?.1 hy
      rw [Array.getElem?_toList] at hi
      have hij : j ≠ i := fun e3 => by
        subst e3
        rw [hj] at hi; cases hi
        rw [hk] at hk2
        injection hk2 with _ g
        omega
      exact ⟨y, List.mem_of_getElem? (i := i) (by rw [Array.getElem?_toList, Array.getElem?_modify, if_neg hij]; exact hi), hk2⟩
theorem born_modify {es : Array MapEntry} {j : Nat} {k : Value} {row : Array Value} : (es.modify j fun e => { e with key := k, val := .agg row }).toList.map (·.born) = es.toList.map (·.born) := by
  apply List.ext_getElem?
  intro i
  simp only [List.getElem?_map, Array.getElem?_toList, Array.getElem?_modify]
  split
  · rename_i e; subst e
    cases es[j]? <;> rfl
  · rfl
theorem left_modify {es : Array MapEntry} {j : Nat} {k : Value} {row : Array Value} {seen : Array Nat} : (leftOf (es.modify j fun e => { e with key := k, val := .agg row }) seen).size = (leftOf es seen).size := by
  have key : ∀ a : Array MapEntry, (leftOf a seen).size = ((a.toList.map (·.born)).filter fun b => !seen.contains b).length := fun a => by
    unfold leftOf
    rw [← Array.length_toList, Array.toList_filter, List.filter_map, List.length_map]
    rfl
  rw [key, key, born_modify]
theorem left_len (es : Array MapEntry) (seen : Array Nat) : (leftOf es seen).size = (es.toList.filter fun e => !seen.contains e.born).length := by
  unfold leftOf
  rw [← Array.length_toList, Array.toList_filter]
theorem left_mem {es : Array MapEntry} {seen : Array Nat} {e : MapEntry} : e ∈ (leftOf es seen).toList ↔ e ∈ es.toList ∧ seen.contains e.born = false := by
  unfold leftOf
  rw [Array.toList_filter, List.mem_filter]
  simp
theorem left_push {es : Array MapEntry} {seen : Array Nat} {e : MapEntry} (he : e ∈ (leftOf es seen).toList) : (leftOf es (seen.push e.born)).size < (leftOf es seen).size := by
  rw [left_len, left_len]
  have h1 := left_mem.1 he
  refine filter_lt (fun x _ hx => ?_) ⟨e, h1.1, by rw [h1.2]; rfl, by simp⟩
  simp at hx ⊢
  exact hx.1
/-- What is known behind binding a variable, where some entries have been gone through. -/
def goneF (f : Nat → Option Ty) (v : Nat) (t : Ty) (P : Nat → Bool) (x : Nat) : Option Ty := if x = v then some t else if P x then (f x).map (sub1 v t) else f x
structure KnownX (m : Nat) (sol : List Ty) (f : Nat → Option Ty) : Prop extends Known m sol f where
  free : ∀ v, f v ≠ some (varT v)
theorem KnownX.none {m : Nat} {sol : List Ty} {f : Nat → Option Ty} (h : KnownX m sol f) (hg : Good m sol) {w : Nat} (hw : applyTy sol (varT w) = varT w) : f w = none := by
  cases hf : f w with
  | none => rfl
  | some u =>
    obtain ⟨h1, h2⟩ := h.dom w u hf
    have := app_var h2 (hg.fine u (List.mem_of_getElem? h2)).kind
    rw [this] at hw
    rw [hw] at hf
    exact absurd hf (h.free w)
/-- What is put in while the entries are gone through. -/
theorem gone_put {m : Nat} {sol : List Ty} {f : Nat → Option Ty} (h : KnownX m sol f) (hg : Good m sol) {v : Nat} {t : Ty} (P : Nat → Bool) : ∀ x, FineV m x → applyTy sol x = x → repl (selK (goneF f v t P)) x = sub1 v t x := FineV.ind (fun w hw hfix => by
    rw [sub1_var]
    by_cases e : w = v
    · subst e
      rw [if_pos rfl]
      exact repl_some (by simp [selK, varT, Ty.kind, Ty.num, goneF])
    · rw [if_neg e]
      have hn := h.none hg hfix
      unfold varT
      rw [repl_none (by simp [selK, Ty.kind, Ty.num, goneF, e, hn])]
      rfl) fun k s n l h1 _ _ ih hfix => by
  rw [sub1_node h1, repl_none (by simp [selK, Ty.kind, h1])]
  congr 1
  have hl := map_fix h1 hfix
  refine List.map_congr_left fun u hu => ih u hu ?_
  obtain ⟨i, hi, rfl⟩ := List.mem_iff_getElem.1 hu
  have := congrArg (fun x => x[i]?) hl
  simp only [List.getElem?_map, List.getElem?_eq_getElem hi, Option.map_some, Option.some.injEq] at this
  exact this
/-- What is known when all entries have been gone through. -/
theorem gone_all {m : Nat} {sol : List Ty} {f : Nat → Option Ty} (h : KnownX m sol f) (hg : Good m sol) {v : Nat} (hv : v < m) {t : Ty} (ht : FineV m t) (hne : t ≠ varT v) (hfix : applyTy sol t = t) (hvar : applyTy sol (varT v) = varT v) (P : Nat → Bool) (hP : ∀ x u, f x = some u → x ≠ v → P x = true) :
    KnownX m (sol.map (sub1 v t)) (goneF f v t P) := by
  have hfv := h.none hg hvar
  have hsv : sol[v]? = some (varT v) := h.rest v hv hfv
  refine ⟨⟨fun x u hx => ?_, fun x hx hn => ?_⟩, fun x hx => ?_⟩
  · unfold goneF at hx
    split at hx
    · rename_i e; subst e; cases hx
      exact ⟨hv, by rw [List.getElem?_map, hsv, Option.map_some, sub1_var, if_pos rfl]⟩
    · rename_i e
      cases hf : f x with
      | none => rw [hf] at hx; split at hx <;> cases hx
      | some y =>
        rw [hf, if_pos (hP x y hf e)] at hx
        cases hx
        obtain ⟨g1, g2⟩ := h.dom x y hf
        exact ⟨g1, by rw [List.getElem?_map, g2]; rfl⟩
  · unfold goneF at hn
    split at hn
    · cases hn
    · rename_i e
      cases hf : f x with
      | none => rw [List.getElem?_map, h.rest x hx hf, Option.map_some, sub1_var, if_neg e]
      | some y => rw [hf, if_pos (hP x y hf e)] at hn; cases hn
  · unfold goneF at hx
    split at hx
    · rename_i e; subst e; cases hx; exact hne rfl
    · rename_i e
      cases hf : f x with
      | none => rw [hf] at hx; split at hx <;> cases hx
      | some y =>
        rw [hf, if_pos (hP x y hf e)] at hx
        obtain ⟨g1, g2⟩ := h.dom x y hf
        have fy := hg.fine y (List.mem_of_getElem? g2)
        have hx : sub1 v t y = varT x := by simpa using hx
        rcases fy.cases with ⟨z, hz, e1⟩ | ⟨k, s, n, l, e1, k1, k0, -⟩
        · rw [e1, sub1_var] at hx
          split at hx
          · rename_i e2
            rw [hx] at hfix
            exact absurd (h.none hg hfix) (by rw [hf]; simp)
          · rw [hx] at e1
            rw [e1] at hf
            exact h.free x hf
        · rw [e1, sub1_node k1] at hx
          unfold varT at hx
          injection hx with q
          exact k1 q
end Go.Proofs.YtokmaehefenpmaaDoor
namespace Go.Proofs.YtokmaehefenpmaaDoor
open Go.RowKit Go.ChangeMaps Go.Proofs.YtokmaehefenpmaaDoor.Nm
set_option linter.unusedSimpArgs false
theorem mem_compactI {zs : List Int} {x : Int} : x ∈ Lib.compact zs ↔ x ∈ zs := by
  unfold Lib.compact Lib.compactUpTo
  simp only [List.mem_map, List.mem_filter, List.mem_range]
  constructor
  · rintro ⟨j, ⟨hj, -⟩, rfl⟩
    have : j < zs.toArray.size := by simpa using hj
    rw [getElem!_pos zs.toArray j this]
    simp
  · intro hx
    obtain ⟨j, hj⟩ := List.mem_iff_getElem?.1 hx
    have hjl := (List.getElem?_eq_some_iff.1 hj).1
    have key : ∀ j, j < zs.length → ∃ i, i < zs.length ∧ Lib.keeps zs.toArray i = true ∧ zs.toArray[i]! = zs.toArray[j]! := by
      intro j
      induction j with
      | zero => intro h; exact ⟨0, h, by simp [Lib.keeps], rfl⟩
      | succ j ih =>
        intro h
        cases hk : Lib.keeps zs.toArray (j + 1) with
        | true => exact ⟨j + 1, h, hk, rfl⟩
        | false =>
          obtain ⟨i, h1, h2, h3⟩ := ih (by omega)
          refine ⟨i, h1, h2, ?_⟩
          simp [Lib.keeps] at hk
          rw [h3]
          simp [hk]
    obtain ⟨i, h1, h2, h3⟩ := key j hjl
    refine ⟨i, ⟨h1, h2⟩, ?_⟩
    rw [h3]
    have : j < zs.toArray.size := by simpa using hjl
    rw [getElem!_pos zs.toArray j this]
    simpa using (List.getElem?_eq_some_iff.1 hj).2
theorem mem_distinctI {l : List Int} {x : Int} : x ∈ distinctI l ↔ x ∈ l := by
  unfold distinctI sortedI
  rw [mem_compactI, List.mem_mergeSort]
theorem vars_occ : ∀ (t : Ty) (ns : List Int) (v : Nat), (v : Int) ∈ (visit stepV t ns).2 ↔ (v : Int) ∈ ns ∨ t.occ v = true := Ty.ind fun k s n l ih ns v => by
  have hl : ∀ (l : List Ty), (∀ t, t ∈ l → ∀ (ns : List Int) (v : Nat), (v : Int) ∈ (visit stepV t ns).2 ↔ (v : Int) ∈ ns ∨ t.occ v = true) → ∀ ns : List Int, (v : Int) ∈ (visits stepV l ns).2 ↔ (v : Int) ∈ ns ∨ occs v l = true := by
    intro l
    induction l with
    | nil => intro _ ns; simp [visits, occs]
    | cons t l ihl =>
      intro h ns
      simp only [visits, occs]
      have h1 := (visit_lenV t ns).1
      have h2 := h t (by simp) ns v
      cases hv : visit stepV t ns with
      | mk b x =>
        rw [hv] at h1 h2
        cases h1
        simp only
        rw [ihl (fun t ht => h t (by simp [ht])) x, h2]
        simp [or_assoc]
  have hs : stepV (.node k s n l) ns = (true, (stepV (.node k s n l) ns).2) := rfl
  simp only [visit]
  rw [hs]
  simp only
  rw [hl l ih]
  simp only [Ty.occ, stepV, Ty.kind, Ty.num]
  by_cases hk : k = 12
  · simp only [hk, if_true, List.mem_append, List.mem_singleton]
    by_cases hn : n = (v : Int)
    · simp [hn]
    · have hn2 : ¬ (v : Int) = n := fun e => hn e.symm
      simp [hn, hn2]
  · simp [hk]
theorem vars_has (t : Ty) (v : Nat) : (distinctI (varsOf t)).contains (v : Int) = t.occ v := by
  rw [Bool.eq_iff_iff, List.contains_iff_mem, mem_distinctI]
  unfold varsOf
  rw [vars_occ]
  simp
theorem Contains_any (zs : List Int) (x : Int) (A : Option Addr) (l c : Nat) (w : World) (h : IxAt w zs A l c) : Calls Tryd.prog 120 #[.slice A l c, .int .i64 x] w fun e w' => e = .returned (.bool (zs.contains x)) ∧ w = w' := by
  obtain ⟨h1, h2, h3, h4⟩ := h
  unfold maxLen at h3
  cases zs with
  | nil =>
    obtain rfl : l = 0 := by simpa using h1.symm
    exact (Tryd.slices_Contains_int_empty A c x w).mono fun e w' ⟨he, hw⟩ => ⟨by rw [he]; simp, hw.symm⟩
  | cons z zs =>
    obtain ⟨b, off, rfl, -⟩ := h4 0 z rfl
    have := Tryd.slices_Contains_int b off l c (z :: zs) x w (by omega) (by omega) (fun j hj => by
      have hz : (z :: zs)[j]? = some ((z :: zs).getD j 0) := by rw [List.getD_eq_getElem?_getD, List.getElem?_eq_getElem hj]; rfl
      obtain ⟨b', off', e, hc⟩ := h4 j _ hz
      cases e
      exact hc)
    rw [List.take_of_length_le (by omega)] at this
    exact this.mono fun e w' ⟨he, hw⟩ => ⟨he, hw.symm⟩
theorem nodesL_times {f : Ty → Ty} {c : Nat} : ∀ {l : List Ty}, (∀ u, u ∈ l → (f u).nodes ≤ u.nodes * c) → nodesL (l.map f) ≤ nodesL l * c
  | [], _ => by simp [nodesL]
  | a :: l, h => by
    have h1 := h a (by simp)
    have h2 := nodesL_times (l := l) (f := f) (c := c) fun u hu => h u (by simp [hu])
    simp only [List.map_cons, nodesL]
    rw [Nat.add_mul]; omega
theorem nodes_sub1 {m v : Nat} {t : Ty} : ∀ x, FineV m x → (sub1 v t x).nodes ≤ x.nodes * t.nodes := FineV.ind (fun w _ => by
    have := nodes_pos t
    rw [sub1_var, nodes_var, Nat.one_mul]
    split
    · omega
    · rw [nodes_var]; omega) fun k s n l h1 _ _ ih => by
  have := nodes_pos t
  have h2 := nodesL_times (f := sub1 v t) (c := t.nodes) ih
  rw [sub1_node h1]
  simp only [Ty.nodes]
  rw [Nat.add_mul]; omega
section
variable {ops : Array Oper} {rest : List Oper} {o : Oper} {a : Act} {w w' : World} {Q : Exit → Act → World → Prop}
theorem ex_next {ev : Operand → Value} (x : Operand) (ho : o.op = .next x false) {p : Value} (hx : ev x = p) {v : Value} (h : (Instr.next p false o.type).run Tryd.prog w = .ok v w') : (execOp ev o).run Tryd.prog w = .ok (.value v) w' := by
  unfold execOp
  simp [ho, hx, h, Result.andThen]
theorem ex_entry {ev : Operand → Value} (x : Operand) (ho : o.op = .entry x) {p : Value} (hx : ev x = p) {v : Value} (h : (Instr.entry p).run Tryd.prog w = .ok v w') : (execOp ev o).run Tryd.prog w = .ok (.value v) w' := by
  unfold execOp
  simp [ho, hx, h, Result.andThen]
theorem ex_range {ev : Operand → Value} (x : Operand) (ho : o.op = .range 90 x) {q : Nat} (hx : ev x = .map (some q)) {es : Array MapEntry} {clock : Nat} (h : w.heap[q]? = some (.map es clock)) : (execOp ev o).run Tryd.prog w = .ok (.value (.pointer (some ⟨w.heap.size, 0, none⟩))) (w.alloc (.mapIter (some q) clock #[] clock)) := by
  unfold execOp
  simp [ho, hx, run_range_map w 90 3 24 q es clock u90 h, Result.andThen]
theorem ex_new90 {ev : Operand → Value} (m k x : Operand) (ho : o.op = .mapUpdate 90 m k x) {q : Nat} {n : Int} {v : Value} (hm : ev m = .map (some q)) (hk : ev k = .int .i64 n) (hx : ev x = v) {es : Array MapEntry} {c : Nat} (hb : w.heap[q]? = some (.map es c)) (hf : Instr.findNow (.int .i64) (.int .i64 n) es.toList 0 = some none) :
    (execOp ev o).run Tryd.prog w = .ok .skip (setMap w q (.map (es.push { key := .int .i64 n, val := v, born := c }) (c + 1))) := by
  unfold execOp
  simp [ho, hm, hk, hx, run_new90 w hb hf, Result.andThen, setMap]
theorem ex_upd90 {ev : Operand → Value} (m k x : Operand) (ho : o.op = .mapUpdate 90 m k x) {q : Nat} {n : Int} {v y : Value} (hm : ev m = .map (some q)) (hk : ev k = .int .i64 n) (hx : ev x = v) {es : Array MapEntry} {c j : Nat} {e : MapEntry} (hb : w.heap[q]? = some (.map es c)) (hf : Instr.findNow (.int .i64) (.int .i64 n) es.toList 0 = some (some (j, y))) (hj : es[j]? = some e) (he : e.key = .int .i64 n) :
    (execOp ev o).run Tryd.prog w = .ok .skip (setMap w q (.map (es.modify j fun e => { e with key := .int .i64 n, val := v }) c)) := by
  unfold execOp
  simp [ho, hm, hk, hx, run_upd90 w hb hf hj he, Result.andThen, setMap]
end
section
variable {P : Program} {md : Region.Mode} {ops : Array Oper} {Q : Exit → Act → World → Prop} {S : World → Prop} {fuel : Nat} {listed : Array Bool} {a : Act} {w : World} {i : Nat} {oi : Oper}
theorem ha_do0 {w2 : World} (hr : Region.ready md ops listed = [i]) (ho : ops[i]? = some oi) (hg : Region.wanted oi (yielded ops a.tmps) = true) (hx : (execOp a.eval oi).run P w = .ok .skip w2) (hS : S w2)
    (h : wpAnyH P md ops Q S fuel (listed.setIfInBounds i true) (a.put oi.dst undef) w2) : wpAnyH P md ops Q S (fuel + 1) listed a w := by
  refine wpAnyH_ready (rs := [i]) hr (by simp) (AllReadyH.cons ho (fun K hK => ?_) AllReadyH.nil)
  rw [if_pos hg]
  unfold Oper.wp
  rw [hx]
  exact hK.out _ _ hS (fun _ => h)
end
end Go.Proofs.YtokmaehefenpmaaDoor
namespace Go.Proofs.YtokmaehefenpmaaDoor
open Go.RowKit Go.ChangeMaps Go.Proofs.YtokmaehefenpmaaDoor.Nm
set_option linter.unusedSimpArgs false
theorem Keep.drew (C : Nat → Prop) (w : World) : Keep C w w.drew := Keep.of ((Below.refl w.heap.size w).drew)
theorem bind_occ {sol : List Ty} {v : Nat} {t : Ty} (h : t.occ v = true) : bindP sol v t = .error 32 := by unfold bindP; rw [if_pos h]
theorem bind_big {sol : List Ty} {v : Nat} {t : Ty} (h : t.occ v = false) (h2 : 40 < t.nodes) : bindP sol v t = .error 2 := by unfold bindP; rw [if_neg (by rw [h]; simp), if_pos h2]
theorem bind_some {sol : List Ty} {v : Nat} {t : Ty} (h : t.occ v = false) (h2 : t.nodes ≤ 40) {u : Ty} (hu : u ∈ sol) (h3 : 40 < (sub1 v t u).nodes) : bindP sol v t = .error 2 := by
  unfold bindP
  rw [if_neg (by rw [h]; simp), if_neg (by omega), if_pos]
  rw [List.any_eq_true]
  exact ⟨_, List.mem_map_of_mem hu, by simpa using h3⟩
theorem bind_all {sol : List Ty} {v : Nat} {t : Ty} (h : t.occ v = false) (h2 : t.nodes ≤ 40) (h3 : ∀ u, u ∈ sol → (sub1 v t u).nodes ≤ 40) : bindP sol v t = .ok (sol.map (sub1 v t)) := by
  unfold bindP
  rw [if_neg (by rw [h]; simp), if_neg (by omega), if_neg]
  rw [List.any_eq_true]
  rintro ⟨u, hu, h4⟩
  obtain ⟨x, hx, rfl⟩ := List.mem_map.1 hu
  have := h3 x hx
  simp at h4
  omega
/-- What one entry held, while the entries are gone through. -/
theorem gone_val {m : Nat} {sol : List Ty} {f : Nat → Option Ty} (h : KnownX m sol f) (hg : Good m sol) {v : Nat} {t : Ty} (ht : FineV m t) (hfix : applyTy sol t = t) (hoc : t.occ v = false) (hn : t.nodes ≤ 40) {P : Nat → Bool} {k : Nat} {u : Ty} (hu : goneF f v t P k = some u) (hk : k ≠ v → P k = false) :
    FineV m u ∧ applyTy sol u = u ∧ u.nodes ≤ 40 ∧ (goneF f v t (fun x => P x || decide (x = k)) = fun x => if x = k then some (sub1 v t u) else goneF f v t P x) ∧ (k ≠ v → u ∈ sol) ∧ (k = v → sub1 v t u = t) := by
  by_cases e : k = v
  · subst e
    obtain rfl : u = t := by unfold goneF at hu; rw [if_pos rfl] at hu; cases hu; rfl
    have hs := sub1_absent (v := k) (t := u) u ht hoc
    refine ⟨ht, hfix, hn, ?_, fun h => absurd rfl h, fun _ => hs⟩
    funext x
    unfold goneF
    by_cases e2 : x = k
    · rw [if_pos e2, if_pos e2, hs]
    · rw [if_neg e2, if_neg e2, if_neg e2]
      simp [e2]
  · have hp := hk e
    have hu2 : f k = some u := by unfold goneF at hu; rw [if_neg e, hp] at hu; simpa using hu
    obtain ⟨g1, g2⟩ := h.dom k u hu2
    have gm := List.mem_of_getElem? g2
    refine ⟨hg.fine u gm, hg.idem u gm, hg.size u gm, ?_, fun _ => gm, fun h => absurd h e⟩
    funext x
    by_cases e2 : x = k
    · subst e2
      rw [if_pos rfl]
      unfold goneF
      rw [if_neg e]
      simp [hu2]
    · rw [if_neg e2]
      unfold goneF
      simp [e2]
theorem gone_end {m : Nat} {sol : List Ty} {f : Nat → Option Ty} (h : KnownX m sol f) (hg : Good m sol) {v : Nat} {t : Ty} (hvar : applyTy sol (varT v) = varT v) (hoc : t.occ v = false) (hn : t.nodes ≤ 40) {P : Nat → Bool} (hP : ∀ x u, f x = some u → x ≠ v → P x = true) (hz : ∀ x u, goneF f v t P x = some u → P x = true → u.nodes ≤ 40) : bindP sol v t = .ok (sol.map (sub1 v t)) := by
  have hfv := h.none hg hvar
  refine bind_all hoc hn fun u hu => ?_
  obtain ⟨k, hk, rfl⟩ := List.mem_iff_getElem.1 hu
  have hkm : k < m := by rw [← hg.len]; exact hk
  cases hf : f k with
  | none =>
    have := h.rest k hkm hf
    rw [List.getElem?_eq_getElem hk] at this
    rw [Option.some.inj this, sub1_var]
    split
    · exact hn
    · rw [nodes_var]; omega
  | some y =>
    have hkv : k ≠ v := fun e => by rw [e, hfv] at hf; cases hf
    have := (h.dom k y hf).2
    rw [List.getElem?_eq_getElem hk] at this
    have := Option.some.inj this
    rw [this]
    exact hz k _ (by unfold goneF; rw [if_neg hkv, if_pos (hP k _ hf hkv), hf]; rfl) (hP k _ hf hkv)
theorem Four.cells {w : World} {D : Nat → Prop} {A : Option Addr} {i : Nat} {row : Array Value} (h : Four w D A i row) : Four w (fun b => D b ∧ ∃ Cs t fr, w.heap[b]? = some (.cells Cs t fr)) A i row := by
  obtain ⟨b, off, Cs, t, fr, h1, h2, h3, h4⟩ := h
  exact ⟨b, off, Cs, t, fr, h1, ⟨h2, _, _, _, h3⟩, h3, h4⟩
theorem TyAt.cells {w : World} {D : Nat → Prop} {t : Ty} {row : Array Value} (h : TyAt w D t row) : TyAt w (fun b => D b ∧ ∃ Cs t fr, w.heap[b]? = some (.cells Cs t fr)) t row := by
  induction h with
  | mk rows hk hn hs hl hc hm hf _ ih => exact .mk rows hk hn hs hl hc hm (fun i t hi => (hf i t hi).cells) ih
/-- What is no variable may change. -/
theorem TyAt.keepC {C : Nat → Prop} {w w' : World} {D : Nat → Prop} {t : Ty} {row : Array Value} (h : TyAt w D t row) (hk : Keep C w w') (hC : ∀ b, D b → C b → ∀ Cs t fr, w.heap[b]? ≠ some (.cells Cs t fr)) : TyAt w' D t row :=
  (h.cells.keep hk fun b hb hc => by
    obtain ⟨h1, Cs, t, fr, h2⟩ := hb
    exact hC b h1 hc Cs t fr h2).weak fun _ h => h.1
theorem SolR.keep {w w' : World} {ps q : Nat} {f : Nat → Option Ty} {es : Array MapEntry} {c : Nat} (h : SolR w ps q f es c) {C : Nat → Prop} (hk : Keep C w w') (hC : ∀ b, C b → b ≠ q ∧ ∀ Cs t fr, w.heap[b]? ≠ some (.cells Cs t fr)) : SolR w' ps q f es c :=
  ⟨hk.look h.var fun hc => (hC _ hc).2 _ _ _ h.var, ⟨hk.look h.map.blk fun hc => (hC _ hc).1 rfl, h.map.st, fun x hx => by
    obtain ⟨v, row, t, g1, g2, g3, g4⟩ := h.map.ent x hx
    exact ⟨v, row, t, g1, g2, g3, g4.keepC hk fun b _ hc => (hC b hc).2⟩, h.map.has⟩, h.small⟩
section
variable {ops : Array Oper} {rest : List Oper} {dst : Option Tmp} {ty' : TypeId} {x : Operand} {pos : String} {after : Array Edge} {a : Act} {w : World} {Q : Exit → Act → World → Prop}
theorem wl_range90 {q : Nat} {es : Array MapEntry} {clock : Nat} (hm : w.heap[q]? = some (.map es clock)) (hx : a.eval x = .map (some q))
    (h : ∀ W r, Below w.heap.size w W → w.heap.size ≤ r → W.heap[r]? = some (.mapIter (some q) clock #[] clock) → wpList Tryd.prog ops Q rest (a.put dst (.pointer (some ⟨r, 0, none⟩))) W) :
    wpList Tryd.prog ops Q (⟨dst, .range 90 x, ty', pos, after, none⟩ :: rest) a w :=
  wl_w rfl (ex_range x rfl hx hm) (h _ _ ((Below.refl _ w).alloc (Nat.le_refl _) _) (Nat.le_refl _) (ha_new rfl))
theorem setBlock_keep {w : World} {r : Nat} {o : Obj} (hr : r < w.heap.size) : Keep (fun b => b = r) w (setBlock w r o) ∧ (setBlock w r o).heap[r]? = some o ∧ (setBlock w r o).heap.size = w.heap.size := by
  refine ⟨⟨rfl, rfl, rfl, by simp [setBlock], fun b _ hn => ?_⟩, by simp [setBlock, hr], by simp [setBlock]⟩
  have : r ≠ b := fun e => hn e.symm
  simp [setBlock, Array.getElem?_setIfInBounds, this]
theorem wl_next90 {r q since c0 clock : Nat} {seen : Array Nat} {es : Array MapEntry} (hx : a.eval x = .pointer (some ⟨r, 0, none⟩)) (hr : w.heap[r]? = some (.mapIter (some q) since seen c0)) (hb : w.heap[q]? = some (.map es clock)) (hold : ∀ x ∈ es.toList, x.born < since) (hsc : since ≤ c0)
    (h0 : (leftOf es seen).size = 0 → wpList Tryd.prog ops Q rest (a.put dst (.tuple #[.bool false])) w)
    (h1 : ∀ e W, e ∈ (leftOf es seen).toList → Keep (fun b => b = r) w W → W.heap[r]? = some (.mapIter (some q) since (seen.push e.born) clock) → W.heap.size = w.heap.size → wpList Tryd.prog ops Q rest (a.put dst (.tuple #[.bool true, e.key, e.val])) W) :
    wpList Tryd.prog ops Q (⟨dst, .next x false, ty', pos, after, none⟩ :: rest) a w := by
  rcases run_next_at (P := Tryd.prog) w ty' r q since c0 seen es clock hr hb hold hsc with ⟨g1, g2⟩ | ⟨e, he, w1, hw1, g2⟩
  · exact wl_w rfl (ex_next x rfl hx g2) (h0 g1)
  · have hlt := heap_lt hr
    have hs1 : w1.heap = w.heap := by rcases hw1 with rfl | rfl <;> rfl
    have hk1 : Keep (fun b => b = r) w w1 := by
      rcases hw1 with rfl | rfl
      · exact Keep.refl _ _
      · exact Keep.drew _ _
    obtain ⟨k1, k2, k3⟩ := setBlock_keep (w := w1) (r := r) (o := .mapIter (some q) since (seen.push e.born) clock) (by rw [hs1]; exact hlt)
    exact wl_w rfl (ex_next x rfl hx g2) (h1 e _ he (hk1.trans (fun b h => Or.inl h) k1) k2 (by rw [k3, hs1]))
theorem wl_entry90 {r q since clock : Nat} {seen : Array Nat} {es : Array MapEntry} {e : MapEntry} (hx : a.eval x = .pointer (some ⟨r, 0, none⟩)) (hr : w.heap[r]? = some (.mapIter (some q) since (seen.push e.born) clock)) (hb : w.heap[q]? = some (.map es clock)) (he : e ∈ es.toList) (hn : (es.toList.map (·.born)).Nodup) {k v : Value} (hk : e.key = k) (hv : e.val = v)
    (h : wpList Tryd.prog ops Q rest (a.put dst (.tuple #[k, v])) w) :
    wpList Tryd.prog ops Q (⟨dst, .entry x, ty', pos, after, none⟩ :: rest) a w := by
  subst hk hv
  exact wl_w rfl (ex_entry x rfl hx (run_entry_at w r q since seen es clock e hr hb he hn)) h
end
section
variable {md : Region.Mode} {ops : Array Oper} {Q : Exit → Act → World → Prop} {S : World → Prop} {fuel : Nat} {listed : Array Bool} {a : Act} {w : World} {i : Nat} {oi : Oper}
theorem ha_new90 (hr : Region.ready md ops listed = [i]) (ho : ops[i]? = some oi) (hg : Region.wanted oi (yielded ops a.tmps) = true) (m k x : Operand) (hop : oi.op = .mapUpdate 90 m k x) {ps q v : Nat} {row : Array Value} (hm : a.eval m = .map (some q)) (hk : a.eval k = .int .i64 (v : Int)) (hx : a.eval x = .agg row) {f : Nat → Option Ty} {es : Array MapEntry} {c : Nat} (hs : SolR w ps q f es c) (hf : f v = none) {t : Ty} (ht : TyAt w (fun b => b ≠ q) t row) (hn : t.nodes ≤ 1000000) (hpq : ps ≠ q) (hS : ∀ W, Keep (fun b => b = q) w W → S W)
    (h : ∀ W es', Keep (fun b => b = q) w W → SolR W ps q (fun x => if x = v then some t else f x) es' (c + 1) → S W → wpAnyH Tryd.prog md ops Q S fuel (listed.setIfInBounds i true) (a.put oi.dst undef) W) : wpAnyH Tryd.prog md ops Q S (fuel + 1) listed a w := by
  have hmiss := (hs.map.miss (k := (v : Int)) (fun v' e => by
    have e2 : v = v' := by omega
    rw [← e2]; exact hf)).1
  have hk1 := setMap_keep (o' := .map (es.push { key := .int .i64 (v : Int), val := .agg row, born := c }) (c + 1)) hs.map.blk
  exact ha_do0 hr ho hg (ex_new90 m k x hop hm hk hx hs.map.blk hmiss) (hS _ hk1) (h _ _ hk1 ⟨hk1.look hs.var hpq, hs.map.new hf ht, fun x u hu => by
    by_cases e : x = v
    · simp only [if_pos e] at hu; cases hu; exact hn
    · simp only [if_neg e] at hu; exact hs.small x u hu⟩ (hS _ hk1))
theorem ha_upd90 (hr : Region.ready md ops listed = [i]) (ho : ops[i]? = some oi) (hg : Region.wanted oi (yielded ops a.tmps) = true) (m k x : Operand) (hop : oi.op = .mapUpdate 90 m k x) {ps q v : Nat} {row : Array Value} (hm : a.eval m = .map (some q)) (hk : a.eval k = .int .i64 (v : Int)) (hx : a.eval x = .agg row) {f : Nat → Option Ty} {es : Array MapEntry} {c : Nat} (hs : SolR w ps q f es c) {u : Ty} (hf : f v = some u) {t : Ty} (ht : TyAt w (fun b => b ≠ q) t row) (hn : t.nodes ≤ 1000000) (hpq : ps ≠ q) (hS : ∀ W, Keep (fun b => b = q) w W → S W)
    (h : ∀ W es', Keep (fun b => b = q) w W → SolR W ps q (fun x => if x = v then some t else f x) es' c → (∀ seen, (leftOf es' seen).size = (leftOf es seen).size) → (∀ x, x ∈ es'.toList → ∃ y, y ∈ es.toList ∧ y.key = x.key ∧ y.born = x.born) → S W → wpAnyH Tryd.prog md ops Q S fuel (listed.setIfInBounds i true) (a.put oi.dst undef) W) : wpAnyH Tryd.prog md ops Q S (fuel + 1) listed a w := by
  obtain ⟨j, e, row', g1, g2, g3, -⟩ := hs.map.hit hf
  have hk1 := setMap_keep (o' := .map (es.modify j fun e => { e with key := .int .i64 (v : Int), val := .agg row }) c) hs.map.blk
  refine ha_do0 hr ho hg (ex_upd90 m k x hop hm hk hx hs.map.blk g1 g2 g3) (hS _ hk1) (h _ _ hk1 ⟨hk1.look hs.var hpq, hs.map.upd g2 g3 ht, fun x u hu => ?_⟩ (fun seen => left_modify) (fun x hx => ?_) (hS _ hk1))
  · by_cases e : x = v
    · simp only [if_pos e] at hu; cases hu; exact hn
    · simp only [if_neg e] at hu; exact hs.small x u hu
  · obtain ⟨i, hi⟩ := List.mem_iff_getElem?.1 hx
    rw [Array.getElem?_toList, Array.getElem?_modify] at hi
    split at hi
    · rename_i e2
      subst e2
      rw [g2] at hi
      obtain rfl := Option.some.inj hi
      exact ⟨e, List.mem_of_getElem? (by rw [Array.getElem?_toList]; exact g2), g3, rfl⟩
    · exact ⟨x, List.mem_of_getElem? (by rw [Array.getElem?_toList]; exact hi), rfl, rfl⟩
end
end Go.Proofs.YtokmaehefenpmaaDoor
