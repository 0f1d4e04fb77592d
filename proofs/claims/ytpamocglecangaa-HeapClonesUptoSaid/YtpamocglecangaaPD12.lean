/- Tasks of the document's: the last one taken, others put behind. The document's heap: buffers without elements, objects with new fields, texts in the order, the topmost level. The document's Buffers. The document's Objects. The document's Objects, walked. What a step of the document's Next is, and its tools. A step of the document's Next: the fields of an object. A step of the document's Next: an object. -/
import Derived.Deep.Upon
import Derived.Test.YtpamocglecangaaPD11
import Derived.Test.YtpamocglecangaaPD8
import Derived.Test.YtpamocglecangaaPD10
set_option maxHeartbeats 16000000
set_option maxRecDepth 100000
namespace Go.Proofs.Ytpamocglecangaa
open Go.RowKit Go.Proofs.Ytpamocglecangaa.Nm
set_option linter.unusedSimpArgs false
theorem u125d : Try.prog.underlying 125 = some (.struct (Try.prog.fieldsOf 125)) := by kernel_rfl
theorem info125d : (Try.prog.info? 125).map (·.size) = some 12 := by kernel_rfl
theorem step_more (h : Hp) (l : List Tk) (t : Tk) : stepV' h l t = ((stepV' h [] t).1, l ++ (stepV' h [] t).2.1, (stepV' h [] t).2.2) := by
 unfold stepV'
 repeat' split
 all_goals simp
theorem DTkAt.row {w : World} {D : Nat -> Prop} {t : Tk} {row : Array Value} (h : DTkAt w D t row) : row.size = 12 /\ row.all (·.oneCell') = true := by
 cases t with
 | val v =>
  obtain ⟨rv, h1, h2⟩ := h
  subst h2
  exact ⟨drow_size h1.size, drow_one h1.one⟩
 | flds o i =>
  subst h
  refine ⟨rfl, ?_⟩
  simp [zrow, Value.oneCell']
section
variable {w : World} {D : Nat -> Prop} {ts more : List Tk} {t : Tk} {A : Option Addr} {c : Nat}
theorem DTks.cut (h : DTks w D (ts ++ [t]) A c) : DTks w D ts A ts.length where
 cap := Nat.le_refl _
 max := by have := h.cap; have := h.max; rw [List.length_append] at *; omega
 nil := fun e => by have := (h.nil e).1; simp at this
 el := fun i u hi => h.el i u (by rw [List.getElem?_append_left (List.getElem?_eq_some_iff.1 hi).1]; exact hi)
theorem DTks.last (h : DTks w D (ts ++ [t]) A c) : ∃ b off row, A = some ⟨b, off, none⟩ /\ DTkAt w D t row /\ row.size = 12 /\ row.all (·.oneCell') = true /\ ts.length + 1 <= c /\ RowAt w 125 ⟨b, off + ts.length * 12, none⟩ row := by
 obtain ⟨b, off, Cs, ty, fr, row, e1, -, e3, e4, e5, e6⟩ := h.el ts.length t (by rw [List.getElem?_concat_length])
 have := h.cap
 rw [List.length_append] at this
 exact ⟨b, off, row, e1, e6, e5, e6.row.2, this, row_mid (n := 12) e3 e4 u125d rfl e5 info125d⟩
theorem DTks.cells (h : DTks w D ts A c) (hne : ts ≠ []) : ∃ (b off : Nat) (rows : List (Array Value)), A = some ⟨b, off, none⟩ /\ rows.length = ts.length /\ (∀ r, r ∈ rows -> r.size = 12) /\ (∀ (i : Nat) (t : Tk) (row : Array Value), ts[i]? = some t -> rows[i]? = some row -> DTkAt w D t row) /\
  (∀ (j : Nat) (u : Value), (rows.flatMap (·.toList))[j]? = some u -> w.cell? ⟨b, off + j, none⟩ = some u) /\ ∀ u, u ∈ rows.flatMap (·.toList) -> u.oneCell' = true := by
 obtain ⟨t0, tl, rfl⟩ : ∃ t0 tl, ts = t0 :: tl := by
  cases ts with
  | nil => exact absurd rfl hne
  | cons a b => exact ⟨a, b, rfl⟩
 obtain ⟨b, off, Cs, ty, fr, row0, rfl, -, e3, -⟩ := h.el 0 t0 rfl
 have hall : ∀ (i : Nat) (t : Tk), (t0 :: tl)[i]? = some t -> (Cs.extract (off + i * 12) (off + i * 12 + 12)).size = 12 /\ DTkAt w D t (Cs.extract (off + i * 12) (off + i * 12 + 12)) := fun i t hi => by
  obtain ⟨b', off', Cs', ty', fr', row, e1, -, e4, e5, e6, e7⟩ := h.el i t hi
  cases e1
  rw [e3] at e4; cases e4
  rw [e5]; exact ⟨e6, e7⟩
 have hrow : ∀ (i : Nat) (r : Array Value), ((List.range (t0 :: tl).length).map fun i => Cs.extract (off + i * 12) (off + i * 12 + 12))[i]? = some r -> i < (t0 :: tl).length /\ r = Cs.extract (off + i * 12) (off + i * 12 + 12) := fun i r hr => by
  have hil := (List.getElem?_eq_some_iff.1 hr).1
  rw [List.length_map, List.length_range] at hil
  rw [List.getElem?_map, List.getElem?_range hil] at hr
  exact ⟨hil, (Option.some.inj hr).symm⟩
 have hsz : ∀ r, r ∈ ((List.range (t0 :: tl).length).map fun i => Cs.extract (off + i * 12) (off + i * 12 + 12)) -> r.size = 12 := fun r hr => by
  obtain ⟨i, hi⟩ := List.mem_iff_getElem?.1 hr
  obtain ⟨h1, h2⟩ := hrow i r hi
  rw [h2]; exact (hall i _ (List.getElem?_eq_getElem h1)).1
 refine ⟨b, off, (List.range (t0 :: tl).length).map fun i => Cs.extract (off + i * 12) (off + i * 12 + 12), rfl, by rw [List.length_map, List.length_range], hsz, fun i t row hi hr => ?_, fun j u hj => ?_, fun u hu => ?_⟩
 ·rw [(hrow i row hr).2]; exact (hall i t hi).2
 ·have hf := flatn_take (sz := 12) (cur := Cs) off hsz (fun i r hr => (hrow i r hr).2.symm)
  rw [<- hf, List.getElem?_take] at hj
  split at hj
  ·rw [List.getElem?_drop] at hj
   rw [cell_of_row _ _ _ _ _ _ e3]
   simpa using hj
  ·cases hj
 ·obtain ⟨r, hr, hu2⟩ := List.mem_flatMap.1 hu
  obtain ⟨i, hi⟩ := List.mem_iff_getElem?.1 hr
  obtain ⟨h1, h2⟩ := hrow i r hi
  exact one_list (by rw [h2]; exact (hall i _ (List.getElem?_eq_getElem h1)).2.row.2) u hu2
end
theorem run_catT {w : World} {G : Gh} (hf : Fr w G) {ts more : List Tk} {A M : Option Addr} {mc : Nat} (h : DTks w (Imm G) ts A ts.length) (h2 : DTks w (Imm G) more M mc) (hlen : (ts.length + more.length) * 160 <= 140737488355328) (oty : TypeId) :
  ∃ A' c' w', (Builtin.append_ #[102, 102] oty #[.slice A ts.length ts.length, .slice M more.length mc]).run Try.prog w = .ok (.slice A' (ts ++ more).length c') w' /\ DTks w' (Imm G) (ts ++ more) A' c' /\ Below w.heap.size w w' := by
 obtain ⟨hu, h0, hz, i0, z0, hi, hz0, hz1, hz2, hzl⟩ := elt102
 have hmax : ts.length + more.length <= maxLen := by unfold maxLen; omega
 by_cases hm : more = []
 ·subst hm
  have hs : Src Try.prog i0.size 102 (.slice M 0 mc) 0 [] w := by
   cases M with
   | none => exact Src.ofNil (P := Try.prog) w hu mc
   | some a => exact Src.ofSlice (P := Try.prog) w hu a 0 mc [] (by simp) (fun j u hj => by simp at hj) (fun u hu => by cases hu)
  refine ⟨A, ts.length, w, ?_, by rw [List.append_nil]; exact h, Below.refl _ _⟩
  rw [List.append_nil]
  exact run_append_nothing (P := Try.prog) w 102 102 oty 125 i0 hu hi A ts.length ts.length (Nat.le_refl _) _ hs
 ·obtain ⟨mb, moff, news, rfl, hnl, hns, hnv, hnc, hn1⟩ := h2.cells hm
  have hs : Src Try.prog i0.size 102 (.slice (some ⟨mb, moff, none⟩) more.length mc) more.length (news.flatMap (·.toList)) w := Src.ofSlice (P := Try.prog) w hu ⟨mb, moff, none⟩ more.length mc _ (by rw [flatn_len hns, hnl, hz1]) (fun j u hj => by rw [Addr.add_mid]; exact hnc j u hj) hn1
  obtain ⟨olds, hol, hos, hov, hold⟩ : ∃ olds : List (Array Value), olds.length = ts.length /\ (∀ r, r ∈ olds -> r.size = 12) /\ (∀ (i : Nat) (t : Tk) (row : Array Value), ts[i]? = some t -> olds[i]? = some row -> DTkAt w (Imm G) t row) /\ (Builtin.firstCells i0.size ts.length (.slice A ts.length ts.length)).run Try.prog w.drew = .ok (olds.flatMap (·.toList)).toArray w.drew := by
   by_cases hts : ts = []
   ·subst hts
    refine ⟨[], rfl, fun r hr => (by cases hr), fun i t row hi => (by simp at hi), ?_⟩
    cases A with
    | none => exact run_firstCells_none (P := Try.prog) w.drew i0.size 0 0 0
    | some a => exact run_firstCells_some (P := Try.prog) w.drew i0.size 0 a 0 0 [] (by simp) (by intro _ _ h'; simp at h')
   ·obtain ⟨b, off, rows, rfl, g1, g2, g3, g4, -⟩ := h.cells hts
    exact ⟨rows, g1, g2, g3, run_firstCells_some (P := Try.prog) w.drew i0.size ts.length ⟨b, off, none⟩ ts.length ts.length _ (by rw [flatn_len g2, g1, hz1]) (fun j u hj => by rw [Addr.add_mid]; exact (World.cell?_of_block (a := ⟨b, off + j, none⟩) rfl).trans (g4 j u hj))⟩
  have hml : 0 < more.length := List.length_pos_iff.2 hm
  have hrun := run_append_grow_src (P := Try.prog) w 102 102 oty 125 i0 z0 hu hi hz0 A ts.length ts.length (olds.flatMap (·.toList)) hold _ more.length _ hs (by omega) (by unfold maxLen at hmax; omega) (growslice_fits (by omega) (by rw [hz2]; exact hlen))
  obtain ⟨C, hC⟩ : ∃ C, C = grownCap w (ts.length + more.length) ts.length 125 := ⟨_, rfl⟩
  have hge : ts.length + more.length <= C := by rw [hC]; exact grownCap_ge w _ _ _
  have hcm : C <= maxLen := by rw [hC]; exact grownCap_le_maxLen w _ _ _ hmax
  rw [<- hC] at hrun
  have hrs : ∀ r, r ∈ olds ++ news -> r.size = 12 := fun r hr => (List.mem_append.1 hr).elim (hos r) (hns r)
  have hbel : Below w.heap.size w (w.drew.alloc (.cells ((olds.flatMap (·.toList) ++ news.flatMap (·.toList)).toArray ++ Builtin.zeroCells z0.cells (C - (ts.length + more.length))) 125)) := ((Below.refl w.heap.size w).drew).alloc (Nat.le_refl _) _
  have hnew : (w.drew.alloc (.cells ((olds.flatMap (·.toList) ++ news.flatMap (·.toList)).toArray ++ Builtin.zeroCells z0.cells (C - (ts.length + more.length))) 125)).heap[w.heap.size]? = some (.cells ((olds.flatMap (·.toList) ++ news.flatMap (·.toList)).toArray ++ Builtin.zeroCells z0.cells (C - (ts.length + more.length))) 125 (0, 0)) := ha_new (w := w.drew) rfl
  refine ⟨some ⟨w.heap.size, 0, none⟩, C, _, by rw [List.length_append]; exact hrun, ⟨by rw [List.length_append]; exact hge, hcm, fun e => (by cases e), fun i t hi => ?_⟩, hbel⟩
  have hil := (List.getElem?_eq_some_iff.1 hi).1
  rw [List.length_append] at hil
  obtain ⟨row, hr⟩ : ∃ row, (olds ++ news)[i]? = some row := ⟨_, List.getElem?_eq_getElem (by rw [List.length_append]; omega)⟩
  have htk : DTkAt w (Imm G) t row := by
   by_cases e : i < ts.length
   ·rw [List.getElem?_append_left e] at hi
    rw [List.getElem?_append_left (by omega)] at hr
    exact hov i t row hi hr
   ·rw [List.getElem?_append_right (by omega)] at hi
    rw [List.getElem?_append_right (by omega), hol] at hr
    exact hnv _ t row hi hr
  refine ⟨w.heap.size, 0, _, 125, (0, 0), row, rfl, hf _ (Nat.le_refl _), hnew, ?_, htk.row.1, htk.mono (fun _ h => h) fun b _ hl => hbel.block b hl⟩
  have hfg := flatn_get hrs i row hr
  have hlen2 : ((olds ++ news).flatMap (·.toList)).length = (ts.length + more.length) * 12 := by rw [flatn_len hrs, List.length_append, hol, hnl]
  have hin : i * 12 + 12 <= (ts.length + more.length) * 12 := by omega
  rw [List.flatMap_append] at hfg hlen2
  apply Array.ext'
  rw [Array.toList_extract, List.extract_eq_take_drop, Array.toList_append, List.toList_toArray, Nat.zero_add, show i * 12 + 12 - i * 12 = 12 by omega, List.drop_append_of_le_length (by omega), List.take_append_of_le_length (by rw [List.length_drop]; omega)]
  exact hfg
section
variable {ops : Array Oper} {rest : List Oper} {o : Oper} {a : Act} {w : World} {Q : Exit -> Act -> World -> Prop}
theorem wl_catT {G : Gh} (hf : Fr w G) {ts more : List Tk} {A M : Option Addr} {mc : Nat} (hg : o.guard = none) (s x : Operand) (ho : o.op = .call { callee := .builtin .append, args := #[s, x], argTypes := #[102, 102] })
  (hs : a.eval s = .slice A ts.length ts.length) (hx : a.eval x = .slice M more.length mc) (h : DTks w (Imm G) ts A ts.length) (h2 : DTks w (Imm G) more M mc) (hlen : (ts.length + more.length) * 160 <= 140737488355328)
  (hK : ∀ A' c' w', DTks w' (Imm G) (ts ++ more) A' c' -> Below w.heap.size w w' -> wpList Try.prog ops Q rest (a.put o.dst (.slice A' (ts ++ more).length c')) w') : wpList Try.prog ops Q (o :: rest) a w := by
 obtain ⟨A', c', w', hr, h3, h4⟩ := run_catT hf h h2 hlen o.type
 refine wl_w hg ?_ (hK A' c' w' h3 h4)
 unfold execOp
 simp only [ho, resolve, invoke, builtin, Sem.run_bind, Sem.run_pure, Result.andThen_ok, List.map_toArray, List.map_cons, List.map_nil, hs, hx, hr]
end
open Go.RowKit Go.Proofs.Ytpamocglecangaa.Nm
theorem DDone.step {w W w' : World} {G G1 : Gh} {k p n n' : Nat} {h h' : Hp} (d : DDone w G k p h n W G1) {g : Nat} (hg : Mine G1 k g) (hk : Keep (fun b => b = g) W w') (hh : DHeapAt w' G1 k p h' n') : DDone w G k p h' n' w' G1 :=
 d.trans ⟨hh, d.fr.on hk.size, fun b _ => rfl, fun b hb => .inl (d.fr b hb), (Keep.refl _ W).trans (C' := fun b => b = g) (fun b e => .inl (by rw [e]; exact hg)) hk⟩
section
variable {w w' : World} {G G' : Gh} {k p nr : Nat} {h : Hp} {dA : Option Addr} {dc : Nat} {oA : Option Addr} {oc : Nat} {bA : Option Addr} {bc : Nat} {lA : Option Addr} {lc : Nat} {rA : Option Addr} {rc : Nat}
theorem DAt.nilE {g i : Nat} (hh : DAt w G k p h nr dA dc oA oc (some ⟨g, 0, none⟩) bc lA lc rA rc) {b : Bu} (hi : h.bus[i]? = some b) : (w.cell? ⟨g, i * 2 + 1, none⟩).isSome = true /\ w.frozen? ⟨g, i * 2 + 1, none⟩ = false /\
  DAt (w.setCell ⟨g, i * 2 + 1, none⟩ (.slice none 0 0)) G k p { h with bus := h.bus.set i { b with elems := [] } } nr dA dc oA oc (some ⟨g, 0, none⟩) bc lA lc rA rc := by
 obtain ⟨g', rows, e, hR⟩ := hh.bus.rows hi
 cases e
 obtain ⟨row, fA, fc, hr, hx⟩ := hR.get hi
 obtain ⟨h1, h2⟩ := hR.own.lies hr (j := 1) (by omega)
 refine ⟨h1, h2, ?_⟩
 have hs1 := (Keep.cellOne w g (i * 2 + 1) (.slice none 0 0)).block
 have hne : ∀ b r, G b = some (k, r) -> r ≠ .bar -> b ≠ g := fun b r e hr e2 => by rw [e2, hR.role] at e; cases e; exact hr rfl
 have hno : ∀ b, G b = none -> b ≠ g := fun b e e2 => by rw [e2, hR.role] at e; cases e
 refine hh.busC (by simp) (fun b hb e => hs1 b hb fun e2 => ?_) (fun b hb e => hs1 b hb (hno b e)) ?_
 ·obtain ⟨r, e3, e4, -⟩ := e
  exact hne b r e3 e4 e2
 ·refine hR.upd hi (row' := row.setIfInBounds 1 (.slice none 0 0)) (eA' := none) (ec' := 0) (fun j b _ hb e => hs1 b hb (hne b _ e (by simp))) (fun b hb e => hs1 b hb (hno b e)) (hR.own.set hr (j := 1) (by omega) _) ⟨?_, [], OwnL.nil _ _ _, rfl, fun g e => (by cases e), fun j v row hj => (by simp at hj)⟩
  rw [hx.eq]; rfl
theorem DAt.newF {g i : Nat} (hh : DAt w G k p h nr dA dc (some ⟨g, 0, none⟩) oc bA bc lA lc rA rc) {o : Ob} (hi : h.obs[i]? = some o) {l : List Va} {A' : Option Addr} {c' : Nat} (hL : ListV w G (k, .fld i) l A' c') : (w.cell? ⟨g, i * 8 + 7, none⟩).isSome = true /\ w.frozen? ⟨g, i * 8 + 7, none⟩ = false /\
  DAt (w.setCell ⟨g, i * 8 + 7, none⟩ (.slice A' l.length c')) G k p { h with obs := h.obs.set i { o with fields := l } } nr dA dc (some ⟨g, 0, none⟩) oc bA bc lA lc rA rc := by
 obtain ⟨g', rows, e, hR⟩ := hh.obs.rows hi
 cases e
 obtain ⟨row, tr, fA, fc, hr, hx⟩ := hR.get hi
 obtain ⟨h1, h2⟩ := hR.own.lies hr (j := 7) (by omega)
 refine ⟨h1, h2, ?_⟩
 have hk := Keep.cellOne w g (i * 8 + 7) (.slice A' l.length c')
 have hs1 := hk.block
 have hne : ∀ b r, G b = some (k, r) -> r ≠ .arr -> b ≠ g := fun b r e hr e2 => by rw [e2, hR.role] at e; cases e; exact hr rfl
 have hno : ∀ b, G b = none -> b ≠ g := fun b e e2 => by rw [e2, hR.role] at e; cases e
 refine hh.obsC (by simp) (fun b hb e => hs1 b hb fun e2 => ?_) (fun b hb e => hs1 b hb (hno b e)) ?_
 ·obtain ⟨r, e3, e4, -⟩ := e
  exact hne b r e3 e4 e2
 ·refine hR.upd hi (row' := row.setIfInBounds 7 (.slice A' l.length c')) (tr' := tr) (fA' := A') (fc' := c') (fun j b _ hb e => hs1 b hb (hne b _ e (by simp))) (fun b hb e => hs1 b hb (hno b e)) (hR.own.set hr (j := 7) (by omega) _) ⟨?_, hx.ty.keep hk (fun b hb e => hno b hb e), hL.same (fun b hb e => hs1 b hb (hne b _ e (by simp))) (fun b hb e => hs1 b hb (hno b e))⟩
  rw [hx.eq, (cell8_set hx.size o.state o.count o.weak fA o.fields.length fc 0 A' l.length c').2.2.2]
theorem DAt.addR (hh : DAt w G k p h nr dA dc oA oc bA bc lA lc rA rc) {rows : List (Array Value)} {row : Array Value} {A' : Option Addr} {c' : Nat} (hl : rows.length = nr)
  (ho : OwnL w' 9 1 A' c' (rows ++ [row])) (hk : Keep (fun b => rA = some ⟨b, 0, none⟩) w w') (hor : RoleOf G rA (k, .dei)) (hG : ∀ b, b < w.heap.size -> G' b = G b) (hA : RoleOf G' A' (k, .dei)) :
  DAt (w'.setCell ⟨p, 4, none⟩ (.slice A' (rows.length + 1) c')) G' k p h (nr + 1) dA dc oA oc bA bc lA lc A' c' := by
 have hpl := heap_lt hh.blk
 have hne : ∀ b r, b < w.heap.size -> G b = some (k, r) -> r ≠ .dei -> w'.heap[b]? = w.heap[b]? := fun b r hb e hr => hk.block b hb fun e2 => by have := hor b e2; rw [e] at this; cases this; exact hr rfl
 have hno : ∀ b, b < w.heap.size -> G b = none -> w'.heap[b]? = w.heap[b]? := fun b hb e => hk.block b hb fun e2 => by have := hor b e2; rw [e] at this; cases this
 have hpn : G' p = some (k, .hdr) := (hG p hpl).trans hh.rp
 have hp7 : w'.heap[p]? = some (.cells (cellD dA h.dei.length dc oA h.obs.length oc bA h.bus.length bc lA h.lev.length lc rA nr rc) 92 (0, 0)) := (hne p _ hpl hh.rp (by simp)).trans hh.blk
 have hset := (dhdr_set (j := 4) (v := .slice A' (rows.length + 1) c') hp7).2.2
 have hso : ∀ b, b ≠ p -> (w'.setCell ⟨p, 4, none⟩ (.slice A' (rows.length + 1) c')).heap[b]? = w'.heap[b]? := fun b hb => heap_setCell_other _ _ _ _ hb
 have hsr : ∀ b r, G' b = some (k, r) -> r ≠ .hdr -> b ≠ p := fun b r e hr e2 => by rw [e2, hpn] at e; cases e; exact hr rfl
 have hsn : ∀ b, G' b = none -> b ≠ p := fun b e e2 => by rw [e2, hpn] at e; cases e
 have hg := hh.regh hG
 refine ⟨?_, hpn, ?_, ?_, ?_, ?_, ?_⟩
 ·rw [hset, hl]; rfl
 ·exact hg.obs.same (fun b hb e => by
   rcases e with e | ⟨i, e⟩ <;> (rw [hso b (hsr b _ e (by simp))]; exact hne b _ hb ((hG b hb).symm.trans e) (by simp))) fun b hb e => by
    rw [hso b (hsn b e)]; exact hno b hb ((hG b hb).symm.trans e)
 ·exact hg.bus.same (fun b hb e => by
   rcases e with e | ⟨i, e⟩ <;> (rw [hso b (hsr b _ e (by simp))]; exact hne b _ hb ((hG b hb).symm.trans e) (by simp))) fun b hb e => by
    rw [hso b (hsn b e)]; exact hno b hb ((hG b hb).symm.trans e)
 ·exact hg.lev.same (fun b hb e => by rw [hso b (hsr b _ e (by simp))]; exact hne b _ hb ((hG b hb).symm.trans e) (by simp)) fun b hb e => by
    rw [hso b (hsn b e)]; exact hno b hb ((hG b hb).symm.trans e)
 ·exact hg.dei.same fun b hb e => by rw [hso b (hsn b e)]; exact hno b hb ((hG b hb).symm.trans e)
 ·exact ⟨rows ++ [row], ho.same (fun g e _ => hso g (hsr g _ (hA g e) (by simp))), by rw [List.length_append, hl]; rfl, hA⟩
theorem DDone.addR (hh : DAt w G k p h nr dA dc oA oc bA bc lA lc rA rc) (hf : Fr w G) {rows : List (Array Value)} {row : Array Value} {A' : Option Addr} {c' : Nat} (hl : rows.length = nr)
  (ho : OwnL w' 9 1 A' c' (rows ++ [row])) (hk : Keep (fun b => rA = some ⟨b, 0, none⟩) w w') (hor : RoleOf G rA (k, .dei)) (hA : A' = rA ∨ ∃ g, A' = some ⟨g, 0, none⟩ /\ w.heap.size <= g) :
  DDone w G k p h (nr + 1) (w'.setCell ⟨p, 4, none⟩ (.slice A' (rows.length + 1) c')) (own G A' (k, .dei)) :=
 DDone.grow (by simp) hf hh.rp (heap_lt hh.blk) hor hk hA ho ⟨_, _, _, _, _, _, _, _, _, _, hh.addR hl ho hk hor (own_again hor hA) (own_role _ _ _)⟩
theorem DAt.topL (hh : DAt w G k p h nr dA dc oA oc bA bc lA lc rA rc) {low : List (List Tk)} {ts : List Tk} (hl : h.lev = low ++ [ts]) : ∃ g tA tc, lA = some ⟨g, 0, none⟩ /\ G g = some (k, .lar) /\ low.length + 1 <= lc /\ lc <= maxLen /\ OneAt w 102 ⟨g, low.length, none⟩ (.slice tA ts.length tc) /\ DTks w (Imm G) ts tA tc := by
 obtain ⟨rows, ho, hlr, hr, hv⟩ := hh.lev
 have h1 : low.length < rows.length := by rw [hlr, hl, List.length_append]; exact Nat.lt_succ_self _
 obtain ⟨g, cur, rfl, hg, h5, h6⟩ := ho.addr h1
 obtain ⟨row, hrow⟩ : ∃ row, rows[low.length]? = some row := ⟨_, List.getElem?_eq_getElem h1⟩
 obtain ⟨tA, tc, rfl, h8⟩ := hv low.length ts row (by rw [hl, List.getElem?_concat_length]) hrow
 refine ⟨g, tA, tc, rfl, hr g rfl, by have := ho.cap; omega, ho.max, one_of u102d rfl ?_, h8⟩
 have h9 := ho.cell hrow (j := 0) (x := .slice tA ts.length tc) rfl
 rwa [show low.length * 1 + 0 = low.length by omega] at h9
theorem DAt.putL {g : Nat} (hh : DAt w G k p h nr dA dc oA oc bA bc (some ⟨g, 0, none⟩) lc rA rc) {low : List (List Tk)} {ts ts' : List Tk} (hl : h.lev = low ++ [ts]) {tA : Option Addr} {tc : Nat} (hx : DTks w (Imm G) ts' tA tc) : (w.cell? ⟨g, low.length, none⟩).isSome = true /\ w.frozen? ⟨g, low.length, none⟩ = false /\
  DAt (w.setCell ⟨g, low.length, none⟩ (.slice tA ts'.length tc)) G k p { h with lev := low ++ [ts'] } nr dA dc oA oc bA bc (some ⟨g, 0, none⟩) lc rA rc := by
 obtain ⟨rows, ho, hlr, hr, hv⟩ := hh.lev
 have h1 : low.length < rows.length := by rw [hlr, hl, List.length_append]; exact Nat.lt_succ_self _
 obtain ⟨row, hrow⟩ : ∃ row, rows[low.length]? = some row := ⟨_, List.getElem?_eq_getElem h1⟩
 obtain ⟨h2, h3⟩ := ho.lies hrow (j := 0) (by omega)
 have ho2 := ho.set hrow (j := 0) (by omega) (.slice tA ts'.length tc)
 rw [show low.length * 1 + 0 = low.length by omega] at h2 h3 ho2
 refine ⟨h2, h3, ?_⟩
 have hs1 := (Keep.cellOne w g low.length (.slice tA ts'.length tc)).block
 have hrg := hr g rfl
 have hne : ∀ b r, G b = some (k, r) -> r ≠ .lar -> b ≠ g := fun b r e hr e2 => by rw [e2, hrg] at e; cases e; exact hr rfl
 have hno : ∀ b, G b = none -> b ≠ g := fun b e e2 => by rw [e2, hrg] at e; cases e
 have hll : (low ++ [ts']).length = h.lev.length := by rw [hl]; simp
 refine ⟨?_, hh.rp, hh.obs.same (fun b hb e => by rcases e with e | ⟨i, e⟩ <;> exact hs1 b hb (hne b _ e (by simp))) (fun b hb e => hs1 b hb (hno b e)), hh.bus.same (fun b hb e => by rcases e with e | ⟨i, e⟩ <;> exact hs1 b hb (hne b _ e (by simp))) (fun b hb e => hs1 b hb (hno b e)), ?_, hh.dei.same (fun b hb e => hs1 b hb (hno b e)), ?_⟩
 ·rw [hs1 p (heap_lt hh.blk) (hne p _ hh.rp (by simp))]
  show _ = some (Obj.cells (cellD dA h.dei.length dc oA h.obs.length oc bA h.bus.length bc (some ⟨g, 0, none⟩) (low ++ [ts']).length lc rA nr rc) 92 (0, 0))
  rw [hll]; exact hh.blk
 ·refine ⟨_, ho2, by rw [List.length_set, hlr]; exact hll.symm, hr, fun i ts0 row0 hi hri => ?_⟩
  by_cases e : i = low.length
  ·subst e
   rw [List.getElem?_concat_length] at hi
   rw [List.getElem?_set_self h1] at hri
   cases hi; cases hri
   have hsz := ho.size row (List.mem_of_getElem? hrow)
   refine ⟨tA, tc, ?_, hx.mono (fun _ h => h) fun b hb hlt => hs1 b hlt (hno b hb)⟩
   obtain ⟨l⟩ := row
   match l, hsz with
   | [a], _ => rfl
  ·rw [List.getElem?_set_ne (fun e2 => e e2.symm)] at hri
   have hil : i < low.length := by
    have := (List.getElem?_eq_some_iff.1 hi).1
    rw [List.length_append] at this
    have h9 : [ts'].length = 1 := rfl
    omega
   rw [List.getElem?_append_left hil] at hi
   obtain ⟨tA0, tc0, e1, e2⟩ := hv i ts0 row0 (by rw [hl, List.getElem?_append_left hil]; exact hi) hri
   exact ⟨tA0, tc0, e1, e2.mono (fun _ h => h) fun b hb hlt => hs1 b hlt (hno b hb)⟩
 ·obtain ⟨rows2, ho3, hl2, hr2⟩ := hh.ord
  exact ⟨rows2, ho3.same fun b e hb => hs1 b hb (hne b _ (hr2 b e) (by simp)), hl2, hr2⟩
theorem DAt.dropL (hh : DAt w G k p h nr dA dc oA oc bA bc lA lc rA rc) {low : List (List Tk)} {ts : List Tk} (hl : h.lev = low ++ [ts]) : DAt (w.setCell ⟨p, 3, none⟩ (.slice lA low.length lc)) G k p { h with lev := low } nr dA dc oA oc bA bc lA lc rA rc := by
 obtain ⟨rows, ho, hlr, hr, hv⟩ := hh.lev
 have hset := (dhdr_set (j := 3) (v := .slice lA low.length lc) hh.blk).2.2
 have hs1 := (Keep.cellOne w p 3 (.slice lA low.length lc)).block
 have hne : ∀ b r, G b = some (k, r) -> r ≠ .hdr -> b ≠ p := fun b r e hr e2 => by rw [e2, hh.rp] at e; cases e; exact hr rfl
 have hno : ∀ b, G b = none -> b ≠ p := fun b e e2 => by rw [e2, hh.rp] at e; cases e
 have hlow : (rows.take low.length).length = low.length := by rw [List.length_take, hlr, hl, List.length_append]; omega
 refine ⟨hset, hh.rp, hh.obs.same (fun b hb e => by rcases e with e | ⟨i, e⟩ <;> exact hs1 b hb (hne b _ e (by simp))) (fun b hb e => hs1 b hb (hno b e)), hh.bus.same (fun b hb e => by rcases e with e | ⟨i, e⟩ <;> exact hs1 b hb (hne b _ e (by simp))) (fun b hb e => hs1 b hb (hno b e)), ?_, hh.dei.same (fun b hb e => hs1 b hb (hno b e)), ?_⟩
 ·refine ⟨rows.take low.length, (ho.cut low.length).same fun b e hb => hs1 b hb (hne b _ (hr b e) (by simp)), hlow, hr, fun i ts0 row0 hi hri => ?_⟩
  have hil := (List.getElem?_eq_some_iff.1 hi).1
  rw [List.getElem?_take, if_pos (show i < low.length from hil)] at hri
  obtain ⟨tA0, tc0, e1, e2⟩ := hv i ts0 row0 (by rw [hl, List.getElem?_append_left hil]; exact hi) hri
  exact ⟨tA0, tc0, e1, e2.mono (fun _ h => h) fun b hb hlt => hs1 b hlt (hno b hb)⟩
 ·obtain ⟨rows2, ho3, hl2, hr2⟩ := hh.ord
  exact ⟨rows2, ho3.same fun b e hb => hs1 b hb (hne b _ (hr2 b e) (by simp)), hl2, hr2⟩
end
open Go.RowKit Go.Proofs.Ytpamocglecangaa.Nm
set_option linter.unusedSimpArgs false
theorem built97n (x : Int) (A : Option Addr) (l c : Nat) : Try.prog.built 97 [(0, .int .i64 x), (1, .slice A l c)] = some #[.int .i64 x, .slice A l c] := by kernel_rfl
theorem ex_build97n {ev : Operand -> Value} {o : Oper} {w : World} (c1 y : Operand) (ho : o.op = .build 97 #[(0, c1), (1, y)]) {x : Int} {A : Option Addr} {l c : Nat} (h1 : ev c1 = .int .i64 x) (hy : ev y = .slice A l c) : (execOp ev o).run Try.prog w = .ok (.value (.agg #[.int .i64 x, .slice A l c])) w :=
 ex_build 97 _ ho (by simp only [List.map_cons, List.map_nil, h1, hy]) (built97n x A l c)
def DBR (w wr : World) (l : List Bu) (A : Option Addr) (c : Nat) (rows : List (Array Value)) : Prop := OwnL wr 97 2 A c rows /\ rows.length = l.length /\ (∀ g, A = some ⟨g, 0, none⟩ -> w.heap.size <= g) /\ ∀ (j : Nat) (b : Bu) (row : Array Value), l[j]? = some b -> rows[j]? = some row -> ∃ eA ec, row = #[.int .i64 b.count, .slice eA b.elems.length ec] /\ VsAt wr (fun x => w.heap.size <= x /\ A ≠ some ⟨x, 0, none⟩) b.elems eA b.elems.length ec
theorem DBR.push {w wr W8 W9 : World} {l : List Bu} {A A' : Option Addr} {c c' : Nat} {rows : List (Array Value)} (h : DBR w wr l A c rows) (hz : Below wr.heap.size wr W8) (hw : w.heap.size <= wr.heap.size) {b : Bu} {eA : Option Addr} {ec : Nat} (hv : VsAt W8 (fun x => wr.heap.size <= x) b.elems eA b.elems.length ec) (hown : OwnL W9 97 2 A' c' (rows ++ [#[.int .i64 b.count, .slice eA b.elems.length ec]])) (hk : Keep (fun x => A = some ⟨x, 0, none⟩) W8 W9) (hA : A' = A ∨ ∃ g, A' = some ⟨g, 0, none⟩ /\ W8.heap.size <= g) : DBR w W9 (l ++ [b]) A' c' (rows ++ [#[.int .i64 b.count, .slice eA b.elems.length ec]]) := by
 obtain ⟨ho, hl, hge, hvs⟩ := h
 have hltA : ∀ g, A = some ⟨g, 0, none⟩ -> g < wr.heap.size := fun g e => ho.lt e
 have hsz := hz.size
 refine ⟨hown, by simp [hl], fun g e => ?_, fun i u row hu hr => ?_⟩
 ·rcases hA with e2 | ⟨g', e2, e3⟩
  ·exact hge g (by rw [<- e2]; exact e)
  ·rw [e] at e2; cases e2; omega
 ·rcases Nat.lt_trichotomy i rows.length with e | e | e
  ·rw [List.getElem?_append_left e] at hr
   rw [List.getElem?_append_left (by omega)] at hu
   obtain ⟨fA, fc, e4, e5⟩ := hvs i u row hu hr
   refine ⟨fA, fc, e4, e5.low.mono (D' := fun x => w.heap.size <= x /\ A' ≠ some ⟨x, 0, none⟩) (fun x h9 => ⟨h9.1.1, fun e2 => ?_⟩) fun x h9 _ => (hk.block x (by have := h9.2; omega) fun e2 => h9.1.2 e2).trans (hz.block x h9.2)⟩
   rcases hA with e3 | ⟨g', e3, e6⟩
   ·exact h9.1.2 (by rw [<- e3]; exact e2)
   ·rw [e2] at e3; cases e3; have := h9.2; omega
  ·have e0 : i = l.length := by omega
   rw [e] at hr
   rw [e0] at hu
   rw [List.getElem?_concat_length] at hr hu
   cases hr; cases hu
   refine ⟨eA, ec, rfl, hv.low.mono (D' := fun x => w.heap.size <= x /\ A' ≠ some ⟨x, 0, none⟩) (fun x h9 => ⟨by have := h9.1; omega, fun e2 => ?_⟩) fun x h9 _ => hk.block x h9.2 fun e2 => by have := hltA x e2; have := h9.1; omega⟩
   rcases hA with e3 | ⟨g', e3, e4⟩
   ·have := hltA x (by rw [<- e3]; exact e2); have := h9.1; omega
   ·rw [e2] at e3; cases e3; have := h9.2; omega
  ·rw [List.getElem?_eq_none (by simp; omega)] at hr; cases hr
theorem dBuffers_any {G : Gh} {k p nr : Nat} {h : Hp} {w : World} (hh : DHeapAt w G k p h nr) (hnb : h.bus.length <= 1000000) (hle : ∀ b, b ∈ h.bus -> b.elems.length <= 1000000 /\ ∀ u, u ∈ b.elems -> nodesF u <= 1000000) :
  Calls Try.prog 56 #[.pointer (some ⟨p, 0, none⟩)] w fun e w' => ∃ A c rows, e = .returned (.slice A h.bus.length c) /\ DBR w w' h.bus A c rows /\ Below w.heap.size w w' := by
 obtain ⟨dA, dc, oA, oc, bA, bc, lA, lc, rA, rc, hh⟩ := hh
 have HH := Zi hh
 have HLE := Zi hle
 have HP := Zi hh.blk
 obtain ⟨n, hn⟩ : ∃ n, n = h.bus.length := ⟨_, rfl⟩
 have HN := Zi hn
 rw [<- hn] at HP hnb ⊢
 have hb := Below.refl w.heap.size w
 clear hh hle hn
 go_enter Try.func56, Try.ntmps56
 go_upto_region 0 with fail
 apply Zl
 refine Zm ?_
 go_upto_region 1 with fail
 apply Zl
 refine Zm ?_
 go_upto_region 2 with fail
 apply Zl
 refine Zm ?_
 go_wp2_with fail
 go_loopw [3, 4] (fun s i wr => ∃ (j : Nat) (A9 : Option Addr) (c9 : Nat) (rows : List (Array Value)), j <= n /\ s = .slice A9 j c9 /\ i = .int .i64 (j : Int) /\ Hid (DBR w wr (h.bus.take j) A9 c9 rows) /\ Below w.heap.size w wr) (fun _ i _ => n - (intOf i).toNat)
 case atStart => exact ⟨0, none, 0, [], by omega, rfl, rfl, Zi ⟨OwnL.nil _ _ _, rfl, fun g e => (by cases e), fun j v row _ h => (by simp at h)⟩, hb⟩
 case round =>
  clear hb
  obtain ⟨j, A9, c9, rows, hj, rfl, rfl, HR, hb⟩ := hrel
  have hp := below_look hb HP.out
  go_upto_region 3 with fail
  by_cases hlt : j < n
  ·have hltI : (j : Int) < (n : Int) := by omega
   have hjl : j < h.bus.length := by rw [<- HN.out]; exact hlt
   have ho := List.getElem?_eq_getElem hjl
   obtain ⟨o, hoe⟩ : ∃ o, o = h.bus[j] := ⟨_, rfl⟩
   rw [<- hoe] at ho
   obtain ⟨g, fA, fc, rfl, hgr, hL, hLV, -⟩ := HH.out.buf ho
   have HL := Zi hL
   have hlo := HLE.out o (List.mem_of_getElem? ho)
   have hbz : Below wr.heap.size wr wr.drew := (Below.refl _ _).drew
   obtain ⟨rows5, hro, hrl, hrr, hva⟩ := hLV
   have hvsl := hLVvs (D2 := fun _ => True) hro hrl hva (fun _ _ => trivial) (fun _ _ => trivial)
   have HC := Zi (CopyValues_any o.elems hlo.1 hlo.2 fA o.elems.length fc wr.drew _ (hvsl.old (hb.trans (hbz.mono hb.size))))
   have HTK : Hid (h.bus.take j ++ [o] = h.bus.take (j + 1)) := Zi (by rw [List.take_add_one, ho]; rfl)
   have HRL : Hid (rows.length = j) := Zi (by rw [HR.out.2.1, List.length_take, <- HN.out]; omega)
   clear hgr hL hro hrl hrr hva hvsl hlo ho hoe hjl
   apply Zl
   iterate 4 refine Zm ?_
   refine Zo rfl (dh2 hp) ?_
   iterate 2 refine Zm ?_
   go_upto_region 5 with fail
   refine wp_region_Z (S := Below w.heap.size w) 21 mixed (hb.trans (hbz.mono hb.size)) (fun hS => ?_)
   refine zm 0 hS ?_; try simp only [Zq]
   refine zm 1 hS ?_; try simp only [Zq]
   refine zm 2 hS ?_; try simp only [Zq]
   refine zm 3 hS ?_; try simp only [Zq]
   refine zv4 (i := 4) rfl (by kernel_rfl) Zg hS rfl (fun w' hw' => ex_one rfl (dh2 (below_look hw' HP.out))) ?_; try simp only [Zq]
   refine zm 5 hS ?_; try simp only [Zq]
   refine zm 6 hS ?_; try simp only [Zq]
   refine zm 7 hS ?_; try simp only [Zq]
   refine zv4 (i := 8) rfl (by kernel_rfl) Zg hS rfl (fun w' hw' => ex_one rfl (HL.out w' hw').c) ?_; try simp only [Zq]
   refine zm 9 hS ?_; try simp only [Zq]
   refine zm 10 hS ?_; try simp only [Zq]
   refine zm 11 hS ?_; try simp only [Zq]
   refine zv4 (i := 12) rfl (by kernel_rfl) Zg hS rfl (fun w' hw' => ex_one rfl (dh2 (below_look hw' HP.out))) ?_; try simp only [Zq]
   refine zm 13 hS ?_; try simp only [Zq]
   refine zm 14 hS ?_; try simp only [Zq]
   refine zm 15 hS ?_; try simp only [Zq]
   refine zv4 (i := 16) rfl (by kernel_rfl) Zg hS rfl (fun w' hw' => ex_one rfl (HL.out w' hw').e) ?_; try simp only [Zq]
   refine za_call (i := 17) (by kernel_rfl) rfl rfl (fun K hK => ?_); go_simp; refine ⟨_, _, ⟨rfl, rfl⟩, hK _ _ ⟨_, HC.out, ?_⟩⟩; clear hK K; rintro e w7 ⟨A7, c7, rows7, rfl, ho7, hl7, hA7, hv7, hb7⟩
   have hb7' := hbz.trans (hb7.mono hbz.size)
   have hS7 := hb.trans (hb7'.mono hb.size)
   refine ⟨_, rfl, fun _ => hS7, ?_⟩
   clear hS
   have hS := hS7
   try simp only [Zq]
   have HV7 := Zi ((NewC.vs ho7 hl7 hA7 hv7).weak (D' := fun b => wr.heap.size <= b) fun b (h9 : wr.drew.heap.size <= b) => by have := hbz.size; omega)
   clear ho7 hl7 hA7 hv7 HC hb7 hS7
   refine zv4 (i := 18) rfl (by kernel_rfl) Zg hS rfl (fun w' hw' => ex_build97n _ _ rfl rfl rfl) ?_; try simp only [Zq]
   refine za_new (i := 19) (v := fun q => .slice (some ⟨q, 0, none⟩) 1 1) (by kernel_rfl) rfl rfl (ex_bs78 _ rfl rfl) (fun W hW => hS.trans (hW.mono hS.size)) ?_
   clear hS
   intro W8 q8 hbn hlq8 hq8 hS
   try simp only [Zq]
   have HZ := Zi (hb7'.trans (hbn.mono hb7'.size))
   have HO8 := Zi (HR.out.1.old HZ.out)
   have HV8 := Zi (HV7.out.old hbn)
   refine za_pushL (i := 20) elt78 (by kernel_rfl) rfl rfl _ _ rfl (show _ = Value.slice A9 rows.length c9 by rw [HRL.out]; rfl) rfl HO8.out hq8 rfl (by simp [Value.oneCell']) (by have := HRL.out; omega) (by have := HRL.out; unfold maxLen; omega) (fun w' hk => Below.keep hS hk (fun b e => HR.out.2.2.1 b e)) ?_
   clear hS
   intro A' c' W9 hown hk9 hA9 hS
   rw [HRL.out]
   try simp only [Zq]
   have hcr := HR.out.push HZ.out hb.size HV8.out hown hk9 hA9
   rw [HTK.out] at hcr
   have HR9 := Zi hcr
   have hb9 := hS
   clear hown hk9 hA9 hcr HR HZ HO8 HV8 HV7 hbn hb7' hbz hq8 hb hp
   refine zn 21 hS ?_; try simp only [Zq]
   clear hS
   refine za_done (by kernel_rfl) ?_ _
   go_wp2_with fail
   go_roundw
   case rel => exact ⟨j + 1, A', c', _, by omega, rfl, by go_num, HR9, hb9⟩
   case measure => simp [intOf]; omega
  ·have hltI : ¬ (j : Int) < (n : Int) := by omega
   have hjn : j = n := by omega
   subst hjn
   have HR2 : Hid (DBR w wr h.bus A9 c9 rows) := Zi (by have := HR.out; rwa [List.take_of_length_le (by rw [HN.out]; exact Nat.le_refl _)] at this)
   apply Zl
   iterate 4 refine Zm ?_
   refine Zo rfl (dh2 hp) ?_
   iterate 2 refine Zm ?_
   go_upto_region 6 with fail
   apply Zl
   iterate 2 refine Zm ?_
   go_wp2_with fail
   go_ret
   exact ⟨A9, c9, rfl, ⟨rows, HR2.out⟩, hb⟩
def DOR (w wr : World) (l : List Ob) (A : Option Addr) (c : Nat) (rows : List (Array Value)) : Prop := OwnL wr 41 8 A c rows /\ rows.length = l.length /\ (∀ g, A = some ⟨g, 0, none⟩ -> w.heap.size <= g) /\ ∀ (j : Nat) (b : Ob) (row : Array Value), l[j]? = some b -> rows[j]? = some row -> ∃ tr eA ec, row = cell8 tr b.state b.count b.weak eA b.fields.length ec /\ TyAt wr (fun x => w.heap.size <= x /\ A ≠ some ⟨x, 0, none⟩) b.t tr /\ VsAt wr (fun x => w.heap.size <= x /\ A ≠ some ⟨x, 0, none⟩) b.fields eA b.fields.length ec
theorem DOR.push {w wr W8 W9 : World} {l : List Ob} {A A' : Option Addr} {c c' : Nat} {rows : List (Array Value)} (h : DOR w wr l A c rows) (hz : Below wr.heap.size wr W8) (hw : w.heap.size <= wr.heap.size) {b : Ob} {tr : Array Value} {eA : Option Addr} {ec : Nat} (ht : TyAt W8 (fun x => wr.heap.size <= x) b.t tr) (hv : VsAt W8 (fun x => wr.heap.size <= x) b.fields eA b.fields.length ec) (hown : OwnL W9 41 8 A' c' (rows ++ [cell8 tr b.state b.count b.weak eA b.fields.length ec])) (hk : Keep (fun x => A = some ⟨x, 0, none⟩) W8 W9) (hA : A' = A ∨ ∃ g, A' = some ⟨g, 0, none⟩ /\ W8.heap.size <= g) : DOR w W9 (l ++ [b]) A' c' (rows ++ [cell8 tr b.state b.count b.weak eA b.fields.length ec]) := by
 obtain ⟨ho, hl, hge, hvs⟩ := h
 have hltA : ∀ g, A = some ⟨g, 0, none⟩ -> g < wr.heap.size := fun g e => ho.lt e
 have hsz := hz.size
 have f1 : ∀ x, (w.heap.size <= x /\ A ≠ some ⟨x, 0, none⟩) /\ x < wr.heap.size -> w.heap.size <= x /\ A' ≠ some ⟨x, 0, none⟩ := fun x h9 => ⟨h9.1.1, fun e2 => by
  rcases hA with e3 | ⟨g', e3, e6⟩
  ·exact h9.1.2 (by rw [<- e3]; exact e2)
  ·rw [e2] at e3; cases e3; have := h9.2; omega⟩
 have f2 : ∀ x, (w.heap.size <= x /\ A ≠ some ⟨x, 0, none⟩) /\ x < wr.heap.size -> W9.heap[x]? = wr.heap[x]? := fun x h9 => (hk.block x (by have := h9.2; omega) fun e2 => h9.1.2 e2).trans (hz.block x h9.2)
 have f3 : ∀ x, wr.heap.size <= x /\ x < W8.heap.size -> w.heap.size <= x /\ A' ≠ some ⟨x, 0, none⟩ := fun x h9 => ⟨by have := h9.1; omega, fun e2 => by
  rcases hA with e3 | ⟨g', e3, e4⟩
  ·have := hltA x (by rw [<- e3]; exact e2); have := h9.1; omega
  ·rw [e2] at e3; cases e3; have := h9.2; omega⟩
 have f4 : ∀ x, wr.heap.size <= x /\ x < W8.heap.size -> W9.heap[x]? = W8.heap[x]? := fun x h9 => hk.block x h9.2 fun e2 => by have := hltA x e2; have := h9.1; omega
 refine ⟨hown, by simp [hl], fun g e => ?_, fun i u row hu hr => ?_⟩
 ·rcases hA with e2 | ⟨g', e2, e3⟩
  ·exact hge g (by rw [<- e2]; exact e)
  ·rw [e] at e2; cases e2; omega
 ·rcases Nat.lt_trichotomy i rows.length with e | e | e
  ·rw [List.getElem?_append_left e] at hr
   rw [List.getElem?_append_left (by omega)] at hu
   obtain ⟨t0, fA, fc, e4, e5, e6⟩ := hvs i u row hu hr
   exact ⟨t0, fA, fc, e4, (e5.low.weak (D' := fun x => (w.heap.size <= x /\ A ≠ some ⟨x, 0, none⟩) /\ x < wr.heap.size) fun x h => h).mono f1 f2, e6.low.mono f1 fun x h9 _ => f2 x h9⟩
  ·have e0 : i = l.length := by omega
   rw [e] at hr
   rw [e0] at hu
   rw [List.getElem?_concat_length] at hr hu
   cases hr; cases hu
   exact ⟨tr, eA, ec, rfl, (ht.low.weak (D' := fun x => wr.heap.size <= x /\ x < W8.heap.size) fun x h => h).mono f3 f4, hv.low.mono f3 fun x h9 _ => f4 x h9⟩
  ·rw [List.getElem?_eq_none (by simp; omega)] at hr; cases hr
theorem ex_all41 {o : Oper} (ho : o.op = .alloc 41) (ev : Operand -> Value) (w : World) : (execOp ev o).run Try.prog w = .ok (.value (.pointer (some ⟨w.heap.size, 0, none⟩))) (w.alloc (.cells zrow8 41)) := by
 unfold execOp
 simp only [ho]
 kernel_rfl
theorem cell8_tyS {tr tr' : Array Value} {s c k : Int} {A : Option Addr} {l m : Nat} (h : tr.size = 4) (h' : tr'.size = 4) : putN (cell8 tr s c k A l m) 0 tr' = cell8 tr' s c k A l m := by
 obtain ⟨l0⟩ := tr
 obtain ⟨l1⟩ := tr'
 match l0, h, l1, h' with
 | [a, b, c, d], _, [a', b', c', d'], _ => rfl
theorem cell8_pre {tr : Array Value} {s c k : Int} {A : Option Addr} {l m : Nat} (h : tr.size = 4) : (cell8 tr s c k A l m).extract 0 (0 + 4) = tr := by
 obtain ⟨l0⟩ := tr
 match l0, h with
 | [a, b, c, d], _ => rfl
theorem cell8_one {tr : Array Value} (h : tr.all (·.oneCell') = true) {s c k : Int} {A : Option Addr} {l m : Nat} : (cell8 tr s c k A l m).all (·.oneCell') = true := by
 unfold cell8
 rw [Array.all_append, h]
 simp [Value.oneCell']
theorem dObjects_any {G : Gh} {k p nr : Nat} {h : Hp} {w : World} (hh : DHeapAt w G k p h nr) (hnb : h.obs.length <= 1000000) (hle : ∀ b, b ∈ h.obs -> b.t.nodes <= 1000000 /\ b.fields.length <= 1000000 /\ ∀ u, u ∈ b.fields -> nodesF u <= 1000000) :
  Calls Try.prog 55 #[.pointer (some ⟨p, 0, none⟩)] w fun e w' => ∃ A c rows, e = .returned (.slice A h.obs.length c) /\ DOR w w' h.obs A c rows /\ Below w.heap.size w w' := by
 obtain ⟨dA, dc, oA, oc, bA, bc, lA, lc, rA, rc, hh⟩ := hh
 have HH := Zi hh
 have HLE := Zi hle
 have HP := Zi hh.blk
 obtain ⟨n, hn⟩ : ∃ n, n = h.obs.length := ⟨_, rfl⟩
 have HN := Zi hn
 rw [<- hn] at HP hnb ⊢
 have hb := Below.refl w.heap.size w
 have hz8 : zrow8.size = 8 := rfl
 clear hh hle hn
 go_enter Try.func55, Try.ntmps55
 go_upto_region 0 with fail
 apply Zl
 refine Zm ?_
 go_upto_region 1 with fail
 apply Zl
 refine Zm ?_
 go_upto_region 2 with fail
 apply Zl
 refine Zm ?_
 go_wp2_with fail
 go_loopw [3, 4] (fun s i wr => ∃ (j : Nat) (A9 : Option Addr) (c9 : Nat) (rows : List (Array Value)), j <= n /\ s = .slice A9 j c9 /\ i = .int .i64 (j : Int) /\ Hid (DOR w wr (h.obs.take j) A9 c9 rows) /\ Below w.heap.size w wr) (fun _ i _ => n - (intOf i).toNat)
 case atStart => exact ⟨0, none, 0, [], by omega, rfl, rfl, Zi ⟨OwnL.nil _ _ _, rfl, fun g e => (by cases e), fun j v row _ h => (by simp at h)⟩, hb⟩
 case round =>
  clear hb
  obtain ⟨j, A9, c9, rows, hj, rfl, rfl, HR, hb⟩ := hrel
  have hp := below_look hb HP.out
  go_upto_region 3 with fail
  by_cases hlt : j < n
  ·have hltI : (j : Int) < (n : Int) := by omega
   have hjl : j < h.obs.length := by rw [<- HN.out]; exact hlt
   have ho := List.getElem?_eq_getElem hjl
   obtain ⟨o, hoe⟩ : ∃ o, o = h.obs[j] := ⟨_, rfl⟩
   rw [<- hoe] at ho
   obtain ⟨g, rows0, rfl, hR⟩ := HH.out.obs.rows ho
   have hr0 : rows0[j]? = some (rows0[j]'(by rw [hR.len]; exact hjl)) := List.getElem?_eq_getElem _
   obtain ⟨row, hrow⟩ : ∃ row, row = rows0[j]'(by rw [hR.len]; exact hjl) := ⟨_, rfl⟩
   rw [<- hrow] at hr0
   obtain ⟨tr, fA, fc, hx⟩ := hR.all j o row ho hr0
   have ht4 := hx.ty.size
   have ht1 := ty_one hx.ty
   have heq := hx.eq
   subst heq
   have h8 := (cell8_at ht4 o.state o.count o.weak fA o.fields.length fc).1
   have h81 := cell8_one ht1 (s := o.state) (c := o.count) (k := o.weak) (A := fA) (l := o.fields.length) (m := fc)
   obtain ⟨cur, hcur, -, -, hext, -⟩ := (hR.own.old hb).at hr0
   have HRW := Zi (row_mid (n := 8) hcur hext Go.Proofs.Ytpamocglecangaa.u41 rfl h8 info41)
   have hlo := HLE.out o (List.mem_of_getElem? ho)
   obtain ⟨rows5, hro, hrl, hrr, hva⟩ := hx.fld
   have HVS := Zi (hLVvs (D2 := fun _ => True) hro hrl hva (fun _ _ => trivial) (fun _ _ => trivial))
   have HTY := Zi hx.ty
   have HLO := Zi hlo
   have HTK : Hid (h.obs.take j ++ [o] = h.obs.take (j + 1)) := Zi (by rw [List.take_add_one, ho]; rfl)
   have HRL : Hid (rows.length = j) := Zi (by rw [HR.out.2.1, List.length_take, <- HN.out]; omega)
   have hzz := Below.refl wr.heap.size wr
   clear hcur hext hro hrl hrr hva hlo ho hoe hjl hr0 hrow hx hR
   apply Zl
   iterate 4 refine Zm ?_
   refine Zo rfl (dh1 hp) ?_
   iterate 2 refine Zm ?_
   go_upto_region 5 with fail
   apply Zl
   iterate 3 refine Zm ?_
   refine Zo rfl (dh1 hp) ?_
   iterate 2 refine Zm ?_
   refine Zw rfl (HRW.out) ?_
   refine wl_newv (fun q => .pointer (some ⟨q, 0, none⟩)) rfl (ex_all41 rfl _ _) ?_
   intro W5 q hbn hlq hq
   simp only [Zq]
   replace hzz := hzz.trans (hbn.mono hzz.size)
   clear hbn
   (with_reducible refine wl_putN info41 h8 h81 rfl rfl hq (by rw [h8, hz8]; omega) ?_); rw [put_noneA]; intro W6 hbx hsz hkx hnx
   replace hzz := hbx _ _ (by omega) hzz
   rw [putN_whole (by rw [h8, hz8])] at hnx
   clear hq hbx hsz hkx
   have hq := hnx
   clear hnx
   have HC1 := Zi (CopyType_any o.t HLO.out.1 W6 _ _ (HTY.out.old (hb.trans (hzz.mono hb.size))))
   go_upto_region 6 with fail
   apply Zl
   refine Zm ?_
   refine Zw rfl (row_mid (n := 4) hq (cell8_pre ht4) Go.Proofs.Ytpamocglecangaa.u24 rfl ht4 info24) ?_
   refine Zn HC1.out ?_; rintro e w7 ⟨row7, rfl, hty7, hb7⟩; refine ⟨_, rfl, ?_⟩; simp only [Zq]
   have hs7 := hty7.size
   have h17 := ty_one hty7
   have hlq7 := heap_lt hq
   have HT7 : Hid (TyAt w7 (fun b => wr.heap.size <= b /\ b ≠ q) o.t row7) := Zi (hty7.weak fun b (h9 : W6.heap.size <= b) => ⟨by have := hzz.size; omega, by omega⟩)
   clear hty7 HC1
   replace hq := below_look hb7 hq; replace hzz := hzz.trans (hb7.mono hzz.size); clear hb7
   refine Zm ?_
   (with_reducible refine wl_putN info24 hs7 h17 rfl rfl hq (by rw [hs7, h8]; omega) ?_); rw [put_noneA]; intro W8 hbx hsz hkx hnx; replace hzz := hbx _ _ (by omega) hzz; clear hq; have hq := hnx; clear hnx
   rw [cell8_tyS ht4 hs7] at hq
   replace HT7 := Zi (HT7.out.mono (fun _ h => h) (fun b h9 => hkx b h9.2))
   clear hbx hsz hkx
   have HC2 := Zi (CopyValues_any o.fields HLO.out.2.1 HLO.out.2.2 fA o.fields.length fc W8 _ (HVS.out.old (hb.trans (hzz.mono hb.size))))
   have hA8 := cell8_at hs7 o.state o.count o.weak fA o.fields.length fc
   go_upto_region 7 with fail
   apply Zl
   refine Zm ?_
   refine Zo rfl (one_of Go.Proofs.Ytpamocglecangaa.u33 rfl (by rw [cell_of_row _ _ _ _ _ _ hq]; exact hA8.2.2.2.2)) ?_
   refine Zn HC2.out ?_; rintro e w9 ⟨A7, c7, rows7, rfl, ho7, hl7, hA7, hv7, hb9⟩; refine ⟨_, rfl, ?_⟩; simp only [Zq]
   have hlq9 := heap_lt hq
   have HV9 : Hid (VsAt w9 (fun b => wr.heap.size <= b /\ b ≠ q) o.fields A7 o.fields.length c7) := Zi ((NewC.vs ho7 hl7 hA7 hv7).weak fun b (h9 : W8.heap.size <= b) => ⟨by have := hzz.size; omega, by omega⟩)
   replace HT7 := Zi (HT7.out.old hb9)
   clear ho7 hl7 hA7 hv7 HC2
   replace hq := below_look hb9 hq; replace hzz := hzz.trans (hb9.mono hzz.size); clear hb9
   refine Zm ?_
   (with_reducible refine wl_putC (v := .slice A7 o.fields.length c7) info33e rfl rfl rfl hq (by rw [hA8.1]; omega) ?_); rw [put_noneA]; intro W10 hbx hsz hkx hnx; replace hzz := hbx _ _ (by omega) hzz; clear hq; have hq := hnx; clear hnx
   rw [(cell8_set hs7 o.state o.count o.weak fA o.fields.length fc 0 A7 o.fields.length c7).2.2.2] at hq
   replace HT7 := Zi (HT7.out.mono (D' := fun b => wr.heap.size <= b) (fun _ h => h.1) (fun b h9 => hkx b h9.2))
   replace HV9 := Zi (HV9.out.mono (D' := fun b => wr.heap.size <= b) (fun _ h => h.1) (fun b h9 _ => hkx b h9.2))
   clear hbx hsz hkx hA8
   have hB8 := (cell8_at hs7 o.state o.count o.weak A7 o.fields.length c7).1
   have hB1 := cell8_one h17 (s := o.state) (c := o.count) (k := o.weak) (A := A7) (l := o.fields.length) (m := c7)
   go_upto_region 8 with fail
   apply Zl
   refine Zm ?_
   refine Zw rfl (row_mid (n := 8) hq (by simp [<- hB8]) Go.Proofs.Ytpamocglecangaa.u41 rfl hB8 info41) ?_
   refine wl_newv (fun q => .slice (some ⟨q, 0, none⟩) 1 1) rfl (ex_bs38 _ rfl rfl hB8) ?_
   intro W11 q8 hbn hlq8 hq8
   simp only [Zq]
   have HZ := Zi (hzz.trans (hbn.mono hzz.size))
   have HO8 := Zi (HR.out.1.old HZ.out)
   have HT8 := Zi (HT7.out.old hbn)
   have HV8 := Zi (HV9.out.old hbn)
   have hb8 := hb.trans (HZ.out.mono hb.size)
   clear hbn hq
   refine wl_pushL elt38 rfl _ _ rfl (show _ = Value.slice A9 rows.length c9 by rw [HRL.out]; rfl) rfl HO8.out hq8 hB8 hB1 (by have := HRL.out; omega) (by have := HRL.out; unfold maxLen; omega) ?_
   rw [HRL.out]
   intro A' c' W12 hown hk9 hA9
   have hb9 := Below.keep hb8 hk9 (fun b e => HR.out.2.2.1 b e)
   have hcr := HR.out.push HZ.out hb.size HT8.out HV8.out hown hk9 hA9
   rw [HTK.out] at hcr
   have HR9 := Zi hcr
   clear hown hk9 hA9 hcr HR HZ HO8 HT8 HV8 HT7 HV9 hb8 hq8 hb hp hzz
   simp only [Zq]
   refine Zm ?_
   go_wp2_with fail
   go_roundw
   case rel => exact ⟨j + 1, A', c', _, by omega, rfl, by go_num, HR9, hb9⟩
   case measure => simp [intOf]; omega
  ·have hltI : ¬ (j : Int) < (n : Int) := by omega
   have hjn : j = n := by omega
   subst hjn
   have HR2 : Hid (DOR w wr h.obs A9 c9 rows) := Zi (by have := HR.out; rwa [List.take_of_length_le (by rw [HN.out]; exact Nat.le_refl _)] at this)
   apply Zl
   iterate 4 refine Zm ?_
   refine Zo rfl (dh1 hp) ?_
   iterate 2 refine Zm ?_
   go_upto_region 9 with fail
   apply Zl
   iterate 2 refine Zm ?_
   go_wp2_with fail
   go_ret
   exact ⟨A9, c9, rfl, ⟨rows, HR2.out⟩, hb⟩
def DStep (w : World) (G : Gh) (k p nr : Nat) (r : Hp × List Tk × Option Va) (e : Ending) (w' : World) : Prop :=
 ∃ M mc G' rv nr', e = .returned (.tuple #[.slice M r.2.1.length mc, .bool r.2.2.isSome, .agg rv]) /\ DTks w' (Imm G') r.2.1 M mc /\ DDone w G k p r.1 nr' w' G' /\ nr' <= nr + 1 /\ rv.size = 9 /\ rv.all (·.oneCell') = true /\ ∀ u, r.2.2 = some u -> VAt w' (Imm G') u rv
theorem resD {fn : Func} {p q s : Tmp} (h : fn.results = #[.tmp q, .tmp s, .cell p 35]) (tmps : Array Value) (w : World) (g : Nat) (hp : tmps.getD p undef = .pointer (some ⟨g, 0, none⟩)) {row : Array Value} {x y : Value} (hq : tmps.getD q undef = x) (hr : tmps.getD s undef = y) (hs : row.size = 9) (hg : w.heap[g]? = some (.cells row 35 (0, 0))) : (results fn tmps).run Try.prog w = .ok (.tuple #[x, y, .agg row]) w := by
 have hp' : tmps[p]?.getD undef = .pointer (some ⟨g, 0, none⟩) := by simpa using hp
 have hq' : tmps[q]?.getD undef = x := by simpa using hq
 have hr' : tmps[s]?.getD undef = y := by simpa using hr
 have l1 : (loadVar 35 ⟨g, 0, none⟩).run Try.prog w = .ok (.agg row) w := by
  have : RowAt w 35 ⟨g, 0, none⟩ row := row_mid (n := 9) hg (by simp [<- hs]) u35 rfl hs info35
  unfold RowAt at this; exact this
 unfold results
 simp [h, hp', hq', hr', asAddr, l1, Result.andThen]
theorem run_box125 (row : Array Value) (w : World) : (Instr.box 125 (.agg row)).run Try.prog w = .ok (.pointer (some ⟨w.heap.size, 0, none⟩)) (w.alloc (.cells row 125)) := by kernel_rfl
theorem ex_box125 {ev : Operand -> Value} {o : Oper} {w : World} (x : Operand) (ho : o.op = .box 125 x) {row : Array Value} (hx : ev x = .agg row) :
  (execOp ev o).run Try.prog w = .ok (.value (.pointer (some ⟨w.heap.size, 0, none⟩))) (w.alloc (.cells row 125)) := by
 unfold execOp
 simp [ho, hx, run_box125 row w, Result.andThen]
def frow (o i : Nat) : Array Value := #[.bool true] ++ zrow ++ #[.int .i64 (o : Int), .int .i64 (i : Int)]
theorem frow_size (o i : Nat) : (frow o i).size = 12 := rfl
theorem u4d : Try.prog.underlying 4 = some .bool := by kernel_rfl
section
variable {w : World} {q : Nat} {rv : Array Value} {t : TypeId} {fr : Nat × Nat}
theorem dt0 (hq : w.heap[q]? = some (.cells (drow rv) t fr)) : OneAt w 4 ⟨q, 0, none⟩ (.bool false) := one_of u4d rfl (by
 rw [cell_of_row _ _ _ _ _ _ hq]
 unfold drow
 rw [Array.getElem?_append_left (by simp; omega), Array.getElem?_append_left (by simp)]; rfl)
theorem dt1 (hq : w.heap[q]? = some (.cells (drow rv) t fr)) (hs : rv.size = 9) : RowAt w 35 ⟨q, 1, none⟩ rv := row_mid (n := 9) hq (by
 obtain ⟨l⟩ := rv
 match l, hs with
 | [a0, a1, a2, a3, a4, a5, a6, a7, a8], _ => rfl) u35 rfl hs info35
variable {o i : Nat}
theorem df0 (hq : w.heap[q]? = some (.cells (frow o i) t fr)) : OneAt w 4 ⟨q, 0, none⟩ (.bool true) := one_of u4d rfl (by rw [cell_of_row _ _ _ _ _ _ hq]; rfl)
theorem df2 (hq : w.heap[q]? = some (.cells (frow o i) t fr)) : OneAt w 3 ⟨q, 10, none⟩ (.int .i64 (o : Int)) := one_of u3 rfl (by rw [cell_of_row _ _ _ _ _ _ hq]; rfl)
theorem df3 (hq : w.heap[q]? = some (.cells (frow o i) t fr)) : OneAt w 3 ⟨q, 11, none⟩ (.int .i64 (i : Int)) := one_of u3 rfl (by rw [cell_of_row _ _ _ _ _ _ hq]; rfl)
end
theorem built125f (o i : Int) : Try.prog.built 125 [(0, .bool true), (2, .int .i64 o), (3, .int .i64 i)] = some (#[.bool true] ++ zrow ++ #[.int .i64 o, .int .i64 i]) := by kernel_rfl
theorem ex_build125f {ev : Operand -> Value} {oi : Oper} {w : World} (z x y : Operand) (ho : oi.op = .build 125 #[(0, z), (2, x), (3, y)]) {o i : Nat} {oz iz : Int} (hz : ev z = .bool true) (hx : ev x = .int .i64 oz) (hy : ev y = .int .i64 iz) (h1 : oz = (o : Int)) (h2 : iz = (i : Int)) :
  (execOp ev oi).run Try.prog w = .ok (.value (.agg (frow o i))) w := by
 subst h1 h2
 exact ex_build 125 _ ho (by simp only [List.map_cons, List.map_nil, hx, hy, hz]) (built125f (o : Int) (i : Int))
theorem built125g (o : Int) : Try.prog.built 125 [(0, .bool true), (2, .int .i64 o)] = some (#[.bool true] ++ zrow ++ #[.int .i64 o, .int .i64 0]) := by kernel_rfl
theorem ex_build125g {ev : Operand -> Value} {oi : Oper} {w : World} (z x : Operand) (ho : oi.op = .build 125 #[(0, z), (2, x)]) {o : Nat} (hz : ev z = .bool true) (hx : ev x = .int .i64 (o : Int)) :
  (execOp ev oi).run Try.prog w = .ok (.value (.agg (frow o 0))) w := ex_build 125 _ ho (by simp only [List.map_cons, List.map_nil, hx, hz]) (built125g (o : Int))
theorem run_bs102t (a0 a1 a2 a3 a4 a5 a6 a7 a8 a9 a10 a11 b0 b1 b2 b3 b4 b5 b6 b7 b8 b9 b10 b11 : Value) (w : World) : (Instr.buildSlice 102 2 #[(0, .agg #[a0, a1, a2, a3, a4, a5, a6, a7, a8, a9, a10, a11]), (1, .agg #[b0, b1, b2, b3, b4, b5, b6, b7, b8, b9, b10, b11])]).run Try.prog w = .ok (.slice (some ⟨w.heap.size, 0, none⟩) 2 2) (w.alloc (.cells #[a0, a1, a2, a3, a4, a5, a6, a7, a8, a9, a10, a11, b0, b1, b2, b3, b4, b5, b6, b7, b8, b9, b10, b11] 125)) := by kernel_rfl
theorem ex_bs102t {ev : Operand -> Value} {o : Oper} {w : World} (x y : Operand) (ho : o.op = .buildSlice 102 2 #[(0, x), (1, y)]) {r1 r2 : Array Value} (hx : ev x = .agg r1) (hy : ev y = .agg r2) (h1 : r1.size = 12) (h2 : r2.size = 12) :
  (execOp ev o).run Try.prog w = .ok (.value (.slice (some ⟨w.heap.size, 0, none⟩) 2 2)) (w.alloc (.cells (r1 ++ r2) 125)) := by
 obtain ⟨l1⟩ := r1
 obtain ⟨l2⟩ := r2
 match l1, h1, l2, h2 with
 | [a0, a1, a2, a3, a4, a5, a6, a7, a8, a9, a10, a11], _, [b0, b1, b2, b3, b4, b5, b6, b7, b8, b9, b10, b11], _ =>
  unfold execOp
  have := run_bs102t a0 a1 a2 a3 a4 a5 a6 a7 a8 a9 a10 a11 b0 b1 b2 b3 b4 b5 b6 b7 b8 b9 b10 b11 w
  simp [ho, hx, hy, this, Result.andThen]
section
variable {w : World} {D : Nat -> Prop} {q : Nat} {t1 t2 : Tk} {r1 r2 : Array Value} {ty : TypeId} {fr : Nat × Nat}
theorem DTks.nothing (w : World) (D : Nat -> Prop) : DTks w D [] none 0 := ⟨Nat.le_refl _, Nat.zero_le _, fun _ => ⟨rfl, rfl⟩, fun i t hi => by simp at hi⟩
theorem ext_first {r1 r2 : Array Value} (h : r1.size = 12) : (r1 ++ r2).extract (0 + 0 * 12) (0 + 0 * 12 + 12) = r1 := by
 apply Array.ext'
 rw [Array.toList_extract, List.extract_eq_take_drop, Array.toList_append, show 0 + 0 * 12 + 12 - (0 + 0 * 12) = r1.toList.length by rw [Array.length_toList, h], show 0 + 0 * 12 = 0 from rfl, List.drop_zero, List.take_left]
theorem ext_second {r1 r2 : Array Value} (h : r1.size = 12) (h2 : r2.size = 12) : (r1 ++ r2).extract (0 + 1 * 12) (0 + 1 * 12 + 12) = r2 := by
 apply Array.ext'
 rw [Array.toList_extract, List.extract_eq_take_drop, Array.toList_append, show 0 + 1 * 12 + 12 - (0 + 1 * 12) = r2.toList.length by rw [Array.length_toList, h2], show 0 + 1 * 12 = r1.toList.length by rw [Array.length_toList, h], List.drop_left, List.take_length]
theorem DTks.two (hq : w.heap[q]? = some (.cells (r1 ++ r2) ty fr)) (hD : D q) (h1 : DTkAt w D t1 r1) (h2 : DTkAt w D t2 r2) : DTks w D [t1, t2] (some ⟨q, 0, none⟩) 2 := ⟨Nat.le_refl _, by unfold maxLen; omega, fun e => (by cases e), fun i t hi => by
 have hs1 := h1.row.1
 have hs2 := h2.row.1
 match i, hi with
 | 0, hi =>
  cases hi
  exact ⟨q, 0, _, ty, fr, r1, rfl, hD, hq, ext_first hs1, hs1, h1⟩
 | 1, hi =>
  cases hi
  exact ⟨q, 0, _, ty, fr, r2, rfl, hD, hq, ext_second hs1 hs2, hs2, h2⟩⟩
theorem DTks.one (hq : w.heap[q]? = some (.cells r1 ty fr)) (hD : D q) (h1 : DTkAt w D t1 r1) : DTks w D [t1] (some ⟨q, 0, none⟩) 1 := ⟨Nat.le_refl _, by unfold maxLen; omega, fun e => (by cases e), fun i t hi => by
 have hs1 := h1.row.1
 match i, hi with
 | 0, hi =>
  cases hi
  exact ⟨q, 0, _, ty, fr, r1, rfl, hD, hq, by simp [<- hs1], hs1, h1⟩⟩
theorem TkR.tks {l : List Va} {rows : List (Array Value)} {A : Option Addr} {c : Nat} (ho : OwnL w 125 12 A c rows) (hr : TkR w D l rows) (hD : ∀ g, A = some ⟨g, 0, none⟩ -> D g) : DTks w D (l.map .val) A c := by
 refine ⟨by rw [List.length_map, <- hr.1]; exact ho.cap, ho.max, fun e => ?_, fun i t hi => ?_⟩
 ·rcases ho.el with ⟨-, e2, e3⟩ | ⟨g, cur, e2, -⟩
  ·have := hr.1
   rw [e2] at this
   exact ⟨by rw [List.length_eq_zero_iff.1 this.symm]; rfl, e3⟩
  ·rw [e] at e2; cases e2
 ·rw [List.getElem?_map] at hi
  obtain ⟨v, hv, rfl⟩ := Option.map_eq_some_iff.1 hi
  have hil := (List.getElem?_eq_some_iff.1 hv).1
  have hrl : i < rows.length := by rw [hr.1]; exact hil
  obtain ⟨g, cur, rfl, hg, h5, h6⟩ := ho.addr hrl
  have hrow := List.getElem?_eq_getElem hrl
  obtain ⟨rv, e1, e2⟩ := hr.2 i v _ hv hrow
  refine ⟨g, 0, cur, 125, (0, 0), _, rfl, hD g rfl, hg, ?_, ho.size _ (List.mem_of_getElem? hrow), rv, e1, e2⟩
  rw [Nat.zero_add]
  exact h6 i _ hrow
end
section
variable {md : Region.Mode} {ops : Array Oper} {Q : Exit -> Act -> World -> Prop} {S : World -> Prop} {c fuel : Nat} {listed : Array Bool} {a : Act} {w : World} {i : Nat} {oi : Oper}
theorem za_makeL {ty sty : TypeId} {sz by0 : Nat} {z : Array Value} (he : Elt sty ty sz by0 z) (hr : Region.ready md ops listed = [i]) (ho : ops[i]? = some oi) (hg : Region.wanted oi (yielded ops a.tmps) = true) (x y : Operand) (hop : oi.op = .makeSlice sty x y) {n cc : Nat} (hx : a.eval x = .int .i64 (n : Int)) (hy : a.eval y = .int .i64 (cc : Int)) (hn : n <= cc) (hc : cc * by0 <= 140737488355328) (hm : cc <= maxLen)
  (hS : ∀ W, Below w.heap.size w W -> S W)
  (hK : ∀ W p, Below w.heap.size w W -> w.heap.size <= p -> p < W.heap.size -> OwnL W ty sz (some ⟨p, 0, none⟩) cc (List.replicate n z) -> S W -> wpAnyZ Try.prog md ops Q S c fuel (listed.setIfInBounds i true) (a.put oi.dst (.slice (some ⟨p, 0, none⟩) n cc)) W) : wpAnyZ Try.prog md ops Q S c (fuel + 1) listed a w := by
 obtain ⟨w', hr2, h2, h3, h4⟩ := run_makeL he w n cc hn hc hm
 refine za_do hr ho hg (w2 := w') (v := .slice (some ⟨w.heap.size, 0, none⟩) n cc) ?_ (fun _ => hS w' h2) (hK w' _ h2 (Nat.le_refl _) h4 h3 (hS w' h2))
 unfold execOp
 simp only [hop, Sem.run_bind, Sem.run_pure, Result.andThen_ok, hx, hy, hr2]
end
open Go.RowKit Go.Proofs.Ytpamocglecangaa.Nm
set_option linter.unusedSimpArgs false
theorem row_eqv {w : World} {t : TypeId} {ad : Addr} {x y : Array Value} (h1 : RowAt w t ad x) (h2 : RowAt w t ad y) : x = y := by
 unfold RowAt at h1 h2
 rw [h1] at h2
 cases h2; rfl
theorem DStep_flds {G : Gh} {k p nr : Nat} {h : Hp} {w : World} (hh : DHeapAt w G k p h nr) (hf : Fr w G) {o i : Nat} (hol : o < h.obs.length) (hfl : ∀ ob, ob ∈ h.obs -> ob.fields.length <= 1000000 /\ ∀ u, u ∈ ob.fields -> nodesF u <= 1000000) :
  Calls Try.prog 89 #[.pointer (some ⟨p, 0, none⟩), .agg (frow o i)] w (DStep w G k p nr (stepV' h [] (.flds o i))) := by
 have HFL := Zi hfl
 have hz8 : zrow8.size = 8 := rfl
 clear hfl
 have HX := Zi hh
 have HF := Zi hf
 have hzs : zrow.size = 9 := rfl
 have zone : zrow.all (·.oneCell') = true := (zero_va w (Imm G)).one
 have hb := Below.refl w.heap.size w
 clear hh hf
 go_enter Try.func89, Try.ntmps89
 go_upto_region 0 with fail
 apply Zl
 refine wl_newv (fun q => .pointer (some ⟨q, 0, none⟩)) rfl (ex_box125 _ rfl rfl) ?_
 intro W q hbn hlq hq
 simp only [Zq]
 replace hb := hb.trans hbn
 clear hbn
 iterate 2 refine Zm ?_
 have lthqr := heap_lt hq; (with_reducible refine wl_allV ?_); intro W2 r hbn hlr hr; replace hq := below_look hbn hq; replace hb := hb.trans (hbn.mono hb.size); clear hbn; simp only [Zq]
 have hrl : w.heap.size <= r := by omega
 have hql := heap_lt hq
 have HRl := Zi hrl
 have hqG : G q = none := HF.out q (by omega)
 have HQ : Hid (¬ Mine (mark G k r) k q) := Zi (by rintro ⟨x, e, -⟩; unfold mark at e; rw [if_neg (by omega), hqG] at e; cases e)
 have HDn := Zi (DDone.marked HX.out HF.out hb hrl (heap_lt hr))
 have HM := Zi (mark_same G k r)
 have HNM := Zi (mark_not G k r)
 clear HX HF hb hrl hql hqG
 go_upto_region 1 with fail
 apply Zl
 refine Zm ?_
 refine Zo rfl (df0 hq) ?_
 obtain ⟨ob, hob⟩ : ∃ ob, h.obs[o]? = some ob := ⟨_, List.getElem?_eq_getElem hol⟩
 have holI : (o : Int) < (h.obs.length : Int) := by omega
 have hflb := HFL.out ob (List.mem_of_getElem? hob)
 obtain ⟨dA, dc, oA, oc, bA, bc, lA, lc, rA, rc, hh⟩ := HDn.out.heap
 obtain ⟨g, tr, fA, fc, rfl, hgr, hL, hty, hLV, -⟩ := hh.obj (i := o) (o := ob) hob
 have ht4 := hty.size
 have ht1 := ty_one hty
 have h8 := (cell8_at ht4 ob.state ob.count ob.weak fA ob.fields.length fc).1
 have h81 := cell8_one ht1 (s := ob.state) (c := ob.count) (k := ob.weak) (A := fA) (l := ob.fields.length) (m := fc)
 have hA8 := cell8_at ht4 ob.state ob.count ob.weak fA ob.fields.length fc
 have HRW : Hid (∀ w', Below W2.heap.size W2 w' -> RowAt w' 41 ⟨g, o * 8, none⟩ (cell8 tr ob.state ob.count ob.weak fA ob.fields.length fc)) := Zi (fun w' hw' => by
  obtain ⟨g', rows0, e, hR⟩ := hh.obs.rows (i := o) (o := ob) hob
  cases e
  obtain ⟨row, tr2, fA2, fc2, hr0, hx⟩ := hR.get hob
  have e9 : tr2 = tr /\ fA2 = fA /\ fc2 = fc := by
   have h9 := (hR.own.loads hr0 hx)
   have h10 := hL W2 (Below.refl _ _)
   have e1 := one_eq h9.f h10.f
   cases e1
   have e2 := row_eqv h9.t h10.t
   exact ⟨e2, rfl, rfl⟩
  obtain ⟨rfl, rfl, rfl⟩ := e9
  obtain ⟨cur, hcur, -, -, hext, -⟩ := (hR.own.old hw').at hr0
  rw [hx.eq] at hext
  exact row_mid (n := 8) hcur hext Go.Proofs.Ytpamocglecangaa.u41 rfl h8 info41)
 have HH := Zi hh
 have HL := Zi hL
 have HLV := Zi hLV
 have HGR := Zi hgr
 have HOB := Zi hob
 have HFB := Zi hflb
 have hp := hh.blk
 have hbz : Below W2.heap.size W2 W2.drew := (Below.refl _ _).drew
 clear hh hL hty hLV hgr hob hflb ht1 hol
 go_upto_region 2 with fail
 refine wp_region_Z (S := Below W2.heap.size W2) 9 mixed hbz (fun hS => ?_)
 refine zm 0 hS ?_; try simp only [Zq]
 refine zm 1 hS ?_; try simp only [Zq]
 refine zm 2 hS ?_; try simp only [Zq]
 refine zv4 (i := 3) rfl (by kernel_rfl) Zg hS rfl (fun w' hw' => ex_one rfl (dh1 (below_look hw' hp))) ?_; try simp only [Zq]
 refine zm 4 hS ?_; try simp only [Zq]
 refine zv4 (i := 5) rfl (by kernel_rfl) Zg hS rfl (fun w' hw' => ex_one rfl (df2 (below_look hw' hq))) ?_; try simp only [Zq]
 refine zm 6 hS ?_; try simp only [Zq]
 refine zv4 (i := 7) rfl (by kernel_rfl) Zg hS rfl (fun w' hw' => ex_row rfl (HRW.out w' hw')) ?_; try simp only [Zq]
 refine za_new (i := 8) (v := fun q => .pointer (some ⟨q, 0, none⟩)) (by kernel_rfl) rfl rfl (ex_all41 rfl _ _) (fun W hW => hS.trans (hW.mono hS.size)) ?_
 intro W10 q7 hbn hlq7 hq7 hS10
 try simp only [Zq]
 have hle7 : W2.heap.size <= q7 := by have := hbz.size; omega
 have hb8 := below_setRow hS10 hle7 (putN zrow8 0 (cell8 tr ob.state ob.count ob.weak fA ob.fields.length fc))
 have hq8 := hr_new (cs := putN zrow8 0 (cell8 tr ob.state ob.count ob.weak fA ob.fields.length fc)) hq7
 rw [putN_whole (by rw [h8, hz8])] at hq8 hb8
 clear hS hbn
 refine za_storeN (i := 9) (by kernel_rfl) rfl rfl 41 _ _ rfl info41 rfl rfl h8 h81 hq7 (by rw [h8, hz8]; omega) (fun h => absurd rfl h) ?_
 rw [putN_whole (by rw [h8, hz8])]
 refine za_done (by kernel_rfl) ?_ _
 obtain ⟨W8, hW⟩ : ∃ W, W = W10.setRow q7 (cell8 tr ob.state ob.count ob.weak fA ob.fields.length fc) := ⟨_, rfl⟩
 rw [<- hW] at hq8 hb8 ⊢
 have HL9 := Zi (fun w' hw => HL.out w' (hb8.trans (Below.mono hw hb8.size)))
 replace HDn := Zi (HDn.out.quiet hb8)
 replace HH := Zi (HH.out.old hb8)
 replace HLV := Zi (HLV.out.moved (Keep.of (C := fun _ => False) hb8) (fun b e => e.elim) (fun _ _ => rfl))
 replace hp := below_look hb8 hp; replace hq := below_look hb8 hq; replace hr := below_look hb8 hr
 clear hb8 HL hW hq7 hS10 hbz HRW h81
 have HL := HL9
 clear HL9
 go_upto_region 3 with fail
 by_cases hif : i < ob.fields.length
 ·have hifI : (i : Int) < (ob.fields.length : Int) := by omega
  have hwi : IntKind.i64.wrap ((i : Int) + 1) = (i : Int) + 1 := IntWalk.i64_in _ (by have := HFB.out.1; omega)
  apply Zl
  refine Zm ?_
  refine Zo rfl (df3 hq) ?_
  refine Zm ?_
  refine Zo rfl (one_of Go.Proofs.Ytpamocglecangaa.u33 rfl (by rw [cell_of_row _ _ _ _ _ _ hq8]; exact hA8.2.2.2.2)) ?_
  iterate 2 refine Zm ?_
  obtain ⟨fb, u, rowu, rfl, hfb, hu, hua, hrowu⟩ := HLV.out.at hif
  have HSP : Hid (stepV' h [] (.flds o i) = (h, [.flds o (i + 1), .val u], none)) := Zi (by simp only [stepV', HOB.out, hu, List.nil_append])
  have hnd := HFB.out.2 u (List.mem_of_getElem? hu)
  have HRU := Zi hrowu
  have hbz : Below W8.heap.size W8 W8.drew := (Below.refl _ _).drew
  have HC := Zi (CopyValue_any u hnd W8.drew _ _ (hua.old hbz))
  clear hua hrowu hu hfb hnd
  go_upto_region 4 with fail
  refine wp_region_Z (S := Below W8.heap.size W8) 18 mixed hbz (fun hS => ?_)
  refine zm 0 hS ?_; try simp only [Zq]
  refine zv4 (i := 1) rfl (by kernel_rfl) Zg hS rfl (fun w' hw' => ex_one rfl (df2 (below_look hw' hq))) ?_; try simp only [Zq]
  refine zm 2 hS ?_; try simp only [Zq]
  refine zv4 (i := 3) rfl (by kernel_rfl) Zg hS rfl (fun w' hw' => ex_one rfl (df3 (below_look hw' hq))) ?_; try simp only [Zq]
  refine zm 4 hS ?_; try simp only [Zq]
  refine zv4 (i := 5) rfl (by kernel_rfl) Zg hS rfl (fun w' hw' => ex_build125f _ _ _ rfl rfl rfl rfl rfl (by first | exact hwi | (rw [Int.natCast_add]; rfl) | simp)) ?_; try simp only [Zq]
  refine zm 6 hS ?_; try simp only [Zq]
  refine zv4 (i := 7) rfl (by kernel_rfl) Zg hS rfl (fun w' hw' => ex_one rfl (one_of Go.Proofs.Ytpamocglecangaa.u33 rfl (by rw [cell_of_row _ _ _ _ _ _ (below_look hw' hq8)]; exact hA8.2.2.2.2))) ?_; try simp only [Zq]
  refine zm 8 hS ?_; try simp only [Zq]
  refine zv4 (i := 9) rfl (by kernel_rfl) Zg hS rfl (fun w' hw' => ex_one rfl (df3 (below_look hw' hq))) ?_; try simp only [Zq]
  refine zm 10 hS ?_; try simp only [Zq]
  refine zv4 (i := 11) rfl (by kernel_rfl) Zg hS rfl (fun w' hw' => ex_row rfl (HRU.out w' hw')) ?_; try simp only [Zq]
  refine zv4 (i := 15) rfl (by kernel_rfl) Zg hS rfl (fun w' hw' => build35 _ _ rfl _) ?_; try simp only [Zq]
  refine za_call (i := 12) (by kernel_rfl) rfl rfl (fun K hK => ?_); go_simp; refine ⟨_, _, ⟨rfl, rfl⟩, hK _ _ ⟨_, HC.out, ?_⟩⟩; clear hK K; rintro e w9 ⟨row9, rfl, hv9, hb9⟩
  have hbz9 := hbz.trans (hb9.mono hbz.size)
  refine ⟨_, rfl, fun _ => hbz9, ?_⟩
  clear hS
  have hS := hbz9
  try simp only [Zq]
  have hxs9 := hv9.size
  have hx19 := hv9.one
  have HV9 := Zi (HDn.out.newva (hv9.weak (D' := fun b => W8.heap.size <= b) fun b (h9 : W8.drew.heap.size <= b) => by have := hbz.size; omega))
  refine zv4 (i := 13) rfl (by kernel_rfl) Zg hS rfl (fun w' hw' => ex_build125 _ rfl hxs9 rfl) ?_; try simp only [Zq]
  refine za_new (i := 14) (v := fun q => .slice (some ⟨q, 0, none⟩) 2 2) (by kernel_rfl) rfl rfl (ex_bs102t _ _ rfl rfl rfl (frow_size _ _) (drow_size hxs9)) (fun W hW => hS.trans (hW.mono hS.size)) ?_
  clear hS
  intro W11 q14 hbn hlq14 hq14 hS
  try simp only [Zq]
  have hq14G : mark G k r q14 = none := HDn.out.fr q14 (by have := hbz9.size; omega)
  have htk := DTks.two (D := Imm (mark G k r)) hq14 hq14G (show DTkAt W11 (Imm (mark G k r)) (.flds o (i + 1)) (frow o (i + 1)) from rfl) (show DTkAt W11 (Imm (mark G k r)) (.val u) (drow row9) from ⟨row9, HV9.out.old hbn, rfl⟩)
  replace HDn := Zi (HDn.out.quiet hS)
  replace hr := below_look hS hr
  have HTK := Zi htk
  clear htk hbn hq14 hbz9 hb9 hv9 HV9 HC hbz
  refine zn 16 hS ?_; try simp only [Zq]
  refine zn 17 hS ?_; try simp only [Zq]
  have hkr := Keep.rowOne W11 r (putN zrow 0 zrow)
  have hd := HDn.out.put HM.out HRl.out hkr
  have hr2 := hr_new (cs := putN zrow 0 zrow) hr
  have htk2 := HTK.out.mono (D' := Imm (mark G k r)) (fun _ h => h) (fun b hb _ => hkr.block b ‹_› (fun e => by subst e; unfold Imm at hb; rw [HM.out] at hb; cases hb))
  rw [putN_whole (by rw [hzs])] at hd hr2 htk2
  clear HDn HTK hS hkr
  have HDN := Zi hd
  have HTN := Zi htk2
  clear hd htk2
  refine za_storeN (i := 18) (by kernel_rfl) rfl rfl 35 _ _ rfl info35 rfl rfl hzs zone hr (by rw [hzs]; omega) (fun h => absurd rfl h) ?_
  rw [putN_whole (by rw [hzs])]
  refine za_done (by kernel_rfl) ?_ _
  clear hr
  have hr := hr2
  clear hr2
  go_wp2_with fail
  refine bodyPost_ret (resD rfl _ _ r rfl rfl rfl hzs hr) rfl ?_
  rw [HSP.out]
  exact ⟨_, 2, _, zrow, nr, rfl, HTN.out, HDN.out, Nat.le_succ _, hzs, zone, fun u e => by cases e⟩
 ·have hifI : ¬ (i : Int) < (ob.fields.length : Int) := by omega
  apply Zl
  refine Zm ?_
  refine Zo rfl (df3 hq) ?_
  refine Zm ?_
  refine Zo rfl (one_of Go.Proofs.Ytpamocglecangaa.u33 rfl (by rw [cell_of_row _ _ _ _ _ _ hq8]; exact hA8.2.2.2.2)) ?_
  iterate 2 refine Zm ?_
  obtain ⟨nf, hnf⟩ : ∃ nf, nf = ob.fields.length := ⟨_, rfl⟩
  obtain ⟨ob1, hob1⟩ : ∃ ob1 : Ob, ob1 = { ob with fields := List.replicate nf va0 } := ⟨_, rfl⟩
  obtain ⟨ob2, hob2⟩ : ∃ ob2 : Ob, ob2 = { ob1 with state := 3 } := ⟨_, rfl⟩
  have HSP : Hid (stepV' h [] (.flds o i) = ({ h with obs := h.obs.set o ob2 }, [], none)) := Zi (by
   have hno : ob.fields[i]? = none := List.getElem?_eq_none (by omega)
   simp only [stepV', HOB.out, hno, modify_at _ HOB.out]
   rw [hob2, hob1, hnf])
  have HNF := Zi hnf
  have HB1 := Zi hob1
  have HB2 := Zi hob2
  have hff := hA8.2.2.2.2
  rw [<- hnf] at hff hq8
  have hff2 : OneAt W8 33 ⟨q7, 7, none⟩ (.slice fA nf fc) := one_of Go.Proofs.Ytpamocglecangaa.u33 rfl (by rw [cell_of_row _ _ _ _ _ _ hq8]; exact hff)
  have hbz : Below W8.heap.size W8 W8.drew := (Below.refl _ _).drew
  clear hob1 hob2 hnf hif hifI
  go_upto_region 5 with fail
  refine wp_region_Z (S := Below W8.heap.size W8) 12 mixed hbz (fun hS => ?_)
  refine zm 0 hS ?_; try simp only [Zq]
  refine zm 1 hS ?_; try simp only [Zq]
  refine zm 2 hS ?_; try simp only [Zq]
  refine zv4 (i := 3) rfl (by kernel_rfl) Zg hS rfl (fun w' hw' => ex_one rfl (dh1 (below_look hw' hp))) ?_; try simp only [Zq]
  refine zm 4 hS ?_; try simp only [Zq]
  refine zv4 (i := 5) rfl (by kernel_rfl) Zg hS rfl (fun w' hw' => ex_one rfl (df2 (below_look hw' hq))) ?_; try simp only [Zq]
  refine zm 6 hS ?_; try simp only [Zq]
  refine zv4 (i := 7) rfl (by kernel_rfl) Zg hS rfl (fun w' hw' => ex_one rfl (one_of Go.Proofs.Ytpamocglecangaa.u33 rfl (by rw [cell_of_row _ _ _ _ _ _ (below_look hw' hq8)]; exact hff))) ?_; try simp only [Zq]
  refine zm 8 hS ?_; try simp only [Zq]
  refine za_makeL (i := 9) elt33 (by kernel_rfl) rfl rfl _ _ rfl (n := nf) (cc := nf) rfl rfl (Nat.le_refl _) (by have := HNF.out; have := HFB.out.1; omega) (by have := HNF.out; have := HFB.out.1; unfold maxLen; omega) (fun W hW => hS.trans (hW.mono hS.size)) ?_
  intro W10 q5 hbn hle5 hlt5 hown5 hS10
  try simp only [Zq]
  have hle5' : W8.heap.size <= q5 := by have := hbz.size; omega
  have hd5 := HDn.out.trans (DDone.owned HDn.out.heap HDn.out.fr hS10 (A := some ⟨q5, 0, none⟩) (r := .fld o) (fun g e => by cases e; exact ⟨hle5', hlt5⟩))
  obtain ⟨G5, hG5⟩ : ∃ G5, G5 = own (mark G k r) (some ⟨q5, 0, none⟩) (k, .fld o) := ⟨_, rfl⟩
  have hGo : ∀ b, b < W8.heap.size -> G5 b = mark G k r b := by rw [hG5]; exact own_old fun g e => by cases e; exact hle5'
  have hr5 : RoleOf G5 (some ⟨q5, 0, none⟩) (k, .fld o) := by rw [hG5]; exact own_role _ _ _
  rw [<- hG5] at hd5
  have hgl9 : g < W8.heap.size := by
   obtain ⟨g'', rowsB, e, hR⟩ := HH.out.obs.rows (i := o) (o := ob) HOB.out
   cases e; exact hR.lt
  have hh5 := (HH.out.regh hGo).old hS10
  have hlv5 : ListV W10 G5 (k, .fld o) (List.replicate nf va0) (some ⟨q5, 0, none⟩) nf := ⟨List.replicate nf zrow, hown5, by simp, hr5, fun j v row hj hrj => by
   rw [List.eq_of_mem_replicate (List.mem_of_getElem? hj), List.eq_of_mem_replicate (List.mem_of_getElem? hrj)]
   exact zero_va _ _⟩
  obtain ⟨hs1, hs2, hst⟩ := hh5.newF (i := o) (o := ob) HOB.out hlv5
  rw [List.length_replicate] at hst
  have HG5g : Hid (G5 g = some (k, .arr)) := Zi ((hGo g hgl9).trans HGR.out)
  have HM5 : Hid (G5 r = some (k, .tmp)) := Zi ((hGo r (heap_lt hr)).trans HM.out)
  replace hq := below_look hS10 hq; replace hr := below_look hS10 hr
  have HD5 := Zi hd5
  clear hd5 hG5 hGo hr5 hgl9 hh5 hlv5 hown5 hbn HH HL HLV hff hff2 hp hle5 hlt5 HDn hle5'
  have hS := hS10
  clear hS10
  refine zn 10 hS ?_; try simp only [Zq]
  refine zn 11 hS ?_; try simp only [Zq]
  rw [<- HB1.out] at hst
  have hd6 := HD5.out.step ⟨.arr, HG5g.out, by simp⟩ (h' := { h with obs := h.obs.set o ob1 }) (Keep.cellOne _ g (o * 8 + 7) (.slice (some ⟨q5, 0, none⟩) nf nf)) ⟨_, _, _, _, _, _, _, _, _, _, hst⟩
  have hrg : r ≠ g := fun e => by have := HM5.out; rw [e, HG5g.out] at this; cases this
  have hk9 := Keep.cellOne W10 g (o * 8 + 7) (.slice (some ⟨q5, 0, none⟩) nf nf)
  have hqg : q ≠ g := fun e => HQ.out ⟨.arr, by rw [e]; exact HGR.out, by simp⟩
  have hr6 := (heap_setCell_other W10 ⟨g, o * 8 + 7, none⟩ r (.slice (some ⟨q5, 0, none⟩) nf nf) hrg).trans hr
  have hq6 := (heap_setCell_other W10 ⟨g, o * 8 + 7, none⟩ q (.slice (some ⟨q5, 0, none⟩) nf nf) hqg).trans hq
  refine za_storeC (i := 12) (by kernel_rfl) rfl rfl 33 _ _ rfl g (o * 8 + 7) (.slice (some ⟨q5, 0, none⟩) nf nf) rfl rfl info33e rfl hs1 hs2 (fun h => absurd rfl h) ?_
  refine za_done (by kernel_rfl) ?_ _
  obtain ⟨W11, hW⟩ : ∃ W, W = W10.setCell ⟨g, o * 8 + 7, none⟩ (.slice (some ⟨q5, 0, none⟩) nf nf) := ⟨_, rfl⟩
  rw [<- hW] at hd6 hst hr6 hq6 ⊢
  clear hr hq hS hbz hs1 hs2 hW hk9 HD5
  have hr := hr6
  have hq := hq6
  have hol := (List.getElem?_eq_some_iff.1 HOB.out).1
  have hbd : Below W11.heap.size W11 W11.drew := (Below.refl _ _).drew
  have hstd := hst.old hbd
  obtain ⟨hs3, hs4, -, hset⟩ := hstd.stO (i := o) (o := ob1) (List.getElem?_set_self hol) 4 (by omega)
  have hst2 := hset 3 ob2 (by rw [HB2.out]) (by rw [HB2.out]) (by rw [HB2.out]; simp)
  have hp := hst.blk
  have HD6 := Zi (hd6.quiet hbd)
  have holI2 : (o : Int) < ((h.obs.set o ob1).length : Int) := by rw [List.length_set]; exact holI
  clear hd6 hset hol hr6 hq6 hst hstd
  obtain ⟨ln, hln⟩ : ∃ n, n = (h.obs.set o ob1).length := ⟨_, rfl⟩
  have hpl := hp
  rw [show ({ h with obs := h.obs.set o ob1 } : Hp).obs.length = ln from hln.symm] at hpl
  rw [<- hln] at holI2
  clear hp hln
  have hp := hpl
  clear hpl
  go_upto_region 6 with fail
  refine wp_region_Z (S := Below W11.heap.size W11) 8 mixed ((Below.refl _ _).drew) (fun hS => ?_)
  refine zm 0 hS ?_; try simp only [Zq]
  refine zm 1 hS ?_; try simp only [Zq]
  refine zm 2 hS ?_; try simp only [Zq]
  refine zv4 (i := 3) rfl (by kernel_rfl) Zg hS rfl (fun w' hw' => ex_one rfl (dh1 (below_look hw' hp))) ?_; try simp only [Zq]
  refine zm 4 hS ?_; try simp only [Zq]
  refine zv4 (i := 5) rfl (by kernel_rfl) Zg hS rfl (fun w' hw' => ex_one rfl (df2 (below_look hw' hq))) ?_; try simp only [Zq]
  refine zn 6 hS ?_; try simp only [Zq]
  refine zn 7 hS ?_; try simp only [Zq]
  have hk9 := Keep.cellOne W11.drew g (o * 8 + 4) (.int .i64 3)
  have hd7 := HD6.out.step ⟨.arr, HG5g.out, by simp⟩ (h' := { h with obs := h.obs.set o ob2 }) hk9 (by
   have e : ({ h with obs := (h.obs.set o ob1).set o ob2 } : Hp) = { h with obs := h.obs.set o ob2 } := by rw [List.set_set]
   rw [<- e]
   exact ⟨_, _, _, _, _, _, _, _, _, _, hst2⟩)
  have hr7 := (heap_setCell_other W11.drew ⟨g, o * 8 + 4, none⟩ r (.int .i64 3) hrg).trans (below_look hbd hr)
  clear HM hr hq hp hst2 HD6
  have HDn := Zi hd7
  have HM := HM5
  have hr := hr7
  clear hd7 hr7 hk9 HM5
  refine za_storeC (i := 8) (by kernel_rfl) rfl rfl 3 _ _ rfl g (o * 8 + 4) (.int .i64 3) rfl rfl info3 rfl hs3 hs4 (fun h => absurd rfl h) ?_
  refine za_done (by kernel_rfl) ?_ _
  clear hs3 hs4 hS
  obtain ⟨W12, hW⟩ : ∃ W, W = W11.drew.setCell ⟨g, o * 8 + 4, none⟩ (.int .i64 3) := ⟨_, rfl⟩
  rw [<- hW] at HDn hr ⊢
  clear hW
  go_upto_region 7 with fail
  apply Zl
  refine wl_w rfl (build35 _ _ rfl _) ?_
  simp only [Zq]
  iterate 2 refine Zm ?_
  (with_reducible refine wl_putV rfl zone hzs rfl rfl hr ?_); rw [put_noneA]; intro W10 hbx hsz hkx hnx
  replace HDn := Zi (HDn.out.put HM.out HRl.out (Keep.of_put hbx hsz hkx))
  clear hr hbx hsz hkx
  have hr := hnx
  clear hnx
  go_wp2_with fail
  refine bodyPost_ret (resD rfl _ _ r rfl rfl rfl hzs hr) rfl ?_
  rw [HSP.out]
  exact ⟨none, 0, _, zrow, nr, rfl, DTks.nothing _ _, HDn.out, Nat.le_succ _, hzs, zone, fun u e => by cases e⟩
end Go.Proofs.Ytpamocglecangaa
namespace Go.Proofs.Ytpamocglecangaa.Nm
open Go.RowKit
set_option linter.unusedSimpArgs false
section
variable {P : Program} {ops : Array Oper} {Q : Exit -> Act -> World -> Prop} {md : Region.Mode} {S : World -> Prop} {c : Nat} {i j : Nat} {oi : Oper} {fuel : Nat} {listed : Array Bool} {a : Act} {w : World}
theorem wpAnyZ_two (hr : Region.ready md ops listed = [i, j]) (h1 : wpOp P ops Q i (fun a' w' => (i ≠ c -> S w') /\ wpAnyZ P md ops Q S c fuel (listed.setIfInBounds i true) a' w') a w) (h2 : wpOp P ops Q j (fun a' w' => (j ≠ c -> S w') /\ wpAnyZ P md ops Q S c fuel (listed.setIfInBounds j true) a' w') a w) : wpAnyZ P md ops Q S c (fuel + 1) listed a w :=
 ⟨fun h0 => (by rw [hr] at h0; cases h0), fun x hx => by
  rw [hr] at hx
  rcases List.mem_cons.1 hx with rfl | hx
  ·exact h1
  ·rcases List.mem_cons.1 hx with rfl | hx
   ·exact h2
   ·cases hx⟩
theorem zo_do {K : Act -> World -> Prop} {v : Value} {w2 : World} (ho : ops[i]? = some oi) (hg : Region.wanted oi (yielded ops a.tmps) = true) (hx : (execOp a.eval oi).run P w = .ok (.value v) w2) (h : K (a.put oi.dst v) w2) : wpOp P ops Q i K a w := by
 unfold wpOp
 simp only [ho]
 rw [if_pos hg]
 refine .inl ?_
 unfold Oper.wp
 rw [hx]
 exact h
theorem zo_call {K0 : Act -> World -> Prop} (ho : ops[i]? = some oi) (hg : Region.wanted oi (yielded ops a.tmps) = true)
  (h : ∀ K : FuncId -> Array Value -> Prop, (∀ f args, (∃ F, Calls P f args w F /\ ∀ e w', F e w' -> ∃ v, e = .returned v /\ K0 (a.put oi.dst v) w') -> K f args) -> ∃ f args, (∀ w, (execOp a.eval oi).run P w = .ok (.enter f args) w) /\ K f args) :
  wpOp P ops Q i K0 a w := by
 obtain ⟨f, args, hv, F, hc, hk⟩ := h _ (fun _ _ h => h)
 unfold wpOp
 simp only [ho]
 rw [if_pos hg]
 refine .inl ?_
 unfold Oper.wp
 rw [hv w]
 simp only [Oper.upon]
 refine hc.mono fun e w' hF => ?_
 obtain ⟨v, rfl, hSv⟩ := hk e w' hF
 exact hSv
end
end Go.Proofs.Ytpamocglecangaa.Nm
namespace Go.Proofs.Ytpamocglecangaa
open Go.RowKit Go.Proofs.Ytpamocglecangaa.Nm
theorem zo_new {ops : Array Oper} {Q : Exit -> Act -> World -> Prop} {i : Nat} {oi : Oper} {a : Act} {w : World} {K : Act -> World -> Prop} {cs : Array Value} {ty : TypeId} {v : Nat -> Value} (ho : ops[i]? = some oi) (hg : Region.wanted oi (yielded ops a.tmps) = true) (hx : (execOp a.eval oi).run Try.prog w = .ok (.value (v w.heap.size)) (w.alloc (.cells cs ty)))
  (h : ∀ W p, Below w.heap.size w W -> w.heap.size <= p -> W.heap[p]? = some (.cells cs ty (0, 0)) -> K (a.put oi.dst (v p)) W) : wpOp Try.prog ops Q i K a w :=
 zo_do ho hg hx (h _ _ ((Below.refl _ w).alloc (Nat.le_refl _) (.cells cs ty)) (Nat.le_refl _) (ha_new rfl))
theorem info22d : (Try.prog.info? 22).map (·.size) = some 1 := by kernel_rfl
theorem vkK {w w' : World} {D : Nat -> Prop} {v : Va} {row tr : Array Value} {A2 : Option Addr} {l2 c2 : Nat} {A3 : Option Addr} {l3 c3 p : Nat} {t : TypeId} {fr : Nat × Nat} {k : Int} (hp : w.heap[p]? = some (.cells row t fr)) (h : Hid (VRow w' D v row tr A2 l2 c2 A3 l3 c3)) (hk : Hid (v.kind = k)) : OneAt w 3 ⟨p, 0, none⟩ (.int .i64 k) := by rw [<- hk.out]; exact vk hp h
theorem DDei.ss {w : World} {G : Gh} {dei : List ByteArray} {A : Option Addr} (h : DDei w G dei A) : SsAt w dei A dei.length := ⟨rfl, h.1, fun j s hj => by
 obtain ⟨b, off, e1, -, e3⟩ := h.2 j s hj
 exact ⟨b, off, e1, e3⟩⟩
theorem dname_load {w w' : World} {G : Gh} {k p : Nat} {h : Hp} {nr : Nat} {dA : Option Addr} {dc : Nat} {oc : Nat} {bA : Option Addr} {bc : Nat} {lA : Option Addr} {lc : Nat} {rA : Option Addr} {rc g n : Nat} (hh : DAt w G k p h nr dA dc (some ⟨g, 0, none⟩) oc bA bc lA lc rA rc) {o : Ob} (hi : h.obs[n]? = some o) {C : Nat -> Prop} (hk : Keep C w w') (hC : ¬ C g) : OneAt w' 9 ⟨g, n * 8 + 1, none⟩ (.string o.t.name) := by
 obtain ⟨g', rows, e, hR⟩ := hh.obs.rows hi
 cases e
 obtain ⟨row, tr, fA, fc, hr, hx⟩ := hR.get hi
 obtain ⟨tk, ts, tn, tA, tl, tc, tt, e1, e2, -⟩ := hx.ty.parts
 exact one_of u9 rfl ((hR.own.same (w' := w') fun b e hb => by cases e; exact hk.block g hb hC).cell hr (j := 1) (by rw [hx.eq, e2, e1]; rfl))
theorem due_eq {l : List ByteArray} {s : ByteArray} {z : Int} (h1 : s ∈ l -> 0 <= z) (h2 : s ∉ l -> z < 0) : decide (z ≥ 0) = l.contains s := by
 by_cases hm : s ∈ l
 ·rw [dei_in hm]; exact decide_eq_true (h1 hm)
 ·rw [dei_out hm]; exact decide_eq_false (by have := h2 hm; omega)
theorem DStep_obj {G : Gh} {k p nr : Nat} {h : Hp} {w : World} (hh : DHeapAt w G k p h nr) (hf : Fr w G) {v : Va} {rv : Array Value} (hv : VAt w (Imm G) v rv) (ho : ofV h.obs.length h.bus.length v = true) (hk : v.kind = 7) (hnr : nr <= 8000000000000) (hfl : ∀ ob, ob ∈ h.obs -> ob.t.nodes <= 1000000) (hdl : h.dei.length <= 1000000) :
  Calls Try.prog 89 #[.pointer (some ⟨p, 0, none⟩), .agg (drow rv)] w (DStep w G k p nr (stepV' h [] (.val v))) := by
 have HO := Zi ho
 have HK := Zi hk
 have HFL := Zi hfl
 have HDL := Zi hdl
 have HNW := Zi (wf_num hv)
 clear ho hk hfl hdl
 have HV := Zi hv
 have hvs := hv.size
 have hv1 := hv.one
 have hds : (drow rv).size = 12 := drow_size hvs
 clear hv
 have HX := Zi hh
 have HF := Zi hf
 have hzs : zrow.size = 9 := rfl
 have zone : zrow.all (·.oneCell') = true := (zero_va w (Imm G)).one
 have hb := Below.refl w.heap.size w
 clear hh hf
 go_enter Try.func89, Try.ntmps89
 go_upto_region 0 with fail
 apply Zl
 refine wl_newv (fun q => .pointer (some ⟨q, 0, none⟩)) rfl (ex_box125 _ rfl rfl) ?_
 intro W q hbn hlq hq
 simp only [Zq]
 replace hb := hb.trans hbn
 clear hbn
 iterate 2 refine Zm ?_
 have lthqr := heap_lt hq; (with_reducible refine wl_allV ?_); intro W2 r hbn hlr hr; replace hq := below_look hbn hq; replace hb := hb.trans (hbn.mono hb.size); clear hbn; simp only [Zq]
 have hrl : w.heap.size <= r := by omega
 have hql := heap_lt hq
 have HRl := Zi hrl
 have hqG : G q = none := HF.out q (by omega)
 have HQ : Hid (¬ Mine (mark G k r) k q) := Zi (by rintro ⟨x, e, -⟩; unfold mark at e; rw [if_neg (by omega), hqG] at e; cases e)
 have HDn := Zi (DDone.marked HX.out HF.out hb hrl (heap_lt hr))
 have HM := Zi (mark_same G k r)
 have HNM := Zi (mark_not G k r)
 have hvv := HDn.out.va (HV.out)
 clear HV
 have HV := Zi hvv
 clear hvv HX HF hb hrl hql hqG
 go_upto_region 1 with fail
 apply Zl
 refine Zm ?_
 refine Zo rfl (dt0 hq) ?_
 have hzz := Below.refl W2.heap.size W2
 go_upto_region 8 with fail
 apply Zl
 refine Zm ?_
 refine Zw rfl (dt1 hq hvs) ?_
 have lthqq8 := heap_lt hq; have lthrq8 := heap_lt hr; (with_reducible refine wl_allV ?_); intro W5 q8 hbn hlq8 hq8; replace hq := below_look hbn hq; replace hr := below_look hbn hr; replace hzz := hzz.trans (hbn.mono hzz.size); clear hbn; simp only [Zq]
 (with_reducible refine wl_putV hvs hv1 rfl rfl rfl hq8 ?_); rw [put_noneA]; intro W6 hbx hsz hkx hnx; replace hzz := hbx _ _ (by omega) hzz
 have hr9 := (hkx r (by omega)).trans hr
 have hq9 := (hkx q (by omega)).trans hq
 clear hq8 hr hq hbx hsz hkx
 have hq8 := hnx
 have hr := hr9
 have hq := hq9
 clear hnx hr9 hq9
 have HQ8 : Hid (mark G k r q8 = none) := Zi (HDn.out.fr q8 (by omega))
 replace HDn := Zi (HDn.out.quiet hzz)
 replace HV := Zi (HV.out.old hzz)
 obtain ⟨trv, A2v, l2v, c2v, A3v, l3v, c3v, hrv⟩ := HV.out.row
 have HRV := Zi hrv
 have hvl := hrv.vs.len
 subst hvl
 clear hrv
 go_upto_region 9 with fail
 apply Zl
 refine Zm ?_
 refine Zo rfl (vkK hq8 HRV HK) ?_
 clear hq HQ HNM hds hzz
 go_upto_region 10 with fail
 apply Zl
 iterate 2 refine Zm ?_
 have h9 : 0 <= v.num /\ v.num < (h.obs.length : Int) := by
  have := HO.out
  rw [ofV_eq, if_pos (by have := HK.out; omega)] at this
  exact of_decide_eq_true this
 obtain ⟨n, hn⟩ : ∃ n : Nat, v.num = (n : Int) := ⟨v.num.toNat, by omega⟩
 have HNWN : Hid ((Lit.int .i64 (n : Int)).wf = true) := Zi (by rw [<- hn]; exact HNW.out)
 have hnl : n < h.obs.length := by omega
 have hnlI : (n : Int) < (h.obs.length : Int) := by omega
 have ho := List.getElem?_eq_getElem hnl
 obtain ⟨o, hoe⟩ : ∃ o, o = h.obs[n] := ⟨_, rfl⟩
 rw [<- hoe] at ho
 obtain ⟨dA, dc, oA, oc, bA, bc, lA, lc, rA, rc, hh⟩ := HDn.out.heap
 obtain ⟨g, tr0, fA, fc, rfl, hgr, hL, -, -, -⟩ := hh.obj ho
 have HL := Zi hL
 have HOO := Zi ho
 have HH := Zi hh
 have HN := Zi hn
 have HGR := Zi hgr
 have hp := hh.blk
 clear hL hgr hoe ho hh h9 hn HV HNW
 have HST : Hid (stepV' h [] (.val v) = if w64 (o.count + -1) ≠ 0 ∨ o.state ≠ 1 then ({ h with obs := h.obs.set n (addC (-1) o) }, [], none)
   else ({ h with obs := h.obs.set n { addC (-1) o with state := 2 } }, [.flds n 0], if h.dei.contains o.t.name then some (.node 7 (n : Int) ⟨#[]⟩ o.t [] []) else none)) := Zi (by
  simp only [stepV', HK.out, HN.out, if_true, Int.toNat_natCast, HOO.out, modify_at _ HOO.out, List.nil_append])
 go_upto_region 11 with fail
 refine wp_region_belowAll mixed (by kernel_rfl) ?_
 iterate 3 refine Zt ?_
 refine Zv rfl (fun w' hw' => dh1 (below_look hw' hp)) ?_
 refine Zt ?_
 refine Zv rfl (fun w' hw' => vnN (below_look hw' hq8) HRV HN) ?_
 iterate 2 refine Zt ?_
 intro w3 hb3
 have HL3 := Zi (HL.out w3 hb3)
 replace HDn := Zi (HDn.out.quiet hb3)
 replace HH := Zi (HH.out.old hb3)
 replace hq8 := below_look hb3 hq8; replace hr := below_look hb3 hr
 clear hb3 HL hp
 go_upto_region 12 with fail
 obtain ⟨hs1, hs2, hrl, hset⟩ := HH.out.stO HOO.out 5 (by omega)
 have hst := hset (w64 (o.count + -1)) (addC (-1) o) rfl rfl (by simp [addC])
 clear hset hrl
 apply Zl
 iterate 4 refine Zm ?_
 refine Zo rfl (HL3.out.c) ?_
 iterate 3 refine Zm ?_
 refine wl_storeC rfl 3 _ _ rfl g _ (.int .i64 (w64 (o.count + -1))) rfl rfl info3 rfl hs1 hs2 ?_; rw [put_noneA]
 clear HL3 hs1 hs2
 obtain ⟨o1, ho1⟩ : ∃ o1, o1 = addC (-1) o := ⟨_, rfl⟩
 have hc1 : o1.count = w64 (o.count + -1) := by rw [ho1]; rfl
 have hs1 : o1.state = o.state := by rw [ho1]; rfl
 have ht1 : o1.t = o.t := by rw [ho1]; rfl
 obtain ⟨y1, hy1⟩ : ∃ y1 : Hp, y1 = { h with obs := h.obs.set n o1 } := ⟨_, rfl⟩
 rw [<- ho1, <- hy1] at hst
 have hd1 := HDn.out.step ⟨.arr, HGR.out, by simp⟩ (h' := y1) (Keep.cellOne _ g (n * 8 + 5) (.int .i64 (w64 (o.count + -1)))) ⟨_, _, _, _, _, _, _, _, _, _, hst⟩
 have hqg : q8 ≠ g := fun e => by have := HQ8.out; rw [e, HGR.out] at this; cases this
 have hrg : r ≠ g := fun e => by have h1 := HM.out; have h2 := HGR.out; rw [<- e, h1] at h2; cases h2
 replace hq8 := (heap_setCell_other w3 ⟨g, n * 8 + 5, none⟩ q8 (.int .i64 (w64 (o.count + -1))) hqg).trans hq8
 replace hr := (heap_setCell_other w3 ⟨g, n * 8 + 5, none⟩ r (.int .i64 (w64 (o.count + -1))) hrg).trans hr
 have hnl1 : y1.obs[n]? = some o1 := by rw [hy1]; exact List.getElem?_set_self (List.getElem?_eq_some_iff.1 HOO.out).1
 obtain ⟨W4, hW⟩ : ∃ W, W = w3.setCell ⟨g, n * 8 + 5, none⟩ (.int .i64 (w64 (o.count + -1))) := ⟨_, rfl⟩
 rw [<- hW] at hst hd1 hq8 hr ⊢
 obtain ⟨g', tr1, fA1, fc1, e, -, hL1, -, -, -⟩ := hst.obj hnl1
 cases e
 have HL := Zi (hL1 W4 (Below.refl _ _))
 replace HDn := Zi hd1
 replace HH := Zi hst
 have HO1 := Zi hnl1
 have HH1 := Zi hy1
 have HS1 := Zi hs1
 have HC1 := Zi hc1
 have HT1 := Zi ht1
 have HP1 := Zi ho1
 clear hL1 hd1 hst hW hnl1 hy1 hs1 hc1 ht1 ho1
 go_upto_region 13 with fail
 by_cases c0 : o1.count = 0
 ·have e0 : (o1.count != 0) = false := by simp [c0]
  by_cases c1 : o1.state = 1
  ·have e1 : (o1.state != 1) = false := by simp [c1]
   have HST2 : Hid (stepV' h [] (.val v) = ({ h with obs := h.obs.set n { o1 with state := 2 } }, [.flds n 0], if h.dei.contains o.t.name then some (.node 7 (n : Int) ⟨#[]⟩ o.t [] []) else none)) := Zi (by
    rw [HST.out, if_neg (by rw [<- HC1.out, <- HS1.out]; simp [c0, c1]), HP1.out])
   apply Zl
   iterate 3 refine Zm ?_
   refine Zo rfl (HL.out.c) ?_
   iterate 5 refine Zm ?_
   refine Zo rfl (HL.out.s) ?_
   iterate 2 refine Zm ?_
   clear c0 c1 e0 e1 HL HST
   go_upto_region 15 with fail
   obtain ⟨hs1, hs2, hrl, hset⟩ := HH.out.stO HO1.out 4 (by omega)
   have hst := hset 2 { o1 with state := 2 } rfl rfl (by simp)
   clear hset hrl
   apply Zl
   iterate 3 refine Zm ?_
   refine wl_storeC rfl 3 _ _ rfl g _ (.int .i64 2) rfl rfl info3 rfl hs1 hs2 ?_; rw [put_noneA]
   obtain ⟨o2, ho2⟩ : ∃ o2 : Ob, o2 = { o1 with state := 2 } := ⟨_, rfl⟩
   have ht2 : o2.t = o.t := by rw [ho2]; exact HT1.out
   rw [<- ho2] at hst HST2
   obtain ⟨y2, hy2⟩ : ∃ y2 : Hp, y2 = { h with obs := h.obs.set n o2 } := ⟨_, rfl⟩
   have hh12 : ({ y1 with obs := y1.obs.set n o2 } : Hp) = y2 := by rw [hy2, HH1.out]; simp only [List.set_set]
   rw [hh12] at hst
   rw [<- hy2] at HST2
   have hdv0 : y2.dei = h.dei := by rw [hy2]
   have hd1 := HDn.out.step ⟨.arr, HGR.out, by simp⟩ (h' := y2) (Keep.cellOne _ g (n * 8 + 4) (.int .i64 2)) ⟨_, _, _, _, _, _, _, _, _, _, hst⟩
   replace hq8 := (heap_setCell_other W4 ⟨g, n * 8 + 4, none⟩ q8 (.int .i64 2) hqg).trans hq8
   replace hr := (heap_setCell_other W4 ⟨g, n * 8 + 4, none⟩ r (.int .i64 2) hrg).trans hr
   have hnl1 : y2.obs[n]? = some o2 := by rw [hy2]; exact List.getElem?_set_self (List.getElem?_eq_some_iff.1 HOO.out).1
   obtain ⟨W7, hW⟩ : ∃ W, W = W4.setCell ⟨g, n * 8 + 4, none⟩ (.int .i64 2) := ⟨_, rfl⟩
   rw [<- hW] at hst hd1 hq8 hr ⊢
   replace HDn := Zi hd1
   replace HH := Zi hst
   have HO2 := Zi hnl1
   have HE2 := Zi ht2
   have HDV0 := Zi hdv0
   have hnd2 : o2.t.nodes <= 1000000 := by rw [ht2]; exact HFL.out o (List.mem_of_getElem? HOO.out)
   have HND2 := Zi hnd2
   have hp := hst.blk
   obtain ⟨rows, hor, hlr, hrr⟩ := hst.ord
   have HOR := Zi hor
   have HLR := Zi hlr
   have HRR := Zi hrr
   have hnA : ∀ b y, mark G k r b = y -> y ≠ some (k, .dei) -> ¬ rA = some ⟨b, 0, none⟩ := fun b y hy h3 e => h3 (hy.symm.trans (HRR.out b e))
   have HNP := Zi (hnA p _ hst.rp (by simp))
   have HNG := Zi (hnA g _ HGR.out (by simp))
   have HNQ := Zi (hnA q8 _ HQ8.out (by simp))
   have HNRR := Zi (hnA r _ HM.out (by simp))
   have hbz : Below W7.heap.size W7 W7.drew := (Below.refl _ _).drew
   have hlen : rows.length <= 8000000000000 := by rw [hlr]; exact hnr
   clear hd1 hst hW hnl1 hy2 hh12 hdv0 ht2 ho2 hs1 hs2 hnd2 hor hlr hrr hnA HC1 HS1 HP1 HH1 HO1 HT1
   go_upto_region 16 with fail
   refine wp_region_Z (S := fun w' => Keep (fun b => rA = some ⟨b, 0, none⟩) W7 w') 14 mixed (Keep.of hbz) (fun hS => ?_)
   refine zm 0 hS ?_; try simp only [Zq]
   refine zm 1 hS ?_; try simp only [Zq]
   refine zm 2 hS ?_; try simp only [Zq]
   refine zm 3 hS ?_; try simp only [Zq]
   refine zv4 (i := 4) rfl (by kernel_rfl) Zg hS rfl (fun w' hw' => ex_one rfl (dh4 (hw'.look hp HNP.out))) ?_; try simp only [Zq]
   refine zm 5 hS ?_; try simp only [Zq]
   refine zm 6 hS ?_; try simp only [Zq]
   refine zm 7 hS ?_; try simp only [Zq]
   refine zm 8 hS ?_; try simp only [Zq]
   refine zv4 (i := 9) rfl (by kernel_rfl) Zg hS rfl (fun w' hw' => ex_one rfl (dname_load HH.out HO2.out hw' HNG.out)) ?_; try simp only [Zq]
   refine za_new (i := 10) (v := fun q => .slice (some ⟨q, 0, none⟩) 1 1) (by kernel_rfl) rfl rfl (ex_bsStr _ rfl rfl) (fun W hW => hS.trans (C' := fun _ => False) (fun b e => e.elim) (Keep.of hW)) ?_
   clear hS
   intro W10 q10 hbn hlq10 hq10 hS
   try simp only [Zq]
   have hbn := hbz.trans (hbn.mono hbz.size)
   replace HDn := Zi (HDn.out.quiet hbn)
   replace HH := Zi (HH.out.old hbn)
   replace HOR := Zi (HOR.out.old hbn)
   replace hp := below_look hbn hp; replace hq8 := below_look hbn hq8; replace hr := below_look hbn hr
   clear hbn hbz
   refine za_pushL (i := 11) elt22 (by kernel_rfl) rfl rfl _ _ rfl (show _ = Value.slice rA rows.length rc by rw [HLR.out]; rfl) rfl HOR.out hq10 rfl (by simp [Value.oneCell']) (by omega) (by unfold maxLen; omega) (fun w' hk => hS.trans (C' := fun b => rA = some ⟨b, 0, none⟩) (fun b e => .inl e) hk) ?_
   clear hS
   intro A9 c9 W11 hown hk9 hA9 hS
   rw [HLR.out]
   try simp only [Zq]
   have hp11 := hk9.look hp HNP.out
   obtain ⟨G9, hG9⟩ : ∃ G9, G9 = own (mark G k r) A9 (k, .dei) := ⟨_, rfl⟩
   have hGo : ∀ b, b < W10.heap.size -> G9 b = mark G k r b := by rw [hG9]; exact own_again HRR.out hA9
   have hdat := HH.out.addR (G' := G9) HLR.out hown hk9 HRR.out hGo (by rw [hG9]; exact own_role _ _ _)
   have hd10 := DDone.addR HH.out HDn.out.fr HLR.out hown hk9 HRR.out hA9
   rw [<- hG9] at hd10
   rw [HLR.out] at hdat hd10
   have HDN := Zi (HDn.out.trans hd10)
   have HDA := Zi hdat
   obtain ⟨hs1, hs2, -⟩ := dhdr_set (j := 4) (v := .slice A9 (nr + 1) c9) hp11
   have hs1 := hs1 (by omega)
   have hpr : ∀ b y, mark G k r b = y -> y ≠ some (k, .hdr) -> b ≠ p := fun b y e1 e2 e3 => by rw [e3, HH.out.rp] at e1; exact e2 e1.symm
   have hq12 := (heap_setCell_other W11 ⟨p, 4, none⟩ q8 (.slice A9 (nr + 1) c9) (hpr q8 _ HQ8.out (by simp))).trans (hk9.look hq8 HNQ.out)
   have hr12 := (heap_setCell_other W11 ⟨p, 4, none⟩ r (.slice A9 (nr + 1) c9) (hpr r _ HM.out (by simp))).trans (hk9.look hr HNRR.out)
   have HM9 : Hid (G9 r = some (k, .tmp)) := Zi ((hGo r (heap_lt hr)).trans HM.out)
   clear hown hk9 hA9 hd10 hdat HDn HH HOR hp hq10 hG9 hGo hpr hq8 hr HNP HNG HNQ HNRR hlen HRR HLR
   refine zn 12 hS ?_; try simp only [Zq]
   refine zn 13 hS ?_; try simp only [Zq]
   clear hS
   refine za_storeC (i := 14) (by kernel_rfl) rfl rfl 22 _ _ rfl p 4 (.slice A9 (nr + 1) c9) rfl rfl info22d rfl hs1 hs2 (fun h => absurd rfl h) ?_
   refine za_done (by kernel_rfl) ?_ _
   obtain ⟨W12, hW⟩ : ∃ W, W = W11.setCell ⟨p, 4, none⟩ (.slice A9 (nr + 1) c9) := ⟨_, rfl⟩
   rw [<- hW] at HDN HDA hq12 hr12 ⊢
   clear hW hs1 hs2 hp11
   have hr := hr12
   have hq8 := hq12
   have hp := HDA.out.blk
   obtain ⟨g', tr2, fA2, fc2, e, -, hL1, hT1, -, -⟩ := HDA.out.obj HO2.out
   cases e
   have HL := Zi hL1
   have HT2 := Zi hT1
   have hbz : Below W12.heap.size W12 W12.drew := (Below.refl _ _).drew
   have HC := Zi (Has_any (c := dc) (w := W12.drew) (HDA.out.dei.same (w' := W12.drew) (fun _ _ _ => rfl)).ss (by rw [HDV0.out]; exact HDL.out) o2.t.name)
   clear hr12 hq12 hL1 hT1
   go_upto_region 17 with fail
   refine wp_region_Z (S := Below W12.heap.size W12) 11 mixed hbz (fun hS => ?_)
   refine zm 0 hS ?_; try simp only [Zq]
   refine zm 1 hS ?_; try simp only [Zq]
   refine zm 2 hS ?_; try simp only [Zq]
   refine zv4 (i := 3) rfl (by kernel_rfl) Zg hS rfl (fun w' hw' => ex_one rfl (dh0 (below_look hw' hp))) ?_; try simp only [Zq]
   refine zm 4 hS ?_; try simp only [Zq]
   refine zm 5 hS ?_; try simp only [Zq]
   refine zm 6 hS ?_; try simp only [Zq]
   refine zm 7 hS ?_; try simp only [Zq]
   refine zv4 (i := 8) rfl (by kernel_rfl) Zg hS rfl (fun w' hw' => ex_one rfl (HL.out w' hw').n) ?_; try simp only [Zq]
   refine za_call (i := 9) (by kernel_rfl) rfl rfl (fun K hK => ?_); go_simp; refine ⟨_, _, ⟨rfl, rfl⟩, hK _ _ ⟨_, HC.out, ?_⟩⟩; clear hK K; rintro e w9 ⟨z, rfl, hz1, hz2, hb9⟩
   have hbz9 := hbz.trans (hb9.mono hbz.size)
   refine ⟨_, rfl, fun _ => hbz9, ?_⟩
   clear hS
   have hS := hbz9
   try simp only [Zq]
   have HDUE : Hid (decide (z ≥ 0) = h.dei.contains o.t.name) := Zi (by rw [due_eq hz1 hz2, HDV0.out, HE2.out])
   refine zn 10 hS ?_; try simp only [Zq]
   refine zn 11 hS ?_; try simp only [Zq]
   refine za_done (by kernel_rfl) ?_ _
   have HL9 := Zi (fun w' hw => HL.out w' (hbz9.trans (Below.mono hw hbz9.size)))
   have HDn := Zi (HDN.out.quiet hbz9)
   replace HT2 := Zi (HT2.out.moved (G' := G9) (Keep.of (C := fun _ => False) hbz9) (fun b e => e.elim) (fun _ _ => rfl))
   replace hq8 := below_look hbz9 hq8; replace hr := below_look hbz9 hr
   clear hS hbz9 hbz hb9 hz1 hz2 HC HL HDN HDA hp
   rw [HE2.out] at HT2
   have hnd : o.t.nodes <= 1000000 := by rw [<- HE2.out]; exact HND2.out
   have hbz : Below w9.heap.size w9 w9.drew := (Below.refl _ _).drew
   go_upto_region 18 with fail
   refine wp_region_Z (S := Below w9.heap.size w9) 15 mixed hbz (fun hS => ?_)
   refine zm 0 hS ?_; try simp only [Zq]
   refine zv4 (i := 1) rfl (by kernel_rfl) Zg hS rfl (fun w' hw' => ex_one rfl (vnN (below_look hw' hq8) HRV HN)) ?_; try simp only [Zq]
   refine zv4 (i := 2) rfl (by kernel_rfl) Zg hS rfl (fun w' hw' => ex_build125g _ _ rfl rfl rfl) ?_; try simp only [Zq]
   refine zm 4 hS ?_; try simp only [Zq]
   refine zm 5 hS ?_; try simp only [Zq]
   refine zv4 (i := 6) rfl (by kernel_rfl) Zg hS rfl (fun w' hw' => ex_one rfl (vnN (below_look hw' hq8) HRV HN)) ?_; try simp only [Zq]
   refine zm 7 hS ?_; try simp only [Zq]
   refine zm 8 hS ?_; try simp only [Zq]
   refine zm 9 hS ?_; try simp only [Zq]
   refine zv4 (i := 10) rfl (by kernel_rfl) Zg hS rfl (fun w' hw' => ex_row rfl (HL9.out w' hw').t) ?_; try simp only [Zq]
   refine wpAnyZ_two (i := 3) (j := 11) (by kernel_rfl) ?_ ?_
   ·refine zo_new (v := fun q => .slice (some ⟨q, 0, none⟩) 1 1) rfl rfl (ex_bs102 _ rfl rfl (frow_size _ _)) ?_
    intro W13 q13 hbn hlq13 hq13
    have hbn2 := hbz.trans (hbn.mono hbz.size)
    refine ⟨fun _ => hbn2, ?_⟩
    try simp only [Zq]
    have HC := Zi (CopyType_any o.t hnd W13 _ _ (HT2.out.old hbn2))
    refine za_call (i := 11) (by kernel_rfl) rfl rfl (fun K hK => ?_); go_simp; refine ⟨_, _, ⟨rfl, rfl⟩, hK _ _ ⟨_, HC.out, ?_⟩⟩; clear hK K; rintro e w14 ⟨row7, rfl, hty70, hb14⟩
    have hb15 := hbn2.trans (hb14.mono hbn2.size)
    refine ⟨_, rfl, fun _ => hb15, ?_⟩
    clear hS
    have hS := hb15
    try simp only [Zq]
    have hq13G : G9 q13 = none := HDn.out.fr q13 (by have := hbz.size; omega)
    have htk := DTks.one (t1 := .flds n 0) (D := Imm G9) (below_look hb14 hq13) hq13G rfl
    have hty7 := hty70.weak (D' := Imm G9) fun b (h9 : W13.heap.size <= b) => HDn.out.fr b (by have := hbn2.size; omega)
    clear hty70 HC hbn hq13 hb14 hbn2
    have hs70 := hty7.size
    refine zv4 (i := 12) rfl (by kernel_rfl) Zg hS rfl (fun w' hw' => ex_build35t _ _ _ rfl hs70 rfl rfl rfl) ?_; try simp only [Zq]
    have hs7 := hty7.size
    refine zn 13 hS ?_; try simp only [Zq]
    refine zn 14 hS ?_; try simp only [Zq]
    have h9s : (cell9 7 (n : Int) ⟨#[]⟩ row7 none 0 0 none 0 0).size = 9 := cell9_size hs7
    have hva := trow_at (k := 7) (n := (n : Int)) (by rfl) HNWN.out hty7
    have h91 := hva.one
    have hkr := Keep.rowOne w14 r (putN zrow 0 (cell9 7 (n : Int) ⟨#[]⟩ row7 none 0 0 none 0 0))
    have hd := (HDn.out.quiet hb15).put HM9.out HRl.out hkr
    have hr2 := hr_new (cs := putN zrow 0 (cell9 7 (n : Int) ⟨#[]⟩ row7 none 0 0 none 0 0)) (below_look hb15 hr)
    have htk2 := htk.mono (D' := Imm G9) (fun _ h => h) (fun b hb _ => hkr.block b ‹_› (fun e => by subst e; unfold Imm at hb; rw [HM9.out] at hb; cases hb))
    have hva2 := hva.mono (D' := Imm G9) (fun _ h => h) (fun b hb _ => hkr.block b ‹_› (fun e => by subst e; unfold Imm at hb; rw [HM9.out] at hb; cases hb))
    rw [putN_whole (by rw [h9s, hzs])] at hd hr2 htk2 hva2
    refine za_storeN (i := 15) (by kernel_rfl) rfl rfl 35 _ _ rfl info35 rfl rfl h9s h91 (below_look hb15 hr) (by rw [h9s, hzs]; omega) (fun h => absurd rfl h) ?_
    rw [putN_whole (by rw [h9s, hzs])]
    refine za_done (by kernel_rfl) ?_ _
    have HDN := Zi hd
    have HTN := Zi htk2
    have HVN := Zi hva2
    clear hr hd htk2 hva2 htk hva hkr HDn
    have hr := hr2
    clear hr2
    go_wp2_with fail
    refine bodyPost_ret (resD rfl _ _ r rfl rfl rfl h9s hr) rfl ?_
    rw [HST2.out]
    refine ⟨_, 1, G9, _, nr + 1, ?_, HTN.out, HDN.out, Nat.le_refl _, h9s, h91, fun u e => ?_⟩
    ·rw [HDUE.out]
     cases h.dei.contains o.t.name <;> rfl
    ·split at e
     ·cases e; exact HVN.out
     ·cases e
   ·have HC := Zi (CopyType_any o.t hnd w9.drew _ _ (HT2.out.old hbz))
    refine zo_call rfl rfl (fun K hK => ?_); go_simp; refine ⟨_, _, ⟨rfl, rfl⟩, hK _ _ ⟨_, HC.out, ?_⟩⟩; clear hK K; rintro e w14 ⟨row7, rfl, hty70, hb14⟩
    have hb15 := hbz.trans (hb14.mono hbz.size)
    refine ⟨_, rfl, fun _ => hb15, ?_⟩
    clear hS
    have hS := hb15
    try simp only [Zq]
    have hs70 := hty70.size
    refine zv4 (i := 12) rfl (by kernel_rfl) Zg hS rfl (fun w' hw' => ex_build35t _ _ _ rfl hs70 rfl rfl rfl) ?_; try simp only [Zq]
    refine za_new (i := 3) (v := fun q => .slice (some ⟨q, 0, none⟩) 1 1) (by kernel_rfl) rfl rfl (ex_bs102 _ rfl rfl (frow_size _ _)) (fun W hW => hS.trans (hW.mono hS.size)) ?_
    clear hS
    intro W13 q13 hbn hlq13 hq13 hS
    try simp only [Zq]
    have hb16 := hb15.trans (hbn.mono hb15.size)
    have hq13G : G9 q13 = none := HDn.out.fr q13 (by have := hb15.size; omega)
    have htk := DTks.one (t1 := .flds n 0) (D := Imm G9) hq13 hq13G rfl
    have hty7 := (hty70.weak (D' := Imm G9) fun b (h9 : w9.drew.heap.size <= b) => HDn.out.fr b (by have := hbz.size; omega)).old hbn
    clear hty70 HC hbn hq13 hb14
    have hs7 := hty7.size
    refine zn 13 hS ?_; try simp only [Zq]
    refine zn 14 hS ?_; try simp only [Zq]
    have h9s : (cell9 7 (n : Int) ⟨#[]⟩ row7 none 0 0 none 0 0).size = 9 := cell9_size hs7
    have hva := trow_at (k := 7) (n := (n : Int)) (by rfl) HNWN.out hty7
    have h91 := hva.one
    have hkr := Keep.rowOne W13 r (putN zrow 0 (cell9 7 (n : Int) ⟨#[]⟩ row7 none 0 0 none 0 0))
    have hd := (HDn.out.quiet hb16).put HM9.out HRl.out hkr
    have hr2 := hr_new (cs := putN zrow 0 (cell9 7 (n : Int) ⟨#[]⟩ row7 none 0 0 none 0 0)) (below_look hb16 hr)
    have htk2 := htk.mono (D' := Imm G9) (fun _ h => h) (fun b hb _ => hkr.block b ‹_› (fun e => by subst e; unfold Imm at hb; rw [HM9.out] at hb; cases hb))
    have hva2 := hva.mono (D' := Imm G9) (fun _ h => h) (fun b hb _ => hkr.block b ‹_› (fun e => by subst e; unfold Imm at hb; rw [HM9.out] at hb; cases hb))
    rw [putN_whole (by rw [h9s, hzs])] at hd hr2 htk2 hva2
    refine za_storeN (i := 15) (by kernel_rfl) rfl rfl 35 _ _ rfl info35 rfl rfl h9s h91 (below_look hb16 hr) (by rw [h9s, hzs]; omega) (fun h => absurd rfl h) ?_
    rw [putN_whole (by rw [h9s, hzs])]
    refine za_done (by kernel_rfl) ?_ _
    have HDN := Zi hd
    have HTN := Zi htk2
    have HVN := Zi hva2
    clear hr hd htk2 hva2 htk hva hkr HDn
    have hr := hr2
    clear hr2
    go_wp2_with fail
    refine bodyPost_ret (resD rfl _ _ r rfl rfl rfl h9s hr) rfl ?_
    rw [HST2.out]
    refine ⟨_, 1, G9, _, nr + 1, ?_, HTN.out, HDN.out, Nat.le_refl _, h9s, h91, fun u e => ?_⟩
    ·rw [HDUE.out]
     cases h.dei.contains o.t.name <;> rfl
    ·split at e
     ·cases e; exact HVN.out
     ·cases e
  ·have e1 : (o1.state != 1) = true := by simp [c1]
   have HST2 : Hid (stepV' h [] (.val v) = (y1, [], none)) := Zi (by
    rw [HST.out, if_pos (by rw [<- HS1.out]; exact .inr c1), HH1.out, HP1.out])
   apply Zl
   iterate 3 refine Zm ?_
   refine Zo rfl (HL.out.c) ?_
   iterate 5 refine Zm ?_
   refine Zo rfl (HL.out.s) ?_
   iterate 2 refine Zm ?_
   clear c0 c1 e0 e1
   go_upto_region 14 with fail
   apply Zl
   refine wl_w rfl (build35 _ _ rfl _) ?_
   simp only [Zq]
   iterate 2 refine Zm ?_
   (with_reducible refine wl_putV rfl zone hzs rfl rfl hr ?_); rw [put_noneA]; intro W10 hbx hsz hkx hnx
   replace HDn := Zi (HDn.out.put HM.out HRl.out (Keep.of_put hbx hsz hkx))
   clear hr hbx hsz hkx
   have hr := hnx
   clear hnx
   go_wp2_with fail
   refine bodyPost_ret (resD rfl _ _ r rfl rfl rfl hzs hr) rfl ?_
   rw [HST2.out]
   exact ⟨none, 0, _, zrow, nr, rfl, DTks.nothing _ _, HDn.out, Nat.le_succ _, hzs, zone, fun u e => by cases e⟩
 ·have e0 : (o1.count != 0) = true := by simp [c0]
  have HST2 : Hid (stepV' h [] (.val v) = (y1, [], none)) := Zi (by
   rw [HST.out, if_pos (by rw [<- HC1.out]; exact .inl c0), HH1.out, HP1.out])
  apply Zl
  iterate 3 refine Zm ?_
  refine Zo rfl (HL.out.c) ?_
  iterate 2 refine Zm ?_
  iterate 5 ((first | ((with_reducible refine wl_skipU ?_ ?_ ?_); exact rfl; exact rfl) | ((with_reducible refine wl_skip ?_ ?_); exact rfl; simp only [Zq])))
  refine Zm ?_
  clear c0 e0
  go_upto_region 14 with fail
  apply Zl
  refine wl_w rfl (build35 _ _ rfl _) ?_
  simp only [Zq]
  iterate 2 refine Zm ?_
  (with_reducible refine wl_putV rfl zone hzs rfl rfl hr ?_); rw [put_noneA]; intro W10 hbx hsz hkx hnx
  replace HDn := Zi (HDn.out.put HM.out HRl.out (Keep.of_put hbx hsz hkx))
  clear hr hbx hsz hkx
  have hr := hnx
  clear hnx
  go_wp2_with fail
  refine bodyPost_ret (resD rfl _ _ r rfl rfl rfl hzs hr) rfl ?_
  rw [HST2.out]
  exact ⟨none, 0, _, zrow, nr, rfl, DTks.nothing _ _, HDn.out, Nat.le_succ _, hzs, zone, fun u e => by cases e⟩
end Go.Proofs.Ytpamocglecangaa
