/- The program's Set. -/
import Derived.Test.YtpamocglecangaaPB7
namespace Go.Proofs.Ytpamocglecangaa
open Go.RowKit Go.Proofs.Ytpamocglecangaa.Nm
set_option linter.unusedSimpArgs false
theorem one_eq {w : World} {t : TypeId} {ad : Addr} {x y : Value} (h1 : OneAt w t ad x) (h2 : OneAt w t ad y) : x = y := by
  unfold OneAt at h1 h2
  rw [h1] at h2
  cases h2; rfl
theorem one_list {row : Array Value} (h : row.all (·.oneCell') = true) : ∀ u, u ∈ row.toList → u.oneCell' = true := fun u hu => by
  rw [Array.all_eq_true] at h
  obtain ⟨i, hi, rfl⟩ := List.mem_iff_getElem.1 hu
  have := h i (by simpa using hi)
  simpa using this
theorem wp_storeN {op : Oper} {a : Act} {w : World} {K : Act → World → Prop} {Q : Exit → Act → World → Prop} (ty : TypeId) (x y : Operand) (ho : op.op = .store ty x y) {g o n : Nat} {cs row : Array Value} {ty2 : TypeId} (hi : (Try.prog.info? ty).map (·.size) = some n)
    (hx : a.eval x = .pointer (some ⟨g, o, none⟩)) (hy : a.eval y = .agg row) (hr : row.size = n) (h1 : row.all (·.oneCell') = true) (hg : w.heap[g]? = some (.cells cs ty2 (0, 0))) (hf : o + row.size ≤ cs.size)
    (h : K (a.put op.dst undef) (w.setRow g (putN cs o row))) : op.wp Try.prog a w K Q := by
  unfold Oper.wp execOp
  simp only [ho, hx, hy, Instr.storeAt, Instr.sureAddr, Sem.run_bind, Sem.run_pure, Result.andThen_ok, run_storeN hi hr (one_list h1) hg hf]
  exact h
theorem wl_storeN {ops : Array Oper} {rest : List Oper} {op : Oper} {a : Act} {w : World} {Q : Exit → Act → World → Prop} (hgd : op.guard = none) (ty : TypeId) (x y : Operand) (ho : op.op = .store ty x y) {g o n : Nat} {cs row : Array Value} {ty2 : TypeId} (hi : (Try.prog.info? ty).map (·.size) = some n)
    (hx : a.eval x = .pointer (some ⟨g, o, none⟩)) (hy : a.eval y = .agg row) (hr : row.size = n) (h1 : row.all (·.oneCell') = true) (hg : w.heap[g]? = some (.cells cs ty2 (0, 0))) (hf : o + row.size ≤ cs.size)
    (h : wpList Try.prog ops Q rest (a.put op.dst undef) (w.setRow g (putN cs o row))) : wpList Try.prog ops Q (op :: rest) a w :=
  wpList_plain hgd fun _ hK => wp_storeN ty x y ho hi hx hy hr h1 hg hf (hK _ _ h)
theorem Keep.rowOne (w : World) (g : Nat) (cs : Array Value) : Keep (fun b => b = g) w (w.setRow g cs) := ⟨by simp, rfl, rfl, by simp, fun b _ hn => setRow_other w g b cs hn⟩
section
variable {w w' : World} {G G' : Gh} {k p : Nat} {h : Hp} {oA : Option Addr} {oc : Nat} {bA : Option Addr} {bc m : Nat} {lA : Option Addr} {lc : Nat}
/-- One value of a list, as a load sees it. -/
theorem ListV.at {r : Nat × Role} {l : List Va} {A : Option Addr} {c i : Nat} (hl : ListV w G r l A c) (hi : i < l.length) : ∃ g v row, A = some ⟨g, 0, none⟩ ∧ G g = some r ∧ l[i]? = some v ∧ VAt w (Imm G) v row ∧ ∀ w', Below w.heap.size w w' → RowAt w' 35 ⟨g, i * 9, none⟩ row := by
  obtain ⟨rows, ho, hlen, hr, hv⟩ := hl
  have h1 : rows[i]? = some (rows[i]'(by omega)) := List.getElem?_eq_getElem _
  have h2 := List.getElem?_eq_getElem hi
  obtain ⟨g, cur, e, -⟩ := ho.addr (i := i) (by omega)
  subst e
  have hva := hv i _ _ h2 h1
  refine ⟨g, _, _, rfl, hr g rfl, h2, hva, fun w' hb => ?_⟩
  obtain ⟨cur, hg, -, -, hx, -⟩ := (ho.old hb).at h1
  exact row_mid (n := 9) hg hx u35 rfl hva.size info35
/-- One value of a list set anew. -/
theorem ListV.put {r : Nat × Role} {l : List Va} {g c i : Nat} (hl : ListV w G r l (some ⟨g, 0, none⟩) c) (hi : i < l.length) {v : Va} {row : Array Value} (hv : VAt w (Imm G) v row) : ∃ cur, w.heap[g]? = some (.cells cur 35 (0, 0)) ∧ i * 9 + row.size ≤ cur.size ∧ ListV (w.setRow g (putN cur (i * 9) row)) G r (l.set i v) (some ⟨g, 0, none⟩) c := by
  obtain ⟨rows, ho, hlen, hr, hva⟩ := hl
  obtain ⟨cur, hg, hf, ho2⟩ := ho.put (i := i) (by omega) hv.size
  have hk := Keep.rowOne w g (putN cur (i * 9) row)
  have hG : ∀ b, Imm G b → ¬ b = g := fun b hb e => by unfold Imm at hb; rw [e, hr g rfl] at hb; cases hb
  refine ⟨cur, hg, hf, _, ho2, by simp [hlen], hr, fun j u rw0 hj hrj => ?_⟩
  by_cases e : i = j
  · subst e
    rw [List.getElem?_set_self (by omega)] at hj hrj
    cases hj; cases hrj
    exact hv.keep hk hG
  · rw [List.getElem?_set_ne e] at hj hrj
    exact (hva j u rw0 hj hrj).keep hk hG
/-- A heap one of whose objects has other fields, in the same block. -/
theorem HAt.setF (hh : HAt w G k p h oA oc bA bc m lA lc) {i : Nat} {o o' : Ob} (hi : h.obs[i]? = some o) {f fc : Nat} {cs : Array Value} {l : List Va} {g : Nat} (hA : oA = some ⟨g, 0, none⟩) (hO : ∀ row tr fA fc', ObAt w G k i o row tr fA fc' → (∃ rows, ObsR w G k h.obs g oc rows ∧ rows[i]? = some row) → fA = some ⟨f, 0, none⟩ ∧ fc' = fc) (hf : G f = some (k, .fld i)) (hl : l.length = o.fields.length) (ho' : o' = { o with fields := l }) (hL : ListV (w.setRow f cs) G (k, .fld i) l (some ⟨f, 0, none⟩) fc) :
    HAt (w.setRow f cs) G k p { h with obs := h.obs.set i o' } oA oc bA bc m lA lc := by
  have hk := Keep.rowOne w f cs
  have hne : ∀ b r, G b = some (k, r) → r ≠ .fld i → b ≠ f := fun b r e hr e2 => by rw [e2, hf] at e; cases e; exact hr rfl
  have hno : ∀ b, G b = none → b ≠ f := fun b e e2 => by rw [e2, hf] at e; cases e
  subst hA
  obtain ⟨g', rows, e, hR⟩ := hh.obs.rows hi
  cases e
  obtain ⟨row, tr, fA, fc', hr, hx⟩ := hR.get hi
  obtain ⟨rfl, rfl⟩ := hO row tr fA fc' hx ⟨rows, hR, hr⟩
  have hrow : rows.set i row = rows := by
    apply List.ext_getElem?
    intro j
    by_cases e : i = j
    · subst e; rw [List.getElem?_set_self (List.getElem?_eq_some_iff.1 hr).1, hr]
    · rw [List.getElem?_set_ne e]
  refine hh.obsC (by simp) (fun b hb e => hk.block b hb fun e2 => ?_) (fun b hb e => hk.block b hb (hno b e)) ?_
  · obtain ⟨r, e3, -, e5⟩ := e
    exact hne b r e3 (e5 i) e2
  · refine hR.upd hi (row' := row) (tr' := tr) (fA' := some ⟨f, 0, none⟩) (fc' := fc') (fun j b hj hb e => hk.block b hb (hne b _ e (by simp [hj]))) (fun b hb e => hk.block b hb (hno b e)) (by rw [hrow]; exact hR.own.same fun b e hb => by cases e; exact hk.block g hb (hne g _ hR.role (by simp))) ?_
    subst ho'
    exact ⟨by rw [hx.eq]; show cell8 _ _ _ _ _ _ _ = cell8 _ _ _ _ _ l.length _; rw [hl], hx.ty.keep hk (fun b hb e => hno b hb e), hL⟩
theorem HAt.setE (hh : HAt w G k p h oA oc bA bc m lA lc) {i : Nat} {o o' : Bu} (hi : h.bus[i]? = some o) {f fc : Nat} {cs : Array Value} {l : List Va} {g : Nat} (hA : bA = some ⟨g, 0, none⟩) (hO : ∀ row fA fc', BuAt w G k i o row fA fc' → (∃ rows, BusR w G k h.bus g bc rows ∧ rows[i]? = some row) → fA = some ⟨f, 0, none⟩ ∧ fc' = fc) (hf : G f = some (k, .elm i)) (hl : l.length = o.elems.length) (ho' : o' = { o with elems := l }) (hL : ListV (w.setRow f cs) G (k, .elm i) l (some ⟨f, 0, none⟩) fc) :
    HAt (w.setRow f cs) G k p { h with bus := h.bus.set i o' } oA oc bA bc m lA lc := by
  have hk := Keep.rowOne w f cs
  have hne : ∀ b r, G b = some (k, r) → r ≠ .elm i → b ≠ f := fun b r e hr e2 => by rw [e2, hf] at e; cases e; exact hr rfl
  have hno : ∀ b, G b = none → b ≠ f := fun b e e2 => by rw [e2, hf] at e; cases e
  subst hA
  obtain ⟨g', rows, e, hR⟩ := hh.bus.rows hi
  cases e
  obtain ⟨row, fA, fc', hr, hx⟩ := hR.get hi
  obtain ⟨rfl, rfl⟩ := hO row fA fc' hx ⟨rows, hR, hr⟩
  have hrow : rows.set i row = rows := by
    apply List.ext_getElem?
    intro j
    by_cases e : i = j
    · subst e; rw [List.getElem?_set_self (List.getElem?_eq_some_iff.1 hr).1, hr]
    · rw [List.getElem?_set_ne e]
  refine hh.busC (by simp) (fun b hb e => hk.block b hb fun e2 => ?_) (fun b hb e => hk.block b hb (hno b e)) ?_
  · obtain ⟨r, e3, -, e5⟩ := e
    exact hne b r e3 (e5 i) e2
  · refine hR.upd hi (row' := row) (eA' := some ⟨f, 0, none⟩) (ec' := fc') (fun j b hj hb e => hk.block b hb (hne b _ e (by simp [hj]))) (fun b hb e => hk.block b hb (hno b e)) (by rw [hrow]; exact hR.own.same fun b e hb => by cases e; exact hk.block g hb (hne g _ hR.role (by simp))) ?_
    subst ho'
    exact ⟨by rw [hx.eq, hl], hL⟩
/-- All that an object's places in memory are, told once. -/
theorem HAt.obj (hh : HAt w G k p h oA oc bA bc m lA lc) {i : Nat} {o : Ob} (hi : h.obs[i]? = some o) : ∃ g tr fA fc, oA = some ⟨g, 0, none⟩ ∧ G g = some (k, .arr) ∧ (∀ w', Below w.heap.size w w' → ObL w' g i o tr fA fc) ∧ TyAt w (Imm G) o.t tr ∧ ListV w G (k, .fld i) o.fields fA fc ∧ ∀ row tr' fA' fc', ObAt w G k i o row tr' fA' fc' → (∃ rows, ObsR w G k h.obs g oc rows ∧ rows[i]? = some row) → fA' = fA ∧ fc' = fc := by
  obtain ⟨g, rows, e, hR⟩ := hh.obs.rows hi
  obtain ⟨row, tr, fA, fc, hr, hx⟩ := hR.get hi
  refine ⟨g, tr, fA, fc, e, hR.role, fun w' hb => (hR.own.old hb).loads hr (hx.same (fun b hl _ => hb.block b hl) fun b hl _ => hb.block b hl), hx.ty, hx.fld, ?_⟩
  rintro row' tr' fA' fc' hx' ⟨rows', hR', hr'⟩
  obtain ⟨cur, hg, hs, hf, hc, -⟩ := hR.own.at hr
  obtain ⟨cur', hg', hs', hf', hc', -⟩ := hR'.own.at hr'
  rw [hg] at hg'; cases hg'
  have e2 : row' = row := hc'.symm.trans hc
  have h7 := (cell8_at hx.size o.state o.count o.weak fA o.fields.length fc).2.2.2.2
  have h7' := (cell8_at hx'.size o.state o.count o.weak fA' o.fields.length fc').2.2.2.2
  rw [← hx.eq] at h7
  rw [← hx'.eq, e2, h7] at h7'
  cases h7'
  exact ⟨rfl, rfl⟩
theorem HAt.buf (hh : HAt w G k p h oA oc bA bc m lA lc) {i : Nat} {o : Bu} (hi : h.bus[i]? = some o) : ∃ g fA fc, bA = some ⟨g, 0, none⟩ ∧ G g = some (k, .bar) ∧ (∀ w', Below w.heap.size w w' → BuL w' g i o fA fc) ∧ ListV w G (k, .elm i) o.elems fA fc ∧ ∀ row fA' fc', BuAt w G k i o row fA' fc' → (∃ rows, BusR w G k h.bus g bc rows ∧ rows[i]? = some row) → fA' = fA ∧ fc' = fc := by
  obtain ⟨g, rows, e, hR⟩ := hh.bus.rows hi
  obtain ⟨row, fA, fc, hr, hx⟩ := hR.get hi
  refine ⟨g, fA, fc, e, hR.role, fun w' hb => (hR.own.old hb).loadsB hr (hx.same (fun b hl _ => hb.block b hl) fun b hl _ => hb.block b hl), hx.elm, ?_⟩
  rintro row' fA' fc' hx' ⟨rows', hR', hr'⟩
  obtain ⟨cur, hg, hs, hf, hc, -⟩ := hR.own.at hr
  obtain ⟨cur', hg', hs', hf', hc', -⟩ := hR'.own.at hr'
  rw [hg] at hg'; cases hg'
  have e2 : row' = row := hc'.symm.trans hc
  have h7 := hx'.eq
  rw [e2, hx.eq] at h7
  cases h7
  exact ⟨rfl, rfl⟩
end
def setP (h : Hp) (o f : Int) (v : Va) : Hp × Va × Int := if ofV h.obs.length h.bus.length v then (if placeE h o f = 0 then (match h.obs[o.toNat]? with | some ob => (match ob.fields[f.toNat]? with | some old => ({ h with obs := h.obs.set o.toNat { ob with fields := ob.fields.set f.toNat v } }, old, 0) | none => (h, va0, 1)) | none => (h, va0, 1)) else (h, va0, placeE h o f)) else (h, va0, 4)
theorem place_done {w : World} {G : Gh} {k p : Nat} {h : Hp} (hh : HeapAt w G k p h) (o f : Int) (ho : (Lit.int .i64 o).wf = true) (hf : (Lit.int .i64 f).wf = true) : Calls Try.prog 77 #[.pointer (some ⟨p, 0, none⟩), .int .i64 o, .int .i64 f] w fun e w' => e = .returned (.int .i64 (placeE h o f)) ∧ Below w.heap.size w w' := by
  obtain ⟨oA, oc, bA, bc, m, lA, lc, hh⟩ := hh
  exact place_any hh o f ho hf
theorem place0 {h : Hp} {o f : Int} (hp : placeE h o f = 0) : ∃ (n j : Nat) (ob : Ob) (old : Va), o = (n : Int) ∧ f = (j : Int) ∧ h.obs[n]? = some ob ∧ ob.fields[j]? = some old ∧ ob.state ≠ 3 := by
  unfold placeE at hp
  split at hp
  · cases hp
  · rename_i ob hob
    split at hob
    · rename_i h0
      split at hp
      · rename_i hf
        split at hp
        · cases hp
        · rename_i hs
          exact ⟨o.toNat, f.toNat, ob, ob.fields[f.toNat]'(by omega), by omega, by omega, hob, List.getElem?_eq_getElem _, hs⟩
      · cases hp
    · cases hob
theorem Done.row {w W : World} {G G1 : Gh} {k p : Nat} {h : Hp} (d : Done w G k p h W G1) {oA : Option Addr} {oc : Nat} {bA : Option Addr} {bc m : Nat} {lA : Option Addr} {lc g : Nat} {h' : Hp} {cs : Array Value} (hg : Mine G1 k g) (hh : HAt (W.setRow g cs) G1 k p h' oA oc bA bc m lA lc) : Done w G k p h' (W.setRow g cs) G1 :=
  d.trans ⟨⟨_, _, _, _, _, _, _, hh⟩, d.fr.on (by simp), fun b _ => rfl, fun b hb => .inl (d.fr b hb), (Keep.refl _ W).trans (C' := fun b => b = g) (fun b e => .inl (by rw [e]; exact hg)) (Keep.rowOne W g cs)⟩
set_option maxHeartbeats 8000000 in
set_option maxRecDepth 100000 in
theorem Set_any {G : Gh} {k p : Nat} {h : Hp} {w : World} (hh : HeapAt w G k p h) (hf : Fr w G) (x f : Int) (hx : (Lit.int .i64 x).wf = true) (hfw : (Lit.int .i64 f).wf = true) {v : Va} {row : Array Value} (hv : VAt w (Imm G) v row) :
    Calls Try.prog 28 #[.pointer (some ⟨p, 0, none⟩), .int .i64 x, .int .i64 f, .agg row] w (ValErr w G k p (setP h x f v)) := by
  have HWF := Lib.hid (And.intro hx hfw)
  clear hx hfw
  have HX := Lib.hid hh
  have HF := Lib.hid hf
  have HV := Lib.hid hv
  have hvs := hv.size
  have hv1 := hv.one
  have hzs : zrow.size = 9 := rfl
  have zone : zrow.all (·.oneCell') = true := (zero_va w (Imm G)).one
  have hb := Below.refl w.heap.size w
  clear hh hf hv
  go_enter Try.func28, Try.ntmps28
  go_upto_region 0 with (fail)
  apply wp_region_lit
  (with_reducible refine wl_boxV rfl ?_); intro W q hbn hlq hq; replace hb := hb.trans (hbn.mono hb.size); clear hbn; simp only [put_lit, List.set_cons_zero, List.set_cons_succ]
  have lthqr := heap_lt hq; (with_reducible refine wl_allV ?_); intro W2 r hbn hlr hr; replace hq := below_look hbn hq; replace hb := hb.trans (hbn.mono hb.size); clear hbn; simp only [put_lit, List.set_cons_zero, List.set_cons_succ]
  (with_reducible refine wl_k ?_ ?_); exact rfl; intro K hK; go_simp; refine hK _ ?_; clear hK K
  have hrl : w.heap.size ≤ r := by omega
  have hql := heap_lt hq
  have HRl := Lib.hid hrl
  have hqG : G q = none := HF.out q (by omega)
  have HQ : Hid (¬ Mine (mark G k r) k q) := Lib.hid (by rintro ⟨x, e, -⟩; unfold mark at e; rw [if_neg (by omega), hqG] at e; cases e)
  have HDn := Lib.hid (Done.marked HX.out HF.out hb hrl (heap_lt hr))
  have HM := Lib.hid (mark_same G k r)
  have HNM := Lib.hid (mark_not G k r)
  have hvv := HDn.out.va HV.out
  clear HV
  have HV := Lib.hid hvv
  clear hvv HX HF hb hrl hql hqG
  obtain ⟨bb, hbb⟩ : ∃ b, b = ofV h.obs.length h.bus.length v := ⟨_, rfl⟩
  have hc := of_done HDn.out.heap HV.out
  rw [← hbb] at hc
  have HC := Lib.hid hc
  have HB := Lib.hid hbb
  clear hc hbb
  go_upto_region 1 with (fail)
  apply wp_region_lit
  (with_reducible refine wl_k ?_ ?_); exact rfl; intro K hK; go_simp; refine hK _ ?_; clear hK K
  (with_reducible refine wl_k ?_ ?_); exact rfl; intro K hK; go_simp; refine hK _ ?_; clear hK K
  (with_reducible refine wl_k ?_ ?_); exact rfl; intro K hK; go_simp; refine hK _ ?_; clear hK K
  (with_reducible refine wl_k ?_ ?_); exact rfl; intro K hK; go_simp; refine hK _ ?_; clear hK K
  ((with_reducible apply wl_rowG); exact rfl; exact rfl; exact row35 hq hvs)
  (with_reducible refine wl_ck ?_ ?_); exact rfl; intro K hK; go_simp; refine ⟨_, _, ⟨rfl, rfl⟩, hK _ _ ⟨_, HC.out, ?_⟩⟩; clear hK K; rintro e w7 ⟨rfl, hb7⟩; refine ⟨_, rfl, ?_⟩; simp only [put_lit, List.set_cons_zero, List.set_cons_succ]
  replace HDn := Lib.hid (HDn.out.quiet hb7); replace HV := Lib.hid (HV.out.old hb7); replace hq := below_look hb7 hq; replace hr := below_look hb7 hr; clear hb7
  (with_reducible refine wl_k ?_ ?_); exact rfl; intro K hK; go_simp; refine hK _ ?_; clear hK K
  (with_reducible refine wl_k ?_ ?_); exact rfl; intro K hK; go_simp; refine hK _ ?_; clear hK K
  clear HC
  cases bb with
  | false =>
    have HD : Hid (setP h x f v = (h, va0, 4)) := Lib.hid (by unfold setP; rw [← HB.out]; rfl)
    go_upto_region 2 with (fail)
    apply wp_region_lit
    refine wl_w rfl (build35 _ _ rfl _) ?_
    simp only [put_lit, List.set_cons_zero, List.set_cons_succ]
    (with_reducible refine wl_putV rfl zone hzs rfl rfl hr ?_); rw [put_noneA]; intro W10 hbx hsz hkx hnx
    replace HDn := Lib.hid (HDn.out.put HM.out HRl.out (Keep.of_put hbx hsz hkx))
    clear hr hbx hsz hkx
    have hr := hnx
    clear hnx
    (with_reducible refine wl_k ?_ ?_); exact rfl; intro K hK; go_simp; refine hK _ ?_; clear hK K
    go_wp2_with fail
    refine bodyPost_ret (res35t rfl _ _ r rfl rfl rfl hr) rfl ?_
    rw [HD.out]
    exact ⟨_, zrow, rfl, zero_va _ _, HDn.out⟩
  | true =>
    obtain ⟨pe, hpe⟩ : ∃ z, z = placeE h x f := ⟨_, rfl⟩
    have hc := place_done HDn.out.heap x f HWF.out.1 HWF.out.2
    rw [← hpe] at hc
    have HC := Lib.hid hc
    have HPE := Lib.hid hpe
    clear hc hpe
    go_upto_region 3 with (fail)
    apply wp_region_lit
    (with_reducible refine wl_k ?_ ?_); exact rfl; intro K hK; go_simp; refine hK _ ?_; clear hK K
    (with_reducible refine wl_k ?_ ?_); exact rfl; intro K hK; go_simp; refine hK _ ?_; clear hK K
    (with_reducible refine wl_k ?_ ?_); exact rfl; intro K hK; go_simp; refine hK _ ?_; clear hK K
    (with_reducible refine wl_ck ?_ ?_); exact rfl; intro K hK; go_simp; refine ⟨_, _, ⟨rfl, rfl⟩, hK _ _ ⟨_, HC.out, ?_⟩⟩; clear hK K; rintro e w8 ⟨rfl, hb8⟩; refine ⟨_, rfl, ?_⟩; simp only [put_lit, List.set_cons_zero, List.set_cons_succ]
    replace HDn := Lib.hid (HDn.out.quiet hb8); replace HV := Lib.hid (HV.out.old hb8); replace hq := below_look hb8 hq; replace hr := below_look hb8 hr; clear hb8
    (with_reducible refine wl_k ?_ ?_); exact rfl; intro K hK; go_simp; refine hK _ ?_; clear hK K
    clear HC
    go_upto_region 4 with (fail)
    by_cases h0 : pe = 0
    · subst h0
      obtain ⟨n, j, o, old, rfl, rfl, ho, hold, -⟩ := place0 HPE.out.symm
      have HD : Hid (setP h (n : Int) (j : Int) v = ({ h with obs := h.obs.set n { o with fields := o.fields.set j v } }, old, 0)) := Lib.hid (by unfold setP; rw [← HB.out, ← HPE.out]; simp [ho, hold])
      apply wp_region_lit
      (with_reducible refine wl_k ?_ ?_); exact rfl; intro K hK; go_simp; refine hK _ ?_; clear hK K
      (with_reducible refine wl_k ?_ ?_); exact rfl; intro K hK; go_simp; refine hK _ ?_; clear hK K
      have hjl := (List.getElem?_eq_some_iff.1 hold).1
      have hnl := (List.getElem?_eq_some_iff.1 ho).1
      have hnlI : (n : Int) < (h.obs.length : Int) := by omega
      have hjlI : (j : Int) < (o.fields.length : Int) := by omega
      obtain ⟨oA, oc, bA, bc, m, lA, lc, hh⟩ := HDn.out.heap
      obtain ⟨g, tr0, fA, fc, rfl, hgr, hL, -, hLV, hun⟩ := hh.obj ho
      obtain ⟨fb, old', rowo, rfl, hfb, hold', hova, hrow⟩ := hLV.at hjl
      rw [hold] at hold'; cases hold'
      have HL := Lib.hid hL
      have HOO := Lib.hid ho
      have HH := Lib.hid hh
      have HLV := Lib.hid hLV
      have HUN := Lib.hid hun
      have HFB := Lib.hid hfb
      have HRO := Lib.hid hrow
      have HOV := Lib.hid hova
      have hos := hova.size
      have ho1 := hova.one
      have hp := hh.blk
      clear hL hLV hun hfb hrow hova hh ho hold
      go_upto_region 6 with (fail)
      have hzz := Below.refl w8.heap.size w8
      apply wp_region_lit
      (with_reducible refine wl_k ?_ ?_); exact rfl; intro K hK; go_simp; refine hK _ ?_; clear hK K
      (with_reducible refine wl_k ?_ ?_); exact rfl; intro K hK; go_simp; refine hK _ ?_; clear hK K
      (with_reducible refine wl_k ?_ ?_); exact rfl; intro K hK; go_simp; refine hK _ ?_; clear hK K
      ((with_reducible apply wl_oneG); exact rfl; exact rfl; exact h0 hp)
      (with_reducible refine wl_k ?_ ?_); exact rfl; intro K hK; go_simp; refine hK _ ?_; clear hK K
      (with_reducible refine wl_k ?_ ?_); exact rfl; intro K hK; go_simp; refine hK _ ?_; clear hK K
      (with_reducible refine wl_k ?_ ?_); exact rfl; intro K hK; go_simp; refine hK _ ?_; clear hK K
      ((with_reducible apply wl_oneG); exact rfl; exact rfl; exact (HL.out _ (Below.refl _ _)).f)
      (with_reducible refine wl_k ?_ ?_); exact rfl; intro K hK; go_simp; refine hK _ ?_; clear hK K
      (with_reducible refine wl_k ?_ ?_); exact rfl; intro K hK; go_simp; refine hK _ ?_; clear hK K
      ((with_reducible apply wl_rowG); exact rfl; exact rfl; exact HRO.out _ (Below.refl _ _))
      (with_reducible refine wl_allV ?_); intro W5 q5 hbn hlq5 hq5; replace hzz := hzz.trans (hbn.mono hzz.size); clear hbn; simp only [put_lit, List.set_cons_zero, List.set_cons_succ]
      (with_reducible refine wl_putV hos ho1 rfl rfl rfl hq5 ?_); rw [put_noneA]; intro W6 hbx hsz hkx hnx; replace hzz := hbx _ _ (by omega) hzz; clear hq5; have hq5 := hnx; clear hnx
      clear hbx hkx hsz
      have HQ5 : Hid (¬ Mine (mark G k r) k q5) := Lib.hid (fun hm => by obtain ⟨z, e, -⟩ := hm; rw [HDn.out.fr q5 (by omega)] at e; cases e)
      have HL9 := Lib.hid (fun w' hw => HL.out w' (hzz.trans (Below.mono hw hzz.size)))
      replace HDn := Lib.hid (HDn.out.quiet hzz)
      replace HV := Lib.hid (HV.out.old hzz)
      replace HOV := Lib.hid (HOV.out.old hzz)
      replace HH := Lib.hid (HH.out.old hzz)
      replace HLV := Lib.hid (HLV.out.moved (Keep.of (C := fun _ => False) hzz) (fun b e => e.elim) (fun _ _ => rfl))
      replace hp := below_look hzz hp; replace hq := below_look hzz hq; replace hr := below_look hzz hr
      clear HL HUN HRO
      have HL := HL9
      clear HL9
      go_upto_region 7 with (fail)
      refine wp_region_below 11 mixed (by kernel_rfl) ?_; simp only [List.take_succ_cons, List.take_zero, List.drop_succ_cons, List.drop_zero]
      (with_reducible refine wq_k ?_ ?_); exact rfl; intro K hK; go_simp; (with_reducible refine hK _ ?_); clear hK K
      (with_reducible refine wq_k ?_ ?_); exact rfl; intro K hK; go_simp; (with_reducible refine hK _ ?_); clear hK K
      (with_reducible refine wq_k ?_ ?_); exact rfl; intro K hK; go_simp; (with_reducible refine hK _ ?_); clear hK K
      ((with_reducible apply wq_one); exact rfl; exact rfl; intro w' hw'; first | exact vk (below_look hw' (by with_reducible assumption)) (by with_reducible assumption) | exact vn (below_look hw' (by with_reducible assumption)) (by with_reducible assumption) | exact vl (below_look hw' (by with_reducible assumption)) (by with_reducible assumption) | exact h0 (below_look hw' (by with_reducible assumption)) | exact h1 (below_look hw' (by with_reducible assumption)) | exact h2 (below_look hw' (by with_reducible assumption)) | exact h3 (below_look hw' (by with_reducible assumption)))
      (with_reducible refine wq_k ?_ ?_); exact rfl; intro K hK; go_simp; (with_reducible refine hK _ ?_); clear hK K
      (with_reducible refine wq_k ?_ ?_); exact rfl; intro K hK; go_simp; (with_reducible refine hK _ ?_); clear hK K
      (with_reducible refine wq_k ?_ ?_); exact rfl; intro K hK; go_simp; (with_reducible refine hK _ ?_); clear hK K
      ((with_reducible apply wq_one); exact rfl; exact rfl; intro w' hw'; exact (HL.out w' hw').f)
      (with_reducible refine wq_k ?_ ?_); exact rfl; intro K hK; go_simp; (with_reducible refine hK _ ?_); clear hK K
      ((with_reducible apply wq_row); exact rfl; exact rfl; intro w' hw'; exact row35 (below_look hw' hq) hvs)
      (with_reducible refine wq_k ?_ ?_); exact rfl; intro K hK; go_simp; (with_reducible refine hK _ ?_); clear hK K
      intro w10 hb10
      have hf1 := (HL.out w10 hb10).f
      replace HDn := Lib.hid (HDn.out.quiet hb10)
      replace HV := Lib.hid (HV.out.old hb10)
      replace HOV := Lib.hid (HOV.out.old hb10)
      replace HH := Lib.hid (HH.out.old hb10)
      replace HLV := Lib.hid (HLV.out.moved (Keep.of (C := fun _ => False) hb10) (fun b e => e.elim) (fun _ _ => rfl))
      replace hp := below_look hb10 hp; replace hq := below_look hb10 hq; replace hr := below_look hb10 hr; replace hq5 := below_look hb10 hq5
      clear hb10 hzz HL hp hq
      obtain ⟨cur, hcur, hfit, hlp⟩ := HLV.out.put hjl HV.out
      obtain ⟨g2, tr2, fA2, fc2, e2, -, hL2, -, -, hun2⟩ := HH.out.obj HOO.out
      cases e2
      have e3 := one_eq hf1 (hL2 w10 (Below.refl _ _)).f
      cases e3
      have hset := HH.out.setF (o' := { o with fields := o.fields.set j v }) HOO.out rfl (f := fb) (fc := fc) hun2 HFB.out (by simp) rfl hlp
      have HDN := Lib.hid (HDn.out.row ⟨_, HFB.out, by simp⟩ hset)
      have hk := Keep.rowOne w10 fb (putN cur (j * 9) row)
      have hrf : ¬ r = fb := fun e => by have h1 := HFB.out; rw [← e, HM.out] at h1; cases h1
      have hqf : ¬ q5 = fb := fun e => HQ5.out ⟨.fld n, by rw [e]; exact HFB.out, by simp⟩
      have HOV2 := Lib.hid (HOV.out.keep hk (fun b hb e => by unfold Imm at hb; rw [e, HFB.out] at hb; cases hb))
      have hr2 := hk.look hr hrf
      have hq2 := hk.look hq5 hqf
      clear hset hun2 hL2 hf1 hk hlp HDn HH HLV HOV hr hq5 HV
      refine wl_storeN rfl 35 _ _ rfl info35 rfl rfl hvs hv1 hcur hfit ?_
      rw [put_noneA]
      have hr := hr2
      have hq5 := hq2
      clear hr2 hq2 hcur hfit hrf hqf
      obtain ⟨W12, hW⟩ : ∃ W, W = w10.setRow fb (putN cur (j * 9) row) := ⟨_, rfl⟩
      rw [← hW] at HDN HOV2 hr hq5 ⊢
      clear hW
      go_upto_region 8 with (fail)
      apply wp_region_lit
      ((with_reducible apply wl_rowG); exact rfl; exact rfl; exact row35 hq5 hos)
      (with_reducible refine wl_putV hos ho1 hzs rfl rfl hr ?_); rw [put_noneA]; intro W13 hbx hsz hkx hnx
      have HK12 := Lib.hid (Keep.of_put hbx hsz hkx)
      clear hbx hsz hkx hr
      (with_reducible refine wl_k ?_ ?_); exact rfl; intro K hK; go_simp; refine hK _ ?_; clear hK K
      go_wp2_with fail
      refine bodyPost_ret (res35t rfl _ _ r rfl rfl hos hnx) rfl ?_
      rw [HD.out]
      exact ⟨_, _, rfl, HOV2.out.put HM.out HK12.out, HDN.out.put HM.out HRl.out HK12.out⟩
    · have HD : Hid (setP h x f v = (h, va0, pe)) := Lib.hid (by unfold setP; rw [← HB.out, if_pos rfl, ← HPE.out, if_neg h0])
      have h0b : (pe != 0) = true := by simp [h0]
      apply wp_region_lit
      (with_reducible refine wl_k ?_ ?_); exact rfl; intro K hK; go_simp; refine hK _ ?_; clear hK K
      (with_reducible refine wl_k ?_ ?_); exact rfl; intro K hK; go_simp; refine hK _ ?_; clear hK K
      clear h0
      go_upto_region 5 with (fail)
      apply wp_region_lit
      refine wl_w rfl (build35 _ _ rfl _) ?_
      simp only [put_lit, List.set_cons_zero, List.set_cons_succ]
      (with_reducible refine wl_k ?_ ?_); exact rfl; intro K hK; go_simp; refine hK _ ?_; clear hK K
      (with_reducible refine wl_putV rfl zone hzs rfl rfl hr ?_); rw [put_noneA]; intro W10 hbx hsz hkx hnx
      replace HDn := Lib.hid (HDn.out.put HM.out HRl.out (Keep.of_put hbx hsz hkx))
      clear hr hbx hsz hkx
      have hr := hnx
      clear hnx
      (with_reducible refine wl_k ?_ ?_); exact rfl; intro K hK; go_simp; refine hK _ ?_; clear hK K
      go_wp2_with fail
      refine bodyPost_ret (res35t rfl _ _ r rfl rfl rfl hr) rfl ?_
      rw [HD.out]
      exact ⟨_, zrow, rfl, zero_va _ _, HDn.out⟩
end Go.Proofs.Ytpamocglecangaa
