/- The program's Copy. Regions that draw their order and whose last operation writes what others have read: the condition on the world need not hold behind that one. A heap that grows by an object, a buffer or a level. A heap that grows, with its ghost. -/
import Derived.Test.YtpamocglecangaaPB4
import Derived.Test.YtpamocglecangaaPB1
namespace Go.Proofs.Ytpamocglecangaa
open Go.RowKit Go.Proofs.Ytpamocglecangaa.Nm
set_option linter.unusedSimpArgs false
def HeapAt (w : World) (G : Gh) (k p : Nat) (h : Hp) : Prop := ∃ oA oc bA bc m lA lc, HAt w G k p h oA oc bA bc m lA lc
/-- What an operation on heap k leaves. -/
structure Done (w : World) (G : Gh) (k p : Nat) (h' : Hp) (w' : World) (G' : Gh) : Prop where
  heap : HeapAt w' G' k p h'
  fr : Fr w' G'
  old : ∀ b, b < w.heap.size → G' b = G b
  new : ∀ b, w.heap.size ≤ b → G' b = none ∨ ∃ r, G' b = some (k, r)
  keep : Keep (Mine G k) w w'
theorem Done.calm {w : World} {G : Gh} {k p : Nat} {h : Hp} (hh : HeapAt w G k p h) (hf : Fr w G) {w' : World} (hb : Below w.heap.size w w') : Done w G k p h w' G := by
  obtain ⟨oA, oc, bA, bc, m, lA, lc, hh⟩ := hh
  exact ⟨⟨_, _, _, _, _, _, _, hh.old hb⟩, hf.on hb.size, fun b _ => rfl, fun b hb => .inl (hf b hb), Keep.of hb⟩
section
variable {w w' : World} {G G' : Gh} {k p : Nat} {h h' : Hp}
theorem Done.trans {W : World} {G1 : Gh} (d : Done w G k p h W G1) (d2 : Done W G1 k p h' w' G') : Done w G k p h' w' G' where
  heap := d2.heap
  fr := d2.fr
  old := fun b hb => (d2.old b (by have := d.keep.size; omega)).trans (d.old b hb)
  new := fun b hb => by
    by_cases e : b < W.heap.size
    · rw [d2.old b e]; exact d.new b hb
    · exact d2.new b (by omega)
  keep := d.keep.trans (C' := Mine G1 k) (fun b hm => by
    by_cases e : b < w.heap.size
    · unfold Mine at hm; rw [d.old b e] at hm; exact .inl hm
    · exact .inr (by omega)) d2.keep
theorem Done.va (d : Done w G k p h' w' G') {v : Va} {row : Array Value} (hv : VAt w (Imm G) v row) : VAt w' (Imm G') v row :=
  (hv.low.mono (fun _ h => h) fun b hb hl => d.keep.block b hl (fun hm => by obtain ⟨_, e, _⟩ := hm; have := hb.1; unfold Imm at this; rw [this] at e; cases e)).weak fun b hb => by
    unfold Imm; rw [d.old b hb.2]; exact hb.1
theorem Done.look (d : Done w G k p h' w' G') {b : Nat} {o : Obj} (ho : w.heap[b]? = some o) (hn : ¬ Mine G k b) : w'.heap[b]? = some o := d.keep.look ho hn
/-- A call's own variable, marked. -/
def mark (G : Gh) (k r : Nat) : Gh := fun b => if b = r then some (k, .tmp) else G b
theorem mark_same (G : Gh) (k r : Nat) : mark G k r r = some (k, .tmp) := if_pos rfl
theorem mark_not (G : Gh) (k r : Nat) : ¬ Mine (mark G k r) k r := by rintro ⟨x, e, h⟩; rw [mark_same] at e; cases e; exact h rfl
theorem Done.marked (hh : HeapAt w G k p h) (hf : Fr w G) (hb : Below w.heap.size w w') {r : Nat} (hr : w.heap.size ≤ r) (hr2 : r < w'.heap.size) : Done w G k p h w' (mark G k r) where
  heap := by
    obtain ⟨oA, oc, bA, bc, m, lA, lc, hh⟩ := hh
    exact ⟨_, _, _, _, _, _, _, (hh.regh fun b hb => if_neg (by omega)).old hb⟩
  fr := fun b hb2 => by
    unfold mark
    rw [if_neg (by omega)]
    exact hf b (by have := hb.size; omega)
  old := fun b hb => if_neg (by omega)
  new := fun b hb2 => by
    unfold mark
    split
    · exact .inr ⟨_, rfl⟩
    · exact .inl (hf b hb2)
  keep := Keep.of hb
/-- A call's own variable written. -/
theorem Done.put {W : World} {G1 : Gh} (d : Done w G k p h W G1) {r : Nat} (hr : G1 r = some (k, .tmp)) (hr2 : w.heap.size ≤ r) (hk : Keep (fun b => b = r) W w') : Done w G k p h w' G1 where
  heap := by
    obtain ⟨oA, oc, bA, bc, m, lA, lc, hh⟩ := d.heap
    exact ⟨_, _, _, _, _, _, _, hh.same (fun b hb hm => hk.block b hb fun e => by obtain ⟨x, e2, h3⟩ := hm; rw [e, hr] at e2; cases e2; exact h3 rfl) fun b hb hn => hk.block b hb fun e => by rw [e, hr] at hn; cases hn⟩
  fr := d.fr.on hk.size
  old := d.old
  new := d.new
  keep := d.keep.trans (C' := fun b => b = r) (fun b e => .inr (by omega)) hk
theorem VAt.put {v : Va} {row : Array Value} {r : Nat} (hv : VAt w (Imm G) v row) (hr : G r = some (k, .tmp)) (hk : Keep (fun b => b = r) w w') : VAt w' (Imm G) v row := hv.keep hk fun b hb e => by unfold Imm at hb; rw [e, hr] at hb; cases hb
theorem Keep.of_put {r : Nat} (hbx : ∀ B w0, B ≤ r → Below B w0 w → Below B w0 w') (hsz : w'.heap.size = w.heap.size) (hkx : ∀ g, g ≠ r → w'.heap[g]? = w.heap[g]?) : Keep (fun b => b = r) w w' :=
  have h0 := hbx 0 w (Nat.zero_le _) (Below.refl 0 w)
  ⟨h0.os, h0.tape, h0.output, by omega, fun b _ hn => hkx b hn⟩
theorem Done.quiet (d : Done w G k p h w' G') {w2 : World} (hb : Below w'.heap.size w' w2) : Done w G k p h w2 G' := d.trans (Done.calm d.heap d.fr hb)
theorem count_done (hh : HeapAt w G k p h) (hf : Fr w G) {v : Va} {row : Array Value} (hv : VAt w (Imm G) v row) (x : Int) (hx : (Lit.int .i64 x).wf = true) (ho : ofV h.obs.length h.bus.length v = true) :
    Calls Try.prog 75 #[.pointer (some ⟨p, 0, none⟩), .agg row, .int .i64 x] w fun e w' => e = .returned (.tuple #[]) ∧ Done w G k p (cntV x v h) w' G := by
  obtain ⟨oA, oc, bA, bc, m, lA, lc, hh⟩ := hh
  refine (count_any G k p x hx v h w row _ _ _ _ _ _ _ hv hh hf ho).mono ?_
  rintro e w' ⟨h1, h2, h3⟩
  exact ⟨h1, ⟨_, _, _, _, _, _, _, h2⟩, hf.on h3.size, fun b _ => rfl, fun b hb => .inl (hf b hb), (Keep.refl _ w).trans (fun b hb => .inl hb.mine) h3⟩
theorem of_done (hh : HeapAt w G k p h) {D : Nat → Prop} {v : Va} {row : Array Value} (hv : VAt w D v row) : Calls Try.prog 73 #[.pointer (some ⟨p, 0, none⟩), .agg row] w fun e w' => e = .returned (.bool (ofV h.obs.length h.bus.length v)) ∧ Below w.heap.size w w' := by
  obtain ⟨oA, oc, bA, bc, m, lA, lc, hh⟩ := hh
  exact of_heap hh hv
theorem dead_done (hh : HeapAt w G k p h) {D : Nat → Prop} {v : Va} {row : Array Value} (hv : VAt w D v row) (ho : ofV h.obs.length h.bus.length v = true) : Calls Try.prog 74 #[.pointer (some ⟨p, 0, none⟩), .agg row] w fun e w' => e = .returned (.bool (deadV h v)) ∧ Below w.heap.size w w' := by
  obtain ⟨oA, oc, bA, bc, m, lA, lc, hh⟩ := hh
  exact dead_any G k p h v w D row _ _ _ _ _ _ _ hv hh ho
end
/-- A value, and an error. -/
def ValErr (w : World) (G : Gh) (k p : Nat) (r : Hp × Va × Int) (e : Ending) (w' : World) : Prop := ∃ G' row, e = .returned (.tuple #[.agg row, .int .i64 r.2.2]) ∧ VAt w' (Imm G') r.2.1 row ∧ Done w G k p r.1 w' G'
def copyP (h : Hp) (v : Va) : Hp × Va × Int := if ofV h.obs.length h.bus.length v then (if deadV h v then (h, va0, 140) else (cntV 1 v h, v, 0)) else (h, va0, 4)
/- zret(R;;r): the zero value into the result's variable. -/
/- vput(r): a value stored into the result's variable. -/
set_option maxHeartbeats 8000000 in
set_option maxRecDepth 100000 in
theorem Copy_any {G : Gh} {k p : Nat} {h : Hp} {w : World} (hh : HeapAt w G k p h) (hf : Fr w G) {v : Va} {row : Array Value} (hv : VAt w (Imm G) v row) :
    Calls Try.prog 24 #[.pointer (some ⟨p, 0, none⟩), .agg row] w (ValErr w G k p (copyP h v)) := by
  have HX := Lib.hid hh
  have HF := Lib.hid hf
  have HV := Lib.hid hv
  have hvs := hv.size
  have hv1 := hv.one
  have hzs : zrow.size = 9 := rfl
  have zone : zrow.all (·.oneCell') = true := (zero_va w (Imm G)).one
  have hb := Below.refl w.heap.size w
  clear hh hf hv
  go_enter Try.func24, Try.ntmps24
  go_upto_region 0 with (fail)
  apply wp_region_lit
  (with_reducible refine wl_boxV rfl ?_); intro W q hbn hlq hq; replace hb := hb.trans (hbn.mono hb.size); clear hbn; simp only [put_lit, List.set_cons_zero, List.set_cons_succ]
  have lthqr := heap_lt hq; (with_reducible refine wl_allV ?_); intro W2 r hbn hlr hr; replace hq := below_look hbn hq; replace hb := hb.trans (hbn.mono hb.size); clear hbn; simp only [put_lit, List.set_cons_zero, List.set_cons_succ]
  (with_reducible refine wl_k ?_ ?_); exact rfl; intro K hK; go_simp; refine hK _ ?_; clear hK K
  have hrl : w.heap.size ≤ r := by omega
  have hql := heap_lt hq
  have HRl := Lib.hid hrl
  have hqG : G q = none := HF.out q (by omega)
  have HQ : Hid (¬ Mine (mark G k r) k q) := Lib.hid (by rintro ⟨x, e, -⟩; unfold mark at e; rw [if_neg (by omega), hqG] at e; cases e)
  have HDn := Lib.hid (Done.marked HX.out HF.out hb hrl (heap_lt hr))
  have HM := Lib.hid (mark_same G k r)
  have HNM := Lib.hid (mark_not G k r)
  have hvv := HDn.out.va HV.out
  clear HV
  have HV := Lib.hid hvv
  clear hvv HX HF hb hrl hql hqG
  obtain ⟨bb, hbb⟩ : ∃ b, b = ofV h.obs.length h.bus.length v := ⟨_, rfl⟩
  have hc := of_done HDn.out.heap HV.out
  rw [← hbb] at hc
  have HC := Lib.hid hc
  have HB := Lib.hid hbb
  clear hc hbb
  go_upto_region 1 with (fail)
  apply wp_region_lit
  (with_reducible refine wl_k ?_ ?_); exact rfl; intro K hK; go_simp; refine hK _ ?_; clear hK K
  (with_reducible refine wl_k ?_ ?_); exact rfl; intro K hK; go_simp; refine hK _ ?_; clear hK K
  (with_reducible refine wl_k ?_ ?_); exact rfl; intro K hK; go_simp; refine hK _ ?_; clear hK K
  (with_reducible refine wl_k ?_ ?_); exact rfl; intro K hK; go_simp; refine hK _ ?_; clear hK K
  ((with_reducible apply wl_rowG); exact rfl; exact rfl; exact row35 hq hvs)
  (with_reducible refine wl_ck ?_ ?_); exact rfl; intro K hK; go_simp; refine ⟨_, _, ⟨rfl, rfl⟩, hK _ _ ⟨_, HC.out, ?_⟩⟩; clear hK K; rintro e w7 ⟨rfl, hb7⟩; refine ⟨_, rfl, ?_⟩; simp only [put_lit, List.set_cons_zero, List.set_cons_succ]
  replace HDn := Lib.hid (HDn.out.quiet hb7); replace HV := Lib.hid (HV.out.old hb7); replace hq := below_look hb7 hq; replace hr := below_look hb7 hr; clear hb7
  (with_reducible refine wl_k ?_ ?_); exact rfl; intro K hK; go_simp; refine hK _ ?_; clear hK K
  (with_reducible refine wl_k ?_ ?_); exact rfl; intro K hK; go_simp; refine hK _ ?_; clear hK K
  (with_reducible refine wl_k ?_ ?_); exact rfl; intro K hK; go_simp; refine hK _ ?_; clear hK K
  clear HC
  cases bb with
  | false =>
    have HD : Hid (copyP h v = (h, va0, 4)) := Lib.hid (by unfold copyP; rw [← HB.out]; rfl)
    go_upto_region 2 with (fail)
    apply wp_region_lit
    refine wl_w rfl (build35 _ _ rfl _) ?_
    simp only [put_lit, List.set_cons_zero, List.set_cons_succ]
    (with_reducible refine wl_putV rfl zone hzs rfl rfl hr ?_); rw [put_noneA]; intro W10 hbx hsz hkx hnx
    replace HDn := Lib.hid (HDn.out.put HM.out HRl.out (Keep.of_put hbx hsz hkx))
    clear hr hbx hsz hkx
    have hr := hnx
    clear hnx
    (with_reducible refine wl_k ?_ ?_); exact rfl; intro K hK; go_simp; refine hK _ ?_; clear hK K
    go_wp2_with fail
    refine bodyPost_ret (res35t rfl _ _ r rfl rfl rfl hr) rfl ?_
    rw [HD.out]
    exact ⟨_, zrow, rfl, zero_va _ _, HDn.out⟩
  | true =>
    obtain ⟨bd, hbd⟩ : ∃ b, b = deadV h v := ⟨_, rfl⟩
    have hc := dead_done HDn.out.heap HV.out HB.out.symm
    rw [← hbd] at hc
    have HC := Lib.hid hc
    have HBD := Lib.hid hbd
    clear hc hbd
    go_upto_region 3 with (fail)
    apply wp_region_lit
    (with_reducible refine wl_k ?_ ?_); exact rfl; intro K hK; go_simp; refine hK _ ?_; clear hK K
    ((with_reducible apply wl_rowG); exact rfl; exact rfl; exact row35 hq hvs)
    (with_reducible refine wl_ck ?_ ?_); exact rfl; intro K hK; go_simp; refine ⟨_, _, ⟨rfl, rfl⟩, hK _ _ ⟨_, HC.out, ?_⟩⟩; clear hK K; rintro e w7 ⟨rfl, hb7⟩; refine ⟨_, rfl, ?_⟩; simp only [put_lit, List.set_cons_zero, List.set_cons_succ]
    replace HDn := Lib.hid (HDn.out.quiet hb7); replace HV := Lib.hid (HV.out.old hb7); replace hq := below_look hb7 hq; replace hr := below_look hb7 hr; clear hb7
    (with_reducible refine wl_k ?_ ?_); exact rfl; intro K hK; go_simp; refine hK _ ?_; clear hK K
    clear HC
    cases bd with
    | true =>
      have HD : Hid (copyP h v = (h, va0, 140)) := Lib.hid (by unfold copyP; rw [← HB.out, ← HBD.out]; rfl)
      go_upto_region 4 with (fail)
      apply wp_region_lit
      refine wl_w rfl (build35 _ _ rfl _) ?_
      simp only [put_lit, List.set_cons_zero, List.set_cons_succ]
      (with_reducible refine wl_putV rfl zone hzs rfl rfl hr ?_); rw [put_noneA]; intro W10 hbx hsz hkx hnx
      replace HDn := Lib.hid (HDn.out.put HM.out HRl.out (Keep.of_put hbx hsz hkx))
      clear hr hbx hsz hkx
      have hr := hnx
      clear hnx
      (with_reducible refine wl_k ?_ ?_); exact rfl; intro K hK; go_simp; refine hK _ ?_; clear hK K
      go_wp2_with fail
      refine bodyPost_ret (res35t rfl _ _ r rfl rfl rfl hr) rfl ?_
      rw [HD.out]
      exact ⟨_, zrow, rfl, zero_va _ _, HDn.out⟩
    | false =>
      have HD : Hid (copyP h v = (cntV 1 v h, v, 0)) := Lib.hid (by unfold copyP; rw [← HB.out, ← HBD.out]; rfl)
      have HC := Lib.hid (count_done HDn.out.heap HDn.out.fr HV.out 1 (by rfl) HB.out.symm)
      go_upto_region 5 with (fail)
      apply wp_region_lit
      (with_reducible refine wl_k ?_ ?_); exact rfl; intro K hK; go_simp; refine hK _ ?_; clear hK K
      ((with_reducible apply wl_rowG); exact rfl; exact rfl; exact row35 hq hvs)
      (with_reducible refine wl_ck ?_ ?_); exact rfl; intro K hK; go_simp; refine ⟨_, _, ⟨rfl, rfl⟩, hK _ _ ⟨_, HC.out, ?_⟩⟩; clear hK K; rintro e w8 ⟨rfl, hd8⟩; refine ⟨_, rfl, ?_⟩; simp only [put_lit, List.set_cons_zero, List.set_cons_succ]
      replace HV := Lib.hid (hd8.va HV.out); replace HDn := Lib.hid (HDn.out.trans hd8); replace hq := hd8.look hq HQ.out; replace hr := hd8.look hr HNM.out; clear hd8
      clear HC
      go_upto_region 6 with (fail)
      apply wp_region_lit
      ((with_reducible apply wl_rowG); exact rfl; exact rfl; exact row35 hq hvs)
      (with_reducible refine wl_putV hvs hv1 hzs rfl rfl hr ?_); rw [put_noneA]; intro W10 hbx hsz hkx hnx
      have HK10 := Lib.hid (Keep.of_put hbx hsz hkx)
      replace HDn := Lib.hid (HDn.out.put HM.out HRl.out HK10.out)
      replace HV := Lib.hid (HV.out.put HM.out HK10.out)
      clear hr hbx hsz hkx
      have hr := hnx
      clear hnx
      (with_reducible refine wl_k ?_ ?_); exact rfl; intro K hK; go_simp; refine hK _ ?_; clear hK K
      go_wp2_with fail
      refine bodyPost_ret (res35t rfl _ _ r rfl rfl hvs hr) rfl ?_
      rw [HD.out]
      exact ⟨_, row, rfl, HV.out, HDn.out⟩
end Go.Proofs.Ytpamocglecangaa
namespace Go.Proofs.Ytpamocglecangaa.Nm
open Go.RowKit
set_option linter.unusedSimpArgs false
section
variable {P : Program} {ops : Array Oper} {Q : Exit → Act → World → Prop} {md : Region.Mode} {S : World → Prop} {c : Nat}
/-- Whatever order is picked, and S holds behind every operation but c. -/
def wpAnyZ (P : Program) (md : Region.Mode) (ops : Array Oper) (Q : Exit → Act → World → Prop) (S : World → Prop) (c : Nat) : Nat → Array Bool → Act → World → Prop
  | 0, listed, a, w => Region.ready md ops listed = [] ∧ Q .normal a w
  | fuel + 1, listed, a, w =>
    (Region.ready md ops listed = [] → Q .normal a w) ∧
    ∀ i ∈ Region.ready md ops listed, wpOp P ops Q i (fun a' w' => (i ≠ c → S w') ∧ wpAnyZ P md ops Q S c fuel (listed.setIfInBounds i true) a' w') a w
theorem wpAny_of_Z : ∀ (fuel : Nat) (listed : Array Bool) (a : Act) (w : World), wpAnyZ P md ops Q S c fuel listed a w → wpAny P md ops Q fuel listed a w
  | 0, _, _, _, h => h
  | fuel + 1, _, _, _, h => ⟨h.1, fun i hi => wpOp_mono (fun a' w' h' => wpAny_of_Z fuel _ a' w' h'.2) (h.2 i hi)⟩
theorem wpAnyZ_first {i : Nat} {oi oc : Oper} {v : Value} (hi : ops[i]? = some oi) (hsel : ∀ (j : Nat) (o : Oper) cs b, ops[j]? = some o → o.op ≠ .select cs b)
    (hQ : ∀ c a w, Q (.panic c) (a.put oi.dst v) w → Q (.panic c) a w) (hoc : ops[c]? = some oc) (hci : ∃ e ∈ oc.after, Region.binds md e = true ∧ e.on = i) :
    ∀ (fuel : Nat) (listed : Array Bool) (a : Act) (w : World),
      (∀ j oj, ops[j]? = some oj → j ≠ i → listed.getD j true = false → (∀ e ∈ oj.after, Region.binds md e = true → e.on ≠ i) → oi.apart ops oj = true) →
      i ∈ Region.ready md ops listed → YieldsIf P ops S oi v a → S w →
      wpAnyZ P md ops Q S c fuel (listed.setIfInBounds i true) (a.put oi.dst v) w → wpAnyZ P md ops Q S c (fuel + 1) listed a w := by
  intro fuel
  induction fuel with
  | zero =>
    intro listed a w _ hr hy hS H
    refine ⟨fun h => (by rw [h] at hr; cases hr), fun j hj => ?_⟩
    by_cases hji : j = i
    · subst hji; exact hy.wpOp hi hS ⟨fun _ => hS, H⟩
    · have := ready_mono hj hji
      rw [H.1] at this
      cases this
  | succ fuel ih =>
    intro listed a w hfree hr hy hS H
    refine ⟨fun h => (by rw [h] at hr; cases hr), fun j hj => ?_⟩
    by_cases hji : j = i
    · subst hji; exact hy.wpOp hi hS ⟨fun _ => hS, H⟩
    · have h1 := H.2 j (ready_mono hj hji)
      obtain ⟨hjun, oj, hoj, hall⟩ := mem_ready.1 hj
      have hnot : ∀ e ∈ oj.after, Region.binds md e = true → e.on ≠ i := fun e he hb heq => by
        have h1 := hall e he hb
        have h0 := (mem_ready.1 hr).1
        rw [heq] at h1
        rcases Nat.lt_or_ge i listed.size with h' | h'
        · simp [h'] at h0 h1; rw [h0] at h1; cases h1
        · simp [Array.getElem?_eq_none h'] at h1
      have hjc : j ≠ c := fun e => by
        subst e
        rw [hoc] at hoj
        cases hoj
        obtain ⟨e, he, hb, heq⟩ := hci
        exact hnot e he hb heq
      have h2 := wpOp_putIf hoj (hfree j oj hoj hji hjun hnot) (fun cs b => hsel i oi cs b hi) (fun cs b => hsel j oj cs b hoj) hQ hy h1
      have hfree' : ∀ k ok, ops[k]? = some ok → k ≠ i → (listed.setIfInBounds j true).getD k true = false →
          (∀ e ∈ ok.after, Region.binds md e = true → e.on ≠ i) → oi.apart ops ok = true := fun k ok hk hki hun hno => by
        refine hfree k ok hk hki ?_ hno
        by_cases hjk : j = k
        · subst hjk; exact hjun
        · rw [getD_set_ne true hjk] at hun; exact hun
      refine wpOp_mono (fun a' w' h3 => ⟨h3.2.1, ih (listed.setIfInBounds j true) a' w' hfree' (ready_mono hr (Ne.symm hji)) h3.1 (h3.2.1 hjc) ?_⟩) h2
      rw [Array.setIfInBounds_comm _ _ hji]
      exact h3.2.2
/-- The operation c waits for number i. -/
def waits (md : Region.Mode) (ops : Array Oper) (c i : Nat) : Bool := match ops[c]? with | some oc => oc.after.toList.any fun e => Region.binds md e && (e.on == i) | none => false
theorem waits_spec {i : Nat} (h : waits md ops c i = true) : ∃ oc, ops[c]? = some oc ∧ ∃ e ∈ oc.after, Region.binds md e = true ∧ e.on = i := by
  unfold waits at h
  split at h
  · rename_i oc hoc
    rw [List.any_eq_true] at h
    obtain ⟨e, he, h2⟩ := h
    rw [Bool.and_eq_true] at h2
    exact ⟨oc, hoc, e, Array.mem_toList_iff.1 he, h2.1, by simpa using h2.2⟩
  · cases h
variable {i : Nat} {oi : Oper} {fuel : Nat} {listed : Array Bool} {a : Act} {w : World}
theorem za_val {v : Value} (hi : ops[i]? = some oi) (hs : Region.noSelect ops = true) (hf : Region.free md ops listed i = true) (hr : (Region.ready md ops listed).contains i = true) (hw : waits md ops c i = true)
    (hQ : ∀ c a w, Q (.panic c) (a.put oi.dst v) w → Q (.panic c) a w) (hS : S w) (hg : Region.wanted oi (yielded ops a.tmps) = true) (hv : ∀ w, S w → (execOp a.eval oi).run P w = .ok (.value v) w)
    (h : wpAnyZ P md ops Q S c fuel (listed.setIfInBounds i true) (a.put oi.dst v) w) : wpAnyZ P md ops Q S c (fuel + 1) listed a w := by
  obtain ⟨oc, hoc, hci⟩ := waits_spec hw
  exact wpAnyZ_first hi (Region.noSelect_spec hs) hQ hoc hci fuel listed a w (Region.free_spec hi hf) (by simpa using hr) (.inl ⟨hg, hv⟩) hS h
theorem za_k (hi : ops[i]? = some oi) (hs : Region.noSelect ops = true) (hf : Region.free md ops listed i = true) (hr : (Region.ready md ops listed).contains i = true) (hw : waits md ops c i = true)
    (hQ : ∀ v c a w, Q (.panic c) (a.put oi.dst v) w → Q (.panic c) a w) (hS : S w) (hg : Region.wanted oi (yielded ops a.tmps) = true)
    (h : ∀ K : Act → Prop, (∀ a', wpAnyZ P md ops Q S c fuel (listed.setIfInBounds i true) a' w → K a') → ∃ v, (∀ w, (execOp a.eval oi).run P w = .ok (.value v) w) ∧ K (a.put oi.dst v)) : wpAnyZ P md ops Q S c (fuel + 1) listed a w := by
  obtain ⟨v, hv, hk⟩ := h _ (fun _ h => h)
  exact za_val hi hs hf hr hw (hQ v) hS hg (fun w _ => hv w) hk
theorem wpAnyZ_one (hr : Region.ready md ops listed = [i]) (h : wpOp P ops Q i (fun a' w' => (i ≠ c → S w') ∧ wpAnyZ P md ops Q S c fuel (listed.setIfInBounds i true) a' w') a w) : wpAnyZ P md ops Q S c (fuel + 1) listed a w :=
  ⟨fun h0 => (by rw [hr] at h0; cases h0), fun j hj => by
    rw [hr] at hj
    rcases List.mem_cons.1 hj with rfl | hj
    · exact h
    · cases hj⟩
theorem za_do {v : Value} {w2 : World} (hr : Region.ready md ops listed = [i]) (ho : ops[i]? = some oi) (hg : Region.wanted oi (yielded ops a.tmps) = true) (hx : (execOp a.eval oi).run P w = .ok (.value v) w2) (hS : i ≠ c → S w2)
    (h : wpAnyZ P md ops Q S c fuel (listed.setIfInBounds i true) (a.put oi.dst v) w2) : wpAnyZ P md ops Q S c (fuel + 1) listed a w := by
  refine wpAnyZ_one hr ?_
  unfold wpOp
  simp only [ho]
  rw [if_pos hg]
  refine .inl ?_
  unfold Oper.wp
  rw [hx]
  exact ⟨hS, h⟩
/-- The only one that may come up reckons. -/
theorem za_1 (hr : Region.ready md ops listed = [i]) (ho : ops[i]? = some oi) (hg : Region.wanted oi (yielded ops a.tmps) = true) (hS : S w)
    (h : ∀ K : Act → Prop, (∀ a', wpAnyZ P md ops Q S c fuel (listed.setIfInBounds i true) a' w → K a') → ∃ v, (∀ w, (execOp a.eval oi).run P w = .ok (.value v) w) ∧ K (a.put oi.dst v)) : wpAnyZ P md ops Q S c (fuel + 1) listed a w := by
  obtain ⟨v, hv, hk⟩ := h _ (fun _ h => h)
  exact za_do hr ho hg (hv w) (fun _ => hS) hk
theorem za_call (hr : Region.ready md ops listed = [i]) (ho : ops[i]? = some oi) (hg : Region.wanted oi (yielded ops a.tmps) = true)
    (h : ∀ K : FuncId → Array Value → Prop, (∀ f args, (∃ F, Calls P f args w F ∧ ∀ e w', F e w' → ∃ v, e = .returned v ∧ (i ≠ c → S w') ∧ wpAnyZ P md ops Q S c fuel (listed.setIfInBounds i true) (a.put oi.dst v) w') → K f args) → ∃ f args, (∀ w, (execOp a.eval oi).run P w = .ok (.enter f args) w) ∧ K f args) :
    wpAnyZ P md ops Q S c (fuel + 1) listed a w := by
  obtain ⟨f, args, hv, F, hc, hk⟩ := h _ (fun _ _ h => h)
  refine wpAnyZ_one hr ?_
  unfold wpOp
  simp only [ho]
  rw [if_pos hg]
  refine .inl ?_
  unfold Oper.wp
  rw [hv w]
  simp only [Oper.upon]
  refine hc.mono fun e w' hF => ?_
  obtain ⟨v, rfl, hSv, hw⟩ := hk e w' hF
  exact ⟨hSv, hw⟩
theorem za_done (hr : Region.ready md ops listed = []) (h : Q .normal a w) : ∀ fuel, wpAnyZ P md ops Q S c fuel listed a w
  | 0 => ⟨hr, h⟩
  | _ + 1 => ⟨fun _ => h, by rw [hr]; simp⟩
theorem wp_region_Z {id : Nat} (c : Nat) (hm : P.follows .mixedOrders = true) (hS : S w.drew)
    (h : S w.drew → wpAnyZ P .any ops Q S c ops.size (Array.replicate ops.size false) a w.drew) : (Code.region id ops true).wp P Q a w :=
  wp_region_any hm (wpAny_of_Z _ _ _ _ (h hS))
end
end Go.Proofs.Ytpamocglecangaa.Nm
namespace Go.Proofs.Ytpamocglecangaa
open Go.RowKit Go.Proofs.Ytpamocglecangaa.Nm
section
variable {md : Region.Mode} {ops : Array Oper} {Q : Exit → Act → World → Prop} {S : World → Prop} {c fuel : Nat} {listed : Array Bool} {a : Act} {w : World} {i : Nat} {oi : Oper}
theorem za_storeC (hr : Region.ready md ops listed = [i]) (ho : ops[i]? = some oi) (hg : Region.wanted oi (yielded ops a.tmps) = true) (ty : TypeId) (x y : Operand) (hop : oi.op = .store ty x y) (b o : Nat) (v : Value)
    (hx : a.eval x = .pointer (some ⟨b, o, none⟩)) (hy : a.eval y = v) (hi : (Try.prog.info? ty).map (·.size) = some 1) (h1 : v.oneCell' = true) (hc : (w.cell? ⟨b, o, none⟩).isSome = true) (hf : w.frozen? ⟨b, o, none⟩ = false) (hS : i ≠ c → S (w.setCell ⟨b, o, none⟩ v))
    (h : wpAnyZ Try.prog md ops Q S c fuel (listed.setIfInBounds i true) (a.put oi.dst undef) (w.setCell ⟨b, o, none⟩ v)) : wpAnyZ Try.prog md ops Q S c (fuel + 1) listed a w := by
  refine wpAnyZ_one hr ?_
  unfold wpOp
  simp only [ho]
  rw [if_pos hg]
  exact .inl (wp_storeC ty x y hop b o v hx hy hi h1 hc hf ⟨hS, h⟩)
theorem za_pushL {ty sty : TypeId} {sz by0 : Nat} {A : Option Addr} {cc : Nat} {rows : List (Array Value)} {z : Array Value} (he : Elt sty ty sz by0 z) (hr : Region.ready md ops listed = [i]) (ho : ops[i]? = some oi) (hg : Region.wanted oi (yielded ops a.tmps) = true) (s x : Operand) (hop : oi.op = .call { callee := .builtin .append, args := #[s, x], argTypes := #[sty, sty] }) {row : Array Value} {q : Nat} {tq : TypeId} {fr : Nat × Nat}
    (hs : a.eval s = .slice A rows.length cc) (hx : a.eval x = .slice (some ⟨q, 0, none⟩) 1 1) (h : OwnL w ty sz A cc rows) (hq : w.heap[q]? = some (.cells row tq fr)) (hsz : row.size = sz) (h1 : row.all (·.oneCell') = true) (hlen : (rows.length + 1) * by0 ≤ 140737488355328) (hm : rows.length + 1 ≤ maxLen)
    (hS : ∀ w', Keep (fun b => A = some ⟨b, 0, none⟩) w w' → S w')
    (hK : ∀ A' c' w', OwnL w' ty sz A' c' (rows ++ [row]) → Keep (fun b => A = some ⟨b, 0, none⟩) w w' → (A' = A ∨ ∃ g, A' = some ⟨g, 0, none⟩ ∧ w.heap.size ≤ g) → S w' → wpAnyZ Try.prog md ops Q S c fuel (listed.setIfInBounds i true) (a.put oi.dst (.slice A' (rows.length + 1) c')) w') : wpAnyZ Try.prog md ops Q S c (fuel + 1) listed a w := by
  obtain ⟨A', c', w', hx2, h2, h3, h4⟩ := run_pushL he oi.type h hq hsz h1 hlen hm
  refine za_do hr ho hg (w2 := w') (v := .slice A' (rows.length + 1) c') ?_ (fun _ => hS w' h3) (hK A' c' w' h2 h3 h4 (hS w' h3))
  unfold execOp
  simp only [hop, resolve, invoke, builtin, Sem.run_bind, Sem.run_pure, Result.andThen_ok, List.map_toArray, List.map_cons, List.map_nil, hs, hx, hx2]
theorem za_new {cs : Array Value} {ty : TypeId} {v : Nat → Value} (hr : Region.ready md ops listed = [i]) (ho : ops[i]? = some oi) (hg : Region.wanted oi (yielded ops a.tmps) = true) (hx : (execOp a.eval oi).run Try.prog w = .ok (.value (v w.heap.size)) (w.alloc (.cells cs ty))) (hS : ∀ W, Below w.heap.size w W → S W)
    (h : ∀ W p, Below w.heap.size w W → w.heap.size ≤ p → W.heap[p]? = some (.cells cs ty (0, 0)) → S W → wpAnyZ Try.prog md ops Q S c fuel (listed.setIfInBounds i true) (a.put oi.dst (v p)) W) : wpAnyZ Try.prog md ops Q S c (fuel + 1) listed a w :=
  have hb := (Below.refl _ w).alloc (Nat.le_refl _) (.cells cs ty)
  za_do hr ho hg hx (fun _ => hS _ hb) (h _ _ hb (Nat.le_refl _) (ha_new rfl) (hS _ hb))
end
end Go.Proofs.Ytpamocglecangaa
namespace Go.Proofs.Ytpamocglecangaa
open Go.RowKit Go.Proofs.Ytpamocglecangaa.Nm
theorem built41 (a0 a1 a2 a3 : Value) (A : Option Addr) (l c : Nat) : Try.prog.built 41 [(0, .agg #[a0, a1, a2, a3]), (1, .int .i64 1), (2, .int .i64 1), (4, .slice A l c)] = some (cell8 #[a0, a1, a2, a3] 1 1 0 A l c) := by kernel_rfl
theorem ex_build41 {ev : Operand → Value} {o : Oper} {w : World} (x c1 c2 y : Operand) (ho : o.op = .build 41 #[(0, x), (1, c1), (2, c2), (4, y)]) {tr : Array Value} {A : Option Addr} {l c : Nat} (ht : tr.size = 4) (hx : ev x = .agg tr) (h1 : ev c1 = .int .i64 1) (h2 : ev c2 = .int .i64 1) (hy : ev y = .slice A l c) :
    (execOp ev o).run Try.prog w = .ok (.value (.agg (cell8 tr 1 1 0 A l c))) w := by
  obtain ⟨l0⟩ := tr
  match l0, ht with
  | [a0, a1, a2, a3], _ => exact ex_build 41 _ ho (by simp only [List.map_cons, List.map_nil, hx, h1, h2, hy]) (built41 a0 a1 a2 a3 A l c)
theorem built97 (A : Option Addr) (l c : Nat) : Try.prog.built 97 [(0, .int .i64 1), (1, .slice A l c)] = some #[.int .i64 1, .slice A l c] := by kernel_rfl
theorem ex_build97 {ev : Operand → Value} {o : Oper} {w : World} (c1 y : Operand) (ho : o.op = .build 97 #[(0, c1), (1, y)]) {A : Option Addr} {l c : Nat} (h1 : ev c1 = .int .i64 1) (hy : ev y = .slice A l c) :
    (execOp ev o).run Try.prog w = .ok (.value (.agg #[.int .i64 1, .slice A l c])) w := ex_build 97 _ ho (by simp only [List.map_cons, List.map_nil, h1, hy]) (built97 A l c)
/-- A value of kind and number, of kind, number and type. -/
def nrow (k n : Int) : Array Value := cell9 k n ⟨#[]⟩ (cell4 0 ⟨#[]⟩ 0 none 0 0) none 0 0 none 0 0
theorem built35n (k n : Int) : Try.prog.built 35 [(0, .int .i64 k), (1, .int .i64 n)] = some (nrow k n) := by kernel_rfl
theorem ex_build35n {ev : Operand → Value} {o : Oper} {w : World} (x y : Operand) (ho : o.op = .build 35 #[(0, x), (1, y)]) {k n : Int} (hx : ev x = .int .i64 k) (hy : ev y = .int .i64 n) :
    (execOp ev o).run Try.prog w = .ok (.value (.agg (nrow k n))) w := ex_build 35 _ ho (by simp only [List.map_cons, List.map_nil, hx, hy]) (built35n k n)
theorem built35t (k n : Int) (a0 a1 a2 a3 : Value) : Try.prog.built 35 [(0, .int .i64 k), (1, .int .i64 n), (3, .agg #[a0, a1, a2, a3])] = some (cell9 k n ⟨#[]⟩ #[a0, a1, a2, a3] none 0 0 none 0 0) := by kernel_rfl
theorem ex_build35t {ev : Operand → Value} {o : Oper} {w : World} (x y z : Operand) (ho : o.op = .build 35 #[(0, x), (1, y), (3, z)]) {k n : Int} {tr : Array Value} (ht : tr.size = 4) (hx : ev x = .int .i64 k) (hy : ev y = .int .i64 n) (hz : ev z = .agg tr) :
    (execOp ev o).run Try.prog w = .ok (.value (.agg (cell9 k n ⟨#[]⟩ tr none 0 0 none 0 0))) w := by
  obtain ⟨l0⟩ := tr
  match l0, ht with
  | [a0, a1, a2, a3], _ => exact ex_build 35 _ ho (by simp only [List.map_cons, List.map_nil, hx, hy, hz]) (built35t k n a0 a1 a2 a3)
theorem nrow_at (w : World) (D : Nat → Prop) {k n : Int} (hk : (Lit.int .i64 k).wf = true) (hn : (Lit.int .i64 n).wf = true) : VAt w D (.node k n ⟨#[]⟩ zeroTy [] []) (nrow k n) := VAt.of hk hn (Nat.zero_le _) (zero_ty w D) (TysAt.nil w D) (VsAt.nil w D)
theorem trow_at {w : World} {D : Nat → Prop} {k n : Int} {t : Ty} {tr : Array Value} (hk : (Lit.int .i64 k).wf = true) (hn : (Lit.int .i64 n).wf = true) (ht : TyAt w D t tr) : VAt w D (.node k n ⟨#[]⟩ t [] []) (cell9 k n ⟨#[]⟩ tr none 0 0 none 0 0) := VAt.of hk hn (Nat.zero_le _) ht (TysAt.nil w D) (VsAt.nil w D)
theorem run_bs41' (a0 a1 a2 a3 a4 a5 a6 a7 : Value) (w : World) : (Instr.buildSlice 38 1 #[(0, .agg #[a0, a1, a2, a3, a4, a5, a6, a7])]).run Try.prog w = .ok (.slice (some ⟨w.heap.size, 0, none⟩) 1 1) (w.alloc (.cells #[a0, a1, a2, a3, a4, a5, a6, a7] 41)) := by kernel_rfl
theorem ex_bs38 {ev : Operand → Value} {o : Oper} {w : World} (x : Operand) (ho : o.op = .buildSlice 38 1 #[(0, x)]) {row : Array Value} (hx : ev x = .agg row) (h : row.size = 8) :
    (execOp ev o).run Try.prog w = .ok (.value (.slice (some ⟨w.heap.size, 0, none⟩) 1 1)) (w.alloc (.cells row 41)) := by
  obtain ⟨l⟩ := row
  match l, h with
  | [a0, a1, a2, a3, a4, a5, a6, a7], _ =>
    unfold execOp
    have := run_bs41' a0 a1 a2 a3 a4 a5 a6 a7 w
    simp [ho, hx, this, Result.andThen]
theorem run_bs97' (a0 a1 : Value) (w : World) : (Instr.buildSlice 78 1 #[(0, .agg #[a0, a1])]).run Try.prog w = .ok (.slice (some ⟨w.heap.size, 0, none⟩) 1 1) (w.alloc (.cells #[a0, a1] 97)) := by kernel_rfl
theorem ex_bs78 {ev : Operand → Value} {o : Oper} {w : World} (x : Operand) (ho : o.op = .buildSlice 78 1 #[(0, x)]) {a0 a1 : Value} (hx : ev x = .agg #[a0, a1]) :
    (execOp ev o).run Try.prog w = .ok (.value (.slice (some ⟨w.heap.size, 0, none⟩) 1 1)) (w.alloc (.cells #[a0, a1] 97)) := by
  unfold execOp
  have := run_bs97' a0 a1 w
  simp [ho, hx, this, Result.andThen]
theorem info38 : (Try.prog.info? 38).map (·.size) = some 1 := by kernel_rfl
theorem info78 : (Try.prog.info? 78).map (·.size) = some 1 := by kernel_rfl
theorem info85 : (Try.prog.info? 85).map (·.size) = some 1 := by kernel_rfl
/-- A new block gets its role. -/
def own (G : Gh) (A : Option Addr) (x : Nat × Role) : Gh := fun b => if A = some ⟨b, 0, none⟩ then some x else G b
theorem own_role (G : Gh) (A : Option Addr) (x : Nat × Role) : RoleOf (own G A x) A x := fun g e => if_pos e
section
variable {w w' : World} {G G' : Gh} {k p : Nat} {h : Hp} {oA : Option Addr} {oc : Nat} {bA : Option Addr} {bc m : Nat} {lA : Option Addr} {lc : Nat}
theorem own_old {A : Option Addr} {x : Nat × Role} {n : Nat} (hA : ∀ g, A = some ⟨g, 0, none⟩ → n ≤ g) : ∀ b, b < n → own G A x b = G b := fun b hb => if_neg (fun e => by have := hA b e; omega)
theorem Done.owned (hh : HeapAt w G k p h) (hf : Fr w G) (hb : Below w.heap.size w w') {A : Option Addr} {r : Role} (hA : ∀ g, A = some ⟨g, 0, none⟩ → w.heap.size ≤ g ∧ g < w'.heap.size) : Done w G k p h w' (own G A (k, r)) where
  heap := by
    obtain ⟨oA, oc, bA, bc, m, lA, lc, hh⟩ := hh
    exact ⟨_, _, _, _, _, _, _, (hh.regh (own_old fun g e => (hA g e).1)).old hb⟩
  fr := fun b hb2 => by
    unfold own
    rw [if_neg (fun e => by have := (hA b e).2; omega)]
    exact hf b (by have := hb.size; omega)
  old := own_old fun g e => (hA g e).1
  new := fun b hb2 => by
    unfold own
    split
    · exact .inr ⟨_, rfl⟩
    · exact .inl (hf b hb2)
  keep := Keep.of hb
/-- The header's cell 0, 1 or 3 set anew. -/
theorem hdr_set {j : Nat} {v : Value} {ol bl ll : Nat} (hp : w.heap[p]? = some (.cells (cellH oA ol oc bA bl bc m lA ll lc) 87 (0, 0))) : (j < 4 → (w.cell? ⟨p, j, none⟩).isSome = true) ∧ w.frozen? ⟨p, j, none⟩ = false ∧ (w.setCell ⟨p, j, none⟩ v).heap[p]? = some (.cells ((cellH oA ol oc bA bl bc m lA ll lc).setIfInBounds j v) 87 (0, 0)) := by
  refine ⟨fun hj => ?_, by unfold World.frozen?; rw [hp]; rfl, hs_new hp⟩
  rw [cell_of_row _ _ _ _ _ _ hp]
  match j, hj with
  | 0, _ => rfl
  | 1, _ => rfl
  | 2, _ => rfl
  | 3, _ => rfl
/-- An object more. -/
theorem HAt.addO (hh : HAt w G k p h oA oc bA bc m lA lc) {rows : List (Array Value)} {row tr : Array Value} {o : Ob} {fA : Option Addr} {fc : Nat} {A' : Option Addr} {c' : Nat}
    (hl : rows.length = h.obs.length) (hv : ∀ (i : Nat) (o : Ob) (row : Array Value), h.obs[i]? = some o → rows[i]? = some row → ∃ tr fA fc, ObAt w G k i o row tr fA fc)
    (ho : OwnL w' 41 8 A' c' (rows ++ [row])) (hk : Keep (fun b => oA = some ⟨b, 0, none⟩) w w') (hor : RoleOf G oA (k, .arr)) (hG : ∀ b, b < w.heap.size → G' b = G b) (hA : RoleOf G' A' (k, .arr)) (hx : ObAt w' G' k h.obs.length o row tr fA fc) :
    HAt (w'.setCell ⟨p, 0, none⟩ (.slice A' (rows.length + 1) c')) G' k p { h with obs := h.obs ++ [o] } A' c' bA bc m lA lc := by
  have hpl := heap_lt hh.blk
  have hne : ∀ b r, b < w.heap.size → G b = some (k, r) → r ≠ .arr → w'.heap[b]? = w.heap[b]? := fun b r hb e hr => hk.block b hb fun e2 => by have := hor b e2; rw [e] at this; cases this; exact hr rfl
  have hno : ∀ b, b < w.heap.size → G b = none → w'.heap[b]? = w.heap[b]? := fun b hb e => hk.block b hb fun e2 => by have := hor b e2; rw [e] at this; cases this
  have hpn : G' p = some (k, .hdr) := (hG p hpl).trans hh.rp
  have hp7 : w'.heap[p]? = some (.cells (cellH oA h.obs.length oc bA h.bus.length bc m lA h.lev.length lc) 87 (0, 0)) := (hne p _ hpl hh.rp (by simp)).trans hh.blk
  have hset := (hdr_set (j := 0) (v := .slice A' (rows.length + 1) c') hp7).2.2
  have hso : ∀ b, b ≠ p → (w'.setCell ⟨p, 0, none⟩ (.slice A' (rows.length + 1) c')).heap[b]? = w'.heap[b]? := fun b hb => heap_setCell_other _ _ _ _ hb
  have hsr : ∀ b r, G' b = some (k, r) → r ≠ .hdr → b ≠ p := fun b r e hr e2 => by rw [e2, hpn] at e; cases e; exact hr rfl
  have hsn : ∀ b, G' b = none → b ≠ p := fun b e e2 => by rw [e2, hpn] at e; cases e
  have hg := hh.regh hG
  have hh7 : HAt w G' k p h oA oc bA bc m lA lc := hg
  refine ⟨?_, hpn, hg.rm, ?_, ?_, ?_, ?_⟩
  · rw [hset, hl]
    show _ = some (Obj.cells (cellH A' (h.obs ++ [o]).length c' bA h.bus.length bc m lA h.lev.length lc) 87 (0, 0))
    rw [List.length_append]; rfl
  · refine ⟨rows ++ [row], ho.same (fun g e _ => hso g (hsr g _ (hA g e) (by simp))), by simp [hl], hA, fun i x rw0 hi hri => ?_⟩
    rcases Nat.lt_trichotomy i h.obs.length with e | e | e
    · rw [List.getElem?_append_left (by omega)] at hi hri
      obtain ⟨tr, fA, fc, h3⟩ := hv i x rw0 hi hri
      have h4 : ObAt w G' k i x rw0 tr fA fc := ⟨h3.eq, h3.ty.regh hG, h3.fld.regh hG⟩
      refine ⟨tr, fA, fc, h4.same (fun b hb e2 => ?_) (fun b hb e2 => ?_)⟩
      · rw [hso b (hsr b _ e2 (by simp))]; exact hne b _ hb ((hG b hb).symm.trans e2) (by simp)
      · rw [hso b (hsn b e2)]; exact hno b hb ((hG b hb).symm.trans e2)
    · rw [e, List.getElem?_concat_length] at hi
      rw [e, ← hl, List.getElem?_concat_length] at hri
      cases hi; cases hri
      subst e
      exact ⟨tr, fA, fc, hx.same (fun b _ e2 => hso b (hsr b _ e2 (by simp))) (fun b _ e2 => hso b (hsn b e2))⟩
    · rw [List.getElem?_eq_none (by simp; omega)] at hi; cases hi
  · exact hg.bus.same (fun b hb e => by
      rcases e with e | ⟨i, e⟩ <;> (rw [hso b (hsr b _ e (by simp))]; exact hne b _ hb ((hG b hb).symm.trans e) (by simp))) fun b hb e => by
        rw [hso b (hsn b e)]; exact hno b hb ((hG b hb).symm.trans e)
  · exact hg.lev.same (fun b hb e => by
      rcases e with e | ⟨i, e⟩ <;> (rw [hso b (hsr b _ e (by simp))]; exact hne b _ hb ((hG b hb).symm.trans e) (by simp))) fun b hb e => by
        rw [hso b (hsn b e)]; exact hno b hb ((hG b hb).symm.trans e)
  · exact hg.map.same fun hb => by rw [hso m (hsr m _ hg.rm (by simp))]; exact hne m _ hb hh.rm (by simp)
/-- A buffer more. -/
theorem HAt.addB (hh : HAt w G k p h oA oc bA bc m lA lc) {rows : List (Array Value)} {row : Array Value} {o : Bu} {eA : Option Addr} {ec : Nat} {A' : Option Addr} {c' : Nat}
    (hl : rows.length = h.bus.length) (hv : ∀ (i : Nat) (o : Bu) (row : Array Value), h.bus[i]? = some o → rows[i]? = some row → ∃ eA ec, BuAt w G k i o row eA ec)
    (ho : OwnL w' 97 2 A' c' (rows ++ [row])) (hk : Keep (fun b => bA = some ⟨b, 0, none⟩) w w') (hor : RoleOf G bA (k, .bar)) (hG : ∀ b, b < w.heap.size → G' b = G b) (hA : RoleOf G' A' (k, .bar)) (hx : BuAt w' G' k h.bus.length o row eA ec) :
    HAt (w'.setCell ⟨p, 1, none⟩ (.slice A' (rows.length + 1) c')) G' k p { h with bus := h.bus ++ [o] } oA oc A' c' m lA lc := by
  have hpl := heap_lt hh.blk
  have hne : ∀ b r, b < w.heap.size → G b = some (k, r) → r ≠ .bar → w'.heap[b]? = w.heap[b]? := fun b r hb e hr => hk.block b hb fun e2 => by have := hor b e2; rw [e] at this; cases this; exact hr rfl
  have hno : ∀ b, b < w.heap.size → G b = none → w'.heap[b]? = w.heap[b]? := fun b hb e => hk.block b hb fun e2 => by have := hor b e2; rw [e] at this; cases this
  have hpn : G' p = some (k, .hdr) := (hG p hpl).trans hh.rp
  have hp7 : w'.heap[p]? = some (.cells (cellH oA h.obs.length oc bA h.bus.length bc m lA h.lev.length lc) 87 (0, 0)) := (hne p _ hpl hh.rp (by simp)).trans hh.blk
  have hset := (hdr_set (j := 1) (v := .slice A' (rows.length + 1) c') hp7).2.2
  have hso : ∀ b, b ≠ p → (w'.setCell ⟨p, 1, none⟩ (.slice A' (rows.length + 1) c')).heap[b]? = w'.heap[b]? := fun b hb => heap_setCell_other _ _ _ _ hb
  have hsr : ∀ b r, G' b = some (k, r) → r ≠ .hdr → b ≠ p := fun b r e hr e2 => by rw [e2, hpn] at e; cases e; exact hr rfl
  have hsn : ∀ b, G' b = none → b ≠ p := fun b e e2 => by rw [e2, hpn] at e; cases e
  have hg := hh.regh hG
  refine ⟨?_, hpn, hg.rm, ?_, ?_, ?_, ?_⟩
  · rw [hset, hl]
    show _ = some (Obj.cells (cellH oA h.obs.length oc A' (h.bus ++ [o]).length c' m lA h.lev.length lc) 87 (0, 0))
    rw [List.length_append]; rfl
  · exact hg.obs.same (fun b hb e => by
      rcases e with e | ⟨i, e⟩ <;> (rw [hso b (hsr b _ e (by simp))]; exact hne b _ hb ((hG b hb).symm.trans e) (by simp))) fun b hb e => by
        rw [hso b (hsn b e)]; exact hno b hb ((hG b hb).symm.trans e)
  · refine ⟨rows ++ [row], ho.same (fun g e _ => hso g (hsr g _ (hA g e) (by simp))), by simp [hl], hA, fun i x rw0 hi hri => ?_⟩
    rcases Nat.lt_trichotomy i h.bus.length with e | e | e
    · rw [List.getElem?_append_left (by omega)] at hi hri
      obtain ⟨fA, fc, h3⟩ := hv i x rw0 hi hri
      have h4 : BuAt w G' k i x rw0 fA fc := ⟨h3.eq, h3.elm.regh hG⟩
      refine ⟨fA, fc, h4.same (fun b hb e2 => ?_) (fun b hb e2 => ?_)⟩
      · rw [hso b (hsr b _ e2 (by simp))]; exact hne b _ hb ((hG b hb).symm.trans e2) (by simp)
      · rw [hso b (hsn b e2)]; exact hno b hb ((hG b hb).symm.trans e2)
    · rw [e, List.getElem?_concat_length] at hi
      rw [e, ← hl, List.getElem?_concat_length] at hri
      cases hi; cases hri
      subst e
      exact ⟨eA, ec, hx.same (fun b _ e2 => hso b (hsr b _ e2 (by simp))) (fun b _ e2 => hso b (hsn b e2))⟩
    · rw [List.getElem?_eq_none (by simp; omega)] at hi; cases hi
  · exact hg.lev.same (fun b hb e => by
      rcases e with e | ⟨i, e⟩ <;> (rw [hso b (hsr b _ e (by simp))]; exact hne b _ hb ((hG b hb).symm.trans e) (by simp))) fun b hb e => by
        rw [hso b (hsn b e)]; exact hno b hb ((hG b hb).symm.trans e)
  · exact hg.map.same fun hb => by rw [hso m (hsr m _ hg.rm (by simp))]; exact hne m _ hb hh.rm (by simp)
/-- A level more. -/
theorem HAt.addL (hh : HAt w G k p h oA oc bA bc m lA lc) {rows : List (Array Value)} {ts : List Tk} {tA : Option Addr} {tc : Nat} {A' : Option Addr} {c' : Nat}
    (hl : rows.length = h.lev.length) (hv : ∀ (i : Nat) (ts : List Tk) (row : Array Value), h.lev[i]? = some ts → rows[i]? = some row → ∃ tA tc, row = #[.slice tA ts.length tc] ∧ TksAt w G (k, .lvl i) ts tA tc)
    (ho : OwnL w' 98 1 A' c' (rows ++ [#[.slice tA ts.length tc]])) (hk : Keep (fun b => lA = some ⟨b, 0, none⟩) w w') (hor : RoleOf G lA (k, .lar)) (hG : ∀ b, b < w.heap.size → G' b = G b) (hA : RoleOf G' A' (k, .lar)) (hx : TksAt w' G' (k, .lvl h.lev.length) ts tA tc) :
    HAt (w'.setCell ⟨p, 3, none⟩ (.slice A' (rows.length + 1) c')) G' k p { h with lev := h.lev ++ [ts] } oA oc bA bc m A' c' := by
  have hpl := heap_lt hh.blk
  have hne : ∀ b r, b < w.heap.size → G b = some (k, r) → r ≠ .lar → w'.heap[b]? = w.heap[b]? := fun b r hb e hr => hk.block b hb fun e2 => by have := hor b e2; rw [e] at this; cases this; exact hr rfl
  have hno : ∀ b, b < w.heap.size → G b = none → w'.heap[b]? = w.heap[b]? := fun b hb e => hk.block b hb fun e2 => by have := hor b e2; rw [e] at this; cases this
  have hpn : G' p = some (k, .hdr) := (hG p hpl).trans hh.rp
  have hp7 : w'.heap[p]? = some (.cells (cellH oA h.obs.length oc bA h.bus.length bc m lA h.lev.length lc) 87 (0, 0)) := (hne p _ hpl hh.rp (by simp)).trans hh.blk
  have hset := (hdr_set (j := 3) (v := .slice A' (rows.length + 1) c') hp7).2.2
  have hso : ∀ b, b ≠ p → (w'.setCell ⟨p, 3, none⟩ (.slice A' (rows.length + 1) c')).heap[b]? = w'.heap[b]? := fun b hb => heap_setCell_other _ _ _ _ hb
  have hsr : ∀ b r, G' b = some (k, r) → r ≠ .hdr → b ≠ p := fun b r e hr e2 => by rw [e2, hpn] at e; cases e; exact hr rfl
  have hsn : ∀ b, G' b = none → b ≠ p := fun b e e2 => by rw [e2, hpn] at e; cases e
  have hg := hh.regh hG
  refine ⟨?_, hpn, hg.rm, ?_, ?_, ?_, ?_⟩
  · rw [hset, hl]
    show _ = some (Obj.cells (cellH oA h.obs.length oc bA h.bus.length bc m A' (h.lev ++ [ts]).length c') 87 (0, 0))
    rw [List.length_append]; rfl
  · exact hg.obs.same (fun b hb e => by
      rcases e with e | ⟨i, e⟩ <;> (rw [hso b (hsr b _ e (by simp))]; exact hne b _ hb ((hG b hb).symm.trans e) (by simp))) fun b hb e => by
        rw [hso b (hsn b e)]; exact hno b hb ((hG b hb).symm.trans e)
  · exact hg.bus.same (fun b hb e => by
      rcases e with e | ⟨i, e⟩ <;> (rw [hso b (hsr b _ e (by simp))]; exact hne b _ hb ((hG b hb).symm.trans e) (by simp))) fun b hb e => by
        rw [hso b (hsn b e)]; exact hno b hb ((hG b hb).symm.trans e)
  · refine ⟨rows ++ [#[.slice tA ts.length tc]], ho.same (fun g e _ => hso g (hsr g _ (hA g e) (by simp))), by simp [hl], hA, fun i x rw0 hi hri => ?_⟩
    rcases Nat.lt_trichotomy i h.lev.length with e | e | e
    · rw [List.getElem?_append_left (by omega)] at hi hri
      obtain ⟨tA, tc, h3, rows2, ho2, hl2, hr2, hv2⟩ := hv i x rw0 hi hri
      have h4 : TksAt w G' (k, .lvl i) x tA tc := ⟨rows2, ho2, hl2, hr2.regh ho2 hG, fun j t row h5 h6 => (hv2 j t row h5 h6).regh hG⟩
      refine ⟨tA, tc, h3, h4.same (fun b hb e2 => ?_) (fun b hb e2 => ?_)⟩
      · rw [hso b (hsr b _ e2 (by simp))]; exact hne b _ hb ((hG b hb).symm.trans e2) (by simp)
      · rw [hso b (hsn b e2)]; exact hno b hb ((hG b hb).symm.trans e2)
    · rw [e, List.getElem?_concat_length] at hi
      rw [e, ← hl, List.getElem?_concat_length] at hri
      cases hi; cases hri
      subst e
      exact ⟨tA, tc, rfl, hx.same (fun b _ e2 => hso b (hsr b _ e2 (by simp))) (fun b _ e2 => hso b (hsn b e2))⟩
    · rw [List.getElem?_eq_none (by simp; omega)] at hi; cases hi
  · exact hg.map.same fun hb => by rw [hso m (hsr m _ hg.rm (by simp))]; exact hne m _ hb hh.rm (by simp)
end
end Go.Proofs.Ytpamocglecangaa
namespace Go.Proofs.Ytpamocglecangaa
open Go.RowKit Go.Proofs.Ytpamocglecangaa.Nm
section
variable {w w' : World} {G G' : Gh} {k p : Nat} {h : Hp} {oA : Option Addr} {oc : Nat} {bA : Option Addr} {bc m : Nat} {lA : Option Addr} {lc : Nat}
theorem own_again {A A' : Option Addr} {x : Nat × Role} (hr : RoleOf G A x) {n : Nat} (hA : A' = A ∨ ∃ g, A' = some ⟨g, 0, none⟩ ∧ n ≤ g) : ∀ b, b < n → own G A' x b = G b := fun b hb => by
  unfold own
  split
  · rename_i e
    rcases hA with e2 | ⟨g, e2, e3⟩
    · exact (hr b (by rw [← e2]; exact e)).symm
    · rw [e2] at e; cases e; omega
  · rfl
/-- What a push into a row of the heap's and the header's cell leave. -/
theorem Done.grow {rl : Role} (hrl : rl ≠ .tmp) {h' : Hp} {A A' : Option Addr} {j : Nat} {v : Value} {ty : TypeId} {sz cc : Nat} {rows : List (Array Value)} (hf : Fr w G) (hp : G p = some (k, .hdr)) (hpl : p < w.heap.size) (hor : RoleOf G A (k, rl)) (hk : Keep (fun b => A = some ⟨b, 0, none⟩) w w') (hA : A' = A ∨ ∃ g, A' = some ⟨g, 0, none⟩ ∧ w.heap.size ≤ g) (ho : OwnL w' ty sz A' cc rows)
    (hh : HeapAt (w'.setCell ⟨p, j, none⟩ v) (own G A' (k, rl)) k p h') : Done w G k p h' (w'.setCell ⟨p, j, none⟩ v) (own G A' (k, rl)) where
  heap := hh
  fr := fun b hb => by
    have hb2 : w'.heap.size ≤ b := by simpa using hb
    unfold own
    split
    · rename_i e
      rcases ho.el with ⟨e1, -⟩ | ⟨g, cur, e1, hg, -⟩
      · rw [e1] at e; cases e
      · rw [e1] at e; cases e; have := heap_lt hg; omega
    · exact hf b (by have := hk.size; omega)
  old := own_again hor hA
  new := fun b hb => by
    unfold own
    split
    · exact .inr ⟨_, rfl⟩
    · exact .inl (hf b hb)
  keep := by
    have h1 := Keep.cellOne w' p j v
    refine ((Keep.refl (Mine G k) w).trans (C' := fun b => A = some ⟨b, 0, none⟩) (fun b e => .inl ⟨_, hor b e, hrl⟩) hk).trans (C' := fun b => b = p) (fun b e => .inl ⟨.hdr, by rw [e]; exact hp, by simp⟩) h1
theorem ListV.moved {r : Nat × Role} {l : List Va} {A : Option Addr} {c : Nat} (h : ListV w G r l A c) {C : Nat → Prop} (hk : Keep C w w') (hC : ∀ b, C b → G b ≠ none ∧ G b ≠ some r) (hG : ∀ b, b < w.heap.size → G' b = G b) : ListV w' G' r l A c :=
  (h.regh hG).same (fun b hb e => hk.block b hb fun hc => (hC b hc).2 ((hG b hb).symm.trans e)) fun b hb e => hk.block b hb fun hc => (hC b hc).1 ((hG b hb).symm.trans e)
theorem VAt.moved {v : Va} {row : Array Value} (h : VAt w (Imm G) v row) {C : Nat → Prop} (hk : Keep C w w') (hC : ∀ b, C b → G b ≠ none) (hG : ∀ b, b < w.heap.size → G' b = G b) : VAt w' (Imm G') v row :=
  (h.low.keep hk fun b hb hc => hC b hc hb.1).weak fun b hb => by unfold Imm; rw [hG b hb.2]; exact hb.1
theorem TyAt.moved {t : Ty} {row : Array Value} (h : TyAt w (Imm G) t row) {C : Nat → Prop} (hk : Keep C w w') (hC : ∀ b, C b → G b ≠ none) (hG : ∀ b, b < w.heap.size → G' b = G b) : TyAt w' (Imm G') t row :=
  (h.low.keep hk fun b hb hc => hC b hc hb.1).weak fun b hb => by unfold Imm; rw [hG b hb.2]; exact hb.1
theorem TksAt.moved {r : Nat × Role} {l : List Tk} {A : Option Addr} {c : Nat} (h : TksAt w G r l A c) {C : Nat → Prop} (hk : Keep C w w') (hC : ∀ b, C b → G b ≠ none ∧ G b ≠ some r) (hG : ∀ b, b < w.heap.size → G' b = G b) : TksAt w' G' r l A c := by
  obtain ⟨rows, ho, hl, hr, hv⟩ := h
  have h2 : TksAt w G' r l A c := ⟨rows, ho, hl, hr.regh ho hG, fun j t row h1 h2 => (hv j t row h1 h2).regh hG⟩
  exact h2.same (fun b hb e => hk.block b hb fun hc => (hC b hc).2 ((hG b hb).symm.trans e)) fun b hb e => hk.block b hb fun hc => (hC b hc).1 ((hG b hb).symm.trans e)
theorem role_ne {A : Option Addr} {x y : Nat × Role} (hr : RoleOf G A x) (hxy : x ≠ y) : ∀ b, A = some ⟨b, 0, none⟩ → G b ≠ none ∧ G b ≠ some y := fun b e => by
  rw [hr b e]
  exact ⟨by simp, fun e2 => hxy (by cases e2; rfl)⟩
theorem Done.addB (hh : HAt w G k p h oA oc bA bc m lA lc) (hf : Fr w G) {rows : List (Array Value)} {l : List Va} {n : Int} {eA : Option Addr} {ec : Nat} {A' : Option Addr} {c' : Nat}
    (hl : rows.length = h.bus.length) (hv : ∀ (i : Nat) (o : Bu) (row : Array Value), h.bus[i]? = some o → rows[i]? = some row → ∃ eA ec, BuAt w G k i o row eA ec)
    (ho : OwnL w' 97 2 A' c' (rows ++ [#[.int .i64 n, .slice eA l.length ec]])) (hk : Keep (fun b => bA = some ⟨b, 0, none⟩) w w') (hor : RoleOf G bA (k, .bar)) (hA : A' = bA ∨ ∃ g, A' = some ⟨g, 0, none⟩ ∧ w.heap.size ≤ g) (hx : ListV w G (k, .elm h.bus.length) l eA ec) :
    Done w G k p { h with bus := h.bus ++ [⟨n, l⟩] } (w'.setCell ⟨p, 1, none⟩ (.slice A' (rows.length + 1) c')) (own G A' (k, .bar)) :=
  Done.grow (by simp) hf hh.rp (heap_lt hh.blk) hor hk hA ho ⟨_, _, _, _, _, _, _, hh.addB hl hv ho hk hor (own_again hor hA) (own_role _ _ _) ⟨rfl, hx.moved hk (role_ne hor (by simp)) (own_again hor hA)⟩⟩
theorem Done.addO (hh : HAt w G k p h oA oc bA bc m lA lc) (hf : Fr w G) {rows : List (Array Value)} {tr : Array Value} {o : Ob} {fA : Option Addr} {fc : Nat} {A' : Option Addr} {c' : Nat}
    (hl : rows.length = h.obs.length) (hv : ∀ (i : Nat) (o : Ob) (row : Array Value), h.obs[i]? = some o → rows[i]? = some row → ∃ tr fA fc, ObAt w G k i o row tr fA fc)
    (ho : OwnL w' 41 8 A' c' (rows ++ [cell8 tr o.state o.count o.weak fA o.fields.length fc])) (hk : Keep (fun b => oA = some ⟨b, 0, none⟩) w w') (hor : RoleOf G oA (k, .arr)) (hA : A' = oA ∨ ∃ g, A' = some ⟨g, 0, none⟩ ∧ w.heap.size ≤ g) (ht : TyAt w (Imm G) o.t tr) (hx : ListV w G (k, .fld h.obs.length) o.fields fA fc) :
    Done w G k p { h with obs := h.obs ++ [o] } (w'.setCell ⟨p, 0, none⟩ (.slice A' (rows.length + 1) c')) (own G A' (k, .arr)) :=
  Done.grow (by simp) hf hh.rp (heap_lt hh.blk) hor hk hA ho ⟨_, _, _, _, _, _, _, hh.addO hl hv ho hk hor (own_again hor hA) (own_role _ _ _) ⟨rfl, ht.moved hk (fun b e => (role_ne hor (y := (k, .hdr)) (by simp) b e).1) (own_again hor hA), hx.moved hk (role_ne hor (by simp)) (own_again hor hA)⟩⟩
theorem Done.addL (hh : HAt w G k p h oA oc bA bc m lA lc) (hf : Fr w G) {rows : List (Array Value)} {ts : List Tk} {tA : Option Addr} {tc : Nat} {A' : Option Addr} {c' : Nat}
    (hl : rows.length = h.lev.length) (hv : ∀ (i : Nat) (ts : List Tk) (row : Array Value), h.lev[i]? = some ts → rows[i]? = some row → ∃ tA tc, row = #[.slice tA ts.length tc] ∧ TksAt w G (k, .lvl i) ts tA tc)
    (ho : OwnL w' 98 1 A' c' (rows ++ [#[.slice tA ts.length tc]])) (hk : Keep (fun b => lA = some ⟨b, 0, none⟩) w w') (hor : RoleOf G lA (k, .lar)) (hA : A' = lA ∨ ∃ g, A' = some ⟨g, 0, none⟩ ∧ w.heap.size ≤ g) (hx : TksAt w G (k, .lvl h.lev.length) ts tA tc) :
    Done w G k p { h with lev := h.lev ++ [ts] } (w'.setCell ⟨p, 3, none⟩ (.slice A' (rows.length + 1) c')) (own G A' (k, .lar)) :=
  Done.grow (by simp) hf hh.rp (heap_lt hh.blk) hor hk hA ho ⟨_, _, _, _, _, _, _, hh.addL hl hv ho hk hor (own_again hor hA) (own_role _ _ _) (hx.moved hk (role_ne hor (by simp)) (own_again hor hA))⟩
/-- New rows of values get their role: a list of the heap's own. -/
theorem Done.list (hh : HeapAt w G k p h) (hf : Fr w G) {l : List Va} {A : Option Addr} {c : Nat} {rows : List (Array Value)} {r : Role} (ho : OwnL w' 35 9 A c rows) (hl : rows.length = l.length) (hA : ∀ g, A = some ⟨g, 0, none⟩ → w.heap.size ≤ g) (hv : ∀ (j : Nat) (v : Va) (row : Array Value), l[j]? = some v → rows[j]? = some row → VAt w' (Lw w (Imm G)) v row) (hb : Below w.heap.size w w') :
    Done w G k p h w' (own G A (k, r)) ∧ ListV w' (own G A (k, r)) (k, r) l A c := by
  refine ⟨Done.owned hh hf hb fun g e => ⟨hA g e, ?_⟩, rows, ho, hl, own_role _ _ _, fun j v row h1 h2 => (hv j v row h1 h2).weak fun b hb2 => ?_⟩
  · rcases ho.el with ⟨e1, -⟩ | ⟨g', cur, e1, hg, -⟩
    · rw [e1] at e; cases e
    · rw [e1] at e; cases e; exact heap_lt hg
  · unfold Imm
    rw [own_old hA b hb2.2]
    exact hb2.1
end
end Go.Proofs.Ytpamocglecangaa
