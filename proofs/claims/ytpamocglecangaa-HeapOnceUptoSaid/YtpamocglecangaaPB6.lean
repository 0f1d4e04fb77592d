/- The program's Array and Make. -/
import Derived.Test.YtpamocglecangaaPB5
namespace Go.Proofs.Ytpamocglecangaa
open Go.RowKit Go.Proofs.Ytpamocglecangaa.Nm
set_option linter.unusedSimpArgs false
def ValOf (w : World) (G : Gh) (k p : Nat) (r : Hp × Va) (e : Ending) (w' : World) : Prop := ∃ G' row, e = .returned (.agg row) ∧ VAt w' (Imm G') r.2 row ∧ Done w G k p r.1 w' G'
def arrayP (h : Hp) (t : Ty) (l : List Va) : Hp × Va := ({ h with bus := h.bus ++ [⟨1, takenV h l⟩] }, .node 8 (h.bus.length : Int) ⟨#[]⟩ t [] [])
def makeP (h : Hp) (t : Ty) (l : List Va) : Hp × Va := ({ h with obs := h.obs ++ [⟨t, 1, 1, 0, takenV h l⟩] }, .node 7 (h.obs.length : Int) ⟨#[]⟩ zeroTy [] [])
theorem taken_done {w : World} {G : Gh} {k p : Nat} {h : Hp} (hh : HeapAt w G k p h) {l : List Va} {D : Nat → Prop} {A0 : Option Addr} {n c0 : Nat} (hv : VsAt w D l A0 n c0) (hn : n ≤ 1000000) :
    Calls Try.prog 81 #[.pointer (some ⟨p, 0, none⟩), .slice A0 n c0] w (NewL w D (takenV h l)) := by
  obtain ⟨oA, oc, bA, bc, m, lA, lc, hh⟩ := hh
  exact taken_any hh hv hn
theorem wf64 {n : Nat} (h : n ≤ 2000000) : (Lit.int .i64 (n : Int)).wf = true := by
  unfold Lit.wf
  simp [IntKind.min, IntKind.max, IntKind.bits, IntKind.signed]
  omega
theorem wl_newv {ops : Array Oper} {rest : List Oper} {o : Oper} {a : Act} {w : World} {Q : Exit → Act → World → Prop} {cs : Array Value} {ty : TypeId} (v : Nat → Value) (hg : o.guard = none) (hx : (execOp a.eval o).run Try.prog w = .ok (.value (v w.heap.size)) (w.alloc (.cells cs ty)))
    (h : ∀ W p, Below w.heap.size w W → w.heap.size ≤ p → W.heap[p]? = some (.cells cs ty (0, 0)) → wpList Try.prog ops Q rest (a.put o.dst (v p)) W) : wpList Try.prog ops Q (o :: rest) a w :=
  wl_w hg hx (h _ _ ((Below.refl _ w).alloc (Nat.le_refl _) _) (Nat.le_refl _) (ha_new rfl))
/- what stands ahead of Array and Make -/
set_option maxHeartbeats 8000000 in
set_option maxRecDepth 100000 in
theorem Array_any {G : Gh} {k p : Nat} {h : Hp} {w : World} (hh : HeapAt w G k p h) (hf : Fr w G) (hnb : h.bus.length ≤ 1000000) {t : Ty} {tr : Array Value} (ht : TyAt w (Imm G) t tr) {l : List Va} {A : Option Addr} {n c : Nat} (hv : VsAt w (Imm G) l A n c) (hn : n ≤ 1000000) :
    Calls Try.prog 37 #[.pointer (some ⟨p, 0, none⟩), .agg tr, .slice A n c] w (ValOf w G k p (arrayP h t l)) := by
  have HX := Lib.hid hh
  have HF := Lib.hid hf
  have HT := Lib.hid ht
  have HV := Lib.hid hv
  have hzs : zrow.size = 9 := rfl
  have zone : zrow.all (·.oneCell') = true := (zero_va w (Imm G)).one
  have hb := Below.refl w.heap.size w
  obtain ⟨k0, s0, n0, A1, l1, c1, ts0, he, rfl, -⟩ := ht.parts
  clear hh hf ht hv he
  go_enter Try.func37, Try.ntmps37
  go_upto_region 0 with (fail)
  apply wp_region_lit
  (with_reducible refine wl_box rfl ?_); intro W q hbn hlq hq; replace hb := hb.trans (hbn.mono hb.size); clear hbn; simp only [put_lit, List.set_cons_zero, List.set_cons_succ]
  have lthqr := heap_lt hq; (with_reducible refine wl_allV ?_); intro W2 r hbn hlr hr; replace hq := below_look hbn hq; replace hb := hb.trans (hbn.mono hb.size); clear hbn; simp only [put_lit, List.set_cons_zero, List.set_cons_succ]
  have hrl : w.heap.size ≤ r := by omega
  have hql : q < W2.heap.size := heap_lt hq
  have HRW := Lib.hid (heap_lt hr)
  have HRl := Lib.hid hrl
  have hqG : G q = none := HF.out q (by omega)
  have HQ : Hid (mark G k r q = none) := Lib.hid (by unfold mark; rw [if_neg (by omega)]; exact hqG)
  have HQW := Lib.hid hql
  have HDn := Lib.hid (Done.marked HX.out HF.out hb hrl (heap_lt hr))
  have HM := Lib.hid (mark_same G k r)
  have HNM := Lib.hid (mark_not G k r)
  have htt : TyAt W2 (Imm (mark G k r)) t _ := HT.out.moved (Keep.of (C := fun _ => False) hb) (fun b e => e.elim) HDn.out.old
  have hvv : VsAt W2 (Lw W2 (Imm (mark G k r))) l A n c := (((HV.out.low.old hb).weak fun b hb2 => (by
    have : mark G k r b = G b := if_neg (by have := hb2.2; omega)
    unfold Imm; rw [this]; exact hb2.1) : VsAt W2 (Imm (mark G k r)) l A n c)).low
  clear HT HV
  have HT := Lib.hid htt
  have HV := Lib.hid hvv
  clear htt hvv HX HF hb hrl hql hqG
  go_upto_region 1 with (fail)
  apply wp_region_lit
  (with_reducible refine wl_k ?_ ?_); exact rfl; intro K hK; go_simp; refine hK _ ?_; clear hK K
  (with_reducible refine wl_k ?_ ?_); exact rfl; intro K hK; go_simp; refine hK _ ?_; clear hK K
  go_upto_region 3 with (fail)
  have HC := Lib.hid (taken_done HDn.out.heap HV.out hn)
  apply wp_region_lit
  (with_reducible refine wl_k ?_ ?_); exact rfl; intro K hK; go_simp; refine hK _ ?_; clear hK K
  (with_reducible refine wl_k ?_ ?_); exact rfl; intro K hK; go_simp; refine hK _ ?_; clear hK K
  (with_reducible refine wl_ck ?_ ?_); exact rfl; intro K hK; go_simp; refine ⟨_, _, ⟨rfl, rfl⟩, hK _ _ ⟨_, HC.out, ?_⟩⟩; clear hK K; rintro e w7 ⟨A7, c7, rows7, rfl, hown7, hl7, hA7, hv7, hb7⟩; refine ⟨_, rfl, ?_⟩; simp only [put_lit, List.set_cons_zero, List.set_cons_succ]
  have hl := Done.list (r := .elm h.bus.length) HDn.out.heap HDn.out.fr hown7 hl7 hA7 hv7 hb7
  obtain ⟨hd7, hli⟩ := hl
  have HL7 := Lib.hid hli
  replace HT := Lib.hid (HT.out.moved (Keep.of (C := fun _ => False) hb7) (fun b e => e.elim) hd7.old)
  replace hq := below_look hb7 hq; replace hr := below_look hb7 hr
  have HR7 : Hid (own (mark G k r) A7 (k, .elm h.bus.length) r = some (k, .tmp)) := Lib.hid ((hd7.old r HRW.out).trans HM.out)
  have HQ7 : Hid (own (mark G k r) A7 (k, .elm h.bus.length) q = none) := Lib.hid ((hd7.old q HQW.out).trans HQ.out)
  replace HDn := Lib.hid (HDn.out.trans hd7)
  obtain ⟨G7, hG7⟩ : ∃ G7, G7 = own (mark G k r) A7 (k, .elm h.bus.length) := ⟨_, rfl⟩
  rw [← hG7] at HL7 HR7 HQ7 HDn HT
  clear hd7 hli hown7 hl7 hA7 hv7 hb7 hG7
  (with_reducible refine wl_k ?_ ?_); exact rfl; intro K hK; go_simp; refine hK _ ?_; clear hK K
  clear HC HV HM HNM HQ HRW HQW
  obtain ⟨oA, oc, bA, bc, m, lA, lc, hh⟩ := HDn.out.heap
  have HH := Lib.hid hh
  have hp := hh.blk
  clear hh
  go_upto_region 4 with (fail)
  apply wp_region_lit
  (with_reducible refine wl_k ?_ ?_); exact rfl; intro K hK; go_simp; refine hK _ ?_; clear hK K
  (with_reducible refine wl_k ?_ ?_); exact rfl; intro K hK; go_simp; refine hK _ ?_; clear hK K
  (with_reducible refine wl_k ?_ ?_); exact rfl; intro K hK; go_simp; refine hK _ ?_; clear hK K
  (with_reducible refine wl_k ?_ ?_); exact rfl; intro K hK; go_simp; refine hK _ ?_; clear hK K
  ((with_reducible apply wl_oneG); exact rfl; exact rfl; exact h1 hp)
  (with_reducible refine wl_k ?_ ?_); exact rfl; intro K hK; go_simp; refine hK _ ?_; clear hK K
  refine wl_w rfl (ex_build97 _ _ rfl rfl rfl) ?_
  simp only [put_lit, List.set_cons_zero, List.set_cons_succ]
  refine wl_newv (fun q => .slice (some ⟨q, 0, none⟩) 1 1) rfl (ex_bs78 _ rfl rfl) ?_
  intro W8 q8 hbn hlq8 hq8
  simp only [put_lit, List.set_cons_zero, List.set_cons_succ]
  replace HDn := Lib.hid (HDn.out.quiet hbn)
  replace HH := Lib.hid (HH.out.old hbn)
  replace HL7 := Lib.hid (HL7.out.moved (Keep.of (C := fun _ => False) hbn) (fun b e => e.elim) (fun _ _ => rfl))
  replace HT := Lib.hid (HT.out.old hbn)
  replace hp := below_look hbn hp; replace hq := below_look hbn hq; replace hr := below_look hbn hr
  clear hbn
  obtain ⟨rows, ho, hlr, hor, hvr⟩ := HH.out.bus
  have HO := Lib.hid ho
  have HV8 := Lib.hid hvr
  have HOR := Lib.hid hor
  have HLR := Lib.hid hlr
  have hlen : rows.length ≤ 1000000 := by omega
  have hrl8 := heap_lt hr
  clear ho hvr hor
  refine wl_pushL elt78 rfl _ _ rfl (show _ = Value.slice bA rows.length bc by rw [HLR.out]; rfl) rfl HO.out hq8 rfl (by simp [Value.oneCell']) (by omega) (by unfold maxLen; omega) ?_
  intro A9 c9 W9 hown hk9 hA9
  rw [HLR.out]
  simp only [put_lit, List.set_cons_zero, List.set_cons_succ]
  have hpG := HH.out.rp
  have hnp : ¬ (bA = some ⟨p, 0, none⟩) := fun e => by have := HOR.out p e; rw [hpG] at this; cases this
  have hnr : ¬ (bA = some ⟨r, 0, none⟩) := fun e => by have := HOR.out r e; rw [HR7.out] at this; cases this
  replace hp := hk9.look hp hnp
  replace hr := hk9.look hr hnr
  have hd10 := Done.addB (n := 1) (l := takenV h l) HH.out HDn.out.fr HLR.out HV8.out (by simpa using hown) hk9 HOR.out hA9 HL7.out
  rw [HLR.out] at hd10
  have hHT : TyAt W9 (Imm (own _ A9 (k, .bar))) t _ := HT.out.moved hk9 (fun b e => (role_ne HOR.out (y := (k, .hdr)) (by simp) b e).1) (own_again HOR.out hA9)
  have hHR := (own_again (G := G7) HOR.out hA9 r hrl8).trans HR7.out
  obtain ⟨nb, hnb⟩ : ∃ n, n = h.bus.length + 1 := ⟨_, rfl⟩
  rw [← hnb] at hd10 ⊢
  have HNB := Lib.hid hnb
  clear hnb
  have HDN := Lib.hid (HDn.out.trans hd10)
  have HT9 := Lib.hid (hHT.keep (Keep.cellOne W9 p 1 (.slice A9 nb c9)) (fun b hb e => by
    unfold Imm at hb
    rw [e] at hb
    rw [own_again HOR.out hA9 p (heap_lt HH.out.blk), hpG] at hb; cases hb))
  have HHR := Lib.hid hHR
  obtain ⟨hs1, hs2, hs3⟩ := hdr_set (j := 1) (v := .slice A9 nb c9) hp
  have hs1 := hs1 (by omega)
  replace hq := hk9.look hq (fun e => by have := HOR.out q e; rw [HQ7.out] at this; cases this)
  have hqp : q ≠ p := fun e => by have := HQ7.out; rw [e, hpG] at this; cases this
  have hrp : r ≠ p := fun e => by have := HR7.out; rw [e, hpG] at this; cases this
  replace hq := (heap_setCell_other W9 ⟨p, 1, none⟩ q (.slice A9 nb c9) hqp).trans hq
  replace hr := (heap_setCell_other W9 ⟨p, 1, none⟩ r (.slice A9 nb c9) hrp).trans hr
  clear hown hk9 hA9 hd10 hHT hHR HDn HT HR7 HH HL7 HO HV8 HOR HQ7 hp
  (with_reducible refine wl_k ?_ ?_); exact rfl; intro K hK; go_simp; refine hK _ ?_; clear hK K
  (with_reducible refine wl_k ?_ ?_); exact rfl; intro K hK; go_simp; refine hK _ ?_; clear hK K
  refine wl_storeC rfl 78 _ _ rfl p 1 (.slice A9 nb c9) rfl rfl info78 rfl hs1 hs2 ?_
  rw [put_noneA]
  obtain ⟨W10, hW⟩ : ∃ W, W = W9.setCell ⟨p, 1, none⟩ (.slice A9 nb c9) := ⟨_, rfl⟩
  rw [← hW] at HDN HT9 hs3 hq hr ⊢
  have hp : W10.heap[p]? = some (.cells (cellH oA h.obs.length oc A9 nb c9 m lA h.lev.length lc) 87 (0, 0)) := hs3
  have hnI : (nb : Int) - 1 = (h.bus.length : Int) := by have := HNB.out; omega
  have hnw : IntKind.i64.wrap (h.bus.length : Int) = (h.bus.length : Int) := IntWalk.i64_in _ (by omega)
  have hnwf : (Lit.int .i64 (h.bus.length : Int)).wf = true := wf64 (by omega)
  clear hs1 hs2 hs3 hW hlen hrl8 hnp hnr hqp hrp
  go_upto_region 5 with (fail)
  refine wp_region_below 8 mixed (by kernel_rfl) ?_; simp only [List.take_succ_cons, List.take_zero, List.drop_succ_cons, List.drop_zero]
  (with_reducible refine wq_k ?_ ?_); exact rfl; intro K hK; go_simp; (with_reducible refine hK _ ?_); clear hK K
  (with_reducible refine wq_k ?_ ?_); exact rfl; intro K hK; go_simp; (with_reducible refine hK _ ?_); clear hK K
  (with_reducible refine wq_k ?_ ?_); exact rfl; intro K hK; go_simp; (with_reducible refine hK _ ?_); clear hK K
  ((with_reducible apply wq_one); exact rfl; exact rfl; intro w' hw'; exact h1 (below_look hw' hp))
  (with_reducible refine wq_k ?_ ?_); exact rfl; intro K hK; go_simp; (with_reducible refine hK _ ?_); clear hK K
  (with_reducible refine wq_k ?_ ?_); exact rfl; intro K hK; go_simp; (with_reducible refine hK _ ?_); clear hK K
  ((with_reducible apply wq_row); exact rfl; exact rfl; intro w' hw'; exact f4 (below_look hw' hq))
  refine wq_val rfl (fun w' _ => ex_build35t _ _ _ rfl rfl rfl rfl rfl) ?_; simp only [put_lit, List.set_cons_zero, List.set_cons_succ]
  intro w11 hb11
  replace HT9 := Lib.hid (HT9.out.old hb11)
  replace HDN := Lib.hid (HDN.out.quiet hb11)
  replace hr := below_look hb11 hr
  have HV11 := Lib.hid (trow_at (k := 8) (n := (h.bus.length : Int)) (by rfl) hnwf HT9.out)
  clear hb11 hp hq
  (with_reducible refine wl_putV rfl HV11.out.one hzs rfl rfl hr ?_); rw [put_noneA]; intro W12 hbx hsz hkx hnx
  have HK12 := Lib.hid (Keep.of_put hbx hsz hkx)
  clear hbx hsz hkx hr
  have HHR2 := Lib.hid HHR.out
  go_wp2_with fail
  refine bodyPost_ret (res35 rfl _ _ r rfl rfl hnx) rfl ?_
  exact ⟨_, _, rfl, HV11.out.put HHR.out HK12.out, HDN.out.put HHR.out HRl.out HK12.out⟩
set_option maxHeartbeats 8000000 in
set_option maxRecDepth 100000 in
theorem Make_any {G : Gh} {k p : Nat} {h : Hp} {w : World} (hh : HeapAt w G k p h) (hf : Fr w G) (hnb : h.obs.length ≤ 1000000) {t : Ty} {tr : Array Value} (ht : TyAt w (Imm G) t tr) {l : List Va} {A : Option Addr} {n c : Nat} (hv : VsAt w (Imm G) l A n c) (hn : n ≤ 1000000) :
    Calls Try.prog 36 #[.pointer (some ⟨p, 0, none⟩), .agg tr, .slice A n c] w (ValOf w G k p (makeP h t l)) := by
  have HX := Lib.hid hh
  have HF := Lib.hid hf
  have HT := Lib.hid ht
  have HV := Lib.hid hv
  have hzs : zrow.size = 9 := rfl
  have zone : zrow.all (·.oneCell') = true := (zero_va w (Imm G)).one
  have hb := Below.refl w.heap.size w
  obtain ⟨k0, s0, n0, A1, l1, c1, ts0, he, rfl, -⟩ := ht.parts
  clear hh hf ht hv he
  go_enter Try.func36, Try.ntmps36
  go_upto_region 0 with (fail)
  apply wp_region_lit
  (with_reducible refine wl_box rfl ?_); intro W q hbn hlq hq; replace hb := hb.trans (hbn.mono hb.size); clear hbn; simp only [put_lit, List.set_cons_zero, List.set_cons_succ]
  have lthqr := heap_lt hq; (with_reducible refine wl_allV ?_); intro W2 r hbn hlr hr; replace hq := below_look hbn hq; replace hb := hb.trans (hbn.mono hb.size); clear hbn; simp only [put_lit, List.set_cons_zero, List.set_cons_succ]
  have hrl : w.heap.size ≤ r := by omega
  have hql : q < W2.heap.size := heap_lt hq
  have HRW := Lib.hid (heap_lt hr)
  have HRl := Lib.hid hrl
  have hqG : G q = none := HF.out q (by omega)
  have HQ : Hid (mark G k r q = none) := Lib.hid (by unfold mark; rw [if_neg (by omega)]; exact hqG)
  have HQW := Lib.hid hql
  have HDn := Lib.hid (Done.marked HX.out HF.out hb hrl (heap_lt hr))
  have HM := Lib.hid (mark_same G k r)
  have HNM := Lib.hid (mark_not G k r)
  have htt : TyAt W2 (Imm (mark G k r)) t _ := HT.out.moved (Keep.of (C := fun _ => False) hb) (fun b e => e.elim) HDn.out.old
  have hvv : VsAt W2 (Lw W2 (Imm (mark G k r))) l A n c := (((HV.out.low.old hb).weak fun b hb2 => (by
    have : mark G k r b = G b := if_neg (by have := hb2.2; omega)
    unfold Imm; rw [this]; exact hb2.1) : VsAt W2 (Imm (mark G k r)) l A n c)).low
  clear HT HV
  have HT := Lib.hid htt
  have HV := Lib.hid hvv
  clear htt hvv HX HF hb hrl hql hqG
  go_upto_region 1 with (fail)
  apply wp_region_lit
  (with_reducible refine wl_k ?_ ?_); exact rfl; intro K hK; go_simp; refine hK _ ?_; clear hK K
  (with_reducible refine wl_k ?_ ?_); exact rfl; intro K hK; go_simp; refine hK _ ?_; clear hK K
  go_upto_region 3 with (fail)
  have HC := Lib.hid (taken_done HDn.out.heap HV.out hn)
  apply wp_region_lit
  (with_reducible refine wl_k ?_ ?_); exact rfl; intro K hK; go_simp; refine hK _ ?_; clear hK K
  (with_reducible refine wl_k ?_ ?_); exact rfl; intro K hK; go_simp; refine hK _ ?_; clear hK K
  (with_reducible refine wl_ck ?_ ?_); exact rfl; intro K hK; go_simp; refine ⟨_, _, ⟨rfl, rfl⟩, hK _ _ ⟨_, HC.out, ?_⟩⟩; clear hK K; rintro e w7 ⟨A7, c7, rows7, rfl, hown7, hl7, hA7, hv7, hb7⟩; refine ⟨_, rfl, ?_⟩; simp only [put_lit, List.set_cons_zero, List.set_cons_succ]
  have hl := Done.list (r := .fld h.obs.length) HDn.out.heap HDn.out.fr hown7 hl7 hA7 hv7 hb7
  obtain ⟨hd7, hli⟩ := hl
  have HL7 := Lib.hid hli
  replace HT := Lib.hid (HT.out.moved (Keep.of (C := fun _ => False) hb7) (fun b e => e.elim) hd7.old)
  replace hq := below_look hb7 hq; replace hr := below_look hb7 hr
  have HR7 : Hid (own (mark G k r) A7 (k, .fld h.obs.length) r = some (k, .tmp)) := Lib.hid ((hd7.old r HRW.out).trans HM.out)
  have HQ7 : Hid (own (mark G k r) A7 (k, .fld h.obs.length) q = none) := Lib.hid ((hd7.old q HQW.out).trans HQ.out)
  replace HDn := Lib.hid (HDn.out.trans hd7)
  obtain ⟨G7, hG7⟩ : ∃ G7, G7 = own (mark G k r) A7 (k, .fld h.obs.length) := ⟨_, rfl⟩
  rw [← hG7] at HL7 HR7 HQ7 HDn HT
  clear hd7 hli hown7 hl7 hA7 hv7 hb7 hG7
  (with_reducible refine wl_k ?_ ?_); exact rfl; intro K hK; go_simp; refine hK _ ?_; clear hK K
  clear HC HV HM HNM HQ HRW HQW
  obtain ⟨oA, oc, bA, bc, m, lA, lc, hh⟩ := HDn.out.heap
  have HH := Lib.hid hh
  have hp := hh.blk
  clear hh
  have hpG := HH.out.rp
  have hnp : ∀ b, b = p → ¬ (oA = some ⟨b, 0, none⟩) := fun b e e2 => by
    obtain ⟨-, -, -, hor, -⟩ := HH.out.obs
    have := hor b e2; rw [e, hpG] at this; cases this
  have hnq : ¬ (oA = some ⟨q, 0, none⟩) := fun e2 => by
    obtain ⟨-, -, -, hor, -⟩ := HH.out.obs
    have := hor q e2; rw [HQ7.out] at this; cases this
  have HNP := Lib.hid hnp
  have HNQ := Lib.hid hnq
  clear hnp hnq
  go_upto_region 4 with (fail)
  refine wp_region_Z (S := fun w' => Keep (fun b => oA = some ⟨b, 0, none⟩) w7 w') 12 mixed (Keep.of ((Below.refl _ _).drew)) (fun hS => ?_)
  have hbz : Below w7.heap.size w7 w7.drew := (Below.refl _ _).drew
  refine za_k (i := 0) rfl (by kernel_rfl) (by kernel_rfl) (by kernel_rfl) (by kernel_rfl) (fun _ _ _ _ h => h) hS rfl (fun K hK => ?_); go_simp; refine hK _ ?_; clear hK K; try simp only [put_lit, List.set_cons_zero, List.set_cons_succ]
  refine za_k (i := 1) rfl (by kernel_rfl) (by kernel_rfl) (by kernel_rfl) (by kernel_rfl) (fun _ _ _ _ h => h) hS rfl (fun K hK => ?_); go_simp; refine hK _ ?_; clear hK K; try simp only [put_lit, List.set_cons_zero, List.set_cons_succ]
  refine za_k (i := 2) rfl (by kernel_rfl) (by kernel_rfl) (by kernel_rfl) (by kernel_rfl) (fun _ _ _ _ h => h) hS rfl (fun K hK => ?_); go_simp; refine hK _ ?_; clear hK K; try simp only [put_lit, List.set_cons_zero, List.set_cons_succ]
  refine za_k (i := 3) rfl (by kernel_rfl) (by kernel_rfl) (by kernel_rfl) (by kernel_rfl) (fun _ _ _ _ h => h) hS rfl (fun K hK => ?_); go_simp; refine hK _ ?_; clear hK K; try simp only [put_lit, List.set_cons_zero, List.set_cons_succ]
  refine za_val (i := 4) rfl (by kernel_rfl) (by kernel_rfl) (by kernel_rfl) (by kernel_rfl) (fun _ _ _ h => h) hS rfl (fun w' hw' => ex_one rfl (h0 (hw'.look hp (HNP.out _ rfl)))) ?_; try simp only [put_lit, List.set_cons_zero, List.set_cons_succ]
  refine za_val (i := 5) rfl (by kernel_rfl) (by kernel_rfl) (by kernel_rfl) (by kernel_rfl) (fun _ _ _ h => h) hS rfl (fun w' hw' => ex_row rfl (f4 (hw'.look hq HNQ.out))) ?_; try simp only [put_lit, List.set_cons_zero, List.set_cons_succ]
  refine za_k (i := 6) rfl (by kernel_rfl) (by kernel_rfl) (by kernel_rfl) (by kernel_rfl) (fun _ _ _ _ h => h) hS rfl (fun K hK => ?_); go_simp; refine hK _ ?_; clear hK K; try simp only [put_lit, List.set_cons_zero, List.set_cons_succ]
  refine za_val (i := 7) rfl (by kernel_rfl) (by kernel_rfl) (by kernel_rfl) (by kernel_rfl) (fun _ _ _ h => h) hS rfl (fun w' hw' => ex_build41 _ _ _ _ rfl rfl rfl rfl rfl rfl) ?_; try simp only [put_lit, List.set_cons_zero, List.set_cons_succ]
  refine za_new (i := 8) (v := fun q => .slice (some ⟨q, 0, none⟩) 1 1) (by kernel_rfl) rfl rfl (ex_bs38 _ rfl rfl rfl) (fun W hW => hS.trans (C' := fun _ => False) (fun b e => e.elim) (Keep.of hW)) ?_
  clear hS
  intro W8 q8 hbn hlq8 hq8 hS
  try simp only [put_lit, List.set_cons_zero, List.set_cons_succ]
  replace hbn := hbz.trans (hbn.mono hbz.size)
  replace HDn := Lib.hid (HDn.out.quiet hbn)
  replace HH := Lib.hid (HH.out.old hbn)
  replace HL7 := Lib.hid (HL7.out.moved (Keep.of (C := fun _ => False) hbn) (fun b e => e.elim) (fun _ _ => rfl))
  replace HT := Lib.hid (HT.out.old hbn)
  have hp8 := below_look hbn hp
  have hq' := below_look hbn hq
  have hr8 := below_look hbn hr
  clear hbn hbz
  obtain ⟨rows, ho, hlr, hor, hvr⟩ := HH.out.obs
  have HO := Lib.hid ho
  have HV8 := Lib.hid hvr
  have HOR := Lib.hid hor
  have HLR := Lib.hid hlr
  have hlen : rows.length ≤ 1000000 := by omega
  have hrl8 := heap_lt hr8
  clear ho hvr hor
  have hr41 : (cell8 (cell4 k0 s0 n0 A1 l1 c1) 1 1 0 A7 (takenV h l).length c7).all (·.oneCell') = true := by simp [cell8, cell4, Value.oneCell']
  refine za_pushL (i := 9) elt38 (by kernel_rfl) rfl rfl _ _ rfl (show _ = Value.slice oA rows.length oc by rw [HLR.out]; rfl) rfl HO.out hq8 rfl hr41 (by omega) (by unfold maxLen; omega) (fun w' hk => hS.trans (C' := fun b => oA = some ⟨b, 0, none⟩) (fun b e => .inl e) hk) ?_
  clear hS
  intro A9 c9 W9 hown hk9 hA9 hS
  rw [HLR.out]
  try simp only [put_lit, List.set_cons_zero, List.set_cons_succ]
  have hnr : ¬ (oA = some ⟨r, 0, none⟩) := fun e => by have := HOR.out r e; rw [HR7.out] at this; cases this
  replace hp8 := hk9.look hp8 (HNP.out _ rfl)
  replace hr8 := hk9.look hr8 hnr
  have hd10 := Done.addO (o := ⟨t, 1, 1, 0, takenV h l⟩) HH.out HDn.out.fr HLR.out HV8.out hown hk9 HOR.out hA9 HT.out HL7.out
  rw [HLR.out] at hd10
  have hHR := (own_again (G := G7) HOR.out hA9 r hrl8).trans HR7.out
  obtain ⟨nb, hnb⟩ : ∃ n, n = h.obs.length + 1 := ⟨_, rfl⟩
  rw [← hnb] at hd10 ⊢
  have HNB := Lib.hid hnb
  clear hnb
  have HDN := Lib.hid (HDn.out.trans hd10)
  have HHR := Lib.hid hHR
  obtain ⟨hs1, hs2, hs3⟩ := hdr_set (j := 0) (v := .slice A9 nb c9) hp8
  have hs1 := hs1 (by omega)
  have hrp : r ≠ p := fun e => by have := HR7.out; rw [e, hpG] at this; cases this
  replace hr8 := (heap_setCell_other W9 ⟨p, 0, none⟩ r (.slice A9 nb c9) hrp).trans hr8
  clear hown hk9 hA9 hd10 hHR HDn HT HR7 HH HL7 HO HV8 HOR HQ7 hp8
  refine za_1 (i := 10) (by kernel_rfl) rfl rfl hS (fun K hK => ?_); go_simp; refine hK _ ?_; clear hK K; try simp only [put_lit, List.set_cons_zero, List.set_cons_succ]
  refine za_1 (i := 11) (by kernel_rfl) rfl rfl hS (fun K hK => ?_); go_simp; refine hK _ ?_; clear hK K; try simp only [put_lit, List.set_cons_zero, List.set_cons_succ]
  refine za_storeC (i := 12) (by kernel_rfl) rfl rfl 38 _ _ rfl p 0 (.slice A9 nb c9) rfl rfl info38 rfl hs1 hs2 (fun h => absurd rfl h) ?_
  clear hS
  refine za_done (by kernel_rfl) ?_ _

  obtain ⟨W10, hW⟩ : ∃ W, W = W9.setCell ⟨p, 0, none⟩ (.slice A9 nb c9) := ⟨_, rfl⟩
  rw [← hW] at HDN hs3 hr8 ⊢
  clear hp hq hr
  have hp : W10.heap[p]? = some (.cells (cellH A9 nb c9 bA h.bus.length bc m lA h.lev.length lc) 87 (0, 0)) := hs3
  have hr := hr8
  have hnI : (nb : Int) - 1 = (h.obs.length : Int) := by have := HNB.out; omega
  have hnw : IntKind.i64.wrap (h.obs.length : Int) = (h.obs.length : Int) := IntWalk.i64_in _ (by omega)
  have hnwf : (Lit.int .i64 (h.obs.length : Int)).wf = true := wf64 (by omega)
  clear hs1 hs2 hs3 hW hlen hrl8 hnr hrp hr8
  go_upto_region 5 with (fail)
  apply wp_region_lit
  (with_reducible refine wl_k ?_ ?_); exact rfl; intro K hK; go_simp; refine hK _ ?_; clear hK K
  (with_reducible refine wl_k ?_ ?_); exact rfl; intro K hK; go_simp; refine hK _ ?_; clear hK K
  (with_reducible refine wl_k ?_ ?_); exact rfl; intro K hK; go_simp; refine hK _ ?_; clear hK K
  ((with_reducible apply wl_oneG); exact rfl; exact rfl; exact h0 hp)
  (with_reducible refine wl_k ?_ ?_); exact rfl; intro K hK; go_simp; refine hK _ ?_; clear hK K
  (with_reducible refine wl_k ?_ ?_); exact rfl; intro K hK; go_simp; refine hK _ ?_; clear hK K
  refine wl_w rfl (ex_build35n _ _ rfl rfl rfl) ?_
  simp only [put_lit, List.set_cons_zero, List.set_cons_succ]
  have HV11 := Lib.hid (nrow_at W10 (Imm (own G7 A9 (k, .arr))) (k := 7) (n := (h.obs.length : Int)) (by rfl) hnwf)
  (with_reducible refine wl_putV rfl HV11.out.one hzs rfl rfl hr ?_); rw [put_noneA]; intro W12 hbx hsz hkx hnx
  have HK12 := Lib.hid (Keep.of_put hbx hsz hkx)
  clear hbx hsz hkx hr
  go_wp2_with fail
  refine bodyPost_ret (res35 rfl _ _ r rfl rfl hnx) rfl ?_
  exact ⟨_, _, rfl, HV11.out.put HHR.out HK12.out, HDN.out.put HHR.out HRl.out HK12.out⟩
end Go.Proofs.Ytpamocglecangaa
