/- The document's Weak and Load. The program's Field. The document's Field; a field or an element set anew. The program's Put. The program's Append. slices.Clone of values. The program's Own. -/
import Derived.Test.YtpamocglecangaaPD6
import Derived.Test.YtpamocglecangaaPD4
set_option maxHeartbeats 16000000
set_option maxRecDepth 100000
namespace Go.Proofs.Ytpamocglecangaa
open Go.RowKit Go.Proofs.Ytpamocglecangaa.Nm
set_option linter.unusedSimpArgs false
theorem DDone.num {w W : World} {G G1 : Gh} {k p nr : Nat} {h : Hp} (d : DDone w G k p h nr W G1) {dA : Option Addr} {dc oc : Nat} {bA : Option Addr} {bc : Nat} {lA : Option Addr} {lc : Nat} {rA : Option Addr} {rc g i j : Nat} {h' : Hp} {x : Value} (hg : G1 g = some (k, .arr)) (hh : DAt (W.setCell ⟨g, i * 8 + j, none⟩ x) G1 k p h' nr dA dc (some ⟨g, 0, none⟩) oc bA bc lA lc rA rc) : DDone w G k p h' nr (W.setCell ⟨g, i * 8 + j, none⟩ x) G1 :=
 d.trans ⟨⟨_, _, _, _, _, _, _, _, _, _, hh⟩, d.fr.on (by simp), fun b _ => rfl, fun b hb => .inl (d.fr b hb), (Keep.refl _ W).trans (C' := fun b => b = g) (fun b e => .inl ⟨.arr, by rw [e]; exact hg, by simp⟩) (Keep.cellOne W g (i * 8 + j) x)⟩
theorem dWeak_any {G : Gh} {k p nr : Nat} {h : Hp} {w : World} (hh : DHeapAt w G k p h nr) (hf : Fr w G) {v : Va} {row : Array Value} (hv : VAt w (Imm G) v row) :
  Calls Try.prog 52 #[.pointer (some ⟨p, 0, none⟩), .agg row] w (DValErr w G k p nr (weakP h v)) := by
 have HX := Zi hh
 have HF := Zi hf
 have HV := Zi hv
 have hvs := hv.size
 have hv1 := hv.one
 have hzs : zrow.size = 9 := rfl
 have zone : zrow.all (·.oneCell') = true := (zero_va w (Imm G)).one
 have hb := Below.refl w.heap.size w
 clear hh hf hv
 go_enter Try.func52, Try.ntmps52
 go_upto_region 0 with fail
 apply Zl
 (with_reducible refine wl_boxV rfl ?_); intro W q hbn hlq hq; replace hb := hb.trans (hbn.mono hb.size); clear hbn; simp only [Zq]
 have lthqr := heap_lt hq; (with_reducible refine wl_allV ?_); intro W2 r hbn hlr hr; replace hq := below_look hbn hq; replace hb := hb.trans (hbn.mono hb.size); clear hbn; simp only [Zq]
 refine Zm ?_
 have hrl : w.heap.size <= r := by omega
 have hql := heap_lt hq
 have HRl := Zi hrl
 have hqG : G q = none := HF.out q (by omega)
 have HQ : Hid (¬ Mine (mark G k r) k q) := Zi (by rintro ⟨x, e, -⟩; unfold mark at e; rw [if_neg (by omega), hqG] at e; cases e)
 have HDn := Zi (DDone.marked HX.out HF.out hb hrl (heap_lt hr))
 have HM := Zi (mark_same G k r)
 have HNM := Zi (mark_not G k r)
 have hvv := HDn.out.va HV.out
 clear HV
 have HV := Zi hvv
 clear hvv HX HF hb hrl hql hqG
 obtain ⟨trv, A2v, l2v, c2v, A3v, l3v, c3v, hrv⟩ := HV.out.row
 have HRV := Zi hrv
 clear hrv
 obtain ⟨bb, hbb⟩ : ∃ b, b = ofV h.obs.length h.bus.length v := ⟨_, rfl⟩
 have hc := dof_done HDn.out.heap HV.out
 rw [<- hbb] at hc
 have HC := Zi hc
 have HB := Zi hbb
 clear hc hbb
 cases bb with
 | false =>
  have HD : Hid (weakP h v = (h, va0, 4)) := Zi (by unfold weakP; rw [if_neg (fun c => by have := c.2; rw [<- HB.out] at this; cases this)])
  go_upto_region 1 with fail
  apply Zl
  refine Zm ?_
  refine Zw rfl (row35 hq hvs) ?_
  refine Zn HC.out ?_; rintro e w7 ⟨rfl, hb7⟩; refine ⟨_, rfl, ?_⟩; simp only [Zq]
  replace HDn := Zi (HDn.out.quiet hb7); replace HV := Zi (HV.out.old hb7); replace hq := below_look hb7 hq; replace hr := below_look hb7 hr; clear hb7
  iterate 2 refine Zm ?_
  iterate 3 ((first | ((with_reducible refine wl_skipU ?_ ?_ ?_); exact rfl; exact rfl) | ((with_reducible refine wl_skip ?_ ?_); exact rfl; simp only [Zq])))
  refine Zm ?_
  clear HC
  go_upto_region 2 with fail
  apply Zl
  refine wl_w rfl (build35 _ _ rfl _) ?_
  simp only [Zq]
  (with_reducible refine wl_putV rfl zone hzs rfl rfl hr ?_); rw [put_noneA]; intro W10 hbx hsz hkx hnx
  replace HDn := Zi (HDn.out.put HM.out HRl.out (Keep.of_put hbx hsz hkx))
  clear hr hbx hsz hkx
  have hr := hnx
  clear hnx
  refine Zm ?_
  go_wp2_with fail
  refine bodyPost_ret (res35t rfl _ _ r rfl rfl rfl hr) rfl ?_
  rw [HD.out]
  exact ⟨_, zrow, rfl, zero_va _ _, HDn.out⟩
 | true =>
  by_cases h7 : v.kind = 7
  ·have e7 : (v.kind != 7) = false := by simp [h7]
   go_upto_region 1 with fail
   apply Zl
   refine Zm ?_
   refine Zw rfl (row35 hq hvs) ?_
   refine Zn HC.out ?_; rintro e w7 ⟨rfl, hb7⟩; refine ⟨_, rfl, ?_⟩; simp only [Zq]
   replace HDn := Zi (HDn.out.quiet hb7); replace HV := Zi (HV.out.old hb7); replace hq := below_look hb7 hq; replace hr := below_look hb7 hr; clear hb7
   iterate 3 refine Zm ?_
   refine Zo rfl (vk (by assumption) (by assumption)) ?_
   iterate 2 refine Zm ?_
   clear HC HRV
   have h1 : 0 <= v.num /\ v.num < (h.obs.length : Int) := by
    have := HB.out
    rw [ofV_eq, if_pos (by omega)] at this
    exact of_decide_eq_true this.symm
   obtain ⟨n, hn⟩ : ∃ n : Nat, v.num = (n : Int) := ⟨v.num.toNat, by omega⟩
   have hnl : n < h.obs.length := by omega
   have hnlI : (n : Int) < (h.obs.length : Int) := by omega
   have ho := List.getElem?_eq_getElem hnl
   obtain ⟨o, hoe⟩ : ∃ o, o = h.obs[n] := ⟨_, rfl⟩
   rw [<- hoe] at ho
   obtain ⟨dA, dc, oA, oc, bA, bc, lA, lc, rA, rc, hh⟩ := HDn.out.heap
   obtain ⟨g, rows, rfl, hR⟩ := hh.obs.rows ho
   obtain ⟨tr0, fA, fc, hL, -, -⟩ := hR.loads ho
   have HL := Zi hL
   have HOO := Zi ho
   have HH := Zi hh
   have HN := Zi hn
   have hp := hh.blk
   obtain ⟨trv, A2v, l2v, c2v, A3v, l3v, c3v, hrv⟩ := HV.out.row
   have HRV := Zi hrv
   clear hL hR hoe ho hh h1 hrv
   have HD : Hid (weakP h v = if o.state = 3 then (h, va0, 141) else ({ h with obs := h.obs.set n (addW 1 o) }, .node 11 (n : Int) ⟨#[]⟩ zeroTy [] [], 0)) := Zi (by unfold weakP; rw [if_pos ⟨h7, HB.out.symm⟩, HN.out, Int.toNat_natCast, HOO.out])
   clear h7
   go_upto_region 3 with fail
   refine wp_region_belowAll mixed (by kernel_rfl) ?_
   iterate 3 refine Zt ?_
   refine Zv rfl (fun w' hw' => dh1 (below_look hw' (by assumption))) ?_
   refine Zt ?_
   refine Zv rfl (fun w' hw' => vnN (below_look hw' (by assumption)) (by assumption) (by assumption)) ?_
   iterate 2 refine Zt ?_
   refine Zv rfl (fun w' hw' => (HL.out w' hw').s) ?_
   refine Zt ?_
   intro w9 hb9
   have HL9 := Zi (fun w' hw => HL.out w' (hb9.trans (Below.mono hw hb9.size)))
   replace HDn := Zi (HDn.out.quiet hb9); replace HV := Zi (HV.out.old hb9); replace HH := Zi (HH.out.old hb9); replace hp := below_look hb9 hp; replace hq := below_look hb9 hq; replace hr := below_look hb9 hr; clear hb9 HL
   have HL := HL9
   clear HL9
   by_cases h3 : o.state = 3
   ·have e3 : (o.state == 3) = true := by simp [h3]
    rw [if_pos h3] at HD
    clear h3 HL HH hp
    go_upto_region 4 with fail
    apply Zl
    refine wl_w rfl (build35 _ _ rfl _) ?_
    simp only [Zq]
    (with_reducible refine wl_putV rfl zone hzs rfl rfl hr ?_); rw [put_noneA]; intro W10 hbx hsz hkx hnx
    replace HDn := Zi (HDn.out.put HM.out HRl.out (Keep.of_put hbx hsz hkx))
    clear hr hbx hsz hkx
    have hr := hnx
    clear hnx
    refine Zm ?_
    go_wp2_with fail
    refine bodyPost_ret (res35t rfl _ _ r rfl rfl rfl hr) rfl ?_
    rw [HD.out]
    exact ⟨_, zrow, rfl, zero_va _ _, HDn.out⟩
   ·have e3 : (o.state == 3) = false := by simp [h3]
    rw [if_neg h3] at HD
    clear h3
    go_upto_region 5 with fail
    refine wp_region_below 18 mixed (by kernel_rfl) ?_; simp only [List.take_succ_cons, List.take_zero, List.drop_succ_cons, List.drop_zero]
    iterate 3 refine Zt ?_
    refine Zv rfl (fun w' hw' => dh1 (below_look hw' (by assumption))) ?_
    refine Zt ?_
    refine Zv rfl (fun w' hw' => vnN (below_look hw' (by assumption)) (by assumption) (by assumption)) ?_
    iterate 3 refine Zt ?_
    refine Zv rfl (fun w' hw' => dh1 (below_look hw' (by assumption))) ?_
    refine Zt ?_
    refine Zv rfl (fun w' hw' => vnN (below_look hw' (by assumption)) (by assumption) (by assumption)) ?_
    iterate 2 refine Zt ?_
    refine Zv rfl (fun w' hw' => (HL.out w' hw').k) ?_
    iterate 3 refine Zt ?_
    intro w10 hb10
    have HL9 := Zi (fun w' hw => HL.out w' (hb10.trans (Below.mono hw hb10.size)))
    replace HDn := Zi (HDn.out.quiet hb10); replace HV := Zi (HV.out.old hb10); replace HH := Zi (HH.out.old hb10); replace hp := below_look hb10 hp; replace hq := below_look hb10 hq; replace hr := below_look hb10 hr; clear hb10 HL
    have HL := HL9
    clear HL9
    clear hp HL
    obtain ⟨hs1, hs2, hrl, hset⟩ := HH.out.stO HOO.out 6 (by omega)
    have HS := Zi (hset (w64 (o.weak + 1)) (addW 1 o) rfl rfl (by simp [addW]))
    have HRL := Zi hrl
    clear hset hrl
    refine wl_storeC rfl 3 _ _ rfl g _ (.int .i64 (w64 (o.weak + 1))) rfl rfl info3 rfl hs1 hs2 ?_
    rw [put_noneA]
    have hrg := mine_arr HM.out HRL.out
    have HDN := Zi (HDn.out.num HRL.out HS.out)
    replace hr := (heap_setCell_other w10 ⟨g, n * 8 + 6, none⟩ r (.int .i64 (w64 (o.weak + 1))) hrg).trans hr
    have hqg : q ≠ g := fun e => HQ.out ⟨.arr, by rw [e]; exact HRL.out, by simp⟩
    replace hq := (heap_setCell_other w10 ⟨g, n * 8 + 6, none⟩ q (.int .i64 (w64 (o.weak + 1))) hqg).trans hq
    have hnw := wf_num HV.out
    rw [HN.out] at hnw
    clear HDn HS hs1 hs2 HH
    obtain ⟨W12, hW⟩ : ∃ W, W = w10.setCell ⟨g, n * 8 + 6, none⟩ (.int .i64 (w64 (o.weak + 1))) := ⟨_, rfl⟩
    rw [<- hW] at HDN hq hr ⊢
    clear hW
    go_upto_region 6 with fail
    apply Zl
    refine Zm ?_
    refine Zo rfl (vnN hq HRV HN) ?_
    refine wl_w rfl (ex_build35n _ _ rfl rfl rfl) ?_
    simp only [Zq]
    have HV11 := Zi (nrow_at W12 (Imm (mark G k r)) (k := 11) (n := (n : Int)) (by rfl) hnw)
    (with_reducible refine wl_putV rfl HV11.out.one hzs rfl rfl hr ?_); rw [put_noneA]; intro W13 hbx hsz hkx hnx
    have HK12 := Zi (Keep.of_put hbx hsz hkx)
    clear hbx hsz hkx hr
    refine Zm ?_
    go_wp2_with fail
    refine bodyPost_ret (res35t rfl _ _ r rfl rfl rfl hnx) rfl ?_
    rw [HD.out]
    exact ⟨_, _, rfl, HV11.out.put HM.out HK12.out, HDN.out.put HM.out HRl.out HK12.out⟩
  ·have e7 : (v.kind != 7) = true := by simp [h7]
   have HD : Hid (weakP h v = (h, va0, 4)) := Zi (by unfold weakP; rw [if_neg (fun c => h7 c.1)])
   clear h7
   go_upto_region 1 with fail
   apply Zl
   refine Zm ?_
   refine Zw rfl (row35 hq hvs) ?_
   refine Zn HC.out ?_; rintro e w7 ⟨rfl, hb7⟩; refine ⟨_, rfl, ?_⟩; simp only [Zq]
   replace HDn := Zi (HDn.out.quiet hb7); replace HV := Zi (HV.out.old hb7); replace hq := below_look hb7 hq; replace hr := below_look hb7 hr; clear hb7
   iterate 3 refine Zm ?_
   refine Zo rfl (vk (by assumption) (by assumption)) ?_
   iterate 2 refine Zm ?_
   clear HC
   go_upto_region 2 with fail
   apply Zl
   refine wl_w rfl (build35 _ _ rfl _) ?_
   simp only [Zq]
   (with_reducible refine wl_putV rfl zone hzs rfl rfl hr ?_); rw [put_noneA]; intro W10 hbx hsz hkx hnx
   replace HDn := Zi (HDn.out.put HM.out HRl.out (Keep.of_put hbx hsz hkx))
   clear hr hbx hsz hkx
   have hr := hnx
   clear hnx
   refine Zm ?_
   go_wp2_with fail
   refine bodyPost_ret (res35t rfl _ _ r rfl rfl rfl hr) rfl ?_
   rw [HD.out]
   exact ⟨_, zrow, rfl, zero_va _ _, HDn.out⟩
theorem dLoad_any {G : Gh} {k p nr : Nat} {h : Hp} {w : World} (hh : DHeapAt w G k p h nr) (hf : Fr w G) {v : Va} {row : Array Value} (hv : VAt w (Imm G) v row) :
  Calls Try.prog 53 #[.pointer (some ⟨p, 0, none⟩), .agg row] w (DValBErr w G k p nr (loadP h v)) := by
 have HX := Zi hh
 have HF := Zi hf
 have HV := Zi hv
 have hvs := hv.size
 have hv1 := hv.one
 have hzs : zrow.size = 9 := rfl
 have zone : zrow.all (·.oneCell') = true := (zero_va w (Imm G)).one
 have hb := Below.refl w.heap.size w
 clear hh hf hv
 go_enter Try.func53, Try.ntmps53
 go_upto_region 0 with fail
 apply Zl
 (with_reducible refine wl_boxV rfl ?_); intro W q hbn hlq hq; replace hb := hb.trans (hbn.mono hb.size); clear hbn; simp only [Zq]
 have lthqr := heap_lt hq; (with_reducible refine wl_allV ?_); intro W2 r hbn hlr hr; replace hq := below_look hbn hq; replace hb := hb.trans (hbn.mono hb.size); clear hbn; simp only [Zq]
 refine Zm ?_; refine Zm ?_
 have hrl : w.heap.size <= r := by omega
 have hql := heap_lt hq
 have HRl := Zi hrl
 have hqG : G q = none := HF.out q (by omega)
 have HQ : Hid (¬ Mine (mark G k r) k q) := Zi (by rintro ⟨x, e, -⟩; unfold mark at e; rw [if_neg (by omega), hqG] at e; cases e)
 have HDn := Zi (DDone.marked HX.out HF.out hb hrl (heap_lt hr))
 have HM := Zi (mark_same G k r)
 have HNM := Zi (mark_not G k r)
 have hvv := HDn.out.va HV.out
 clear HV
 have HV := Zi hvv
 clear hvv HX HF hb hrl hql hqG
 obtain ⟨trv, A2v, l2v, c2v, A3v, l3v, c3v, hrv⟩ := HV.out.row
 have HRV := Zi hrv
 clear hrv
 obtain ⟨bb, hbb⟩ : ∃ b, b = ofV h.obs.length h.bus.length v := ⟨_, rfl⟩
 have hc := dof_done HDn.out.heap HV.out
 rw [<- hbb] at hc
 have HC := Zi hc
 have HB := Zi hbb
 clear hc hbb
 cases bb with
 | false =>
  have HD : Hid (loadP h v = (h, va0, false, 4)) := Zi (by unfold loadP; rw [if_neg (fun c => by have := c.2; rw [<- HB.out] at this; cases this)])
  go_upto_region 1 with fail
  apply Zl
  refine Zm ?_
  refine Zw rfl (row35 hq hvs) ?_
  refine Zn HC.out ?_; rintro e w7 ⟨rfl, hb7⟩; refine ⟨_, rfl, ?_⟩; simp only [Zq]
  replace HDn := Zi (HDn.out.quiet hb7); replace HV := Zi (HV.out.old hb7); replace hq := below_look hb7 hq; replace hr := below_look hb7 hr; clear hb7
  iterate 2 refine Zm ?_
  iterate 3 ((first | ((with_reducible refine wl_skipU ?_ ?_ ?_); exact rfl; exact rfl) | ((with_reducible refine wl_skip ?_ ?_); exact rfl; simp only [Zq])))
  refine Zm ?_
  clear HC
  go_upto_region 2 with fail
  apply Zl
  refine wl_w rfl (build35 _ _ rfl _) ?_
  simp only [Zq]
  (with_reducible refine wl_putV rfl zone hzs rfl rfl hr ?_); rw [put_noneA]; intro W10 hbx hsz hkx hnx
  replace HDn := Zi (HDn.out.put HM.out HRl.out (Keep.of_put hbx hsz hkx))
  clear hr hbx hsz hkx
  have hr := hnx
  clear hnx
  iterate 2 refine Zm ?_
  go_wp2_with fail
  refine bodyPost_ret (res35tt rfl _ _ r rfl rfl rfl rfl hr) rfl ?_
  rw [HD.out]
  exact ⟨_, zrow, rfl, zero_va _ _, HDn.out⟩
 | true =>
  by_cases h7 : v.kind = 11
  ·have e7 : (v.kind != 11) = false := by simp [h7]
   go_upto_region 1 with fail
   apply Zl
   refine Zm ?_
   refine Zw rfl (row35 hq hvs) ?_
   refine Zn HC.out ?_; rintro e w7 ⟨rfl, hb7⟩; refine ⟨_, rfl, ?_⟩; simp only [Zq]
   replace HDn := Zi (HDn.out.quiet hb7); replace HV := Zi (HV.out.old hb7); replace hq := below_look hb7 hq; replace hr := below_look hb7 hr; clear hb7
   iterate 3 refine Zm ?_
   refine Zo rfl (vk (by assumption) (by assumption)) ?_
   iterate 2 refine Zm ?_
   clear HC HRV
   have h1 : 0 <= v.num /\ v.num < (h.obs.length : Int) := by
    have := HB.out
    rw [ofV_eq, if_pos (by omega)] at this
    exact of_decide_eq_true this.symm
   obtain ⟨n, hn⟩ : ∃ n : Nat, v.num = (n : Int) := ⟨v.num.toNat, by omega⟩
   have hnl : n < h.obs.length := by omega
   have hnlI : (n : Int) < (h.obs.length : Int) := by omega
   have ho := List.getElem?_eq_getElem hnl
   obtain ⟨o, hoe⟩ : ∃ o, o = h.obs[n] := ⟨_, rfl⟩
   rw [<- hoe] at ho
   obtain ⟨dA, dc, oA, oc, bA, bc, lA, lc, rA, rc, hh⟩ := HDn.out.heap
   obtain ⟨g, rows, rfl, hR⟩ := hh.obs.rows ho
   obtain ⟨tr0, fA, fc, hL, -, -⟩ := hR.loads ho
   have HL := Zi hL
   have HOO := Zi ho
   have HH := Zi hh
   have HN := Zi hn
   have hp := hh.blk
   obtain ⟨trv, A2v, l2v, c2v, A3v, l3v, c3v, hrv⟩ := HV.out.row
   have HRV := Zi hrv
   clear hL hR hoe ho hh h1 hrv
   have HD : Hid (loadP h v = if o.state = 1 then ({ h with obs := h.obs.set n (addC 1 o) }, .node 7 (n : Int) ⟨#[]⟩ zeroTy [] [], true, 0) else (h, va0, false, 0)) := Zi (by unfold loadP; rw [if_pos ⟨h7, HB.out.symm⟩, HN.out, Int.toNat_natCast, HOO.out])
   clear h7
   go_upto_region 3 with fail
   refine wp_region_belowAll mixed (by kernel_rfl) ?_
   iterate 3 refine Zt ?_
   refine Zv rfl (fun w' hw' => dh1 (below_look hw' (by assumption))) ?_
   refine Zt ?_
   refine Zv rfl (fun w' hw' => vnN (below_look hw' (by assumption)) (by assumption) (by assumption)) ?_
   iterate 2 refine Zt ?_
   refine Zv rfl (fun w' hw' => (HL.out w' hw').s) ?_
   refine Zt ?_
   intro w9 hb9
   have HL9 := Zi (fun w' hw => HL.out w' (hb9.trans (Below.mono hw hb9.size)))
   replace HDn := Zi (HDn.out.quiet hb9); replace HV := Zi (HV.out.old hb9); replace HH := Zi (HH.out.old hb9); replace hp := below_look hb9 hp; replace hq := below_look hb9 hq; replace hr := below_look hb9 hr; clear hb9 HL
   have HL := HL9
   clear HL9
   by_cases h3 : ¬ o.state = 1
   ·have e3 : (o.state != 1) = true := by simp [h3]
    rw [if_neg h3] at HD
    clear h3 HL HH hp
    go_upto_region 4 with fail
    apply Zl
    refine wl_w rfl (build35 _ _ rfl _) ?_
    simp only [Zq]
    (with_reducible refine wl_putV rfl zone hzs rfl rfl hr ?_); rw [put_noneA]; intro W10 hbx hsz hkx hnx
    replace HDn := Zi (HDn.out.put HM.out HRl.out (Keep.of_put hbx hsz hkx))
    clear hr hbx hsz hkx
    have hr := hnx
    clear hnx
    iterate 2 refine Zm ?_
    go_wp2_with fail
    refine bodyPost_ret (res35tt rfl _ _ r rfl rfl rfl rfl hr) rfl ?_
    rw [HD.out]
    exact ⟨_, zrow, rfl, zero_va _ _, HDn.out⟩
   ·have e3 : (o.state != 1) = false := by simp [Classical.not_not.1 h3]
    rw [if_pos (Classical.not_not.1 h3)] at HD
    clear h3
    go_upto_region 5 with fail
    refine wp_region_below 18 mixed (by kernel_rfl) ?_; simp only [List.take_succ_cons, List.take_zero, List.drop_succ_cons, List.drop_zero]
    iterate 3 refine Zt ?_
    refine Zv rfl (fun w' hw' => dh1 (below_look hw' (by assumption))) ?_
    refine Zt ?_
    refine Zv rfl (fun w' hw' => vnN (below_look hw' (by assumption)) (by assumption) (by assumption)) ?_
    iterate 3 refine Zt ?_
    refine Zv rfl (fun w' hw' => dh1 (below_look hw' (by assumption))) ?_
    refine Zt ?_
    refine Zv rfl (fun w' hw' => vnN (below_look hw' (by assumption)) (by assumption) (by assumption)) ?_
    iterate 2 refine Zt ?_
    refine Zv rfl (fun w' hw' => (HL.out w' hw').c) ?_
    iterate 3 refine Zt ?_
    intro w10 hb10
    have HL9 := Zi (fun w' hw => HL.out w' (hb10.trans (Below.mono hw hb10.size)))
    replace HDn := Zi (HDn.out.quiet hb10); replace HV := Zi (HV.out.old hb10); replace HH := Zi (HH.out.old hb10); replace hp := below_look hb10 hp; replace hq := below_look hb10 hq; replace hr := below_look hb10 hr; clear hb10 HL
    have HL := HL9
    clear HL9
    clear hp HL
    obtain ⟨hs1, hs2, hrl, hset⟩ := HH.out.stO HOO.out 5 (by omega)
    have HS := Zi (hset (w64 (o.count + 1)) (addC 1 o) rfl rfl (by simp [addC]))
    have HRL := Zi hrl
    clear hset hrl
    refine wl_storeC rfl 3 _ _ rfl g _ (.int .i64 (w64 (o.count + 1))) rfl rfl info3 rfl hs1 hs2 ?_
    rw [put_noneA]
    have hrg := mine_arr HM.out HRL.out
    have HDN := Zi (HDn.out.num HRL.out HS.out)
    replace hr := (heap_setCell_other w10 ⟨g, n * 8 + 5, none⟩ r (.int .i64 (w64 (o.count + 1))) hrg).trans hr
    have hqg : q ≠ g := fun e => HQ.out ⟨.arr, by rw [e]; exact HRL.out, by simp⟩
    replace hq := (heap_setCell_other w10 ⟨g, n * 8 + 5, none⟩ q (.int .i64 (w64 (o.count + 1))) hqg).trans hq
    have hnw := wf_num HV.out
    rw [HN.out] at hnw
    clear HDn HS hs1 hs2 HH
    obtain ⟨W12, hW⟩ : ∃ W, W = w10.setCell ⟨g, n * 8 + 5, none⟩ (.int .i64 (w64 (o.count + 1))) := ⟨_, rfl⟩
    rw [<- hW] at HDN hq hr ⊢
    clear hW
    go_upto_region 6 with fail
    apply Zl
    refine Zm ?_
    refine Zo rfl (vnN hq HRV HN) ?_
    refine wl_w rfl (ex_build35n _ _ rfl rfl rfl) ?_
    simp only [Zq]
    have HV11 := Zi (nrow_at W12 (Imm (mark G k r)) (k := 7) (n := (n : Int)) (by rfl) hnw)
    (with_reducible refine wl_putV rfl HV11.out.one hzs rfl rfl hr ?_); rw [put_noneA]; intro W13 hbx hsz hkx hnx
    have HK12 := Zi (Keep.of_put hbx hsz hkx)
    clear hbx hsz hkx hr
    iterate 2 refine Zm ?_
    go_wp2_with fail
    refine bodyPost_ret (res35tt rfl _ _ r rfl rfl rfl rfl hnx) rfl ?_
    rw [HD.out]
    exact ⟨_, _, rfl, HV11.out.put HM.out HK12.out, HDN.out.put HM.out HRl.out HK12.out⟩
  ·have e7 : (v.kind != 11) = true := by simp [h7]
   have HD : Hid (loadP h v = (h, va0, false, 4)) := Zi (by unfold loadP; rw [if_neg (fun c => h7 c.1)])
   clear h7
   go_upto_region 1 with fail
   apply Zl
   refine Zm ?_
   refine Zw rfl (row35 hq hvs) ?_
   refine Zn HC.out ?_; rintro e w7 ⟨rfl, hb7⟩; refine ⟨_, rfl, ?_⟩; simp only [Zq]
   replace HDn := Zi (HDn.out.quiet hb7); replace HV := Zi (HV.out.old hb7); replace hq := below_look hb7 hq; replace hr := below_look hb7 hr; clear hb7
   iterate 3 refine Zm ?_
   refine Zo rfl (vk (by assumption) (by assumption)) ?_
   iterate 2 refine Zm ?_
   clear HC
   go_upto_region 2 with fail
   apply Zl
   refine wl_w rfl (build35 _ _ rfl _) ?_
   simp only [Zq]
   (with_reducible refine wl_putV rfl zone hzs rfl rfl hr ?_); rw [put_noneA]; intro W10 hbx hsz hkx hnx
   replace HDn := Zi (HDn.out.put HM.out HRl.out (Keep.of_put hbx hsz hkx))
   clear hr hbx hsz hkx
   have hr := hnx
   clear hnx
   iterate 2 refine Zm ?_
   go_wp2_with fail
   refine bodyPost_ret (res35tt rfl _ _ r rfl rfl rfl rfl hr) rfl ?_
   rw [HD.out]
   exact ⟨_, zrow, rfl, zero_va _ _, HDn.out⟩
def fieldP (h : Hp) (x f : Int) : Hp × Va × Int := if placeE h x f = 0 then (match h.obs[x.toNat]? with | some o => (match o.fields[f.toNat]? with | some v => (h, v, 0) | none => (h, va0, 1)) | none => (h, va0, 1)) else (h, va0, placeE h x f)
theorem Field_any {G : Gh} {k p : Nat} {h : Hp} {w : World} (hh : HeapAt w G k p h) (hf : Fr w G) (x f : Int) (hx : (Lit.int .i64 x).wf = true) (hfw : (Lit.int .i64 f).wf = true) :
  Calls Try.prog 27 #[.pointer (some ⟨p, 0, none⟩), .int .i64 x, .int .i64 f] w (ValErr w G k p (fieldP h x f)) := by
 have HWF := Zi (And.intro hx hfw)
 have HX := Zi hh
 have HF := Zi hf
 have hzs : zrow.size = 9 := rfl
 have zone : zrow.all (·.oneCell') = true := (zero_va w (Imm G)).one
 have hb := Below.refl w.heap.size w
 clear hx hfw hh hf
 go_enter Try.func27, Try.ntmps27
 go_upto_region 0 with fail
 apply Zl
 (with_reducible refine wl_allV ?_); intro W2 r hbn hlr hr; replace hb := hb.trans (hbn.mono hb.size); clear hbn; simp only [Zq]
 refine Zm ?_
 have HRl := Zi hlr
 have HDn := Zi (Done.marked HX.out HF.out hb hlr (heap_lt hr))
 have HM := Zi (mark_same G k r)
 clear HX HF hb
 go_upto_region 1 with fail
 apply Zl
 iterate 2 refine Zm ?_
 obtain ⟨pe, hpe⟩ : ∃ z, z = placeE h x f := ⟨_, rfl⟩
 have hc := place_done HDn.out.heap x f HWF.out.1 HWF.out.2
 rw [<- hpe] at hc
 have HC := Zi hc
 have HPE := Zi hpe
 clear hc hpe
 go_upto_region 3 with fail
 apply Zl
 iterate 3 refine Zm ?_
 refine Zn HC.out ?_; rintro e w8 ⟨rfl, hb8⟩; refine ⟨_, rfl, ?_⟩; simp only [Zq]
 replace HDn := Zi (HDn.out.quiet hb8)
 replace hr := below_look hb8 hr
 clear hb8
 refine Zm ?_
 clear HC
 go_upto_region 4 with fail
 by_cases c0 : pe = 0
 ·subst c0
  obtain ⟨n, j, o, old, rfl, rfl, ho, hold, -⟩ := place0 HPE.out.symm
  have HD : Hid (fieldP h (n : Int) (j : Int) = (h, old, 0)) := Zi (by unfold fieldP; rw [<- HPE.out]; simp [ho, hold])
  apply Zl
  iterate 2 refine Zm ?_
  have hjl := (List.getElem?_eq_some_iff.1 hold).1
  have hnl := (List.getElem?_eq_some_iff.1 ho).1
  have hnlI : (n : Int) < (h.obs.length : Int) := by omega
  have hjlI : (j : Int) < (o.fields.length : Int) := by omega
  obtain ⟨oA, oc, bA, bc, m, lA, lc, hh⟩ := HDn.out.heap
  obtain ⟨g, tr0, fA, fc, rfl, hgr, hL, -, hLV, -⟩ := hh.obj ho
  obtain ⟨fb, old', rowo, rfl, hfb, hold', hova, hrow⟩ := hLV.at hjl
  rw [hold] at hold'; cases hold'
  have HL := Zi (hL w8 (Below.refl _ _))
  have HRO := Zi (hrow w8 (Below.refl _ _))
  have HOV := Zi hova
  have hos := hova.size
  have ho1 := hova.one
  have hp := hh.blk
  clear hL hLV hfb hrow hova hh ho hold
  go_upto_region 6 with fail
  apply Zl
  iterate 3 refine Zm ?_
  refine Zo rfl (h0 hp) ?_
  iterate 3 refine Zm ?_
  refine Zo rfl (HL.out.f) ?_
  iterate 2 refine Zm ?_
  refine Zw rfl (HRO.out) ?_
  (with_reducible refine wl_putV hos ho1 hzs rfl rfl hr ?_); rw [put_noneA]; intro W13 hbx hsz hkx hnx
  have HK12 := Zi (Keep.of_put hbx hsz hkx)
  clear hbx hsz hkx hr
  refine Zm ?_
  go_wp2_with fail
  refine bodyPost_ret (res35t rfl _ _ r rfl rfl hos hnx) rfl ?_
  rw [HD.out]
  exact ⟨_, _, rfl, HOV.out.put HM.out HK12.out, HDn.out.put HM.out HRl.out HK12.out⟩
 ·have HD : Hid (fieldP h x f = (h, va0, pe)) := Zi (by unfold fieldP; rw [<- HPE.out, if_neg c0])
  have h0b : (pe != 0) = true := by simp [c0]
  apply Zl
  iterate 2 refine Zm ?_
  clear c0
  go_upto_region 5 with fail
  apply Zl
  refine wl_w rfl (build35 _ _ rfl _) ?_
  simp only [Zq]
  refine Zm ?_
  (with_reducible refine wl_putV rfl zone hzs rfl rfl hr ?_); rw [put_noneA]; intro W10 hbx hsz hkx hnx
  replace HDn := Zi (HDn.out.put HM.out HRl.out (Keep.of_put hbx hsz hkx))
  clear hr hbx hsz hkx
  have hr := hnx
  clear hnx
  refine Zm ?_
  go_wp2_with fail
  refine bodyPost_ret (res35t rfl _ _ r rfl rfl rfl hr) rfl ?_
  rw [HD.out]
  exact ⟨_, zrow, rfl, zero_va _ _, HDn.out⟩
section
variable {w w' : World} {G G' : Gh} {k p nr : Nat} {h : Hp} {dA : Option Addr} {dc : Nat} {oA : Option Addr} {oc : Nat} {bA : Option Addr} {bc : Nat} {lA : Option Addr} {lc : Nat} {rA : Option Addr} {rc : Nat}
theorem DAt.setF (hh : DAt w G k p h nr dA dc oA oc bA bc lA lc rA rc) {i : Nat} {o o' : Ob} (hi : h.obs[i]? = some o) {f fc : Nat} {cs : Array Value} {l : List Va} {g : Nat} (hA : oA = some ⟨g, 0, none⟩) (hO : ∀ row tr fA fc', ObAt w G k i o row tr fA fc' -> (∃ rows, ObsR w G k h.obs g oc rows /\ rows[i]? = some row) -> fA = some ⟨f, 0, none⟩ /\ fc' = fc) (hf : G f = some (k, .fld i)) (hl : l.length = o.fields.length) (ho' : o' = { o with fields := l }) (hL : ListV (w.setRow f cs) G (k, .fld i) l (some ⟨f, 0, none⟩) fc) :
  DAt (w.setRow f cs) G k p { h with obs := h.obs.set i o' } nr dA dc oA oc bA bc lA lc rA rc := by
 have hk := Keep.rowOne w f cs
 have hne : ∀ b r, G b = some (k, r) -> r ≠ .fld i -> b ≠ f := fun b r e hr e2 => by rw [e2, hf] at e; cases e; exact hr rfl
 have hno : ∀ b, G b = none -> b ≠ f := fun b e e2 => by rw [e2, hf] at e; cases e
 subst hA
 obtain ⟨g', rows, e, hR⟩ := hh.obs.rows hi
 cases e
 obtain ⟨row, tr, fA, fc', hr, hx⟩ := hR.get hi
 obtain ⟨rfl, rfl⟩ := hO row tr fA fc' hx ⟨rows, hR, hr⟩
 have hrow : rows.set i row = rows := by
  apply List.ext_getElem?
  intro j
  by_cases e : i = j
  ·subst e; rw [List.getElem?_set_self (List.getElem?_eq_some_iff.1 hr).1, hr]
  ·rw [List.getElem?_set_ne e]
 refine hh.obsC (by simp) (fun b hb e => hk.block b hb fun e2 => ?_) (fun b hb e => hk.block b hb (hno b e)) ?_
 ·obtain ⟨r, e3, -, e5⟩ := e
  exact hne b r e3 (e5 i) e2
 ·refine hR.upd hi (row' := row) (tr' := tr) (fA' := some ⟨f, 0, none⟩) (fc' := fc') (fun j b hj hb e => hk.block b hb (hne b _ e (by simp [hj]))) (fun b hb e => hk.block b hb (hno b e)) (by rw [hrow]; exact hR.own.same fun b e hb => by cases e; exact hk.block g hb (hne g _ hR.role (by simp))) ?_
  subst ho'
  exact ⟨by rw [hx.eq]; show cell8 _ _ _ _ _ _ _ = cell8 _ _ _ _ _ l.length _; rw [hl], hx.ty.keep hk (fun b hb e => hno b hb e), hL⟩
theorem DAt.setE (hh : DAt w G k p h nr dA dc oA oc bA bc lA lc rA rc) {i : Nat} {o o' : Bu} (hi : h.bus[i]? = some o) {f fc : Nat} {cs : Array Value} {l : List Va} {g : Nat} (hA : bA = some ⟨g, 0, none⟩) (hO : ∀ row fA fc', BuAt w G k i o row fA fc' -> (∃ rows, BusR w G k h.bus g bc rows /\ rows[i]? = some row) -> fA = some ⟨f, 0, none⟩ /\ fc' = fc) (hf : G f = some (k, .elm i)) (hl : l.length = o.elems.length) (ho' : o' = { o with elems := l }) (hL : ListV (w.setRow f cs) G (k, .elm i) l (some ⟨f, 0, none⟩) fc) :
  DAt (w.setRow f cs) G k p { h with bus := h.bus.set i o' } nr dA dc oA oc bA bc lA lc rA rc := by
 have hk := Keep.rowOne w f cs
 have hne : ∀ b r, G b = some (k, r) -> r ≠ .elm i -> b ≠ f := fun b r e hr e2 => by rw [e2, hf] at e; cases e; exact hr rfl
 have hno : ∀ b, G b = none -> b ≠ f := fun b e e2 => by rw [e2, hf] at e; cases e
 subst hA
 obtain ⟨g', rows, e, hR⟩ := hh.bus.rows hi
 cases e
 obtain ⟨row, fA, fc', hr, hx⟩ := hR.get hi
 obtain ⟨rfl, rfl⟩ := hO row fA fc' hx ⟨rows, hR, hr⟩
 have hrow : rows.set i row = rows := by
  apply List.ext_getElem?
  intro j
  by_cases e : i = j
  ·subst e; rw [List.getElem?_set_self (List.getElem?_eq_some_iff.1 hr).1, hr]
  ·rw [List.getElem?_set_ne e]
 refine hh.busC (by simp) (fun b hb e => hk.block b hb fun e2 => ?_) (fun b hb e => hk.block b hb (hno b e)) ?_
 ·obtain ⟨r, e3, -, e5⟩ := e
  exact hne b r e3 (e5 i) e2
 ·refine hR.upd hi (row' := row) (eA' := some ⟨f, 0, none⟩) (ec' := fc') (fun j b hj hb e => hk.block b hb (hne b _ e (by simp [hj]))) (fun b hb e => hk.block b hb (hno b e)) (by rw [hrow]; exact hR.own.same fun b e hb => by cases e; exact hk.block g hb (hne g _ hR.role (by simp))) ?_
  subst ho'
  exact ⟨by rw [hx.eq, hl], hL⟩
theorem DAt.obj (hh : DAt w G k p h nr dA dc oA oc bA bc lA lc rA rc) {i : Nat} {o : Ob} (hi : h.obs[i]? = some o) : ∃ g tr fA fc, oA = some ⟨g, 0, none⟩ /\ G g = some (k, .arr) /\ (∀ w', Below w.heap.size w w' -> ObL w' g i o tr fA fc) /\ TyAt w (Imm G) o.t tr /\ ListV w G (k, .fld i) o.fields fA fc /\ ∀ row tr' fA' fc', ObAt w G k i o row tr' fA' fc' -> (∃ rows, ObsR w G k h.obs g oc rows /\ rows[i]? = some row) -> fA' = fA /\ fc' = fc := by
 obtain ⟨g, rows, e, hR⟩ := hh.obs.rows hi
 obtain ⟨row, tr, fA, fc, hr, hx⟩ := hR.get hi
 refine ⟨g, tr, fA, fc, e, hR.role, fun w' hb => (hR.own.old hb).loads hr (hx.same (fun b hl _ => hb.block b hl) fun b hl _ => hb.block b hl), hx.ty, hx.fld, ?_⟩
 rintro row' tr' fA' fc' hx' ⟨rows', hR', hr'⟩
 obtain ⟨cur, hg, hs, hf, hc, -⟩ := hR.own.at hr
 obtain ⟨cur', hg', hs', hf', hc', -⟩ := hR'.own.at hr'
 rw [hg] at hg'; cases hg'
 have e2 : row' = row := hc'.symm.trans hc
 have h7 := (cell8_at hx.size o.state o.count o.weak fA o.fields.length fc).2.2.2.2
 have h7' := (cell8_at hx'.size o.state o.count o.weak fA' o.fields.length fc').2.2.2.2
 rw [<- hx.eq] at h7
 rw [<- hx'.eq, e2, h7] at h7'
 cases h7'
 exact ⟨rfl, rfl⟩
theorem DAt.buf (hh : DAt w G k p h nr dA dc oA oc bA bc lA lc rA rc) {i : Nat} {o : Bu} (hi : h.bus[i]? = some o) : ∃ g fA fc, bA = some ⟨g, 0, none⟩ /\ G g = some (k, .bar) /\ (∀ w', Below w.heap.size w w' -> BuL w' g i o fA fc) /\ ListV w G (k, .elm i) o.elems fA fc /\ ∀ row fA' fc', BuAt w G k i o row fA' fc' -> (∃ rows, BusR w G k h.bus g bc rows /\ rows[i]? = some row) -> fA' = fA /\ fc' = fc := by
 obtain ⟨g, rows, e, hR⟩ := hh.bus.rows hi
 obtain ⟨row, fA, fc, hr, hx⟩ := hR.get hi
 refine ⟨g, fA, fc, e, hR.role, fun w' hb => (hR.own.old hb).loadsB hr (hx.same (fun b hl _ => hb.block b hl) fun b hl _ => hb.block b hl), hx.elm, ?_⟩
 rintro row' fA' fc' hx' ⟨rows', hR', hr'⟩
 obtain ⟨cur, hg, hs, hf, hc, -⟩ := hR.own.at hr
 obtain ⟨cur', hg', hs', hf', hc', -⟩ := hR'.own.at hr'
 rw [hg] at hg'; cases hg'
 have e2 : row' = row := hc'.symm.trans hc
 have h7 := hx'.eq
 rw [e2, hx.eq] at h7
 cases h7
 exact ⟨rfl, rfl⟩
end
theorem dplace_done {w : World} {G : Gh} {k p nr : Nat} {h : Hp} (hh : DHeapAt w G k p h nr) (o f : Int) (ho : (Lit.int .i64 o).wf = true) (hf : (Lit.int .i64 f).wf = true) : Calls Try.prog 90 #[.pointer (some ⟨p, 0, none⟩), .int .i64 o, .int .i64 f] w fun e w' => e = .returned (.int .i64 (placeE h o f)) /\ Below w.heap.size w w' := by
 obtain ⟨dA, dc, oA, oc, bA, bc, lA, lc, rA, rc, hh⟩ := hh
 exact dplace_any hh o f ho hf
theorem dField_any {G : Gh} {k p nr : Nat} {h : Hp} {w : World} (hh : DHeapAt w G k p h nr) (hf : Fr w G) (hN : ∀ o, o ∈ h.obs -> ∀ u, u ∈ o.fields -> nodesF u <= 1000000) (x f : Int) (hx : (Lit.int .i64 x).wf = true) (hfw : (Lit.int .i64 f).wf = true) :
  Calls Try.prog 50 #[.pointer (some ⟨p, 0, none⟩), .int .i64 x, .int .i64 f] w (DValErr w G k p nr (fieldP h x f)) := by
 have HWF := Zi (And.intro hx hfw)
 have HX := Zi hh
 have HF := Zi hf
 have HN := Zi hN
 have hzs : zrow.size = 9 := rfl
 have zone : zrow.all (·.oneCell') = true := (zero_va w (Imm G)).one
 have hb := Below.refl w.heap.size w
 clear hx hfw hh hf hN
 go_enter Try.func50, Try.ntmps50
 go_upto_region 0 with fail
 apply Zl
 (with_reducible refine wl_allV ?_); intro W2 r hbn hlr hr; replace hb := hb.trans (hbn.mono hb.size); clear hbn; simp only [Zq]
 refine Zm ?_
 have HRl := Zi hlr
 have HDn := Zi (DDone.marked HX.out HF.out hb hlr (heap_lt hr))
 have HM := Zi (mark_same G k r)
 clear HX HF hb
 obtain ⟨pe, hpe⟩ : ∃ z, z = placeE h x f := ⟨_, rfl⟩
 have hc := dplace_done HDn.out.heap x f HWF.out.1 HWF.out.2
 rw [<- hpe] at hc
 have HC := Zi hc
 have HPE := Zi hpe
 clear hc hpe
 go_upto_region 1 with fail
 apply Zl
 iterate 3 refine Zm ?_
 refine Zn HC.out ?_; rintro e w8 ⟨rfl, hb8⟩; refine ⟨_, rfl, ?_⟩; simp only [Zq]
 replace HDn := Zi (HDn.out.quiet hb8)
 replace hr := below_look hb8 hr
 clear hb8
 refine Zm ?_
 clear HC
 by_cases c0 : pe = 0
 ·subst c0
  obtain ⟨n, j, o, old, rfl, rfl, ho, hold, -⟩ := place0 HPE.out.symm
  have HD : Hid (fieldP h (n : Int) (j : Int) = (h, old, 0)) := Zi (by unfold fieldP; rw [<- HPE.out]; simp [ho, hold])
  have hjl := (List.getElem?_eq_some_iff.1 hold).1
  have hnl := (List.getElem?_eq_some_iff.1 ho).1
  have hnlI : (n : Int) < (h.obs.length : Int) := by omega
  have hjlI : (j : Int) < (o.fields.length : Int) := by omega
  have hnd := HN.out o (List.mem_of_getElem? ho) old (List.mem_of_getElem? hold)
  obtain ⟨dA, dc, oA, oc, bA, bc, lA, lc, rA, rc, hh⟩ := HDn.out.heap
  obtain ⟨g, tr0, fA, fc, rfl, hgr, hL, -, hLV, -⟩ := hh.obj ho
  obtain ⟨fb, old', rowo, rfl, hfb, hold', hova, hrow⟩ := hLV.at hjl
  rw [hold] at hold'; cases hold'
  have HL := Zi (hL w8 (Below.refl _ _))
  have HRO := Zi (hrow w8 (Below.refl _ _))
  have HC := Zi (CopyValue_any old hnd w8 _ _ hova)
  have hp := hh.blk
  clear hL hLV hfb hrow hova hh ho hold hnd
  go_upto_region 4 with fail
  apply Zl
  iterate 3 refine Zm ?_
  refine Zo rfl (dh1 hp) ?_
  iterate 3 refine Zm ?_
  refine Zo rfl (HL.out.f) ?_
  iterate 2 refine Zm ?_
  refine Zw rfl (HRO.out) ?_
  refine Zn HC.out ?_; rintro e w9 ⟨row9, rfl, hv9, hb9⟩; refine ⟨_, rfl, ?_⟩; simp only [Zq]
  have hvs9 := hv9.size
  have hv19 := hv9.one
  have HOV := Zi (HDn.out.newva hv9)
  replace HDn := Zi (HDn.out.quiet hb9)
  replace hr := below_look hb9 hr
  clear hb9 hv9
  (with_reducible refine wl_putV hvs9 hv19 hzs rfl rfl hr ?_); rw [put_noneA]; intro W13 hbx hsz hkx hnx
  have HK12 := Zi (Keep.of_put hbx hsz hkx)
  clear hbx hsz hkx hr
  refine Zm ?_
  go_wp2_with fail
  refine bodyPost_ret (res35t rfl _ _ r rfl rfl hvs9 hnx) rfl ?_
  rw [HD.out]
  exact ⟨_, _, rfl, HOV.out.put HM.out HK12.out, HDn.out.put HM.out HRl.out HK12.out⟩
 ·have HD : Hid (fieldP h x f = (h, va0, pe)) := Zi (by unfold fieldP; rw [<- HPE.out, if_neg c0])
  have h0b : (pe != 0) = true := by simp [c0]
  clear c0
  go_upto_region 3 with fail
  apply Zl
  refine wl_w rfl (build35 _ _ rfl _) ?_
  simp only [Zq]
  refine Zm ?_
  (with_reducible refine wl_putV rfl zone hzs rfl rfl hr ?_); rw [put_noneA]; intro W10 hbx hsz hkx hnx
  replace HDn := Zi (HDn.out.put HM.out HRl.out (Keep.of_put hbx hsz hkx))
  clear hr hbx hsz hkx
  have hr := hnx
  clear hnx
  refine Zm ?_
  go_wp2_with fail
  refine bodyPost_ret (res35t rfl _ _ r rfl rfl rfl hr) rfl ?_
  rw [HD.out]
  exact ⟨_, zrow, rfl, zero_va _ _, HDn.out⟩
open Go.RowKit Go.Proofs.Ytpamocglecangaa.Nm
set_option linter.unusedSimpArgs false
theorem alone_done {w : World} {G : Gh} {k p : Nat} {h : Hp} (hh : HeapAt w G k p h) {v x : Va} {D : Nat -> Prop} {row rowx : Array Value} (hv : VAt w D v row) (hx : VAt w D x rowx) :
  Calls Try.prog 79 #[.pointer (some ⟨p, 0, none⟩), .agg row, .agg rowx] w fun e w' => e = .returned (.int .i64 (aloneE h v x)) /\ Below w.heap.size w w' := by
 obtain ⟨oA, oc, bA, bc, m, lA, lc, hh⟩ := hh
 exact alone_any hh hv hx
theorem alone0 {h : Hp} {v x : Va} (h0 : aloneE h v x = 0) : ∃ (n : Nat) (b : Bu), v.num = (n : Int) /\ h.bus[n]? = some b /\ ofV h.obs.length h.bus.length x = true := by
 unfold aloneE at h0
 split at h0
 ·rename_i c
  rw [Bool.and_eq_true] at c
  obtain ⟨n, b, -, hn, -, hb⟩ := arrV.get c.1
  exact ⟨n, b, hn, hb, c.2⟩
 ·cases h0
def putP (h : Hp) (v : Va) (f : Int) (x : Va) : Hp × Va × Int := if aloneE h v x = 0 then (match h.bus[v.num.toNat]? with | some b => if 0 <= f /\ f < (b.elems.length : Int) then (match b.elems[f.toNat]? with | some old => ({ h with bus := h.bus.set v.num.toNat { b with elems := b.elems.set f.toNat x } }, old, 0) | none => (h, va0, 1)) else (h, va0, 1) | none => (h, va0, 1)) else (h, va0, aloneE h v x)
theorem Put_any {G : Gh} {k p : Nat} {h : Hp} {w : World} (hh : HeapAt w G k p h) (hf : Fr w G) (f : Int) {v x : Va} {row rowx : Array Value} (hv : VAt w (Imm G) v row) (hx : VAt w (Imm G) x rowx) :
  Calls Try.prog 33 #[.pointer (some ⟨p, 0, none⟩), .agg row, .int .i64 f, .agg rowx] w (ValErr w G k p (putP h v f x)) := by
 have HX := Zi hh
 have HF := Zi hf
 have HV := Zi hv
 have HW := Zi hx
 have hvs := hv.size
 have hv1 := hv.one
 have hxs := hx.size
 have hx1 := hx.one
 have hzs : zrow.size = 9 := rfl
 have zone : zrow.all (·.oneCell') = true := (zero_va w (Imm G)).one
 have hb := Below.refl w.heap.size w
 clear hh hf hv hx
 go_enter Try.func33, Try.ntmps33
 go_upto_region 0 with fail
 apply Zl
 (with_reducible refine wl_boxV rfl ?_); intro W q hbn hlq hq; replace hb := hb.trans (hbn.mono hb.size); clear hbn; simp only [Zq]
 have lthqq2 := heap_lt hq; (with_reducible refine wl_boxV rfl ?_); intro W1 q2 hbn hlq2 hq2; replace hq := below_look hbn hq; replace hb := hb.trans (hbn.mono hb.size); clear hbn; simp only [Zq]
 have lthqr := heap_lt hq; have lthq2r := heap_lt hq2; (with_reducible refine wl_allV ?_); intro W2 r hbn hlr hr; replace hq := below_look hbn hq; replace hq2 := below_look hbn hq2; replace hb := hb.trans (hbn.mono hb.size); clear hbn; simp only [Zq]
 refine Zm ?_
 have hrl : w.heap.size <= r := by omega
 have HRl := Zi hrl
 have HDn := Zi (Done.marked HX.out HF.out hb hrl (heap_lt hr))
 have HM := Zi (mark_same G k r)
 have hvv := HDn.out.va HV.out
 have hww := HDn.out.va HW.out
 clear HV HW
 have HV := Zi hvv
 have HW := Zi hww
 clear hvv hww HX HF hb hrl
 obtain ⟨pe, hpe⟩ : ∃ z, z = aloneE h v x := ⟨_, rfl⟩
 have hc := alone_done HDn.out.heap HV.out HW.out
 rw [<- hpe] at hc
 have HC := Zi hc
 have HPE := Zi hpe
 clear hc hpe
 go_upto_region 1 with fail
 apply Zl
 refine Zm ?_
 refine Zw rfl (row35 hq hvs) ?_
 refine Zw rfl (row35 hq2 hxs) ?_
 refine Zn HC.out ?_; rintro e w8 ⟨rfl, hb8⟩; refine ⟨_, rfl, ?_⟩; simp only [Zq]
 replace HW := Zi (HW.out.old hb8)
 replace HDn := Zi (HDn.out.quiet hb8); replace HV := Zi (HV.out.old hb8); replace hq := below_look hb8 hq; replace hq2 := below_look hb8 hq2; replace hr := below_look hb8 hr; clear hb8
 refine Zm ?_
 clear HC
 go_upto_region 2 with fail
 by_cases c0 : pe = 0
 ·subst c0
  obtain ⟨n, o, hn, ho, -⟩ := alone0 HPE.out.symm
  have HD : Hid (putP h v f x = (if 0 <= f /\ f < (o.elems.length : Int) then (match o.elems[f.toNat]? with | some old => ({ h with bus := h.bus.set n { o with elems := o.elems.set f.toNat x } }, old, (0 : Int)) | none => (h, va0, (1 : Int))) else (h, va0, (1 : Int)))) := Zi (by unfold putP; rw [<- HPE.out, if_pos rfl, hn, Int.toNat_natCast, ho])
  apply Zl
  iterate 2 refine Zm ?_
  have hnl := (List.getElem?_eq_some_iff.1 ho).1
  have hnlI : (n : Int) < (h.bus.length : Int) := by omega
  obtain ⟨oA, oc, bA, bc, m, lA, lc, hh⟩ := HDn.out.heap
  obtain ⟨g, fA, fc, rfl, hgr, hL, hLV, -⟩ := hh.buf ho
  have HL := Zi hL
  have HOO := Zi ho
  have HH := Zi hh
  have HLV := Zi hLV
  have HN := Zi hn
  have hp := hh.blk
  obtain ⟨trv, A2v, l2v, c2v, A3v, l3v, c3v, hrv⟩ := HV.out.row
  have HRV := Zi hrv
  clear hL hLV hh ho hrv hn
  go_upto_region 4 with fail
  refine wp_region_belowAll mixed (by kernel_rfl) ?_
  iterate 3 refine Zt ?_
  refine Zv rfl (fun w' hw' => h1 (below_look hw' (by assumption))) ?_
  refine Zt ?_
  refine Zv rfl (fun w' hw' => vnN (below_look hw' (by assumption)) (by assumption) (by assumption)) ?_
  iterate 2 refine Zt ?_
  refine Zv rfl (fun w' hw' => (HL.out w' hw').e) ?_
  refine Zt ?_
  intro w9 hb9
  have hf1 := (HL.out w9 hb9).e
  replace HLV := Zi (HLV.out.moved (Keep.of (C := fun _ => False) hb9) (fun b e => e.elim) (fun _ _ => rfl))
  replace HH := Zi (HH.out.old hb9)
  replace HW := Zi (HW.out.old hb9)
  replace HDn := Zi (HDn.out.quiet hb9); replace HV := Zi (HV.out.old hb9); replace hq := below_look hb9 hq; replace hq2 := below_look hb9 hq2; replace hr := below_look hb9 hr; clear hb9
  clear HL hp HRV
  go_upto_region 5 with fail
  by_cases c1 : 0 <= f /\ f < (o.elems.length : Int)
  ·obtain ⟨j, rfl⟩ : ∃ j : Nat, f = (j : Int) := ⟨f.toNat, by omega⟩
   have hjl : j < o.elems.length := by omega
   have hjlI : (j : Int) < (o.elems.length : Int) := by omega
   have c2 : ¬ (j : Int) < 0 := by omega
   have c3 : ¬ (j : Int) ≥ (o.elems.length : Int) := by omega
   obtain ⟨fb, old, rowo, rfl, hfb, hold, hova, hrow⟩ := HLV.out.at hjl
   have HD2 : Hid (putP h v (j : Int) x = ({ h with bus := h.bus.set n { o with elems := o.elems.set j x } }, old, 0)) := Zi (by rw [HD.out, if_pos c1]; simp [hold])
   have HFB := Zi hfb
   have HRO := Zi hrow
   have HOV := Zi hova
   have hos := hova.size
   have ho1 := hova.one
   clear HD c1 hfb hold hova hrow
   apply Zl
   iterate 8 refine Zm ?_
   go_upto_region 7 with fail
   have hzz := Below.refl w9.heap.size w9
   apply Zl
   iterate 3 refine Zm ?_
   refine Zw rfl (HRO.out _ (Below.refl _ _)) ?_
   (with_reducible refine wl_allV ?_); intro W5 q5 hbn hlq5 hq5; replace hzz := hzz.trans (hbn.mono hzz.size); clear hbn; simp only [Zq]
   (with_reducible refine wl_putV hos ho1 rfl rfl rfl hq5 ?_); rw [put_noneA]; intro W6 hbx hsz hkx hnx; replace hzz := hbx _ _ (by omega) hzz; clear hq5; have hq5 := hnx; clear hnx
   clear hbx hkx hsz HRO
   have HQ5 : Hid (¬ Mine (mark G k r) k q5) := Zi (fun hm => by obtain ⟨z, e, -⟩ := hm; rw [HDn.out.fr q5 (by omega)] at e; cases e)
   replace HDn := Zi (HDn.out.quiet hzz)
   replace HV := Zi (HV.out.old hzz)
   replace HW := Zi (HW.out.old hzz)
   replace HOV := Zi (HOV.out.old hzz)
   have hHH := HH.out.old hzz
   have hLV := HLV.out.moved (Keep.of (C := fun _ => False) hzz) (fun b e => e.elim) (fun _ _ => rfl)
   obtain ⟨g2, fA2, fc2, e2, -, hL2, -, hun2⟩ := hHH.buf HOO.out
   cases e2
   obtain ⟨g3, fA3, fc3, e2, -, hL3, -, -⟩ := HH.out.buf HOO.out
   cases e2
   have e3 := one_eq hf1 (hL3 w9 (Below.refl _ _)).e
   cases e3
   have e3 := one_eq (hL3 W6 hzz).e (hL2 W6 (Below.refl _ _)).e
   cases e3
   replace hq2 := below_look hzz hq2; replace hr := below_look hzz hr
   obtain ⟨cur, hcur, hfit, hlp⟩ := hLV.put hjl HW.out
   have hset := hHH.setE (o' := { o with elems := o.elems.set j x }) HOO.out rfl (f := fb) (fc := fc) hun2 HFB.out (by simp) rfl hlp
   have HDN := Zi (HDn.out.row ⟨_, HFB.out, by simp⟩ hset)
   have hk := Keep.rowOne W6 fb (putN cur (j * 9) rowx)
   have hrf : ¬ r = fb := fun e => by have h1 := HFB.out; rw [<- e, HM.out] at h1; cases h1
   have hqf : ¬ q5 = fb := fun e => HQ5.out ⟨.elm n, by rw [e]; exact HFB.out, by simp⟩
   have HOV2 := Zi (HOV.out.keep hk (fun b hb e => by unfold Imm at hb; rw [e, HFB.out] at hb; cases hb))
   have hr2 := hk.look hr hrf
   have hq3 := hk.look hq5 hqf
   clear hset hun2 hL2 hL3 hf1 hk hlp HDn HH HLV HOV hr hq5 HV HW hHH hLV hzz
   go_upto_region 8 with fail
   apply Zl
   iterate 2 refine Zm ?_
   refine Zw rfl (row35 hq2 hxs) ?_
   refine Zm ?_
   refine wl_storeN rfl 35 _ _ rfl info35 rfl rfl hxs hx1 hcur hfit ?_
   rw [put_noneA]
   have hr := hr2
   have hq5 := hq3
   clear hr2 hq2 hq3 hcur hfit hrf hqf hq
   obtain ⟨W12, hW⟩ : ∃ W, W = W6.setRow fb (putN cur (j * 9) rowx) := ⟨_, rfl⟩
   rw [<- hW] at HDN HOV2 hr hq5 ⊢
   clear hW
   go_upto_region 9 with fail
   apply Zl
   refine Zw rfl (row35 hq5 hos) ?_
   (with_reducible refine wl_putV hos ho1 hzs rfl rfl hr ?_); rw [put_noneA]; intro W13 hbx hsz hkx hnx
   have HK12 := Zi (Keep.of_put hbx hsz hkx)
   clear hbx hsz hkx hr
   refine Zm ?_
   go_wp2_with fail
   refine bodyPost_ret (res35t rfl _ _ r rfl rfl hos hnx) rfl ?_
   rw [HD2.out]
   exact ⟨_, _, rfl, HOV2.out.put HM.out HK12.out, HDN.out.put HM.out HRl.out HK12.out⟩
  ·have HD2 : Hid (putP h v f x = (h, va0, 1)) := Zi (by rw [HD.out, if_neg c1])
   clear HD
   by_cases c2 : f < 0
   ·clear c1
    apply Zl
    iterate 3 refine Zm ?_
    iterate 4 ((first | ((with_reducible refine wl_skipU ?_ ?_ ?_); exact rfl; exact rfl) | ((with_reducible refine wl_skip ?_ ?_); exact rfl; simp only [Zq])))
    refine Zm ?_
    go_upto_region 6 with fail
    apply Zl
    refine wl_w rfl (build35 _ _ rfl _) ?_
    simp only [Zq]
    (with_reducible refine wl_putV rfl zone hzs rfl rfl hr ?_); rw [put_noneA]; intro W10 hbx hsz hkx hnx
    replace HDn := Zi (HDn.out.put HM.out HRl.out (Keep.of_put hbx hsz hkx))
    clear hr hbx hsz hkx
    have hr := hnx
    clear hnx
    refine Zm ?_
    go_wp2_with fail
    refine bodyPost_ret (res35t rfl _ _ r rfl rfl rfl hr) rfl ?_
    rw [HD2.out]
    exact ⟨_, zrow, rfl, zero_va _ _, HDn.out⟩
   ·have c3 : f ≥ (o.elems.length : Int) := by omega
    clear c1
    apply Zl
    iterate 8 refine Zm ?_
    go_upto_region 6 with fail
    apply Zl
    refine wl_w rfl (build35 _ _ rfl _) ?_
    simp only [Zq]
    (with_reducible refine wl_putV rfl zone hzs rfl rfl hr ?_); rw [put_noneA]; intro W10 hbx hsz hkx hnx
    replace HDn := Zi (HDn.out.put HM.out HRl.out (Keep.of_put hbx hsz hkx))
    clear hr hbx hsz hkx
    have hr := hnx
    clear hnx
    refine Zm ?_
    go_wp2_with fail
    refine bodyPost_ret (res35t rfl _ _ r rfl rfl rfl hr) rfl ?_
    rw [HD2.out]
    exact ⟨_, zrow, rfl, zero_va _ _, HDn.out⟩
 ·have HD : Hid (putP h v f x = (h, va0, pe)) := Zi (by unfold putP; rw [<- HPE.out, if_neg c0])
  have h0b : (pe != 0) = true := by simp [c0]
  apply Zl
  iterate 2 refine Zm ?_
  clear c0
  go_upto_region 3 with fail
  apply Zl
  refine wl_w rfl (build35 _ _ rfl _) ?_
  simp only [Zq]
  refine Zm ?_
  (with_reducible refine wl_putV rfl zone hzs rfl rfl hr ?_); rw [put_noneA]; intro W10 hbx hsz hkx hnx
  replace HDn := Zi (HDn.out.put HM.out HRl.out (Keep.of_put hbx hsz hkx))
  clear hr hbx hsz hkx
  have hr := hnx
  clear hnx
  refine Zm ?_
  go_wp2_with fail
  refine bodyPost_ret (res35t rfl _ _ r rfl rfl rfl hr) rfl ?_
  rw [HD.out]
  exact ⟨_, zrow, rfl, zero_va _ _, HDn.out⟩
section
variable {w w' : World} {G : Gh} {k p : Nat} {h : Hp} {oA : Option Addr} {oc : Nat} {bA : Option Addr} {bc m : Nat} {lA : Option Addr} {lc : Nat}
theorem HAt.growE {g i : Nat} (hh : HAt w G k p h oA oc (some ⟨g, 0, none⟩) bc m lA lc) {b : Bu} (hi : h.bus[i]? = some b) {fA : Option Addr} {fc : Nat} {rows : List (Array Value)} (hrl : rows.length = b.elems.length) (hra : RoleOf G fA (k, .elm i)) (hrv : ∀ (j : Nat) (v : Va) (row : Array Value), b.elems[j]? = some v -> rows[j]? = some row -> VAt w (Imm G) v row)
  {A' : Option Addr} {c' : Nat} {x : Va} {row : Array Value} (ho : OwnL w' 35 9 A' c' (rows ++ [row])) (hk : Keep (fun b => fA = some ⟨b, 0, none⟩) w w') (hA : A' = fA ∨ ∃ g, A' = some ⟨g, 0, none⟩ /\ w.heap.size <= g) (hx : VAt w (Imm G) x row) :
  HAt (w'.setCell ⟨g, i * 2 + 1, none⟩ (.slice A' (rows.length + 1) c')) (own G A' (k, .elm i)) k p { h with bus := h.bus.set i { b with elems := b.elems ++ [x] } } oA oc (some ⟨g, 0, none⟩) bc m lA lc := by
 obtain ⟨g', rowsB, e, hR⟩ := hh.bus.rows hi
 cases e
 obtain ⟨rowb, fA0, fc0, hrb, hxb⟩ := hR.get hi
 have hG := own_again hra hA
 have hgl := hR.lt
 have hgr : own G A' (k, .elm i) g = some (k, .bar) := (hG g hgl).trans hR.role
 have hk2 := Keep.cellOne w' g (i * 2 + 1) (.slice A' (rows.length + 1) c')
 have hne : ∀ b r, b < w.heap.size -> G b = some (k, r) -> r ≠ .elm i -> w'.heap[b]? = w.heap[b]? := fun b r hb e hr => hk.block b hb fun e2 => by have := hra b e2; rw [e] at this; cases this; exact hr rfl
 have hno : ∀ b, b < w.heap.size -> G b = none -> w'.heap[b]? = w.heap[b]? := fun b hb e => hk.block b hb fun e2 => by have := hra b e2; rw [e] at this; cases this
 have hs : ∀ b r, b < w.heap.size -> own G A' (k, .elm i) b = some (k, r) -> r ≠ .elm i -> r ≠ .bar -> (w'.setCell ⟨g, i * 2 + 1, none⟩ (.slice A' (rows.length + 1) c')).heap[b]? = w.heap[b]? := fun b r hb e h1 h2 => by
  rw [hk2.block b (by have := hk.size; omega) (fun e2 => by rw [e2, hgr] at e; cases e; exact h2 rfl)]
  exact hne b r hb ((hG b hb).symm.trans e) h1
 have hn : ∀ b, b < w.heap.size -> own G A' (k, .elm i) b = none -> (w'.setCell ⟨g, i * 2 + 1, none⟩ (.slice A' (rows.length + 1) c')).heap[b]? = w.heap[b]? := fun b hb e => by
  rw [hk2.block b (by have := hk.size; omega) (fun e2 => by rw [e2, hgr] at e; cases e)]
  exact hno b hb ((hG b hb).symm.trans e)
 have hg := hh.regh hG
 have hRg : BusR w (own G A' (k, .elm i)) k h.bus g bc rowsB := ⟨hR.own, hR.len, hgr, hgl, fun j o row h1 h2 => by
  obtain ⟨eA, ec, h3⟩ := hR.all j o row h1 h2
  exact ⟨eA, ec, h3.eq, h3.elm.regh hG⟩⟩
 have hown7 : OwnL w' 97 2 (some ⟨g, 0, none⟩) bc rowsB := hR.own.same fun b e hb => by cases e; exact hne g _ hb hR.role (by simp)
 refine hg.busC (by simp) (fun b hb e => ?_) hn ?_
 ·obtain ⟨r, e1, e2, e3⟩ := e
  exact hs b r hb e1 (e3 i) e2
 ·refine hRg.upd hi (row' := rowb.setIfInBounds 1 (.slice A' (rows.length + 1) c')) (eA' := A') (ec' := c') (fun j b hj hb e => hs b _ hb e (by simp [hj]) (by simp)) hn (hown7.set hrb (by omega) _) ⟨?_, rows ++ [row], ho.same (fun b e hb => hk2.block b hb fun e2 => ?_), by simp [hrl], own_role _ _ _, fun j v rw0 hj hr => ?_⟩
  ·rw [hxb.eq]
   show #[_, _] = #[_, Value.slice A' (b.elems ++ [x]).length c']
   rw [List.length_append, hrl]; rfl
  ·have := own_role G A' (k, .elm i) b e
   rw [e2, hgr] at this; cases this
  ·have mv : ∀ {v : Va} {rw0 : Array Value}, VAt w (Imm G) v rw0 -> VAt (w'.setCell ⟨g, i * 2 + 1, none⟩ (.slice A' (rows.length + 1) c')) (Imm (own G A' (k, .elm i))) v rw0 := fun hv => (hv.regh hG).mono (fun _ h => h) fun b hb hl => hn b hl hb
   rcases Nat.lt_trichotomy j b.elems.length with e | e | e
   ·rw [List.getElem?_append_left (by omega)] at hj hr
    exact mv (hrv j v rw0 hj hr)
   ·rw [e, List.getElem?_concat_length] at hj
    rw [e, <- hrl, List.getElem?_concat_length] at hr
    cases hj; cases hr
    exact mv hx
   ·rw [List.getElem?_eq_none (by simp; omega)] at hj; cases hj
theorem Done.growE {W : World} {G1 : Gh} (d : Done w G k p h W G1) {g i : Nat} (hh : HAt W G1 k p h oA oc (some ⟨g, 0, none⟩) bc m lA lc) {b : Bu} (hi : h.bus[i]? = some b) {fA : Option Addr} {fc : Nat} {rows : List (Array Value)} (hrl : rows.length = b.elems.length) (hra : RoleOf G1 fA (k, .elm i)) (hrv : ∀ (j : Nat) (v : Va) (row : Array Value), b.elems[j]? = some v -> rows[j]? = some row -> VAt W (Imm G1) v row)
  {A' : Option Addr} {c' : Nat} {x : Va} {row : Array Value} (ho : OwnL w' 35 9 A' c' (rows ++ [row])) (hk : Keep (fun b => fA = some ⟨b, 0, none⟩) W w') (hA : A' = fA ∨ ∃ g, A' = some ⟨g, 0, none⟩ /\ W.heap.size <= g) (hx : VAt W (Imm G1) x row) (hg : G1 g = some (k, .bar)) :
  Done w G k p { h with bus := h.bus.set i { b with elems := b.elems ++ [x] } } (w'.setCell ⟨g, i * 2 + 1, none⟩ (.slice A' (rows.length + 1) c')) (own G1 A' (k, .elm i)) :=
 d.trans ⟨⟨_, _, _, _, _, _, _, hh.growE hi hrl hra hrv ho hk hA hx (fc := fc)⟩, fun b hb => by
  have hb2 : w'.heap.size <= b := by simpa using hb
  unfold own
  split
  ·rename_i e
   rcases ho.el with ⟨e1, -⟩ | ⟨g', cur, e1, hg', -⟩
   ·rw [e1] at e; cases e
   ·rw [e1] at e; cases e; have := heap_lt hg'; omega
  ·exact d.fr b (by have := hk.size; omega), own_again hra hA, fun b hb => by
  unfold own
  split
  ·exact .inr ⟨_, rfl⟩
  ·exact .inl (d.fr b hb), ((Keep.refl _ W).trans (C' := fun b => fA = some ⟨b, 0, none⟩) (fun b e => .inl ⟨_, hra b e, by simp⟩) hk).trans (C' := fun b => b = g) (fun b e => .inl ⟨.bar, by rw [e]; exact hg, by simp⟩) (Keep.cellOne w' g (i * 2 + 1) _)⟩
end
theorem info33 : (Try.prog.info? 33).map (·.size) = some 1 := by kernel_rfl
theorem elm_load {w w' : World} {G : Gh} {k p : Nat} {h : Hp} {oA : Option Addr} {oc : Nat} {bc m : Nat} {lA : Option Addr} {lc g n : Nat} (hh : HAt w G k p h oA oc (some ⟨g, 0, none⟩) bc m lA lc) {b : Bu} (hi : h.bus[n]? = some b) {fA : Option Addr} {fc : Nat} (hL : BuL w g n b fA fc) {C : Nat -> Prop} (hk : Keep C w w') (hC : ¬ C g) : OneAt w' 33 ⟨g, n * 2 + 1, none⟩ (.slice fA b.elems.length fc) := by
 obtain ⟨g', rowsB, e, hR⟩ := hh.bus.rows hi
 cases e
 obtain ⟨rowb, fA0, fc0, hrb, hxb⟩ := hR.get hi
 have h1 := (hR.own.loadsB hrb hxb).e
 have h2 := one_eq h1 hL.e
 cases h2
 exact one_of u33 rfl ((hR.own.same (w' := w') fun b e hb => by cases e; exact hk.block g hb hC).cell hrb (j := 1) (by rw [hxb.eq]; rfl))
def appendP (h : Hp) (v x : Va) : Hp × Int := if aloneE h v x = 0 then (match h.bus[v.num.toNat]? with | some b => ({ h with bus := h.bus.set v.num.toNat { b with elems := b.elems ++ [x] } }, 0) | none => (h, 4)) else (h, aloneE h v x)
theorem Append_any {G : Gh} {k p : Nat} {h : Hp} {w : World} (hh : HeapAt w G k p h) (hf : Fr w G) (hle : ∀ b, b ∈ h.bus -> b.elems.length <= 1000000) {v x : Va} {row rowx : Array Value} (hv : VAt w (Imm G) v row) (hx : VAt w (Imm G) x rowx) :
  Calls Try.prog 34 #[.pointer (some ⟨p, 0, none⟩), .agg row, .agg rowx] w (ErrOf w G k p (appendP h v x)) := by
 have HX := Zi hh
 have HF := Zi hf
 have HV := Zi hv
 have HW := Zi hx
 have HLE := Zi hle
 have hvs := hv.size
 have hv1 := hv.one
 have hxs := hx.size
 have hx1 := hx.one
 have hb := Below.refl w.heap.size w
 clear hh hf hv hx hle
 go_enter Try.func34, Try.ntmps34
 go_upto_region 0 with fail
 apply Zl
 (with_reducible refine wl_boxV rfl ?_); intro W q hbn hlq hq; replace hb := hb.trans (hbn.mono hb.size); clear hbn; simp only [Zq]
 have lthqq2 := heap_lt hq; (with_reducible refine wl_boxV rfl ?_); intro W1 q2 hbn hlq2 hq2; replace hq := below_look hbn hq; replace hb := hb.trans (hbn.mono hb.size); clear hbn; simp only [Zq]
 refine Zm ?_
 have HQG : Hid (G q = none) := Zi (HF.out q (by omega))
 have HQ2 : Hid (G q2 = none) := Zi (HF.out q2 (by omega))
 have HDn := Zi (Done.calm HX.out HF.out hb)
 replace HV := Zi (HV.out.old hb)
 replace HW := Zi (HW.out.old hb)
 clear HX HF hb
 obtain ⟨pe, hpe⟩ : ∃ z, z = aloneE h v x := ⟨_, rfl⟩
 have hc := alone_done HDn.out.heap HV.out HW.out
 rw [<- hpe] at hc
 have HC := Zi hc
 have HPE := Zi hpe
 clear hc hpe
 go_upto_region 1 with fail
 apply Zl
 refine Zm ?_
 refine Zw rfl (row35 hq hvs) ?_
 refine Zw rfl (row35 hq2 hxs) ?_
 refine Zn HC.out ?_; rintro e w8 ⟨rfl, hb8⟩; refine ⟨_, rfl, ?_⟩; simp only [Zq]
 replace HW := Zi (HW.out.old hb8)
 replace HDn := Zi (HDn.out.quiet hb8); replace HV := Zi (HV.out.old hb8); replace hq := below_look hb8 hq; replace hq2 := below_look hb8 hq2; clear hb8
 refine Zm ?_
 clear HC
 go_upto_region 2 with fail
 by_cases c0 : pe = 0
 ·subst c0
  obtain ⟨n, o, hn, ho, -⟩ := alone0 HPE.out.symm
  have HD : Hid (appendP h v x = ({ h with bus := h.bus.set n { o with elems := o.elems ++ [x] } }, 0)) := Zi (by unfold appendP; rw [<- HPE.out, if_pos rfl, hn, Int.toNat_natCast, ho])
  apply Zl
  iterate 2 refine Zm ?_
  have hnl := (List.getElem?_eq_some_iff.1 ho).1
  have hnlI : (n : Int) < (h.bus.length : Int) := by omega
  obtain ⟨oA, oc, bA, bc, m, lA, lc, hh⟩ := HDn.out.heap
  obtain ⟨g, fA, fc, rfl, hgr, hL, ⟨rows, ho5, hlr, hor, hvr⟩, -⟩ := hh.buf ho
  have hol := HLE.out o (List.mem_of_getElem? ho)
  have HL := Zi (hL w8 (Below.refl _ _))
  have HL2 := Zi hL
  have HGR := Zi hgr
  have HOO := Zi ho
  have HH := Zi hh
  have HO5 := Zi ho5
  have HLR := Zi hlr
  have HOR := Zi hor
  have HVR := Zi hvr
  have HN := Zi hn
  have hp := hh.blk
  have hpG := hh.rp
  obtain ⟨trv, A2v, l2v, c2v, A3v, l3v, c3v, hrv⟩ := HV.out.row
  have HRV := Zi hrv
  have hnf : ∀ b y, G b = y -> y ≠ some (k, .elm n) -> ¬ (fA = some ⟨b, 0, none⟩) := fun b y e hy e2 => by have := HOR.out b e2; rw [e] at this; exact hy this
  have HNP := Zi (hnf p _ hpG (by simp))
  have HNQ := Zi (hnf q _ HQG.out (by simp))
  have HNQ2 := Zi (hnf q2 _ HQ2.out (by simp))
  have HNG := Zi (hnf g _ hgr (by simp))
  have hglt : g < w8.heap.size := by
   obtain ⟨g', rowsB, e, hR⟩ := hh.bus.rows ho
   cases e; exact hR.lt
  have HGLT := Zi hglt
  clear hL hh ho hrv hn ho5 hlr hor hvr hnf hglt hgr
  go_upto_region 4 with fail
  refine wp_region_Z (S := fun w' => Keep (fun b => fA = some ⟨b, 0, none⟩) w8 w') 12 mixed (Keep.of ((Below.refl _ _).drew)) (fun hS => ?_)
  have hbz : Below w8.heap.size w8 w8.drew := (Below.refl _ _).drew
  refine zm 0 hS ?_; try simp only [Zq]
  refine zm 1 hS ?_; try simp only [Zq]
  refine zm 2 hS ?_; try simp only [Zq]
  refine zv4 (i := 3) rfl (by kernel_rfl) Zg hS rfl (fun w' hw' => ex_one rfl (h1 (hw'.look hp HNP.out))) ?_; try simp only [Zq]
  refine zm 4 hS ?_; try simp only [Zq]
  refine zv4 (i := 5) rfl (by kernel_rfl) Zg hS rfl (fun w' hw' => ex_one rfl (vnN (hw'.look hq HNQ.out) HRV HN)) ?_; try simp only [Zq]
  refine zm 6 hS ?_; try simp only [Zq]
  refine zm 7 hS ?_; try simp only [Zq]
  refine zv4 (i := 8) rfl (by kernel_rfl) Zg hS rfl (fun w' hw' => ex_one rfl (elm_load HH.out HOO.out HL.out hw' HNG.out)) ?_; try simp only [Zq]
  refine zv4 (i := 9) rfl (by kernel_rfl) Zg hS rfl (fun w' hw' => ex_row rfl (row35 (hw'.look hq2 HNQ2.out) hxs)) ?_; try simp only [Zq]
  refine za_new (i := 10) (v := fun q => .slice (some ⟨q, 0, none⟩) 1 1) (by kernel_rfl) rfl rfl (ex_bsV _ rfl rfl hxs) (fun W hW => hS.trans (C' := fun _ => False) (fun b e => e.elim) (Keep.of hW)) ?_
  clear hS
  intro W8 q8 hbn hlq8 hq8 hS
  try simp only [Zq]
  replace hbn := hbz.trans (hbn.mono hbz.size)
  replace HDn := Zi (HDn.out.quiet hbn)
  replace HH := Zi (HH.out.old hbn)
  replace HO5 := Zi (HO5.out.old hbn)
  replace HVR := Zi (fun (j : Nat) (v : Va) (row : Array Value) (e1 : o.elems[j]? = some v) (e2 : rows[j]? = some row) => (HVR.out j v row e1 e2).old hbn)
  replace HW := Zi (HW.out.old hbn)
  replace hp := below_look hbn hp; replace hq := below_look hbn hq
  clear hbn hbz HL HL2
  refine za_pushL (i := 11) elt33 (by kernel_rfl) rfl rfl _ _ rfl (show _ = Value.slice fA rows.length fc by rw [HLR.out]; rfl) rfl HO5.out hq8 hxs hx1 (by have := HLR.out; omega) (by have := HLR.out; unfold maxLen; omega) (fun w' hk => hS.trans (C' := fun b => fA = some ⟨b, 0, none⟩) (fun b e => .inl e) hk) ?_
  clear hS
  intro A9 c9 W9 hown hk9 hA9 hS
  replace hp := hk9.look hp HNP.out
  replace hq := hk9.look hq HNQ.out
  have HOW := Zi hown
  have HK9 := Zi hk9
  have HA9 := Zi hA9
  obtain ⟨nl, hnl2⟩ : ∃ z, z = rows.length + 1 := ⟨_, rfl⟩
  rw [<- hnl2]
  have HNL := Zi hnl2
  try simp only [Zq]
  clear hown hk9 hA9 hnl2
  refine zn 12 hS ?_; try simp only [Zq]
  clear hS
  refine za_done (by kernel_rfl) ?_ _
  go_upto_region 5 with fail
  refine wp_region_below 9 mixed (by kernel_rfl) ?_; simp only [List.take_succ_cons, List.take_zero, List.drop_succ_cons, List.drop_zero]
  iterate 3 refine Zt ?_
  refine Zv rfl (fun w' hw' => h1 (below_look hw' (by assumption))) ?_
  refine Zt ?_
  refine Zv rfl (fun w' hw' => vnN (below_look hw' (by assumption)) (by assumption) (by assumption)) ?_
  iterate 3 refine Zt ?_
  intro w10 hb10
  replace HOW := Zi (HOW.out.old hb10)
  replace HK9 := Zi (HK9.out.trans (C' := fun _ => False) (fun b e => e.elim) (Keep.of hb10))
  clear hp hq
  have hd := Done.growE HDn.out HH.out HOO.out HLR.out HOR.out HVR.out HOW.out HK9.out HA9.out HW.out HGR.out (fc := fc)
  rw [<- HNL.out] at hd
  have HDN := Zi hd
  obtain ⟨hs1, hs2⟩ : (w10.cell? ⟨g, n * 2 + 1, none⟩).isSome = true /\ w10.frozen? ⟨g, n * 2 + 1, none⟩ = false := by
   obtain ⟨g', rowsB, e, hR⟩ := HH.out.bus.rows HOO.out
   cases e
   obtain ⟨rowb, fA0, fc0, hrb, -⟩ := hR.get HOO.out
   exact (hR.own.same (w' := w10) fun b e hb => by cases e; exact HK9.out.block g hb HNG.out).lies hrb (by omega)
  clear hd hb10
  refine wl_storeC rfl 33 _ _ rfl g (n * 2 + 1) (.slice A9 nl c9) rfl rfl info33 rfl hs1 hs2 ?_
  rw [put_noneA]
  clear hs1 hs2
  go_upto_region 6 with fail
  apply Zl
  refine Zm ?_
  go_wp2_with fail
  go_ret
  rw [HD.out]
  exact ⟨_, rfl, HDN.out⟩
 ·have HD : Hid (appendP h v x = (h, pe)) := Zi (by unfold appendP; rw [<- HPE.out, if_neg c0])
  have h0b : (pe != 0) = true := by simp [c0]
  apply Zl
  iterate 2 refine Zm ?_
  clear c0
  go_upto_region 3 with fail
  apply Zl
  iterate 2 refine Zm ?_
  go_wp2_with fail
  go_ret
  rw [HD.out]
  exact ⟨_, rfl, HDn.out⟩
open Go.RowKit Go.Proofs.Ytpamocglecangaa.Nm
set_option linter.unusedSimpArgs false
theorem run_es33 (w : World) : (Instr.buildSlice 33 0 #[]).run Try.prog w = .ok (.slice (some ⟨w.heap.size, 0, none⟩) 0 0) (w.alloc (.cells #[] 35)) := by kernel_rfl
theorem ex_es33 {ev : Operand -> Value} {o : Oper} {w : World} (ho : o.op = .buildSlice 33 0 #[]) : (execOp ev o).run Try.prog w = .ok (.value (.slice (some ⟨w.heap.size, 0, none⟩) 0 0)) (w.alloc (.cells #[] 35)) := by
 unfold execOp
 have := run_es33 w
 simp [ho, this, Result.andThen]
theorem OwnL.empty {w : World} {q : Nat} (hq : w.heap[q]? = some (.cells #[] 35 (0, 0))) : OwnL w 35 9 (some ⟨q, 0, none⟩) 0 [] := ⟨fun r h => (by cases h), Nat.le_refl _, Nat.zero_le _, .inr ⟨q, #[], rfl, hq, rfl, fun i r h => by simp at h⟩⟩
theorem eq33a (w : World) : (binOp BinOp.eql 33 (.slice none 0 0) (.slice none 0 0)).run Try.prog w = .ok (.bool true) w := by kernel_rfl
theorem eq33b (g n c : Nat) (w : World) : (binOp BinOp.eql 33 (.slice (some ⟨g, 0, none⟩) n c) (.slice none 0 0)).run Try.prog w = .ok (.bool false) w := by kernel_rfl
def NewR (w : World) (rows : List (Array Value)) (e : Ending) (w' : World) : Prop := ∃ A c, e = .returned (.slice A rows.length c) /\ OwnL w' 35 9 A c rows /\ (∀ g, A = some ⟨g, 0, none⟩ -> w.heap.size <= g) /\ Below w.heap.size w w'
section
variable {ops : Array Oper} {rest : List Oper} {o : Oper} {a : Act} {w : World} {Q : Exit -> Act -> World -> Prop} {ty sty : TypeId} {sz by0 : Nat} {A A2 : Option Addr} {c c2 : Nat} {rows news : List (Array Value)} {z : Array Value}
theorem wl_catL (he : Elt sty ty sz by0 z) (hg : o.guard = none) (s x : Operand) (ho : o.op = .call { callee := .builtin .append, args := #[s, x], argTypes := #[sty, sty] }) {g : Nat}
  (hs : a.eval s = .slice A rows.length c) (hx : a.eval x = .slice (some ⟨g, 0, none⟩) news.length c2) (h : OwnL w ty sz A c rows) (h2 : OwnL w ty sz (some ⟨g, 0, none⟩) c2 news) (h1 : ∀ r, r ∈ news -> r.all (·.oneCell') = true) (hlen : (rows.length + news.length) * by0 <= 140737488355328) (hm : rows.length + news.length <= maxLen)
  (hK : ∀ A' c' w', OwnL w' ty sz A' c' (rows ++ news) -> Keep (fun b => A = some ⟨b, 0, none⟩) w w' -> (A' = A ∨ ∃ g, A' = some ⟨g, 0, none⟩ /\ w.heap.size <= g) -> wpList Try.prog ops Q rest (a.put o.dst (.slice A' (rows ++ news).length c')) w') : wpList Try.prog ops Q (o :: rest) a w := by
 obtain ⟨hu, h0, hz, i0, z0, hi, hz0, hz1, hz2, hzl⟩ := he
 have hfl := h2.owns
 obtain ⟨A', c', w', hr, h3, h4, h5⟩ := run_catL (oty := o.type) hu hi hz0 hz1 hz2 (by rw [hzl]; exact hz) h0 h (news := news) h2.size (fun r hr => one_list (h1 r hr)) (a := ⟨g, 0, none⟩) (cn := c2) (fun j u hj => by
  obtain ⟨-, ⟨e, -⟩ | ⟨g', cap, cur, e, -, hg', -, -, hcs, htk⟩⟩ := hfl
  ·cases e
  ·cases e
   rw [show (Addr.add ⟨g, 0, none⟩ j) = ⟨g, j, none⟩ by rw [Addr.add_mid]; simp, cell_of_row _ _ _ _ _ _ hg']
   rw [<- htk, List.getElem?_take] at hj
   split at hj
   ·simpa using hj
   ·cases hj) hm hlen
 refine wl_w hg ?_ (hK A' c' w' h3 h4 h5)
 unfold execOp
 simp only [ho, resolve, invoke, builtin, Sem.run_bind, Sem.run_pure, Result.andThen_ok, List.map_toArray, List.map_cons, List.map_nil, hs, hx, hr]
end
theorem CloneR_any {w : World} {A : Option Addr} {c : Nat} {rows : List (Array Value)} (h : OwnL w 35 9 A c rows) (h1 : ∀ r, r ∈ rows -> r.all (·.oneCell') = true) (hn : rows.length <= 2000000) :
  Calls Try.prog 42 #[.slice A rows.length c] w (NewR w rows) := by
 have HO := Zi h
 have H1 := Zi h1
 have hb := Below.refl w.heap.size w
 rcases h.el with ⟨rfl, rfl, rfl⟩ | ⟨g, cur, rfl, hg, -⟩
 ·clear h h1
  have hnil := eq33a
  go_enter Try.func42, Try.ntmps42
  go_upto_region 0 with fail
  apply Zl
  refine Zm ?_
  go_upto_region 1 with fail
  apply Zl
  iterate 2 refine Zm ?_
  go_upto_region 2 with fail
  apply Zl
  refine Zm ?_
  go_wp2_with fail
  go_ret
  exact ⟨none, 0, rfl, OwnL.nil _ _ _, fun g e => (by cases e), hb⟩
 ·have hgl := heap_lt hg
  obtain ⟨n, hnn⟩ : ∃ n, n = rows.length := ⟨_, rfl⟩
  rw [<- hnn]
  have HN := Zi hnn
  clear h h1 hg hnn
  have hnil := eq33b g n c
  go_enter Try.func42, Try.ntmps42
  go_upto_region 0 with fail
  apply Zl
  refine Zm ?_
  go_upto_region 1 with fail
  apply Zl
  iterate 2 refine Zm ?_
  go_upto_region 3 with fail
  apply Zl
  refine wl_newv (fun q => .slice (some ⟨q, 0, none⟩) 0 0) rfl (ex_es33 rfl) ?_
  intro W q hbn hlq hq
  simp only [Zq]
  replace HO := Zi (HO.out.old hbn)
  replace hb := hb.trans (hbn.mono hb.size)
  clear hbn
  refine Zm ?_
  refine wl_catL elt33 rfl _ _ rfl (A := some ⟨q, 0, none⟩) (rows := []) (c := 0) rfl (show _ = Value.slice (some ⟨g, 0, none⟩) rows.length c by rw [<- HN.out]; rfl) (OwnL.empty hq) HO.out H1.out (by simp; omega) (by unfold maxLen; simp; omega) ?_
  intro A9 c9 W9 hown hk9 hA9
  rw [List.nil_append] at hown ⊢
  rw [<- HN.out]
  simp only [Zq]
  have hbb := Below.keep hb hk9 (fun b e => by cases e; exact hlq)
  have HOW := Zi hown
  have HA9 : Hid (∀ g, A9 = some ⟨g, 0, none⟩ -> w.heap.size <= g) := Zi (fun g e => by
   rcases hA9 with e2 | ⟨g', e2, e3⟩
   ·rw [e] at e2; cases e2; exact hlq
   ·rw [e] at e2; cases e2; have := hb.size; omega)
  clear hown hk9 hA9 hb hq
  refine Zm ?_
  go_wp2_with fail
  go_ret
  exact ⟨A9, c9, by rw [<- HN.out]; rfl, HOW.out, HA9.out, hbb⟩
open Go.RowKit Go.Proofs.Ytpamocglecangaa.Nm
set_option linter.unusedSimpArgs false
theorem Done.numB {w W : World} {G G1 : Gh} {k p : Nat} {h : Hp} (d : Done w G k p h W G1) {oA : Option Addr} {oc bc m : Nat} {lA : Option Addr} {lc g i : Nat} {h' : Hp} {x : Value} (hg : G1 g = some (k, .bar)) (hh : HAt (W.setCell ⟨g, i * 2, none⟩ x) G1 k p h' oA oc (some ⟨g, 0, none⟩) bc m lA lc) : Done w G k p h' (W.setCell ⟨g, i * 2, none⟩ x) G1 :=
 d.trans ⟨⟨_, _, _, _, _, _, _, hh⟩, d.fr.on (by simp), fun b _ => rfl, fun b hb => .inl (d.fr b hb), (Keep.refl _ W).trans (C' := fun b => b = g) (fun b e => .inl ⟨.bar, by rw [e]; exact hg, by simp⟩) (Keep.cellOne W g (i * 2) x)⟩
theorem Done.cnt {w W w' : World} {G G1 : Gh} {k p : Nat} {h h' : Hp} (d : Done w G k p h W G1) (hh : HeapAt w' G1 k p h') (hk : Keep (Cnt G1 k) W w') : Done w G k p h' w' G1 :=
 d.trans ⟨hh, d.fr.on hk.size, fun b _ => rfl, fun b hb => .inl (d.fr b hb), (Keep.refl _ W).trans (fun b hb => .inl hb.mine) hk⟩
theorem tmp_cnt {G : Gh} {k r : Nat} (h : G r = some (k, .tmp)) : ¬ Cnt G k r := by rintro (e | e) <;> (rw [h] at e; cases e)
def Va.setNum (v : Va) (n : Int) : Va := .node v.kind n v.txt v.typ v.tys v.parts
def ownP (h : Hp) (v : Va) : Hp × Va × Bool × Int := if arrV h.bus.length v then (match h.bus[v.num.toNat]? with | some b => if b.count = 0 then (h, va0, false, 140) else if b.count = 1 then (h, v, false, 0) else (match (cntVs 1 b.elems h).bus[v.num.toNat]? with | some b1 => ({ cntVs 1 b.elems h with bus := (cntVs 1 b.elems h).bus.set v.num.toNat (addB (-1) b1) ++ [⟨1, b.elems⟩] }, v.setNum (h.bus.length : Int), true, 0) | none => (h, va0, false, 4)) | none => (h, va0, false, 4)) else (h, va0, false, 4)
theorem setNum_at {w : World} {D : Nat -> Prop} {v : Va} {row : Array Value} (h : VAt w D v row) {n : Int} (hn : (Lit.int .i64 n).wf = true) : VAt w D (v.setNum n) (row.setIfInBounds 1 (.int .i64 n)) := by
 obtain ⟨r, A2, l2, c2, A3, l3, c3, rfl, ht, hts, hvs, hk, -, hs⟩ := h.parts
 obtain ⟨k, s, n', A, l, c, rfl⟩ := r4_cells ht
 exact VAt.of hk hn hs ht hts hvs
theorem Own_any {G : Gh} {k p : Nat} {h : Hp} {w : World} (hh : HeapAt w G k p h) (hf : Fr w G) (hnb : h.bus.length <= 1000000) (hle : ∀ b, b ∈ h.bus -> b.elems.length <= 1000000 /\ ∀ u, u ∈ b.elems -> ofV h.obs.length h.bus.length u = true) {v : Va} {row : Array Value} (hv : VAt w (Imm G) v row) :
  Calls Try.prog 32 #[.pointer (some ⟨p, 0, none⟩), .agg row] w (ValBErr w G k p (ownP h v)) := by
 have HX := Zi hh
 have HF := Zi hf
 have HV := Zi hv
 have HLE := Zi hle
 have hvs := hv.size
 have hv1 := hv.one
 have hzs : zrow.size = 9 := rfl
 have zone : zrow.all (·.oneCell') = true := (zero_va w (Imm G)).one
 have hb := Below.refl w.heap.size w
 clear hh hf hv hle
 go_enter Try.func32, Try.ntmps32
 go_upto_region 0 with fail
 apply Zl
 (with_reducible refine wl_boxV rfl ?_); intro W q hbn hlq hq; replace hb := hb.trans (hbn.mono hb.size); clear hbn; simp only [Zq]
 have hq1 := heap_lt hq
 have HD1 := Zi (Done.marked HX.out HF.out hb hlq hq1)
 have hbW := Below.refl W.heap.size W
 have lthqr := heap_lt hq; (with_reducible refine wl_allV ?_); intro W2 r hbn hlr hr; replace hq := below_look hbn hq; replace hbW := hbW.trans (hbn.mono hbW.size); clear hbn; simp only [Zq]
 iterate 2 refine Zm ?_
 have HD2 := Done.marked HD1.out.heap HD1.out.fr hbW hlr (heap_lt hr)
 have HDn := Zi (HD1.out.trans HD2)
 obtain ⟨G2, hG2⟩ : ∃ G2, G2 = mark (mark G k q) k r := ⟨_, rfl⟩
 rw [<- hG2] at HDn
 have HM : Hid (G2 r = some (k, .tmp)) := Zi (by rw [hG2]; exact mark_same _ _ _)
 have HMQ : Hid (G2 q = some (k, .tmp)) := Zi (by
  rw [hG2]; unfold mark
  split
  ·rfl
  ·exact if_pos rfl)
 have HRl : Hid (w.heap.size <= r) := Zi (by have := hb.size; omega)
 have HQl := Zi hlq
 have hvv := HDn.out.va HV.out
 clear HV
 have HV := Zi hvv
 clear hvv HX HF hb hbW HD1 HD2 hG2 hq1
 obtain ⟨bb, hbb⟩ : ∃ b, b = arrV h.bus.length v := ⟨_, rfl⟩
 have hc : Calls Try.prog 78 #[.pointer (some ⟨p, 0, none⟩), .agg row] W2 fun e w' => e = .returned (.bool (arrV h.bus.length v)) /\ Below W2.heap.size W2 w' := by
  obtain ⟨oA, oc, bA, bc, m, lA, lc, hh⟩ := HDn.out.heap
  exact array_heap hh HV.out
 rw [<- hbb] at hc
 have HC := Zi hc
 have HB := Zi hbb
 clear hc hbb
 go_upto_region 1 with fail
 apply Zl
 refine Zm ?_
 refine Zw rfl (row35 hq hvs) ?_
 refine Zn HC.out ?_; rintro e w7 ⟨rfl, hb7⟩; refine ⟨_, rfl, ?_⟩; simp only [Zq]
 replace HDn := Zi (HDn.out.quiet hb7); replace HV := Zi (HV.out.old hb7); replace hq := below_look hb7 hq; replace hr := below_look hb7 hr; clear hb7
 iterate 2 refine Zm ?_
 clear HC
 cases bb with
 | false =>
  have HD : Hid (ownP h v = (h, va0, false, 4)) := Zi (by unfold ownP; rw [<- HB.out]; rfl)
  go_upto_region 2 with fail
  apply Zl
  refine wl_w rfl (build35 _ _ rfl _) ?_
  simp only [Zq]
  (with_reducible refine wl_putV rfl zone hzs rfl rfl hr ?_); rw [put_noneA]; intro W10 hbx hsz hkx hnx
  replace HDn := Zi (HDn.out.put HM.out HRl.out (Keep.of_put hbx hsz hkx))
  clear hr hbx hsz hkx
  have hr := hnx
  clear hnx
  iterate 2 refine Zm ?_
  go_wp2_with fail
  refine bodyPost_ret (res35tt rfl _ _ r rfl rfl rfl rfl hr) rfl ?_
  rw [HD.out]
  exact ⟨_, zrow, rfl, zero_va _ _, HDn.out⟩
 | true =>
  obtain ⟨n, o, -, hn, -, ho⟩ := arrV.get HB.out.symm
  obtain ⟨o1, ho1⟩ : ∃ o1, (cntVs 1 o.elems h).bus[n]? = some o1 := by
   have h1 := (cntVs_same 1 o.elems h).2.1
   have h2 := (List.getElem?_eq_some_iff.1 ho).1
   exact ⟨_, List.getElem?_eq_getElem (by omega)⟩
  have HD : Hid (ownP h v = (if o.count = 0 then (h, va0, false, (140 : Int)) else if o.count = 1 then (h, v, false, (0 : Int)) else ({ cntVs 1 o.elems h with bus := (cntVs 1 o.elems h).bus.set n (addB (-1) o1) ++ [⟨1, o.elems⟩] }, v.setNum (h.bus.length : Int), true, (0 : Int)))) := Zi (by unfold ownP; rw [<- HB.out, if_pos rfl, hn, Int.toNat_natCast, ho]; simp only [ho1])
  have HO1 := Zi ho1
  clear ho1
  have hnl := (List.getElem?_eq_some_iff.1 ho).1
  have hnlI : (n : Int) < (h.bus.length : Int) := by omega
  obtain ⟨oA, oc, bA, bc, m, lA, lc, hh⟩ := HDn.out.heap
  obtain ⟨g, fA, fc, rfl, hgr, hL, hLV, -⟩ := hh.buf ho
  have HL := Zi hL
  have HOO := Zi ho
  have HH := Zi hh
  have HLV := Zi hLV
  have HN := Zi hn
  have hp := hh.blk
  obtain ⟨trv, A2v, l2v, c2v, A3v, l3v, c3v, hrv⟩ := HV.out.row
  have HRV := Zi hrv
  clear hL hLV hh ho hrv hn
  go_upto_region 3 with fail
  refine wp_region_belowAll mixed (by kernel_rfl) ?_
  iterate 3 refine Zt ?_
  refine Zv rfl (fun w' hw' => h1 (below_look hw' (by assumption))) ?_
  refine Zt ?_
  refine Zv rfl (fun w' hw' => vnN (below_look hw' (by assumption)) (by assumption) (by assumption)) ?_
  iterate 2 refine Zt ?_
  refine Zv rfl (fun w' hw' => (HL.out w' hw').c) ?_
  iterate 2 refine Zt ?_
  intro w9 hb9
  have HL9 := Zi (fun w' hw => HL.out w' (hb9.trans (Below.mono hw hb9.size)))
  replace HLV := Zi (HLV.out.moved (Keep.of (C := fun _ => False) hb9) (fun b e => e.elim) (fun _ _ => rfl))
  replace HDn := Zi (HDn.out.quiet hb9); replace HV := Zi (HV.out.old hb9); replace HH := Zi (HH.out.old hb9); replace hp := below_look hb9 hp; replace hq := below_look hb9 hq; replace hr := below_look hb9 hr; clear hb9 HL
  have HL := HL9
  clear HL9
  by_cases c0 : o.count = 0
  ·have e0 : (o.count == 0) = true := by simp [c0]
   rw [if_pos c0] at HD
   clear c0 HL HH hp HLV
   go_upto_region 4 with fail
   apply Zl
   refine wl_w rfl (build35 _ _ rfl _) ?_
   simp only [Zq]
   (with_reducible refine wl_putV rfl zone hzs rfl rfl hr ?_); rw [put_noneA]; intro W10 hbx hsz hkx hnx
   replace HDn := Zi (HDn.out.put HM.out HRl.out (Keep.of_put hbx hsz hkx))
   clear hr hbx hsz hkx
   have hr := hnx
   clear hnx
   iterate 2 refine Zm ?_
   go_wp2_with fail
   refine bodyPost_ret (res35tt rfl _ _ r rfl rfl rfl rfl hr) rfl ?_
   rw [HD.out]
   exact ⟨_, zrow, rfl, zero_va _ _, HDn.out⟩
  ·have e0 : (o.count == 0) = false := by simp [c0]
   rw [if_neg c0] at HD
   clear c0
   go_upto_region 5 with fail
   refine wp_region_belowAll mixed (by kernel_rfl) ?_
   iterate 3 refine Zt ?_
   refine Zv rfl (fun w' hw' => h1 (below_look hw' (by assumption))) ?_
   refine Zt ?_
   refine Zv rfl (fun w' hw' => vnN (below_look hw' (by assumption)) (by assumption) (by assumption)) ?_
   iterate 2 refine Zt ?_
   refine Zv rfl (fun w' hw' => (HL.out w' hw').c) ?_
   iterate 2 refine Zt ?_
   intro w10 hb10
   have HL9 := Zi (fun w' hw => HL.out w' (hb10.trans (Below.mono hw hb10.size)))
   replace HLV := Zi (HLV.out.moved (Keep.of (C := fun _ => False) hb10) (fun b e => e.elim) (fun _ _ => rfl))
   replace HDn := Zi (HDn.out.quiet hb10); replace HV := Zi (HV.out.old hb10); replace HH := Zi (HH.out.old hb10); replace hp := below_look hb10 hp; replace hq := below_look hb10 hq; replace hr := below_look hb10 hr; clear hb10 HL
   have HL := HL9
   clear HL9
   by_cases c1 : o.count = 1
   ·have e1 : (o.count == 1) = true := by simp [c1]
    rw [if_pos c1] at HD
    clear c1 HL HH hp HLV
    go_upto_region 6 with fail
    apply Zl
    refine Zw rfl (row35 hq hvs) ?_
    (with_reducible refine wl_putV hvs hv1 hzs rfl rfl hr ?_); rw [put_noneA]; intro W10 hbx hsz hkx hnx
    have HK10 := Zi (Keep.of_put hbx hsz hkx)
    replace HDn := Zi (HDn.out.put HM.out HRl.out HK10.out)
    replace HV := Zi (HV.out.put HM.out HK10.out)
    clear hr hbx hsz hkx
    have hr := hnx
    clear hnx
    iterate 2 refine Zm ?_
    go_wp2_with fail
    refine bodyPost_ret (res35tt rfl _ _ r rfl rfl rfl hvs hr) rfl ?_
    rw [HD.out]
    exact ⟨_, row, rfl, HV.out, HDn.out⟩
   ·have e1 : (o.count == 1) = false := by simp [c1]
    rw [if_neg c1] at HD
    clear c1
    obtain ⟨rows5, ho5, hlr5, hor5, hvr5⟩ := HLV.out
    have hol := (HLE.out o (List.mem_of_getElem? HOO.out)).1
    have HOF := Zi (HLE.out o (List.mem_of_getElem? HOO.out)).2
    have HO5 := Zi ho5
    have HLR5 := Zi hlr5
    have HVR5 := Zi hvr5
    have hone5 : ∀ r, r ∈ rows5 -> r.all (·.oneCell') = true := fun r hr => by
     obtain ⟨j, hj⟩ := List.mem_iff_getElem?.1 hr
     have hjl := (List.getElem?_eq_some_iff.1 hj).1
     exact (hvr5 j _ r (List.getElem?_eq_getElem (by omega)) hj).one
    have hbz : Below w10.heap.size w10 w10.drew := (Below.refl _ _).drew
    have hcc := CloneR_any (ho5.old hbz) hone5 (by omega)
    rw [hlr5] at hcc
    have HC := Zi hcc
    clear hcc hone5 ho5 hor5 hvr5
    go_upto_region 7 with fail
    refine wp_region_Z (S := Below w10.heap.size w10) 10 mixed hbz (fun hS => ?_)
    refine zm 0 hS ?_; try simp only [Zq]
    refine zm 1 hS ?_; try simp only [Zq]
    refine zm 2 hS ?_; try simp only [Zq]
    refine zv4 (i := 3) rfl (by kernel_rfl) Zg hS rfl (fun w' hw' => ex_one rfl (h1 (below_look hw' hp))) ?_; try simp only [Zq]
    refine zm 4 hS ?_; try simp only [Zq]
    refine zv4 (i := 5) rfl (by kernel_rfl) Zg hS rfl (fun w' hw' => ex_one rfl (vnN (below_look hw' hq) HRV HN)) ?_; try simp only [Zq]
    refine zm 6 hS ?_; try simp only [Zq]
    refine zm 7 hS ?_; try simp only [Zq]
    refine zv4 (i := 8) rfl (by kernel_rfl) Zg hS rfl (fun w' hw' => ex_one rfl (HL.out w' hw').e) ?_; try simp only [Zq]
    refine za_call (i := 9) (by kernel_rfl) rfl rfl (fun K hK => ?_); go_simp; refine ⟨_, _, ⟨rfl, rfl⟩, hK _ _ ⟨_, HC.out, ?_⟩⟩; clear hK K; rintro e w11 ⟨A7, c7, rfl, hown7, hA7, hb11⟩
    have hbb := hbz.trans (hb11.mono hbz.size)
    refine ⟨_, rfl, fun _ => hbb, ?_⟩
    rw [hlr5]
    try simp only [Zq]
    have hl := Done.list (l := o.elems) (r := .elm h.bus.length) HDn.out.heap HDn.out.fr hown7 hlr5 (fun g e => by have := hA7 g e; exact Nat.le_trans hbz.size this) (fun j v row e1 e2 => ((HVR5.out j v row e1 e2).low.old hbb)) hbb
    obtain ⟨hd7, hli⟩ := hl
    obtain ⟨G7, hG7⟩ : ∃ G7, G7 = own G2 A7 (k, .elm h.bus.length) := ⟨_, rfl⟩
    rw [<- hG7] at hd7 hli
    have HM7 : Hid (G7 r = some (k, .tmp)) := Zi ((hd7.old r (heap_lt hr)).trans HM.out)
    have HMQ7 : Hid (G7 q = some (k, .tmp)) := Zi ((hd7.old q (heap_lt hq)).trans HMQ.out)
    replace HV := Zi (hd7.va HV.out)
    replace HDn := Zi (HDn.out.trans hd7)
    have HLI := Zi hli
    have hS := hbb
    replace hq := below_look hbb hq
    replace hr := below_look hbb hr
    clear hd7 hli hG7 hown7 hA7 hb11 hbb HC HVR5 HO5 HH HM HMQ hp HL HLV hbz
    refine zn 10 hS ?_; try simp only [Zq]
    clear hS
    refine za_done (by kernel_rfl) ?_ _
    obtain ⟨oA, oc, bA, bc, m, lA, lc, hh⟩ := HDn.out.heap
    have HH := Zi hh
    have HFR := Zi HDn.out.fr
    obtain ⟨rows, ho7, hl7, hor7, hv7⟩ := HLI.out
    have HO7 := Zi ho7
    have HL7 := Zi hl7
    have HOR7 := Zi hor7
    have HV7 := Zi hv7
    clear hh ho7 hl7 hor7 hv7
    have H0 : Hid (HAt w11 G7 k p (cntVs 1 (o.elems.take 0) h) oA oc bA bc m lA lc) := Zi (by rw [List.take_zero, cntVs]; exact HH.out)
    have HK0 := Zi (Keep.refl (Cnt G7 k) w11)
    go_upto_region 8 with fail
    apply Zl
    iterate 3 refine Zm ?_
    go_wp2_with fail
    go_loopw [52] (fun i wr => ∃ j : Nat, j <= o.elems.length /\ i = .int .i64 (j : Int) /\ Hid (HAt wr G7 k p (cntVs 1 (o.elems.take j) h) oA oc bA bc m lA lc) /\ Hid (Keep (Cnt G7 k) w11 wr)) (fun i _ => o.elems.length - (intOf i).toNat)
    case atStart => exact ⟨0, by omega, rfl, H0, HK0⟩
    case round =>
     clear H0 HK0
     obtain ⟨j, hj, rfl, HA, HKe⟩ := hrel
     have hsz := HKe.out.size
     go_upto_region 9 with fail
     by_cases hlt : j < o.elems.length
     ·have hltI : (j : Int) < (o.elems.length : Int) := by omega
      have hC7 : ∀ b, A7 = some ⟨b, 0, none⟩ -> ¬ Cnt G7 k b := fun b e hc => by have := HOR7.out b e; rcases hc with hc | hc <;> (rw [hc] at this; cases this)
      have hLw : ListV wr G7 (k, .elm h.bus.length) o.elems A7 c7 := ⟨rows, HO7.out.keep HKe.out hC7, HL7.out, HOR7.out, fun j v row e1 e2 => (HV7.out j v row e1 e2).keep HKe.out (fun b hb => Cnt.imm hb)⟩
      obtain ⟨fb, u, rowu, rfl, -, hu, hua, hrow⟩ := hLw.at hlt
      have HST := Zi (cntVs_take (by_ := 1) hu h)
      have HOU := Zi (HOF.out u (List.mem_of_getElem? hu))
      have HUA := Zi hua
      have HRU := Zi (hrow wr (Below.refl _ _))
      have hus : rowu.size = 9 := hua.size
      have hu1 : rowu.all (·.oneCell') = true := hua.one
      have hzz := Below.refl wr.heap.size wr
      clear hu hua hrow hLw hC7
      apply Zl
      refine Zm ?_
      go_upto_region 10 with fail
      apply Zl
      refine Zm ?_
      refine Zw rfl (HRU.out) ?_
      (with_reducible refine wl_allV ?_); intro W5 q5 hbn hlq5 hq5; replace hzz := hzz.trans (hbn.mono hzz.size); clear hbn; simp only [Zq]
      (with_reducible refine wl_putV hus hu1 rfl rfl rfl hq5 ?_); rw [put_noneA]; intro W6 hbx hsz hkx hnx; replace hzz := hbx _ _ (by omega) hzz; clear hq5; have hq5 := hnx; clear hnx
      have hz2 := hzz.size
      clear hbx hkx hsz
      obtain ⟨e5, e6, -, -⟩ := cntVs_same 1 (o.elems.take j) h
      have HC := Zi (count_any G7 k p 1 (by rfl) u (cntVs 1 (o.elems.take j) h) W6 _ _ _ _ _ _ _ _ (HUA.out.old hzz) (HA.out.old hzz) (HFR.out.on (by have := HKe.out.size; omega)) (by rw [e5, e6]; exact HOU.out))
      go_upto_region 11 with fail
      apply Zl
      refine Zm ?_
      refine Zw rfl (row35 hq5 hus) ?_
      refine Zn HC.out ?_; rintro e w7 ⟨rfl, ha7, hk7⟩; refine ⟨_, rfl, ?_⟩; simp only [Zq]
      have HA7 := Zi ha7
      have HK7 := Zi ((HKe.out.trans (C' := Cnt G7 k) (fun b h => .inl h) (Keep.of hzz)).trans (C' := Cnt G7 k) (fun b h => .inl h) hk7)
      clear ha7 hk7
      rw [<- HST.out] at HA7
      clear HC HST HA HKe hq5 hzz e5 e6
      go_wp2_with fail
      go_roundw
      case rel => exact ⟨j + 1, by omega, by go_num, HA7, HK7⟩
      case measure => simp [intOf]; omega
     ·have hltI : ¬ (j : Int) < (o.elems.length : Int) := by omega
      apply Zl
      refine Zm ?_
      obtain ⟨hx, hhx⟩ : ∃ hx, hx = cntVs 1 o.elems h := ⟨_, rfl⟩
      rw [List.take_of_length_le (by omega), <- hhx] at HA
      rw [<- hhx] at HD HO1
      have hlx : hx.bus.length = h.bus.length := by rw [hhx]; exact (cntVs_same 1 o.elems h).2.1
      have hnx : (n : Int) < (hx.bus.length : Int) := by omega
      have HLX := Zi hlx
      replace hq := HKe.out.look hq (tmp_cnt HMQ7.out)
      replace hr := HKe.out.look hr (tmp_cnt HM7.out)
      have HDx := Zi (HDn.out.cnt ⟨_, _, _, _, _, _, _, HA.out⟩ HKe.out)
      replace HV := Zi (HV.out.keep HKe.out (fun b hb => Cnt.imm hb))
      clear HDn hhx hlx HO7 HV7 hj hlt HH
      have HDn := HDx
      clear HDx
      obtain ⟨g2, fA2, fc2, rfl, hgr2, hL2, -, -⟩ := HA.out.buf HO1.out
      have HL := Zi hL2
      have HG2 := Zi hgr2
      have hp := HA.out.blk
      clear hL2 hgr2
      go_upto_region 13 with fail
      refine wp_region_below 12 mixed (by kernel_rfl) ?_; simp only [List.take_succ_cons, List.take_zero, List.drop_succ_cons, List.drop_zero]
      iterate 3 refine Zt ?_
      refine Zv rfl (fun w' hw' => h1 (below_look hw' (by assumption))) ?_
      refine Zt ?_
      refine Zv rfl (fun w' hw' => vnN (below_look hw' (by assumption)) (by assumption) (by assumption)) ?_
      iterate 2 refine Zt ?_
      refine Zv rfl (fun w' hw' => (HL.out w' hw').c) ?_
      iterate 3 refine Zt ?_
      intro w12 hb12
      replace HA := Zi (HA.out.old hb12)
      replace HDn := Zi (HDn.out.quiet hb12)
      replace HV := Zi (HV.out.old hb12)
      replace HKe := Zi (HKe.out.trans (C' := fun _ => False) (fun b e => e.elim) (Keep.of hb12))
      replace hq := below_look hb12 hq; replace hr := below_look hb12 hr
      clear hb12 HL hp
      obtain ⟨hs1, hs2, -, hset⟩ := HA.out.stB HO1.out
      have HS := Zi (hset (w64 (o1.count + -1)) (addB (-1) o1) rfl rfl)
      have HDx := Zi (HDn.out.numB HG2.out HS.out)
      have hqg : q ≠ g2 := fun e => by have := HMQ7.out; rw [e, HG2.out] at this; cases this
      have hrg : r ≠ g2 := fun e => by have := HM7.out; rw [e, HG2.out] at this; cases this
      replace hq := (heap_setCell_other w12 ⟨g2, n * 2, none⟩ q (.int .i64 (w64 (o1.count + -1))) hqg).trans hq
      replace hr := (heap_setCell_other w12 ⟨g2, n * 2, none⟩ r (.int .i64 (w64 (o1.count + -1))) hrg).trans hr
      have HKx := Zi (HKe.out.trans (C' := fun b => b = g2) (fun b e => .inl (.inr (by rw [e]; exact HG2.out))) (Keep.cellOne w12 g2 (n * 2) (.int .i64 (w64 (o1.count + -1)))))
      replace HV := Zi (HV.out.keep (Keep.cellOne w12 g2 (n * 2) (.int .i64 (w64 (o1.count + -1)))) (fun b hb e => by unfold Imm at hb; rw [e, HG2.out] at hb; cases hb))
      clear HDn HA hset HKe hqg hrg
      refine wl_storeC rfl 3 _ _ rfl g2 (n * 2) (.int .i64 (w64 (o1.count + -1))) rfl rfl info3 rfl hs1 hs2 ?_
      rw [put_noneA]
      obtain ⟨W14, hW⟩ : ∃ W, W = w12.setCell ⟨g2, n * 2, none⟩ (.int .i64 (w64 (o1.count + -1))) := ⟨_, rfl⟩
      rw [<- hW] at HDx HKx HV HS hq hr ⊢
      clear hW hs1 hs2
      obtain ⟨hy, hhy⟩ : ∃ hy : Hp, hy = { hx with bus := hx.bus.set n (addB (-1) o1) } := ⟨_, rfl⟩
      have HHY := Zi hhy
      rw [<- hhy] at HDx HS
      have hly : hy.bus.length = h.bus.length := by rw [hhy]; show (hx.bus.set n _).length = _; rw [List.length_set]; exact HLX.out
      have HLY := Zi hly
      have hp := HS.out.blk
      rw [hly] at hp
      clear hhy hly
      replace HLI := Zi (HLI.out.moved HKx.out (G' := G7) (fun b hc => by rcases hc with hc | hc <;> (rw [hc]; exact ⟨by simp, by simp⟩)) (fun _ _ => rfl))
      go_upto_region 14 with fail
      apply Zl
      iterate 4 refine Zm ?_
      refine Zo rfl (h1 hp) ?_
      refine Zm ?_
      refine wl_w rfl (ex_build97 _ _ rfl rfl rfl) ?_
      simp only [Zq]
      refine wl_newv (fun q => .slice (some ⟨q, 0, none⟩) 1 1) rfl (ex_bs78 _ rfl rfl) ?_
      intro W16 q8 hbn hlq8 hq8
      simp only [Zq]
      replace HDn := Zi (HDx.out.quiet hbn)
      replace HS := Zi (HS.out.old hbn)
      replace HLI := Zi (HLI.out.moved (Keep.of (C := fun _ => False) hbn) (G' := G7) (fun b e => e.elim) (fun _ _ => rfl))
      replace HV := Zi (HV.out.old hbn)
      replace hp := below_look hbn hp; replace hq := below_look hbn hq; replace hr := below_look hbn hr
      clear hbn HDx HKx
      obtain ⟨rowsB, hoB, hlB, horB, hvB⟩ := HS.out.bus
      have HOB := Zi hoB
      have HVB := Zi hvB
      have HORB := Zi horB
      have HLB : Hid (rowsB.length = h.bus.length) := Zi (by rw [hlB, HLY.out])
      have HLB2 := Zi hlB
      have hlen : rowsB.length <= 1000000 := by have := HLB.out; omega
      have hrl8 := heap_lt hr
      have hql8 := heap_lt hq
      have hpl8 := heap_lt hp
      have hpG := HS.out.rp
      clear hoB hvB horB hlB
      refine wl_pushL elt78 rfl _ _ rfl (show _ = Value.slice (some ⟨g2, 0, none⟩) rowsB.length bc by rw [HLB.out]; rfl) rfl HOB.out hq8 rfl (by simp [Value.oneCell']) (by omega) (by unfold maxLen; omega) ?_
      intro A9 c9 W9 hown hk9 hA9
      rw [HLB.out]
      simp only [Zq]
      have hnp : ¬ ((some ⟨g2, 0, none⟩ : Option Addr) = some ⟨p, 0, none⟩) := fun e => by have := HORB.out p e; rw [hpG] at this; cases this
      have hnr : ¬ ((some ⟨g2, 0, none⟩ : Option Addr) = some ⟨r, 0, none⟩) := fun e => by have := HORB.out r e; rw [HM7.out] at this; cases this
      have hnq : ¬ ((some ⟨g2, 0, none⟩ : Option Addr) = some ⟨q, 0, none⟩) := fun e => by have := HORB.out q e; rw [HMQ7.out] at this; cases this
      replace hp := hk9.look hp hnp
      replace hr := hk9.look hr hnr
      replace hq := hk9.look hq hnq
      have hli : ListV W16 G7 (k, .elm hy.bus.length) o.elems A7 c7 := by rw [HLY.out]; exact HLI.out
      have hd10 := Done.addB (n := 1) (l := o.elems) HS.out HDn.out.fr HLB2.out HVB.out hown hk9 HORB.out hA9 hli
      rw [HLB.out] at hd10
      have hHR := (own_again (G := G7) HORB.out hA9 r hrl8).trans HM7.out
      have hHQ := (own_again (G := G7) HORB.out hA9 q hql8).trans HMQ7.out
      obtain ⟨nb, hnb2⟩ : ∃ n, n = h.bus.length + 1 := ⟨_, rfl⟩
      rw [<- hnb2] at hd10 ⊢
      have HNB := Zi hnb2
      clear hnb2
      have hvv := hd10.va HV.out
      have HDN := Zi (HDn.out.trans hd10)
      have HHR := Zi hHR
      have HHQ := Zi hHQ
      clear HV
      have HV := Zi hvv
      obtain ⟨hs1, hs2, hs3⟩ := hdr_set (j := 1) (v := .slice A9 nb c9) hp
      have hs1 := hs1 (by omega)
      have hqp : q ≠ p := fun e => by have := HMQ7.out; rw [e, hpG] at this; cases this
      have hrp : r ≠ p := fun e => by have := HM7.out; rw [e, hpG] at this; cases this
      replace hq := (heap_setCell_other W9 ⟨p, 1, none⟩ q (.slice A9 nb c9) hqp).trans hq
      replace hr := (heap_setCell_other W9 ⟨p, 1, none⟩ r (.slice A9 nb c9) hrp).trans hr
      clear hown hk9 hA9 hd10 hHR hHQ HDn HS HOB HVB HORB hp hli hvv HLI
      iterate 2 refine Zm ?_
      refine wl_storeC rfl 78 _ _ rfl p 1 (.slice A9 nb c9) rfl rfl info78 rfl hs1 hs2 ?_
      rw [put_noneA]
      obtain ⟨W18, hW⟩ : ∃ W, W = W9.setCell ⟨p, 1, none⟩ (.slice A9 nb c9) := ⟨_, rfl⟩
      rw [<- hW] at HDN HV hs3 hq hr ⊢
      have hp : W18.heap[p]? = some (.cells (cellH oA hy.obs.length oc A9 nb c9 m lA hy.lev.length lc) 87 (0, 0)) := hs3
      have hnI : (nb : Int) - 1 = (h.bus.length : Int) := by have := HNB.out; omega
      have hnw : IntKind.i64.wrap (h.bus.length : Int) = (h.bus.length : Int) := IntWalk.i64_in _ (by omega)
      have hnwf : (Lit.int .i64 (h.bus.length : Int)).wf = true := wf64 (by omega)
      clear hs1 hs2 hs3 hW hlen hrl8 hql8 hpl8 hnp hnr hnq hqp hrp
      have hqc : (W18.cell? ⟨q, 1, none⟩).isSome = true := by rw [cell_of_row _ _ _ _ _ _ hq, Array.getElem?_eq_getElem (by omega)]; rfl
      have hqf : W18.frozen? ⟨q, 1, none⟩ = false := by unfold World.frozen?; rw [hq]; rfl
      go_upto_region 15 with fail
      apply Zl
      iterate 3 refine Zm ?_
      refine Zo rfl (h1 hp) ?_
      iterate 3 refine Zm ?_
      refine wl_storeC rfl 3 _ _ rfl q 1 (.int .i64 (h.bus.length : Int)) rfl rfl info3 rfl hqc hqf ?_
      rw [put_noneA]
      have hk19 := Keep.cellOne W18 q 1 (.int .i64 (h.bus.length : Int))
      have hq19 := hs_new (i := 1) (v := .int .i64 (h.bus.length : Int)) hq
      have hrq : r ≠ q := by omega
      replace hr := (heap_setCell_other W18 ⟨q, 1, none⟩ r (.int .i64 (h.bus.length : Int)) hrq).trans hr
      have HD19 := Zi (HDN.out.put HHQ.out HQl.out hk19)
      have HV19 := Zi (setNum_at (HV.out.put HHQ.out hk19) hnwf)
      obtain ⟨W19, hW⟩ : ∃ W, W = W18.setCell ⟨q, 1, none⟩ (.int .i64 (h.bus.length : Int)) := ⟨_, rfl⟩
      rw [<- hW] at HD19 HV19 hq19 hr ⊢
      clear hW hk19 hq hp HDN HV hqc hqf
      have hs9 := HV19.out.size
      have ho9 := HV19.out.one
      go_upto_region 16 with fail
      apply Zl
      refine Zw rfl (row35 hq19 hs9) ?_
      (with_reducible refine wl_putV hs9 ho9 hzs rfl rfl hr ?_); rw [put_noneA]; intro W20 hbx hsz hkx hnx
      have HK20 := Zi (Keep.of_put hbx hsz hkx)
      clear hbx hsz hkx hr
      iterate 2 refine Zm ?_
      go_wp2_with fail
      refine bodyPost_ret (res35tt rfl _ _ r rfl rfl rfl hs9 hnx) rfl ?_
      rw [HD.out]
      refine ⟨_, _, rfl, HV19.out.put HHR.out HK20.out, ?_⟩
      have := HD19.out.put HHR.out HRl.out HK20.out
      rw [HHY.out] at this
      exact this
end Go.Proofs.Ytpamocglecangaa
