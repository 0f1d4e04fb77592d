/- The program's Put. The program's End. -/
import Derived.Test.YtpamocglecangaaPB8
import Derived.Test.YtpamocglecangaaPB6
namespace Go.Proofs.Ytpamocglecangaa
open Go.RowKit Go.Proofs.Ytpamocglecangaa.Nm
set_option linter.unusedSimpArgs false
theorem alone_done {w : World} {G : Gh} {k p : Nat} {h : Hp} (hh : HeapAt w G k p h) {v x : Va} {D : Nat → Prop} {row rowx : Array Value} (hv : VAt w D v row) (hx : VAt w D x rowx) :
    Calls Try.prog 79 #[.pointer (some ⟨p, 0, none⟩), .agg row, .agg rowx] w fun e w' => e = .returned (.int .i64 (aloneE h v x)) ∧ Below w.heap.size w w' := by
  obtain ⟨oA, oc, bA, bc, m, lA, lc, hh⟩ := hh
  exact alone_any hh hv hx
theorem alone0 {h : Hp} {v x : Va} (h0 : aloneE h v x = 0) : ∃ (n : Nat) (b : Bu), v.num = (n : Int) ∧ h.bus[n]? = some b ∧ ofV h.obs.length h.bus.length x = true := by
  unfold aloneE at h0
  split at h0
  · rename_i c
    rw [Bool.and_eq_true] at c
    obtain ⟨n, b, -, hn, -, hb⟩ := arrV.get c.1
    exact ⟨n, b, hn, hb, c.2⟩
  · cases h0
def putP (h : Hp) (v : Va) (f : Int) (x : Va) : Hp × Va × Int := if aloneE h v x = 0 then (match h.bus[v.num.toNat]? with | some b => if 0 ≤ f ∧ f < (b.elems.length : Int) then (match b.elems[f.toNat]? with | some old => ({ h with bus := h.bus.set v.num.toNat { b with elems := b.elems.set f.toNat x } }, old, 0) | none => (h, va0, 1)) else (h, va0, 1) | none => (h, va0, 1)) else (h, va0, aloneE h v x)
set_option maxHeartbeats 8000000 in
set_option maxRecDepth 100000 in
theorem Put_any {G : Gh} {k p : Nat} {h : Hp} {w : World} (hh : HeapAt w G k p h) (hf : Fr w G) (f : Int) {v x : Va} {row rowx : Array Value} (hv : VAt w (Imm G) v row) (hx : VAt w (Imm G) x rowx) :
    Calls Try.prog 33 #[.pointer (some ⟨p, 0, none⟩), .agg row, .int .i64 f, .agg rowx] w (ValErr w G k p (putP h v f x)) := by
  have HX := Lib.hid hh
  have HF := Lib.hid hf
  have HV := Lib.hid hv
  have HW := Lib.hid hx
  have hvs := hv.size
  have hv1 := hv.one
  have hxs := hx.size
  have hx1 := hx.one
  have hzs : zrow.size = 9 := rfl
  have zone : zrow.all (·.oneCell') = true := (zero_va w (Imm G)).one
  have hb := Below.refl w.heap.size w
  clear hh hf hv hx
  go_enter Try.func33, Try.ntmps33
  go_upto_region 0 with (fail)
  apply wp_region_lit
  (with_reducible refine wl_boxV rfl ?_); intro W q hbn hlq hq; replace hb := hb.trans (hbn.mono hb.size); clear hbn; simp only [put_lit, List.set_cons_zero, List.set_cons_succ]
  have lthqq2 := heap_lt hq; (with_reducible refine wl_boxV rfl ?_); intro W1 q2 hbn hlq2 hq2; replace hq := below_look hbn hq; replace hb := hb.trans (hbn.mono hb.size); clear hbn; simp only [put_lit, List.set_cons_zero, List.set_cons_succ]
  have lthqr := heap_lt hq; have lthq2r := heap_lt hq2; (with_reducible refine wl_allV ?_); intro W2 r hbn hlr hr; replace hq := below_look hbn hq; replace hq2 := below_look hbn hq2; replace hb := hb.trans (hbn.mono hb.size); clear hbn; simp only [put_lit, List.set_cons_zero, List.set_cons_succ]
  (with_reducible refine wl_k ?_ ?_); exact rfl; intro K hK; go_simp; refine hK _ ?_; clear hK K
  have hrl : w.heap.size ≤ r := by omega
  have HRl := Lib.hid hrl
  have HDn := Lib.hid (Done.marked HX.out HF.out hb hrl (heap_lt hr))
  have HM := Lib.hid (mark_same G k r)
  have hvv := HDn.out.va HV.out
  have hww := HDn.out.va HW.out
  clear HV HW
  have HV := Lib.hid hvv
  have HW := Lib.hid hww
  clear hvv hww HX HF hb hrl
  obtain ⟨pe, hpe⟩ : ∃ z, z = aloneE h v x := ⟨_, rfl⟩
  have hc := alone_done HDn.out.heap HV.out HW.out
  rw [← hpe] at hc
  have HC := Lib.hid hc
  have HPE := Lib.hid hpe
  clear hc hpe
  go_upto_region 1 with (fail)
  apply wp_region_lit
  (with_reducible refine wl_k ?_ ?_); exact rfl; intro K hK; go_simp; refine hK _ ?_; clear hK K
  ((with_reducible apply wl_rowG); exact rfl; exact rfl; exact row35 hq hvs)
  ((with_reducible apply wl_rowG); exact rfl; exact rfl; exact row35 hq2 hxs)
  (with_reducible refine wl_ck ?_ ?_); exact rfl; intro K hK; go_simp; refine ⟨_, _, ⟨rfl, rfl⟩, hK _ _ ⟨_, HC.out, ?_⟩⟩; clear hK K; rintro e w8 ⟨rfl, hb8⟩; refine ⟨_, rfl, ?_⟩; simp only [put_lit, List.set_cons_zero, List.set_cons_succ]
  replace HW := Lib.hid (HW.out.old hb8)
  replace HDn := Lib.hid (HDn.out.quiet hb8); replace HV := Lib.hid (HV.out.old hb8); replace hq := below_look hb8 hq; replace hq2 := below_look hb8 hq2; replace hr := below_look hb8 hr; clear hb8
  (with_reducible refine wl_k ?_ ?_); exact rfl; intro K hK; go_simp; refine hK _ ?_; clear hK K
  clear HC
  go_upto_region 2 with (fail)
  by_cases c0 : pe = 0
  · subst c0
    obtain ⟨n, o, hn, ho, -⟩ := alone0 HPE.out.symm
    have HD : Hid (putP h v f x = (if 0 ≤ f ∧ f < (o.elems.length : Int) then (match o.elems[f.toNat]? with | some old => ({ h with bus := h.bus.set n { o with elems := o.elems.set f.toNat x } }, old, (0 : Int)) | none => (h, va0, (1 : Int))) else (h, va0, (1 : Int)))) := Lib.hid (by unfold putP; rw [← HPE.out, if_pos rfl, hn, Int.toNat_natCast, ho])
    apply wp_region_lit
    (with_reducible refine wl_k ?_ ?_); exact rfl; intro K hK; go_simp; refine hK _ ?_; clear hK K
    (with_reducible refine wl_k ?_ ?_); exact rfl; intro K hK; go_simp; refine hK _ ?_; clear hK K
    have hnl := (List.getElem?_eq_some_iff.1 ho).1
    have hnlI : (n : Int) < (h.bus.length : Int) := by omega
    obtain ⟨oA, oc, bA, bc, m, lA, lc, hh⟩ := HDn.out.heap
    obtain ⟨g, fA, fc, rfl, hgr, hL, hLV, -⟩ := hh.buf ho
    have HL := Lib.hid hL
    have HOO := Lib.hid ho
    have HH := Lib.hid hh
    have HLV := Lib.hid hLV
    have HN := Lib.hid hn
    have hp := hh.blk
    obtain ⟨trv, A2v, l2v, c2v, A3v, l3v, c3v, hrv⟩ := HV.out.row
    have HRV := Lib.hid hrv
    clear hL hLV hh ho hrv hn
    go_upto_region 4 with (fail)
    refine wp_region_belowAll mixed (by kernel_rfl) ?_
    (with_reducible refine wq_k ?_ ?_); exact rfl; intro K hK; go_simp; (with_reducible refine hK _ ?_); clear hK K
    (with_reducible refine wq_k ?_ ?_); exact rfl; intro K hK; go_simp; (with_reducible refine hK _ ?_); clear hK K
    (with_reducible refine wq_k ?_ ?_); exact rfl; intro K hK; go_simp; (with_reducible refine hK _ ?_); clear hK K
    ((with_reducible apply wq_one); exact rfl; exact rfl; intro w' hw'; first | exact vk (below_look hw' (by with_reducible assumption)) (by with_reducible assumption) | exact vn (below_look hw' (by with_reducible assumption)) (by with_reducible assumption) | exact vl (below_look hw' (by with_reducible assumption)) (by with_reducible assumption) | exact h0 (below_look hw' (by with_reducible assumption)) | exact h1 (below_look hw' (by with_reducible assumption)) | exact h2 (below_look hw' (by with_reducible assumption)) | exact h3 (below_look hw' (by with_reducible assumption)))
    (with_reducible refine wq_k ?_ ?_); exact rfl; intro K hK; go_simp; (with_reducible refine hK _ ?_); clear hK K
    ((with_reducible apply wq_one); exact rfl; exact rfl; intro w' hw'; exact vnN (below_look hw' (by with_reducible assumption)) (by with_reducible assumption) (by with_reducible assumption))
    (with_reducible refine wq_k ?_ ?_); exact rfl; intro K hK; go_simp; (with_reducible refine hK _ ?_); clear hK K
    (with_reducible refine wq_k ?_ ?_); exact rfl; intro K hK; go_simp; (with_reducible refine hK _ ?_); clear hK K
    ((with_reducible apply wq_one); exact rfl; exact rfl; intro w' hw'; exact (HL.out w' hw').e)
    (with_reducible refine wq_k ?_ ?_); exact rfl; intro K hK; go_simp; (with_reducible refine hK _ ?_); clear hK K
    intro w9 hb9
    have hf1 := (HL.out w9 hb9).e
    replace HLV := Lib.hid (HLV.out.moved (Keep.of (C := fun _ => False) hb9) (fun b e => e.elim) (fun _ _ => rfl))
    replace HH := Lib.hid (HH.out.old hb9)
    replace HW := Lib.hid (HW.out.old hb9)
    replace HDn := Lib.hid (HDn.out.quiet hb9); replace HV := Lib.hid (HV.out.old hb9); replace hq := below_look hb9 hq; replace hq2 := below_look hb9 hq2; replace hr := below_look hb9 hr; clear hb9
    clear HL hp HRV
    go_upto_region 5 with (fail)
    by_cases c1 : 0 ≤ f ∧ f < (o.elems.length : Int)
    · obtain ⟨j, rfl⟩ : ∃ j : Nat, f = (j : Int) := ⟨f.toNat, by omega⟩
      have hjl : j < o.elems.length := by omega
      have hjlI : (j : Int) < (o.elems.length : Int) := by omega
      have c2 : ¬ (j : Int) < 0 := by omega
      have c3 : ¬ (j : Int) ≥ (o.elems.length : Int) := by omega
      obtain ⟨fb, old, rowo, rfl, hfb, hold, hova, hrow⟩ := HLV.out.at hjl
      have HD2 : Hid (putP h v (j : Int) x = ({ h with bus := h.bus.set n { o with elems := o.elems.set j x } }, old, 0)) := Lib.hid (by rw [HD.out, if_pos c1]; simp [hold])
      have HFB := Lib.hid hfb
      have HRO := Lib.hid hrow
      have HOV := Lib.hid hova
      have hos := hova.size
      have ho1 := hova.one
      clear HD c1 hfb hold hova hrow
      apply wp_region_lit
      (with_reducible refine wl_k ?_ ?_); exact rfl; intro K hK; go_simp; refine hK _ ?_; clear hK K
      (with_reducible refine wl_k ?_ ?_); exact rfl; intro K hK; go_simp; refine hK _ ?_; clear hK K
      (with_reducible refine wl_k ?_ ?_); exact rfl; intro K hK; go_simp; refine hK _ ?_; clear hK K
      (with_reducible refine wl_k ?_ ?_); exact rfl; intro K hK; go_simp; refine hK _ ?_; clear hK K
      (with_reducible refine wl_k ?_ ?_); exact rfl; intro K hK; go_simp; refine hK _ ?_; clear hK K
      (with_reducible refine wl_k ?_ ?_); exact rfl; intro K hK; go_simp; refine hK _ ?_; clear hK K
      (with_reducible refine wl_k ?_ ?_); exact rfl; intro K hK; go_simp; refine hK _ ?_; clear hK K
      (with_reducible refine wl_k ?_ ?_); exact rfl; intro K hK; go_simp; refine hK _ ?_; clear hK K
      go_upto_region 7 with (fail)
      have hzz := Below.refl w9.heap.size w9
      apply wp_region_lit
      (with_reducible refine wl_k ?_ ?_); exact rfl; intro K hK; go_simp; refine hK _ ?_; clear hK K
      (with_reducible refine wl_k ?_ ?_); exact rfl; intro K hK; go_simp; refine hK _ ?_; clear hK K
      (with_reducible refine wl_k ?_ ?_); exact rfl; intro K hK; go_simp; refine hK _ ?_; clear hK K
      ((with_reducible apply wl_rowG); exact rfl; exact rfl; exact HRO.out _ (Below.refl _ _))
      (with_reducible refine wl_allV ?_); intro W5 q5 hbn hlq5 hq5; replace hzz := hzz.trans (hbn.mono hzz.size); clear hbn; simp only [put_lit, List.set_cons_zero, List.set_cons_succ]
      (with_reducible refine wl_putV hos ho1 rfl rfl rfl hq5 ?_); rw [put_noneA]; intro W6 hbx hsz hkx hnx; replace hzz := hbx _ _ (by omega) hzz; clear hq5; have hq5 := hnx; clear hnx
      clear hbx hkx hsz HRO
      have HQ5 : Hid (¬ Mine (mark G k r) k q5) := Lib.hid (fun hm => by obtain ⟨z, e, -⟩ := hm; rw [HDn.out.fr q5 (by omega)] at e; cases e)
      replace HDn := Lib.hid (HDn.out.quiet hzz)
      replace HV := Lib.hid (HV.out.old hzz)
      replace HW := Lib.hid (HW.out.old hzz)
      replace HOV := Lib.hid (HOV.out.old hzz)
      have hHH := HH.out.old hzz
      have hLV := HLV.out.moved (Keep.of (C := fun _ => False) hzz) (fun b e => e.elim) (fun _ _ => rfl)
      obtain ⟨g2, fA2, fc2, e2, -, hL2, -, hun2⟩ := hHH.buf HOO.out
      cases e2
      obtain ⟨g3, fA3, fc3, e2, -, hL3, -, -⟩ := HH.out.buf HOO.out
      cases e2
      have e3 := one_eq hf1 (hL3 w9 (Below.refl _ _)).e
      cases e3
      have e3 := one_eq (hL3 W6 hzz).e (hL2 W6 (Below.refl _ _)).e
      cases e3
      replace hq2 := below_look hzz hq2; replace hr := below_look hzz hr
      obtain ⟨cur, hcur, hfit, hlp⟩ := hLV.put hjl HW.out
      have hset := hHH.setE (o' := { o with elems := o.elems.set j x }) HOO.out rfl (f := fb) (fc := fc) hun2 HFB.out (by simp) rfl hlp
      have HDN := Lib.hid (HDn.out.row ⟨_, HFB.out, by simp⟩ hset)
      have hk := Keep.rowOne W6 fb (putN cur (j * 9) rowx)
      have hrf : ¬ r = fb := fun e => by have h1 := HFB.out; rw [← e, HM.out] at h1; cases h1
      have hqf : ¬ q5 = fb := fun e => HQ5.out ⟨.elm n, by rw [e]; exact HFB.out, by simp⟩
      have HOV2 := Lib.hid (HOV.out.keep hk (fun b hb e => by unfold Imm at hb; rw [e, HFB.out] at hb; cases hb))
      have hr2 := hk.look hr hrf
      have hq3 := hk.look hq5 hqf
      clear hset hun2 hL2 hL3 hf1 hk hlp HDn HH HLV HOV hr hq5 HV HW hHH hLV hzz
      go_upto_region 8 with (fail)
      apply wp_region_lit
      (with_reducible refine wl_k ?_ ?_); exact rfl; intro K hK; go_simp; refine hK _ ?_; clear hK K
      (with_reducible refine wl_k ?_ ?_); exact rfl; intro K hK; go_simp; refine hK _ ?_; clear hK K
      ((with_reducible apply wl_rowG); exact rfl; exact rfl; exact row35 hq2 hxs)
      (with_reducible refine wl_k ?_ ?_); exact rfl; intro K hK; go_simp; refine hK _ ?_; clear hK K
      refine wl_storeN rfl 35 _ _ rfl info35 rfl rfl hxs hx1 hcur hfit ?_
      rw [put_noneA]
      have hr := hr2
      have hq5 := hq3
      clear hr2 hq2 hq3 hcur hfit hrf hqf hq
      obtain ⟨W12, hW⟩ : ∃ W, W = W6.setRow fb (putN cur (j * 9) rowx) := ⟨_, rfl⟩
      rw [← hW] at HDN HOV2 hr hq5 ⊢
      clear hW
      go_upto_region 9 with (fail)
      apply wp_region_lit
      ((with_reducible apply wl_rowG); exact rfl; exact rfl; exact row35 hq5 hos)
      (with_reducible refine wl_putV hos ho1 hzs rfl rfl hr ?_); rw [put_noneA]; intro W13 hbx hsz hkx hnx
      have HK12 := Lib.hid (Keep.of_put hbx hsz hkx)
      clear hbx hsz hkx hr
      (with_reducible refine wl_k ?_ ?_); exact rfl; intro K hK; go_simp; refine hK _ ?_; clear hK K
      go_wp2_with fail
      refine bodyPost_ret (res35t rfl _ _ r rfl rfl hos hnx) rfl ?_
      rw [HD2.out]
      exact ⟨_, _, rfl, HOV2.out.put HM.out HK12.out, HDN.out.put HM.out HRl.out HK12.out⟩
    · have HD2 : Hid (putP h v f x = (h, va0, 1)) := Lib.hid (by rw [HD.out, if_neg c1])
      clear HD
      by_cases c2 : f < 0
      · clear c1
        apply wp_region_lit
        (with_reducible refine wl_k ?_ ?_); exact rfl; intro K hK; go_simp; refine hK _ ?_; clear hK K
        (with_reducible refine wl_k ?_ ?_); exact rfl; intro K hK; go_simp; refine hK _ ?_; clear hK K
        (with_reducible refine wl_k ?_ ?_); exact rfl; intro K hK; go_simp; refine hK _ ?_; clear hK K
        (first | ((with_reducible refine wl_skipU ?_ ?_ ?_); exact rfl; exact rfl) | ((with_reducible refine wl_skip ?_ ?_); exact rfl; simp only [put_lit, List.set_cons_zero, List.set_cons_succ]))
        (first | ((with_reducible refine wl_skipU ?_ ?_ ?_); exact rfl; exact rfl) | ((with_reducible refine wl_skip ?_ ?_); exact rfl; simp only [put_lit, List.set_cons_zero, List.set_cons_succ]))
        (first | ((with_reducible refine wl_skipU ?_ ?_ ?_); exact rfl; exact rfl) | ((with_reducible refine wl_skip ?_ ?_); exact rfl; simp only [put_lit, List.set_cons_zero, List.set_cons_succ]))
        (first | ((with_reducible refine wl_skipU ?_ ?_ ?_); exact rfl; exact rfl) | ((with_reducible refine wl_skip ?_ ?_); exact rfl; simp only [put_lit, List.set_cons_zero, List.set_cons_succ]))
        (with_reducible refine wl_k ?_ ?_); exact rfl; intro K hK; go_simp; refine hK _ ?_; clear hK K
        go_upto_region 6 with (fail)
        apply wp_region_lit
        refine wl_w rfl (build35 _ _ rfl _) ?_
        simp only [put_lit, List.set_cons_zero, List.set_cons_succ]
        (with_reducible refine wl_putV rfl zone hzs rfl rfl hr ?_); rw [put_noneA]; intro W10 hbx hsz hkx hnx
        replace HDn := Lib.hid (HDn.out.put HM.out HRl.out (Keep.of_put hbx hsz hkx))
        clear hr hbx hsz hkx
        have hr := hnx
        clear hnx
        (with_reducible refine wl_k ?_ ?_); exact rfl; intro K hK; go_simp; refine hK _ ?_; clear hK K
        go_wp2_with fail
        refine bodyPost_ret (res35t rfl _ _ r rfl rfl rfl hr) rfl ?_
        rw [HD2.out]
        exact ⟨_, zrow, rfl, zero_va _ _, HDn.out⟩
      · have c3 : f ≥ (o.elems.length : Int) := by omega
        clear c1
        apply wp_region_lit
        (with_reducible refine wl_k ?_ ?_); exact rfl; intro K hK; go_simp; refine hK _ ?_; clear hK K
        (with_reducible refine wl_k ?_ ?_); exact rfl; intro K hK; go_simp; refine hK _ ?_; clear hK K
        (with_reducible refine wl_k ?_ ?_); exact rfl; intro K hK; go_simp; refine hK _ ?_; clear hK K
        (with_reducible refine wl_k ?_ ?_); exact rfl; intro K hK; go_simp; refine hK _ ?_; clear hK K
        (with_reducible refine wl_k ?_ ?_); exact rfl; intro K hK; go_simp; refine hK _ ?_; clear hK K
        (with_reducible refine wl_k ?_ ?_); exact rfl; intro K hK; go_simp; refine hK _ ?_; clear hK K
        (with_reducible refine wl_k ?_ ?_); exact rfl; intro K hK; go_simp; refine hK _ ?_; clear hK K
        (with_reducible refine wl_k ?_ ?_); exact rfl; intro K hK; go_simp; refine hK _ ?_; clear hK K
        go_upto_region 6 with (fail)
        apply wp_region_lit
        refine wl_w rfl (build35 _ _ rfl _) ?_
        simp only [put_lit, List.set_cons_zero, List.set_cons_succ]
        (with_reducible refine wl_putV rfl zone hzs rfl rfl hr ?_); rw [put_noneA]; intro W10 hbx hsz hkx hnx
        replace HDn := Lib.hid (HDn.out.put HM.out HRl.out (Keep.of_put hbx hsz hkx))
        clear hr hbx hsz hkx
        have hr := hnx
        clear hnx
        (with_reducible refine wl_k ?_ ?_); exact rfl; intro K hK; go_simp; refine hK _ ?_; clear hK K
        go_wp2_with fail
        refine bodyPost_ret (res35t rfl _ _ r rfl rfl rfl hr) rfl ?_
        rw [HD2.out]
        exact ⟨_, zrow, rfl, zero_va _ _, HDn.out⟩
  · have HD : Hid (putP h v f x = (h, va0, pe)) := Lib.hid (by unfold putP; rw [← HPE.out, if_neg c0])
    have h0b : (pe != 0) = true := by simp [c0]
    apply wp_region_lit
    (with_reducible refine wl_k ?_ ?_); exact rfl; intro K hK; go_simp; refine hK _ ?_; clear hK K
    (with_reducible refine wl_k ?_ ?_); exact rfl; intro K hK; go_simp; refine hK _ ?_; clear hK K
    clear c0
    go_upto_region 3 with (fail)
    apply wp_region_lit
    refine wl_w rfl (build35 _ _ rfl _) ?_
    simp only [put_lit, List.set_cons_zero, List.set_cons_succ]
    (with_reducible refine wl_k ?_ ?_); exact rfl; intro K hK; go_simp; refine hK _ ?_; clear hK K
    (with_reducible refine wl_putV rfl zone hzs rfl rfl hr ?_); rw [put_noneA]; intro W10 hbx hsz hkx hnx
    replace HDn := Lib.hid (HDn.out.put HM.out HRl.out (Keep.of_put hbx hsz hkx))
    clear hr hbx hsz hkx
    have hr := hnx
    clear hnx
    (with_reducible refine wl_k ?_ ?_); exact rfl; intro K hK; go_simp; refine hK _ ?_; clear hK K
    go_wp2_with fail
    refine bodyPost_ret (res35t rfl _ _ r rfl rfl rfl hr) rfl ?_
    rw [HD.out]
    exact ⟨_, zrow, rfl, zero_va _ _, HDn.out⟩
end Go.Proofs.Ytpamocglecangaa
namespace Go.Proofs.Ytpamocglecangaa
open Go.RowKit Go.Proofs.Ytpamocglecangaa.Nm
set_option linter.unusedSimpArgs false
theorem built101v (a0 a1 a2 a3 a4 a5 a6 a7 a8 : Value) : Try.prog.built 101 [(0, .agg #[a0, a1, a2, a3, a4, a5, a6, a7, a8])] = some (#[a0, a1, a2, a3, a4, a5, a6, a7, a8] ++ #[.int .i64 0, .int .i64 0, .int .i64 0]) := by kernel_rfl
theorem ex_build101v {ev : Operand → Value} {o : Oper} {w : World} (x : Operand) (ho : o.op = .build 101 #[(0, x)]) {row : Array Value} (ht : row.size = 9) (hx : ev x = .agg row) :
    (execOp ev o).run Try.prog w = .ok (.value (.agg (row ++ #[.int .i64 0, .int .i64 0, .int .i64 0]))) w := by
  obtain ⟨l0⟩ := row
  match l0, ht with
  | [a0, a1, a2, a3, a4, a5, a6, a7, a8], _ => exact ex_build 101 _ ho (by simp only [List.map_cons, List.map_nil, hx]) (built101v a0 a1 a2 a3 a4 a5 a6 a7 a8)
theorem run_bs98' (a0 a1 a2 a3 a4 a5 a6 a7 a8 a9 a10 a11 : Value) (w : World) : (Instr.buildSlice 98 1 #[(0, .agg #[a0, a1, a2, a3, a4, a5, a6, a7, a8, a9, a10, a11])]).run Try.prog w = .ok (.slice (some ⟨w.heap.size, 0, none⟩) 1 1) (w.alloc (.cells #[a0, a1, a2, a3, a4, a5, a6, a7, a8, a9, a10, a11] 101)) := by kernel_rfl
theorem ex_bs98 {ev : Operand → Value} {o : Oper} {w : World} (x : Operand) (ho : o.op = .buildSlice 98 1 #[(0, x)]) {row : Array Value} (hx : ev x = .agg row) (h : row.size = 12) :
    (execOp ev o).run Try.prog w = .ok (.value (.slice (some ⟨w.heap.size, 0, none⟩) 1 1)) (w.alloc (.cells row 101)) := by
  obtain ⟨l⟩ := row
  match l, h with
  | [a0, a1, a2, a3, a4, a5, a6, a7, a8, a9, a10, a11], _ =>
    unfold execOp
    have := run_bs98' a0 a1 a2 a3 a4 a5 a6 a7 a8 a9 a10 a11 w
    simp [ho, hx, this, Result.andThen]
theorem run_bs85' (A : Option Addr) (l c : Nat) (w : World) : (Instr.buildSlice 85 1 #[(0, .slice A l c)]).run Try.prog w = .ok (.slice (some ⟨w.heap.size, 0, none⟩) 1 1) (w.alloc (.cells #[.slice A l c] 98)) := by kernel_rfl
theorem ex_bs85 {ev : Operand → Value} {o : Oper} {w : World} (x : Operand) (ho : o.op = .buildSlice 85 1 #[(0, x)]) {A : Option Addr} {l c : Nat} (hx : ev x = .slice A l c) :
    (execOp ev o).run Try.prog w = .ok (.value (.slice (some ⟨w.heap.size, 0, none⟩) 1 1)) (w.alloc (.cells #[.slice A l c] 98)) := by
  unfold execOp
  have := run_bs85' A l c w
  simp [ho, hx, this, Result.andThen]
theorem trow_size {row : Array Value} (h : row.size = 9) (a b c : Value) : (row ++ #[a, b, c]).size = 12 := by simp [h]
theorem trow_one {row : Array Value} (h : row.all (·.oneCell') = true) {a b c : Int} : (row ++ #[Value.int .i64 a, Value.int .i64 b, Value.int .i64 c]).all (·.oneCell') = true := by
  rw [Array.all_append, h]
  simp [Value.oneCell']
def ErrOf (w : World) (G : Gh) (k p : Nat) (r : Hp × Int) (e : Ending) (w' : World) : Prop := ∃ G', e = .returned (.int .i64 r.2) ∧ Done w G k p r.1 w' G'
def endP (h : Hp) (v : Va) : Hp × Int := if ofV h.obs.length h.bus.length v then (if deadV h v then (h, 140) else ({ h with lev := h.lev ++ [[.val v]] }, 0)) else (h, 4)
set_option maxHeartbeats 8000000 in
set_option maxRecDepth 100000 in
theorem End_any {G : Gh} {k p : Nat} {h : Hp} {w : World} (hh : HeapAt w G k p h) (hf : Fr w G) (hnb : h.lev.length ≤ 1000000) {v : Va} {row : Array Value} (hv : VAt w (Imm G) v row) :
    Calls Try.prog 25 #[.pointer (some ⟨p, 0, none⟩), .agg row] w (ErrOf w G k p (endP h v)) := by
  have HX := Lib.hid hh
  have HF := Lib.hid hf
  have HV := Lib.hid hv
  have hvs := hv.size
  have hv1 := hv.one
  have hb := Below.refl w.heap.size w
  clear hh hf hv
  go_enter Try.func25, Try.ntmps25
  go_upto_region 0 with (fail)
  apply wp_region_lit
  (with_reducible refine wl_boxV rfl ?_); intro W q hbn hlq hq; replace hb := hb.trans (hbn.mono hb.size); clear hbn; simp only [put_lit, List.set_cons_zero, List.set_cons_succ]
  (with_reducible refine wl_k ?_ ?_); exact rfl; intro K hK; go_simp; refine hK _ ?_; clear hK K
  have HQG : Hid (G q = none) := Lib.hid (HF.out q (by omega))
  have HDn := Lib.hid (Done.calm HX.out HF.out hb)
  replace HV := Lib.hid (HV.out.old hb)
  clear HX HF hb
  obtain ⟨bb, hbb⟩ : ∃ b, b = ofV h.obs.length h.bus.length v := ⟨_, rfl⟩
  have hc := of_done HDn.out.heap HV.out
  rw [← hbb] at hc
  have HC := Lib.hid hc
  have HB := Lib.hid hbb
  clear hc hbb
  go_upto_region 1 with (fail)
  apply wp_region_lit
  (with_reducible refine wl_k ?_ ?_); exact rfl; intro K hK; go_simp; refine hK _ ?_; clear hK K
  (with_reducible refine wl_k ?_ ?_); exact rfl; intro K hK; go_simp; refine hK _ ?_; clear hK K
  (with_reducible refine wl_k ?_ ?_); exact rfl; intro K hK; go_simp; refine hK _ ?_; clear hK K
  (with_reducible refine wl_k ?_ ?_); exact rfl; intro K hK; go_simp; refine hK _ ?_; clear hK K
  ((with_reducible apply wl_rowG); exact rfl; exact rfl; exact row35 hq hvs)
  (with_reducible refine wl_ck ?_ ?_); exact rfl; intro K hK; go_simp; refine ⟨_, _, ⟨rfl, rfl⟩, hK _ _ ⟨_, HC.out, ?_⟩⟩; clear hK K; rintro e w7 ⟨rfl, hb7⟩; refine ⟨_, rfl, ?_⟩; simp only [put_lit, List.set_cons_zero, List.set_cons_succ]
  replace HDn := Lib.hid (HDn.out.quiet hb7); replace HV := Lib.hid (HV.out.old hb7); replace hq := below_look hb7 hq; clear hb7
  (with_reducible refine wl_k ?_ ?_); exact rfl; intro K hK; go_simp; refine hK _ ?_; clear hK K
  (with_reducible refine wl_k ?_ ?_); exact rfl; intro K hK; go_simp; refine hK _ ?_; clear hK K
  (with_reducible refine wl_k ?_ ?_); exact rfl; intro K hK; go_simp; refine hK _ ?_; clear hK K
  clear HC
  cases bb with
  | false =>
    have HD : Hid (endP h v = (h, 4)) := Lib.hid (by unfold endP; rw [← HB.out]; rfl)
    go_upto_region 2 with (fail)
    apply wp_region_lit
    (with_reducible refine wl_k ?_ ?_); exact rfl; intro K hK; go_simp; refine hK _ ?_; clear hK K
    go_wp2_with fail
    go_ret
    rw [HD.out]
    exact ⟨_, rfl, HDn.out⟩
  | true =>
    obtain ⟨bd, hbd⟩ : ∃ b, b = deadV h v := ⟨_, rfl⟩
    have hc := dead_done HDn.out.heap HV.out HB.out.symm
    rw [← hbd] at hc
    have HC := Lib.hid hc
    have HBD := Lib.hid hbd
    clear hc hbd
    go_upto_region 3 with (fail)
    apply wp_region_lit
    (with_reducible refine wl_k ?_ ?_); exact rfl; intro K hK; go_simp; refine hK _ ?_; clear hK K
    ((with_reducible apply wl_rowG); exact rfl; exact rfl; exact row35 hq hvs)
    (with_reducible refine wl_ck ?_ ?_); exact rfl; intro K hK; go_simp; refine ⟨_, _, ⟨rfl, rfl⟩, hK _ _ ⟨_, HC.out, ?_⟩⟩; clear hK K; rintro e w8 ⟨rfl, hb8⟩; refine ⟨_, rfl, ?_⟩; simp only [put_lit, List.set_cons_zero, List.set_cons_succ]
    replace HDn := Lib.hid (HDn.out.quiet hb8); replace HV := Lib.hid (HV.out.old hb8); replace hq := below_look hb8 hq; clear hb8
    (with_reducible refine wl_k ?_ ?_); exact rfl; intro K hK; go_simp; refine hK _ ?_; clear hK K
    clear HC
    cases bd with
    | true =>
      have HD : Hid (endP h v = (h, 140)) := Lib.hid (by unfold endP; rw [← HB.out, ← HBD.out]; rfl)
      go_upto_region 4 with (fail)
      apply wp_region_lit
      (with_reducible refine wl_k ?_ ?_); exact rfl; intro K hK; go_simp; refine hK _ ?_; clear hK K
      go_wp2_with fail
      go_ret
      rw [HD.out]
      exact ⟨_, rfl, HDn.out⟩
    | false =>
      have HD : Hid (endP h v = ({ h with lev := h.lev ++ [[.val v]] }, 0)) := Lib.hid (by unfold endP; rw [← HB.out, ← HBD.out]; rfl)
      obtain ⟨oA, oc, bA, bc, m, lA, lc, hh⟩ := HDn.out.heap
      have HH := Lib.hid hh
      have hp := hh.blk
      have hpG := hh.rp
      have hnp : ∀ b, b = p → ¬ (lA = some ⟨b, 0, none⟩) := fun b e e2 => by
        obtain ⟨-, -, -, hor, -⟩ := HH.out.lev
        have := hor b e2; rw [e, hpG] at this; cases this
      have hnq : ¬ (lA = some ⟨q, 0, none⟩) := fun e2 => by
        obtain ⟨-, -, -, hor, -⟩ := HH.out.lev
        have := hor q e2; rw [HQG.out] at this; cases this
      have HNP := Lib.hid hnp
      have HNQ := Lib.hid hnq
      clear hnp hnq hh
      have HKV := Lib.hid (trow_one (a := 0) (b := 0) (c := 0) hv1)
      go_upto_region 5 with (fail)
      refine wp_region_Z (S := fun w' => Keep (fun b => lA = some ⟨b, 0, none⟩) w8 w') 12 mixed (Keep.of ((Below.refl _ _).drew)) (fun hS => ?_)
      have hbz : Below w8.heap.size w8 w8.drew := (Below.refl _ _).drew
      refine za_k (i := 0) rfl (by kernel_rfl) (by kernel_rfl) (by kernel_rfl) (by kernel_rfl) (fun _ _ _ _ h => h) hS rfl (fun K hK => ?_); go_simp; refine hK _ ?_; clear hK K; try simp only [put_lit, List.set_cons_zero, List.set_cons_succ]
      refine za_k (i := 1) rfl (by kernel_rfl) (by kernel_rfl) (by kernel_rfl) (by kernel_rfl) (fun _ _ _ _ h => h) hS rfl (fun K hK => ?_); go_simp; refine hK _ ?_; clear hK K; try simp only [put_lit, List.set_cons_zero, List.set_cons_succ]
      refine za_k (i := 2) rfl (by kernel_rfl) (by kernel_rfl) (by kernel_rfl) (by kernel_rfl) (fun _ _ _ _ h => h) hS rfl (fun K hK => ?_); go_simp; refine hK _ ?_; clear hK K; try simp only [put_lit, List.set_cons_zero, List.set_cons_succ]
      refine za_k (i := 3) rfl (by kernel_rfl) (by kernel_rfl) (by kernel_rfl) (by kernel_rfl) (fun _ _ _ _ h => h) hS rfl (fun K hK => ?_); go_simp; refine hK _ ?_; clear hK K; try simp only [put_lit, List.set_cons_zero, List.set_cons_succ]
      refine za_val (i := 4) rfl (by kernel_rfl) (by kernel_rfl) (by kernel_rfl) (by kernel_rfl) (fun _ _ _ h => h) hS rfl (fun w' hw' => ex_one rfl (h3 (hw'.look hp (HNP.out _ rfl)))) ?_; try simp only [put_lit, List.set_cons_zero, List.set_cons_succ]
      refine za_val (i := 5) rfl (by kernel_rfl) (by kernel_rfl) (by kernel_rfl) (by kernel_rfl) (fun _ _ _ h => h) hS rfl (fun w' hw' => ex_row rfl (row35 (hw'.look hq HNQ.out) hvs)) ?_; try simp only [put_lit, List.set_cons_zero, List.set_cons_succ]
      refine za_val (i := 6) rfl (by kernel_rfl) (by kernel_rfl) (by kernel_rfl) (by kernel_rfl) (fun _ _ _ h => h) hS rfl (fun w' hw' => ex_build101v _ rfl hvs rfl) ?_; try simp only [put_lit, List.set_cons_zero, List.set_cons_succ]
      refine za_new (i := 7) (v := fun q => .slice (some ⟨q, 0, none⟩) 1 1) (by kernel_rfl) rfl rfl (ex_bs98 _ rfl rfl (trow_size hvs _ _ _)) (fun W hW => hS.trans (C' := fun _ => False) (fun b e => e.elim) (Keep.of hW)) ?_
      clear hS
      intro W7 q7 hbn hlq7 hq7 hS
      try simp only [put_lit, List.set_cons_zero, List.set_cons_succ]
      replace hbn := hbz.trans (hbn.mono hbz.size)
      have hlq7 : w8.heap.size ≤ q7 := hlq7
      have hd7 := Done.owned (A := some ⟨q7, 0, none⟩) (r := .lvl h.lev.length) HDn.out.heap HDn.out.fr hbn (fun g e => by cases e; exact ⟨hlq7, heap_lt hq7⟩)
      obtain ⟨G7, hG7⟩ : ∃ G7, G7 = own G (some ⟨q7, 0, none⟩) (k, .lvl h.lev.length) := ⟨_, rfl⟩
      have HR7 : Hid (RoleOf G7 (some ⟨q7, 0, none⟩) (k, .lvl h.lev.length)) := Lib.hid (by rw [hG7]; exact own_role _ _ _)
      rw [← hG7] at hd7
      have hhh := (HH.out.regh hd7.old).old hbn
      replace HV := Lib.hid (HV.out.moved (Keep.of (C := fun _ => False) hbn) (fun b e => e.elim) hd7.old)
      replace HDn := Lib.hid (HDn.out.trans hd7)
      clear HH
      have HH := Lib.hid hhh
      have hp7 := below_look hbn hp
      clear hd7 hG7 hhh hbn hbz
      refine za_new (i := 8) (v := fun q => .slice (some ⟨q, 0, none⟩) 1 1) (by kernel_rfl) rfl rfl (ex_bs85 _ rfl rfl) (fun W hW => hS.trans (C' := fun _ => False) (fun b e => e.elim) (Keep.of hW)) ?_
      clear hS
      intro W8 q8 hbn hlq8 hq8 hS
      try simp only [put_lit, List.set_cons_zero, List.set_cons_succ]
      replace HDn := Lib.hid (HDn.out.quiet hbn)
      replace HH := Lib.hid (HH.out.old hbn)
      replace HV := Lib.hid (HV.out.old hbn)
      replace hp7 := below_look hbn hp7
      replace hq7 := below_look hbn hq7
      clear hbn
      have HTK : Hid (TksAt W8 G7 (k, .lvl h.lev.length) [.val v] (some ⟨q7, 0, none⟩) 1) := Lib.hid (by
        refine ⟨[row ++ #[.int .i64 0, .int .i64 0, .int .i64 0]], ⟨fun r hr => ?_, Nat.le_refl _, by unfold maxLen; omega, .inr ⟨q7, _, rfl, hq7, by rw [trow_size hvs], fun i r hr => ?_⟩⟩, rfl, HR7.out, fun j t rw0 hj hr => ?_⟩
        · rw [List.mem_singleton.1 hr]; exact trow_size hvs _ _ _
        · match i, hr with
          | 0, hr =>
            cases hr
            rw [Nat.zero_mul]
            have := trow_size hvs (.int .i64 0) (.int .i64 0) (.int .i64 0)
            simp [Array.extract_eq_self_of_le, this]
        · match j, hj, hr with
          | 0, hj, hr =>
            cases hj; cases hr
            exact ⟨row, HV.out, rfl⟩)
      obtain ⟨rows, ho, hlr, hor, hvr⟩ := HH.out.lev
      have HO := Lib.hid ho
      have HV8 := Lib.hid hvr
      have HOR := Lib.hid hor
      have HLR := Lib.hid hlr
      have hlen : rows.length ≤ 1000000 := by omega
      clear ho hvr hor
      refine za_pushL (i := 9) elt85 (by kernel_rfl) rfl rfl _ _ rfl (show _ = Value.slice lA rows.length lc by rw [HLR.out]; rfl) rfl HO.out hq8 rfl (by simp [Value.oneCell']) (by omega) (by unfold maxLen; omega) (fun w' hk => hS.trans (C' := fun b => lA = some ⟨b, 0, none⟩) (fun b e => .inl e) hk) ?_
      clear hS
      intro A9 c9 W9 hown hk9 hA9 hS
      rw [HLR.out]
      try simp only [put_lit, List.set_cons_zero, List.set_cons_succ]
      replace hp7 := hk9.look hp7 (HNP.out _ rfl)
      have hd10 := Done.addL (ts := [.val v]) HH.out HDn.out.fr HLR.out HV8.out hown hk9 HOR.out hA9 HTK.out
      rw [HLR.out] at hd10
      obtain ⟨nb, hnb⟩ : ∃ n, n = h.lev.length + 1 := ⟨_, rfl⟩
      rw [← hnb] at hd10 ⊢
      have HNB := Lib.hid hnb
      clear hnb
      have HDN := Lib.hid (HDn.out.trans hd10)
      obtain ⟨hs1, hs2, -⟩ := hdr_set (j := 3) (v := .slice A9 nb c9) hp7
      have hs1 := hs1 (by omega)
      clear hown hk9 hA9 hd10 HDn HH HO HV8 HOR hp7 HV HTK hq7
      refine za_1 (i := 10) (by kernel_rfl) rfl rfl hS (fun K hK => ?_); go_simp; refine hK _ ?_; clear hK K; try simp only [put_lit, List.set_cons_zero, List.set_cons_succ]
      refine za_1 (i := 11) (by kernel_rfl) rfl rfl hS (fun K hK => ?_); go_simp; refine hK _ ?_; clear hK K; try simp only [put_lit, List.set_cons_zero, List.set_cons_succ]
      refine za_storeC (i := 12) (by kernel_rfl) rfl rfl 85 _ _ rfl p 3 (.slice A9 nb c9) rfl rfl info85 rfl hs1 hs2 (fun h => absurd rfl h) ?_
      clear hS
      refine za_done (by kernel_rfl) ?_ _
      clear hp hq hs1 hs2 hlen
      go_upto_region 6 with (fail)
      apply wp_region_lit
      (with_reducible refine wl_k ?_ ?_); exact rfl; intro K hK; go_simp; refine hK _ ?_; clear hK K
      go_wp2_with fail
      go_ret
      rw [HD.out]
      exact ⟨_, rfl, HDN.out⟩
end Go.Proofs.Ytpamocglecangaa
