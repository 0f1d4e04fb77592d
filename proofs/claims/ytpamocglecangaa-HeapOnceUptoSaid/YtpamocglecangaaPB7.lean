/- The program's Weak and Load. -/
import Derived.Test.YtpamocglecangaaPB6
namespace Go.Proofs.Ytpamocglecangaa
open Go.RowKit Go.Proofs.Ytpamocglecangaa.Nm
set_option linter.unusedSimpArgs false
theorem wf_num {w : World} {D : Nat → Prop} {v : Va} {row : Array Value} (h : VAt w D v row) : (Lit.int .i64 v.num).wf = true := by
  obtain ⟨-, -, -, -, -, -, -, -, -, -, -, -, hn, -⟩ := h.parts
  exact hn
def weakP (h : Hp) (v : Va) : Hp × Va × Int := if v.kind = 7 ∧ ofV h.obs.length h.bus.length v = true then (match h.obs[v.num.toNat]? with | some o => if o.state = 3 then (h, va0, 141) else ({ h with obs := h.obs.set v.num.toNat (addW 1 o) }, .node 11 v.num ⟨#[]⟩ zeroTy [] [], 0) | none => (h, va0, 4)) else (h, va0, 4)
def loadP (h : Hp) (v : Va) : Hp × Va × Bool × Int := if v.kind = 11 ∧ ofV h.obs.length h.bus.length v = true then (match h.obs[v.num.toNat]? with | some o => if o.state = 1 then ({ h with obs := h.obs.set v.num.toNat (addC 1 o) }, .node 7 v.num ⟨#[]⟩ zeroTy [] [], true, 0) else (h, va0, false, 0) | none => (h, va0, false, 4)) else (h, va0, false, 4)
def ValBErr (w : World) (G : Gh) (k p : Nat) (r : Hp × Va × Bool × Int) (e : Ending) (w' : World) : Prop := ∃ G' row, e = .returned (.tuple #[.agg row, .bool r.2.2.1, .int .i64 r.2.2.2]) ∧ VAt w' (Imm G') r.2.1 row ∧ Done w G k p r.1 w' G'
theorem Done.num {w W : World} {G G1 : Gh} {k p : Nat} {h : Hp} (d : Done w G k p h W G1) {oc : Nat} {bA : Option Addr} {bc m : Nat} {lA : Option Addr} {lc g i j : Nat} {h' : Hp} {x : Value} (hg : G1 g = some (k, .arr)) (hh : HAt (W.setCell ⟨g, i * 8 + j, none⟩ x) G1 k p h' (some ⟨g, 0, none⟩) oc bA bc m lA lc) : Done w G k p h' (W.setCell ⟨g, i * 8 + j, none⟩ x) G1 :=
  d.trans ⟨⟨_, _, _, _, _, _, _, hh⟩, d.fr.on (by simp), fun b _ => rfl, fun b hb => .inl (d.fr b hb), (Keep.refl _ W).trans (C' := fun b => b = g) (fun b e => .inl ⟨.arr, by rw [e]; exact hg, by simp⟩) (Keep.cellOne W g (i * 8 + j) x)⟩
theorem mine_arr {G : Gh} {k r g : Nat} (h : G r = some (k, .tmp)) (hg : G g = some (k, .arr)) : r ≠ g := fun e => by rw [e, hg] at h; cases h
/- objx: the object that the value names -/
/- objq(w9;;hb9): behind a quiet region -/
set_option maxHeartbeats 8000000 in
set_option maxRecDepth 100000 in
theorem Weak_any {G : Gh} {k p : Nat} {h : Hp} {w : World} (hh : HeapAt w G k p h) (hf : Fr w G) {v : Va} {row : Array Value} (hv : VAt w (Imm G) v row) :
    Calls Try.prog 29 #[.pointer (some ⟨p, 0, none⟩), .agg row] w (ValErr w G k p (weakP h v)) := by
  have HX := Lib.hid hh
  have HF := Lib.hid hf
  have HV := Lib.hid hv
  have hvs := hv.size
  have hv1 := hv.one
  have hzs : zrow.size = 9 := rfl
  have zone : zrow.all (·.oneCell') = true := (zero_va w (Imm G)).one
  have hb := Below.refl w.heap.size w
  clear hh hf hv
  go_enter Try.func29, Try.ntmps29
  go_upto_region 0 with (fail)
  apply wp_region_lit
  (with_reducible refine wl_boxV rfl ?_); intro W q hbn hlq hq; replace hb := hb.trans (hbn.mono hb.size); clear hbn; simp only [put_lit, List.set_cons_zero, List.set_cons_succ]
  have lthqr := heap_lt hq; (with_reducible refine wl_allV ?_); intro W2 r hbn hlr hr; replace hq := below_look hbn hq; replace hb := hb.trans (hbn.mono hb.size); clear hbn; simp only [put_lit, List.set_cons_zero, List.set_cons_succ]
  (with_reducible refine wl_k ?_ ?_); exact rfl; intro K hK; go_simp; refine hK _ ?_; clear hK K
  have hrl : w.heap.size ≤ r := by omega
  have hql := heap_lt hq
  have HRl := Lib.hid hrl
  have hqG : G q = none := HF.out q (by omega)
  have HQ : Hid (¬ Mine (mark G k r) k q) := Lib.hid (by rintro ⟨x, e, -⟩; unfold mark at e; rw [if_neg (by omega), hqG] at e; cases e)
  have HDn := Lib.hid (Done.marked HX.out HF.out hb hrl (heap_lt hr))
  have HM := Lib.hid (mark_same G k r)
  have HNM := Lib.hid (mark_not G k r)
  have hvv := HDn.out.va HV.out
  clear HV
  have HV := Lib.hid hvv
  clear hvv HX HF hb hrl hql hqG
  obtain ⟨trv, A2v, l2v, c2v, A3v, l3v, c3v, hrv⟩ := HV.out.row
  have HRV := Lib.hid hrv
  clear hrv
  go_upto_region 1 with (fail)
  by_cases h7 : v.kind = 7
  · have e7 : (v.kind != 7) = false := by simp [h7]
    have HK7 := Lib.hid h7
    clear h7
    obtain ⟨bb, hbb⟩ : ∃ b, b = ofV h.obs.length h.bus.length v := ⟨_, rfl⟩
    have hc := of_done HDn.out.heap HV.out
    rw [← hbb] at hc
    have HC := Lib.hid hc
    have HB := Lib.hid hbb
    clear hc hbb
    apply wp_region_lit
    (with_reducible refine wl_k ?_ ?_); exact rfl; intro K hK; go_simp; refine hK _ ?_; clear hK K
    (with_reducible refine wl_k ?_ ?_); exact rfl; intro K hK; go_simp; refine hK _ ?_; clear hK K
    (with_reducible refine wl_k ?_ ?_); exact rfl; intro K hK; go_simp; refine hK _ ?_; clear hK K
    (with_reducible refine wl_k ?_ ?_); exact rfl; intro K hK; go_simp; refine hK _ ?_; clear hK K
    (first | ((with_reducible apply wl_oneG); exact rfl; exact rfl; first | exact vk (by with_reducible assumption) (by with_reducible assumption) | exact vn (by with_reducible assumption) (by with_reducible assumption) | exact vl (by with_reducible assumption) (by with_reducible assumption) | exact vts (by with_reducible assumption) (by with_reducible assumption) | exact vs (by with_reducible assumption) (by with_reducible assumption)) | ((with_reducible apply wl_rowG); exact rfl; exact rfl; first | exact vrow (by with_reducible assumption) (by with_reducible assumption) | exact vt (by with_reducible assumption) (by with_reducible assumption)))
    (with_reducible refine wl_k ?_ ?_); exact rfl; intro K hK; go_simp; refine hK _ ?_; clear hK K
    (with_reducible refine wl_k ?_ ?_); exact rfl; intro K hK; go_simp; refine hK _ ?_; clear hK K
    (with_reducible refine wl_k ?_ ?_); exact rfl; intro K hK; go_simp; refine hK _ ?_; clear hK K
    (with_reducible refine wl_k ?_ ?_); exact rfl; intro K hK; go_simp; refine hK _ ?_; clear hK K
    ((with_reducible apply wl_rowG); exact rfl; exact rfl; exact row35 hq hvs)
    (with_reducible refine wl_ck ?_ ?_); exact rfl; intro K hK; go_simp; refine ⟨_, _, ⟨rfl, rfl⟩, hK _ _ ⟨_, HC.out, ?_⟩⟩; clear hK K; rintro e w7 ⟨rfl, hb7⟩; refine ⟨_, rfl, ?_⟩; simp only [put_lit, List.set_cons_zero, List.set_cons_succ]
    replace HDn := Lib.hid (HDn.out.quiet hb7); replace HV := Lib.hid (HV.out.old hb7); replace hq := below_look hb7 hq; replace hr := below_look hb7 hr; clear hb7
    (with_reducible refine wl_k ?_ ?_); exact rfl; intro K hK; go_simp; refine hK _ ?_; clear hK K
    (with_reducible refine wl_k ?_ ?_); exact rfl; intro K hK; go_simp; refine hK _ ?_; clear hK K
    (with_reducible refine wl_k ?_ ?_); exact rfl; intro K hK; go_simp; refine hK _ ?_; clear hK K
    clear HC
    cases bb with
    | false =>
      have HD : Hid (weakP h v = (h, va0, 4)) := Lib.hid (by unfold weakP; rw [if_neg (fun c => by have := c.2; rw [← HB.out] at this; cases this)])
      go_upto_region 2 with (fail)
      apply wp_region_lit
      refine wl_w rfl (build35 _ _ rfl _) ?_
      simp only [put_lit, List.set_cons_zero, List.set_cons_succ]
      (with_reducible refine wl_putV rfl zone hzs rfl rfl hr ?_); rw [put_noneA]; intro W10 hbx hsz hkx hnx
      replace HDn := Lib.hid (HDn.out.put HM.out HRl.out (Keep.of_put hbx hsz hkx))
      clear hr hbx hsz hkx
      have hr := hnx
      clear hnx
      (with_reducible refine wl_k ?_ ?_); exact rfl; intro K hK; go_simp; refine hK _ ?_; clear hK K
      go_wp2_with fail
      refine bodyPost_ret (res35t rfl _ _ r rfl rfl rfl hr) rfl ?_
      rw [HD.out]
      exact ⟨_, zrow, rfl, zero_va _ _, HDn.out⟩
    | true =>
      have h7 := HK7.out
      clear HRV
      have h1 : 0 ≤ v.num ∧ v.num < (h.obs.length : Int) := by
        have := HB.out
        rw [ofV_eq, if_pos (by omega)] at this
        exact of_decide_eq_true this.symm
      obtain ⟨n, hn⟩ : ∃ n : Nat, v.num = (n : Int) := ⟨v.num.toNat, by omega⟩
      have hnl : n < h.obs.length := by omega
      have hnlI : (n : Int) < (h.obs.length : Int) := by omega
      have ho := List.getElem?_eq_getElem hnl
      obtain ⟨o, hoe⟩ : ∃ o, o = h.obs[n] := ⟨_, rfl⟩
      rw [← hoe] at ho
      obtain ⟨oA, oc, bA, bc, m, lA, lc, hh⟩ := HDn.out.heap
      obtain ⟨g, rows, rfl, hR⟩ := hh.obs.rows ho
      obtain ⟨tr0, fA, fc, hL, -, -⟩ := hR.loads ho
      have HL := Lib.hid hL
      have HOO := Lib.hid ho
      have HH := Lib.hid hh
      have HN := Lib.hid hn
      have hp := hh.blk
      obtain ⟨trv, A2v, l2v, c2v, A3v, l3v, c3v, hrv⟩ := HV.out.row
      have HRV := Lib.hid hrv
      clear hL hR hoe ho hh h1 hrv
      clear h7
      have HD : Hid (weakP h v = if o.state = 3 then (h, va0, 141) else ({ h with obs := h.obs.set n (addW 1 o) }, .node 11 (n : Int) ⟨#[]⟩ zeroTy [] [], 0)) := Lib.hid (by unfold weakP; rw [if_pos ⟨HK7.out, HB.out.symm⟩, HN.out, Int.toNat_natCast, HOO.out])
      go_upto_region 3 with (fail)
      refine wp_region_belowAll mixed (by kernel_rfl) ?_
      (with_reducible refine wq_k ?_ ?_); exact rfl; intro K hK; go_simp; (with_reducible refine hK _ ?_); clear hK K
      (with_reducible refine wq_k ?_ ?_); exact rfl; intro K hK; go_simp; (with_reducible refine hK _ ?_); clear hK K
      (with_reducible refine wq_k ?_ ?_); exact rfl; intro K hK; go_simp; (with_reducible refine hK _ ?_); clear hK K
      ((with_reducible apply wq_one); exact rfl; exact rfl; intro w' hw'; first | exact vk (below_look hw' (by with_reducible assumption)) (by with_reducible assumption) | exact vn (below_look hw' (by with_reducible assumption)) (by with_reducible assumption) | exact vl (below_look hw' (by with_reducible assumption)) (by with_reducible assumption) | exact h0 (below_look hw' (by with_reducible assumption)) | exact h1 (below_look hw' (by with_reducible assumption)) | exact h2 (below_look hw' (by with_reducible assumption)) | exact h3 (below_look hw' (by with_reducible assumption)))
      (with_reducible refine wq_k ?_ ?_); exact rfl; intro K hK; go_simp; (with_reducible refine hK _ ?_); clear hK K
      ((with_reducible apply wq_one); exact rfl; exact rfl; intro w' hw'; exact vnN (below_look hw' (by with_reducible assumption)) (by with_reducible assumption) (by with_reducible assumption))
      (with_reducible refine wq_k ?_ ?_); exact rfl; intro K hK; go_simp; (with_reducible refine hK _ ?_); clear hK K
      (with_reducible refine wq_k ?_ ?_); exact rfl; intro K hK; go_simp; (with_reducible refine hK _ ?_); clear hK K
      ((with_reducible apply wq_one); exact rfl; exact rfl; intro w' hw'; exact (HL.out w' hw').s)
      (with_reducible refine wq_k ?_ ?_); exact rfl; intro K hK; go_simp; (with_reducible refine hK _ ?_); clear hK K
      (with_reducible refine wq_k ?_ ?_); exact rfl; intro K hK; go_simp; (with_reducible refine hK _ ?_); clear hK K
      intro w9 hb9
      have HL9 := Lib.hid (fun w' hw => HL.out w' (hb9.trans (Below.mono hw hb9.size)))
      replace HDn := Lib.hid (HDn.out.quiet hb9); replace HV := Lib.hid (HV.out.old hb9); replace HH := Lib.hid (HH.out.old hb9); replace hp := below_look hb9 hp; replace hq := below_look hb9 hq; replace hr := below_look hb9 hr; clear hb9 HL
      have HL := HL9
      clear HL9
      by_cases h3 : o.state = 3
      · have e3 : (o.state == 3) = true := by simp [h3]
        rw [if_pos h3] at HD
        clear h3 HL HH hp
        go_upto_region 4 with (fail)
        apply wp_region_lit
        refine wl_w rfl (build35 _ _ rfl _) ?_
        simp only [put_lit, List.set_cons_zero, List.set_cons_succ]
        (with_reducible refine wl_putV rfl zone hzs rfl rfl hr ?_); rw [put_noneA]; intro W10 hbx hsz hkx hnx
        replace HDn := Lib.hid (HDn.out.put HM.out HRl.out (Keep.of_put hbx hsz hkx))
        clear hr hbx hsz hkx
        have hr := hnx
        clear hnx
        (with_reducible refine wl_k ?_ ?_); exact rfl; intro K hK; go_simp; refine hK _ ?_; clear hK K
        go_wp2_with fail
        refine bodyPost_ret (res35t rfl _ _ r rfl rfl rfl hr) rfl ?_
        rw [HD.out]
        exact ⟨_, zrow, rfl, zero_va _ _, HDn.out⟩
      · have e3 : (o.state == 3) = false := by simp [h3]
        rw [if_neg h3] at HD
        clear h3
        go_upto_region 5 with (fail)
        refine wp_region_below 12 mixed (by kernel_rfl) ?_; simp only [List.take_succ_cons, List.take_zero, List.drop_succ_cons, List.drop_zero]
        (with_reducible refine wq_k ?_ ?_); exact rfl; intro K hK; go_simp; (with_reducible refine hK _ ?_); clear hK K
        (with_reducible refine wq_k ?_ ?_); exact rfl; intro K hK; go_simp; (with_reducible refine hK _ ?_); clear hK K
        (with_reducible refine wq_k ?_ ?_); exact rfl; intro K hK; go_simp; (with_reducible refine hK _ ?_); clear hK K
        ((with_reducible apply wq_one); exact rfl; exact rfl; intro w' hw'; first | exact vk (below_look hw' (by with_reducible assumption)) (by with_reducible assumption) | exact vn (below_look hw' (by with_reducible assumption)) (by with_reducible assumption) | exact vl (below_look hw' (by with_reducible assumption)) (by with_reducible assumption) | exact h0 (below_look hw' (by with_reducible assumption)) | exact h1 (below_look hw' (by with_reducible assumption)) | exact h2 (below_look hw' (by with_reducible assumption)) | exact h3 (below_look hw' (by with_reducible assumption)))
        (with_reducible refine wq_k ?_ ?_); exact rfl; intro K hK; go_simp; (with_reducible refine hK _ ?_); clear hK K
        ((with_reducible apply wq_one); exact rfl; exact rfl; intro w' hw'; exact vnN (below_look hw' (by with_reducible assumption)) (by with_reducible assumption) (by with_reducible assumption))
        (with_reducible refine wq_k ?_ ?_); exact rfl; intro K hK; go_simp; (with_reducible refine hK _ ?_); clear hK K
        (with_reducible refine wq_k ?_ ?_); exact rfl; intro K hK; go_simp; (with_reducible refine hK _ ?_); clear hK K
        ((with_reducible apply wq_one); exact rfl; exact rfl; intro w' hw'; exact (HL.out w' hw').k)
        (with_reducible refine wq_k ?_ ?_); exact rfl; intro K hK; go_simp; (with_reducible refine hK _ ?_); clear hK K
        (with_reducible refine wq_k ?_ ?_); exact rfl; intro K hK; go_simp; (with_reducible refine hK _ ?_); clear hK K
        (with_reducible refine wq_k ?_ ?_); exact rfl; intro K hK; go_simp; (with_reducible refine hK _ ?_); clear hK K
        intro w10 hb10
        have HL9 := Lib.hid (fun w' hw => HL.out w' (hb10.trans (Below.mono hw hb10.size)))
        replace HDn := Lib.hid (HDn.out.quiet hb10); replace HV := Lib.hid (HV.out.old hb10); replace HH := Lib.hid (HH.out.old hb10); replace hp := below_look hb10 hp; replace hq := below_look hb10 hq; replace hr := below_look hb10 hr; clear hb10 HL
        have HL := HL9
        clear HL9
        clear hp HL
        obtain ⟨hs1, hs2, hrl, hset⟩ := HH.out.stO HOO.out 6 (by omega)
        have HS := Lib.hid (hset (w64 (o.weak + 1)) (addW 1 o) rfl rfl (by simp [addW]))
        have HRL := Lib.hid hrl
        clear hset hrl
        refine wl_storeC rfl 3 _ _ rfl g _ (.int .i64 (w64 (o.weak + 1))) rfl rfl info3 rfl hs1 hs2 ?_
        rw [put_noneA]
        have hrg := mine_arr HM.out HRL.out
        have HDN := Lib.hid (HDn.out.num HRL.out HS.out)
        replace hr := (heap_setCell_other w10 ⟨g, n * 8 + 6, none⟩ r (.int .i64 (w64 (o.weak + 1))) hrg).trans hr
        have hqg : q ≠ g := fun e => HQ.out ⟨.arr, by rw [e]; exact HRL.out, by simp⟩
        replace hq := (heap_setCell_other w10 ⟨g, n * 8 + 6, none⟩ q (.int .i64 (w64 (o.weak + 1))) hqg).trans hq
        have hnw := wf_num HV.out
        rw [HN.out] at hnw
        clear HDn HS hs1 hs2 HH
        obtain ⟨W12, hW⟩ : ∃ W, W = w10.setCell ⟨g, n * 8 + 6, none⟩ (.int .i64 (w64 (o.weak + 1))) := ⟨_, rfl⟩
        rw [← hW] at HDN hq hr ⊢
        clear hW
        go_upto_region 6 with (fail)
        apply wp_region_lit
        (with_reducible refine wl_k ?_ ?_); exact rfl; intro K hK; go_simp; refine hK _ ?_; clear hK K
        ((with_reducible apply wl_oneG); exact rfl; exact rfl; exact vnN hq HRV HN)
        refine wl_w rfl (ex_build35n _ _ rfl rfl rfl) ?_
        simp only [put_lit, List.set_cons_zero, List.set_cons_succ]
        have HV11 := Lib.hid (nrow_at W12 (Imm (mark G k r)) (k := 11) (n := (n : Int)) (by rfl) hnw)
        (with_reducible refine wl_putV rfl HV11.out.one hzs rfl rfl hr ?_); rw [put_noneA]; intro W13 hbx hsz hkx hnx
        have HK12 := Lib.hid (Keep.of_put hbx hsz hkx)
        clear hbx hsz hkx hr
        (with_reducible refine wl_k ?_ ?_); exact rfl; intro K hK; go_simp; refine hK _ ?_; clear hK K
        go_wp2_with fail
        refine bodyPost_ret (res35t rfl _ _ r rfl rfl rfl hnx) rfl ?_
        rw [HD.out]
        exact ⟨_, _, rfl, HV11.out.put HM.out HK12.out, HDN.out.put HM.out HRl.out HK12.out⟩
  · have e7 : (v.kind != 7) = true := by simp [h7]
    have HD : Hid (weakP h v = (h, va0, 4)) := Lib.hid (by unfold weakP; rw [if_neg (fun c => h7 c.1)])
    clear h7
    apply wp_region_lit
    (with_reducible refine wl_k ?_ ?_); exact rfl; intro K hK; go_simp; refine hK _ ?_; clear hK K
    (with_reducible refine wl_k ?_ ?_); exact rfl; intro K hK; go_simp; refine hK _ ?_; clear hK K
    (with_reducible refine wl_k ?_ ?_); exact rfl; intro K hK; go_simp; refine hK _ ?_; clear hK K
    (with_reducible refine wl_k ?_ ?_); exact rfl; intro K hK; go_simp; refine hK _ ?_; clear hK K
    (first | ((with_reducible apply wl_oneG); exact rfl; exact rfl; first | exact vk (by with_reducible assumption) (by with_reducible assumption) | exact vn (by with_reducible assumption) (by with_reducible assumption) | exact vl (by with_reducible assumption) (by with_reducible assumption) | exact vts (by with_reducible assumption) (by with_reducible assumption) | exact vs (by with_reducible assumption) (by with_reducible assumption)) | ((with_reducible apply wl_rowG); exact rfl; exact rfl; first | exact vrow (by with_reducible assumption) (by with_reducible assumption) | exact vt (by with_reducible assumption) (by with_reducible assumption)))
    (with_reducible refine wl_k ?_ ?_); exact rfl; intro K hK; go_simp; refine hK _ ?_; clear hK K
    (with_reducible refine wl_k ?_ ?_); exact rfl; intro K hK; go_simp; refine hK _ ?_; clear hK K
    (with_reducible refine wl_k ?_ ?_); exact rfl; intro K hK; go_simp; refine hK _ ?_; clear hK K
    (first | ((with_reducible refine wl_skipU ?_ ?_ ?_); exact rfl; exact rfl) | ((with_reducible refine wl_skip ?_ ?_); exact rfl; simp only [put_lit, List.set_cons_zero, List.set_cons_succ]))
    (first | ((with_reducible refine wl_skipU ?_ ?_ ?_); exact rfl; exact rfl) | ((with_reducible refine wl_skip ?_ ?_); exact rfl; simp only [put_lit, List.set_cons_zero, List.set_cons_succ]))
    (first | ((with_reducible refine wl_skipU ?_ ?_ ?_); exact rfl; exact rfl) | ((with_reducible refine wl_skip ?_ ?_); exact rfl; simp only [put_lit, List.set_cons_zero, List.set_cons_succ]))
    (first | ((with_reducible refine wl_skipU ?_ ?_ ?_); exact rfl; exact rfl) | ((with_reducible refine wl_skip ?_ ?_); exact rfl; simp only [put_lit, List.set_cons_zero, List.set_cons_succ]))
    (with_reducible refine wl_k ?_ ?_); exact rfl; intro K hK; go_simp; refine hK _ ?_; clear hK K
    (with_reducible refine wl_k ?_ ?_); exact rfl; intro K hK; go_simp; refine hK _ ?_; clear hK K
    go_upto_region 2 with (fail)
    apply wp_region_lit
    refine wl_w rfl (build35 _ _ rfl _) ?_
    simp only [put_lit, List.set_cons_zero, List.set_cons_succ]
    (with_reducible refine wl_putV rfl zone hzs rfl rfl hr ?_); rw [put_noneA]; intro W10 hbx hsz hkx hnx
    replace HDn := Lib.hid (HDn.out.put HM.out HRl.out (Keep.of_put hbx hsz hkx))
    clear hr hbx hsz hkx
    have hr := hnx
    clear hnx
    (with_reducible refine wl_k ?_ ?_); exact rfl; intro K hK; go_simp; refine hK _ ?_; clear hK K
    go_wp2_with fail
    refine bodyPost_ret (res35t rfl _ _ r rfl rfl rfl hr) rfl ?_
    rw [HD.out]
    exact ⟨_, zrow, rfl, zero_va _ _, HDn.out⟩
set_option maxHeartbeats 8000000 in
set_option maxRecDepth 100000 in
theorem Load_any {G : Gh} {k p : Nat} {h : Hp} {w : World} (hh : HeapAt w G k p h) (hf : Fr w G) {v : Va} {row : Array Value} (hv : VAt w (Imm G) v row) :
    Calls Try.prog 30 #[.pointer (some ⟨p, 0, none⟩), .agg row] w (ValBErr w G k p (loadP h v)) := by
  have HX := Lib.hid hh
  have HF := Lib.hid hf
  have HV := Lib.hid hv
  have hvs := hv.size
  have hv1 := hv.one
  have hzs : zrow.size = 9 := rfl
  have zone : zrow.all (·.oneCell') = true := (zero_va w (Imm G)).one
  have hb := Below.refl w.heap.size w
  clear hh hf hv
  go_enter Try.func30, Try.ntmps30
  go_upto_region 0 with (fail)
  apply wp_region_lit
  (with_reducible refine wl_boxV rfl ?_); intro W q hbn hlq hq; replace hb := hb.trans (hbn.mono hb.size); clear hbn; simp only [put_lit, List.set_cons_zero, List.set_cons_succ]
  have lthqr := heap_lt hq; (with_reducible refine wl_allV ?_); intro W2 r hbn hlr hr; replace hq := below_look hbn hq; replace hb := hb.trans (hbn.mono hb.size); clear hbn; simp only [put_lit, List.set_cons_zero, List.set_cons_succ]
  (with_reducible refine wl_k ?_ ?_); exact rfl; intro K hK; go_simp; refine hK _ ?_; clear hK K; (with_reducible refine wl_k ?_ ?_); exact rfl; intro K hK; go_simp; refine hK _ ?_; clear hK K
  have hrl : w.heap.size ≤ r := by omega
  have hql := heap_lt hq
  have HRl := Lib.hid hrl
  have hqG : G q = none := HF.out q (by omega)
  have HQ : Hid (¬ Mine (mark G k r) k q) := Lib.hid (by rintro ⟨x, e, -⟩; unfold mark at e; rw [if_neg (by omega), hqG] at e; cases e)
  have HDn := Lib.hid (Done.marked HX.out HF.out hb hrl (heap_lt hr))
  have HM := Lib.hid (mark_same G k r)
  have HNM := Lib.hid (mark_not G k r)
  have hvv := HDn.out.va HV.out
  clear HV
  have HV := Lib.hid hvv
  clear hvv HX HF hb hrl hql hqG
  obtain ⟨trv, A2v, l2v, c2v, A3v, l3v, c3v, hrv⟩ := HV.out.row
  have HRV := Lib.hid hrv
  clear hrv
  go_upto_region 1 with (fail)
  by_cases h7 : v.kind = 11
  · have e7 : (v.kind != 11) = false := by simp [h7]
    have HK7 := Lib.hid h7
    clear h7
    obtain ⟨bb, hbb⟩ : ∃ b, b = ofV h.obs.length h.bus.length v := ⟨_, rfl⟩
    have hc := of_done HDn.out.heap HV.out
    rw [← hbb] at hc
    have HC := Lib.hid hc
    have HB := Lib.hid hbb
    clear hc hbb
    apply wp_region_lit
    (with_reducible refine wl_k ?_ ?_); exact rfl; intro K hK; go_simp; refine hK _ ?_; clear hK K
    (with_reducible refine wl_k ?_ ?_); exact rfl; intro K hK; go_simp; refine hK _ ?_; clear hK K
    (with_reducible refine wl_k ?_ ?_); exact rfl; intro K hK; go_simp; refine hK _ ?_; clear hK K
    (with_reducible refine wl_k ?_ ?_); exact rfl; intro K hK; go_simp; refine hK _ ?_; clear hK K
    (first | ((with_reducible apply wl_oneG); exact rfl; exact rfl; first | exact vk (by with_reducible assumption) (by with_reducible assumption) | exact vn (by with_reducible assumption) (by with_reducible assumption) | exact vl (by with_reducible assumption) (by with_reducible assumption) | exact vts (by with_reducible assumption) (by with_reducible assumption) | exact vs (by with_reducible assumption) (by with_reducible assumption)) | ((with_reducible apply wl_rowG); exact rfl; exact rfl; first | exact vrow (by with_reducible assumption) (by with_reducible assumption) | exact vt (by with_reducible assumption) (by with_reducible assumption)))
    (with_reducible refine wl_k ?_ ?_); exact rfl; intro K hK; go_simp; refine hK _ ?_; clear hK K
    (with_reducible refine wl_k ?_ ?_); exact rfl; intro K hK; go_simp; refine hK _ ?_; clear hK K
    (with_reducible refine wl_k ?_ ?_); exact rfl; intro K hK; go_simp; refine hK _ ?_; clear hK K
    (with_reducible refine wl_k ?_ ?_); exact rfl; intro K hK; go_simp; refine hK _ ?_; clear hK K
    ((with_reducible apply wl_rowG); exact rfl; exact rfl; exact row35 hq hvs)
    (with_reducible refine wl_ck ?_ ?_); exact rfl; intro K hK; go_simp; refine ⟨_, _, ⟨rfl, rfl⟩, hK _ _ ⟨_, HC.out, ?_⟩⟩; clear hK K; rintro e w7 ⟨rfl, hb7⟩; refine ⟨_, rfl, ?_⟩; simp only [put_lit, List.set_cons_zero, List.set_cons_succ]
    replace HDn := Lib.hid (HDn.out.quiet hb7); replace HV := Lib.hid (HV.out.old hb7); replace hq := below_look hb7 hq; replace hr := below_look hb7 hr; clear hb7
    (with_reducible refine wl_k ?_ ?_); exact rfl; intro K hK; go_simp; refine hK _ ?_; clear hK K
    (with_reducible refine wl_k ?_ ?_); exact rfl; intro K hK; go_simp; refine hK _ ?_; clear hK K
    (with_reducible refine wl_k ?_ ?_); exact rfl; intro K hK; go_simp; refine hK _ ?_; clear hK K
    clear HC
    cases bb with
    | false =>
      have HD : Hid (loadP h v = (h, va0, false, 4)) := Lib.hid (by unfold loadP; rw [if_neg (fun c => by have := c.2; rw [← HB.out] at this; cases this)])
      go_upto_region 2 with (fail)
      apply wp_region_lit
      refine wl_w rfl (build35 _ _ rfl _) ?_
      simp only [put_lit, List.set_cons_zero, List.set_cons_succ]
      (with_reducible refine wl_putV rfl zone hzs rfl rfl hr ?_); rw [put_noneA]; intro W10 hbx hsz hkx hnx
      replace HDn := Lib.hid (HDn.out.put HM.out HRl.out (Keep.of_put hbx hsz hkx))
      clear hr hbx hsz hkx
      have hr := hnx
      clear hnx
      (with_reducible refine wl_k ?_ ?_); exact rfl; intro K hK; go_simp; refine hK _ ?_; clear hK K
      (with_reducible refine wl_k ?_ ?_); exact rfl; intro K hK; go_simp; refine hK _ ?_; clear hK K
      go_wp2_with fail
      refine bodyPost_ret (res35tt rfl _ _ r rfl rfl rfl rfl hr) rfl ?_
      rw [HD.out]
      exact ⟨_, zrow, rfl, zero_va _ _, HDn.out⟩
    | true =>
      have h7 := HK7.out
      clear HRV
      have h1 : 0 ≤ v.num ∧ v.num < (h.obs.length : Int) := by
        have := HB.out
        rw [ofV_eq, if_pos (by omega)] at this
        exact of_decide_eq_true this.symm
      obtain ⟨n, hn⟩ : ∃ n : Nat, v.num = (n : Int) := ⟨v.num.toNat, by omega⟩
      have hnl : n < h.obs.length := by omega
      have hnlI : (n : Int) < (h.obs.length : Int) := by omega
      have ho := List.getElem?_eq_getElem hnl
      obtain ⟨o, hoe⟩ : ∃ o, o = h.obs[n] := ⟨_, rfl⟩
      rw [← hoe] at ho
      obtain ⟨oA, oc, bA, bc, m, lA, lc, hh⟩ := HDn.out.heap
      obtain ⟨g, rows, rfl, hR⟩ := hh.obs.rows ho
      obtain ⟨tr0, fA, fc, hL, -, -⟩ := hR.loads ho
      have HL := Lib.hid hL
      have HOO := Lib.hid ho
      have HH := Lib.hid hh
      have HN := Lib.hid hn
      have hp := hh.blk
      obtain ⟨trv, A2v, l2v, c2v, A3v, l3v, c3v, hrv⟩ := HV.out.row
      have HRV := Lib.hid hrv
      clear hL hR hoe ho hh h1 hrv
      clear h7
      have HD : Hid (loadP h v = if o.state = 1 then ({ h with obs := h.obs.set n (addC 1 o) }, .node 7 (n : Int) ⟨#[]⟩ zeroTy [] [], true, 0) else (h, va0, false, 0)) := Lib.hid (by unfold loadP; rw [if_pos ⟨HK7.out, HB.out.symm⟩, HN.out, Int.toNat_natCast, HOO.out])
      go_upto_region 3 with (fail)
      refine wp_region_belowAll mixed (by kernel_rfl) ?_
      (with_reducible refine wq_k ?_ ?_); exact rfl; intro K hK; go_simp; (with_reducible refine hK _ ?_); clear hK K
      (with_reducible refine wq_k ?_ ?_); exact rfl; intro K hK; go_simp; (with_reducible refine hK _ ?_); clear hK K
      (with_reducible refine wq_k ?_ ?_); exact rfl; intro K hK; go_simp; (with_reducible refine hK _ ?_); clear hK K
      ((with_reducible apply wq_one); exact rfl; exact rfl; intro w' hw'; first | exact vk (below_look hw' (by with_reducible assumption)) (by with_reducible assumption) | exact vn (below_look hw' (by with_reducible assumption)) (by with_reducible assumption) | exact vl (below_look hw' (by with_reducible assumption)) (by with_reducible assumption) | exact h0 (below_look hw' (by with_reducible assumption)) | exact h1 (below_look hw' (by with_reducible assumption)) | exact h2 (below_look hw' (by with_reducible assumption)) | exact h3 (below_look hw' (by with_reducible assumption)))
      (with_reducible refine wq_k ?_ ?_); exact rfl; intro K hK; go_simp; (with_reducible refine hK _ ?_); clear hK K
      ((with_reducible apply wq_one); exact rfl; exact rfl; intro w' hw'; exact vnN (below_look hw' (by with_reducible assumption)) (by with_reducible assumption) (by with_reducible assumption))
      (with_reducible refine wq_k ?_ ?_); exact rfl; intro K hK; go_simp; (with_reducible refine hK _ ?_); clear hK K
      (with_reducible refine wq_k ?_ ?_); exact rfl; intro K hK; go_simp; (with_reducible refine hK _ ?_); clear hK K
      ((with_reducible apply wq_one); exact rfl; exact rfl; intro w' hw'; exact (HL.out w' hw').s)
      (with_reducible refine wq_k ?_ ?_); exact rfl; intro K hK; go_simp; (with_reducible refine hK _ ?_); clear hK K
      (with_reducible refine wq_k ?_ ?_); exact rfl; intro K hK; go_simp; (with_reducible refine hK _ ?_); clear hK K
      intro w9 hb9
      have HL9 := Lib.hid (fun w' hw => HL.out w' (hb9.trans (Below.mono hw hb9.size)))
      replace HDn := Lib.hid (HDn.out.quiet hb9); replace HV := Lib.hid (HV.out.old hb9); replace HH := Lib.hid (HH.out.old hb9); replace hp := below_look hb9 hp; replace hq := below_look hb9 hq; replace hr := below_look hb9 hr; clear hb9 HL
      have HL := HL9
      clear HL9
      by_cases h3 : ¬ o.state = 1
      · have e3 : (o.state != 1) = true := by simp [h3]
        rw [if_neg h3] at HD
        clear h3 HL HH hp
        go_upto_region 4 with (fail)
        apply wp_region_lit
        refine wl_w rfl (build35 _ _ rfl _) ?_
        simp only [put_lit, List.set_cons_zero, List.set_cons_succ]
        (with_reducible refine wl_putV rfl zone hzs rfl rfl hr ?_); rw [put_noneA]; intro W10 hbx hsz hkx hnx
        replace HDn := Lib.hid (HDn.out.put HM.out HRl.out (Keep.of_put hbx hsz hkx))
        clear hr hbx hsz hkx
        have hr := hnx
        clear hnx
        (with_reducible refine wl_k ?_ ?_); exact rfl; intro K hK; go_simp; refine hK _ ?_; clear hK K
        (with_reducible refine wl_k ?_ ?_); exact rfl; intro K hK; go_simp; refine hK _ ?_; clear hK K
        go_wp2_with fail
        refine bodyPost_ret (res35tt rfl _ _ r rfl rfl rfl rfl hr) rfl ?_
        rw [HD.out]
        exact ⟨_, zrow, rfl, zero_va _ _, HDn.out⟩
      · have h3 : o.state = 1 := Classical.not_not.1 h3
        have e3 : (o.state != 1) = false := by simp [h3]
        rw [if_pos h3] at HD
        clear h3
        go_upto_region 5 with (fail)
        refine wp_region_below 12 mixed (by kernel_rfl) ?_; simp only [List.take_succ_cons, List.take_zero, List.drop_succ_cons, List.drop_zero]
        (with_reducible refine wq_k ?_ ?_); exact rfl; intro K hK; go_simp; (with_reducible refine hK _ ?_); clear hK K
        (with_reducible refine wq_k ?_ ?_); exact rfl; intro K hK; go_simp; (with_reducible refine hK _ ?_); clear hK K
        (with_reducible refine wq_k ?_ ?_); exact rfl; intro K hK; go_simp; (with_reducible refine hK _ ?_); clear hK K
        ((with_reducible apply wq_one); exact rfl; exact rfl; intro w' hw'; first | exact vk (below_look hw' (by with_reducible assumption)) (by with_reducible assumption) | exact vn (below_look hw' (by with_reducible assumption)) (by with_reducible assumption) | exact vl (below_look hw' (by with_reducible assumption)) (by with_reducible assumption) | exact h0 (below_look hw' (by with_reducible assumption)) | exact h1 (below_look hw' (by with_reducible assumption)) | exact h2 (below_look hw' (by with_reducible assumption)) | exact h3 (below_look hw' (by with_reducible assumption)))
        (with_reducible refine wq_k ?_ ?_); exact rfl; intro K hK; go_simp; (with_reducible refine hK _ ?_); clear hK K
        ((with_reducible apply wq_one); exact rfl; exact rfl; intro w' hw'; exact vnN (below_look hw' (by with_reducible assumption)) (by with_reducible assumption) (by with_reducible assumption))
        (with_reducible refine wq_k ?_ ?_); exact rfl; intro K hK; go_simp; (with_reducible refine hK _ ?_); clear hK K
        (with_reducible refine wq_k ?_ ?_); exact rfl; intro K hK; go_simp; (with_reducible refine hK _ ?_); clear hK K
        ((with_reducible apply wq_one); exact rfl; exact rfl; intro w' hw'; exact (HL.out w' hw').c)
        (with_reducible refine wq_k ?_ ?_); exact rfl; intro K hK; go_simp; (with_reducible refine hK _ ?_); clear hK K
        (with_reducible refine wq_k ?_ ?_); exact rfl; intro K hK; go_simp; (with_reducible refine hK _ ?_); clear hK K
        (with_reducible refine wq_k ?_ ?_); exact rfl; intro K hK; go_simp; (with_reducible refine hK _ ?_); clear hK K
        intro w10 hb10
        have HL9 := Lib.hid (fun w' hw => HL.out w' (hb10.trans (Below.mono hw hb10.size)))
        replace HDn := Lib.hid (HDn.out.quiet hb10); replace HV := Lib.hid (HV.out.old hb10); replace HH := Lib.hid (HH.out.old hb10); replace hp := below_look hb10 hp; replace hq := below_look hb10 hq; replace hr := below_look hb10 hr; clear hb10 HL
        have HL := HL9
        clear HL9
        clear hp HL
        obtain ⟨hs1, hs2, hrl, hset⟩ := HH.out.stO HOO.out 5 (by omega)
        have HS := Lib.hid (hset (w64 (o.count + 1)) (addC 1 o) rfl rfl (by simp [addC]))
        have HRL := Lib.hid hrl
        clear hset hrl
        refine wl_storeC rfl 3 _ _ rfl g _ (.int .i64 (w64 (o.count + 1))) rfl rfl info3 rfl hs1 hs2 ?_
        rw [put_noneA]
        have hrg := mine_arr HM.out HRL.out
        have HDN := Lib.hid (HDn.out.num HRL.out HS.out)
        replace hr := (heap_setCell_other w10 ⟨g, n * 8 + 5, none⟩ r (.int .i64 (w64 (o.count + 1))) hrg).trans hr
        have hqg : q ≠ g := fun e => HQ.out ⟨.arr, by rw [e]; exact HRL.out, by simp⟩
        replace hq := (heap_setCell_other w10 ⟨g, n * 8 + 5, none⟩ q (.int .i64 (w64 (o.count + 1))) hqg).trans hq
        have hnw := wf_num HV.out
        rw [HN.out] at hnw
        clear HDn HS hs1 hs2 HH
        obtain ⟨W12, hW⟩ : ∃ W, W = w10.setCell ⟨g, n * 8 + 5, none⟩ (.int .i64 (w64 (o.count + 1))) := ⟨_, rfl⟩
        rw [← hW] at HDN hq hr ⊢
        clear hW
        go_upto_region 6 with (fail)
        apply wp_region_lit
        (with_reducible refine wl_k ?_ ?_); exact rfl; intro K hK; go_simp; refine hK _ ?_; clear hK K
        ((with_reducible apply wl_oneG); exact rfl; exact rfl; exact vnN hq HRV HN)
        refine wl_w rfl (ex_build35n _ _ rfl rfl rfl) ?_
        simp only [put_lit, List.set_cons_zero, List.set_cons_succ]
        have HV11 := Lib.hid (nrow_at W12 (Imm (mark G k r)) (k := 7) (n := (n : Int)) (by rfl) hnw)
        (with_reducible refine wl_putV rfl HV11.out.one hzs rfl rfl hr ?_); rw [put_noneA]; intro W13 hbx hsz hkx hnx
        have HK12 := Lib.hid (Keep.of_put hbx hsz hkx)
        clear hbx hsz hkx hr
        (with_reducible refine wl_k ?_ ?_); exact rfl; intro K hK; go_simp; refine hK _ ?_; clear hK K
        (with_reducible refine wl_k ?_ ?_); exact rfl; intro K hK; go_simp; refine hK _ ?_; clear hK K
        go_wp2_with fail
        refine bodyPost_ret (res35tt rfl _ _ r rfl rfl rfl rfl hnx) rfl ?_
        rw [HD.out]
        exact ⟨_, _, rfl, HV11.out.put HM.out HK12.out, HDN.out.put HM.out HRl.out HK12.out⟩
  · have e7 : (v.kind != 11) = true := by simp [h7]
    have HD : Hid (loadP h v = (h, va0, false, 4)) := Lib.hid (by unfold loadP; rw [if_neg (fun c => h7 c.1)])
    clear h7
    apply wp_region_lit
    (with_reducible refine wl_k ?_ ?_); exact rfl; intro K hK; go_simp; refine hK _ ?_; clear hK K
    (with_reducible refine wl_k ?_ ?_); exact rfl; intro K hK; go_simp; refine hK _ ?_; clear hK K
    (with_reducible refine wl_k ?_ ?_); exact rfl; intro K hK; go_simp; refine hK _ ?_; clear hK K
    (with_reducible refine wl_k ?_ ?_); exact rfl; intro K hK; go_simp; refine hK _ ?_; clear hK K
    (first | ((with_reducible apply wl_oneG); exact rfl; exact rfl; first | exact vk (by with_reducible assumption) (by with_reducible assumption) | exact vn (by with_reducible assumption) (by with_reducible assumption) | exact vl (by with_reducible assumption) (by with_reducible assumption) | exact vts (by with_reducible assumption) (by with_reducible assumption) | exact vs (by with_reducible assumption) (by with_reducible assumption)) | ((with_reducible apply wl_rowG); exact rfl; exact rfl; first | exact vrow (by with_reducible assumption) (by with_reducible assumption) | exact vt (by with_reducible assumption) (by with_reducible assumption)))
    (with_reducible refine wl_k ?_ ?_); exact rfl; intro K hK; go_simp; refine hK _ ?_; clear hK K
    (with_reducible refine wl_k ?_ ?_); exact rfl; intro K hK; go_simp; refine hK _ ?_; clear hK K
    (with_reducible refine wl_k ?_ ?_); exact rfl; intro K hK; go_simp; refine hK _ ?_; clear hK K
    (first | ((with_reducible refine wl_skipU ?_ ?_ ?_); exact rfl; exact rfl) | ((with_reducible refine wl_skip ?_ ?_); exact rfl; simp only [put_lit, List.set_cons_zero, List.set_cons_succ]))
    (first | ((with_reducible refine wl_skipU ?_ ?_ ?_); exact rfl; exact rfl) | ((with_reducible refine wl_skip ?_ ?_); exact rfl; simp only [put_lit, List.set_cons_zero, List.set_cons_succ]))
    (first | ((with_reducible refine wl_skipU ?_ ?_ ?_); exact rfl; exact rfl) | ((with_reducible refine wl_skip ?_ ?_); exact rfl; simp only [put_lit, List.set_cons_zero, List.set_cons_succ]))
    (first | ((with_reducible refine wl_skipU ?_ ?_ ?_); exact rfl; exact rfl) | ((with_reducible refine wl_skip ?_ ?_); exact rfl; simp only [put_lit, List.set_cons_zero, List.set_cons_succ]))
    (with_reducible refine wl_k ?_ ?_); exact rfl; intro K hK; go_simp; refine hK _ ?_; clear hK K
    (with_reducible refine wl_k ?_ ?_); exact rfl; intro K hK; go_simp; refine hK _ ?_; clear hK K
    go_upto_region 2 with (fail)
    apply wp_region_lit
    refine wl_w rfl (build35 _ _ rfl _) ?_
    simp only [put_lit, List.set_cons_zero, List.set_cons_succ]
    (with_reducible refine wl_putV rfl zone hzs rfl rfl hr ?_); rw [put_noneA]; intro W10 hbx hsz hkx hnx
    replace HDn := Lib.hid (HDn.out.put HM.out HRl.out (Keep.of_put hbx hsz hkx))
    clear hr hbx hsz hkx
    have hr := hnx
    clear hnx
    (with_reducible refine wl_k ?_ ?_); exact rfl; intro K hK; go_simp; refine hK _ ?_; clear hK K
    (with_reducible refine wl_k ?_ ?_); exact rfl; intro K hK; go_simp; refine hK _ ?_; clear hK K
    go_wp2_with fail
    refine bodyPost_ret (res35tt rfl _ _ r rfl rfl rfl rfl hr) rfl ?_
    rw [HD.out]
    exact ⟨_, zrow, rfl, zero_va _ _, HDn.out⟩
end Go.Proofs.Ytpamocglecangaa
