/- The program's Own. -/
import Derived.Test.YtpamocglecangaaPB11
namespace Go.Proofs.Ytpamocglecangaa
open Go.RowKit Go.Proofs.Ytpamocglecangaa.Nm
set_option linter.unusedSimpArgs false
theorem Done.numB {w W : World} {G G1 : Gh} {k p : Nat} {h : Hp} (d : Done w G k p h W G1) {oA : Option Addr} {oc bc m : Nat} {lA : Option Addr} {lc g i : Nat} {h' : Hp} {x : Value} (hg : G1 g = some (k, .bar)) (hh : HAt (W.setCell ⟨g, i * 2, none⟩ x) G1 k p h' oA oc (some ⟨g, 0, none⟩) bc m lA lc) : Done w G k p h' (W.setCell ⟨g, i * 2, none⟩ x) G1 :=
  d.trans ⟨⟨_, _, _, _, _, _, _, hh⟩, d.fr.on (by simp), fun b _ => rfl, fun b hb => .inl (d.fr b hb), (Keep.refl _ W).trans (C' := fun b => b = g) (fun b e => .inl ⟨.bar, by rw [e]; exact hg, by simp⟩) (Keep.cellOne W g (i * 2) x)⟩
theorem Done.cnt {w W w' : World} {G G1 : Gh} {k p : Nat} {h h' : Hp} (d : Done w G k p h W G1) (hh : HeapAt w' G1 k p h') (hk : Keep (Cnt G1 k) W w') : Done w G k p h' w' G1 :=
  d.trans ⟨hh, d.fr.on hk.size, fun b _ => rfl, fun b hb => .inl (d.fr b hb), (Keep.refl _ W).trans (fun b hb => .inl hb.mine) hk⟩
theorem tmp_cnt {G : Gh} {k r : Nat} (h : G r = some (k, .tmp)) : ¬ Cnt G k r := by rintro (e | e) <;> (rw [h] at e; cases e)
def Va.setNum (v : Va) (n : Int) : Va := .node v.kind n v.txt v.typ v.tys v.parts
def ownP (h : Hp) (v : Va) : Hp × Va × Bool × Int := if arrV h.bus.length v then (match h.bus[v.num.toNat]? with | some b => if b.count = 0 then (h, va0, false, 140) else if b.count = 1 then (h, v, false, 0) else (match (cntVs 1 b.elems h).bus[v.num.toNat]? with | some b1 => ({ cntVs 1 b.elems h with bus := (cntVs 1 b.elems h).bus.set v.num.toNat (addB (-1) b1) ++ [⟨1, b.elems⟩] }, v.setNum (h.bus.length : Int), true, 0) | none => (h, va0, false, 4)) | none => (h, va0, false, 4)) else (h, va0, false, 4)
theorem setNum_at {w : World} {D : Nat → Prop} {v : Va} {row : Array Value} (h : VAt w D v row) {n : Int} (hn : (Lit.int .i64 n).wf = true) : VAt w D (v.setNum n) (row.setIfInBounds 1 (.int .i64 n)) := by
  obtain ⟨r, A2, l2, c2, A3, l3, c3, rfl, ht, hts, hvs, hk, -, hs⟩ := h.parts
  obtain ⟨k, s, n', A, l, c, rfl⟩ := r4_cells ht
  exact VAt.of hk hn hs ht hts hvs
set_option maxHeartbeats 8000000 in
set_option maxRecDepth 100000 in
theorem Own_any {G : Gh} {k p : Nat} {h : Hp} {w : World} (hh : HeapAt w G k p h) (hf : Fr w G) (hnb : h.bus.length ≤ 1000000) (hle : ∀ b, b ∈ h.bus → b.elems.length ≤ 1000000 ∧ ∀ u, u ∈ b.elems → ofV h.obs.length h.bus.length u = true) {v : Va} {row : Array Value} (hv : VAt w (Imm G) v row) :
    Calls Try.prog 32 #[.pointer (some ⟨p, 0, none⟩), .agg row] w (ValBErr w G k p (ownP h v)) := by
  have HX := Lib.hid hh
  have HF := Lib.hid hf
  have HV := Lib.hid hv
  have HLE := Lib.hid hle
  have hvs := hv.size
  have hv1 := hv.one
  have hzs : zrow.size = 9 := rfl
  have zone : zrow.all (·.oneCell') = true := (zero_va w (Imm G)).one
  have hb := Below.refl w.heap.size w
  clear hh hf hv hle
  go_enter Try.func32, Try.ntmps32
  go_upto_region 0 with (fail)
  apply wp_region_lit
  (with_reducible refine wl_boxV rfl ?_); intro W q hbn hlq hq; replace hb := hb.trans (hbn.mono hb.size); clear hbn; simp only [put_lit, List.set_cons_zero, List.set_cons_succ]
  have hq1 := heap_lt hq
  have HD1 := Lib.hid (Done.marked HX.out HF.out hb hlq hq1)
  have hbW := Below.refl W.heap.size W
  have lthqr := heap_lt hq; (with_reducible refine wl_allV ?_); intro W2 r hbn hlr hr; replace hq := below_look hbn hq; replace hbW := hbW.trans (hbn.mono hbW.size); clear hbn; simp only [put_lit, List.set_cons_zero, List.set_cons_succ]
  (with_reducible refine wl_k ?_ ?_); exact rfl; intro K hK; go_simp; refine hK _ ?_; clear hK K
  (with_reducible refine wl_k ?_ ?_); exact rfl; intro K hK; go_simp; refine hK _ ?_; clear hK K
  have HD2 := Done.marked HD1.out.heap HD1.out.fr hbW hlr (heap_lt hr)
  have HDn := Lib.hid (HD1.out.trans HD2)
  obtain ⟨G2, hG2⟩ : ∃ G2, G2 = mark (mark G k q) k r := ⟨_, rfl⟩
  rw [← hG2] at HDn
  have HM : Hid (G2 r = some (k, .tmp)) := Lib.hid (by rw [hG2]; exact mark_same _ _ _)
  have HMQ : Hid (G2 q = some (k, .tmp)) := Lib.hid (by
    rw [hG2]; unfold mark
    split
    · rfl
    · exact if_pos rfl)
  have HRl : Hid (w.heap.size ≤ r) := Lib.hid (by have := hb.size; omega)
  have HQl := Lib.hid hlq
  have hvv := HDn.out.va HV.out
  clear HV
  have HV := Lib.hid hvv
  clear hvv HX HF hb hbW HD1 HD2 hG2 hq1
  obtain ⟨bb, hbb⟩ : ∃ b, b = arrV h.bus.length v := ⟨_, rfl⟩
  have hc : Calls Try.prog 78 #[.pointer (some ⟨p, 0, none⟩), .agg row] W2 fun e w' => e = .returned (.bool (arrV h.bus.length v)) ∧ Below W2.heap.size W2 w' := by
    obtain ⟨oA, oc, bA, bc, m, lA, lc, hh⟩ := HDn.out.heap
    exact array_heap hh HV.out
  rw [← hbb] at hc
  have HC := Lib.hid hc
  have HB := Lib.hid hbb
  clear hc hbb
  go_upto_region 1 with (fail)
  apply wp_region_lit
  (with_reducible refine wl_k ?_ ?_); exact rfl; intro K hK; go_simp; refine hK _ ?_; clear hK K
  ((with_reducible apply wl_rowG); exact rfl; exact rfl; exact row35 hq hvs)
  (with_reducible refine wl_ck ?_ ?_); exact rfl; intro K hK; go_simp; refine ⟨_, _, ⟨rfl, rfl⟩, hK _ _ ⟨_, HC.out, ?_⟩⟩; clear hK K; rintro e w7 ⟨rfl, hb7⟩; refine ⟨_, rfl, ?_⟩; simp only [put_lit, List.set_cons_zero, List.set_cons_succ]
  replace HDn := Lib.hid (HDn.out.quiet hb7); replace HV := Lib.hid (HV.out.old hb7); replace hq := below_look hb7 hq; replace hr := below_look hb7 hr; clear hb7
  (with_reducible refine wl_k ?_ ?_); exact rfl; intro K hK; go_simp; refine hK _ ?_; clear hK K
  (with_reducible refine wl_k ?_ ?_); exact rfl; intro K hK; go_simp; refine hK _ ?_; clear hK K
  clear HC
  cases bb with
  | false =>
    have HD : Hid (ownP h v = (h, va0, false, 4)) := Lib.hid (by unfold ownP; rw [← HB.out]; rfl)
    go_upto_region 2 with (fail)
    apply wp_region_lit
    refine wl_w rfl (build35 _ _ rfl _) ?_
    simp only [put_lit, List.set_cons_zero, List.set_cons_succ]
    (with_reducible refine wl_putV rfl zone hzs rfl rfl hr ?_); rw [put_noneA]; intro W10 hbx hsz hkx hnx
    replace HDn := Lib.hid (HDn.out.put HM.out HRl.out (Keep.of_put hbx hsz hkx))
    clear hr hbx hsz hkx
    have hr := hnx
    clear hnx
    (with_reducible refine wl_k ?_ ?_); exact rfl; intro K hK; go_simp; refine hK _ ?_; clear hK K
    (with_reducible refine wl_k ?_ ?_); exact rfl; intro K hK; go_simp; refine hK _ ?_; clear hK K
    go_wp2_with fail
    refine bodyPost_ret (res35tt rfl _ _ r rfl rfl rfl rfl hr) rfl ?_
    rw [HD.out]
    exact ⟨_, zrow, rfl, zero_va _ _, HDn.out⟩
  | true =>
    obtain ⟨n, o, -, hn, -, ho⟩ := arrV.get HB.out.symm
    obtain ⟨o1, ho1⟩ : ∃ o1, (cntVs 1 o.elems h).bus[n]? = some o1 := by
      have h1 := (cntVs_same 1 o.elems h).2.1
      have h2 := (List.getElem?_eq_some_iff.1 ho).1
      exact ⟨_, List.getElem?_eq_getElem (by omega)⟩
    have HD : Hid (ownP h v = (if o.count = 0 then (h, va0, false, (140 : Int)) else if o.count = 1 then (h, v, false, (0 : Int)) else ({ cntVs 1 o.elems h with bus := (cntVs 1 o.elems h).bus.set n (addB (-1) o1) ++ [⟨1, o.elems⟩] }, v.setNum (h.bus.length : Int), true, (0 : Int)))) := Lib.hid (by unfold ownP; rw [← HB.out, if_pos rfl, hn, Int.toNat_natCast, ho]; simp only [ho1])
    have HO1 := Lib.hid ho1
    clear ho1
    have hnl := (List.getElem?_eq_some_iff.1 ho).1
    have hnlI : (n : Int) < (h.bus.length : Int) := by omega
    obtain ⟨oA, oc, bA, bc, m, lA, lc, hh⟩ := HDn.out.heap
    obtain ⟨g, fA, fc, rfl, hgr, hL, hLV, -⟩ := hh.buf ho
    have HL := Lib.hid hL
    have HOO := Lib.hid ho
    have HH := Lib.hid hh
    have HLV := Lib.hid hLV
    have HN := Lib.hid hn
    have hp := hh.blk
    obtain ⟨trv, A2v, l2v, c2v, A3v, l3v, c3v, hrv⟩ := HV.out.row
    have HRV := Lib.hid hrv
    clear hL hLV hh ho hrv hn
    go_upto_region 3 with (fail)
    refine wp_region_belowAll mixed (by kernel_rfl) ?_
    (with_reducible refine wq_k ?_ ?_); exact rfl; intro K hK; go_simp; (with_reducible refine hK _ ?_); clear hK K
    (with_reducible refine wq_k ?_ ?_); exact rfl; intro K hK; go_simp; (with_reducible refine hK _ ?_); clear hK K
    (with_reducible refine wq_k ?_ ?_); exact rfl; intro K hK; go_simp; (with_reducible refine hK _ ?_); clear hK K
    ((with_reducible apply wq_one); exact rfl; exact rfl; intro w' hw'; first | exact vk (below_look hw' (by with_reducible assumption)) (by with_reducible assumption) | exact vn (below_look hw' (by with_reducible assumption)) (by with_reducible assumption) | exact vl (below_look hw' (by with_reducible assumption)) (by with_reducible assumption) | exact h0 (below_look hw' (by with_reducible assumption)) | exact h1 (below_look hw' (by with_reducible assumption)) | exact h2 (below_look hw' (by with_reducible assumption)) | exact h3 (below_look hw' (by with_reducible assumption)))
    (with_reducible refine wq_k ?_ ?_); exact rfl; intro K hK; go_simp; (with_reducible refine hK _ ?_); clear hK K
    ((with_reducible apply wq_one); exact rfl; exact rfl; intro w' hw'; exact vnN (below_look hw' (by with_reducible assumption)) (by with_reducible assumption) (by with_reducible assumption))
    (with_reducible refine wq_k ?_ ?_); exact rfl; intro K hK; go_simp; (with_reducible refine hK _ ?_); clear hK K
    (with_reducible refine wq_k ?_ ?_); exact rfl; intro K hK; go_simp; (with_reducible refine hK _ ?_); clear hK K
    ((with_reducible apply wq_one); exact rfl; exact rfl; intro w' hw'; exact (HL.out w' hw').c)
    (with_reducible refine wq_k ?_ ?_); exact rfl; intro K hK; go_simp; (with_reducible refine hK _ ?_); clear hK K
    (with_reducible refine wq_k ?_ ?_); exact rfl; intro K hK; go_simp; (with_reducible refine hK _ ?_); clear hK K
    intro w9 hb9
    have HL9 := Lib.hid (fun w' hw => HL.out w' (hb9.trans (Below.mono hw hb9.size)))
    replace HLV := Lib.hid (HLV.out.moved (Keep.of (C := fun _ => False) hb9) (fun b e => e.elim) (fun _ _ => rfl))
    replace HDn := Lib.hid (HDn.out.quiet hb9); replace HV := Lib.hid (HV.out.old hb9); replace HH := Lib.hid (HH.out.old hb9); replace hp := below_look hb9 hp; replace hq := below_look hb9 hq; replace hr := below_look hb9 hr; clear hb9 HL
    have HL := HL9
    clear HL9
    by_cases c0 : o.count = 0
    · have e0 : (o.count == 0) = true := by simp [c0]
      rw [if_pos c0] at HD
      clear c0 HL HH hp HLV
      go_upto_region 4 with (fail)
      apply wp_region_lit
      refine wl_w rfl (build35 _ _ rfl _) ?_
      simp only [put_lit, List.set_cons_zero, List.set_cons_succ]
      (with_reducible refine wl_putV rfl zone hzs rfl rfl hr ?_); rw [put_noneA]; intro W10 hbx hsz hkx hnx
      replace HDn := Lib.hid (HDn.out.put HM.out HRl.out (Keep.of_put hbx hsz hkx))
      clear hr hbx hsz hkx
      have hr := hnx
      clear hnx
      (with_reducible refine wl_k ?_ ?_); exact rfl; intro K hK; go_simp; refine hK _ ?_; clear hK K
      (with_reducible refine wl_k ?_ ?_); exact rfl; intro K hK; go_simp; refine hK _ ?_; clear hK K
      go_wp2_with fail
      refine bodyPost_ret (res35tt rfl _ _ r rfl rfl rfl rfl hr) rfl ?_
      rw [HD.out]
      exact ⟨_, zrow, rfl, zero_va _ _, HDn.out⟩
    · have e0 : (o.count == 0) = false := by simp [c0]
      rw [if_neg c0] at HD
      clear c0
      go_upto_region 5 with (fail)
      refine wp_region_belowAll mixed (by kernel_rfl) ?_
      (with_reducible refine wq_k ?_ ?_); exact rfl; intro K hK; go_simp; (with_reducible refine hK _ ?_); clear hK K
      (with_reducible refine wq_k ?_ ?_); exact rfl; intro K hK; go_simp; (with_reducible refine hK _ ?_); clear hK K
      (with_reducible refine wq_k ?_ ?_); exact rfl; intro K hK; go_simp; (with_reducible refine hK _ ?_); clear hK K
      ((with_reducible apply wq_one); exact rfl; exact rfl; intro w' hw'; first | exact vk (below_look hw' (by with_reducible assumption)) (by with_reducible assumption) | exact vn (below_look hw' (by with_reducible assumption)) (by with_reducible assumption) | exact vl (below_look hw' (by with_reducible assumption)) (by with_reducible assumption) | exact h0 (below_look hw' (by with_reducible assumption)) | exact h1 (below_look hw' (by with_reducible assumption)) | exact h2 (below_look hw' (by with_reducible assumption)) | exact h3 (below_look hw' (by with_reducible assumption)))
      (with_reducible refine wq_k ?_ ?_); exact rfl; intro K hK; go_simp; (with_reducible refine hK _ ?_); clear hK K
      ((with_reducible apply wq_one); exact rfl; exact rfl; intro w' hw'; exact vnN (below_look hw' (by with_reducible assumption)) (by with_reducible assumption) (by with_reducible assumption))
      (with_reducible refine wq_k ?_ ?_); exact rfl; intro K hK; go_simp; (with_reducible refine hK _ ?_); clear hK K
      (with_reducible refine wq_k ?_ ?_); exact rfl; intro K hK; go_simp; (with_reducible refine hK _ ?_); clear hK K
      ((with_reducible apply wq_one); exact rfl; exact rfl; intro w' hw'; exact (HL.out w' hw').c)
      (with_reducible refine wq_k ?_ ?_); exact rfl; intro K hK; go_simp; (with_reducible refine hK _ ?_); clear hK K
      (with_reducible refine wq_k ?_ ?_); exact rfl; intro K hK; go_simp; (with_reducible refine hK _ ?_); clear hK K
      intro w10 hb10
      have HL9 := Lib.hid (fun w' hw => HL.out w' (hb10.trans (Below.mono hw hb10.size)))
      replace HLV := Lib.hid (HLV.out.moved (Keep.of (C := fun _ => False) hb10) (fun b e => e.elim) (fun _ _ => rfl))
      replace HDn := Lib.hid (HDn.out.quiet hb10); replace HV := Lib.hid (HV.out.old hb10); replace HH := Lib.hid (HH.out.old hb10); replace hp := below_look hb10 hp; replace hq := below_look hb10 hq; replace hr := below_look hb10 hr; clear hb10 HL
      have HL := HL9
      clear HL9
      by_cases c1 : o.count = 1
      · have e1 : (o.count == 1) = true := by simp [c1]
        rw [if_pos c1] at HD
        clear c1 HL HH hp HLV
        go_upto_region 6 with (fail)
        apply wp_region_lit
        ((with_reducible apply wl_rowG); exact rfl; exact rfl; exact row35 hq hvs)
        (with_reducible refine wl_putV hvs hv1 hzs rfl rfl hr ?_); rw [put_noneA]; intro W10 hbx hsz hkx hnx
        have HK10 := Lib.hid (Keep.of_put hbx hsz hkx)
        replace HDn := Lib.hid (HDn.out.put HM.out HRl.out HK10.out)
        replace HV := Lib.hid (HV.out.put HM.out HK10.out)
        clear hr hbx hsz hkx
        have hr := hnx
        clear hnx
        (with_reducible refine wl_k ?_ ?_); exact rfl; intro K hK; go_simp; refine hK _ ?_; clear hK K
        (with_reducible refine wl_k ?_ ?_); exact rfl; intro K hK; go_simp; refine hK _ ?_; clear hK K
        go_wp2_with fail
        refine bodyPost_ret (res35tt rfl _ _ r rfl rfl rfl hvs hr) rfl ?_
        rw [HD.out]
        exact ⟨_, row, rfl, HV.out, HDn.out⟩
      · have e1 : (o.count == 1) = false := by simp [c1]
        rw [if_neg c1] at HD
        clear c1
        obtain ⟨rows5, ho5, hlr5, hor5, hvr5⟩ := HLV.out
        have hol := (HLE.out o (List.mem_of_getElem? HOO.out)).1
        have HOF := Lib.hid (HLE.out o (List.mem_of_getElem? HOO.out)).2
        have HO5 := Lib.hid ho5
        have HLR5 := Lib.hid hlr5
        have HVR5 := Lib.hid hvr5
        have hone5 : ∀ r, r ∈ rows5 → r.all (·.oneCell') = true := fun r hr => by
          obtain ⟨j, hj⟩ := List.mem_iff_getElem?.1 hr
          have hjl := (List.getElem?_eq_some_iff.1 hj).1
          exact (hvr5 j _ r (List.getElem?_eq_getElem (by omega)) hj).one
        have hbz : Below w10.heap.size w10 w10.drew := (Below.refl _ _).drew
        have hcc := CloneR_any (ho5.old hbz) hone5 (by omega)
        rw [hlr5] at hcc
        have HC := Lib.hid hcc
        clear hcc hone5 ho5 hor5 hvr5
        go_upto_region 7 with (fail)
        refine wp_region_Z (S := Below w10.heap.size w10) 10 mixed hbz (fun hS => ?_)
        refine za_k (i := 0) rfl (by kernel_rfl) (by kernel_rfl) (by kernel_rfl) (by kernel_rfl) (fun _ _ _ _ h => h) hS rfl (fun K hK => ?_); go_simp; refine hK _ ?_; clear hK K; try simp only [put_lit, List.set_cons_zero, List.set_cons_succ]
        refine za_k (i := 1) rfl (by kernel_rfl) (by kernel_rfl) (by kernel_rfl) (by kernel_rfl) (fun _ _ _ _ h => h) hS rfl (fun K hK => ?_); go_simp; refine hK _ ?_; clear hK K; try simp only [put_lit, List.set_cons_zero, List.set_cons_succ]
        refine za_k (i := 2) rfl (by kernel_rfl) (by kernel_rfl) (by kernel_rfl) (by kernel_rfl) (fun _ _ _ _ h => h) hS rfl (fun K hK => ?_); go_simp; refine hK _ ?_; clear hK K; try simp only [put_lit, List.set_cons_zero, List.set_cons_succ]
        refine za_val (i := 3) rfl (by kernel_rfl) (by kernel_rfl) (by kernel_rfl) (by kernel_rfl) (fun _ _ _ h => h) hS rfl (fun w' hw' => ex_one rfl (h1 (below_look hw' hp))) ?_; try simp only [put_lit, List.set_cons_zero, List.set_cons_succ]
        refine za_k (i := 4) rfl (by kernel_rfl) (by kernel_rfl) (by kernel_rfl) (by kernel_rfl) (fun _ _ _ _ h => h) hS rfl (fun K hK => ?_); go_simp; refine hK _ ?_; clear hK K; try simp only [put_lit, List.set_cons_zero, List.set_cons_succ]
        refine za_val (i := 5) rfl (by kernel_rfl) (by kernel_rfl) (by kernel_rfl) (by kernel_rfl) (fun _ _ _ h => h) hS rfl (fun w' hw' => ex_one rfl (vnN (below_look hw' hq) HRV HN)) ?_; try simp only [put_lit, List.set_cons_zero, List.set_cons_succ]
        refine za_k (i := 6) rfl (by kernel_rfl) (by kernel_rfl) (by kernel_rfl) (by kernel_rfl) (fun _ _ _ _ h => h) hS rfl (fun K hK => ?_); go_simp; refine hK _ ?_; clear hK K; try simp only [put_lit, List.set_cons_zero, List.set_cons_succ]
        refine za_k (i := 7) rfl (by kernel_rfl) (by kernel_rfl) (by kernel_rfl) (by kernel_rfl) (fun _ _ _ _ h => h) hS rfl (fun K hK => ?_); go_simp; refine hK _ ?_; clear hK K; try simp only [put_lit, List.set_cons_zero, List.set_cons_succ]
        refine za_val (i := 8) rfl (by kernel_rfl) (by kernel_rfl) (by kernel_rfl) (by kernel_rfl) (fun _ _ _ h => h) hS rfl (fun w' hw' => ex_one rfl (HL.out w' hw').e) ?_; try simp only [put_lit, List.set_cons_zero, List.set_cons_succ]
        refine za_call (i := 9) (by kernel_rfl) rfl rfl (fun K hK => ?_); go_simp; refine ⟨_, _, ⟨rfl, rfl⟩, hK _ _ ⟨_, HC.out, ?_⟩⟩; clear hK K; rintro e w11 ⟨A7, c7, rfl, hown7, hA7, hb11⟩
        have hbb := hbz.trans (hb11.mono hbz.size)
        refine ⟨_, rfl, fun _ => hbb, ?_⟩
        rw [hlr5]
        try simp only [put_lit, List.set_cons_zero, List.set_cons_succ]
        have hl := Done.list (l := o.elems) (r := .elm h.bus.length) HDn.out.heap HDn.out.fr hown7 hlr5 (fun g e => by have := hA7 g e; exact Nat.le_trans hbz.size this) (fun j v row e1 e2 => ((HVR5.out j v row e1 e2).low.old hbb)) hbb
        obtain ⟨hd7, hli⟩ := hl
        obtain ⟨G7, hG7⟩ : ∃ G7, G7 = own G2 A7 (k, .elm h.bus.length) := ⟨_, rfl⟩
        rw [← hG7] at hd7 hli
        have HM7 : Hid (G7 r = some (k, .tmp)) := Lib.hid ((hd7.old r (heap_lt hr)).trans HM.out)
        have HMQ7 : Hid (G7 q = some (k, .tmp)) := Lib.hid ((hd7.old q (heap_lt hq)).trans HMQ.out)
        replace HV := Lib.hid (hd7.va HV.out)
        replace HDn := Lib.hid (HDn.out.trans hd7)
        have HLI := Lib.hid hli
        have hS := hbb
        replace hq := below_look hbb hq
        replace hr := below_look hbb hr
        clear hd7 hli hG7 hown7 hA7 hb11 hbb HC HVR5 HO5 HH HM HMQ hp HL HLV hbz
        refine za_1 (i := 10) (by kernel_rfl) rfl rfl hS (fun K hK => ?_); go_simp; refine hK _ ?_; clear hK K; try simp only [put_lit, List.set_cons_zero, List.set_cons_succ]
        clear hS
        refine za_done (by kernel_rfl) ?_ _
        obtain ⟨oA, oc, bA, bc, m, lA, lc, hh⟩ := HDn.out.heap
        have HH := Lib.hid hh
        have HFR := Lib.hid HDn.out.fr
        obtain ⟨rows, ho7, hl7, hor7, hv7⟩ := HLI.out
        have HO7 := Lib.hid ho7
        have HL7 := Lib.hid hl7
        have HOR7 := Lib.hid hor7
        have HV7 := Lib.hid hv7
        clear hh ho7 hl7 hor7 hv7
        have H0 : Hid (HAt w11 G7 k p (cntVs 1 (o.elems.take 0) h) oA oc bA bc m lA lc) := Lib.hid (by rw [List.take_zero, cntVs]; exact HH.out)
        have HK0 := Lib.hid (Keep.refl (Cnt G7 k) w11)
        go_upto_region 8 with (fail)
        apply wp_region_lit
        (with_reducible refine wl_k ?_ ?_); exact rfl; intro K hK; go_simp; refine hK _ ?_; clear hK K
        (with_reducible refine wl_k ?_ ?_); exact rfl; intro K hK; go_simp; refine hK _ ?_; clear hK K
        (with_reducible refine wl_k ?_ ?_); exact rfl; intro K hK; go_simp; refine hK _ ?_; clear hK K
        go_wp2_with fail
        go_loopw [52] (fun i wr => ∃ j : Nat, j ≤ o.elems.length ∧ i = .int .i64 (j : Int) ∧ Hid (HAt wr G7 k p (cntVs 1 (o.elems.take j) h) oA oc bA bc m lA lc) ∧ Hid (Keep (Cnt G7 k) w11 wr)) (fun i _ => o.elems.length - (intOf i).toNat)
        case atStart => exact ⟨0, by omega, rfl, H0, HK0⟩
        case round =>
          clear H0 HK0
          obtain ⟨j, hj, rfl, HA, HKe⟩ := hrel
          have hsz := HKe.out.size
          go_upto_region 9 with (fail)
          by_cases hlt : j < o.elems.length
          · have hltI : (j : Int) < (o.elems.length : Int) := by omega
            have hC7 : ∀ b, A7 = some ⟨b, 0, none⟩ → ¬ Cnt G7 k b := fun b e hc => by have := HOR7.out b e; rcases hc with hc | hc <;> (rw [hc] at this; cases this)
            have hLw : ListV wr G7 (k, .elm h.bus.length) o.elems A7 c7 := ⟨rows, HO7.out.keep HKe.out hC7, HL7.out, HOR7.out, fun j v row e1 e2 => (HV7.out j v row e1 e2).keep HKe.out (fun b hb => Cnt.imm hb)⟩
            obtain ⟨fb, u, rowu, rfl, -, hu, hua, hrow⟩ := hLw.at hlt
            have HST := Lib.hid (cntVs_take (by_ := 1) hu h)
            have HOU := Lib.hid (HOF.out u (List.mem_of_getElem? hu))
            have HUA := Lib.hid hua
            have HRU := Lib.hid (hrow wr (Below.refl _ _))
            have hus : rowu.size = 9 := hua.size
            have hu1 : rowu.all (·.oneCell') = true := hua.one
            have hzz := Below.refl wr.heap.size wr
            clear hu hua hrow hLw hC7
            apply wp_region_lit
            (with_reducible refine wl_k ?_ ?_); exact rfl; intro K hK; go_simp; refine hK _ ?_; clear hK K
            go_upto_region 10 with (fail)
            apply wp_region_lit
            (with_reducible refine wl_k ?_ ?_); exact rfl; intro K hK; go_simp; refine hK _ ?_; clear hK K
            ((with_reducible apply wl_rowG); exact rfl; exact rfl; exact HRU.out)
            (with_reducible refine wl_allV ?_); intro W5 q5 hbn hlq5 hq5; replace hzz := hzz.trans (hbn.mono hzz.size); clear hbn; simp only [put_lit, List.set_cons_zero, List.set_cons_succ]
            (with_reducible refine wl_putV hus hu1 rfl rfl rfl hq5 ?_); rw [put_noneA]; intro W6 hbx hsz hkx hnx; replace hzz := hbx _ _ (by omega) hzz; clear hq5; have hq5 := hnx; clear hnx
            have hz2 := hzz.size
            clear hbx hkx hsz
            obtain ⟨e5, e6, -, -⟩ := cntVs_same 1 (o.elems.take j) h
            have HC := Lib.hid (count_any G7 k p 1 (by rfl) u (cntVs 1 (o.elems.take j) h) W6 _ _ _ _ _ _ _ _ (HUA.out.old hzz) (HA.out.old hzz) (HFR.out.on (by have := HKe.out.size; omega)) (by rw [e5, e6]; exact HOU.out))
            go_upto_region 11 with (fail)
            apply wp_region_lit
            (with_reducible refine wl_k ?_ ?_); exact rfl; intro K hK; go_simp; refine hK _ ?_; clear hK K
            ((with_reducible apply wl_rowG); exact rfl; exact rfl; exact row35 hq5 hus)
            (with_reducible refine wl_ck ?_ ?_); exact rfl; intro K hK; go_simp; refine ⟨_, _, ⟨rfl, rfl⟩, hK _ _ ⟨_, HC.out, ?_⟩⟩; clear hK K; rintro e w7 ⟨rfl, ha7, hk7⟩; refine ⟨_, rfl, ?_⟩; simp only [put_lit, List.set_cons_zero, List.set_cons_succ]
            have HA7 := Lib.hid ha7
            have HK7 := Lib.hid ((HKe.out.trans (C' := Cnt G7 k) (fun b h => .inl h) (Keep.of hzz)).trans (C' := Cnt G7 k) (fun b h => .inl h) hk7)
            clear ha7 hk7
            rw [← HST.out] at HA7
            clear HC HST HA HKe hq5 hzz e5 e6
            go_wp2_with fail
            go_roundw
            case rel => exact ⟨j + 1, by omega, by go_num, HA7, HK7⟩
            case measure => simp [intOf]; omega
          · have hltI : ¬ (j : Int) < (o.elems.length : Int) := by omega
            apply wp_region_lit
            (with_reducible refine wl_k ?_ ?_); exact rfl; intro K hK; go_simp; refine hK _ ?_; clear hK K
            obtain ⟨hx, hhx⟩ : ∃ hx, hx = cntVs 1 o.elems h := ⟨_, rfl⟩
            rw [List.take_of_length_le (by omega), ← hhx] at HA
            rw [← hhx] at HD HO1
            have hlx : hx.bus.length = h.bus.length := by rw [hhx]; exact (cntVs_same 1 o.elems h).2.1
            have hnx : (n : Int) < (hx.bus.length : Int) := by omega
            have HLX := Lib.hid hlx
            replace hq := HKe.out.look hq (tmp_cnt HMQ7.out)
            replace hr := HKe.out.look hr (tmp_cnt HM7.out)
            have HDx := Lib.hid (HDn.out.cnt ⟨_, _, _, _, _, _, _, HA.out⟩ HKe.out)
            replace HV := Lib.hid (HV.out.keep HKe.out (fun b hb => Cnt.imm hb))
            clear HDn hhx hlx HO7 HV7 hj hlt HH
            have HDn := HDx
            clear HDx
            obtain ⟨g2, fA2, fc2, rfl, hgr2, hL2, -, -⟩ := HA.out.buf HO1.out
            have HL := Lib.hid hL2
            have HG2 := Lib.hid hgr2
            have hp := HA.out.blk
            clear hL2 hgr2
            go_upto_region 13 with (fail)
            refine wp_region_below 12 mixed (by kernel_rfl) ?_; simp only [List.take_succ_cons, List.take_zero, List.drop_succ_cons, List.drop_zero]
            (with_reducible refine wq_k ?_ ?_); exact rfl; intro K hK; go_simp; (with_reducible refine hK _ ?_); clear hK K
            (with_reducible refine wq_k ?_ ?_); exact rfl; intro K hK; go_simp; (with_reducible refine hK _ ?_); clear hK K
            (with_reducible refine wq_k ?_ ?_); exact rfl; intro K hK; go_simp; (with_reducible refine hK _ ?_); clear hK K
            ((with_reducible apply wq_one); exact rfl; exact rfl; intro w' hw'; first | exact vk (below_look hw' (by with_reducible assumption)) (by with_reducible assumption) | exact vn (below_look hw' (by with_reducible assumption)) (by with_reducible assumption) | exact vl (below_look hw' (by with_reducible assumption)) (by with_reducible assumption) | exact h0 (below_look hw' (by with_reducible assumption)) | exact h1 (below_look hw' (by with_reducible assumption)) | exact h2 (below_look hw' (by with_reducible assumption)) | exact h3 (below_look hw' (by with_reducible assumption)))
            (with_reducible refine wq_k ?_ ?_); exact rfl; intro K hK; go_simp; (with_reducible refine hK _ ?_); clear hK K
            ((with_reducible apply wq_one); exact rfl; exact rfl; intro w' hw'; exact vnN (below_look hw' (by with_reducible assumption)) (by with_reducible assumption) (by with_reducible assumption))
            (with_reducible refine wq_k ?_ ?_); exact rfl; intro K hK; go_simp; (with_reducible refine hK _ ?_); clear hK K
            (with_reducible refine wq_k ?_ ?_); exact rfl; intro K hK; go_simp; (with_reducible refine hK _ ?_); clear hK K
            ((with_reducible apply wq_one); exact rfl; exact rfl; intro w' hw'; exact (HL.out w' hw').c)
            (with_reducible refine wq_k ?_ ?_); exact rfl; intro K hK; go_simp; (with_reducible refine hK _ ?_); clear hK K
            (with_reducible refine wq_k ?_ ?_); exact rfl; intro K hK; go_simp; (with_reducible refine hK _ ?_); clear hK K
            (with_reducible refine wq_k ?_ ?_); exact rfl; intro K hK; go_simp; (with_reducible refine hK _ ?_); clear hK K
            intro w12 hb12
            replace HA := Lib.hid (HA.out.old hb12)
            replace HDn := Lib.hid (HDn.out.quiet hb12)
            replace HV := Lib.hid (HV.out.old hb12)
            replace HKe := Lib.hid (HKe.out.trans (C' := fun _ => False) (fun b e => e.elim) (Keep.of hb12))
            replace hq := below_look hb12 hq; replace hr := below_look hb12 hr
            clear hb12 HL hp
            obtain ⟨hs1, hs2, -, hset⟩ := HA.out.stB HO1.out
            have HS := Lib.hid (hset (w64 (o1.count + -1)) (addB (-1) o1) rfl rfl)
            have HDx := Lib.hid (HDn.out.numB HG2.out HS.out)
            have hqg : q ≠ g2 := fun e => by have := HMQ7.out; rw [e, HG2.out] at this; cases this
            have hrg : r ≠ g2 := fun e => by have := HM7.out; rw [e, HG2.out] at this; cases this
            replace hq := (heap_setCell_other w12 ⟨g2, n * 2, none⟩ q (.int .i64 (w64 (o1.count + -1))) hqg).trans hq
            replace hr := (heap_setCell_other w12 ⟨g2, n * 2, none⟩ r (.int .i64 (w64 (o1.count + -1))) hrg).trans hr
            have HKx := Lib.hid (HKe.out.trans (C' := fun b => b = g2) (fun b e => .inl (.inr (by rw [e]; exact HG2.out))) (Keep.cellOne w12 g2 (n * 2) (.int .i64 (w64 (o1.count + -1)))))
            replace HV := Lib.hid (HV.out.keep (Keep.cellOne w12 g2 (n * 2) (.int .i64 (w64 (o1.count + -1)))) (fun b hb e => by unfold Imm at hb; rw [e, HG2.out] at hb; cases hb))
            clear HDn HA hset HKe hqg hrg
            refine wl_storeC rfl 3 _ _ rfl g2 (n * 2) (.int .i64 (w64 (o1.count + -1))) rfl rfl info3 rfl hs1 hs2 ?_
            rw [put_noneA]
            obtain ⟨W14, hW⟩ : ∃ W, W = w12.setCell ⟨g2, n * 2, none⟩ (.int .i64 (w64 (o1.count + -1))) := ⟨_, rfl⟩
            rw [← hW] at HDx HKx HV HS hq hr ⊢
            clear hW hs1 hs2
            obtain ⟨hy, hhy⟩ : ∃ hy : Hp, hy = { hx with bus := hx.bus.set n (addB (-1) o1) } := ⟨_, rfl⟩
            have HHY := Lib.hid hhy
            rw [← hhy] at HDx HS
            have hly : hy.bus.length = h.bus.length := by rw [hhy]; show (hx.bus.set n _).length = _; rw [List.length_set]; exact HLX.out
            have HLY := Lib.hid hly
            have hp := HS.out.blk
            rw [hly] at hp
            clear hhy hly
            replace HLI := Lib.hid (HLI.out.moved HKx.out (G' := G7) (fun b hc => by rcases hc with hc | hc <;> (rw [hc]; exact ⟨by simp, by simp⟩)) (fun _ _ => rfl))
            go_upto_region 14 with (fail)
            apply wp_region_lit
            (with_reducible refine wl_k ?_ ?_); exact rfl; intro K hK; go_simp; refine hK _ ?_; clear hK K
            (with_reducible refine wl_k ?_ ?_); exact rfl; intro K hK; go_simp; refine hK _ ?_; clear hK K
            (with_reducible refine wl_k ?_ ?_); exact rfl; intro K hK; go_simp; refine hK _ ?_; clear hK K
            (with_reducible refine wl_k ?_ ?_); exact rfl; intro K hK; go_simp; refine hK _ ?_; clear hK K
            ((with_reducible apply wl_oneG); exact rfl; exact rfl; exact h1 hp)
            (with_reducible refine wl_k ?_ ?_); exact rfl; intro K hK; go_simp; refine hK _ ?_; clear hK K
            refine wl_w rfl (ex_build97 _ _ rfl rfl rfl) ?_
            simp only [put_lit, List.set_cons_zero, List.set_cons_succ]
            refine wl_newv (fun q => .slice (some ⟨q, 0, none⟩) 1 1) rfl (ex_bs78 _ rfl rfl) ?_
            intro W16 q8 hbn hlq8 hq8
            simp only [put_lit, List.set_cons_zero, List.set_cons_succ]
            replace HDn := Lib.hid (HDx.out.quiet hbn)
            replace HS := Lib.hid (HS.out.old hbn)
            replace HLI := Lib.hid (HLI.out.moved (Keep.of (C := fun _ => False) hbn) (G' := G7) (fun b e => e.elim) (fun _ _ => rfl))
            replace HV := Lib.hid (HV.out.old hbn)
            replace hp := below_look hbn hp; replace hq := below_look hbn hq; replace hr := below_look hbn hr
            clear hbn HDx HKx
            obtain ⟨rowsB, hoB, hlB, horB, hvB⟩ := HS.out.bus
            have HOB := Lib.hid hoB
            have HVB := Lib.hid hvB
            have HORB := Lib.hid horB
            have HLB : Hid (rowsB.length = h.bus.length) := Lib.hid (by rw [hlB, HLY.out])
            have HLB2 := Lib.hid hlB
            have hlen : rowsB.length ≤ 1000000 := by have := HLB.out; omega
            have hrl8 := heap_lt hr
            have hql8 := heap_lt hq
            have hpl8 := heap_lt hp
            have hpG := HS.out.rp
            clear hoB hvB horB hlB
            refine wl_pushL elt78 rfl _ _ rfl (show _ = Value.slice (some ⟨g2, 0, none⟩) rowsB.length bc by rw [HLB.out]; rfl) rfl HOB.out hq8 rfl (by simp [Value.oneCell']) (by omega) (by unfold maxLen; omega) ?_
            intro A9 c9 W9 hown hk9 hA9
            rw [HLB.out]
            simp only [put_lit, List.set_cons_zero, List.set_cons_succ]
            have hnp : ¬ ((some ⟨g2, 0, none⟩ : Option Addr) = some ⟨p, 0, none⟩) := fun e => by have := HORB.out p e; rw [hpG] at this; cases this
            have hnr : ¬ ((some ⟨g2, 0, none⟩ : Option Addr) = some ⟨r, 0, none⟩) := fun e => by have := HORB.out r e; rw [HM7.out] at this; cases this
            have hnq : ¬ ((some ⟨g2, 0, none⟩ : Option Addr) = some ⟨q, 0, none⟩) := fun e => by have := HORB.out q e; rw [HMQ7.out] at this; cases this
            replace hp := hk9.look hp hnp
            replace hr := hk9.look hr hnr
            replace hq := hk9.look hq hnq
            have hli : ListV W16 G7 (k, .elm hy.bus.length) o.elems A7 c7 := by rw [HLY.out]; exact HLI.out
            have hd10 := Done.addB (n := 1) (l := o.elems) HS.out HDn.out.fr HLB2.out HVB.out hown hk9 HORB.out hA9 hli
            rw [HLB.out] at hd10
            have hHR := (own_again (G := G7) HORB.out hA9 r hrl8).trans HM7.out
            have hHQ := (own_again (G := G7) HORB.out hA9 q hql8).trans HMQ7.out
            obtain ⟨nb, hnb2⟩ : ∃ n, n = h.bus.length + 1 := ⟨_, rfl⟩
            rw [← hnb2] at hd10 ⊢
            have HNB := Lib.hid hnb2
            clear hnb2
            have hvv := hd10.va HV.out
            have HDN := Lib.hid (HDn.out.trans hd10)
            have HHR := Lib.hid hHR
            have HHQ := Lib.hid hHQ
            clear HV
            have HV := Lib.hid hvv
            obtain ⟨hs1, hs2, hs3⟩ := hdr_set (j := 1) (v := .slice A9 nb c9) hp
            have hs1 := hs1 (by omega)
            have hqp : q ≠ p := fun e => by have := HMQ7.out; rw [e, hpG] at this; cases this
            have hrp : r ≠ p := fun e => by have := HM7.out; rw [e, hpG] at this; cases this
            replace hq := (heap_setCell_other W9 ⟨p, 1, none⟩ q (.slice A9 nb c9) hqp).trans hq
            replace hr := (heap_setCell_other W9 ⟨p, 1, none⟩ r (.slice A9 nb c9) hrp).trans hr
            clear hown hk9 hA9 hd10 hHR hHQ HDn HS HOB HVB HORB hp hli hvv HLI
            (with_reducible refine wl_k ?_ ?_); exact rfl; intro K hK; go_simp; refine hK _ ?_; clear hK K
            (with_reducible refine wl_k ?_ ?_); exact rfl; intro K hK; go_simp; refine hK _ ?_; clear hK K
            refine wl_storeC rfl 78 _ _ rfl p 1 (.slice A9 nb c9) rfl rfl info78 rfl hs1 hs2 ?_
            rw [put_noneA]
            obtain ⟨W18, hW⟩ : ∃ W, W = W9.setCell ⟨p, 1, none⟩ (.slice A9 nb c9) := ⟨_, rfl⟩
            rw [← hW] at HDN HV hs3 hq hr ⊢
            have hp : W18.heap[p]? = some (.cells (cellH oA hy.obs.length oc A9 nb c9 m lA hy.lev.length lc) 87 (0, 0)) := hs3
            have hnI : (nb : Int) - 1 = (h.bus.length : Int) := by have := HNB.out; omega
            have hnw : IntKind.i64.wrap (h.bus.length : Int) = (h.bus.length : Int) := IntWalk.i64_in _ (by omega)
            have hnwf : (Lit.int .i64 (h.bus.length : Int)).wf = true := wf64 (by omega)
            clear hs1 hs2 hs3 hW hlen hrl8 hql8 hpl8 hnp hnr hnq hqp hrp
            have hqc : (W18.cell? ⟨q, 1, none⟩).isSome = true := by rw [cell_of_row _ _ _ _ _ _ hq, Array.getElem?_eq_getElem (by omega)]; rfl
            have hqf : W18.frozen? ⟨q, 1, none⟩ = false := by unfold World.frozen?; rw [hq]; rfl
            go_upto_region 15 with (fail)
            apply wp_region_lit
            (with_reducible refine wl_k ?_ ?_); exact rfl; intro K hK; go_simp; refine hK _ ?_; clear hK K
            (with_reducible refine wl_k ?_ ?_); exact rfl; intro K hK; go_simp; refine hK _ ?_; clear hK K
            (with_reducible refine wl_k ?_ ?_); exact rfl; intro K hK; go_simp; refine hK _ ?_; clear hK K
            ((with_reducible apply wl_oneG); exact rfl; exact rfl; exact h1 hp)
            (with_reducible refine wl_k ?_ ?_); exact rfl; intro K hK; go_simp; refine hK _ ?_; clear hK K
            (with_reducible refine wl_k ?_ ?_); exact rfl; intro K hK; go_simp; refine hK _ ?_; clear hK K
            (with_reducible refine wl_k ?_ ?_); exact rfl; intro K hK; go_simp; refine hK _ ?_; clear hK K
            refine wl_storeC rfl 3 _ _ rfl q 1 (.int .i64 (h.bus.length : Int)) rfl rfl info3 rfl hqc hqf ?_
            rw [put_noneA]
            have hk19 := Keep.cellOne W18 q 1 (.int .i64 (h.bus.length : Int))
            have hq19 := hs_new (i := 1) (v := .int .i64 (h.bus.length : Int)) hq
            have hrq : r ≠ q := by omega
            replace hr := (heap_setCell_other W18 ⟨q, 1, none⟩ r (.int .i64 (h.bus.length : Int)) hrq).trans hr
            have HD19 := Lib.hid (HDN.out.put HHQ.out HQl.out hk19)
            have HV19 := Lib.hid (setNum_at (HV.out.put HHQ.out hk19) hnwf)
            obtain ⟨W19, hW⟩ : ∃ W, W = W18.setCell ⟨q, 1, none⟩ (.int .i64 (h.bus.length : Int)) := ⟨_, rfl⟩
            rw [← hW] at HD19 HV19 hq19 hr ⊢
            clear hW hk19 hq hp HDN HV hqc hqf
            have hs9 := HV19.out.size
            have ho9 := HV19.out.one
            go_upto_region 16 with (fail)
            apply wp_region_lit
            ((with_reducible apply wl_rowG); exact rfl; exact rfl; exact row35 hq19 hs9)
            (with_reducible refine wl_putV hs9 ho9 hzs rfl rfl hr ?_); rw [put_noneA]; intro W20 hbx hsz hkx hnx
            have HK20 := Lib.hid (Keep.of_put hbx hsz hkx)
            clear hbx hsz hkx hr
            (with_reducible refine wl_k ?_ ?_); exact rfl; intro K hK; go_simp; refine hK _ ?_; clear hK K
            (with_reducible refine wl_k ?_ ?_); exact rfl; intro K hK; go_simp; refine hK _ ?_; clear hK K
            go_wp2_with fail
            refine bodyPost_ret (res35tt rfl _ _ r rfl rfl rfl hs9 hnx) rfl ?_
            rw [HD.out]
            refine ⟨_, _, rfl, HV19.out.put HHR.out HK20.out, ?_⟩
            have := HD19.out.put HHR.out HRl.out HK20.out
            rw [HHY.out] at this
            exact this
end Go.Proofs.Ytpamocglecangaa
