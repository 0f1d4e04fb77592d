/- The program's end, at an object. -/
import Derived.Test.YtpamocglecangaaPB15
namespace Go.Proofs.Ytpamocglecangaa
open Go.RowKit Go.Proofs.Ytpamocglecangaa.Nm
set_option linter.unusedSimpArgs false
theorem built101f (n : Int) : Try.prog.built 101 [(1, .int .i64 n), (3, .int .i64 1)] = some (zrow ++ #[.int .i64 n, .int .i64 0, .int .i64 1]) := by kernel_rfl
theorem ex_build101f {ev : Operand → Value} {o : Oper} {w : World} (x y : Operand) (ho : o.op = .build 101 #[(1, x), (3, y)]) {n : Int} (hx : ev x = .int .i64 n) (hy : ev y = .int .i64 1) :
    (execOp ev o).run Try.prog w = .ok (.value (.agg (zrow ++ #[.int .i64 n, .int .i64 0, .int .i64 1]))) w := ex_build 101 _ ho (by simp only [List.map_cons, List.map_nil, hx, hy]) (built101f n)
set_option maxHeartbeats 16000000 in
set_option maxRecDepth 100000 in
theorem End_obj {w0 : World} {G0 : Gh} {k p : Nat} {h : Hp} {last : Array Value} {ts : List Tk} {A : Option Addr} {c : Nat} {w : World} {G : Gh} (d : TopD w0 G0 k p h last ts A c w G) {v : Va} {rv x : Array Value} (hv : VAt w (Imm G) v rv) {q : Nat}
    (hq : w.heap[q]? = some (.cells (rv ++ x) 101 (0, 0))) (hqG : G q = some (k, .tmp)) (hq0 : w0.heap.size ≤ q) (ho : ofV h.obs.length h.bus.length v = true) (hroom : weight h (ts ++ [.val v]) ≤ 700000000000) (hk : v.kind = 7) :
    Calls Try.prog 76 #[.pointer (some ⟨p, 0, none⟩), .slice A ts.length c, .pointer (some ⟨q, 0, none⟩)] w (EndT w0 G0 k p q last x (stepV' h ts (.val v))) := by
  have HD := Lib.hid d
  have HV := Lib.hid hv
  have HQ := Lib.hid hqG
  have HQ0 := Lib.hid hq0
  have HO := Lib.hid ho
  have HRM := Lib.hid hroom
  have HK := Lib.hid hk
  obtain ⟨trv, A2v, l2v, c2v, A3v, l3v, c3v, hrv⟩ := hv.row
  have HRV := Lib.hid hrv
  have hvs := hv.size
  have HNW := Lib.hid (wf_num hv)
  clear d hv hqG hq0 ho hroom hrv hk
  go_enter Try.func76, Try.ntmps76
  go_upto_region 0 with (fail)
  apply wp_region_lit
  (with_reducible refine wl_k ?_ ?_); exact rfl; intro K hK; go_simp; refine hK _ ?_; clear hK K
  (with_reducible refine wl_k ?_ ?_); exact rfl; intro K hK; go_simp; refine hK _ ?_; clear hK K
  go_upto_region 1 with (fail)
  apply wp_region_lit
  (with_reducible refine wl_k ?_ ?_); exact rfl; intro K hK; go_simp; refine hK _ ?_; clear hK K
  (with_reducible refine wl_k ?_ ?_); exact rfl; intro K hK; go_simp; refine hK _ ?_; clear hK K
  (with_reducible refine wl_k ?_ ?_); exact rfl; intro K hK; go_simp; refine hK _ ?_; clear hK K
  ((with_reducible apply wl_oneG); exact rfl; exact rfl; exact tkK hq HRV HK)
  go_upto_region 2 with (fail)
  apply wp_region_lit
  (with_reducible refine wl_k ?_ ?_); exact rfl; intro K hK; go_simp; refine hK _ ?_; clear hK K
  (with_reducible refine wl_k ?_ ?_); exact rfl; intro K hK; go_simp; refine hK _ ?_; clear hK K
  have h9 : 0 ≤ v.num ∧ v.num < (h.obs.length : Int) := by
    have := HO.out
    rw [ofV_eq, if_pos (by have := HK.out; omega)] at this
    exact of_decide_eq_true this
  obtain ⟨n, hn⟩ : ∃ n : Nat, v.num = (n : Int) := ⟨v.num.toNat, by omega⟩
  have hnl : n < h.obs.length := by omega
  have hnlI : (n : Int) < (h.obs.length : Int) := by omega
  have ho := List.getElem?_eq_getElem hnl
  obtain ⟨o, hoe⟩ : ∃ o, o = h.obs[n] := ⟨_, rfl⟩
  rw [← hoe] at ho
  obtain ⟨oA, oc, bA, bc, m, lA, lc, hh⟩ := HD.out.heap
  obtain ⟨g, tr0, fA, fc, rfl, hgr, hL, -, -, -⟩ := hh.obj ho
  have HL := Lib.hid hL
  have HOO := Lib.hid ho
  have HH := Lib.hid hh
  have HN := Lib.hid hn
  have HGR := Lib.hid hgr
  have hp := hh.blk
  clear hL hgr hoe ho hh h9 hn
  have HST : Hid (stepV' h ts (.val v) = if w64 (o.count + -1) ≠ 0 ∨ o.state ≠ 1 then ({ h with obs := h.obs.set n (addC (-1) o) }, ts, none)
      else ({ h with obs := h.obs.set n { addC (-1) o with state := 2 } }, ts ++ [.flds n 0], if h.dei.contains o.t.name then some (.node 7 (n : Int) ⟨#[]⟩ o.t [] []) else none)) := Lib.hid (by
    simp only [stepV', HK.out, HN.out, if_true, Int.toNat_natCast, HOO.out, modify_at _ HOO.out])
  go_upto_region 3 with (fail)
  refine wp_region_belowAll mixed (by kernel_rfl) ?_
  (with_reducible refine wq_k ?_ ?_); exact rfl; intro K hK; go_simp; (with_reducible refine hK _ ?_); clear hK K
  (with_reducible refine wq_k ?_ ?_); exact rfl; intro K hK; go_simp; (with_reducible refine hK _ ?_); clear hK K
  (with_reducible refine wq_k ?_ ?_); exact rfl; intro K hK; go_simp; (with_reducible refine hK _ ?_); clear hK K
  ((with_reducible apply wq_one); exact rfl; exact rfl; intro w' hw'; exact h0 (below_look hw' hp))
  (with_reducible refine wq_k ?_ ?_); exact rfl; intro K hK; go_simp; (with_reducible refine hK _ ?_); clear hK K
  (with_reducible refine wq_k ?_ ?_); exact rfl; intro K hK; go_simp; (with_reducible refine hK _ ?_); clear hK K
  (with_reducible refine wq_k ?_ ?_); exact rfl; intro K hK; go_simp; (with_reducible refine hK _ ?_); clear hK K
  ((with_reducible apply wq_one); exact rfl; exact rfl; intro w' hw'; exact tkN (below_look hw' hq) HRV HN)
  (with_reducible refine wq_k ?_ ?_); exact rfl; intro K hK; go_simp; (with_reducible refine hK _ ?_); clear hK K
  (with_reducible refine wq_k ?_ ?_); exact rfl; intro K hK; go_simp; (with_reducible refine hK _ ?_); clear hK K
  intro w3 hb3
  have HL3 := Lib.hid (HL.out w3 hb3)
  replace HD := Lib.hid (HD.out.quiet hb3)
  replace HH := Lib.hid (HH.out.old hb3)
  replace HV := Lib.hid (HV.out.old hb3)
  replace hq := below_look hb3 hq
  clear hb3
  clear HL hp
  go_upto_region 4 with (fail)
  obtain ⟨hs1, hs2, hrl, hset⟩ := HH.out.stO HOO.out 5 (by omega)
  have hst := hset (w64 (o.count + -1)) (addC (-1) o) rfl rfl (by simp [addC])
  clear hset
  apply wp_region_lit
  (with_reducible refine wl_k ?_ ?_); exact rfl; intro K hK; go_simp; refine hK _ ?_; clear hK K
  (with_reducible refine wl_k ?_ ?_); exact rfl; intro K hK; go_simp; refine hK _ ?_; clear hK K
  (with_reducible refine wl_k ?_ ?_); exact rfl; intro K hK; go_simp; refine hK _ ?_; clear hK K
  ((with_reducible apply wl_oneG); exact rfl; exact rfl; exact HL3.out.c)
  (with_reducible refine wl_k ?_ ?_); exact rfl; intro K hK; go_simp; refine hK _ ?_; clear hK K
  (with_reducible refine wl_k ?_ ?_); exact rfl; intro K hK; go_simp; refine hK _ ?_; clear hK K
  (with_reducible refine wl_k ?_ ?_); exact rfl; intro K hK; go_simp; refine hK _ ?_; clear hK K
  refine wl_storeC rfl 3 _ _ rfl g _ (.int .i64 (w64 (o.count + -1))) rfl rfl info3 rfl hs1 hs2 ?_; rw [put_noneA]
  clear HL3 hs1 hs2
  obtain ⟨o1, ho1⟩ : ∃ o1, o1 = addC (-1) o := ⟨_, rfl⟩
  have hc1 : o1.count = w64 (o.count + -1) := by rw [ho1]; rfl
  have hs1 : o1.state = o.state := by rw [ho1]; rfl
  have ht1 : o1.t = o.t := by rw [ho1]; rfl
  obtain ⟨y1, hy1⟩ : ∃ y1 : Hp, y1 = { h with obs := h.obs.set n o1 } := ⟨_, rfl⟩
  rw [← ho1, ← hy1] at hst
  have hd1 := HD.out.step (h' := y1) HGR.out (by simp) (by simp) (by rw [hy1]) (Keep.cellOne _ g (n * 8 + 5) (.int .i64 (w64 (o.count + -1)))) ⟨_, _, _, _, _, _, _, hst⟩
  have hqg : q ≠ g := fun e => by have := HQ.out; rw [e, HGR.out] at this; cases this
  replace hq := (heap_setCell_other w3 ⟨g, n * 8 + 5, none⟩ q (.int .i64 (w64 (o.count + -1))) hqg).trans hq
  have hnl1 : y1.obs[n]? = some o1 := by rw [hy1]; exact List.getElem?_set_self (List.getElem?_eq_some_iff.1 HOO.out).1
  obtain ⟨W4, hW⟩ : ∃ W, W = w3.setCell ⟨g, n * 8 + 5, none⟩ (.int .i64 (w64 (o.count + -1))) := ⟨_, rfl⟩
  rw [← hW] at hst hd1 hq ⊢
  obtain ⟨g', tr1, fA1, fc1, e, -, hL1, hT1, -, -⟩ := hst.obj hnl1
  cases e
  have HL := Lib.hid (hL1 W4 (Below.refl _ _))
  replace HD := Lib.hid hd1
  replace HH := Lib.hid hst
  have HO1 := Lib.hid hnl1
  have HH1 := Lib.hid hy1
  have HS1 := Lib.hid hs1
  have HC1 := Lib.hid hc1
  have HT1 := Lib.hid ht1
  have HP1 := Lib.hid ho1
  clear hL1 hT1 hd1 hst hW hnl1 hy1 hs1 hc1 ht1 ho1 HV hrl
  go_upto_region 5 with (fail)
  by_cases c0 : o1.count = 0
  · have e0 : (o1.count != 0) = false := by simp [c0]
    by_cases c1 : o1.state = 1
    · have e1 : (o1.state != 1) = false := by simp [c1]
      have HST2 : Hid (stepV' h ts (.val v) = ({ h with obs := h.obs.set n { o1 with state := 2 } }, ts ++ [.flds n 0], if h.dei.contains o.t.name then some (.node 7 (n : Int) ⟨#[]⟩ o.t [] []) else none)) := Lib.hid (by
        rw [HST.out, if_neg (by rw [← HC1.out, ← HS1.out]; simp [c0, c1]), HP1.out])
      apply wp_region_lit
      (with_reducible refine wl_k ?_ ?_); exact rfl; intro K hK; go_simp; refine hK _ ?_; clear hK K
      (with_reducible refine wl_k ?_ ?_); exact rfl; intro K hK; go_simp; refine hK _ ?_; clear hK K
      (with_reducible refine wl_k ?_ ?_); exact rfl; intro K hK; go_simp; refine hK _ ?_; clear hK K
      ((with_reducible apply wl_oneG); exact rfl; exact rfl; exact HL.out.c)
      (with_reducible refine wl_k ?_ ?_); exact rfl; intro K hK; go_simp; refine hK _ ?_; clear hK K
      (with_reducible refine wl_k ?_ ?_); exact rfl; intro K hK; go_simp; refine hK _ ?_; clear hK K
      (with_reducible refine wl_k ?_ ?_); exact rfl; intro K hK; go_simp; refine hK _ ?_; clear hK K
      (with_reducible refine wl_k ?_ ?_); exact rfl; intro K hK; go_simp; refine hK _ ?_; clear hK K
      (with_reducible refine wl_k ?_ ?_); exact rfl; intro K hK; go_simp; refine hK _ ?_; clear hK K
      ((with_reducible apply wl_oneG); exact rfl; exact rfl; exact HL.out.s)
      (with_reducible refine wl_k ?_ ?_); exact rfl; intro K hK; go_simp; refine hK _ ?_; clear hK K
      (with_reducible refine wl_k ?_ ?_); exact rfl; intro K hK; go_simp; refine hK _ ?_; clear hK K
      clear c0 c1 e0 e1 HL
      go_upto_region 7 with (fail)
      obtain ⟨hs1, hs2, hrl, hset⟩ := HH.out.stO HO1.out 4 (by omega)
      have hst := hset 2 { o1 with state := 2 } rfl rfl (by simp)
      clear hset hrl
      apply wp_region_lit
      (with_reducible refine wl_k ?_ ?_); exact rfl; intro K hK; go_simp; refine hK _ ?_; clear hK K
      (with_reducible refine wl_k ?_ ?_); exact rfl; intro K hK; go_simp; refine hK _ ?_; clear hK K
      (with_reducible refine wl_k ?_ ?_); exact rfl; intro K hK; go_simp; refine hK _ ?_; clear hK K
      refine wl_storeC rfl 3 _ _ rfl g _ (.int .i64 2) rfl rfl info3 rfl hs1 hs2 ?_; rw [put_noneA]
      obtain ⟨o2, ho2⟩ : ∃ o2 : Ob, o2 = { o1 with state := 2 } := ⟨_, rfl⟩
      have ht2 : o2.t = o.t := by rw [ho2]; exact HT1.out
      rw [← ho2] at hst HST2
      obtain ⟨y2, hy2⟩ : ∃ y2 : Hp, y2 = { h with obs := h.obs.set n o2 } := ⟨_, rfl⟩
      have hh12 : ({ y1 with obs := y1.obs.set n o2 } : Hp) = y2 := by rw [hy2, HH1.out]; simp only [List.set_set]
      rw [hh12] at hst
      rw [← hy2] at HST2
      have hlv : y2.lev = y1.lev := by rw [← hh12]
      have hlv0 : y2.lev = h.lev := by rw [hy2]
      have hdv0 : y2.dei = h.dei := by rw [hy2]
      have hd1 := HD.out.step (h' := y2) HGR.out (by simp) (by simp) hlv (Keep.cellOne _ g (n * 8 + 4) (.int .i64 2)) ⟨_, _, _, _, _, _, _, hst⟩
      replace hq := (heap_setCell_other W4 ⟨g, n * 8 + 4, none⟩ q (.int .i64 2) hqg).trans hq
      have hnl1 : y2.obs[n]? = some o2 := by rw [hy2]; exact List.getElem?_set_self (List.getElem?_eq_some_iff.1 HOO.out).1
      obtain ⟨W7, hW⟩ : ∃ W, W = W4.setCell ⟨g, n * 8 + 4, none⟩ (.int .i64 2) := ⟨_, rfl⟩
      rw [← hW] at hst hd1 hq ⊢
      obtain ⟨g', tr2, fA2, fc2, e, -, hL1, hT1, -, -⟩ := hst.obj hnl1
      cases e
      have htr4 : tr2.size = 4 := hT1.size
      have HL := Lib.hid hL1
      have HT2 := Lib.hid hT1
      replace HD := Lib.hid hd1
      replace HH := Lib.hid hst
      have HO2 := Lib.hid hnl1
      have HE2 := Lib.hid ht2
      have HLV0 := Lib.hid hlv0
      have HDV0 := Lib.hid hdv0
      clear hL1 hT1 hd1 hst hW hnl1 hy2 hh12 hlv hlv0 hdv0 ht2 ho2 hs1 hs2
      go_upto_region 8 with (fail)
      refine wp_region_below 10 mixed (by kernel_rfl) ?_; simp only [List.take_succ_cons, List.take_zero, List.drop_succ_cons, List.drop_zero]
      (with_reducible refine wq_k ?_ ?_); exact rfl; intro K hK; go_simp; (with_reducible refine hK _ ?_); clear hK K
      (with_reducible refine wq_k ?_ ?_); exact rfl; intro K hK; go_simp; (with_reducible refine hK _ ?_); clear hK K
      (with_reducible refine wq_k ?_ ?_); exact rfl; intro K hK; go_simp; (with_reducible refine hK _ ?_); clear hK K
      (with_reducible refine wq_k ?_ ?_); exact rfl; intro K hK; go_simp; (with_reducible refine hK _ ?_); clear hK K
      ((with_reducible apply wq_one); exact rfl; exact rfl; intro w' hw'; exact tkN (below_look hw' hq) HRV HN)
      (with_reducible refine wq_k ?_ ?_); exact rfl; intro K hK; go_simp; (with_reducible refine hK _ ?_); clear hK K
      (with_reducible refine wq_k ?_ ?_); exact rfl; intro K hK; go_simp; (with_reducible refine hK _ ?_); clear hK K
      (with_reducible refine wq_k ?_ ?_); exact rfl; intro K hK; go_simp; (with_reducible refine hK _ ?_); clear hK K
      ((with_reducible apply wq_row); exact rfl; exact rfl; intro w' hw'; exact (HL.out w' hw').t)
      refine wq_val rfl (fun w' hw' => ex_build35t _ _ _ rfl htr4 rfl rfl rfl) ?_; simp only [put_lit, List.set_cons_zero, List.set_cons_succ]
      intro w8 hb8
      replace HD := Lib.hid (HD.out.quiet hb8)
      replace HH := Lib.hid (HH.out.old hb8)
      replace HT2 := Lib.hid (HT2.out.moved (G' := G) (Keep.of (C := fun _ => False) hb8) (fun b e => e.elim) (fun _ _ => rfl))
      replace hq := below_look hb8 hq
      clear hb8 HL
      (with_reducible refine wl_k ?_ ?_); exact rfl; intro K hK; go_simp; refine hK _ ?_; clear hK K
      have hr2 : (cell9 7 (n : Int) ⟨#[]⟩ tr2 none 0 0 none 0 0).size = 9 := cell9_size htr4
      obtain ⟨rv2, hrv2⟩ : ∃ r, r = cell9 7 (n : Int) ⟨#[]⟩ tr2 none 0 0 none 0 0 := ⟨_, rfl⟩
      have hnw : (Lit.int .i64 (n : Int)).wf = true := by rw [← HN.out]; exact HNW.out
      have hva2 : VAt w8 (Imm G) (.node 7 (n : Int) ⟨#[]⟩ o2.t [] []) rv2 := by rw [hrv2]; exact trow_at (by rfl) hnw HT2.out
      rw [← hrv2] at hr2 ⊢
      have h1v := hva2.one
      refine wl_storeN rfl 35 _ _ rfl info35 rfl rfl hr2 h1v hq (by rw [Array.size_append]; omega) ?_
      rw [put_noneA]
      have hkq := Keep.rowOne w8 q (putN (rv ++ x) 0 rv2)
      have hq2 : (w8.setRow q (putN (rv ++ x) 0 rv2)).heap[q]? = some (.cells (rv2 ++ x) 101 (0, 0)) := by rw [hr_new hq, putN_task hvs hr2]
      have hnq : ∀ b, b = q → (¬ Mine G k b ∨ G b = some (k, .lvl y2.lev.length)) ∧ G b ≠ none := fun b e => by
        subst e
        exact ⟨.inl (by rintro ⟨z, e2, h3⟩; rw [HQ.out] at e2; cases e2; exact h3 rfl), by rw [HQ.out]; simp⟩
      have hd9 := HD.out.put HQ.out HQ0.out hkq
      have hh9 := HH.out.keep hkq hnq
      have hv9 := hva2.put HQ.out hkq
      obtain ⟨W9, hW⟩ : ∃ W, W = w8.setRow q (putN (rv ++ x) 0 rv2) := ⟨_, rfl⟩
      rw [← hW] at hq2 hd9 hh9 hv9 ⊢
      obtain ⟨trw, A2w, l2w, c2w, A3w, l3w, c3w, hrw⟩ := hv9.row
      have HRW := Lib.hid hrw
      have HN2 : Hid ((Va.node 7 (n : Int) ⟨#[]⟩ o2.t [] []).num = (n : Int)) := Lib.hid rfl
      replace HD := Lib.hid hd9
      replace HH := Lib.hid hh9
      have HV9 := Lib.hid hv9
      have hq := hq2
      have hp := hh9.blk
      have hmap := hh9.map
      have HMP := Lib.hid hmap
      clear hW hkq hq2 hd9 hh9 hv9 hrw hnq hnw hva2 h1v hrv2 HT2 hmap
      obtain ⟨rows, hor, hlr, hrr, hvr⟩ := HD.out.tks
      have HOR := Lib.hid hor
      have HLR := Lib.hid hlr
      have HRR := Lib.hid hrr
      have HVR := Lib.hid hvr
      have hlen : rows.length ≤ 700000000000 := by
        have h3 := HRM.out
        have h4 := weight_len (h := h) (ts := ts) (t := .val v)
        omega
      have hCA : ∀ b, A = some ⟨b, 0, none⟩ → (¬ Mine G k b ∨ G b = some (k, .lvl y2.lev.length)) ∧ G b ≠ none := fun b e => by rw [HRR.out b e]; exact ⟨.inr rfl, by simp⟩
      have hnA : ∀ b y, G b = y → y ≠ some (k, .lvl y2.lev.length) → ¬ A = some ⟨b, 0, none⟩ := fun b y hy h3 e => h3 (hy.symm.trans (HRR.out b e))
      have HNQ := Lib.hid (hnA q _ HQ.out (by simp))
      have HNP := Lib.hid (hnA p _ HH.out.rp (by simp))
      have HCA := Lib.hid hCA
      clear hor hlr hrr hvr hCA hnA
      go_upto_region 9 with (fail)
      refine wp_region_Z (S := fun w' => Keep (fun b => A = some ⟨b, 0, none⟩) W9 w') 19 mixed (Keep.of ((Below.refl _ _).drew)) (fun hS => ?_)
      have hbz : Below W9.heap.size W9 W9.drew := (Below.refl _ _).drew
      refine za_k (i := 0) rfl (by kernel_rfl) (by kernel_rfl) (by kernel_rfl) (by kernel_rfl) (fun _ _ _ _ h => h) hS rfl (fun K hK => ?_); go_simp; refine hK _ ?_; clear hK K; try simp only [put_lit, List.set_cons_zero, List.set_cons_succ]
      refine za_k (i := 1) rfl (by kernel_rfl) (by kernel_rfl) (by kernel_rfl) (by kernel_rfl) (fun _ _ _ _ h => h) hS rfl (fun K hK => ?_); go_simp; refine hK _ ?_; clear hK K; try simp only [put_lit, List.set_cons_zero, List.set_cons_succ]
      refine za_k (i := 2) rfl (by kernel_rfl) (by kernel_rfl) (by kernel_rfl) (by kernel_rfl) (fun _ _ _ _ h => h) hS rfl (fun K hK => ?_); go_simp; refine hK _ ?_; clear hK K; try simp only [put_lit, List.set_cons_zero, List.set_cons_succ]
      refine za_k (i := 3) rfl (by kernel_rfl) (by kernel_rfl) (by kernel_rfl) (by kernel_rfl) (fun _ _ _ _ h => h) hS rfl (fun K hK => ?_); go_simp; refine hK _ ?_; clear hK K; try simp only [put_lit, List.set_cons_zero, List.set_cons_succ]
      refine za_val (i := 4) rfl (by kernel_rfl) (by kernel_rfl) (by kernel_rfl) (by kernel_rfl) (fun _ _ _ h => h) hS rfl (fun w' hw' => ex_one rfl (tkN (hw'.look hq HNQ.out) HRW HN2)) ?_; try simp only [put_lit, List.set_cons_zero, List.set_cons_succ]
      refine za_val (i := 5) rfl (by kernel_rfl) (by kernel_rfl) (by kernel_rfl) (by kernel_rfl) (fun _ _ _ h => h) hS rfl (fun w' hw' => ex_build101f _ _ rfl rfl rfl) ?_; try simp only [put_lit, List.set_cons_zero, List.set_cons_succ]
      refine za_k (i := 8) rfl (by kernel_rfl) (by kernel_rfl) (by kernel_rfl) (by kernel_rfl) (fun _ _ _ _ h => h) hS rfl (fun K hK => ?_); go_simp; refine hK _ ?_; clear hK K; try simp only [put_lit, List.set_cons_zero, List.set_cons_succ]
      refine za_k (i := 9) rfl (by kernel_rfl) (by kernel_rfl) (by kernel_rfl) (by kernel_rfl) (fun _ _ _ _ h => h) hS rfl (fun K hK => ?_); go_simp; refine hK _ ?_; clear hK K; try simp only [put_lit, List.set_cons_zero, List.set_cons_succ]
      refine za_k (i := 10) rfl (by kernel_rfl) (by kernel_rfl) (by kernel_rfl) (by kernel_rfl) (fun _ _ _ _ h => h) hS rfl (fun K hK => ?_); go_simp; refine hK _ ?_; clear hK K; try simp only [put_lit, List.set_cons_zero, List.set_cons_succ]
      refine za_val (i := 11) rfl (by kernel_rfl) (by kernel_rfl) (by kernel_rfl) (by kernel_rfl) (fun _ _ _ h => h) hS rfl (fun w' hw' => ex_one rfl (h2 (hw'.look hp HNP.out))) ?_; try simp only [put_lit, List.set_cons_zero, List.set_cons_succ]
      refine za_k (i := 12) rfl (by kernel_rfl) (by kernel_rfl) (by kernel_rfl) (by kernel_rfl) (fun _ _ _ _ h => h) hS rfl (fun K hK => ?_); go_simp; refine hK _ ?_; clear hK K; try simp only [put_lit, List.set_cons_zero, List.set_cons_succ]
      refine za_k (i := 13) rfl (by kernel_rfl) (by kernel_rfl) (by kernel_rfl) (by kernel_rfl) (fun _ _ _ _ h => h) hS rfl (fun K hK => ?_); go_simp; refine hK _ ?_; clear hK K; try simp only [put_lit, List.set_cons_zero, List.set_cons_succ]
      refine za_k (i := 14) rfl (by kernel_rfl) (by kernel_rfl) (by kernel_rfl) (by kernel_rfl) (fun _ _ _ _ h => h) hS rfl (fun K hK => ?_); go_simp; refine hK _ ?_; clear hK K; try simp only [put_lit, List.set_cons_zero, List.set_cons_succ]
      refine za_k (i := 15) rfl (by kernel_rfl) (by kernel_rfl) (by kernel_rfl) (by kernel_rfl) (fun _ _ _ _ h => h) hS rfl (fun K hK => ?_); go_simp; refine hK _ ?_; clear hK K; try simp only [put_lit, List.set_cons_zero, List.set_cons_succ]
      refine za_val (i := 16) rfl (by kernel_rfl) (by kernel_rfl) (by kernel_rfl) (by kernel_rfl) (fun _ _ _ h => h) hS rfl (fun w' hw' => ex_one rfl (HH.out.nameK HO2.out hw' HCA.out)) ?_; try simp only [put_lit, List.set_cons_zero, List.set_cons_succ]
      refine za_val (i := 17) rfl (by kernel_rfl) (by kernel_rfl) (by kernel_rfl) (by kernel_rfl) (fun _ _ _ h => h) hS rfl (fun w' hw' => ex_look84 _ _ rfl rfl rfl (HH.out.keep hw' HCA.out).map) ?_; try simp only [put_lit, List.set_cons_zero, List.set_cons_succ]
      refine za_new (i := 6) (v := fun q => .slice (some ⟨q, 0, none⟩) 1 1) (by kernel_rfl) rfl rfl (ex_bs98 _ rfl rfl rfl) (fun W hW => hS.trans (C' := fun _ => False) (fun b e => e.elim) (Keep.of hW)) ?_
      clear hS
      intro W10 q8 hbn hlq8 hq8 hS
      try simp only [put_lit, List.set_cons_zero, List.set_cons_succ]
      replace hbn := hbz.trans (hbn.mono hbz.size)
      replace HD := Lib.hid (HD.out.quiet hbn)
      replace HOR := Lib.hid (HOR.out.old hbn)
      replace HV9 := Lib.hid (HV9.out.old hbn)
      replace HVR := Lib.hid (fun (j : Nat) (t : Tk) (row : Array Value) (e1 : ts[j]? = some t) (e2 : rows[j]? = some row) => (HVR.out j t row e1 e2).same (fun b hl _ => hbn.block b hl))
      replace hq := below_look hbn hq
      clear hbn hbz hp
      refine za_pushL (i := 7) elt98 (by kernel_rfl) rfl rfl _ _ rfl (show _ = Value.slice A rows.length c by rw [HLR.out]; rfl) rfl HOR.out hq8 rfl (by simp [Value.oneCell', zrow]) (by omega) (by unfold maxLen; omega) (fun w' hk => hS.trans (C' := fun b => A = some ⟨b, 0, none⟩) (fun b e => .inl e) hk) ?_
      clear hS
      intro A9 c9 W11 hown hk9 hA9 hS
      rw [HLR.out]
      try simp only [put_lit, List.set_cons_zero, List.set_cons_succ]
      replace hq := hk9.look hq HNQ.out
      have hql : q < W10.heap.size := by
        have h5 := HV9.out
        rcases Nat.lt_or_ge q W10.heap.size with h6 | h6
        · exact h6
        · have := HD.out.fr q h6
          rw [HQ.out] at this; cases this
      have hG9 := own_again HRR.out hA9
      have mv : ∀ {u : Va} {row : Array Value}, VAt W10 (Imm G) u row → VAt W11 (Imm (own G A9 (k, .lvl y2.lev.length))) u row := fun hv => hv.moved hk9 (fun b e => by rw [HRR.out b e]; simp) hG9
      obtain ⟨hd11, -⟩ := HD.out.push (ts' := ts ++ [.flds n 0]) hk9 hA9 hown (by simp [HLR.out]) (fun j t row hj hrow => by
        by_cases e : j < ts.length
        · rw [List.getElem?_append_left e] at hj
          rw [List.getElem?_append_left (by rw [HLR.out]; exact e)] at hrow
          have h5 := HVR.out j t row hj hrow
          cases t with
          | val u => obtain ⟨rv0, h6, h7⟩ := h5; exact ⟨rv0, mv h6, h7⟩
          | flds o i => obtain ⟨rv0, u, h6, h7⟩ := h5; exact ⟨rv0, u, mv h6, h7⟩
        · rw [List.getElem?_append_right (by omega)] at hj
          rw [List.getElem?_append_right (by rw [HLR.out]; omega), HLR.out] at hrow
          match hz : j - ts.length, hj, hrow with
          | 0, hj, hrow => cases hj; cases hrow; exact ⟨zrow, va0, zero_va _ _, rfl⟩)
      have HD11 := Lib.hid hd11
      have HV11 := Lib.hid (mv HV9.out)
      have HQ11 : Hid (own G A9 (k, .lvl y2.lev.length) q = some (k, .tmp)) := Lib.hid ((hG9 q hql).trans HQ.out)
      clear hown hk9 hA9 hd11 mv hG9 hql hq8 HD HOR HVR HV9 hlen
      refine za_1 (i := 18) (by kernel_rfl) rfl rfl hS (fun K hK => ?_); go_simp; refine hK _ ?_; clear hK K; try simp only [put_lit, List.set_cons_zero, List.set_cons_succ]
      refine za_1 (i := 19) (by kernel_rfl) rfl rfl hS (fun K hK => ?_); go_simp; refine hK _ ?_; clear hK K; try simp only [put_lit, List.set_cons_zero, List.set_cons_succ]
      clear hS
      refine za_done (by kernel_rfl) ?_ _
      go_wp2_with fail
      go_ret2
      rw [HST2.out]
      refine ⟨A9, c9, _, rv2, ?_, HD11.out, HQ11.out, hq, hr2, fun u e => ?_⟩
      · rw [HE2.out, HDV0.out]
        simp only [List.length_append, List.length_singleton]
        cases h.dei.contains o.t.name <;> rfl
      · split at e
        · cases e; rw [← HE2.out]; exact HV11.out
        · cases e
    · have e1 : (o1.state != 1) = true := by simp [c1]
      have HST2 : Hid (stepV' h ts (.val v) = (y1, ts, none)) := Lib.hid (by
        rw [HST.out, if_pos (by rw [← HS1.out]; exact .inr c1), HH1.out, HP1.out])
      apply wp_region_lit
      (with_reducible refine wl_k ?_ ?_); exact rfl; intro K hK; go_simp; refine hK _ ?_; clear hK K
      (with_reducible refine wl_k ?_ ?_); exact rfl; intro K hK; go_simp; refine hK _ ?_; clear hK K
      (with_reducible refine wl_k ?_ ?_); exact rfl; intro K hK; go_simp; refine hK _ ?_; clear hK K
      ((with_reducible apply wl_oneG); exact rfl; exact rfl; exact HL.out.c)
      (with_reducible refine wl_k ?_ ?_); exact rfl; intro K hK; go_simp; refine hK _ ?_; clear hK K
      (with_reducible refine wl_k ?_ ?_); exact rfl; intro K hK; go_simp; refine hK _ ?_; clear hK K
      (with_reducible refine wl_k ?_ ?_); exact rfl; intro K hK; go_simp; refine hK _ ?_; clear hK K
      (with_reducible refine wl_k ?_ ?_); exact rfl; intro K hK; go_simp; refine hK _ ?_; clear hK K
      (with_reducible refine wl_k ?_ ?_); exact rfl; intro K hK; go_simp; refine hK _ ?_; clear hK K
      ((with_reducible apply wl_oneG); exact rfl; exact rfl; exact HL.out.s)
      (with_reducible refine wl_k ?_ ?_); exact rfl; intro K hK; go_simp; refine hK _ ?_; clear hK K
      (with_reducible refine wl_k ?_ ?_); exact rfl; intro K hK; go_simp; refine hK _ ?_; clear hK K
      clear c0 c1 e0 e1
      go_upto_region 6 with (fail)
      apply wp_region_lit
      (with_reducible refine wl_k ?_ ?_); exact rfl; intro K hK; go_simp; refine hK _ ?_; clear hK K
      (with_reducible refine wl_k ?_ ?_); exact rfl; intro K hK; go_simp; refine hK _ ?_; clear hK K
      (with_reducible refine wl_k ?_ ?_); exact rfl; intro K hK; go_simp; refine hK _ ?_; clear hK K
      go_wp2_with fail
      go_ret2
      rw [HST2.out]
      exact ⟨A, c, G, rv, rfl, HD.out, HQ.out, hq, hvs, fun u e => by cases e⟩
  · have e0 : (o1.count != 0) = true := by simp [c0]
    have HST2 : Hid (stepV' h ts (.val v) = (y1, ts, none)) := Lib.hid (by
      rw [HST.out, if_pos (by rw [← HC1.out]; exact .inl c0), HH1.out, HP1.out])
    apply wp_region_lit
    (with_reducible refine wl_k ?_ ?_); exact rfl; intro K hK; go_simp; refine hK _ ?_; clear hK K
    (with_reducible refine wl_k ?_ ?_); exact rfl; intro K hK; go_simp; refine hK _ ?_; clear hK K
    (with_reducible refine wl_k ?_ ?_); exact rfl; intro K hK; go_simp; refine hK _ ?_; clear hK K
    ((with_reducible apply wl_oneG); exact rfl; exact rfl; exact HL.out.c)
    (with_reducible refine wl_k ?_ ?_); exact rfl; intro K hK; go_simp; refine hK _ ?_; clear hK K
    (with_reducible refine wl_k ?_ ?_); exact rfl; intro K hK; go_simp; refine hK _ ?_; clear hK K
    (first | ((with_reducible refine wl_skipU ?_ ?_ ?_); exact rfl; exact rfl) | ((with_reducible refine wl_skip ?_ ?_); exact rfl; simp only [put_lit, List.set_cons_zero, List.set_cons_succ]))
    (first | ((with_reducible refine wl_skipU ?_ ?_ ?_); exact rfl; exact rfl) | ((with_reducible refine wl_skip ?_ ?_); exact rfl; simp only [put_lit, List.set_cons_zero, List.set_cons_succ]))
    (first | ((with_reducible refine wl_skipU ?_ ?_ ?_); exact rfl; exact rfl) | ((with_reducible refine wl_skip ?_ ?_); exact rfl; simp only [put_lit, List.set_cons_zero, List.set_cons_succ]))
    (first | ((with_reducible refine wl_skipU ?_ ?_ ?_); exact rfl; exact rfl) | ((with_reducible refine wl_skip ?_ ?_); exact rfl; simp only [put_lit, List.set_cons_zero, List.set_cons_succ]))
    (first | ((with_reducible refine wl_skipU ?_ ?_ ?_); exact rfl; exact rfl) | ((with_reducible refine wl_skip ?_ ?_); exact rfl; simp only [put_lit, List.set_cons_zero, List.set_cons_succ]))
    (with_reducible refine wl_k ?_ ?_); exact rfl; intro K hK; go_simp; refine hK _ ?_; clear hK K
    clear c0 e0
    go_upto_region 6 with (fail)
    apply wp_region_lit
    (with_reducible refine wl_k ?_ ?_); exact rfl; intro K hK; go_simp; refine hK _ ?_; clear hK K
    (with_reducible refine wl_k ?_ ?_); exact rfl; intro K hK; go_simp; refine hK _ ?_; clear hK K
    (with_reducible refine wl_k ?_ ?_); exact rfl; intro K hK; go_simp; refine hK _ ?_; clear hK K
    go_wp2_with fail
    go_ret2
    rw [HST2.out]
    exact ⟨A, c, G, rv, rfl, HD.out, HQ.out, hq, hvs, fun u e => by cases e⟩
end Go.Proofs.Ytpamocglecangaa
