/- The program's end, at what is no object. -/
import Derived.Test.YtpamocglecangaaPB15
namespace Go.Proofs.Ytpamocglecangaa
open Go.RowKit Go.Proofs.Ytpamocglecangaa.Nm
set_option linter.unusedSimpArgs false
set_option maxHeartbeats 16000000 in
set_option maxRecDepth 100000 in
theorem End_weak {w0 : World} {G0 : Gh} {k p : Nat} {h : Hp} {last : Array Value} {ts : List Tk} {A : Option Addr} {c : Nat} {w : World} {G : Gh} (d : TopD w0 G0 k p h last ts A c w G) {v : Va} {rv x : Array Value} (hv : VAt w (Imm G) v rv) {q : Nat}
    (hq : w.heap[q]? = some (.cells (rv ++ x) 101 (0, 0))) (hqG : G q = some (k, .tmp)) (hq0 : w0.heap.size ≤ q) (ho : ofV h.obs.length h.bus.length v = true) (hroom : weight h (ts ++ [.val v]) ≤ 700000000000) (hk : v.kind = 11) :
    Calls Try.prog 76 #[.pointer (some ⟨p, 0, none⟩), .slice A ts.length c, .pointer (some ⟨q, 0, none⟩)] w (EndT w0 G0 k p q last x (stepV' h ts (.val v))) := by
  have HD := Lib.hid d
  have HV := Lib.hid hv
  have HQ := Lib.hid hqG
  have HQ0 := Lib.hid hq0
  have HO := Lib.hid ho
  have HRM := Lib.hid hroom
  have HK := Lib.hid hk
  obtain ⟨trv, A2v, l2v, c2v, A3v, l3v, c3v, hrv⟩ := hv.row
  have HRV := Lib.hid hrv
  have hvs := hv.size
  have HNW := Lib.hid (wf_num hv)
  clear d hv hqG hq0 ho hroom hrv hk
  go_enter Try.func76, Try.ntmps76
  go_upto_region 0 with (fail)
  apply wp_region_lit
  (with_reducible refine wl_k ?_ ?_); exact rfl; intro K hK; go_simp; refine hK _ ?_; clear hK K
  (with_reducible refine wl_k ?_ ?_); exact rfl; intro K hK; go_simp; refine hK _ ?_; clear hK K
  go_upto_region 1 with (fail)
  apply wp_region_lit
  (with_reducible refine wl_k ?_ ?_); exact rfl; intro K hK; go_simp; refine hK _ ?_; clear hK K
  (with_reducible refine wl_k ?_ ?_); exact rfl; intro K hK; go_simp; refine hK _ ?_; clear hK K
  (with_reducible refine wl_k ?_ ?_); exact rfl; intro K hK; go_simp; refine hK _ ?_; clear hK K
  ((with_reducible apply wl_oneG); exact rfl; exact rfl; exact tkK hq HRV HK)
  go_upto_region 2 with (fail)
  apply wp_region_lit
  (with_reducible refine wl_k ?_ ?_); exact rfl; intro K hK; go_simp; refine hK _ ?_; clear hK K
  (with_reducible refine wl_k ?_ ?_); exact rfl; intro K hK; go_simp; refine hK _ ?_; clear hK K
  have h9 : 0 ≤ v.num ∧ v.num < (h.obs.length : Int) := by
    have := HO.out
    rw [ofV_eq, if_pos (by have := HK.out; omega)] at this
    exact of_decide_eq_true this
  obtain ⟨n, hn⟩ : ∃ n : Nat, v.num = (n : Int) := ⟨v.num.toNat, by omega⟩
  have hnl : n < h.obs.length := by omega
  have hnlI : (n : Int) < (h.obs.length : Int) := by omega
  have ho := List.getElem?_eq_getElem hnl
  obtain ⟨o, hoe⟩ : ∃ o, o = h.obs[n] := ⟨_, rfl⟩
  rw [← hoe] at ho
  obtain ⟨oA, oc, bA, bc, m, lA, lc, hh⟩ := HD.out.heap
  obtain ⟨g, tr0, fA, fc, rfl, hgr, hL, -, -, -⟩ := hh.obj ho
  have HL := Lib.hid hL
  have HOO := Lib.hid ho
  have HH := Lib.hid hh
  have HN := Lib.hid hn
  have HGR := Lib.hid hgr
  have hp := hh.blk
  clear hL hgr hoe ho hh h9 hn
  have HST : Hid (stepV' h ts (.val v) = ({ h with obs := h.obs.set n (addW (-1) o) }, ts, none)) := Lib.hid (by
    simp only [stepV', HK.out, HN.out, if_true, Int.toNat_natCast, modify_at _ HOO.out]
    rfl)
  go_upto_region 10 with (fail)
  apply wp_region_lit
  (with_reducible refine wl_k ?_ ?_); exact rfl; intro K hK; go_simp; refine hK _ ?_; clear hK K
  (with_reducible refine wl_k ?_ ?_); exact rfl; intro K hK; go_simp; refine hK _ ?_; clear hK K
  go_upto_region 11 with (fail)
  refine wp_region_below 14 mixed (by kernel_rfl) ?_; simp only [List.take_succ_cons, List.take_zero, List.drop_succ_cons, List.drop_zero]
  (with_reducible refine wq_k ?_ ?_); exact rfl; intro K hK; go_simp; (with_reducible refine hK _ ?_); clear hK K
  (with_reducible refine wq_k ?_ ?_); exact rfl; intro K hK; go_simp; (with_reducible refine hK _ ?_); clear hK K
  (with_reducible refine wq_k ?_ ?_); exact rfl; intro K hK; go_simp; (with_reducible refine hK _ ?_); clear hK K
  ((with_reducible apply wq_one); exact rfl; exact rfl; intro w' hw'; exact h0 (below_look hw' hp))
  (with_reducible refine wq_k ?_ ?_); exact rfl; intro K hK; go_simp; (with_reducible refine hK _ ?_); clear hK K
  (with_reducible refine wq_k ?_ ?_); exact rfl; intro K hK; go_simp; (with_reducible refine hK _ ?_); clear hK K
  (with_reducible refine wq_k ?_ ?_); exact rfl; intro K hK; go_simp; (with_reducible refine hK _ ?_); clear hK K
  ((with_reducible apply wq_one); exact rfl; exact rfl; intro w' hw'; exact tkN (below_look hw' hq) HRV HN)
  (with_reducible refine wq_k ?_ ?_); exact rfl; intro K hK; go_simp; (with_reducible refine hK _ ?_); clear hK K
  (with_reducible refine wq_k ?_ ?_); exact rfl; intro K hK; go_simp; (with_reducible refine hK _ ?_); clear hK K
  ((with_reducible apply wq_one); exact rfl; exact rfl; intro w' hw'; exact (HL.out w' hw').k)
  (with_reducible refine wq_k ?_ ?_); exact rfl; intro K hK; go_simp; (with_reducible refine hK _ ?_); clear hK K
  (with_reducible refine wq_k ?_ ?_); exact rfl; intro K hK; go_simp; (with_reducible refine hK _ ?_); clear hK K
  (with_reducible refine wq_k ?_ ?_); exact rfl; intro K hK; go_simp; (with_reducible refine hK _ ?_); clear hK K
  intro w3 hb3
  replace HD := Lib.hid (HD.out.quiet hb3)
  replace HH := Lib.hid (HH.out.old hb3)
  replace HV := Lib.hid (HV.out.old hb3)
  replace hq := below_look hb3 hq
  clear hb3
  clear HL hp
  obtain ⟨hs1, hs2, hrl, hset⟩ := HH.out.stO HOO.out 6 (by omega)
  have hst := hset (w64 (o.weak + -1)) (addW (-1) o) rfl rfl (by simp [addW])
  clear hset hrl
  refine wl_storeC rfl 3 _ _ rfl g _ (.int .i64 (w64 (o.weak + -1))) rfl rfl info3 rfl hs1 hs2 ?_
  rw [put_noneA]
  have hd1 := HD.out.step (h' := { h with obs := h.obs.set n (addW (-1) o) }) HGR.out (by simp) (by simp) rfl (Keep.cellOne _ g (n * 8 + 6) (.int .i64 (w64 (o.weak + -1)))) ⟨_, _, _, _, _, _, _, hst⟩
  have hqg : q ≠ g := fun e => by have := HQ.out; rw [e, HGR.out] at this; cases this
  replace hq := (heap_setCell_other w3 ⟨g, n * 8 + 6, none⟩ q (.int .i64 (w64 (o.weak + -1))) hqg).trans hq
  have HD1 := Lib.hid hd1
  clear hd1 hst hs1 hs2 HD HH
  go_upto_region 24 with (fail)
  apply wp_region_lit
  (with_reducible refine wl_k ?_ ?_); exact rfl; intro K hK; go_simp; refine hK _ ?_; clear hK K
  (with_reducible refine wl_k ?_ ?_); exact rfl; intro K hK; go_simp; refine hK _ ?_; clear hK K
  (with_reducible refine wl_k ?_ ?_); exact rfl; intro K hK; go_simp; refine hK _ ?_; clear hK K
  go_wp2_with fail
  go_ret2
  rw [HST.out]
  exact ⟨A, c, G, rv, rfl, HD1.out, HQ.out, hq, hvs, fun u e => by cases e⟩
set_option maxHeartbeats 16000000 in
set_option maxRecDepth 100000 in
theorem End_plain {w0 : World} {G0 : Gh} {k p : Nat} {h : Hp} {last : Array Value} {ts : List Tk} {A : Option Addr} {c : Nat} {w : World} {G : Gh} (d : TopD w0 G0 k p h last ts A c w G) {v : Va} {rv x : Array Value} (hv : VAt w (Imm G) v rv) {q : Nat}
    (hq : w.heap[q]? = some (.cells (rv ++ x) 101 (0, 0))) (hqG : G q = some (k, .tmp)) (hk : 0 ≤ v.kind ∧ v.kind ≤ 4) :
    Calls Try.prog 76 #[.pointer (some ⟨p, 0, none⟩), .slice A ts.length c, .pointer (some ⟨q, 0, none⟩)] w (EndT w0 G0 k p q last x (stepV' h ts (.val v))) := by
  have HST : Hid (stepV' h ts (.val v) = (h, ts, none)) := Lib.hid (by
    have e7 : ¬ v.kind = 7 := by omega
    have e11 : ¬ v.kind = 11 := by omega
    have e8 : ¬ v.kind = 8 := by omega
    have e5 : ¬ v.kind = 5 := by omega
    have ek : ¬ hasK v.kind = true := by
      unfold hasK
      simp; omega
    simp only [stepV', if_neg e7, if_neg e11, if_neg e8, if_neg e5, if_neg ek])
  obtain ⟨kk, hkk⟩ : ∃ kk, v.kind = kk := ⟨_, rfl⟩
  have HK := Lib.hid hkk
  have b7 : (kk == 7) = false := by rw [beq_eq_false_iff_ne]; omega
  have b11 : (kk == 11) = false := by rw [beq_eq_false_iff_ne]; omega
  have b8 : (kk == 8) = false := by rw [beq_eq_false_iff_ne]; omega
  have b5 : (kk == 5) = false := by rw [beq_eq_false_iff_ne]; omega
  have b6 : (kk == 6) = false := by rw [beq_eq_false_iff_ne]; omega
  have b9 : (kk == 9) = false := by rw [beq_eq_false_iff_ne]; omega
  have b10 : (kk == 10) = false := by rw [beq_eq_false_iff_ne]; omega
  have HD := Lib.hid d
  have HQ := Lib.hid hqG
  obtain ⟨trv, A2v, l2v, c2v, A3v, l3v, c3v, hrv⟩ := hv.row
  have HRV := Lib.hid hrv
  have hvs := hv.size
  clear d hv hqG hrv hk hkk
  go_enter Try.func76, Try.ntmps76
  go_upto_region 0 with (fail)
  apply wp_region_lit
  (with_reducible refine wl_k ?_ ?_); exact rfl; intro K hK; go_simp; refine hK _ ?_; clear hK K
  (with_reducible refine wl_k ?_ ?_); exact rfl; intro K hK; go_simp; refine hK _ ?_; clear hK K
  go_upto_region 1 with (fail)
  apply wp_region_lit
  (with_reducible refine wl_k ?_ ?_); exact rfl; intro K hK; go_simp; refine hK _ ?_; clear hK K
  (with_reducible refine wl_k ?_ ?_); exact rfl; intro K hK; go_simp; refine hK _ ?_; clear hK K
  (with_reducible refine wl_k ?_ ?_); exact rfl; intro K hK; go_simp; refine hK _ ?_; clear hK K
  ((with_reducible apply wl_oneG); exact rfl; exact rfl; exact tkK hq HRV HK)
  go_upto_region 2 with (fail)
  apply wp_region_lit
  (with_reducible refine wl_k ?_ ?_); exact rfl; intro K hK; go_simp; refine hK _ ?_; clear hK K
  (with_reducible refine wl_k ?_ ?_); exact rfl; intro K hK; go_simp; refine hK _ ?_; clear hK K
  go_upto_region 10 with (fail)
  apply wp_region_lit
  (with_reducible refine wl_k ?_ ?_); exact rfl; intro K hK; go_simp; refine hK _ ?_; clear hK K
  (with_reducible refine wl_k ?_ ?_); exact rfl; intro K hK; go_simp; refine hK _ ?_; clear hK K
  go_upto_region 12 with (fail)
  apply wp_region_lit
  (with_reducible refine wl_k ?_ ?_); exact rfl; intro K hK; go_simp; refine hK _ ?_; clear hK K
  (with_reducible refine wl_k ?_ ?_); exact rfl; intro K hK; go_simp; refine hK _ ?_; clear hK K
  go_upto_region 18 with (fail)
  apply wp_region_lit
  (with_reducible refine wl_k ?_ ?_); exact rfl; intro K hK; go_simp; refine hK _ ?_; clear hK K
  (with_reducible refine wl_k ?_ ?_); exact rfl; intro K hK; go_simp; refine hK _ ?_; clear hK K
  go_upto_region 20 with (fail)
  apply wp_region_lit
  (with_reducible refine wl_k ?_ ?_); exact rfl; intro K hK; go_simp; refine hK _ ?_; clear hK K
  (with_reducible refine wl_k ?_ ?_); exact rfl; intro K hK; go_simp; refine hK _ ?_; clear hK K
  go_upto_region 21 with (fail)
  apply wp_region_lit
  (with_reducible refine wl_k ?_ ?_); exact rfl; intro K hK; go_simp; refine hK _ ?_; clear hK K
  (with_reducible refine wl_k ?_ ?_); exact rfl; intro K hK; go_simp; refine hK _ ?_; clear hK K
  go_upto_region 22 with (fail)
  apply wp_region_lit
  (with_reducible refine wl_k ?_ ?_); exact rfl; intro K hK; go_simp; refine hK _ ?_; clear hK K
  (with_reducible refine wl_k ?_ ?_); exact rfl; intro K hK; go_simp; refine hK _ ?_; clear hK K
  go_upto_region 24 with (fail)
  apply wp_region_lit
  (with_reducible refine wl_k ?_ ?_); exact rfl; intro K hK; go_simp; refine hK _ ?_; clear hK K
  (with_reducible refine wl_k ?_ ?_); exact rfl; intro K hK; go_simp; refine hK _ ?_; clear hK K
  (with_reducible refine wl_k ?_ ?_); exact rfl; intro K hK; go_simp; refine hK _ ?_; clear hK K
  go_wp2_with fail
  go_ret2
  rw [HST.out]
  exact ⟨A, c, G, rv, rfl, HD.out, HQ.out, hq, hvs, fun u e => by cases e⟩
end Go.Proofs.Ytpamocglecangaa
