/- The program's end, at a struct and at a buffer. -/
import Derived.Test.YtpamocglecangaaPB15
namespace Go.Proofs.Ytpamocglecangaa
open Go.RowKit Go.Proofs.Ytpamocglecangaa.Nm
set_option linter.unusedSimpArgs false
set_option maxHeartbeats 16000000 in
set_option maxRecDepth 100000 in
theorem End_struct {w0 : World} {G0 : Gh} {k p : Nat} {h : Hp} {last : Array Value} {ts : List Tk} {A : Option Addr} {c : Nat} {w : World} {G : Gh} (d : TopD w0 G0 k p h last ts A c w G) {v : Va} {rv x : Array Value} (hv : VAt w (Imm G) v rv) {q : Nat}
    (hq : w.heap[q]? = some (.cells (rv ++ x) 101 (0, 0))) (hqG : G q = some (k, .tmp)) (hroom : weight h (ts ++ [.val v]) ≤ 700000000000) (hk : v.kind = 5) :
    Calls Try.prog 76 #[.pointer (some ⟨p, 0, none⟩), .slice A ts.length c, .pointer (some ⟨q, 0, none⟩)] w (EndT w0 G0 k p q last x (stepV' h ts (.val v))) := by
  have HST : Hid (stepV' h ts (.val v) = (h, ts ++ laterV v.parts, if h.dei.contains v.typ.name then some v else none)) := Lib.hid (by
    simp only [stepV', hk, if_true]
    rfl)
  have HD := Lib.hid d
  have HV := Lib.hid hv
  have HQ := Lib.hid hqG
  have HRM := Lib.hid hroom
  have HK := Lib.hid hk
  obtain ⟨trv, A2v, l2v, c2v, A3v, l3v, c3v, hrv⟩ := hv.row
  have HRV := Lib.hid hrv
  have hvs := hv.size
  have hvl := hrv.vs.len
  subst hvl
  clear d hv hqG hroom hrv hk
  go_enter Try.func76, Try.ntmps76
  go_upto_region 0 with (fail)
  apply wp_region_lit
  (with_reducible refine wl_k ?_ ?_); exact rfl; intro K hK; go_simp; refine hK _ ?_; clear hK K
  (with_reducible refine wl_k ?_ ?_); exact rfl; intro K hK; go_simp; refine hK _ ?_; clear hK K
  go_upto_region 1 with (fail)
  apply wp_region_lit
  (with_reducible refine wl_k ?_ ?_); exact rfl; intro K hK; go_simp; refine hK _ ?_; clear hK K
  (with_reducible refine wl_k ?_ ?_); exact rfl; intro K hK; go_simp; refine hK _ ?_; clear hK K
  (with_reducible refine wl_k ?_ ?_); exact rfl; intro K hK; go_simp; refine hK _ ?_; clear hK K
  ((with_reducible apply wl_oneG); exact rfl; exact rfl; exact tkK hq HRV HK)
  go_upto_region 2 with (fail)
  apply wp_region_lit
  (with_reducible refine wl_k ?_ ?_); exact rfl; intro K hK; go_simp; refine hK _ ?_; clear hK K
  (with_reducible refine wl_k ?_ ?_); exact rfl; intro K hK; go_simp; refine hK _ ?_; clear hK K
  go_upto_region 10 with (fail)
  apply wp_region_lit
  (with_reducible refine wl_k ?_ ?_); exact rfl; intro K hK; go_simp; refine hK _ ?_; clear hK K
  (with_reducible refine wl_k ?_ ?_); exact rfl; intro K hK; go_simp; refine hK _ ?_; clear hK K
  go_upto_region 12 with (fail)
  apply wp_region_lit
  (with_reducible refine wl_k ?_ ?_); exact rfl; intro K hK; go_simp; refine hK _ ?_; clear hK K
  (with_reducible refine wl_k ?_ ?_); exact rfl; intro K hK; go_simp; refine hK _ ?_; clear hK K
  go_upto_region 18 with (fail)
  apply wp_region_lit
  (with_reducible refine wl_k ?_ ?_); exact rfl; intro K hK; go_simp; refine hK _ ?_; clear hK K
  (with_reducible refine wl_k ?_ ?_); exact rfl; intro K hK; go_simp; refine hK _ ?_; clear hK K
  obtain ⟨oA, oc, bA, bc, m, lA, lc, hh⟩ := HD.out.heap
  have HH := Lib.hid hh
  have hp := hh.blk
  have hrr : RoleOf G A (k, .lvl h.lev.length) := by obtain ⟨-, -, -, hr, -⟩ := HD.out.tks; exact hr
  have HRR := Lib.hid hrr
  have hCA : ∀ b, A = some ⟨b, 0, none⟩ → (¬ Mine G k b ∨ G b = some (k, .lvl h.lev.length)) ∧ G b ≠ none := fun b e => by rw [HRR.out b e]; exact ⟨.inr rfl, by simp⟩
  have hnA : ∀ b y, G b = y → y ≠ some (k, .lvl h.lev.length) → ¬ A = some ⟨b, 0, none⟩ := fun b y hy h3 e => h3 (hy.symm.trans (HRR.out b e))
  have HNQ := Lib.hid (hnA q _ HQ.out (by simp))
  have HNP := Lib.hid (hnA p _ HH.out.rp (by simp))
  have HCA := Lib.hid hCA
  have HVS := Lib.hid (HRV.out.vs.vsr (k, .lvl h.lev.length))
  have HSZ := Lib.hid (heap_lt hq)
  clear hh hrr hCA hnA
  go_upto_region 19 with (fail)
  refine wp_region_Z (S := fun w' => Keep (fun b => A = some ⟨b, 0, none⟩) w w') 17 mixed (Keep.of ((Below.refl _ _).drew)) (fun hS => ?_)
  have hbz : Below w.heap.size w w.drew := (Below.refl _ _).drew
  refine za_k (i := 0) rfl (by kernel_rfl) (by kernel_rfl) (by kernel_rfl) (by kernel_rfl) (fun _ _ _ _ h => h) hS rfl (fun K hK => ?_); go_simp; refine hK _ ?_; clear hK K; try simp only [put_lit, List.set_cons_zero, List.set_cons_succ]
  refine za_k (i := 1) rfl (by kernel_rfl) (by kernel_rfl) (by kernel_rfl) (by kernel_rfl) (fun _ _ _ _ h => h) hS rfl (fun K hK => ?_); go_simp; refine hK _ ?_; clear hK K; try simp only [put_lit, List.set_cons_zero, List.set_cons_succ]
  refine za_k (i := 2) rfl (by kernel_rfl) (by kernel_rfl) (by kernel_rfl) (by kernel_rfl) (fun _ _ _ _ h => h) hS rfl (fun K hK => ?_); go_simp; refine hK _ ?_; clear hK K; try simp only [put_lit, List.set_cons_zero, List.set_cons_succ]
  refine za_k (i := 3) rfl (by kernel_rfl) (by kernel_rfl) (by kernel_rfl) (by kernel_rfl) (fun _ _ _ _ h => h) hS rfl (fun K hK => ?_); go_simp; refine hK _ ?_; clear hK K; try simp only [put_lit, List.set_cons_zero, List.set_cons_succ]
  refine za_val (i := 4) rfl (by kernel_rfl) (by kernel_rfl) (by kernel_rfl) (by kernel_rfl) (fun _ _ _ h => h) hS rfl (fun w' hw' => ex_one rfl (tkL (hw'.look hq HNQ.out) HRV)) ?_; try simp only [put_lit, List.set_cons_zero, List.set_cons_succ]
  refine za_k (i := 6) rfl (by kernel_rfl) (by kernel_rfl) (by kernel_rfl) (by kernel_rfl) (fun _ _ _ _ h => h) hS rfl (fun K hK => ?_); go_simp; refine hK _ ?_; clear hK K; try simp only [put_lit, List.set_cons_zero, List.set_cons_succ]
  refine za_k (i := 7) rfl (by kernel_rfl) (by kernel_rfl) (by kernel_rfl) (by kernel_rfl) (fun _ _ _ _ h => h) hS rfl (fun K hK => ?_); go_simp; refine hK _ ?_; clear hK K; try simp only [put_lit, List.set_cons_zero, List.set_cons_succ]
  refine za_k (i := 8) rfl (by kernel_rfl) (by kernel_rfl) (by kernel_rfl) (by kernel_rfl) (fun _ _ _ _ h => h) hS rfl (fun K hK => ?_); go_simp; refine hK _ ?_; clear hK K; try simp only [put_lit, List.set_cons_zero, List.set_cons_succ]
  refine za_val (i := 9) rfl (by kernel_rfl) (by kernel_rfl) (by kernel_rfl) (by kernel_rfl) (fun _ _ _ h => h) hS rfl (fun w' hw' => ex_one rfl (h2 (hw'.look hp HNP.out))) ?_; try simp only [put_lit, List.set_cons_zero, List.set_cons_succ]
  refine za_k (i := 10) rfl (by kernel_rfl) (by kernel_rfl) (by kernel_rfl) (by kernel_rfl) (fun _ _ _ _ h => h) hS rfl (fun K hK => ?_); go_simp; refine hK _ ?_; clear hK K; try simp only [put_lit, List.set_cons_zero, List.set_cons_succ]
  refine za_k (i := 11) rfl (by kernel_rfl) (by kernel_rfl) (by kernel_rfl) (by kernel_rfl) (fun _ _ _ _ h => h) hS rfl (fun K hK => ?_); go_simp; refine hK _ ?_; clear hK K; try simp only [put_lit, List.set_cons_zero, List.set_cons_succ]
  refine za_k (i := 12) rfl (by kernel_rfl) (by kernel_rfl) (by kernel_rfl) (by kernel_rfl) (fun _ _ _ _ h => h) hS rfl (fun K hK => ?_); go_simp; refine hK _ ?_; clear hK K; try simp only [put_lit, List.set_cons_zero, List.set_cons_succ]
  refine za_k (i := 13) rfl (by kernel_rfl) (by kernel_rfl) (by kernel_rfl) (by kernel_rfl) (fun _ _ _ _ h => h) hS rfl (fun K hK => ?_); go_simp; refine hK _ ?_; clear hK K; try simp only [put_lit, List.set_cons_zero, List.set_cons_succ]
  refine za_val (i := 14) rfl (by kernel_rfl) (by kernel_rfl) (by kernel_rfl) (by kernel_rfl) (fun _ _ _ h => h) hS rfl (fun w' hw' => ex_one rfl (tkS (hw'.look hq HNQ.out) HRV)) ?_; try simp only [put_lit, List.set_cons_zero, List.set_cons_succ]
  refine za_val (i := 15) rfl (by kernel_rfl) (by kernel_rfl) (by kernel_rfl) (by kernel_rfl) (fun _ _ _ h => h) hS rfl (fun w' hw' => ex_look84 _ _ rfl rfl rfl (HH.out.keep hw' HCA.out).map) ?_; try simp only [put_lit, List.set_cons_zero, List.set_cons_succ]
  have hcl := back_top (HD.out.quiet hbz) (vA := A3v) (vc := c3v) (vs := v.parts) (by
    obtain ⟨rv, hx⟩ := HVS.out
    refine ⟨rv, fun i u hi => ?_⟩
    obtain ⟨a1, b, off, a2, a3, a4, a5⟩ := hx i u hi
    exact ⟨a1.old hbz, b, off, a2, a3, a4, a5⟩) (by
    have h3 := HRM.out
    have h4 := weight_len (h := h) (ts := ts) (t := .val v)
    have h5 : wT h (.val v) = wV v := rfl
    have h6 := wV_eq v
    have h7 := wVs_len v.parts
    omega)
  refine za_call (i := 5) (by kernel_rfl) rfl rfl (fun K hK => ?_)
  go_simp
  refine ⟨_, _, ⟨rfl, rfl⟩, hK _ _ ⟨_, hcl, ?_⟩⟩
  clear hK K
  rintro e w7 ⟨A7, c7, G7, rfl, hd7, hG7, hk7, hr7⟩
  have hS7 : Keep (fun b => A = some ⟨b, 0, none⟩) w w7 := (Keep.of (C := fun b => A = some ⟨b, 0, none⟩) hbz).trans (C' := fun b => A = some ⟨b, 0, none⟩) (fun b e => .inl e) hk7
  refine ⟨_, rfl, fun _ => hS7, ?_⟩
  try simp only [put_lit, List.set_cons_zero, List.set_cons_succ]
  have HD7 := Lib.hid hd7
  have HQ7 : Hid (G7 q = some (k, .tmp)) := Lib.hid ((hG7 q HSZ.out).trans HQ.out)
  have HV7 : Hid (VAt w7 (Imm G7) v rv) := Lib.hid (HV.out.moved hS7 (fun b e => by rw [HRR.out b e]; simp) hG7)
  replace hq := hS7.look hq HNQ.out
  clear hd7 hG7 hk7 hr7 hcl HD HVS HV HH hp hbz hS
  have hS := hS7
  refine za_1 (i := 16) (by kernel_rfl) rfl rfl hS (fun K hK => ?_); go_simp; refine hK _ ?_; clear hK K; try simp only [put_lit, List.set_cons_zero, List.set_cons_succ]
  refine za_1 (i := 17) (by kernel_rfl) rfl rfl hS (fun K hK => ?_); go_simp; refine hK _ ?_; clear hK K; try simp only [put_lit, List.set_cons_zero, List.set_cons_succ]
  clear hS hS7
  refine za_done (by kernel_rfl) ?_ _
  go_wp2_with fail
  go_ret2
  rw [HST.out]
  refine ⟨A7, c7, G7, rv, ?_, HD7.out, HQ7.out, hq, hvs, fun u e => ?_⟩
  · simp only [List.length_append]
    cases h.dei.contains v.typ.name <;> rfl
  · split at e
    · cases e; exact HV7.out
    · cases e
set_option maxHeartbeats 16000000 in
set_option maxRecDepth 100000 in
theorem End_buf {w0 : World} {G0 : Gh} {k p : Nat} {h : Hp} {last : Array Value} {ts : List Tk} {A : Option Addr} {c : Nat} {w : World} {G : Gh} (d : TopD w0 G0 k p h last ts A c w G) {v : Va} {rv x : Array Value} (hv : VAt w (Imm G) v rv) {q : Nat}
    (hq : w.heap[q]? = some (.cells (rv ++ x) 101 (0, 0))) (hqG : G q = some (k, .tmp)) (hq0 : w0.heap.size ≤ q) (ho : ofV h.obs.length h.bus.length v = true) (hroom : weight h (ts ++ [.val v]) ≤ 700000000000) (hk : v.kind = 8) :
    Calls Try.prog 76 #[.pointer (some ⟨p, 0, none⟩), .slice A ts.length c, .pointer (some ⟨q, 0, none⟩)] w (EndT w0 G0 k p q last x (stepV' h ts (.val v))) := by
  have HD := Lib.hid d
  have HV := Lib.hid hv
  have HQ := Lib.hid hqG
  have HQ0 := Lib.hid hq0
  have HO := Lib.hid ho
  have HRM := Lib.hid hroom
  have HK := Lib.hid hk
  obtain ⟨trv, A2v, l2v, c2v, A3v, l3v, c3v, hrv⟩ := hv.row
  have HRV := Lib.hid hrv
  have hvs := hv.size
  have HNW := Lib.hid (wf_num hv)
  clear d hv hqG hq0 ho hroom hrv hk
  go_enter Try.func76, Try.ntmps76
  go_upto_region 0 with (fail)
  apply wp_region_lit
  (with_reducible refine wl_k ?_ ?_); exact rfl; intro K hK; go_simp; refine hK _ ?_; clear hK K
  (with_reducible refine wl_k ?_ ?_); exact rfl; intro K hK; go_simp; refine hK _ ?_; clear hK K
  go_upto_region 1 with (fail)
  apply wp_region_lit
  (with_reducible refine wl_k ?_ ?_); exact rfl; intro K hK; go_simp; refine hK _ ?_; clear hK K
  (with_reducible refine wl_k ?_ ?_); exact rfl; intro K hK; go_simp; refine hK _ ?_; clear hK K
  (with_reducible refine wl_k ?_ ?_); exact rfl; intro K hK; go_simp; refine hK _ ?_; clear hK K
  ((with_reducible apply wl_oneG); exact rfl; exact rfl; exact tkK hq HRV HK)
  go_upto_region 2 with (fail)
  apply wp_region_lit
  (with_reducible refine wl_k ?_ ?_); exact rfl; intro K hK; go_simp; refine hK _ ?_; clear hK K
  (with_reducible refine wl_k ?_ ?_); exact rfl; intro K hK; go_simp; refine hK _ ?_; clear hK K
  have h9 : 0 ≤ v.num ∧ v.num < (h.bus.length : Int) := by
    have := HO.out
    rw [ofV_eq, if_neg (by have := HK.out; omega), if_pos (by have := HK.out; omega)] at this
    exact of_decide_eq_true this
  obtain ⟨n, hn⟩ : ∃ n : Nat, v.num = (n : Int) := ⟨v.num.toNat, by omega⟩
  have hnl : n < h.bus.length := by omega
  have hnlI : (n : Int) < (h.bus.length : Int) := by omega
  have ho := List.getElem?_eq_getElem hnl
  obtain ⟨o, hoe⟩ : ∃ o, o = h.bus[n] := ⟨_, rfl⟩
  rw [← hoe] at ho
  obtain ⟨oA, oc, bA, bc, m, lA, lc, hh⟩ := HD.out.heap
  obtain ⟨g, fA, fc, rfl, hgr, hL, -, -⟩ := hh.buf ho
  have HL := Lib.hid hL
  have HOO := Lib.hid ho
  have HH := Lib.hid hh
  have HN := Lib.hid hn
  have HGR := Lib.hid hgr
  have hp := hh.blk
  clear hL hgr hoe ho hh h9 hn
  have HST : Hid (stepV' h ts (.val v) = if w64 (o.count + -1) = 0 then ({ h with bus := h.bus.set n { addB (-1) o with elems := [] } }, ts ++ laterV o.elems, none)
      else ({ h with bus := h.bus.set n (addB (-1) o) }, ts, none)) := Lib.hid (by
    simp only [stepV', HK.out, HN.out, if_true, Int.toNat_natCast, HOO.out, modify_at _ HOO.out]
    rfl)
  go_upto_region 10 with (fail)
  apply wp_region_lit
  (with_reducible refine wl_k ?_ ?_); exact rfl; intro K hK; go_simp; refine hK _ ?_; clear hK K
  (with_reducible refine wl_k ?_ ?_); exact rfl; intro K hK; go_simp; refine hK _ ?_; clear hK K
  go_upto_region 12 with (fail)
  apply wp_region_lit
  (with_reducible refine wl_k ?_ ?_); exact rfl; intro K hK; go_simp; refine hK _ ?_; clear hK K
  (with_reducible refine wl_k ?_ ?_); exact rfl; intro K hK; go_simp; refine hK _ ?_; clear hK K
  go_upto_region 13 with (fail)
  refine wp_region_belowAll mixed (by kernel_rfl) ?_
  (with_reducible refine wq_k ?_ ?_); exact rfl; intro K hK; go_simp; (with_reducible refine hK _ ?_); clear hK K
  (with_reducible refine wq_k ?_ ?_); exact rfl; intro K hK; go_simp; (with_reducible refine hK _ ?_); clear hK K
  (with_reducible refine wq_k ?_ ?_); exact rfl; intro K hK; go_simp; (with_reducible refine hK _ ?_); clear hK K
  ((with_reducible apply wq_one); exact rfl; exact rfl; intro w' hw'; exact h1 (below_look hw' hp))
  (with_reducible refine wq_k ?_ ?_); exact rfl; intro K hK; go_simp; (with_reducible refine hK _ ?_); clear hK K
  (with_reducible refine wq_k ?_ ?_); exact rfl; intro K hK; go_simp; (with_reducible refine hK _ ?_); clear hK K
  (with_reducible refine wq_k ?_ ?_); exact rfl; intro K hK; go_simp; (with_reducible refine hK _ ?_); clear hK K
  ((with_reducible apply wq_one); exact rfl; exact rfl; intro w' hw'; exact tkN (below_look hw' hq) HRV HN)
  (with_reducible refine wq_k ?_ ?_); exact rfl; intro K hK; go_simp; (with_reducible refine hK _ ?_); clear hK K
  (with_reducible refine wq_k ?_ ?_); exact rfl; intro K hK; go_simp; (with_reducible refine hK _ ?_); clear hK K
  intro w3 hb3
  have HL3 := Lib.hid (HL.out w3 hb3)
  replace HD := Lib.hid (HD.out.quiet hb3)
  replace HH := Lib.hid (HH.out.old hb3)
  replace HV := Lib.hid (HV.out.old hb3)
  replace hq := below_look hb3 hq
  clear hb3
  clear HL hp
  go_upto_region 14 with (fail)
  obtain ⟨hs1, hs2, hrl, hset⟩ := HH.out.stB HOO.out
  have hst := hset (w64 (o.count + -1)) (addB (-1) o) rfl rfl
  clear hset
  apply wp_region_lit
  (with_reducible refine wl_k ?_ ?_); exact rfl; intro K hK; go_simp; refine hK _ ?_; clear hK K
  (with_reducible refine wl_k ?_ ?_); exact rfl; intro K hK; go_simp; refine hK _ ?_; clear hK K
  (with_reducible refine wl_k ?_ ?_); exact rfl; intro K hK; go_simp; refine hK _ ?_; clear hK K
  ((with_reducible apply wl_oneG); exact rfl; exact rfl; exact HL3.out.c)
  (with_reducible refine wl_k ?_ ?_); exact rfl; intro K hK; go_simp; refine hK _ ?_; clear hK K
  (with_reducible refine wl_k ?_ ?_); exact rfl; intro K hK; go_simp; refine hK _ ?_; clear hK K
  (with_reducible refine wl_k ?_ ?_); exact rfl; intro K hK; go_simp; refine hK _ ?_; clear hK K
  refine wl_storeC rfl 3 _ _ rfl g _ (.int .i64 (w64 (o.count + -1))) rfl rfl info3 rfl hs1 hs2 ?_; rw [put_noneA]
  clear HL3 hs1 hs2
  obtain ⟨o1, ho1⟩ : ∃ o1, o1 = addB (-1) o := ⟨_, rfl⟩
  have hc1 : o1.count = w64 (o.count + -1) := by rw [ho1]; rfl
  have he1 : o1.elems = o.elems := by rw [ho1]; rfl
  obtain ⟨y1, hy1⟩ : ∃ y1 : Hp, y1 = { h with bus := h.bus.set n o1 } := ⟨_, rfl⟩
  rw [← ho1, ← hy1] at hst
  have hd1 := HD.out.step (h' := y1) HGR.out (by simp) (by simp) (by rw [hy1]) (Keep.cellOne _ g (n * 2) (.int .i64 (w64 (o.count + -1)))) ⟨_, _, _, _, _, _, _, hst⟩
  have hqg : q ≠ g := fun e => by have := HQ.out; rw [e, HGR.out] at this; cases this
  replace hq := (heap_setCell_other w3 ⟨g, n * 2, none⟩ q (.int .i64 (w64 (o.count + -1))) hqg).trans hq
  have hnl1 : y1.bus[n]? = some o1 := by rw [hy1]; exact List.getElem?_set_self (List.getElem?_eq_some_iff.1 HOO.out).1
  obtain ⟨W4, hW⟩ : ∃ W, W = w3.setCell ⟨g, n * 2, none⟩ (.int .i64 (w64 (o.count + -1))) := ⟨_, rfl⟩
  rw [← hW] at hst hd1 hq ⊢
  obtain ⟨g', eA, ec, e, -, hL1, hLV, -⟩ := hst.buf hnl1
  cases e
  have HL := Lib.hid (hL1 W4 (Below.refl _ _))
  have HLV := Lib.hid hLV
  replace HD := Lib.hid hd1
  replace HH := Lib.hid hst
  have HO1 := Lib.hid hnl1
  have HH1 := Lib.hid hy1
  have HC1 := Lib.hid hc1
  have HE1 := Lib.hid he1
  have HP1 := Lib.hid ho1
  have HLEV : Hid (y1.lev = h.lev) := Lib.hid (by rw [hy1])
  clear hL1 hLV hd1 hst hW hnl1 hy1 hc1 he1 ho1 HV hrl
  go_upto_region 15 with (fail)
  by_cases c0 : o1.count = 0
  · have e0 : (o1.count == 0) = true := by simp [c0]
    have HST2 : Hid (stepV' h ts (.val v) = ({ h with bus := h.bus.set n { o1 with elems := [] } }, ts ++ laterV o1.elems, none)) := Lib.hid (by
      rw [HST.out, if_pos (by rw [← HC1.out]; exact c0), HE1.out, HP1.out])
    apply wp_region_lit
    (with_reducible refine wl_k ?_ ?_); exact rfl; intro K hK; go_simp; refine hK _ ?_; clear hK K
    (with_reducible refine wl_k ?_ ?_); exact rfl; intro K hK; go_simp; refine hK _ ?_; clear hK K
    (with_reducible refine wl_k ?_ ?_); exact rfl; intro K hK; go_simp; refine hK _ ?_; clear hK K
    ((with_reducible apply wl_oneG); exact rfl; exact rfl; exact HL.out.c)
    (with_reducible refine wl_k ?_ ?_); exact rfl; intro K hK; go_simp; refine hK _ ?_; clear hK K
    clear c0 e0
    have HC := Lib.hid (back_top HD.out (vc := ec) (HLV.out.vsr (by simp)) (by
      have h3 := HRM.out
      have h4 := weight_bus (ts := ts ++ [.val v]) (List.mem_of_getElem? HOO.out)
      rw [HE1.out]
      simp only [List.length_append, List.length_singleton] at h4
      omega))
    go_upto_region 16 with (fail)
    apply wp_region_lit
    (with_reducible refine wl_k ?_ ?_); exact rfl; intro K hK; go_simp; refine hK _ ?_; clear hK K
    (with_reducible refine wl_k ?_ ?_); exact rfl; intro K hK; go_simp; refine hK _ ?_; clear hK K
    (with_reducible refine wl_k ?_ ?_); exact rfl; intro K hK; go_simp; refine hK _ ?_; clear hK K
    (with_reducible refine wl_k ?_ ?_); exact rfl; intro K hK; go_simp; refine hK _ ?_; clear hK K
    ((with_reducible apply wl_oneG); exact rfl; exact rfl; exact HL.out.e)
    (with_reducible refine wl_ck ?_ ?_); exact rfl; intro K hK; go_simp; refine ⟨_, _, ⟨rfl, rfl⟩, hK _ _ ⟨_, HC.out, ?_⟩⟩; clear hK K; rintro e w7 ⟨A7, c7, G7, rfl, hd7, hG7, hk7, hr7⟩; refine ⟨_, rfl, ?_⟩; simp only [put_lit, List.set_cons_zero, List.set_cons_succ]
    have hgl : g < W4.heap.size := by
      obtain ⟨g'', rowsB, e, hR⟩ := HH.out.bus.rows HO1.out
      cases e; exact hR.lt
    have HGR7 : Hid (G7 g = some (k, .bar)) := Lib.hid ((hG7 g hgl).trans HGR.out)
    have HQ7 : Hid (G7 q = some (k, .tmp)) := Lib.hid ((hG7 q (heap_lt hq)).trans HQ.out)
    replace hq := hk7.look hq (fun e => by have := hr7 q e; rw [HQ.out] at this; cases this)
    have hhk := (HH.out.regh hG7).keep hk7 (fun b e => by
      have hb : b < W4.heap.size := by
        obtain ⟨rows, hor, -⟩ := HD.out.tks
        obtain ⟨cur, hc⟩ := hor.is_cells e
        exact heap_lt hc
      rw [hG7 b hb, hr7 b e]
      exact ⟨.inr rfl, by simp⟩)
    replace HD := Lib.hid hd7
    replace HH := Lib.hid hhk
    clear hd7 hG7 hk7 hr7 hhk hgl
    (with_reducible refine wl_k ?_ ?_); exact rfl; intro K hK; go_simp; refine hK _ ?_; clear hK K
    clear HC HL HLV
    obtain ⟨hs1, hs2, hst⟩ := HH.out.nilE HO1.out
    go_upto_region 17 with (fail)
    apply wp_region_lit
    (with_reducible refine wl_k ?_ ?_); exact rfl; intro K hK; go_simp; refine hK _ ?_; clear hK K
    (with_reducible refine wl_k ?_ ?_); exact rfl; intro K hK; go_simp; refine hK _ ?_; clear hK K
    (with_reducible refine wl_k ?_ ?_); exact rfl; intro K hK; go_simp; refine hK _ ?_; clear hK K
    refine wl_storeC rfl 33 _ _ rfl g (n * 2 + 1) (.slice none 0 0) rfl rfl info33e rfl hs1 hs2 ?_; rw [put_noneA]
    have hy : ({ y1 with bus := y1.bus.set n { o1 with elems := [] } } : Hp) = { h with bus := h.bus.set n { o1 with elems := [] } } := by rw [HH1.out]; simp only [List.set_set]
    rw [hy] at hst
    have hd1 := HD.out.step (h' := { h with bus := h.bus.set n { o1 with elems := [] } }) HGR7.out (by simp) (by simp) HLEV.out.symm (Keep.cellOne _ g (n * 2 + 1) (.slice none 0 0)) ⟨_, _, _, _, _, _, _, hst⟩
    replace hq := (heap_setCell_other w7 ⟨g, n * 2 + 1, none⟩ q (.slice none 0 0) hqg).trans hq
    have HD1 := Lib.hid hd1
    clear hd1 hst hs1 hs2 hy HD HH
    go_upto_region 24 with (fail)
    apply wp_region_lit
    (with_reducible refine wl_k ?_ ?_); exact rfl; intro K hK; go_simp; refine hK _ ?_; clear hK K
    (with_reducible refine wl_k ?_ ?_); exact rfl; intro K hK; go_simp; refine hK _ ?_; clear hK K
    (with_reducible refine wl_k ?_ ?_); exact rfl; intro K hK; go_simp; refine hK _ ?_; clear hK K
    go_wp2_with fail
    go_ret2
    rw [HST2.out]
    exact ⟨A7, c7, G7, rv, by rw [List.length_append]; rfl, HD1.out, HQ7.out, hq, hvs, fun u e => by cases e⟩
  · have e0 : (o1.count == 0) = false := by simp [c0]
    have HST2 : Hid (stepV' h ts (.val v) = (y1, ts, none)) := Lib.hid (by
      rw [HST.out, if_neg (by rw [← HC1.out]; exact c0), HH1.out, HP1.out])
    apply wp_region_lit
    (with_reducible refine wl_k ?_ ?_); exact rfl; intro K hK; go_simp; refine hK _ ?_; clear hK K
    (with_reducible refine wl_k ?_ ?_); exact rfl; intro K hK; go_simp; refine hK _ ?_; clear hK K
    (with_reducible refine wl_k ?_ ?_); exact rfl; intro K hK; go_simp; refine hK _ ?_; clear hK K
    ((with_reducible apply wl_oneG); exact rfl; exact rfl; exact HL.out.c)
    (with_reducible refine wl_k ?_ ?_); exact rfl; intro K hK; go_simp; refine hK _ ?_; clear hK K
    clear c0 e0
    go_upto_region 24 with (fail)
    apply wp_region_lit
    (with_reducible refine wl_k ?_ ?_); exact rfl; intro K hK; go_simp; refine hK _ ?_; clear hK K
    (with_reducible refine wl_k ?_ ?_); exact rfl; intro K hK; go_simp; refine hK _ ?_; clear hK K
    (with_reducible refine wl_k ?_ ?_); exact rfl; intro K hK; go_simp; refine hK _ ?_; clear hK K
    go_wp2_with fail
    go_ret2
    rw [HST2.out]
    exact ⟨A, c, G, rv, rfl, HD.out, HQ.out, hq, hvs, fun u e => by cases e⟩
end Go.Proofs.Ytpamocglecangaa
