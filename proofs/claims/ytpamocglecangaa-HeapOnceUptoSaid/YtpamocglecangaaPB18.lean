/- The program's end, at a buffer and at values with parts. -/
import Derived.Test.YtpamocglecangaaPB15
namespace Go.Proofs.Ytpamocglecangaa
open Go.RowKit Go.Proofs.Ytpamocglecangaa.Nm
set_option linter.unusedSimpArgs false
set_option maxHeartbeats 16000000 in
set_option maxRecDepth 100000 in
theorem End_part6 {w0 : World} {G0 : Gh} {k p : Nat} {h : Hp} {last : Array Value} {ts : List Tk} {A : Option Addr} {c : Nat} {w : World} {G : Gh} (d : TopD w0 G0 k p h last ts A c w G) {v : Va} {rv x : Array Value} (hv : VAt w (Imm G) v rv) {q : Nat}
    (hq : w.heap[q]? = some (.cells (rv ++ x) 101 (0, 0))) (hqG : G q = some (k, .tmp)) (hroom : weight h (ts ++ [.val v]) ≤ 700000000000) (hk : v.kind = 6) :
    Calls Try.prog 76 #[.pointer (some ⟨p, 0, none⟩), .slice A ts.length c, .pointer (some ⟨q, 0, none⟩)] w (EndT w0 G0 k p q last x (stepV' h ts (.val v))) := by
  have HST : Hid (stepV' h ts (.val v) = (h, ts ++ laterV v.parts, none)) := Lib.hid (by
    have ek : hasK v.kind = true := by rw [hk]; rfl
    simp only [stepV', hk, ek, if_true]
    rfl)
  have HD := Lib.hid d
  have HQ := Lib.hid hqG
  have HRM := Lib.hid hroom
  have HK := Lib.hid hk
  obtain ⟨trv, A2v, l2v, c2v, A3v, l3v, c3v, hrv⟩ := hv.row
  have HRV := Lib.hid hrv
  have hvs := hv.size
  have hvl := hrv.vs.len
  subst hvl
  clear d hv hqG hroom hrv hk
  go_enter Try.func76, Try.ntmps76
  go_upto_region 0 with (fail)
  apply wp_region_lit
  (with_reducible refine wl_k ?_ ?_); exact rfl; intro K hK; go_simp; refine hK _ ?_; clear hK K
  (with_reducible refine wl_k ?_ ?_); exact rfl; intro K hK; go_simp; refine hK _ ?_; clear hK K
  go_upto_region 1 with (fail)
  apply wp_region_lit
  (with_reducible refine wl_k ?_ ?_); exact rfl; intro K hK; go_simp; refine hK _ ?_; clear hK K
  (with_reducible refine wl_k ?_ ?_); exact rfl; intro K hK; go_simp; refine hK _ ?_; clear hK K
  (with_reducible refine wl_k ?_ ?_); exact rfl; intro K hK; go_simp; refine hK _ ?_; clear hK K
  ((with_reducible apply wl_oneG); exact rfl; exact rfl; exact tkK hq HRV HK)
  go_upto_region 2 with (fail)
  apply wp_region_lit
  (with_reducible refine wl_k ?_ ?_); exact rfl; intro K hK; go_simp; refine hK _ ?_; clear hK K
  (with_reducible refine wl_k ?_ ?_); exact rfl; intro K hK; go_simp; refine hK _ ?_; clear hK K
  go_upto_region 10 with (fail)
  apply wp_region_lit
  (with_reducible refine wl_k ?_ ?_); exact rfl; intro K hK; go_simp; refine hK _ ?_; clear hK K
  (with_reducible refine wl_k ?_ ?_); exact rfl; intro K hK; go_simp; refine hK _ ?_; clear hK K
  go_upto_region 12 with (fail)
  apply wp_region_lit
  (with_reducible refine wl_k ?_ ?_); exact rfl; intro K hK; go_simp; refine hK _ ?_; clear hK K
  (with_reducible refine wl_k ?_ ?_); exact rfl; intro K hK; go_simp; refine hK _ ?_; clear hK K
  go_upto_region 18 with (fail)
  apply wp_region_lit
  (with_reducible refine wl_k ?_ ?_); exact rfl; intro K hK; go_simp; refine hK _ ?_; clear hK K
  (with_reducible refine wl_k ?_ ?_); exact rfl; intro K hK; go_simp; refine hK _ ?_; clear hK K
  go_upto_region 20 with (fail)
  apply wp_region_lit
  (with_reducible refine wl_k ?_ ?_); exact rfl; intro K hK; go_simp; refine hK _ ?_; clear hK K
  (with_reducible refine wl_k ?_ ?_); exact rfl; intro K hK; go_simp; refine hK _ ?_; clear hK K
  skip
  have HC := Lib.hid (back_top HD.out (vc := c3v) (HRV.out.vs.vsr _) (by
    have h3 := HRM.out
    have h4 := weight_len (h := h) (ts := ts) (t := .val v)
    have h5 : wT h (.val v) = wV v := rfl
    have h6 := wV_eq v
    have h7 := wVs_len v.parts
    omega))
  go_upto_region 23 with (fail)
  apply wp_region_lit
  (with_reducible refine wl_k ?_ ?_); exact rfl; intro K hK; go_simp; refine hK _ ?_; clear hK K
  (with_reducible refine wl_k ?_ ?_); exact rfl; intro K hK; go_simp; refine hK _ ?_; clear hK K
  (with_reducible refine wl_k ?_ ?_); exact rfl; intro K hK; go_simp; refine hK _ ?_; clear hK K
  (with_reducible refine wl_k ?_ ?_); exact rfl; intro K hK; go_simp; refine hK _ ?_; clear hK K
  ((with_reducible apply wl_oneG); exact rfl; exact rfl; exact tkL hq HRV)
  (with_reducible refine wl_ck ?_ ?_); exact rfl; intro K hK; go_simp; refine ⟨_, _, ⟨rfl, rfl⟩, hK _ _ ⟨_, HC.out, ?_⟩⟩; clear hK K; rintro e w7 ⟨A7, c7, G7, rfl, hd7, hG7, hk7, hr7⟩; refine ⟨_, rfl, ?_⟩; simp only [put_lit, List.set_cons_zero, List.set_cons_succ]
  have HD7 := Lib.hid hd7
  have HQ7 : Hid (G7 q = some (k, .tmp)) := Lib.hid ((hG7 q (heap_lt hq)).trans HQ.out)
  replace hq := hk7.look hq (fun e => by have := hr7 q e; rw [HQ.out] at this; cases this)
  clear hd7 hG7 hk7 hr7
  (with_reducible refine wl_k ?_ ?_); exact rfl; intro K hK; go_simp; refine hK _ ?_; clear hK K
  clear HC HD
  go_upto_region 24 with (fail)
  apply wp_region_lit
  (with_reducible refine wl_k ?_ ?_); exact rfl; intro K hK; go_simp; refine hK _ ?_; clear hK K
  (with_reducible refine wl_k ?_ ?_); exact rfl; intro K hK; go_simp; refine hK _ ?_; clear hK K
  (with_reducible refine wl_k ?_ ?_); exact rfl; intro K hK; go_simp; refine hK _ ?_; clear hK K
  go_wp2_with fail
  go_ret2
  rw [HST.out]
  exact ⟨A7, c7, G7, rv, by rw [List.length_append]; rfl, HD7.out, HQ7.out, hq, hvs, fun u e => by cases e⟩
set_option maxHeartbeats 16000000 in
set_option maxRecDepth 100000 in
theorem End_part9 {w0 : World} {G0 : Gh} {k p : Nat} {h : Hp} {last : Array Value} {ts : List Tk} {A : Option Addr} {c : Nat} {w : World} {G : Gh} (d : TopD w0 G0 k p h last ts A c w G) {v : Va} {rv x : Array Value} (hv : VAt w (Imm G) v rv) {q : Nat}
    (hq : w.heap[q]? = some (.cells (rv ++ x) 101 (0, 0))) (hqG : G q = some (k, .tmp)) (hroom : weight h (ts ++ [.val v]) ≤ 700000000000) (hk : v.kind = 9) :
    Calls Try.prog 76 #[.pointer (some ⟨p, 0, none⟩), .slice A ts.length c, .pointer (some ⟨q, 0, none⟩)] w (EndT w0 G0 k p q last x (stepV' h ts (.val v))) := by
  have HST : Hid (stepV' h ts (.val v) = (h, ts ++ laterV v.parts, none)) := Lib.hid (by
    have ek : hasK v.kind = true := by rw [hk]; rfl
    simp only [stepV', hk, ek, if_true]
    rfl)
  have HD := Lib.hid d
  have HQ := Lib.hid hqG
  have HRM := Lib.hid hroom
  have HK := Lib.hid hk
  obtain ⟨trv, A2v, l2v, c2v, A3v, l3v, c3v, hrv⟩ := hv.row
  have HRV := Lib.hid hrv
  have hvs := hv.size
  have hvl := hrv.vs.len
  subst hvl
  clear d hv hqG hroom hrv hk
  go_enter Try.func76, Try.ntmps76
  go_upto_region 0 with (fail)
  apply wp_region_lit
  (with_reducible refine wl_k ?_ ?_); exact rfl; intro K hK; go_simp; refine hK _ ?_; clear hK K
  (with_reducible refine wl_k ?_ ?_); exact rfl; intro K hK; go_simp; refine hK _ ?_; clear hK K
  go_upto_region 1 with (fail)
  apply wp_region_lit
  (with_reducible refine wl_k ?_ ?_); exact rfl; intro K hK; go_simp; refine hK _ ?_; clear hK K
  (with_reducible refine wl_k ?_ ?_); exact rfl; intro K hK; go_simp; refine hK _ ?_; clear hK K
  (with_reducible refine wl_k ?_ ?_); exact rfl; intro K hK; go_simp; refine hK _ ?_; clear hK K
  ((with_reducible apply wl_oneG); exact rfl; exact rfl; exact tkK hq HRV HK)
  go_upto_region 2 with (fail)
  apply wp_region_lit
  (with_reducible refine wl_k ?_ ?_); exact rfl; intro K hK; go_simp; refine hK _ ?_; clear hK K
  (with_reducible refine wl_k ?_ ?_); exact rfl; intro K hK; go_simp; refine hK _ ?_; clear hK K
  go_upto_region 10 with (fail)
  apply wp_region_lit
  (with_reducible refine wl_k ?_ ?_); exact rfl; intro K hK; go_simp; refine hK _ ?_; clear hK K
  (with_reducible refine wl_k ?_ ?_); exact rfl; intro K hK; go_simp; refine hK _ ?_; clear hK K
  go_upto_region 12 with (fail)
  apply wp_region_lit
  (with_reducible refine wl_k ?_ ?_); exact rfl; intro K hK; go_simp; refine hK _ ?_; clear hK K
  (with_reducible refine wl_k ?_ ?_); exact rfl; intro K hK; go_simp; refine hK _ ?_; clear hK K
  go_upto_region 18 with (fail)
  apply wp_region_lit
  (with_reducible refine wl_k ?_ ?_); exact rfl; intro K hK; go_simp; refine hK _ ?_; clear hK K
  (with_reducible refine wl_k ?_ ?_); exact rfl; intro K hK; go_simp; refine hK _ ?_; clear hK K
  go_upto_region 20 with (fail)
  apply wp_region_lit
  (with_reducible refine wl_k ?_ ?_); exact rfl; intro K hK; go_simp; refine hK _ ?_; clear hK K
  (with_reducible refine wl_k ?_ ?_); exact rfl; intro K hK; go_simp; refine hK _ ?_; clear hK K
  go_upto_region 21 with (fail)
  apply wp_region_lit
  (with_reducible refine wl_k ?_ ?_); exact rfl; intro K hK; go_simp; refine hK _ ?_; clear hK K
  (with_reducible refine wl_k ?_ ?_); exact rfl; intro K hK; go_simp; refine hK _ ?_; clear hK K
  have HC := Lib.hid (back_top HD.out (vc := c3v) (HRV.out.vs.vsr _) (by
    have h3 := HRM.out
    have h4 := weight_len (h := h) (ts := ts) (t := .val v)
    have h5 : wT h (.val v) = wV v := rfl
    have h6 := wV_eq v
    have h7 := wVs_len v.parts
    omega))
  go_upto_region 23 with (fail)
  apply wp_region_lit
  (with_reducible refine wl_k ?_ ?_); exact rfl; intro K hK; go_simp; refine hK _ ?_; clear hK K
  (with_reducible refine wl_k ?_ ?_); exact rfl; intro K hK; go_simp; refine hK _ ?_; clear hK K
  (with_reducible refine wl_k ?_ ?_); exact rfl; intro K hK; go_simp; refine hK _ ?_; clear hK K
  (with_reducible refine wl_k ?_ ?_); exact rfl; intro K hK; go_simp; refine hK _ ?_; clear hK K
  ((with_reducible apply wl_oneG); exact rfl; exact rfl; exact tkL hq HRV)
  (with_reducible refine wl_ck ?_ ?_); exact rfl; intro K hK; go_simp; refine ⟨_, _, ⟨rfl, rfl⟩, hK _ _ ⟨_, HC.out, ?_⟩⟩; clear hK K; rintro e w7 ⟨A7, c7, G7, rfl, hd7, hG7, hk7, hr7⟩; refine ⟨_, rfl, ?_⟩; simp only [put_lit, List.set_cons_zero, List.set_cons_succ]
  have HD7 := Lib.hid hd7
  have HQ7 : Hid (G7 q = some (k, .tmp)) := Lib.hid ((hG7 q (heap_lt hq)).trans HQ.out)
  replace hq := hk7.look hq (fun e => by have := hr7 q e; rw [HQ.out] at this; cases this)
  clear hd7 hG7 hk7 hr7
  (with_reducible refine wl_k ?_ ?_); exact rfl; intro K hK; go_simp; refine hK _ ?_; clear hK K
  clear HC HD
  go_upto_region 24 with (fail)
  apply wp_region_lit
  (with_reducible refine wl_k ?_ ?_); exact rfl; intro K hK; go_simp; refine hK _ ?_; clear hK K
  (with_reducible refine wl_k ?_ ?_); exact rfl; intro K hK; go_simp; refine hK _ ?_; clear hK K
  (with_reducible refine wl_k ?_ ?_); exact rfl; intro K hK; go_simp; refine hK _ ?_; clear hK K
  go_wp2_with fail
  go_ret2
  rw [HST.out]
  exact ⟨A7, c7, G7, rv, by rw [List.length_append]; rfl, HD7.out, HQ7.out, hq, hvs, fun u e => by cases e⟩
set_option maxHeartbeats 16000000 in
set_option maxRecDepth 100000 in
theorem End_part10 {w0 : World} {G0 : Gh} {k p : Nat} {h : Hp} {last : Array Value} {ts : List Tk} {A : Option Addr} {c : Nat} {w : World} {G : Gh} (d : TopD w0 G0 k p h last ts A c w G) {v : Va} {rv x : Array Value} (hv : VAt w (Imm G) v rv) {q : Nat}
    (hq : w.heap[q]? = some (.cells (rv ++ x) 101 (0, 0))) (hqG : G q = some (k, .tmp)) (hroom : weight h (ts ++ [.val v]) ≤ 700000000000) (hk : v.kind = 10) :
    Calls Try.prog 76 #[.pointer (some ⟨p, 0, none⟩), .slice A ts.length c, .pointer (some ⟨q, 0, none⟩)] w (EndT w0 G0 k p q last x (stepV' h ts (.val v))) := by
  have HST : Hid (stepV' h ts (.val v) = (h, ts ++ laterV v.parts, none)) := Lib.hid (by
    have ek : hasK v.kind = true := by rw [hk]; rfl
    simp only [stepV', hk, ek, if_true]
    rfl)
  have HD := Lib.hid d
  have HQ := Lib.hid hqG
  have HRM := Lib.hid hroom
  have HK := Lib.hid hk
  obtain ⟨trv, A2v, l2v, c2v, A3v, l3v, c3v, hrv⟩ := hv.row
  have HRV := Lib.hid hrv
  have hvs := hv.size
  have hvl := hrv.vs.len
  subst hvl
  clear d hv hqG hroom hrv hk
  go_enter Try.func76, Try.ntmps76
  go_upto_region 0 with (fail)
  apply wp_region_lit
  (with_reducible refine wl_k ?_ ?_); exact rfl; intro K hK; go_simp; refine hK _ ?_; clear hK K
  (with_reducible refine wl_k ?_ ?_); exact rfl; intro K hK; go_simp; refine hK _ ?_; clear hK K
  go_upto_region 1 with (fail)
  apply wp_region_lit
  (with_reducible refine wl_k ?_ ?_); exact rfl; intro K hK; go_simp; refine hK _ ?_; clear hK K
  (with_reducible refine wl_k ?_ ?_); exact rfl; intro K hK; go_simp; refine hK _ ?_; clear hK K
  (with_reducible refine wl_k ?_ ?_); exact rfl; intro K hK; go_simp; refine hK _ ?_; clear hK K
  ((with_reducible apply wl_oneG); exact rfl; exact rfl; exact tkK hq HRV HK)
  go_upto_region 2 with (fail)
  apply wp_region_lit
  (with_reducible refine wl_k ?_ ?_); exact rfl; intro K hK; go_simp; refine hK _ ?_; clear hK K
  (with_reducible refine wl_k ?_ ?_); exact rfl; intro K hK; go_simp; refine hK _ ?_; clear hK K
  go_upto_region 10 with (fail)
  apply wp_region_lit
  (with_reducible refine wl_k ?_ ?_); exact rfl; intro K hK; go_simp; refine hK _ ?_; clear hK K
  (with_reducible refine wl_k ?_ ?_); exact rfl; intro K hK; go_simp; refine hK _ ?_; clear hK K
  go_upto_region 12 with (fail)
  apply wp_region_lit
  (with_reducible refine wl_k ?_ ?_); exact rfl; intro K hK; go_simp; refine hK _ ?_; clear hK K
  (with_reducible refine wl_k ?_ ?_); exact rfl; intro K hK; go_simp; refine hK _ ?_; clear hK K
  go_upto_region 18 with (fail)
  apply wp_region_lit
  (with_reducible refine wl_k ?_ ?_); exact rfl; intro K hK; go_simp; refine hK _ ?_; clear hK K
  (with_reducible refine wl_k ?_ ?_); exact rfl; intro K hK; go_simp; refine hK _ ?_; clear hK K
  go_upto_region 20 with (fail)
  apply wp_region_lit
  (with_reducible refine wl_k ?_ ?_); exact rfl; intro K hK; go_simp; refine hK _ ?_; clear hK K
  (with_reducible refine wl_k ?_ ?_); exact rfl; intro K hK; go_simp; refine hK _ ?_; clear hK K
  go_upto_region 21 with (fail)
  apply wp_region_lit
  (with_reducible refine wl_k ?_ ?_); exact rfl; intro K hK; go_simp; refine hK _ ?_; clear hK K
  (with_reducible refine wl_k ?_ ?_); exact rfl; intro K hK; go_simp; refine hK _ ?_; clear hK K
  go_upto_region 22 with (fail)
  apply wp_region_lit
  (with_reducible refine wl_k ?_ ?_); exact rfl; intro K hK; go_simp; refine hK _ ?_; clear hK K
  (with_reducible refine wl_k ?_ ?_); exact rfl; intro K hK; go_simp; refine hK _ ?_; clear hK K
  have HC := Lib.hid (back_top HD.out (vc := c3v) (HRV.out.vs.vsr _) (by
    have h3 := HRM.out
    have h4 := weight_len (h := h) (ts := ts) (t := .val v)
    have h5 : wT h (.val v) = wV v := rfl
    have h6 := wV_eq v
    have h7 := wVs_len v.parts
    omega))
  go_upto_region 23 with (fail)
  apply wp_region_lit
  (with_reducible refine wl_k ?_ ?_); exact rfl; intro K hK; go_simp; refine hK _ ?_; clear hK K
  (with_reducible refine wl_k ?_ ?_); exact rfl; intro K hK; go_simp; refine hK _ ?_; clear hK K
  (with_reducible refine wl_k ?_ ?_); exact rfl; intro K hK; go_simp; refine hK _ ?_; clear hK K
  (with_reducible refine wl_k ?_ ?_); exact rfl; intro K hK; go_simp; refine hK _ ?_; clear hK K
  ((with_reducible apply wl_oneG); exact rfl; exact rfl; exact tkL hq HRV)
  (with_reducible refine wl_ck ?_ ?_); exact rfl; intro K hK; go_simp; refine ⟨_, _, ⟨rfl, rfl⟩, hK _ _ ⟨_, HC.out, ?_⟩⟩; clear hK K; rintro e w7 ⟨A7, c7, G7, rfl, hd7, hG7, hk7, hr7⟩; refine ⟨_, rfl, ?_⟩; simp only [put_lit, List.set_cons_zero, List.set_cons_succ]
  have HD7 := Lib.hid hd7
  have HQ7 : Hid (G7 q = some (k, .tmp)) := Lib.hid ((hG7 q (heap_lt hq)).trans HQ.out)
  replace hq := hk7.look hq (fun e => by have := hr7 q e; rw [HQ.out] at this; cases this)
  clear hd7 hG7 hk7 hr7
  (with_reducible refine wl_k ?_ ?_); exact rfl; intro K hK; go_simp; refine hK _ ?_; clear hK K
  clear HC HD
  go_upto_region 24 with (fail)
  apply wp_region_lit
  (with_reducible refine wl_k ?_ ?_); exact rfl; intro K hK; go_simp; refine hK _ ?_; clear hK K
  (with_reducible refine wl_k ?_ ?_); exact rfl; intro K hK; go_simp; refine hK _ ?_; clear hK K
  (with_reducible refine wl_k ?_ ?_); exact rfl; intro K hK; go_simp; refine hK _ ?_; clear hK K
  go_wp2_with fail
  go_ret2
  rw [HST.out]
  exact ⟨A7, c7, G7, rv, by rw [List.length_append]; rfl, HD7.out, HQ7.out, hq, hvs, fun u e => by cases e⟩
end Go.Proofs.Ytpamocglecangaa
