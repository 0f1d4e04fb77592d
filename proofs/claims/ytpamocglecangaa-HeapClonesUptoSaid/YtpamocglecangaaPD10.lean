/- The program's end, at a buffer and at values with parts. The program's end, at a struct and at a buffer. The program's end at any value; the topmost level taken out of the heap and put back. The program's Next. The program's Objects and Buffers: copies. The program's Objects. -/
import Derived.Test.YtpamocglecangaaPD5
import Derived.Test.YtpamocglecangaaPD9
import Derived.Deep.LoopGhost
import Derived.Deep.Cut
import Derived.Deep.CutBlock
import Derived.Test.YtpamocglecangaaPD7
set_option maxHeartbeats 16000000
set_option maxRecDepth 100000
namespace Go.Proofs.Ytpamocglecangaa
open Go.RowKit Go.Proofs.Ytpamocglecangaa.Nm
set_option linter.unusedSimpArgs false
theorem End_part6 {w0 : World} {G0 : Gh} {k p : Nat} {h : Hp} {last : Array Value} {ts : List Tk} {A : Option Addr} {c : Nat} {w : World} {G : Gh} (d : TopD w0 G0 k p h last ts A c w G) {v : Va} {rv x : Array Value} (hv : VAt w (Imm G) v rv) {q : Nat}
  (hq : w.heap[q]? = some (.cells (rv ++ x) 101 (0, 0))) (hqG : G q = some (k, .tmp)) (hroom : weight h (ts ++ [.val v]) <= 700000000000) (hk : v.kind = 6) :
  Calls Try.prog 76 #[.pointer (some ⟨p, 0, none⟩), .slice A ts.length c, .pointer (some ⟨q, 0, none⟩)] w (EndT w0 G0 k p q last x (stepV' h ts (.val v))) := by
 have HST : Hid (stepV' h ts (.val v) = (h, ts ++ laterV v.parts, none)) := Zi (by
  have ek : hasK v.kind = true := by rw [hk]; rfl
  simp only [stepV', hk, ek, if_true]
  rfl)
 have HD := Zi d
 have HQ := Zi hqG
 have HRM := Zi hroom
 have HK := Zi hk
 obtain ⟨trv, A2v, l2v, c2v, A3v, l3v, c3v, hrv⟩ := hv.row
 have HRV := Zi hrv
 have hvs := hv.size
 have hvl := hrv.vs.len
 subst hvl
 clear d hv hqG hroom hrv hk
 go_enter Try.func76, Try.ntmps76
 go_upto_region 0 with fail
 apply Zl
 iterate 2 refine Zm ?_
 go_upto_region 1 with fail
 apply Zl
 iterate 3 refine Zm ?_
 refine Zo rfl (tkK hq HRV HK) ?_
 go_upto_region 2 with fail
 apply Zl
 iterate 2 refine Zm ?_
 go_upto_region 10 with fail
 apply Zl
 iterate 2 refine Zm ?_
 go_upto_region 12 with fail
 apply Zl
 iterate 2 refine Zm ?_
 go_upto_region 18 with fail
 apply Zl
 iterate 2 refine Zm ?_
 go_upto_region 20 with fail
 apply Zl
 iterate 2 refine Zm ?_
 skip
 have HC := Zi (back_top HD.out (vc := c3v) (HRV.out.vs.vsr _) (by
  have h3 := HRM.out
  have h4 := weight_len (h := h) (ts := ts) (t := .val v)
  have h5 : wT h (.val v) = wV v := rfl
  have h6 := wV_eq v
  have h7 := wVs_len v.parts
  omega))
 go_upto_region 23 with fail
 apply Zl
 iterate 4 refine Zm ?_
 refine Zo rfl (tkL hq HRV) ?_
 refine Zn HC.out ?_; rintro e w7 ⟨A7, c7, G7, rfl, hd7, hG7, hk7, hr7⟩; refine ⟨_, rfl, ?_⟩; simp only [Zq]
 have HD7 := Zi hd7
 have HQ7 : Hid (G7 q = some (k, .tmp)) := Zi ((hG7 q (heap_lt hq)).trans HQ.out)
 replace hq := hk7.look hq (fun e => by have := hr7 q e; rw [HQ.out] at this; cases this)
 clear hd7 hG7 hk7 hr7
 refine Zm ?_
 clear HC HD
 go_upto_region 24 with fail
 apply Zl
 iterate 3 refine Zm ?_
 go_wp2_with fail
 go_ret2
 rw [HST.out]
 exact ⟨A7, c7, G7, rv, by rw [List.length_append]; rfl, HD7.out, HQ7.out, hq, hvs, fun u e => by cases e⟩
theorem End_part9 {w0 : World} {G0 : Gh} {k p : Nat} {h : Hp} {last : Array Value} {ts : List Tk} {A : Option Addr} {c : Nat} {w : World} {G : Gh} (d : TopD w0 G0 k p h last ts A c w G) {v : Va} {rv x : Array Value} (hv : VAt w (Imm G) v rv) {q : Nat}
  (hq : w.heap[q]? = some (.cells (rv ++ x) 101 (0, 0))) (hqG : G q = some (k, .tmp)) (hroom : weight h (ts ++ [.val v]) <= 700000000000) (hk : v.kind = 9) :
  Calls Try.prog 76 #[.pointer (some ⟨p, 0, none⟩), .slice A ts.length c, .pointer (some ⟨q, 0, none⟩)] w (EndT w0 G0 k p q last x (stepV' h ts (.val v))) := by
 have HST : Hid (stepV' h ts (.val v) = (h, ts ++ laterV v.parts, none)) := Zi (by
  have ek : hasK v.kind = true := by rw [hk]; rfl
  simp only [stepV', hk, ek, if_true]
  rfl)
 have HD := Zi d
 have HQ := Zi hqG
 have HRM := Zi hroom
 have HK := Zi hk
 obtain ⟨trv, A2v, l2v, c2v, A3v, l3v, c3v, hrv⟩ := hv.row
 have HRV := Zi hrv
 have hvs := hv.size
 have hvl := hrv.vs.len
 subst hvl
 clear d hv hqG hroom hrv hk
 go_enter Try.func76, Try.ntmps76
 go_upto_region 0 with fail
 apply Zl
 iterate 2 refine Zm ?_
 go_upto_region 1 with fail
 apply Zl
 iterate 3 refine Zm ?_
 refine Zo rfl (tkK hq HRV HK) ?_
 go_upto_region 2 with fail
 apply Zl
 iterate 2 refine Zm ?_
 go_upto_region 10 with fail
 apply Zl
 iterate 2 refine Zm ?_
 go_upto_region 12 with fail
 apply Zl
 iterate 2 refine Zm ?_
 go_upto_region 18 with fail
 apply Zl
 iterate 2 refine Zm ?_
 go_upto_region 20 with fail
 apply Zl
 iterate 2 refine Zm ?_
 go_upto_region 21 with fail
 apply Zl
 iterate 2 refine Zm ?_
 have HC := Zi (back_top HD.out (vc := c3v) (HRV.out.vs.vsr _) (by
  have h3 := HRM.out
  have h4 := weight_len (h := h) (ts := ts) (t := .val v)
  have h5 : wT h (.val v) = wV v := rfl
  have h6 := wV_eq v
  have h7 := wVs_len v.parts
  omega))
 go_upto_region 23 with fail
 apply Zl
 iterate 4 refine Zm ?_
 refine Zo rfl (tkL hq HRV) ?_
 refine Zn HC.out ?_; rintro e w7 ⟨A7, c7, G7, rfl, hd7, hG7, hk7, hr7⟩; refine ⟨_, rfl, ?_⟩; simp only [Zq]
 have HD7 := Zi hd7
 have HQ7 : Hid (G7 q = some (k, .tmp)) := Zi ((hG7 q (heap_lt hq)).trans HQ.out)
 replace hq := hk7.look hq (fun e => by have := hr7 q e; rw [HQ.out] at this; cases this)
 clear hd7 hG7 hk7 hr7
 refine Zm ?_
 clear HC HD
 go_upto_region 24 with fail
 apply Zl
 iterate 3 refine Zm ?_
 go_wp2_with fail
 go_ret2
 rw [HST.out]
 exact ⟨A7, c7, G7, rv, by rw [List.length_append]; rfl, HD7.out, HQ7.out, hq, hvs, fun u e => by cases e⟩
theorem End_part10 {w0 : World} {G0 : Gh} {k p : Nat} {h : Hp} {last : Array Value} {ts : List Tk} {A : Option Addr} {c : Nat} {w : World} {G : Gh} (d : TopD w0 G0 k p h last ts A c w G) {v : Va} {rv x : Array Value} (hv : VAt w (Imm G) v rv) {q : Nat}
  (hq : w.heap[q]? = some (.cells (rv ++ x) 101 (0, 0))) (hqG : G q = some (k, .tmp)) (hroom : weight h (ts ++ [.val v]) <= 700000000000) (hk : v.kind = 10) :
  Calls Try.prog 76 #[.pointer (some ⟨p, 0, none⟩), .slice A ts.length c, .pointer (some ⟨q, 0, none⟩)] w (EndT w0 G0 k p q last x (stepV' h ts (.val v))) := by
 have HST : Hid (stepV' h ts (.val v) = (h, ts ++ laterV v.parts, none)) := Zi (by
  have ek : hasK v.kind = true := by rw [hk]; rfl
  simp only [stepV', hk, ek, if_true]
  rfl)
 have HD := Zi d
 have HQ := Zi hqG
 have HRM := Zi hroom
 have HK := Zi hk
 obtain ⟨trv, A2v, l2v, c2v, A3v, l3v, c3v, hrv⟩ := hv.row
 have HRV := Zi hrv
 have hvs := hv.size
 have hvl := hrv.vs.len
 subst hvl
 clear d hv hqG hroom hrv hk
 go_enter Try.func76, Try.ntmps76
 go_upto_region 0 with fail
 apply Zl
 iterate 2 refine Zm ?_
 go_upto_region 1 with fail
 apply Zl
 iterate 3 refine Zm ?_
 refine Zo rfl (tkK hq HRV HK) ?_
 go_upto_region 2 with fail
 apply Zl
 iterate 2 refine Zm ?_
 go_upto_region 10 with fail
 apply Zl
 iterate 2 refine Zm ?_
 go_upto_region 12 with fail
 apply Zl
 iterate 2 refine Zm ?_
 go_upto_region 18 with fail
 apply Zl
 iterate 2 refine Zm ?_
 go_upto_region 20 with fail
 apply Zl
 iterate 2 refine Zm ?_
 go_upto_region 21 with fail
 apply Zl
 iterate 2 refine Zm ?_
 go_upto_region 22 with fail
 apply Zl
 iterate 2 refine Zm ?_
 have HC := Zi (back_top HD.out (vc := c3v) (HRV.out.vs.vsr _) (by
  have h3 := HRM.out
  have h4 := weight_len (h := h) (ts := ts) (t := .val v)
  have h5 : wT h (.val v) = wV v := rfl
  have h6 := wV_eq v
  have h7 := wVs_len v.parts
  omega))
 go_upto_region 23 with fail
 apply Zl
 iterate 4 refine Zm ?_
 refine Zo rfl (tkL hq HRV) ?_
 refine Zn HC.out ?_; rintro e w7 ⟨A7, c7, G7, rfl, hd7, hG7, hk7, hr7⟩; refine ⟨_, rfl, ?_⟩; simp only [Zq]
 have HD7 := Zi hd7
 have HQ7 : Hid (G7 q = some (k, .tmp)) := Zi ((hG7 q (heap_lt hq)).trans HQ.out)
 replace hq := hk7.look hq (fun e => by have := hr7 q e; rw [HQ.out] at this; cases this)
 clear hd7 hG7 hk7 hr7
 refine Zm ?_
 clear HC HD
 go_upto_region 24 with fail
 apply Zl
 iterate 3 refine Zm ?_
 go_wp2_with fail
 go_ret2
 rw [HST.out]
 exact ⟨A7, c7, G7, rv, by rw [List.length_append]; rfl, HD7.out, HQ7.out, hq, hvs, fun u e => by cases e⟩
theorem End_struct {w0 : World} {G0 : Gh} {k p : Nat} {h : Hp} {last : Array Value} {ts : List Tk} {A : Option Addr} {c : Nat} {w : World} {G : Gh} (d : TopD w0 G0 k p h last ts A c w G) {v : Va} {rv x : Array Value} (hv : VAt w (Imm G) v rv) {q : Nat}
  (hq : w.heap[q]? = some (.cells (rv ++ x) 101 (0, 0))) (hqG : G q = some (k, .tmp)) (hroom : weight h (ts ++ [.val v]) <= 700000000000) (hk : v.kind = 5) :
  Calls Try.prog 76 #[.pointer (some ⟨p, 0, none⟩), .slice A ts.length c, .pointer (some ⟨q, 0, none⟩)] w (EndT w0 G0 k p q last x (stepV' h ts (.val v))) := by
 have HST : Hid (stepV' h ts (.val v) = (h, ts ++ laterV v.parts, if h.dei.contains v.typ.name then some v else none)) := Zi (by
  simp only [stepV', hk, if_true]
  rfl)
 have HD := Zi d
 have HV := Zi hv
 have HQ := Zi hqG
 have HRM := Zi hroom
 have HK := Zi hk
 obtain ⟨trv, A2v, l2v, c2v, A3v, l3v, c3v, hrv⟩ := hv.row
 have HRV := Zi hrv
 have hvs := hv.size
 have hvl := hrv.vs.len
 subst hvl
 clear d hv hqG hroom hrv hk
 go_enter Try.func76, Try.ntmps76
 go_upto_region 0 with fail
 apply Zl
 iterate 2 refine Zm ?_
 go_upto_region 1 with fail
 apply Zl
 iterate 3 refine Zm ?_
 refine Zo rfl (tkK hq HRV HK) ?_
 go_upto_region 2 with fail
 apply Zl
 iterate 2 refine Zm ?_
 go_upto_region 10 with fail
 apply Zl
 iterate 2 refine Zm ?_
 go_upto_region 12 with fail
 apply Zl
 iterate 2 refine Zm ?_
 go_upto_region 18 with fail
 apply Zl
 iterate 2 refine Zm ?_
 obtain ⟨oA, oc, bA, bc, m, lA, lc, hh⟩ := HD.out.heap
 have HH := Zi hh
 have hp := hh.blk
 have hrr : RoleOf G A (k, .lvl h.lev.length) := by obtain ⟨-, -, -, hr, -⟩ := HD.out.tks; exact hr
 have HRR := Zi hrr
 have hCA : ∀ b, A = some ⟨b, 0, none⟩ -> (¬ Mine G k b ∨ G b = some (k, .lvl h.lev.length)) /\ G b ≠ none := fun b e => by rw [HRR.out b e]; exact ⟨.inr rfl, by simp⟩
 have hnA : ∀ b y, G b = y -> y ≠ some (k, .lvl h.lev.length) -> ¬ A = some ⟨b, 0, none⟩ := fun b y hy h3 e => h3 (hy.symm.trans (HRR.out b e))
 have HNQ := Zi (hnA q _ HQ.out (by simp))
 have HNP := Zi (hnA p _ HH.out.rp (by simp))
 have HCA := Zi hCA
 have HVS := Zi (HRV.out.vs.vsr (k, .lvl h.lev.length))
 have HSZ := Zi (heap_lt hq)
 clear hh hrr hCA hnA
 go_upto_region 19 with fail
 refine wp_region_Z (S := fun w' => Keep (fun b => A = some ⟨b, 0, none⟩) w w') 17 mixed (Keep.of ((Below.refl _ _).drew)) (fun hS => ?_)
 have hbz : Below w.heap.size w w.drew := (Below.refl _ _).drew
 refine zm 0 hS ?_; try simp only [Zq]
 refine zm 1 hS ?_; try simp only [Zq]
 refine zm 2 hS ?_; try simp only [Zq]
 refine zm 3 hS ?_; try simp only [Zq]
 refine zv4 (i := 4) rfl (by kernel_rfl) Zg hS rfl (fun w' hw' => ex_one rfl (tkL (hw'.look hq HNQ.out) HRV)) ?_; try simp only [Zq]
 refine zm 6 hS ?_; try simp only [Zq]
 refine zm 7 hS ?_; try simp only [Zq]
 refine zm 8 hS ?_; try simp only [Zq]
 refine zv4 (i := 9) rfl (by kernel_rfl) Zg hS rfl (fun w' hw' => ex_one rfl (h2 (hw'.look hp HNP.out))) ?_; try simp only [Zq]
 refine zm 10 hS ?_; try simp only [Zq]
 refine zm 11 hS ?_; try simp only [Zq]
 refine zm 12 hS ?_; try simp only [Zq]
 refine zm 13 hS ?_; try simp only [Zq]
 refine zv4 (i := 14) rfl (by kernel_rfl) Zg hS rfl (fun w' hw' => ex_one rfl (tkS (hw'.look hq HNQ.out) HRV)) ?_; try simp only [Zq]
 refine zv4 (i := 15) rfl (by kernel_rfl) Zg hS rfl (fun w' hw' => ex_look84 _ _ rfl rfl rfl (HH.out.keep hw' HCA.out).map) ?_; try simp only [Zq]
 have hcl := back_top (HD.out.quiet hbz) (vA := A3v) (vc := c3v) (vs := v.parts) (by
  obtain ⟨rv, hx⟩ := HVS.out
  refine ⟨rv, fun i u hi => ?_⟩
  obtain ⟨a1, b, off, a2, a3, a4, a5⟩ := hx i u hi
  exact ⟨a1.old hbz, b, off, a2, a3, a4, a5⟩) (by
  have h3 := HRM.out
  have h4 := weight_len (h := h) (ts := ts) (t := .val v)
  have h5 : wT h (.val v) = wV v := rfl
  have h6 := wV_eq v
  have h7 := wVs_len v.parts
  omega)
 refine za_call (i := 5) (by kernel_rfl) rfl rfl (fun K hK => ?_)
 go_simp
 refine ⟨_, _, ⟨rfl, rfl⟩, hK _ _ ⟨_, hcl, ?_⟩⟩
 clear hK K
 rintro e w7 ⟨A7, c7, G7, rfl, hd7, hG7, hk7, hr7⟩
 have hS7 : Keep (fun b => A = some ⟨b, 0, none⟩) w w7 := (Keep.of (C := fun b => A = some ⟨b, 0, none⟩) hbz).trans (C' := fun b => A = some ⟨b, 0, none⟩) (fun b e => .inl e) hk7
 refine ⟨_, rfl, fun _ => hS7, ?_⟩
 try simp only [Zq]
 have HD7 := Zi hd7
 have HQ7 : Hid (G7 q = some (k, .tmp)) := Zi ((hG7 q HSZ.out).trans HQ.out)
 have HV7 : Hid (VAt w7 (Imm G7) v rv) := Zi (HV.out.moved hS7 (fun b e => by rw [HRR.out b e]; simp) hG7)
 replace hq := hS7.look hq HNQ.out
 clear hd7 hG7 hk7 hr7 hcl HD HVS HV HH hp hbz hS
 have hS := hS7
 refine zn 16 hS ?_; try simp only [Zq]
 refine zn 17 hS ?_; try simp only [Zq]
 clear hS hS7
 refine za_done (by kernel_rfl) ?_ _
 go_wp2_with fail
 go_ret2
 rw [HST.out]
 refine ⟨A7, c7, G7, rv, ?_, HD7.out, HQ7.out, hq, hvs, fun u e => ?_⟩
 ·simp only [List.length_append]
  cases h.dei.contains v.typ.name <;> rfl
 ·split at e
  ·cases e; exact HV7.out
  ·cases e
theorem End_buf {w0 : World} {G0 : Gh} {k p : Nat} {h : Hp} {last : Array Value} {ts : List Tk} {A : Option Addr} {c : Nat} {w : World} {G : Gh} (d : TopD w0 G0 k p h last ts A c w G) {v : Va} {rv x : Array Value} (hv : VAt w (Imm G) v rv) {q : Nat}
  (hq : w.heap[q]? = some (.cells (rv ++ x) 101 (0, 0))) (hqG : G q = some (k, .tmp)) (hq0 : w0.heap.size <= q) (ho : ofV h.obs.length h.bus.length v = true) (hroom : weight h (ts ++ [.val v]) <= 700000000000) (hk : v.kind = 8) :
  Calls Try.prog 76 #[.pointer (some ⟨p, 0, none⟩), .slice A ts.length c, .pointer (some ⟨q, 0, none⟩)] w (EndT w0 G0 k p q last x (stepV' h ts (.val v))) := by
 have HD := Zi d
 have HV := Zi hv
 have HQ := Zi hqG
 have HQ0 := Zi hq0
 have HO := Zi ho
 have HRM := Zi hroom
 have HK := Zi hk
 obtain ⟨trv, A2v, l2v, c2v, A3v, l3v, c3v, hrv⟩ := hv.row
 have HRV := Zi hrv
 have hvs := hv.size
 have HNW := Zi (wf_num hv)
 clear d hv hqG hq0 ho hroom hrv hk
 go_enter Try.func76, Try.ntmps76
 go_upto_region 0 with fail
 apply Zl
 iterate 2 refine Zm ?_
 go_upto_region 1 with fail
 apply Zl
 iterate 3 refine Zm ?_
 refine Zo rfl (tkK hq HRV HK) ?_
 go_upto_region 2 with fail
 apply Zl
 iterate 2 refine Zm ?_
 have h9 : 0 <= v.num /\ v.num < (h.bus.length : Int) := by
  have := HO.out
  rw [ofV_eq, if_neg (by have := HK.out; omega), if_pos (by have := HK.out; omega)] at this
  exact of_decide_eq_true this
 obtain ⟨n, hn⟩ : ∃ n : Nat, v.num = (n : Int) := ⟨v.num.toNat, by omega⟩
 have hnl : n < h.bus.length := by omega
 have hnlI : (n : Int) < (h.bus.length : Int) := by omega
 have ho := List.getElem?_eq_getElem hnl
 obtain ⟨o, hoe⟩ : ∃ o, o = h.bus[n] := ⟨_, rfl⟩
 rw [<- hoe] at ho
 obtain ⟨oA, oc, bA, bc, m, lA, lc, hh⟩ := HD.out.heap
 obtain ⟨g, fA, fc, rfl, hgr, hL, -, -⟩ := hh.buf ho
 have HL := Zi hL
 have HOO := Zi ho
 have HH := Zi hh
 have HN := Zi hn
 have HGR := Zi hgr
 have hp := hh.blk
 clear hL hgr hoe ho hh h9 hn
 have HST : Hid (stepV' h ts (.val v) = if w64 (o.count + -1) = 0 then ({ h with bus := h.bus.set n { addB (-1) o with elems := [] } }, ts ++ laterV o.elems, none)
   else ({ h with bus := h.bus.set n (addB (-1) o) }, ts, none)) := Zi (by
  simp only [stepV', HK.out, HN.out, if_true, Int.toNat_natCast, HOO.out, modify_at _ HOO.out]
  rfl)
 go_upto_region 10 with fail
 apply Zl
 iterate 2 refine Zm ?_
 go_upto_region 12 with fail
 apply Zl
 iterate 2 refine Zm ?_
 go_upto_region 13 with fail
 refine wp_region_belowAll mixed (by kernel_rfl) ?_
 iterate 3 refine Zt ?_
 refine Zv rfl (fun w' hw' => h1 (below_look hw' hp)) ?_
 iterate 3 refine Zt ?_
 refine Zv rfl (fun w' hw' => tkN (below_look hw' hq) HRV HN) ?_
 iterate 2 refine Zt ?_
 intro w3 hb3
 have HL3 := Zi (HL.out w3 hb3)
 replace HD := Zi (HD.out.quiet hb3)
 replace HH := Zi (HH.out.old hb3)
 replace HV := Zi (HV.out.old hb3)
 replace hq := below_look hb3 hq
 clear hb3
 clear HL hp
 go_upto_region 14 with fail
 obtain ⟨hs1, hs2, hrl, hset⟩ := HH.out.stB HOO.out
 have hst := hset (w64 (o.count + -1)) (addB (-1) o) rfl rfl
 clear hset
 apply Zl
 iterate 3 refine Zm ?_
 refine Zo rfl (HL3.out.c) ?_
 iterate 3 refine Zm ?_
 refine wl_storeC rfl 3 _ _ rfl g _ (.int .i64 (w64 (o.count + -1))) rfl rfl info3 rfl hs1 hs2 ?_; rw [put_noneA]
 clear HL3 hs1 hs2
 obtain ⟨o1, ho1⟩ : ∃ o1, o1 = addB (-1) o := ⟨_, rfl⟩
 have hc1 : o1.count = w64 (o.count + -1) := by rw [ho1]; rfl
 have he1 : o1.elems = o.elems := by rw [ho1]; rfl
 obtain ⟨y1, hy1⟩ : ∃ y1 : Hp, y1 = { h with bus := h.bus.set n o1 } := ⟨_, rfl⟩
 rw [<- ho1, <- hy1] at hst
 have hd1 := HD.out.step (h' := y1) HGR.out (by simp) (by simp) (by rw [hy1]) (Keep.cellOne _ g (n * 2) (.int .i64 (w64 (o.count + -1)))) ⟨_, _, _, _, _, _, _, hst⟩
 have hqg : q ≠ g := fun e => by have := HQ.out; rw [e, HGR.out] at this; cases this
 replace hq := (heap_setCell_other w3 ⟨g, n * 2, none⟩ q (.int .i64 (w64 (o.count + -1))) hqg).trans hq
 have hnl1 : y1.bus[n]? = some o1 := by rw [hy1]; exact List.getElem?_set_self (List.getElem?_eq_some_iff.1 HOO.out).1
 obtain ⟨W4, hW⟩ : ∃ W, W = w3.setCell ⟨g, n * 2, none⟩ (.int .i64 (w64 (o.count + -1))) := ⟨_, rfl⟩
 rw [<- hW] at hst hd1 hq ⊢
 obtain ⟨g', eA, ec, e, -, hL1, hLV, -⟩ := hst.buf hnl1
 cases e
 have HL := Zi (hL1 W4 (Below.refl _ _))
 have HLV := Zi hLV
 replace HD := Zi hd1
 replace HH := Zi hst
 have HO1 := Zi hnl1
 have HH1 := Zi hy1
 have HC1 := Zi hc1
 have HE1 := Zi he1
 have HP1 := Zi ho1
 have HLEV : Hid (y1.lev = h.lev) := Zi (by rw [hy1])
 clear hL1 hLV hd1 hst hW hnl1 hy1 hc1 he1 ho1 HV hrl
 go_upto_region 15 with fail
 by_cases c0 : o1.count = 0
 ·have e0 : (o1.count == 0) = true := by simp [c0]
  have HST2 : Hid (stepV' h ts (.val v) = ({ h with bus := h.bus.set n { o1 with elems := [] } }, ts ++ laterV o1.elems, none)) := Zi (by
   rw [HST.out, if_pos (by rw [<- HC1.out]; exact c0), HE1.out, HP1.out])
  apply Zl
  iterate 3 refine Zm ?_
  refine Zo rfl (HL.out.c) ?_
  refine Zm ?_
  clear c0 e0
  have HC := Zi (back_top HD.out (vc := ec) (HLV.out.vsr (by simp)) (by
   have h3 := HRM.out
   have h4 := weight_bus (ts := ts ++ [.val v]) (List.mem_of_getElem? HOO.out)
   rw [HE1.out]
   simp only [List.length_append, List.length_singleton] at h4
   omega))
  go_upto_region 16 with fail
  apply Zl
  iterate 4 refine Zm ?_
  refine Zo rfl (HL.out.e) ?_
  refine Zn HC.out ?_; rintro e w7 ⟨A7, c7, G7, rfl, hd7, hG7, hk7, hr7⟩; refine ⟨_, rfl, ?_⟩; simp only [Zq]
  have hgl : g < W4.heap.size := by
   obtain ⟨g'', rowsB, e, hR⟩ := HH.out.bus.rows HO1.out
   cases e; exact hR.lt
  have HGR7 : Hid (G7 g = some (k, .bar)) := Zi ((hG7 g hgl).trans HGR.out)
  have HQ7 : Hid (G7 q = some (k, .tmp)) := Zi ((hG7 q (heap_lt hq)).trans HQ.out)
  replace hq := hk7.look hq (fun e => by have := hr7 q e; rw [HQ.out] at this; cases this)
  have hhk := (HH.out.regh hG7).keep hk7 (fun b e => by
   have hb : b < W4.heap.size := by
    obtain ⟨rows, hor, -⟩ := HD.out.tks
    obtain ⟨cur, hc⟩ := hor.is_cells e
    exact heap_lt hc
   rw [hG7 b hb, hr7 b e]
   exact ⟨.inr rfl, by simp⟩)
  replace HD := Zi hd7
  replace HH := Zi hhk
  clear hd7 hG7 hk7 hr7 hhk hgl
  refine Zm ?_
  clear HC HL HLV
  obtain ⟨hs1, hs2, hst⟩ := HH.out.nilE HO1.out
  go_upto_region 17 with fail
  apply Zl
  iterate 3 refine Zm ?_
  refine wl_storeC rfl 33 _ _ rfl g (n * 2 + 1) (.slice none 0 0) rfl rfl info33e rfl hs1 hs2 ?_; rw [put_noneA]
  have hy : ({ y1 with bus := y1.bus.set n { o1 with elems := [] } } : Hp) = { h with bus := h.bus.set n { o1 with elems := [] } } := by rw [HH1.out]; simp only [List.set_set]
  rw [hy] at hst
  have hd1 := HD.out.step (h' := { h with bus := h.bus.set n { o1 with elems := [] } }) HGR7.out (by simp) (by simp) HLEV.out.symm (Keep.cellOne _ g (n * 2 + 1) (.slice none 0 0)) ⟨_, _, _, _, _, _, _, hst⟩
  replace hq := (heap_setCell_other w7 ⟨g, n * 2 + 1, none⟩ q (.slice none 0 0) hqg).trans hq
  have HD1 := Zi hd1
  clear hd1 hst hs1 hs2 hy HD HH
  go_upto_region 24 with fail
  apply Zl
  iterate 3 refine Zm ?_
  go_wp2_with fail
  go_ret2
  rw [HST2.out]
  exact ⟨A7, c7, G7, rv, by rw [List.length_append]; rfl, HD1.out, HQ7.out, hq, hvs, fun u e => by cases e⟩
 ·have e0 : (o1.count == 0) = false := by simp [c0]
  have HST2 : Hid (stepV' h ts (.val v) = (y1, ts, none)) := Zi (by
   rw [HST.out, if_neg (by rw [<- HC1.out]; exact c0), HH1.out, HP1.out])
  apply Zl
  iterate 3 refine Zm ?_
  refine Zo rfl (HL.out.c) ?_
  refine Zm ?_
  clear c0 e0
  go_upto_region 24 with fail
  apply Zl
  iterate 3 refine Zm ?_
  go_wp2_with fail
  go_ret2
  rw [HST2.out]
  exact ⟨A, c, G, rv, rfl, HD.out, HQ.out, hq, hvs, fun u e => by cases e⟩
theorem end_any {w0 : World} {G0 : Gh} {k p : Nat} {h : Hp} {last : Array Value} {ts : List Tk} {A : Option Addr} {c : Nat} {w : World} {G : Gh} (d : TopD w0 G0 k p h last ts A c w G) {v : Va} {rv x : Array Value} (hv : VAt w (Imm G) v rv) {q : Nat}
  (hq : w.heap[q]? = some (.cells (rv ++ x) 101 (0, 0))) (hqG : G q = some (k, .tmp)) (hq0 : w0.heap.size <= q) (ho : ofV h.obs.length h.bus.length v = true) (hroom : weight h (ts ++ [.val v]) <= 700000000000) :
  Calls Try.prog 76 #[.pointer (some ⟨p, 0, none⟩), .slice A ts.length c, .pointer (some ⟨q, 0, none⟩)] w (EndT w0 G0 k p q last x (stepV' h ts (.val v))) := by
 by_cases e7 : v.kind = 7
 ·exact End_obj d hv hq hqG hq0 ho hroom e7
 by_cases e11 : v.kind = 11
 ·exact End_weak d hv hq hqG hq0 ho hroom e11
 by_cases e8 : v.kind = 8
 ·exact End_buf d hv hq hqG hq0 ho hroom e8
 by_cases e5 : v.kind = 5
 ·exact End_struct d hv hq hqG hroom e5
 by_cases e6 : v.kind = 6
 ·exact End_part6 d hv hq hqG hroom e6
 by_cases e9 : v.kind = 9
 ·exact End_part9 d hv hq hqG hroom e9
 by_cases e10 : v.kind = 10
 ·exact End_part10 d hv hq hqG hroom e10
 refine End_plain d hv hq hqG ?_
 rw [ofV_eq, if_neg (by omega), if_neg e8, if_neg (by unfold hasK; simp [e5, e6, e9, e10])] at ho
 exact of_decide_eq_true ho
section
variable {w0 w w' : World} {G0 G G' : Gh} {k p : Nat} {h h' : Hp} {last : Array Value} {ts : List Tk} {A : Option Addr} {c : Nat} {oA : Option Addr} {oc : Nat} {bA : Option Addr} {bc m : Nat} {lA : Option Addr} {lc : Nat}
def Hp.setL (h : Hp) (l : List (List Tk)) : Hp := { h with lev := l }
theorem HAt.top {low : List (List Tk)} (hh : HAt w G k p (h.setL (low ++ [ts])) oA oc bA bc m lA lc) : ∃ tA tc g, lA = some ⟨g, 0, none⟩ /\ G g = some (k, .lar) /\ HTop w G k p (h.setL low) #[.slice tA ts.length tc] oA oc bA bc m lA lc /\ TksAt w G (k, .lvl low.length) ts tA tc /\ ∀ w', w'.heap[g]? = w.heap[g]? -> OneAt w' 98 ⟨g, low.length, none⟩ (.slice tA ts.length tc) := by
 obtain ⟨rows, ho, hl, hr, hv⟩ := hh.lev
 have hl2 : rows.length = low.length + 1 := by rw [hl]; show (low ++ [ts]).length = _; rw [List.length_append]; rfl
 have hne : rows ≠ [] := fun e => by rw [e] at hl2; simp at hl2
 obtain ⟨rows', last, rfl⟩ : ∃ r' l, rows = r' ++ [l] := ⟨rows.dropLast, rows.getLast hne, (List.dropLast_concat_getLast hne).symm⟩
 have hl3 : rows'.length = low.length := by simpa using hl2
 have hlast : (rows' ++ [last])[low.length]? = some last := by rw [<- hl3]; exact List.getElem?_concat_length
 obtain ⟨tA, tc, e, ht⟩ := hv low.length ts last (by show (low ++ [ts])[low.length]? = _; exact List.getElem?_concat_length) hlast
 obtain ⟨g, cur, eA, -⟩ := ho.addr (i := 0) (by simp)
 subst eA
 refine ⟨tA, tc, g, rfl, hr g rfl, ⟨?_, hh.rp, hh.rm, hh.obs, hh.bus, ⟨rows', by rw [<- e]; exact ho, hl3, hr, fun i t row hi hri => ?_⟩, hh.map⟩, ht, fun w' hw => ?_⟩
 ·have := hh.blk
  have e2 : (h.setL (low ++ [ts])).lev.length = (h.setL low).lev.length + 1 := by show (low ++ [ts]).length = low.length + 1; simp
  rw [e2] at this
  exact this
 ·have hil : i < low.length := (List.getElem?_eq_some_iff.1 hi).1
  exact hv i t row (by show (low ++ [ts])[i]? = _; rw [List.getElem?_append_left hil]; exact hi) (by rw [List.getElem?_append_left (by omega)]; exact hri)
 ·have h2 := (ho.same (w' := w') fun g' e _ => by cases e; exact hw).cell hlast (j := 0) (x := .slice tA ts.length tc) (by rw [e]; rfl)
  exact one_of u98 rfl (by simpa using h2)
theorem HTop.put (hh : HTop w G k p h last oA oc bA bc m lA lc) (ht : TksAt w G (k, .lvl h.lev.length) ts A c) : ∃ g, lA = some ⟨g, 0, none⟩ /\ G g = some (k, .lar) /\ (w.cell? ⟨g, h.lev.length, none⟩).isSome = true /\ w.frozen? ⟨g, h.lev.length, none⟩ = false /\
  HAt (w.setCell ⟨g, h.lev.length, none⟩ (.slice A ts.length c)) G k p (h.setL (h.lev ++ [ts])) oA oc bA bc m lA lc := by
 obtain ⟨rows, ho, hl, hr, hv⟩ := hh.lev
 have hlast : (rows ++ [last])[h.lev.length]? = some last := by rw [<- hl]; exact List.getElem?_concat_length
 obtain ⟨g, cur, eA, -⟩ := ho.addr (i := 0) (by simp)
 subst eA
 have hgr := hr g rfl
 obtain ⟨h1, h2⟩ := ho.lies hlast (j := 0) (by omega)
 have hset := ho.set hlast (j := 0) (by omega) (.slice A ts.length c)
 simp only [Nat.mul_one, Nat.add_zero] at h1 h2 hset
 have hk := Keep.cellOne w g h.lev.length (.slice A ts.length c)
 have hne : ∀ b r, b < w.heap.size -> G b = some (k, r) -> r ≠ .lar -> (w.setCell ⟨g, h.lev.length, none⟩ (.slice A ts.length c)).heap[b]? = w.heap[b]? := fun b r hb e hr => hk.block b hb fun e2 => by rw [e2, hgr] at e; cases e; exact hr rfl
 have hno : ∀ b, b < w.heap.size -> G b = none -> (w.setCell ⟨g, h.lev.length, none⟩ (.slice A ts.length c)).heap[b]? = w.heap[b]? := fun b hb e => hk.block b hb fun e2 => by rw [e2, hgr] at e; cases e
 have hsl : last.setIfInBounds 0 (.slice A ts.length c) = #[.slice A ts.length c] := by
  have hs := ho.size last (by simp)
  apply Array.ext
  ·rw [Array.size_setIfInBounds, hs]; rfl
  ·intro i h1 h2
   rw [Array.size_setIfInBounds, hs] at h1
   obtain rfl : i = 0 := by omega
   simp
 rw [hsl] at hset
 have hrset : (rows ++ [last]).set h.lev.length #[.slice A ts.length c] = rows ++ [#[.slice A ts.length c]] := by rw [<- hl]; simp
 rw [hrset] at hset
 refine ⟨g, rfl, hgr, h1, h2, ⟨?_, hh.rp, hh.rm, ?_, ?_, ⟨_, hset, ?_, hr, fun i t row hi hri => ?_⟩, ?_⟩⟩
 ·rw [hne p _ (heap_lt hh.blk) hh.rp (by simp)]
  have e2 : (h.setL (h.lev ++ [ts])).lev.length = h.lev.length + 1 := by show (h.lev ++ [ts]).length = _; simp
  rw [e2]
  exact hh.blk
 ·exact hh.obs.same (fun b hb e => by rcases e with e | ⟨i, e⟩ <;> exact hne b _ hb e (by simp)) hno
 ·exact hh.bus.same (fun b hb e => by rcases e with e | ⟨i, e⟩ <;> exact hne b _ hb e (by simp)) hno
 ·show _ = (h.lev ++ [ts]).length; simp [hl]
 ·have hi2 : (h.lev ++ [ts])[i]? = some t := hi
  have hil := (List.getElem?_eq_some_iff.1 hi2).1
  rw [List.length_append, List.length_singleton] at hil
  by_cases e : i < h.lev.length
  ·rw [List.getElem?_append_left e] at hi2
   rw [List.getElem?_append_left (by omega)] at hri
   obtain ⟨tA, tc, h3, h4⟩ := hv i t row hi2 hri
   exact ⟨tA, tc, h3, h4.same (fun b hb e => hne b _ hb e (by simp)) hno⟩
  ·obtain rfl : i = h.lev.length := by omega
   rw [List.getElem?_concat_length] at hi2
   rw [<- hl, List.getElem?_concat_length] at hri
   cases hi2; cases hri
   exact ⟨A, c, rfl, ht.same (fun b hb e => hne b _ hb e (by simp)) hno⟩
 ·exact hh.map.same fun hl => hne m _ hl hh.rm (by simp)
theorem HTop.drop (hh : HTop w G k p h last oA oc bA bc m lA lc) : HAt (w.setCell ⟨p, 3, none⟩ (.slice lA h.lev.length lc)) G k p h oA oc bA bc m lA lc := by
 obtain ⟨rows, ho, hl, hr, hv⟩ := hh.lev
 have hset := (hdr_set (j := 3) (v := .slice lA h.lev.length lc) hh.blk).2.2
 have hk := Keep.cellOne w p 3 (.slice lA h.lev.length lc)
 have hne : ∀ b r, b < w.heap.size -> G b = some (k, r) -> r ≠ .hdr -> (w.setCell ⟨p, 3, none⟩ (.slice lA h.lev.length lc)).heap[b]? = w.heap[b]? := fun b r hb e hr => hk.block b hb fun e2 => by rw [e2, hh.rp] at e; cases e; exact hr rfl
 have hno : ∀ b, b < w.heap.size -> G b = none -> (w.setCell ⟨p, 3, none⟩ (.slice lA h.lev.length lc)).heap[b]? = w.heap[b]? := fun b hb e => hk.block b hb fun e2 => by rw [e2, hh.rp] at e; cases e
 refine ⟨?_, hh.rp, hh.rm, ?_, ?_, ⟨rows, ?_, hl, hr, fun i t row hi hri => ?_⟩, ?_⟩
 ·rw [hset]; rfl
 ·exact hh.obs.same (fun b hb e => by rcases e with e | ⟨i, e⟩ <;> exact hne b _ hb e (by simp)) hno
 ·exact hh.bus.same (fun b hb e => by rcases e with e | ⟨i, e⟩ <;> exact hne b _ hb e (by simp)) hno
 ·have h1 := ho.cut rows.length
  rw [List.take_left] at h1
  exact h1.same fun g e hg => hne g _ hg (hr g e) (by simp)
 ·obtain ⟨tA, tc, h3, h4⟩ := hv i t row hi hri
  exact ⟨tA, tc, h3, h4.same (fun b hb e => hne b _ hb e (by simp)) hno⟩
 ·exact hh.map.same fun hl => hne m _ hl hh.rm (by simp)
theorem TksAt.pop {r : Nat × Role} {t : Tk} (h : TksAt w G r (ts ++ [t]) A c) : TksAt w G r ts A c /\ ∃ g row, A = some ⟨g, 0, none⟩ /\ G g = some r /\ TkAt w G t row /\ row.size = 12 /\ ∀ w', w'.heap[g]? = w.heap[g]? -> RowAt w' 101 ⟨g, ts.length * 12, none⟩ row := by
 obtain ⟨rows, ho, hl, hr, hv⟩ := h
 have hl2 : rows.length = ts.length + 1 := by rw [hl]; simp
 have hi : ts.length < rows.length := by omega
 have hri : rows[ts.length]? = some rows[ts.length] := List.getElem?_eq_getElem hi
 have hsz := ho.size _ (List.mem_of_getElem? hri)
 refine ⟨⟨rows.take ts.length, ho.cut _, by rw [List.length_take]; omega, hr, fun j u row hj hrow => ?_⟩, ?_⟩
 ·have hjl := (List.getElem?_eq_some_iff.1 hj).1
  rw [List.getElem?_take_of_lt hjl] at hrow
  exact hv j u row (by rw [List.getElem?_append_left hjl]; exact hj) hrow
 ·obtain ⟨g, cur, e, -⟩ := ho.addr hi
  subst e
  refine ⟨g, _, rfl, hr g rfl, hv _ t _ List.getElem?_concat_length hri, hsz, fun w' hw => ?_⟩
  obtain ⟨cur, hg, -, -, hx, -⟩ := (ho.same (w' := w') fun g' e _ => by cases e; exact hw).at hri
  exact row_mid (n := 12) hg hx u101 rfl hsz info101
theorem TopD.pop {t : Tk} (d : TopD w0 G0 k p h last (ts ++ [t]) A c w G) : TopD w0 G0 k p h last ts A c w G := ⟨d.heap, d.tks.pop.1, d.fr, d.old, d.new, d.keep⟩
theorem TopD.marked (d : TopD w0 G0 k p h last ts A c w G) (hb : Below w.heap.size w w') {q : Nat} (hq : w.heap.size <= q) (hq2 : q < w'.heap.size) : TopD w0 G0 k p h last ts A c w' (mark G k q) := by
 have hG : ∀ b, b < w.heap.size -> mark G k q b = G b := fun b hb => if_neg (by omega)
 have hs := d.keep.size
 refine ⟨?_, ?_, fun b hb2 => ?_, fun b hb2 => ?_, fun b hb2 => ?_, d.keep.trans (C' := fun _ => False) (fun b e => e.elim) (Keep.of hb)⟩
 ·obtain ⟨oA, oc, bA, bc, m, lA, lc, hh⟩ := d.heap
  exact ⟨_, _, _, _, _, _, _, (hh.regh hG).old hb⟩
 ·exact d.tks.moved (Keep.of (C := fun _ => False) hb) (fun b e => e.elim) hG
 ·unfold mark
  rw [if_neg (by omega)]
  exact d.fr b (by have := hb.size; omega)
 ·rw [hG b (by omega)]; exact d.old b hb2
 ·unfold mark
  split
  ·exact .inr ⟨_, rfl⟩
  ·exact d.new b hb2
end
theorem TopD.owned {w0 w w' : World} {G0 G : Gh} {k p : Nat} {h : Hp} {last : Array Value} {ts : List Tk} {A : Option Addr} {c : Nat} (d : TopD w0 G0 k p h last ts A c w G) (hb : Below w.heap.size w w') {A0 : Option Addr} {r : Role} (hA : ∀ g, A0 = some ⟨g, 0, none⟩ -> w.heap.size <= g /\ g < w'.heap.size) : TopD w0 G0 k p h last ts A c w' (own G A0 (k, r)) := by
 have hG : ∀ b, b < w.heap.size -> own G A0 (k, r) b = G b := own_old fun g e => (hA g e).1
 have hs := d.keep.size
 refine ⟨?_, ?_, fun b hb2 => ?_, fun b hb2 => ?_, fun b hb2 => ?_, d.keep.trans (C' := fun _ => False) (fun b e => e.elim) (Keep.of hb)⟩
 ·obtain ⟨oA, oc, bA, bc, m, lA, lc, hh⟩ := d.heap
  exact ⟨_, _, _, _, _, _, _, (hh.regh hG).old hb⟩
 ·exact d.tks.moved (Keep.of (C := fun _ => False) hb) (fun b e => e.elim) hG
 ·unfold own
  rw [if_neg (fun e => by have := (hA b e).2; omega)]
  exact d.fr b (by have := hb.size; omega)
 ·rw [hG b (by omega)]; exact d.old b hb2
 ·unfold own
  split
  ·exact .inr ⟨_, rfl⟩
  ·exact d.new b hb2
section
variable {w w' : World} {G : Gh} {k p : Nat} {h : Hp} {last : Array Value} {oA : Option Addr} {oc : Nat} {bA : Option Addr} {bc m : Nat} {lA : Option Addr} {lc : Nat}
theorem HTop.fldK {g i : Nat} (hh : HTop w G k p h last (some ⟨g, 0, none⟩) oc bA bc m lA lc) {o : Ob} (hi : h.obs[i]? = some o) {tr : Array Value} {fA : Option Addr} {fc : Nat} (hL : ObL w g i o tr fA fc) {C : Nat -> Prop} (hk : Keep C w w') (hC : ∀ b, C b -> (¬ Mine G k b ∨ G b = some (k, .lvl h.lev.length)) /\ G b ≠ none) : OneAt w' 33 ⟨g, i * 8 + 7, none⟩ (.slice fA o.fields.length fc) := by
 obtain ⟨g', rows, e, hR⟩ := hh.obs.rows hi
 cases e
 obtain ⟨row, tr0, fA0, fc0, hr, hx⟩ := hR.get hi
 have h1 := (hR.own.loads hr hx).f
 have h2 := one_eq h1 hL.f
 cases h2
 have hne : ¬ C g := fun hc => by
  rcases (hC g hc).1 with h3 | h3
  ·exact h3 ⟨.arr, hR.role, by simp⟩
  ·rw [hR.role] at h3; cases h3
 refine one_of u33 rfl ((hR.own.same (w' := w') fun b e hb => by cases e; exact hk.block g hb hne).cell hr (j := 7) ?_)
 rw [hx.eq]
 exact (cell8_at hx.size o.state o.count o.weak fA o.fields.length fc).2.2.2.2
theorem ListV.atK {r : Nat × Role} {l : List Va} {A : Option Addr} {c i : Nat} (hl : ListV w G r l A c) (hi : i < l.length) : ∃ g v row, A = some ⟨g, 0, none⟩ /\ G g = some r /\ l[i]? = some v /\ VAt w (Imm G) v row /\ g < w.heap.size /\ ∀ w', w'.heap[g]? = w.heap[g]? -> RowAt w' 35 ⟨g, i * 9, none⟩ row := by
 obtain ⟨rows, ho, hlen, hr, hv⟩ := hl
 have h1 : rows[i]? = some (rows[i]'(by omega)) := List.getElem?_eq_getElem _
 have h2 := List.getElem?_eq_getElem hi
 obtain ⟨g, cur, e, hg0, -⟩ := ho.addr (i := i) (by omega)
 subst e
 have hva := hv i _ _ h2 h1
 refine ⟨g, _, _, rfl, hr g rfl, h2, hva, heap_lt hg0, fun w' hb => ?_⟩
 obtain ⟨cur, hg, -, -, hx, -⟩ := (ho.same (w' := w') fun g' e _ => by cases e; exact hb).at h1
 exact row_mid (n := 9) hg hx u35 rfl hva.size info35
end
theorem run_bs98t (a0 a1 a2 a3 a4 a5 a6 a7 a8 a9 a10 a11 b0 b1 b2 b3 b4 b5 b6 b7 b8 b9 b10 b11 : Value) (w : World) : (Instr.buildSlice 98 2 #[(0, .agg #[a0, a1, a2, a3, a4, a5, a6, a7, a8, a9, a10, a11]), (1, .agg #[b0, b1, b2, b3, b4, b5, b6, b7, b8, b9, b10, b11])]).run Try.prog w = .ok (.slice (some ⟨w.heap.size, 0, none⟩) 2 2) (w.alloc (.cells #[a0, a1, a2, a3, a4, a5, a6, a7, a8, a9, a10, a11, b0, b1, b2, b3, b4, b5, b6, b7, b8, b9, b10, b11] 101)) := by kernel_rfl
theorem ex_bs98t {ev : Operand -> Value} {o : Oper} {w : World} (x y : Operand) (ho : o.op = .buildSlice 98 2 #[(0, x), (1, y)]) {r1 r2 : Array Value} (hx : ev x = .agg r1) (hy : ev y = .agg r2) (h1 : r1.size = 12) (h2 : r2.size = 12) :
  (execOp ev o).run Try.prog w = .ok (.value (.slice (some ⟨w.heap.size, 0, none⟩) 2 2)) (w.alloc (.cells (r1 ++ r2) 101)) := by
 obtain ⟨l1⟩ := r1
 obtain ⟨l2⟩ := r2
 match l1, h1, l2, h2 with
 | [a0, a1, a2, a3, a4, a5, a6, a7, a8, a9, a10, a11], _, [b0, b1, b2, b3, b4, b5, b6, b7, b8, b9, b10, b11], _ =>
  unfold execOp
  have := run_bs98t a0 a1 a2 a3 a4 a5 a6 a7 a8 a9 a10 a11 b0 b1 b2 b3 b4 b5 b6 b7 b8 b9 b10 b11 w
  simp [ho, hx, hy, this, Result.andThen]
theorem za_push2 {md : Region.Mode} {ops : Array Oper} {Q : Exit -> Act -> World -> Prop} {S : World -> Prop} {c fuel : Nat} {listed : Array Bool} {a : Act} {w : World} {i : Nat} {oi : Oper} {ty sty : TypeId} {sz by0 : Nat} {A : Option Addr} {cc : Nat} {rows : List (Array Value)} {z : Array Value} (he : Elt sty ty sz by0 z) (hr : Region.ready md ops listed = [i]) (ho : ops[i]? = some oi) (hg : Region.wanted oi (yielded ops a.tmps) = true) (s x : Operand) (hop : oi.op = .call { callee := .builtin .append, args := #[s, x], argTypes := #[sty, sty] }) {r1 r2 : Array Value} {q : Nat} {tq : TypeId} {fr : Nat × Nat}
  (hs : a.eval s = .slice A rows.length cc) (hx : a.eval x = .slice (some ⟨q, 0, none⟩) 2 2) (h : OwnL w ty sz A cc rows) (hq : w.heap[q]? = some (.cells (r1 ++ r2) tq fr)) (hs1 : r1.size = sz) (hs2 : r2.size = sz) (h1 : r1.all (·.oneCell') = true) (h2 : r2.all (·.oneCell') = true) (hlen : (rows.length + 2) * by0 <= 140737488355328) (hm : rows.length + 2 <= maxLen)
  (hS : ∀ w', Keep (fun b => A = some ⟨b, 0, none⟩) w w' -> S w')
  (hK : ∀ A' c' w', OwnL w' ty sz A' c' (rows ++ [r1, r2]) -> Keep (fun b => A = some ⟨b, 0, none⟩) w w' -> (A' = A ∨ ∃ g, A' = some ⟨g, 0, none⟩ /\ w.heap.size <= g) -> S w' -> wpAnyZ Try.prog md ops Q S c fuel (listed.setIfInBounds i true) (a.put oi.dst (.slice A' (rows.length + 2) c')) w') : wpAnyZ Try.prog md ops Q S c (fuel + 1) listed a w := by
 obtain ⟨hu, h0, hz, i0, z0, hi, hz0, hz1, hz2, hzl⟩ := he
 obtain ⟨A', c', w', a1, a2, a3, a4⟩ := run_catL (oty := oi.type) hu hi hz0 hz1 hz2 (by rw [hzl]; exact hz) h0 h (news := [r1, r2]) (fun r hr => by
  rcases List.mem_cons.1 hr with e | e
  ·rw [e]; exact hs1
  ·rw [List.mem_singleton.1 e]; exact hs2) (fun r hr u hu => by
  rcases List.mem_cons.1 hr with e | e
  ·rw [e] at hu; exact one_list h1 u hu
  ·rw [List.mem_singleton.1 e] at hu; exact one_list h2 u hu) (a := ⟨q, 0, none⟩) (cn := 2) (fun j u hj => by
   rw [show (Addr.add ⟨q, 0, none⟩ j) = ⟨q, j, none⟩ by rw [Addr.add_mid]; simp, cell_of_row _ _ _ _ _ _ hq]
   have hj2 : (r1.toList ++ r2.toList)[j]? = some u := by simpa using hj
   show (r1 ++ r2)[_]? = _
   rw [<- Array.getElem?_toList, Array.toList_append]
   exact hj2) (by simpa using hm) (by simpa using hlen)
 refine za_do hr ho hg (w2 := w') (v := .slice A' (rows.length + 2) c') ?_ (fun _ => hS w' a3) (hK A' c' w' a2 a3 a4 (hS w' a3))
 have a1' : (Builtin.append_ #[sty, sty] oi.type #[.slice A rows.length cc, .slice (some ⟨q, 0, none⟩) 2 2]).run Try.prog w = .ok (.slice A' (rows.length + 2) c') w' := by simpa using a1
 unfold execOp
 simp only [hop, resolve, invoke, builtin, Sem.run_bind, Sem.run_pure, Result.andThen_ok, List.map_toArray, List.map_cons, List.map_nil, hs, hx, a1']
theorem built101g (o n : Int) : Try.prog.built 101 [(1, .int .i64 o), (2, .int .i64 n), (3, .int .i64 1)] = some (zrow ++ #[.int .i64 o, .int .i64 n, .int .i64 1]) := by kernel_rfl
theorem ex_build101g {ev : Operand -> Value} {o : Oper} {w : World} (x y z : Operand) (ho : o.op = .build 101 #[(1, x), (2, y), (3, z)]) {a n : Int} (hx : ev x = .int .i64 a) (hy : ev y = .int .i64 n) (hz : ev z = .int .i64 1) :
  (execOp ev o).run Try.prog w = .ok (.value (.agg (zrow ++ #[.int .i64 a, .int .i64 n, .int .i64 1]))) w := ex_build 101 _ ho (by simp only [List.map_cons, List.map_nil, hx, hy, hz]) (built101g a n)
theorem step_fl {N : Nat} {h : Hp} {ts : List Tk} {t : Tk} (hf : ∀ o, o ∈ h.obs -> o.fields.length <= N) : ∀ o, o ∈ (stepV' h ts t).1.obs -> o.fields.length <= N := by
 have hm : ∀ (n : Nat) (f : Ob -> Ob), (∀ o, (f o).fields.length = o.fields.length) -> ∀ o, o ∈ h.obs.modify n f -> o.fields.length <= N := fun n f hfe o ho => by
  obtain ⟨i, hi⟩ := List.mem_iff_getElem?.1 ho
  rw [List.getElem?_modify] at hi
  cases hx : h.obs[i]? with
  | none => rw [hx] at hi; simp at hi
  | some o1 =>
   rw [hx] at hi
   have h1 := hf o1 (List.mem_of_getElem? hx)
   split at hi <;> (simp at hi; subst hi)
   ·rw [hfe]; exact h1
   ·exact h1
 cases t with
 | flds o i =>
  simp only [stepV']
  split
  ·split
   ·exact hf
   ·exact hm _ _ fun ob => by simp
  ·exact hf
 | val v =>
  simp only [stepV']
  split
  ·split
   ·split
    ·exact hm _ _ fun ob => rfl
    ·exact hm _ _ fun ob => rfl
   ·exact hf
  ·split
   ·exact hm _ _ fun ob => rfl
   ·split
    ·split
     ·split
      ·exact hf
      ·exact hf
     ·exact hf
    ·split
     ·exact hf
     ·split <;> exact hf
theorem step_setL (h : Hp) (L : List (List Tk)) (ts : List Tk) (t : Tk) : stepV' (h.setL L) ts t = ((stepV' h ts t).1.setL L, (stepV' h ts t).2.1, (stepV' h ts t).2.2) := by
 cases t with
 | flds o i =>
  simp only [stepV', Hp.setL]
  cases h.obs[o]? with
  | none => rfl
  | some ob =>
   simp only
   cases ob.fields[i]? <;> rfl
 | val v =>
  simp only [stepV', Hp.setL]
  split
  ·cases h.obs[v.num.toNat]? with
   | none => rfl
   | some ob =>
    simp only
    split <;> rfl
  ·split
   ·rfl
   ·split
    ·cases h.bus[v.num.toNat]? with
     | none => rfl
     | some b =>
      simp only
      split <;> rfl
    ·split
     ·rfl
     ·split <;> rfl
theorem weight_setL (h : Hp) (L : List (List Tk)) (ts : List Tk) : weight (h.setL L) ts = weight h ts := by
 have : wT (h.setL L) = wT h := funext fun t => by cases t <;> rfl
 unfold weight
 rw [this]
 rfl
open Go.RowKit Go.Proofs.Ytpamocglecangaa.Nm
set_option linter.unusedSimpArgs false
theorem runN_snoc (m : Nat) (h : Hp) (ts : List Tk) (t : Tk) : runN (m + 1) h (ts ++ [t]) = match (stepV' h ts t).2.2 with
  | some v => ((stepV' h ts t).1, (stepV' h ts t).2.1, some v)
  | none => runN m (stepV' h ts t).1 (stepV' h ts t).2.1 := by
 simp only [runN, List.getLast?_concat, List.dropLast_concat]
 cases (stepV' h ts t).2.2 <;> rfl
theorem runN_nil (m : Nat) (h : Hp) : runN m h [] = (h, [], none) := by
 cases m with
 | zero => rfl
 | succ m => rfl
theorem sl85 : Try.prog.underlying 85 = some (.slice (Try.prog.elem 85)) := by kernel_rfl
theorem sl98 : Try.prog.underlying 98 = some (.slice (Try.prog.elem 98)) := by kernel_rfl
theorem sz85 (w : World) : (sizeOf (Try.prog.elem 85)).run Try.prog w = .ok 1 w := by kernel_rfl
theorem sz98 (w : World) : (sizeOf (Try.prog.elem 98)).run Try.prog w = .ok 12 w := by kernel_rfl
theorem ex_head {ev : Operand -> Value} {o : Oper} {w : World} {ty : TypeId} {sz : Nat} (hu : Try.prog.underlying ty = some (.slice (Try.prog.elem ty))) (hs : (sizeOf (Try.prog.elem ty)).run Try.prog w = .ok sz w) (x y : Operand) (ho : o.op = .slice ty x none (some y) none) {g l c n : Nat}
  (hx : ev x = .slice (some ⟨g, 0, none⟩) l c) (hy : ev y = .int .i64 (n : Int)) (hn : n <= c) : (execOp ev o).run Try.prog w = .ok (.value (.slice (some ⟨g, 0, none⟩) n c)) w := by
 have h1 := run_slice_h (P := Try.prog) w ty (some ⟨g, 0, none⟩) l c hu .i64 (n : Int) (by omega) (by omega)
 have h2 := run_sliceAt_slice (P := Try.prog) w ty (.slice (some ⟨g, 0, none⟩) l c) none (some (.int .i64 (n : Int))) none hu
 rw [h1, hs] at h2
 unfold execOp
 simp only [ho, Option.map_none, Option.map_some, hx, hy, h2, Sem.run_bind, Sem.run_pure, Result.andThen_ok]
 simp [sliced, Addr.add]
theorem Done.step {w W w' : World} {G G1 : Gh} {k p : Nat} {h h' : Hp} (d : Done w G k p h W G1) {g : Nat} (hg : Mine G1 k g) (hk : Keep (fun b => b = g) W w') (hh : HeapAt w' G1 k p h') : Done w G k p h' w' G1 :=
 d.trans ⟨hh, d.fr.on hk.size, fun b _ => rfl, fun b hb => .inl (d.fr b hb), (Keep.refl _ W).trans (C' := fun b => b = g) (fun b e => .inl (by rw [e]; exact hg)) hk⟩
theorem ex_all101 {o : Oper} (ho : o.op = .alloc 101) (ev : Operand -> Value) (w : World) : (execOp ev o).run Try.prog w = .ok (.value (.pointer (some ⟨w.heap.size, 0, none⟩))) (w.alloc (.cells zrow12 101)) := by
 unfold execOp
 simp only [ho]
 kernel_rfl
def ValB (w : World) (G : Gh) (k p : Nat) (r : Hp × Va × Bool) (e : Ending) (w' : World) : Prop := ∃ G' row, e = .returned (.tuple #[.agg row, .bool r.2.2]) /\ VAt w' (Imm G') r.2.1 row /\ Done w G k p r.1 w' G'
structure NextL (w : World) (G : Gh) (k p r : Nat) (low : List (List Tk)) (res : Hp × List Tk × Option Va) (n : Nat) (wr : World) (hc : Hp) (ts : List Tk) (G1 : Gh) (m : Nat) : Prop where
 wt : weight hc ts = n
 le : n <= m
 run : runN m hc ts = res
 wf : Wf hc
 wfT : WfT hc ts
 dn : Done w G k p (hc.setL (low ++ [ts])) wr G1
 rr : G1 r = some (k, .tmp)
 rb : wr.heap[r]? = some (.cells zrow 35 (0, 0))
 max : n <= 700000000000
 fl : ∀ o, o ∈ hc.obs -> o.fields.length <= 1000000000
def CutN (wr : World) (G1 : Gh) (k p q : Nat) (hc : Hp) (low : List (List Tk)) (last : Array Value) (ts1 : List Tk) (t : Tk) (A2 : Option Addr) (c2 l2 : Nat) (b : Bool) (wx : World) : Prop :=
 ∃ G2 rv2 xs, TopD wr G1 k p ((stepV' hc ts1 t).1.setL low) last (stepV' hc ts1 t).2.1 A2 c2 wx G2 /\ G2 q = some (k, .tmp) /\ wx.heap[q]? = some (.cells (rv2 ++ xs) 101 (0, 0)) /\ rv2.size = 9 /\ (∀ u, (stepV' hc ts1 t).2.2 = some u -> VAt wx (Imm G2) u rv2) /\ l2 = (stepV' hc ts1 t).2.1.length /\ b = (stepV' hc ts1 t).2.2.isSome
theorem Next_any {G : Gh} {k p : Nat} {h : Hp} {w : World} (hh : HeapAt w G k p h) (hf : Fr w G) (hw : Wf h) (hmax : ∀ l, h.lev.getLast? = some l -> weight h l <= 700000000000) (hfl : ∀ o, o ∈ h.obs -> o.fields.length <= 1000000000) :
  Calls Try.prog 26 #[.pointer (some ⟨p, 0, none⟩)] w (ValB w G k p (nextP h)) := by
 have HX := Zi hh
 have HF := Zi hf
 have HWF := Zi hw
 have HMX := Zi hmax
 have HFL := Zi hfl
 have zone : zrow.all (·.oneCell') = true := (zero_va w (Imm G)).one
 have hzs : zrow.size = 9 := rfl
 have hb := Below.refl w.heap.size w
 clear hh hf hw hmax hfl
 go_enter Try.func26, Try.ntmps26
 go_upto_region 0 with fail
 apply Zl
 (with_reducible refine wl_allV ?_); intro W r hbn hlr hr; replace hb := hb.trans (hbn.mono hb.size); clear hbn; simp only [Zq]
 refine Zm ?_
 have hrl : w.heap.size <= r := by omega
 have HRl := Zi hrl
 have HDn := Zi (Done.marked HX.out HF.out hb hrl (heap_lt hr))
 have HM := Zi (mark_same G k r)
 clear HX HF hb hrl
 obtain ⟨oA, oc, bA, bc, m, lA, lc, hh⟩ := HDn.out.heap
 have HH := Zi hh
 have hp := hh.blk
 clear hh
 obtain ⟨ll, hll⟩ : ∃ l, l = h.lev.length := ⟨_, rfl⟩
 rw [<- hll] at hp
 have HLL := Zi hll
 clear hll
 go_upto_region 1 with fail
 by_cases c0 : ll = 0
 ·have e0 : ((ll : Int) == 0) = true := by simp [c0]
  have HE : Hid (nextP h = (h, va0, false)) := Zi (by
   have : h.lev = [] := List.length_eq_zero_iff.1 (by rw [<- HLL.out]; exact c0)
   unfold nextP
   rw [this]; rfl)
  apply Zl
  iterate 6 refine Zm ?_
  refine Zo rfl (h3 hp) ?_
  iterate 3 refine Zm ?_
  clear c0 e0
  go_upto_region 2 with fail
  apply Zl
  refine wl_w rfl (build35 _ _ rfl _) ?_
  simp only [Zq]
  (with_reducible refine wl_putV rfl zone hzs rfl rfl hr ?_); rw [put_noneA]; intro W10 hbx hsz hkx hnx
  have HDn2 := Zi (HDn.out.put HM.out HRl.out (Keep.of_put hbx hsz hkx))
  clear hbx hsz hkx
  refine Zm ?_
  go_wp2_with fail
  refine bodyPost_ret (res35t rfl _ _ r rfl rfl rfl hnx) rfl ?_
  rw [HE.out]
  exact ⟨_, zrow, rfl, zero_va _ _, HDn2.out⟩
 ·have e0 : ((ll : Int) == 0) = false := by rw [beq_eq_false_iff_ne]; omega
  apply Zl
  iterate 6 refine Zm ?_
  refine Zo rfl (h3 hp) ?_
  iterate 3 refine Zm ?_
  clear e0
  obtain ⟨ts0, hts0⟩ : ∃ ts0, h.lev.getLast? = some ts0 := by
   cases hl : h.lev.getLast? with
   | none => exact absurd (by rw [HLL.out, List.getLast?_eq_none_iff.1 hl]; rfl) c0
   | some l => exact ⟨l, rfl⟩
  obtain ⟨low, hlow⟩ : ∃ low, low = h.lev.dropLast := ⟨_, rfl⟩
  have hlev : h.lev = low ++ [ts0] := by
   rw [hlow]
   rw [List.getLast?_eq_some_iff] at hts0
   obtain ⟨l', e⟩ := hts0
   rw [e]; simp
  obtain ⟨nl, hnl⟩ : ∃ nl, nl = low.length := ⟨_, rfl⟩
  have hll1 : ll = nl + 1 := by rw [HLL.out, hlev, List.length_append, hnl]; rfl
  subst hll1
  have hmxl : nl + 1 <= maxLen := by
   obtain ⟨rows, ho, hl, -⟩ := HH.out.lev
   have h5 := ho.cap
   have h6 := ho.max
   have h7 := HLL.out
   omega
  obtain ⟨res, hres⟩ : ∃ res, res = runN (weight h ts0) h ts0 := ⟨_, rfl⟩
  have HRES : Hid (nextP h = match res.2.2 with
   | some v => ({ res.1 with lev := low ++ [res.2.1] }, v, true)
   | none => ({ res.1 with lev := low }, va0, false)) := Zi (by
   unfold nextP
   rw [hts0, hres, hlow]
   simp only
   cases (runN (weight h ts0) h ts0).2.2 <;> rfl)
  have HL0 : Hid (∃ G1 m, NextL w G k p r low res (weight h ts0) W h ts0 G1 m) := Zi ⟨mark G k r, weight h ts0, rfl, Nat.le_refl _, hres.symm, HWF.out, (fun t ht => HWF.out.tsk ts0 (List.mem_of_getLast? hts0) t ht), (by
   have e : h.setL (low ++ [ts0]) = h := by rw [<- hlev]; rfl
   rw [e]; exact HDn.out), HM.out, hr, HMX.out ts0 hts0, HFL.out⟩
  have hw1 : IntKind.i64.wrap (nl : Int) = (nl : Int) := IntWalk.i64_in _ (by unfold maxLen at hmxl; omega)
  have HNL := Zi hnl
  clear hres hts0 hlow hlev hnl c0 hmxl
  go_upto_region 3 with fail
  apply Zl
  iterate 3 refine Zm ?_
  refine Zo rfl (h3 hp) ?_
  iterate 3 refine Zm ?_
  clear hp HH HDn HM hr
  go_wp2_with fail
  go_loopg [] (weight h ts0) (fun n wr => ∃ hc ts G1 m, NextL w G k p r low res n wr hc ts G1 m)
  case atStart =>
   obtain ⟨G1, m, h9⟩ := HL0.out
   exact ⟨h, ts0, G1, m, h9⟩
  case round =>
   clear HL0
   obtain ⟨hc, ts, G1, m', hn⟩ := hrel
   obtain ⟨oA, oc, bA, bc, m, lA, lc, hh⟩ := hn.dn.heap
   obtain ⟨tA, tc, gl, rfl, hgl, htop, htks, hone⟩ := hh.top
   have hp := htop.blk
   rw [show (hc.setL low).lev.length = nl from HNL.out.symm] at hp
   rw [<- HNL.out] at hone htks
   have HN := Zi hn
   have HT := Zi htop
   have HK := Zi htks
   have HG := Zi hgl
   have HONE := Zi hone
   have hnl1 : (nl : Int) < (nl : Int) + 1 := by omega
   have hr := hn.rb
   clear hn hh hgl htop htks hone
   go_upto_region 4 with fail
   rcases List.eq_nil_or_concat ts with e | ⟨ts1, t, e⟩
   ·subst e
    apply Zl
    iterate 3 refine Zm ?_
    refine Zo rfl (h3 hp) ?_
    iterate 2 refine Zm ?_
    refine Zo rfl (HONE.out _ rfl) ?_
    iterate 2 refine Zm ?_
    have HRS : Hid (nextP h = (hc.setL low, va0, false)) := Zi (by
     have h5 := HN.out.run
     rw [runN_nil] at h5
     rw [HRES.out, <- h5]
     rfl)
    go_upto_region 20 with fail
    apply Zl
    iterate 4 refine Zm ?_
    refine Zo rfl (h3 hp) ?_
    refine Zm ?_
    have hnlc : nl <= lc := by
     obtain ⟨rows, ho, hl, -⟩ := HT.out.lev
     have h5 := ho.cap
     have h6 := HNL.out
     rw [List.length_append, hl] at h5
     have h7 : (hc.setL low).lev.length = low.length := rfl
     rw [h7] at h5
     simp at h5
     omega
    refine wl_val rfl (ex_head sl85 (sz85 _) _ _ rfl rfl rfl hnlc) ?_
    simp only [Zq]
    iterate 2 refine Zm ?_
    obtain ⟨hs1, hs2, -⟩ := hdr_set (j := 3) (v := .slice (some ⟨gl, 0, none⟩) nl lc) hp
    have hs1 := hs1 (by omega)
    have hdr := HT.out.drop
    rw [show (hc.setL low).lev.length = nl from HNL.out.symm] at hdr
    refine wl_storeC rfl 85 _ _ rfl p 3 (.slice (some ⟨gl, 0, none⟩) nl lc) rfl rfl info85 rfl hs1 hs2 ?_
    rw [put_noneA]
    have hd2 := HN.out.dn.step (h' := hc.setL low) ⟨.hdr, HT.out.rp, by simp⟩ (Keep.cellOne wr p 3 (.slice (some ⟨gl, 0, none⟩) nl lc)) ⟨_, _, _, _, _, _, _, hdr⟩
    have hrp : r ≠ p := fun e => by have h5 := HN.out.rr; rw [e, HT.out.rp] at h5; cases h5
    have hr2 := (heap_setCell_other wr ⟨p, 3, none⟩ r (.slice (some ⟨gl, 0, none⟩) nl lc) hrp).trans hr
    have HD2 := Zi hd2
    have HR1 := Zi HN.out.rr
    obtain ⟨W2, hW⟩ : ∃ W, W = wr.setCell ⟨p, 3, none⟩ (.slice (some ⟨gl, 0, none⟩) nl lc) := ⟨_, rfl⟩
    rw [<- hW] at HD2 hr2 ⊢
    clear hd2 hr hp hs1 hs2 hdr hW HN HT HK hrp
    go_upto_region 21 with fail
    apply Zl
    refine wl_w rfl (build35 _ _ rfl _) ?_
    simp only [Zq]
    (with_reducible refine wl_putV rfl zone hzs rfl rfl hr2 ?_); rw [put_noneA]; intro W10 hbx hsz hkx hnx
    have HD3 := Zi (HD2.out.put HR1.out HRl.out (Keep.of_put hbx hsz hkx))
    clear hbx hsz hkx hr2
    refine Zm ?_
    go_wp2_with fail
    refine bodyPost_ret (res35t rfl _ _ r rfl rfl rfl hnx) rfl ?_
    rw [HRS.out]
    exact ⟨_, zrow, rfl, zero_va _ _, HD3.out⟩
   ·rw [List.concat_eq_append] at e
    subst e
    obtain ⟨n1, hn1⟩ : ∃ n1, n1 = ts1.length := ⟨_, rfl⟩
    have hl1 : (ts1 ++ [t]).length = n1 + 1 := by rw [List.length_append, hn1]; rfl
    have HL1 := Zi hl1
    have HN1 := Zi hn1
    rw [hl1] at HONE HT
    have hc1 : (n1 : Int) + 1 > 0 := by omega
    have hc2 : (n1 : Int) < (n1 : Int) + 1 := by omega
    have hntc : n1 + 1 <= tc /\ n1 <= 700000000000 := by
     obtain ⟨rows, ho, hl, -⟩ := HK.out
     have h5 := ho.cap
     have h6 := weight_len (h := hc) (ts := ts1) (t := t)
     have h7 := HN.out.max
     have h8 := HN.out.wt
     have h9 := wT_pos hc t
     refine ⟨by omega, by omega⟩
    have hw2 : IntKind.i64.wrap (n1 : Int) = (n1 : Int) := IntWalk.i64_in _ (by omega)
    clear hn1 hl1
    apply Zl
    iterate 3 refine Zm ?_
    refine Zo rfl (h3 hp) ?_
    iterate 2 refine Zm ?_
    refine Zo rfl (HONE.out _ rfl) ?_
    iterate 2 refine Zm ?_
    go_upto_region 5 with fail
    apply Zl
    iterate 3 refine Zm ?_
    refine Zo rfl (h3 hp) ?_
    iterate 2 refine Zm ?_
    refine Zo rfl (HONE.out _ rfl) ?_
    refine Zm ?_
    obtain ⟨-, ga, row, rfl, hga, htk, hrs, hrow⟩ := HK.out.pop
    rw [<- HN1.out] at hrow
    have hrow1 := hrow wr rfl
    go_upto_region 6 with fail
    apply Zl
    iterate 5 refine Zm ?_
    refine Zw rfl (hrow1) ?_
    have hz12 : zrow12.size = 12 := rfl
    have hb6 : Below wr.heap.size wr (wr.alloc (.cells zrow12 101)) := (Below.refl _ wr).alloc (Nat.le_refl _) _
    have hq0 : (wr.alloc (.cells zrow12 101)).heap[wr.heap.size]? = some (.cells zrow12 101 (0, 0)) := ha_new rfl
    refine wl_w rfl (ex_all101 rfl _ wr) ?_
    simp only [Zq]
    obtain ⟨q, hqq⟩ : ∃ q, q = wr.heap.size := ⟨_, rfl⟩
    have hqe : wr.heap.size <= q := by omega
    obtain ⟨W5, hW5⟩ : ∃ W, W = wr.alloc (.cells zrow12 101) := ⟨_, rfl⟩
    rw [<- hqq, <- hW5] at hq0 ⊢
    rw [<- hW5] at hb6
    clear hW5 hqq
    have hone : row.all (·.oneCell') = true := by
     cases t with
     | val v => obtain ⟨rv, hva, e⟩ := htk; rw [e]; exact trow_one hva.one
     | flds o i => obtain ⟨rv, u, hva, e⟩ := htk; rw [e]; exact trow_one hva.one
    refine wl_storeN rfl 101 _ _ rfl info101 rfl rfl hrs hone hq0 (by rw [hz12]; omega) ?_
    rw [put_noneA, putN_all (by rw [hrs]; rfl)]
    have hq1 : (W5.setRow q row).heap[q]? = some (.cells row 101 (0, 0)) := hr_new hq0
    have hb7 : Below wr.heap.size wr (W5.setRow q row) := below_setRow hb6 hqe _
    obtain ⟨W6, hW6⟩ : ∃ W, W = W5.setRow q row := ⟨_, rfl⟩
    rw [<- hW6] at hq1 hb7 ⊢
    have hd0 : TopD wr G1 k p (hc.setL low) #[.slice (some ⟨ga, 0, none⟩) (n1 + 1) tc] (ts1 ++ [t]) (some ⟨ga, 0, none⟩) tc wr G1 := ⟨⟨_, _, _, _, _, _, _, HT.out⟩, by rw [show (hc.setL low).lev.length = nl from HNL.out.symm]; exact HK.out, HN.out.dn.fr, fun _ _ => rfl, fun b hb => .inl (HN.out.dn.fr b hb), Keep.refl _ _⟩
    have hd1 := hd0.pop.marked hb7 hqe (heap_lt hq1)
    have HD := Zi hd1
    have HQ := Zi (mark_same G1 k q)
    have HQE := Zi hqe
    have HTK : Hid (TkAt W6 (mark G1 k q) t row) := Zi (by
     have hG : ∀ b, b < wr.heap.size -> mark G1 k q b = G1 b := fun b hb => if_neg (by omega)
     exact (htk.regh hG).same fun b hb _ => hb7.block b hb)
    have hpw := below_look hb7 hp
    clear hd0 hd1 hb6 hb7 hq0 hW6 hrow hrow1 htk hone hz12 hga hqe hp
    have hp := hpw
    clear hpw
    go_upto_region 7 with fail
    apply Zl
    iterate 4 refine Zm ?_
    refine wl_val rfl (ex_head sl98 (sz98 _) _ _ rfl rfl rfl (by omega)) ?_
    simp only [Zq]
    refine Zm ?_
    clear hc1 hc2 hw2
    go_upto_region 8 with fail
    apply Zl
    refine Zm ?_
    go_upto_region 9 with fail
    obtain ⟨sg, hsg, hst⟩ : ∃ sg : Int, OneAt W6 3 ⟨q, 11, none⟩ (.int .i64 sg) /\ ((∃ v rv, t = .val v /\ sg = 0 /\ VAt W6 (Imm (mark G1 k q)) v rv /\ row = rv ++ #[.int .i64 0, .int .i64 0, .int .i64 0]) ∨ ∃ o i rv, t = .flds o i /\ sg = 1 /\ rv.size = 9 /\ row = rv ++ #[.int .i64 (o : Int), .int .i64 (i : Int), .int .i64 1]) := by
     have h5 := HTK.out
     cases t with
     | val v =>
      obtain ⟨rv, hva, e⟩ := h5
      exact ⟨0, by rw [e] at hq1; exact (tkI hq1 hva.size).2.2, .inl ⟨v, rv, rfl, rfl, hva, e⟩⟩
     | flds o i =>
      obtain ⟨rv, u, hva, e⟩ := h5
      exact ⟨1, by rw [e] at hq1; exact (tkI hq1 hva.size).2.2, .inr ⟨o, i, rv, rfl, rfl, hva.size, e⟩⟩
    have HST := Zi hst
    clear hst HTK
    apply Zl
    refine Zm ?_
    refine Zo rfl (hsg) ?_
    simp only [Zq]
    clear hsg
    go_upto_block 2 with fail
    go_cut [5, 7] (fun s5 s7 wx => ∃ A2 c2 l2 b, s5 = .slice A2 l2 c2 /\ s7 = .bool b /\ Hid (CutN wr G1 k p q hc low #[.slice (some ⟨ga, 0, none⟩) (n1 + 1) tc] ts1 t A2 c2 l2 b wx))
    case first =>
     rcases HST.out with ⟨v, rv, rfl, rfl, hva, rfl⟩ | ⟨o, i, rv, rfl, rfl, hrz, rfl⟩
     ·have hov := (HN.out.wfT (.val v) (by simp)).1 v rfl
      have hcl := end_any HD.out hva hq1 HQ.out HQE.out hov (by rw [weight_setL, HN.out.wt]; exact HN.out.max)
      rw [<- HN1.out, step_setL] at hcl
      have HC := Zi hcl
      clear hva hov hcl HD HN
      go_upto_region 11 with fail
      apply Zl
      iterate 2 refine Zm ?_
      go_upto_region 10 with fail
      apply Zl
      iterate 3 refine Zm ?_
      refine Zn HC.out ?_; rintro e w7 ⟨A7, c7, G7, rv7, rfl, hd7, hq7, hx7, hs7, hv7⟩; refine ⟨_, rfl, ?_⟩; simp only [Zq]
      iterate 5 refine Zm ?_
      go_wp2_with fail
      go_meet
      exact ⟨A7, c7, _, _, rfl, rfl, Zi ⟨G7, rv7, _, hd7, hq7, hx7, hs7, hv7, rfl, rfl⟩⟩
     ·have hol := (HN.out.wfT (.flds o i) (by simp)).2 o i rfl
      have holI : (o : Int) < ((hc.setL low).obs.length : Int) := by
       show (o : Int) < (hc.obs.length : Int)
       omega
      obtain ⟨ob, hob⟩ : ∃ ob, hc.obs[o]? = some ob := ⟨_, List.getElem?_eq_getElem hol⟩
      have hflb := HN.out.fl ob (List.mem_of_getElem? hob)
      obtain ⟨oA2, oc2, bA2, bc2, m2, lA2, lc2, hh2⟩ := HD.out.heap
      obtain ⟨g, tr, fA, fc, rfl, hgr, hL, -, hLV, -⟩ := hh2.obj (i := o) (o := ob) hob
      have hpz := hh2.blk
      have HH := Zi hh2
      have HL := Zi hL
      have HLV := Zi hLV
      have HGR := Zi hgr
      have HOB := Zi hob
      have HMX2 : Hid (weight hc (ts1 ++ [.flds o i]) <= 700000000000) := Zi (by rw [HN.out.wt]; exact HN.out.max)
      clear hp HN hol hh2 hL hLV hgr hob
      go_upto_region 11 with fail
      apply Zl
      iterate 2 refine Zm ?_
      go_upto_region 12 with fail
      refine wp_region_belowAll mixed (by kernel_rfl) ?_
      iterate 3 refine Zt ?_
      refine Zv rfl (fun w' hw' => h0 (below_look hw' hpz)) ?_
      refine Zt ?_
      refine Zv rfl (fun w' hw' => (tkI (below_look hw' hq1) hrz).1) ?_
      iterate 2 refine Zt ?_
      intro w8 hb8
      replace HD := Zi (HD.out.quiet hb8)
      replace HH := Zi (HH.out.old hb8)
      replace HLV := Zi (HLV.out.moved (Keep.of (C := fun _ => False) hb8) (fun b e => e.elim) (fun _ _ => rfl))
      have HL9 := Zi (fun w' hw => HL.out w' (hb8.trans (Below.mono hw hb8.size)))
      replace hq1 := below_look hb8 hq1
      replace hpz := below_look hb8 hpz
      clear hb8 HL
      have HL := HL9
      clear HL9
      go_upto_region 13 with fail
      refine wp_region_belowAll mixed (by kernel_rfl) ?_
      refine Zt ?_
      refine Zv rfl (fun w' hw' => (tkI (below_look hw' hq1) hrz).2.1) ?_
      iterate 3 refine Zt ?_
      refine Zv rfl (fun w' hw' => (HL.out w' hw').f) ?_
      iterate 2 refine Zt ?_
      intro w9 hb9
      replace HD := Zi (HD.out.quiet hb9)
      replace HH := Zi (HH.out.old hb9)
      replace HLV := Zi (HLV.out.moved (Keep.of (C := fun _ => False) hb9) (fun b e => e.elim) (fun _ _ => rfl))
      have HL9 := Zi (HL.out w9 hb9)
      replace hq1 := below_look hb9 hq1
      replace hpz := below_look hb9 hpz
      clear hb9 HL
      have HL := HL9
      clear HL9
      by_cases hif : i < ob.fields.length
      ·have hifI : (i : Int) < (ob.fields.length : Int) := by omega
       have hwi : IntKind.i64.wrap ((i : Int) + 1) = (i : Int) + 1 := IntWalk.i64_in _ (by omega)
       obtain ⟨fb, u, rowu, rfl, hfb, hu, hua, hfbl, hrowu⟩ := HLV.out.atK hif
       have hus := hua.size
       have hu1 := hua.one
       have HSP : Hid (stepV' hc ts1 (.flds o i) = (hc, ts1 ++ [.flds o (i + 1), .val u], none)) := Zi (by simp only [stepV', HOB.out, hu])
       have HUA := Zi hua
       have HRU := Zi hrowu
       have HFB := Zi hfbl
       obtain ⟨rows, hor, hlr, hrr, hvr⟩ := HD.out.tks
       have HOR := Zi hor
       have HLR := Zi hlr
       have HRR := Zi hrr
       have HVR := Zi hvr
       have hlen : rows.length <= 700000000000 := by
        have h5 := HMX2.out
        have h6 := weight_len (h := hc) (ts := ts1) (t := .flds o i)
        omega
       have hCA : ∀ b, (some ⟨ga, 0, none⟩ : Option Addr) = some ⟨b, 0, none⟩ -> (¬ Mine (mark G1 k q) k b ∨ mark G1 k q b = some (k, .lvl (hc.setL low).lev.length)) /\ mark G1 k q b ≠ none := fun b e => by rw [HRR.out b e]; exact ⟨.inr rfl, by simp⟩
       have hnA : ∀ b y, mark G1 k q b = y -> y ≠ some (k, .lvl (hc.setL low).lev.length) -> ¬ (some ⟨ga, 0, none⟩ : Option Addr) = some ⟨b, 0, none⟩ := fun b y hy h5 e => h5 (hy.symm.trans (HRR.out b e))
       have HNQ := Zi (hnA q _ HQ.out (by simp))
       have HNF := Zi (hnA fb _ hfb (by simp))
       have HCA := Zi hCA
       clear hor hlr hrr hvr hCA hnA hua hrowu hu hfb hfbl
       go_upto_region 14 with fail
       refine wp_region_Z (S := fun w' => Keep (fun b => (some ⟨ga, 0, none⟩ : Option Addr) = some ⟨b, 0, none⟩) w9 w') 18 mixed (Keep.of ((Below.refl _ _).drew)) (fun hS => ?_)
       have hbz : Below w9.heap.size w9 w9.drew := (Below.refl _ _).drew
       refine zm 0 hS ?_; try simp only [Zq]
       refine zm 1 hS ?_; try simp only [Zq]
       refine zv4 (i := 2) rfl (by kernel_rfl) Zg hS rfl (fun w' hw' => ex_one rfl ((tkI (hw'.look hq1 HNQ.out) hrz).1)) ?_; try simp only [Zq]
       refine zm 3 hS ?_; try simp only [Zq]
       refine zv4 (i := 4) rfl (by kernel_rfl) Zg hS rfl (fun w' hw' => ex_one rfl ((tkI (hw'.look hq1 HNQ.out) hrz).2.1)) ?_; try simp only [Zq]
       refine zm 5 hS ?_; try simp only [Zq]
       refine zv4 (i := 6) rfl (by kernel_rfl) Zg hS rfl (fun w' hw' => ex_build101g _ _ _ rfl rfl rfl rfl) ?_; try simp only [Zq]
       refine zm 7 hS ?_; try simp only [Zq]
       refine zm 8 hS ?_; try simp only [Zq]
       refine zm 9 hS ?_; try simp only [Zq]
       refine zv4 (i := 10) rfl (by kernel_rfl) Zg hS rfl (fun w' hw' => ex_one rfl (HH.out.fldK HOB.out HL.out hw' HCA.out)) ?_; try simp only [Zq]
       refine zm 11 hS ?_; try simp only [Zq]
       refine zv4 (i := 12) rfl (by kernel_rfl) Zg hS rfl (fun w' hw' => ex_one rfl ((tkI (hw'.look hq1 HNQ.out) hrz).2.1)) ?_; try simp only [Zq]
       refine zm 13 hS ?_; try simp only [Zq]
       refine zv4 (i := 14) rfl (by kernel_rfl) Zg hS rfl (fun w' hw' => ex_row rfl (HRU.out _ (hw'.block fb HFB.out HNF.out))) ?_; try simp only [Zq]
       refine zv4 (i := 15) rfl (by kernel_rfl) Zg hS rfl (fun w' hw' => ex_build101v _ rfl hus rfl) ?_; try simp only [Zq]
       refine za_new (i := 16) (v := fun q => .slice (some ⟨q, 0, none⟩) 2 2) (by kernel_rfl) rfl rfl (ex_bs98t _ _ rfl rfl rfl rfl (trow_size hus _ _ _)) (fun W hW => hS.trans (C' := fun _ => False) (fun b e => e.elim) (Keep.of hW)) ?_
       clear hS
       intro W10 q8 hbn hlq8 hq8 hS
       try simp only [Zq]
       replace hbn := hbz.trans (hbn.mono hbz.size)
       replace HD := Zi (HD.out.quiet hbn)
       replace HOR := Zi (HOR.out.old hbn)
       replace HUA := Zi (HUA.out.old hbn)
       replace HVR := Zi (fun (j : Nat) (t : Tk) (row : Array Value) (e1 : ts1[j]? = some t) (e2 : rows[j]? = some row) => (HVR.out j t row e1 e2).same (fun b hl _ => hbn.block b hl))
       replace hq1 := below_look hbn hq1
       clear hbn hbz hpz HH HL HLV
       refine za_push2 (i := 17) elt98 (by kernel_rfl) rfl rfl _ _ rfl (show _ = Value.slice (some ⟨ga, 0, none⟩) rows.length tc by rw [HLR.out, <- HN1.out]; rfl) rfl HOR.out hq8 rfl (trow_size hus _ _ _) (by simp [Value.oneCell', zrow]) (trow_one hu1) (by omega) (by unfold maxLen; omega) (fun w' hk => hS.trans (C' := fun b => (some ⟨ga, 0, none⟩ : Option Addr) = some ⟨b, 0, none⟩) (fun b e => .inl e) hk) ?_
       clear hS
       intro A9 c9 W11 hown hk9 hA9 hS
       rw [HLR.out]
       try simp only [Zq]
       replace hq1 := hk9.look hq1 HNQ.out
       have hql : q < W10.heap.size := by
        rcases Nat.lt_or_ge q W10.heap.size with h6 | h6
        ·exact h6
        ·have := HD.out.fr q h6
         rw [HQ.out] at this; cases this
       have hG9 := own_again HRR.out hA9
       have mv : ∀ {u : Va} {row : Array Value}, VAt W10 (Imm (mark G1 k q)) u row -> VAt W11 (Imm (own (mark G1 k q) A9 (k, .lvl (hc.setL low).lev.length))) u row := fun hv => hv.moved hk9 (fun b e => by rw [HRR.out b e]; simp) hG9
       obtain ⟨hd11, -⟩ := HD.out.push (ts' := ts1 ++ [.flds o (i + 1), .val u]) hk9 hA9 hown (by simp [HLR.out]) (fun j t row hj hrow => by
        by_cases e : j < ts1.length
        ·rw [List.getElem?_append_left e] at hj
         rw [List.getElem?_append_left (by rw [HLR.out]; exact e)] at hrow
         have h5 := HVR.out j t row hj hrow
         cases t with
         | val u => obtain ⟨rv0, h6, h7⟩ := h5; exact ⟨rv0, mv h6, h7⟩
         | flds o i => obtain ⟨rv0, u, h6, h7⟩ := h5; exact ⟨rv0, u, mv h6, h7⟩
        ·rw [List.getElem?_append_right (by omega)] at hj
         rw [List.getElem?_append_right (by rw [HLR.out]; omega), HLR.out] at hrow
         match hz : j - ts1.length, hj, hrow with
         | 0, hj, hrow => cases hj; cases hrow; exact ⟨zrow, va0, zero_va _ _, rfl⟩
         | 1, hj, hrow => cases hj; cases hrow; exact ⟨rowu, mv HUA.out, rfl⟩)
       have HD11 := Zi hd11
       have HQ11 : Hid (own (mark G1 k q) A9 (k, .lvl (hc.setL low).lev.length) q = some (k, .tmp)) := Zi ((hG9 q hql).trans HQ.out)
       clear hown hk9 hA9 hd11 mv hG9 hql hq8 HD HOR HVR HUA hlen hus hu1
       refine zn 18 hS ?_; try simp only [Zq]
       clear hS
       refine za_done (by kernel_rfl) ?_ _
       go_wp2_with fail
       go_meet
       refine ⟨A9, c9, _, _, rfl, rfl, Zi ?_⟩
       unfold CutN
       rw [HSP.out]
       exact ⟨_, rv, _, HD11.out, HQ11.out, hq1, hrz, (fun u e => by cases e), by simp, rfl⟩
      ·have hifI : ¬ (i : Int) < (ob.fields.length : Int) := by omega
       obtain ⟨nf, hnf⟩ : ∃ nf, nf = ob.fields.length := ⟨_, rfl⟩
       obtain ⟨ob1, hob1⟩ : ∃ ob1 : Ob, ob1 = { ob with fields := List.replicate nf va0 } := ⟨_, rfl⟩
       obtain ⟨ob2, hob2⟩ : ∃ ob2 : Ob, ob2 = { ob1 with state := 3 } := ⟨_, rfl⟩
       have HSP : Hid (stepV' hc ts1 (.flds o i) = ({ hc with obs := hc.obs.set o ob2 }, ts1, none)) := Zi (by
        have hno : ob.fields[i]? = none := List.getElem?_eq_none (by omega)
        simp only [stepV', HOB.out, hno, modify_at _ HOB.out]
        rw [hob2, hob1, hnf])
       have HNF := Zi hnf
       have HB1 := Zi hob1
       have HB2 := Zi hob2
       have hff := HL.out.f
       rw [<- hnf] at hff
       clear hob1 hob2 hnf
       go_upto_region 15 with fail
       apply Zl
       iterate 4 refine Zm ?_
       refine Zo rfl (hff) ?_
       refine Zm ?_
       refine wl_makeL elt33 rfl _ _ rfl (n := nf) (c := nf) rfl rfl (Nat.le_refl _) (by have := HNF.out; omega) (by have := HNF.out; unfold maxLen; omega) ?_
       intro W10 q5 hbn hle5 hlt5 hown5
       simp only [Zq]
       have hd5 := HD.out.owned hbn (A0 := some ⟨q5, 0, none⟩) (r := .fld o) (fun g e => by cases e; exact ⟨hle5, hlt5⟩)
       obtain ⟨G5, hG5⟩ : ∃ G5, G5 = own (mark G1 k q) (some ⟨q5, 0, none⟩) (k, .fld o) := ⟨_, rfl⟩
       have hGo : ∀ b, b < w9.heap.size -> G5 b = mark G1 k q b := by rw [hG5]; exact own_old fun g e => by cases e; exact hle5
       have hr5 : RoleOf G5 (some ⟨q5, 0, none⟩) (k, .fld o) := by rw [hG5]; exact own_role _ _ _
       rw [<- hG5] at hd5
       have hgl9 : g < w9.heap.size := by
        obtain ⟨g'', rowsB, e, hR⟩ := HH.out.obs.rows (i := o) (o := ob) HOB.out
        cases e; exact hR.lt
       have hh5 := (HH.out.regh hGo).old hbn
       have hlv5 : ListV W10 G5 (k, .fld o) (List.replicate nf va0) (some ⟨q5, 0, none⟩) nf := ⟨List.replicate nf zrow, hown5, by simp, hr5, fun j v row hj hrj => by
        rw [List.eq_of_mem_replicate (List.mem_of_getElem? hj), List.eq_of_mem_replicate (List.mem_of_getElem? hrj)]
        exact zero_va _ _⟩
       obtain ⟨hs1, hs2, hst⟩ := hh5.newF (i := o) (o := ob) HOB.out hlv5
       rw [List.length_replicate] at hst
       have HG5g : Hid (G5 g = some (k, .arr)) := Zi ((hGo g hgl9).trans HGR.out)
       have HQ5 : Hid (G5 q = some (k, .tmp)) := Zi ((hGo q (heap_lt hq1)).trans HQ.out)
       replace hq1 := below_look hbn hq1
       replace HD := Zi hd5
       clear hd5 hG5 hGo hr5 hgl9 hh5 hlv5 hown5 hbn HH HL HLV hff hpz hle5 hlt5
       iterate 2 refine Zm ?_
       refine wl_storeC rfl 33 _ _ rfl g (o * 8 + 7) (.slice (some ⟨q5, 0, none⟩) nf nf) rfl rfl info33e rfl hs1 hs2 ?_
       rw [put_noneA]
       rw [<- HB1.out] at hst
       have hd6 := HD.out.step HG5g.out (by simp) (by simp) (h' := { hc.setL low with obs := hc.obs.set o ob1 }) rfl (Keep.cellOne _ g (o * 8 + 7) (.slice (some ⟨q5, 0, none⟩) nf nf)) ⟨_, _, _, _, _, _, _, hst⟩
       have hqg : q ≠ g := fun e => by have := HQ5.out; rw [e, HG5g.out] at this; cases this
       replace hq1 := (heap_setCell_other W10 ⟨g, o * 8 + 7, none⟩ q (.slice (some ⟨q5, 0, none⟩) nf nf) hqg).trans hq1
       obtain ⟨W11, hW⟩ : ∃ W, W = W10.setCell ⟨g, o * 8 + 7, none⟩ (.slice (some ⟨q5, 0, none⟩) nf nf) := ⟨_, rfl⟩
       rw [<- hW] at hd6 hst hq1 ⊢
       have hol := (List.getElem?_eq_some_iff.1 HOB.out).1
       obtain ⟨hs3, hs4, -, hset⟩ := hst.stO (i := o) (o := ob1) (List.getElem?_set_self hol) 4 (by omega)
       have hst2 := hset 3 ob2 (by rw [HB2.out]) (by rw [HB2.out]) (by rw [HB2.out]; simp)
       replace HD := Zi hd6
       clear hd6 hst hW hset hs1 hs2 hol
       go_upto_region 16 with fail
       apply Zl
       iterate 3 refine Zm ?_
       refine wl_storeC rfl 3 _ _ rfl g _ (.int .i64 3) rfl rfl info3 rfl hs3 hs4 ?_; rw [put_noneA]
       have hd7 := HD.out.step HG5g.out (by simp) (by simp) (h' := ({ hc with obs := hc.obs.set o ob2 } : Hp).setL low) rfl (Keep.cellOne _ g (o * 8 + 4) (.int .i64 3)) (by
        have e : ({ hc.setL low with obs := (hc.obs.set o ob1).set o ob2 } : Hp) = ({ hc with obs := hc.obs.set o ob2 } : Hp).setL low := by rw [List.set_set]; rfl
        rw [<- e]
        exact ⟨_, _, _, _, _, _, _, hst2⟩)
       replace hq1 := (heap_setCell_other W11 ⟨g, o * 8 + 4, none⟩ q (.int .i64 3) hqg).trans hq1
       have HD7 := Zi hd7
       clear hd7 hst2 hs3 hs4 HD
       go_wp2_with fail
       go_meet
       refine ⟨_, _, _, _, rfl, rfl, Zi ?_⟩
       unfold CutN
       rw [HSP.out]
       exact ⟨_, rv, _, HD7.out, HQ5.out, hq1, hrz, (fun u e => by cases e), HN1.out, rfl⟩
    case rest =>
     obtain ⟨A2, c2, l2, bd, rfl, rfl, HC⟩ := hcut
     obtain ⟨G2, rv2, xs, hd, hq2, hx, hs, hv, hl2, hbd⟩ := HC.out
     obtain ⟨y, hy⟩ : ∃ y, y = stepV' hc ts1 t := ⟨_, rfl⟩
     rw [<- hy] at hd hv hl2 hbd
     obtain ⟨oA2, oc2, bA2, bc2, m2, lA2, lc2, hh2⟩ := hd.heap
     have htk := hd.tks
     have hlev : (y.1.setL low).lev.length = nl := HNL.out.symm
     obtain ⟨g, rfl, hgr, hs1, hs2, hat⟩ := hh2.put htk
     have hpz := hh2.blk
     rw [hlev] at hs1 hs2 hat hpz
     rw [<- hl2] at hat
     have hrl1 : r < wr.heap.size := heap_lt hr
     have hrg1 := HN.out.rr
     have hrG2 : G2 r = some (k, .tmp) := (hd.old r hrl1).trans hrg1
     have hrx := hd.keep.look hr (by rintro ⟨z, e, h5⟩; rw [hrg1] at e; cases e; exact h5 rfl)
     have hrg : r ≠ g := fun e => by rw [e, hgr] at hrG2; cases hrG2
     have hqg : q ≠ g := fun e => by rw [e, hgr] at hq2; cases hq2
     have hk9 := Keep.cellOne wc g nl (.slice A2 l2 c2)
     have hdn : Done wr G1 k p (y.1.setL (low ++ [y.2.1])) (wc.setCell ⟨g, nl, none⟩ (.slice A2 l2 c2)) G2 := ⟨⟨_, _, _, _, _, _, _, hat⟩, hd.fr.on hk9.size, hd.old, hd.new, hd.keep.trans (C' := fun b => b = g) (fun b e => hd.mine ⟨.lar, by rw [e]; exact hgr, by simp⟩) hk9⟩
     have hrx2 := (heap_setCell_other wc ⟨g, nl, none⟩ r (.slice A2 l2 c2) hrg).trans hrx
     have hqx2 := (heap_setCell_other wc ⟨g, nl, none⟩ q (.slice A2 l2 c2) hqg).trans hx
     have hva2 : ∀ u, y.2.2 = some u -> VAt (wc.setCell ⟨g, nl, none⟩ (.slice A2 l2 c2)) (Imm G2) u rv2 := fun u e => (hv u e).keep hk9 fun b hb e => by unfold Imm at hb; rw [e, hgr] at hb; cases hb
     have HDN := Zi (HN.out.dn.trans hdn)
     have HVA := Zi hva2
     have HY := Zi hy
     have HBD := Zi hbd
     have HRG := Zi hrG2
     clear hd hv hh2 htk hat hk9 hdn hva2 HC hx hq2 hlev hl2 hrl1 hrg1 hrx hrg hqg hgr hy hbd hrG2 hp hr HD HST hq1
     go_upto_region 17 with fail
     apply Zl
     iterate 3 refine Zm ?_
     refine Zo rfl (h3 hpz) ?_
     iterate 3 refine Zm ?_
     refine wl_storeC rfl 98 _ _ rfl g nl (.slice A2 l2 c2) rfl rfl info98 rfl hs1 hs2 ?_; rw [put_noneA]
     obtain ⟨W9, hW⟩ : ∃ W, W = wc.setCell ⟨g, nl, none⟩ (.slice A2 l2 c2) := ⟨_, rfl⟩
     rw [<- hW] at HDN HVA hrx2 hqx2 ⊢
     clear hW hs1 hs2 hpz
     go_upto_region 18 with fail
     apply Zl
     refine Zm ?_
     cases hdue : y.2.2 with
     | some u =>
      have hb1 : bd = true := by rw [HBD.out, hdue]; rfl
      subst hb1
      have HVU := Zi (HVA.out u hdue)
      have HRS : Hid (nextP h = (y.1.setL (low ++ [y.2.1]), u, true)) := Zi (by
       have h5 := HN.out.run
       have h6 := HN.out.wt
       have h7 := HN.out.le
       have h8 := step_falls hc ts1 t
       obtain ⟨m3, rfl⟩ : ∃ m3, m' = m3 + 1 := ⟨m' - 1, by omega⟩
       rw [runN_snoc, <- HY.out, hdue] at h5
       rw [HRES.out, <- h5]
       rfl)
      have hu1 := HVU.out.one
      clear hdue HVA HN
      go_upto_region 19 with fail
      apply Zl
      refine Zm ?_
      refine Zw rfl (tkRow35 hqx2 hs) ?_
      (with_reducible refine wl_putV hs hu1 hzs rfl rfl hrx2 ?_); rw [put_noneA]; intro W10 hbx hsz hkx hnx
      have HK10 := Zi (Keep.of_put hbx hsz hkx)
      clear hbx hsz hkx hrx2
      refine Zm ?_
      go_wp2_with fail
      refine bodyPost_ret (res35t rfl _ _ r rfl rfl hs hnx) rfl ?_
      rw [HRS.out]
      exact ⟨_, rv2, rfl, HVU.out.put HRG.out HK10.out, HDN.out.put HRG.out HRl.out HK10.out⟩
     | none =>
      have hb1 : bd = false := by rw [HBD.out, hdue]; rfl
      subst hb1
      have HDU := Zi hdue
      clear hdue
      go_wp2_with fail
      have h8 := step_falls hc ts1 t
      rw [<- HY.out] at h8
      have h6 := HN.out.wt
      go_roundg (weight y.1 y.2.1)
      case measure => omega
      case rel =>
       have h5 := HN.out.run
       have h7 := HN.out.le
       have h9 := HN.out.max
       obtain ⟨m3, rfl⟩ : ∃ m3, m' = m3 + 1 := ⟨m' - 1, by omega⟩
       rw [runN_snoc, <- HY.out, HDU.out] at h5
       have hwf := step_wf HN.out.wf HN.out.wfT
       rw [<- HY.out] at hwf
       exact ⟨y.1, y.2.1, G2, m3, rfl, by omega, h5, hwf.1, hwf.2, HDN.out, HRG.out, hrx2, by omega, by rw [HY.out]; exact step_fl HN.out.fl⟩
theorem run_copyN {P : Program} (w : World) (dT sT ty elem : TypeId) (g dCap sz n : Nat) (a : Addr) (sCap : Nat) (cur : Array Value) (t : TypeId) (cs : List Value)
  (hu : P.underlying dT = some (.slice elem)) (hs : (P.info? elem).map (·.size) = some sz)
  (hg : w.heap[g]? = some (.cells cur t (0, 0))) (hn : cs.length = n * sz)
  (hsrc : ∀ j v, cs[j]? = some v -> w.cell? (a.add j) = some v) (hfit : cs.length <= cur.size) (h1 : ∀ v ∈ cs, v.oneCell' = true) :
  (Builtin.copy_ #[dT, sT] ty #[.slice (some ⟨g, 0, none⟩) n dCap, .slice (some a) n sCap]).run P w =
   .ok (goInt n) (w.setRow g (cs ++ cur.toList.drop cs.length).toArray) := by
 have hl := run_loadCells_list (P := P) w a cs hsrc
 have hst := run_storeCells_at (P := P) g 0 t cs 0 cur w hg (by simpa using hfit) h1
 cases hq : P.info? elem with
 | none => simp [hq] at hs
 | some i =>
  have hi : i.size = sz := by simpa [hq] using hs
  rw [hn] at hl
  simp only [Nat.zero_add, List.take_zero, List.nil_append] at hst
  simp [Builtin.copy_, run_underlying hu, Builtin.lenOf, Builtin.firstCells, sizeOf, typeInfo, hq, hi, hl, hst]
theorem run_copyL {w : World} {dT ty : TypeId} {sz by0 : Nat} {z : Array Value} (he : Elt dT ty sz by0 z) (oty : TypeId) {q cc n : Nat} {old rows : List (Array Value)} {A : Option Addr} {c : Nat} (hd : OwnL w ty sz (some ⟨q, 0, none⟩) cc old) (hol : old.length = n) (hcc : cc = n) (hr : OwnL w ty sz A c rows) (hrl : rows.length = n) (h1 : ∀ r, r ∈ rows -> r.all (·.oneCell') = true) (hq : q < w.heap.size) :
  ∃ w', (Builtin.copy_ #[dT, dT] oty #[.slice (some ⟨q, 0, none⟩) n cc, .slice A n c]).run Try.prog w = .ok (goInt n) w' /\ OwnL w' ty sz (some ⟨q, 0, none⟩) cc rows /\ Keep (fun b => b = q) w w' := by
 obtain ⟨hu, h0, hz, i0, z0, hi, hz0, hz1, hz2, hzl⟩ := he
 rcases hr.el with ⟨rfl, rfl, rfl⟩ | ⟨g, cur, rfl, hg, hcs, hx⟩
 ·have hn0 : n = 0 := by simpa using hrl.symm
  subst hn0
  refine ⟨w, run_copy_nil (P := Try.prog) w dT dT oty ty ⟨q, 0, none⟩ 0 cc hu (by rw [hi]; rfl), ?_, Keep.refl _ _⟩
  have : old = [] := List.length_eq_zero_iff.1 hol
  rw [this] at hd; exact hd
 ·have hfl := hr.owns
  have hlen : (rows.flatMap (·.toList)).length = n * sz := by rw [flatn_len hr.size, hrl]
  have hex : ∃ cd, w.heap[q]? = some (.cells cd ty (0, 0)) /\ cd.size = cc * sz := by
   rcases hd.el with ⟨e, -⟩ | ⟨g', cd, e, hg', hs', -⟩
   ·cases e
   ·cases e; exact ⟨cd, hg', hs'⟩
  obtain ⟨cd, hgd, hcd⟩ := hex
  have hcopy := run_copyN (P := Try.prog) w dT dT oty ty q cc sz n ⟨g, 0, none⟩ c cd ty (rows.flatMap (·.toList)) hu (by rw [hi]; simp [hz1]) hgd hlen (fun j u hj => by
   obtain ⟨-, ⟨e, -⟩ | ⟨g', cap, cur', e, -, hg', -, -, -, htk⟩⟩ := hfl
   ·cases e
   ·cases e
    rw [show (Addr.add ⟨g, 0, none⟩ j) = ⟨g, j, none⟩ by rw [Addr.add_mid]; simp, cell_of_row _ _ _ _ _ _ hg']
    rw [<- htk, List.getElem?_take] at hj
    split at hj
    ·simpa using hj
    ·cases hj) (by rw [hlen, hcd, hcc]; exact Nat.le_refl _) (fun u hu => by
   obtain ⟨r, hr2, hu2⟩ := List.mem_flatMap.1 hu
   exact one_list (h1 r hr2) u hu2)
  have hdrop : cd.toList.drop (rows.flatMap (·.toList)).length = [] := List.drop_of_length_le (by rw [hlen, Array.length_toList, hcd, hcc]; exact Nat.le_refl _)
  rw [hdrop, List.append_nil] at hcopy
  refine ⟨_, hcopy, ⟨hr.size, by omega, hd.max, .inr ⟨q, _, rfl, hr_new hgd, by simp [hlen, hcc], fun i r hri => ?_⟩⟩, Keep.rowOne w q _⟩
  have h7 := flatn_get hr.size i r hri
  apply Array.ext'
  rw [Array.toList_extract, List.extract_eq_take_drop, <- h7, show i * sz + sz - i * sz = sz by omega]
theorem wl_copyL {ops : Array Oper} {rest : List Oper} {o : Oper} {a : Act} {w : World} {Q : Exit -> Act -> World -> Prop} {dT ty : TypeId} {sz by0 : Nat} {z : Array Value} (he : Elt dT ty sz by0 z) (hg : o.guard = none) (s x : Operand) (ho : o.op = .call { callee := .builtin .copy, args := #[s, x], argTypes := #[dT, dT] }) {q cc n : Nat} {old rows : List (Array Value)} {A : Option Addr} {c : Nat}
  (hs : a.eval s = .slice (some ⟨q, 0, none⟩) n cc) (hx : a.eval x = .slice A n c) (hd : OwnL w ty sz (some ⟨q, 0, none⟩) cc old) (hol : old.length = n) (hcc : cc = n) (hr : OwnL w ty sz A c rows) (hrl : rows.length = n) (h1 : ∀ r, r ∈ rows -> r.all (·.oneCell') = true) (hq : q < w.heap.size)
  (hK : ∀ w', OwnL w' ty sz (some ⟨q, 0, none⟩) cc rows -> Keep (fun b => b = q) w w' -> wpList Try.prog ops Q rest (a.put o.dst (goInt n)) w') : wpList Try.prog ops Q (o :: rest) a w := by
 obtain ⟨w', hrun, h3, h4⟩ := run_copyL he o.type hd hol hcc hr hrl h1 hq
 refine wl_w hg ?_ (hK w' h3 h4)
 unfold execOp
 simp only [ho, resolve, invoke, builtin, Sem.run_bind, Sem.run_pure, Result.andThen_ok, List.map_toArray, List.map_cons, List.map_nil, hs, hx, hrun]
def FinO (w w' : World) (G : Gh) (q : Nat) (o : Ob) (row : Array Value) : Prop := ∃ tr fA fc frows, row = cell8 tr o.state o.count o.weak fA o.fields.length fc /\ TyAt w' (Lw w (Imm G)) o.t tr /\ OwnL w' 35 9 fA fc frows /\ frows.length = o.fields.length /\ (∀ g, fA = some ⟨g, 0, none⟩ -> q < g) /\ ∀ (j : Nat) (v : Va) (r : Array Value), o.fields[j]? = some v -> frows[j]? = some r -> VAt w' (Lw w (Imm G)) v r
theorem FinO.keep {w w1 w2 : World} {G : Gh} {q : Nat} {o : Ob} {row : Array Value} (h : FinO w w1 G q o row) (hq : w.heap.size <= q) (hk : Keep (fun b => b = q) w1 w2) : FinO w w2 G q o row := by
 obtain ⟨tr, fA, fc, frows, h1, h2, h3, h4, h5, h6⟩ := h
 have hC : ∀ b, Lw w (Imm G) b -> ¬ b = q := fun b hb e => by have := hb.2; omega
 exact ⟨tr, fA, fc, frows, h1, h2.keep hk hC, h3.keep hk (fun g e hg => by have := h5 g e; omega), h4, h5, fun j v r e1 e2 => (h6 j v r e1 e2).keep hk hC⟩
theorem FinO.old {w w1 w2 : World} {G : Gh} {q : Nat} {o : Ob} {row : Array Value} (h : FinO w w1 G q o row) (hb : Below w1.heap.size w1 w2) : FinO w w2 G q o row := by
 obtain ⟨tr, fA, fc, frows, h1, h2, h3, h4, h5, h6⟩ := h
 exact ⟨tr, fA, fc, frows, h1, h2.old hb, h3.old hb, h4, h5, fun j v r e1 e2 => (h6 j v r e1 e2).old hb⟩
def ObsOut (w : World) (G : Gh) (obs : List Ob) (e : Ending) (w' : World) : Prop := ∃ q c rows, e = .returned (.slice (some ⟨q, 0, none⟩) obs.length c) /\ OwnL w' 41 8 (some ⟨q, 0, none⟩) c rows /\ rows.length = obs.length /\ w.heap.size <= q /\ (∀ (i : Nat) (o : Ob) (row : Array Value), obs[i]? = some o -> rows[i]? = some row -> FinO w w' G q o row) /\ Below w.heap.size w w'
theorem Objects_any {G : Gh} {k p : Nat} {h : Hp} {w : World} (hh : HeapAt w G k p h) (hno : h.obs.length <= 1000000) (hfl : ∀ o, o ∈ h.obs -> o.fields.length <= 2000000) : Calls Try.prog 13 #[.pointer (some ⟨p, 0, none⟩)] w (ObsOut w G h.obs) := by
 obtain ⟨oA, oc, bA, bc, m, lA, lc, hh⟩ := hh
 obtain ⟨rows0, ho0, hl0, hr0, hv0⟩ := hh.obs
 have hone : ∀ r, r ∈ rows0 -> r.all (·.oneCell') = true := fun r hr => by
  obtain ⟨j, hj⟩ := List.mem_iff_getElem?.1 hr
  have hjl := (List.getElem?_eq_some_iff.1 hj).1
  obtain ⟨tr, fA, fc, hx⟩ := hv0 j _ r (List.getElem?_eq_getElem (by omega)) hj
  obtain ⟨tk, ts, tn, tA, tl, tc, tt, -, e2, -⟩ := hx.ty.parts
  rw [hx.eq, e2]
  simp [cell8, cell4, Value.oneCell']
 have HO0 := Zi ho0
 have HL0 := Zi hl0
 have HV0 := Zi hv0
 have HON := Zi hone
 have HFL := Zi hfl
 have hp := hh.blk
 obtain ⟨n, hn⟩ : ∃ n, n = h.obs.length := ⟨_, rfl⟩
 rw [<- hn] at hp hno
 have HNN := Zi hn
 have hb := Below.refl w.heap.size w
 clear hh ho0 hl0 hr0 hv0 hone hfl hn
 go_enter Try.func13, Try.ntmps13
 go_upto_region 0 with fail
 apply Zl
 refine Zm ?_
 go_upto_region 1 with fail
 apply Zl
 iterate 2 refine Zm ?_
 go_upto_region 3 with fail
 apply Zl
 iterate 3 refine Zm ?_
 refine Zo rfl (h0 hp) ?_
 refine Zm ?_
 refine wl_makeL elt38 rfl _ _ rfl (n := n) (c := n) rfl rfl (Nat.le_refl _) (by omega) (by unfold maxLen; omega) ?_
 intro W q hbn hlq hlt hown
 simp only [Zq]
 have HOW := Zi hown
 replace hp := below_look hbn hp
 have hb1 := hb.trans (hbn.mono hb.size)
 clear hbn hown hb
 refine Zm ?_
 go_upto_region 4 with fail
 apply Zl
 iterate 4 refine Zm ?_
 refine Zo rfl (h0 hp) ?_
 refine wl_copyL elt38 rfl _ _ rfl rfl rfl HOW.out (by simp) rfl (HO0.out.old hb1) (by rw [HL0.out, HNN.out]) HON.out hlt ?_
 intro W2 hown2 hk2
 try simp only [Zq]
 have HO2 := Zi hown2
 have hb := Below.keep hb1 hk2 (fun b e => by omega)
 have hq2 : q < W2.heap.size := by have := hk2.size; omega
 have HB2 := Zi hb
 have H0 : Hid (∀ (i : Nat) (o : Ob) (row : Array Value), h.obs[i]? = some o -> rows0[i]? = some row -> (i < 0 -> FinO w W2 G q o row) /\ (0 <= i -> rows0[i]? = some row)) := Zi (fun i o row h1 h2 => ⟨fun h => absurd h (by omega), fun _ => h2⟩)
 have HRL : Hid (rows0.length = n) := Zi (by rw [HL0.out, HNN.out])
 clear HOW hp hb1 hown2 hk2 hlt hb
 go_upto_region 5 with fail
 apply Zl
 iterate 3 refine Zm ?_
 go_wp2_with fail
 go_loopw [21] (fun i wr => ∃ (j : Nat) (rows : List (Array Value)), j <= n /\ i = .int .i64 (j : Int) /\ Hid (OwnL wr 41 8 (some ⟨q, 0, none⟩) n rows) /\ Hid (rows.length = n) /\ Hid (∀ (i : Nat) (o : Ob) (row : Array Value), h.obs[i]? = some o -> rows[i]? = some row -> (i < j -> FinO w wr G q o row) /\ (j <= i -> rows0[i]? = some row)) /\ Hid (Below w.heap.size w wr) /\ q < wr.heap.size) (fun i _ => n - (intOf i).toNat)
 case atStart => exact ⟨0, rows0, by omega, rfl, HO2, HRL, H0, HB2, hq2⟩
 case round =>
  clear HO2 HRL H0 HB2 hq2
  obtain ⟨j, rows, hj, rfl, HO, HRL, HF, HB, hq⟩ := hrel
  go_upto_region 6 with fail
  by_cases hlt : j < n
  ·have hltI : (j : Int) < (n : Int) := by omega
   have hojl : j < h.obs.length := by rw [<- HNN.out]; exact hlt
   have ho := List.getElem?_eq_getElem hojl
   obtain ⟨o, hoe⟩ : ∃ o, o = h.obs[j] := ⟨_, rfl⟩
   rw [<- hoe] at ho
   have hr1 : rows[j]? = some (rows[j]'(by rw [HRL.out]; exact hlt)) := List.getElem?_eq_getElem _
   obtain ⟨row, hrow⟩ : ∃ row, row = rows[j]'(by rw [HRL.out]; exact hlt) := ⟨_, rfl⟩
   rw [<- hrow] at hr1
   have hr0 := (HF.out j o row ho hr1).2 (Nat.le_refl _)
   obtain ⟨tr, fA, fc, hx⟩ := HV0.out j o row ho hr0
   obtain ⟨frows, hfo, hfl, hfr, hfv⟩ := hx.fld
   have h8 := cell8_at hx.size o.state o.count o.weak fA o.fields.length fc
   rw [<- hx.eq] at h8
   have HLD := Zi (one_of Go.Proofs.Ytpamocglecangaa.u33 rfl (HO.out.cell hr1 h8.2.2.2.2))
   have hcc := CloneR_any (hfo.old HB.out) (fun r hr => by
    obtain ⟨i, hi⟩ := List.mem_iff_getElem?.1 hr
    have hil := (List.getElem?_eq_some_iff.1 hi).1
    exact (hfv i _ r (List.getElem?_eq_getElem (by omega)) hi).one) (by have := HFL.out o (List.mem_of_getElem? ho); omega)
   rw [hfl] at hcc
   have HC := Zi hcc
   have HOO := Zi ho
   have HR1 := Zi hr1
   have HXX := Zi hx
   have HFV := Zi hfv
   have HFLN := Zi hfl
   clear hoe hrow hr0 hx hfo hfl hfr hfv h8 hcc ho hr1 hojl
   apply Zl
   refine Zm ?_
   go_upto_region 7 with fail
   apply Zl
   iterate 2 refine Zm ?_
   go_upto_region 8 with fail
   apply Zl
   iterate 6 refine Zm ?_
   refine Zo rfl (HLD.out) ?_
   refine Zn HC.out ?_; rintro e w7 ⟨A7, c7, rfl, hown7, hA7, hb7⟩; refine ⟨_, rfl, ?_⟩; simp only [Zq]
   rw [HFLN.out]
   try simp only [Zq]
   iterate 2 refine Zm ?_
   have hown8 := HO.out.old hb7
   obtain ⟨hs1, hs2⟩ := hown8.lies (j := 7) HR1.out (by omega)
   have hown9 := hown8.set (j := 7) HR1.out (by omega) (.slice A7 o.fields.length c7)
   have hk9 := Keep.cellOne w7 q (j * 8 + 7) (.slice A7 o.fields.length c7)
   have hA7q : ∀ g, A7 = some ⟨g, 0, none⟩ -> q < g := fun g e => by have := hA7 g e; omega
   have hwq : w.heap.size <= q := by have := HB.out.size; omega
   have HF9 : Hid (∀ (i : Nat) (o' : Ob) (row' : Array Value), h.obs[i]? = some o' -> (rows.set j (row.setIfInBounds 7 (.slice A7 o.fields.length c7)))[i]? = some row' -> (i < j + 1 -> FinO w (w7.setCell ⟨q, j * 8 + 7, none⟩ (.slice A7 o.fields.length c7)) G q o' row') /\ (j + 1 <= i -> rows0[i]? = some row')) := Zi (fun i o' row' e1 e2 => by
    by_cases e : j = i
    ·subst e
     rw [HOO.out] at e1
     cases e1
     rw [List.getElem?_set_self (by rw [HRL.out]; exact hlt)] at e2
     cases e2
     refine ⟨fun _ => ?_, fun h => absurd h (by omega)⟩
     have hb77 := HB.out.trans (hb7.mono HB.out.size)
     have hC : ∀ b, Lw w (Imm G) b -> ¬ b = q := fun b hb e => by have := hb.2; omega
     exact ⟨tr, A7, c7, frows, by rw [HXX.out.eq]; exact (cell8_set HXX.out.size _ _ _ _ _ _ 0 _ _ _).2.2.2, ((HXX.out.ty.low : TyAt w (Lw w (Imm G)) o.t tr).old hb77).keep hk9 hC, hown7.keep hk9 (fun g e hg => by have := hA7q g e; omega), HFLN.out, hA7q, fun j v r e1 e2 => (((HFV.out j v r e1 e2).low : VAt w (Lw w (Imm G)) v r).old hb77).keep hk9 hC⟩
    ·rw [List.getElem?_set_ne e] at e2
     obtain ⟨f1, f2⟩ := HF.out i o' row' e1 e2
     exact ⟨fun h => ((f1 (by omega)).old hb7).keep hwq hk9, fun h => f2 (by omega)⟩)
   have HO9 := Zi hown9
   have HB9 := Zi (Below.keep (HB.out.trans (hb7.mono HB.out.size)) hk9 (fun b e => by omega))
   have HRL9 : Hid ((rows.set j (row.setIfInBounds 7 (.slice A7 o.fields.length c7))).length = n) := Zi (by rw [List.length_set]; exact HRL.out)
   have hq9 : q < (w7.setCell ⟨q, j * 8 + 7, none⟩ (.slice A7 o.fields.length c7)).heap.size := by have := hb7.size; have := hk9.size; omega
   clear hown8 hown9 hk9 hA7q hown7 hA7 HF HO HB HC HLD HXX HFV HOO HR1 hb7
   refine wl_storeC rfl 33 _ _ rfl q (j * 8 + 7) (.slice A7 o.fields.length c7) rfl rfl info33 rfl hs1 hs2 ?_
   rw [put_noneA]
   clear hs1 hs2
   obtain ⟨W9, hW⟩ : ∃ W, W = w7.setCell ⟨q, j * 8 + 7, none⟩ (.slice A7 o.fields.length c7) := ⟨_, rfl⟩
   rw [<- hW] at HF9 HO9 HB9 hq9 ⊢
   clear hW
   go_wp2_with fail
   go_roundw
   case rel => exact ⟨j + 1, _, by omega, by go_num, HO9, HRL9, HF9, HB9, hq9⟩
   case measure => simp [intOf]; omega
  ·have hltI : ¬ (j : Int) < (n : Int) := by omega
   apply Zl
   refine Zm ?_
   go_upto_region 10 with fail
   apply Zl
   iterate 2 refine Zm ?_
   go_wp2_with fail
   go_ret
   refine ⟨q, n, rows, by rw [<- HNN.out]; rfl, HO.out, by rw [HRL.out, HNN.out], by have := HB.out.size; omega, fun i o row e1 e2 => (HF.out i o row e1 e2).1 ?_, HB.out⟩
   have := (List.getElem?_eq_some_iff.1 e1).1
   rw [<- HNN.out] at this
   omega
end Go.Proofs.Ytpamocglecangaa
