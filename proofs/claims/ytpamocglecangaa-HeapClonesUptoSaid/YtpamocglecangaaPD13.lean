/- A step of the document's Next: a weak reference, a buffer. A step of the document's Next: a struct, what has parts, and all else. What holds of all values put in, holds of all values in a heap. Plainly. A step of the document's Next, whatever the task is; what fits. The document's Next. -/
import Derived.Test.YtpamocglecangaaPD12
import Derived.Test.YtpamocglecangaaPD9
import Derived.Test.YtpamocglecangaaPD10
set_option maxHeartbeats 16000000
set_option maxRecDepth 100000
namespace Go.Proofs.Ytpamocglecangaa
open Go.RowKit Go.Proofs.Ytpamocglecangaa.Nm
set_option linter.unusedSimpArgs false
def RowsOf (w : World) (D : Nat -> Prop) (l : List Va) (A : Option Addr) (n : Nat) : Prop := ∀ i, i < n -> ∃ b off v row, A = some ⟨b, off, none⟩ /\ l[i]? = some v /\ VAt w D v row /\ ∀ w', Below w.heap.size w w' -> RowAt w' 35 ⟨b, off + i * 9, none⟩ row
theorem VsAt.rowsOf {w : World} {D : Nat -> Prop} {l : List Va} {A : Option Addr} {n c : Nat} (h : VsAt w D l A n c) : RowsOf w D l A n := fun i hi => by
 obtain ⟨b, off, v, row, e1, -, e3, e4, e5⟩ := h.getB hi
 exact ⟨b, off, v, row, e1, e3, e4, e5⟩
theorem ListV.rowsOf {w : World} {G : Gh} {r : Nat × Role} {l : List Va} {A : Option Addr} {c : Nat} (h : ListV w G r l A c) : RowsOf w (Imm G) l A l.length := fun i hi => by
 obtain ⟨fb, u, rowu, e1, -, e3, e4, e5⟩ := h.at hi
 exact ⟨fb, 0, u, rowu, e1, e3, e4, fun w' h9 => by rw [Nat.zero_add]; exact e5 w' h9⟩
theorem TkR.mono {w w' : World} {D D' : Nat -> Prop} {l : List Va} {rows : List (Array Value)} (h : TkR w D l rows) (hD : ∀ b, D b -> D' b) (hw : ∀ b, D b -> b < w.heap.size -> w'.heap[b]? = w.heap[b]?) : TkR w' D' l rows := ⟨h.1, fun j v row e1 e2 => by
 obtain ⟨rv, e3, e4⟩ := h.2 j v row e1 e2
 exact ⟨rv, e3.mono hD hw, e4⟩⟩
theorem later_len (l : List Va) : (laterV l).length = l.length := by simp [laterV]
theorem later_r {w : World} {D : Nat -> Prop} {l : List Va} {A : Option Addr} {n c : Nat} (hl : l.length = n) (hv : RowsOf w D l A n) (hn : n <= 100000000) : Calls Try.prog 108 #[.slice A n c] w fun e w' => ∃ A' c' rows, e = .returned (.slice A' n c') /\ OwnL w' 125 12 A' c' rows /\ (∀ g, A' = some ⟨g, 0, none⟩ -> w.heap.size <= g) /\ TkR w' (fun b => D b /\ b < w.heap.size) l.reverse rows /\ Below w.heap.size w w' := by
 have HT := Zi hv
 have HL := Zi hl
 have hb := Below.refl w.heap.size w
 have hw0 : IntKind.i64.wrap ((n : Int) - 1) = (n : Int) - 1 := IntWalk.i64_in _ (by omega)
 clear hv hl
 go_enter Try.func108, Try.ntmps108
 go_upto_region 0 with fail
 apply Zl
 refine Zm ?_
 go_upto_region 1 with fail
 apply Zl
 refine Zm ?_
 go_upto_region 2 with fail
 apply Zl
 iterate 4 refine Zm ?_
 obtain ⟨z0, hz0⟩ : ∃ z : Int, z = (n : Int) - 1 := ⟨_, rfl⟩
 rw [<- hz0]
 have HZ0 := Zi hz0
 clear hz0 hw0
 go_wp2_with fail
 go_loopw [3, 4] (fun s i wr => ∃ (m : Nat) (z : Int) (k : Nat) (A9 : Option Addr) (c9 : Nat) (rows : List (Array Value)), m <= n /\ Hid (z = (m : Int) - 1) /\ Hid (k = n - m) /\ s = .slice A9 k c9 /\ i = .int .i64 z /\ Hid (OwnL wr 125 12 A9 c9 rows) /\ Hid (∀ g, A9 = some ⟨g, 0, none⟩ -> w.heap.size <= g) /\ Hid (TkR wr (fun b => D b /\ b < w.heap.size) (l.drop m).reverse rows) /\ Below w.heap.size w wr) (fun _ i _ => (intOf i + 1).toNat)
 case atStart => exact ⟨n, z0, 0, none, 0, [], Nat.le_refl _, HZ0, Zi (by omega), rfl, rfl, Zi (OwnL.nil _ _ _), Zi (fun g e => by cases e), Zi ⟨by rw [List.drop_of_length_le (by rw [HL.out]; exact Nat.le_refl _)]; rfl, fun j v row _ h => by simp at h⟩, hb⟩
 case round =>
  clear hb HZ0
  obtain ⟨m, z, k, A9, c9, rows, hm, HZ, HK, rfl, rfl, HO, HA, HR, hb⟩ := hrel
  go_upto_region 3 with fail
  by_cases hm0 : m = 0
  ·have hzI : ¬ z ≥ 0 := by have := HZ.out; omega
   have HE : Hid (k = n) := Zi (by have := HK.out; omega)
   have HR2 : Hid (TkR wr (fun b => D b /\ b < w.heap.size) l.reverse rows) := Zi (by have := HR.out; rwa [hm0, List.drop_zero] at this)
   clear hm0 HR
   apply Zl
   iterate 2 refine Zm ?_
   go_upto_region 6 with fail
   apply Zl
   iterate 2 refine Zm ?_
   go_wp2_with fail
   go_ret
   exact ⟨A9, c9, by rw [<- HE.out]; rfl, rows, HO.out, HA.out, HR2.out, hb⟩
  ·obtain ⟨j, hj⟩ : ∃ j, m = j + 1 := ⟨m - 1, by omega⟩
   have hzj : z = (j : Int) := by have := HZ.out; omega
   subst hzj
   have hzI : (j : Int) ≥ 0 := by omega
   have hjn : j < n := by omega
   have hjnI : (j : Int) < (n : Int) := by omega
   obtain ⟨b2, off2, u, rowu, rfl, hu, hua0, hrow0⟩ := HT.out j hjn
   have hua : VAt wr (fun b => D b /\ b < w.heap.size) u rowu := hua0.low.old hb
   have hrow : ∀ w', Below wr.heap.size wr w' -> RowAt w' 35 ⟨b2, off2 + j * 9, none⟩ rowu := fun w' h9 => hrow0 w' (hb.trans (h9.mono hb.size))
   clear hua0 hrow0
   have hul := (List.getElem?_eq_some_iff.1 hu).1
   have HRW := Zi (hrow wr (Below.refl _ _))
   have HUA := Zi hua
   have hus := hua.size
   have hu1 := hua.one
   have HDR : Hid ((l.drop m).reverse ++ [u] = (l.drop j).reverse) := Zi (by
    rw [hj, <- List.reverse_cons]
    congr 1
    rw [List.drop_eq_getElem_cons hul]
    congr 1
    rw [List.getElem?_eq_getElem hul] at hu
    exact (Option.some.inj hu).symm)
   have HRL : Hid (rows.length = k) := Zi (by rw [HR.out.1, List.length_reverse, List.length_drop, HL.out]; exact HK.out.symm)
   have hkn : k <= 100000000 := by have := HK.out; omega
   have HK2 : Hid (k + 1 = n - j) := Zi (by have := HK.out; omega)
   have hwj : IntKind.i64.wrap ((j : Int) - 1) = (j : Int) - 1 := IntWalk.i64_in _ (by omega)
   clear hua hrow hul hu hm0 HZ HK
   apply Zl
   iterate 2 refine Zm ?_
   go_upto_region 5 with fail
   apply Zl
   iterate 4 refine Zm ?_
   refine Zw rfl (HRW.out) ?_
   refine wl_w rfl (ex_build125 _ rfl hus rfl) ?_
   simp only [Zq]
   refine wl_newv (fun q => .slice (some ⟨q, 0, none⟩) 1 1) rfl (ex_bs102 _ rfl rfl (drow_size hus)) ?_
   intro W8 q8 hbn hlq8 hq8
   simp only [Zq]
   have HO8 := Zi (HO.out.old hbn)
   have hb8 := hb.trans (hbn.mono hb.size)
   refine wl_pushL elt102 rfl _ _ rfl (show _ = Value.slice A9 rows.length c9 by rw [HRL.out]; rfl) rfl HO8.out hq8 (drow_size hus) (drow_one hu1) (by have := HRL.out; omega) (by have := HRL.out; unfold maxLen; omega) ?_
   rw [HRL.out]
   intro A' c' W9 hown hk9 hA9
   have hb9 := Below.keep hb8 hk9 (fun b e => HA.out b e)
   have HA' : Hid (∀ g, A' = some ⟨g, 0, none⟩ -> w.heap.size <= g) := Zi (fun g e => by
    rcases hA9 with e2 | ⟨g', e2, e3⟩
    ·exact HA.out g (by rw [<- e2]; exact e)
    ·rw [e] at e2; cases e2; have := hb8.size; omega)
   have mv : ∀ {v : Va} {rv : Array Value}, VAt wr (fun b => D b /\ b < w.heap.size) v rv -> VAt W9 (fun b => D b /\ b < w.heap.size) v rv := fun hv => hv.mono (fun _ h => h) fun b h9 hl => (hk9.block b (by have := hbn.size; omega) fun e2 => by have := HA.out b e2; have := h9.2; omega).trans (hbn.block b hl)
   have HR9 : Hid (TkR W9 (fun b => D b /\ b < w.heap.size) (l.drop j).reverse (rows ++ [drow rowu])) := Zi (by
    rw [<- HDR.out]
    refine ⟨by rw [List.length_append, List.length_append, HR.out.1]; rfl, fun i v rw0 h1 h2 => ?_⟩
    rcases Nat.lt_trichotomy i rows.length with e | e | e
    ·rw [List.getElem?_append_left e] at h2
     rw [List.getElem?_append_left (by rw [<- HR.out.1]; exact e)] at h1
     obtain ⟨rv, e1, e2⟩ := HR.out.2 i v rw0 h1 h2
     exact ⟨rv, mv e1, e2⟩
    ·have h3 := h1
     rw [e] at h2
     rw [e, HR.out.1] at h3
     rw [List.getElem?_concat_length] at h2 h3
     cases h2; cases h3
     exact ⟨rowu, mv HUA.out, rfl⟩
    ·rw [List.getElem?_eq_none (by simp; omega)] at h2; cases h2)
   have HO9 := Zi hown
   clear hown hk9 hA9 HO HA hb hb8 hq8 HO8 hbn mv HR HUA HRW
   simp only [Zq]
   refine Zm ?_
   go_wp2_with fail
   go_roundw
   case rel => exact ⟨j, (j : Int) - 1, k + 1, A', c', rows ++ [drow rowu], by omega, Zi rfl, HK2, rfl, rfl, HO9, HA', HR9, hb9⟩
   case measure => simp [intOf]
theorem DStep_weak {G : Gh} {k p nr : Nat} {h : Hp} {w : World} (hh : DHeapAt w G k p h nr) (hf : Fr w G) {v : Va} {rv : Array Value} (hv : VAt w (Imm G) v rv) (ho : ofV h.obs.length h.bus.length v = true) (hk : v.kind = 11) :
  Calls Try.prog 89 #[.pointer (some ⟨p, 0, none⟩), .agg (drow rv)] w (DStep w G k p nr (stepV' h [] (.val v))) := by
 have HO := Zi ho
 have HK := Zi hk
 clear ho hk
 have HV := Zi hv
 have hvs := hv.size
 have hv1 := hv.one
 have hds : (drow rv).size = 12 := drow_size hvs
 clear hv
 have HX := Zi hh
 have HF := Zi hf
 have hzs : zrow.size = 9 := rfl
 have zone : zrow.all (·.oneCell') = true := (zero_va w (Imm G)).one
 have hb := Below.refl w.heap.size w
 clear hh hf
 go_enter Try.func89, Try.ntmps89
 go_upto_region 0 with fail
 apply Zl
 refine wl_newv (fun q => .pointer (some ⟨q, 0, none⟩)) rfl (ex_box125 _ rfl rfl) ?_
 intro W q hbn hlq hq
 simp only [Zq]
 replace hb := hb.trans hbn
 clear hbn
 iterate 2 refine Zm ?_
 have lthqr := heap_lt hq; (with_reducible refine wl_allV ?_); intro W2 r hbn hlr hr; replace hq := below_look hbn hq; replace hb := hb.trans (hbn.mono hb.size); clear hbn; simp only [Zq]
 have hrl : w.heap.size <= r := by omega
 have hql := heap_lt hq
 have HRl := Zi hrl
 have hqG : G q = none := HF.out q (by omega)
 have HQ : Hid (¬ Mine (mark G k r) k q) := Zi (by rintro ⟨x, e, -⟩; unfold mark at e; rw [if_neg (by omega), hqG] at e; cases e)
 have HDn := Zi (DDone.marked HX.out HF.out hb hrl (heap_lt hr))
 have HM := Zi (mark_same G k r)
 have HNM := Zi (mark_not G k r)
 have hvv := HDn.out.va (HV.out)
 clear HV
 have HV := Zi hvv
 clear hvv HX HF hb hrl hql hqG
 go_upto_region 1 with fail
 apply Zl
 refine Zm ?_
 refine Zo rfl (dt0 hq) ?_
 have hzz := Below.refl W2.heap.size W2
 go_upto_region 8 with fail
 apply Zl
 refine Zm ?_
 refine Zw rfl (dt1 hq hvs) ?_
 have lthqq8 := heap_lt hq; have lthrq8 := heap_lt hr; (with_reducible refine wl_allV ?_); intro W5 q8 hbn hlq8 hq8; replace hq := below_look hbn hq; replace hr := below_look hbn hr; replace hzz := hzz.trans (hbn.mono hzz.size); clear hbn; simp only [Zq]
 (with_reducible refine wl_putV hvs hv1 rfl rfl rfl hq8 ?_); rw [put_noneA]; intro W6 hbx hsz hkx hnx; replace hzz := hbx _ _ (by omega) hzz
 have hr9 := (hkx r (by omega)).trans hr
 have hq9 := (hkx q (by omega)).trans hq
 clear hq8 hr hq hbx hsz hkx
 have hq8 := hnx
 have hr := hr9
 have hq := hq9
 clear hnx hr9 hq9
 have HQ8 : Hid (mark G k r q8 = none) := Zi (HDn.out.fr q8 (by omega))
 replace HDn := Zi (HDn.out.quiet hzz)
 replace HV := Zi (HV.out.old hzz)
 obtain ⟨trv, A2v, l2v, c2v, A3v, l3v, c3v, hrv⟩ := HV.out.row
 have HRV := Zi hrv
 have hvl := hrv.vs.len
 subst hvl
 clear hrv
 go_upto_region 9 with fail
 apply Zl
 refine Zm ?_
 refine Zo rfl (vkK hq8 HRV HK) ?_
 clear hq HQ HNM hds hzz
 go_upto_region 10 with fail
 apply Zl
 iterate 2 refine Zm ?_
 have h9 : 0 <= v.num /\ v.num < (h.obs.length : Int) := by
  have := HO.out
  rw [ofV_eq, if_pos (by have := HK.out; omega)] at this
  exact of_decide_eq_true this
 obtain ⟨n, hn⟩ : ∃ n : Nat, v.num = (n : Int) := ⟨v.num.toNat, by omega⟩
 have hnl : n < h.obs.length := by omega
 have hnlI : (n : Int) < (h.obs.length : Int) := by omega
 have ho := List.getElem?_eq_getElem hnl
 obtain ⟨o, hoe⟩ : ∃ o, o = h.obs[n] := ⟨_, rfl⟩
 rw [<- hoe] at ho
 obtain ⟨dA, dc, oA, oc, bA, bc, lA, lc, rA, rc, hh⟩ := HDn.out.heap
 obtain ⟨g, tr0, fA, fc, rfl, hgr, hL, -, -, -⟩ := hh.obj ho
 have HL := Zi hL
 have HN := Zi hn
 have hp := hh.blk
 have hst := hh.old ((Below.refl W6.heap.size W6).drew)
 obtain ⟨hs1, hs2, -, hset⟩ := hst.stO ho 6 (by omega)
 have hst2 := hset (w64 (o.weak + -1)) (addW (-1) o) rfl rfl (by simp [addW])
 have hrg : r ≠ g := fun e => by have h1 := HM.out; have h2 := hgr; rw [<- e, h1] at h2; cases h2
 have HST : Hid (stepV' h [] (.val v) = ({ h with obs := h.obs.set n (addW (-1) o) }, [], none)) := Zi (by
  have e7 : ¬ (11 : Int) = 7 := by omega
  simp only [stepV', HK.out, if_neg e7, HN.out, if_true, Int.toNat_natCast, modify_at _ ho])
 have hd1 := (HDn.out.quiet ((Below.refl W6.heap.size W6).drew)).step ⟨.arr, hgr, by simp⟩ (h' := { h with obs := h.obs.set n (addW (-1) o) }) (Keep.cellOne _ g (n * 8 + 6) (.int .i64 (w64 (o.weak + -1)))) ⟨_, _, _, _, _, _, _, _, _, _, hst2⟩
 have hr1 := (heap_setCell_other W6.drew ⟨g, n * 8 + 6, none⟩ r (.int .i64 (w64 (o.weak + -1))) hrg).trans hr
 have hbz : Below W6.heap.size W6 W6.drew := (Below.refl _ _).drew
 clear hL hgr hoe ho hh h9 hn HV hst hset hst2 hrg HDn
 have HDn := Zi hd1
 clear hd1
 go_upto_region 19 with fail
 apply Zl
 iterate 2 refine Zm ?_
 go_upto_region 20 with fail
 refine wp_region_Z (S := Below W6.heap.size W6) 18 mixed hbz (fun hS => ?_)
 refine zm 0 hS ?_; try simp only [Zq]
 refine zm 1 hS ?_; try simp only [Zq]
 refine zm 2 hS ?_; try simp only [Zq]
 refine zv4 (i := 3) rfl (by kernel_rfl) Zg hS rfl (fun w' hw' => ex_one rfl (dh1 (below_look hw' hp))) ?_; try simp only [Zq]
 refine zm 4 hS ?_; try simp only [Zq]
 refine zv4 (i := 5) rfl (by kernel_rfl) Zg hS rfl (fun w' hw' => ex_one rfl (vnN (below_look hw' hq8) HRV HN)) ?_; try simp only [Zq]
 refine zm 6 hS ?_; try simp only [Zq]
 refine zm 7 hS ?_; try simp only [Zq]
 refine zm 8 hS ?_; try simp only [Zq]
 refine zv4 (i := 9) rfl (by kernel_rfl) Zg hS rfl (fun w' hw' => ex_one rfl (dh1 (below_look hw' hp))) ?_; try simp only [Zq]
 refine zm 10 hS ?_; try simp only [Zq]
 refine zv4 (i := 11) rfl (by kernel_rfl) Zg hS rfl (fun w' hw' => ex_one rfl (vnN (below_look hw' hq8) HRV HN)) ?_; try simp only [Zq]
 refine zm 12 hS ?_; try simp only [Zq]
 refine zm 13 hS ?_; try simp only [Zq]
 refine zv4 (i := 14) rfl (by kernel_rfl) Zg hS rfl (fun w' hw' => ex_one rfl (HL.out w' hw').k) ?_; try simp only [Zq]
 refine zm 15 hS ?_; try simp only [Zq]
 refine zn 16 hS ?_; try simp only [Zq]
 refine zn 17 hS ?_; try simp only [Zq]
 refine za_storeC (i := 18) (by kernel_rfl) rfl rfl 3 _ _ rfl g (n * 8 + 6) (.int .i64 (w64 (o.weak + -1))) rfl rfl info3 rfl hs1 hs2 (fun h => absurd rfl h) ?_
 refine za_done (by kernel_rfl) ?_ _
 clear hs1 hs2 hS hr hq8 hp
 have hr := hr1
 clear hr1
 obtain ⟨W12, hW⟩ : ∃ W, W = W6.drew.setCell ⟨g, n * 8 + 6, none⟩ (.int .i64 (w64 (o.weak + -1))) := ⟨_, rfl⟩
 rw [<- hW] at HDn hr ⊢
 clear hW
 go_upto_region 37 with fail
 apply Zl
 refine wl_w rfl (build35 _ _ rfl _) ?_
 simp only [Zq]
 iterate 2 refine Zm ?_
 (with_reducible refine wl_putV rfl zone hzs rfl rfl hr ?_); rw [put_noneA]; intro W10 hbx hsz hkx hnx
 replace HDn := Zi (HDn.out.put HM.out HRl.out (Keep.of_put hbx hsz hkx))
 clear hr hbx hsz hkx
 have hr := hnx
 clear hnx
 go_wp2_with fail
 refine bodyPost_ret (resD rfl _ _ r rfl rfl rfl hzs hr) rfl ?_
 rw [HST.out]
 exact ⟨none, 0, _, zrow, nr, rfl, DTks.nothing _ _, HDn.out, Nat.le_succ _, hzs, zone, fun u e => by cases e⟩
theorem DStep_buf {G : Gh} {k p nr : Nat} {h : Hp} {w : World} (hh : DHeapAt w G k p h nr) (hf : Fr w G) {v : Va} {rv : Array Value} (hv : VAt w (Imm G) v rv) (ho : ofV h.obs.length h.bus.length v = true) (hk : v.kind = 8) (hel : ∀ b, b ∈ h.bus -> b.elems.length <= 1000000) :
  Calls Try.prog 89 #[.pointer (some ⟨p, 0, none⟩), .agg (drow rv)] w (DStep w G k p nr (stepV' h [] (.val v))) := by
 have HO := Zi ho
 have HK := Zi hk
 have HEL := Zi hel
 clear ho hk hel
 have HV := Zi hv
 have hvs := hv.size
 have hv1 := hv.one
 have hds : (drow rv).size = 12 := drow_size hvs
 clear hv
 have HX := Zi hh
 have HF := Zi hf
 have hzs : zrow.size = 9 := rfl
 have zone : zrow.all (·.oneCell') = true := (zero_va w (Imm G)).one
 have hb := Below.refl w.heap.size w
 clear hh hf
 go_enter Try.func89, Try.ntmps89
 go_upto_region 0 with fail
 apply Zl
 refine wl_newv (fun q => .pointer (some ⟨q, 0, none⟩)) rfl (ex_box125 _ rfl rfl) ?_
 intro W q hbn hlq hq
 simp only [Zq]
 replace hb := hb.trans hbn
 clear hbn
 iterate 2 refine Zm ?_
 have lthqr := heap_lt hq; (with_reducible refine wl_allV ?_); intro W2 r hbn hlr hr; replace hq := below_look hbn hq; replace hb := hb.trans (hbn.mono hb.size); clear hbn; simp only [Zq]
 have hrl : w.heap.size <= r := by omega
 have hql := heap_lt hq
 have HRl := Zi hrl
 have hqG : G q = none := HF.out q (by omega)
 have HQ : Hid (¬ Mine (mark G k r) k q) := Zi (by rintro ⟨x, e, -⟩; unfold mark at e; rw [if_neg (by omega), hqG] at e; cases e)
 have HDn := Zi (DDone.marked HX.out HF.out hb hrl (heap_lt hr))
 have HM := Zi (mark_same G k r)
 have HNM := Zi (mark_not G k r)
 have hvv := HDn.out.va (HV.out)
 clear HV
 have HV := Zi hvv
 clear hvv HX HF hb hrl hql hqG
 go_upto_region 1 with fail
 apply Zl
 refine Zm ?_
 refine Zo rfl (dt0 hq) ?_
 have hzz := Below.refl W2.heap.size W2
 go_upto_region 8 with fail
 apply Zl
 refine Zm ?_
 refine Zw rfl (dt1 hq hvs) ?_
 have lthqq8 := heap_lt hq; have lthrq8 := heap_lt hr; (with_reducible refine wl_allV ?_); intro W5 q8 hbn hlq8 hq8; replace hq := below_look hbn hq; replace hr := below_look hbn hr; replace hzz := hzz.trans (hbn.mono hzz.size); clear hbn; simp only [Zq]
 (with_reducible refine wl_putV hvs hv1 rfl rfl rfl hq8 ?_); rw [put_noneA]; intro W6 hbx hsz hkx hnx; replace hzz := hbx _ _ (by omega) hzz
 have hr9 := (hkx r (by omega)).trans hr
 have hq9 := (hkx q (by omega)).trans hq
 clear hq8 hr hq hbx hsz hkx
 have hq8 := hnx
 have hr := hr9
 have hq := hq9
 clear hnx hr9 hq9
 have HQ8 : Hid (mark G k r q8 = none) := Zi (HDn.out.fr q8 (by omega))
 replace HDn := Zi (HDn.out.quiet hzz)
 replace HV := Zi (HV.out.old hzz)
 obtain ⟨trv, A2v, l2v, c2v, A3v, l3v, c3v, hrv⟩ := HV.out.row
 have HRV := Zi hrv
 have hvl := hrv.vs.len
 subst hvl
 clear hrv
 go_upto_region 9 with fail
 apply Zl
 refine Zm ?_
 refine Zo rfl (vkK hq8 HRV HK) ?_
 clear hq HQ HNM hds hzz
 go_upto_region 10 with fail
 apply Zl
 iterate 2 refine Zm ?_
 go_upto_region 19 with fail
 apply Zl
 iterate 2 refine Zm ?_
 go_upto_region 21 with fail
 apply Zl
 iterate 2 refine Zm ?_
 have h9 : 0 <= v.num /\ v.num < (h.bus.length : Int) := by
  have := HO.out
  rw [ofV_eq, if_neg (by have := HK.out; omega), if_pos (by have := HK.out; omega)] at this
  exact of_decide_eq_true this
 obtain ⟨n, hn⟩ : ∃ n : Nat, v.num = (n : Int) := ⟨v.num.toNat, by omega⟩
 have hnl : n < h.bus.length := by omega
 have hnlI : (n : Int) < (h.bus.length : Int) := by omega
 have ho := List.getElem?_eq_getElem hnl
 obtain ⟨o, hoe⟩ : ∃ o, o = h.bus[n] := ⟨_, rfl⟩
 rw [<- hoe] at ho
 obtain ⟨dA, dc, oA, oc, bA, bc, lA, lc, rA, rc, hh⟩ := HDn.out.heap
 obtain ⟨g, fA, fc, rfl, hgr, hL, -, -⟩ := hh.buf ho
 have hlen := HEL.out o (List.mem_of_getElem? ho)
 have HLEN := Zi hlen
 have HL := Zi hL
 have HOO := Zi ho
 have HH := Zi hh
 have HN := Zi hn
 have HGR := Zi hgr
 have hp := hh.blk
 clear hL hgr hoe ho hh h9 hn HV hlen
 have HST : Hid (stepV' h [] (.val v) = if w64 (o.count + -1) = 0 then ({ h with bus := h.bus.set n { addB (-1) o with elems := [] } }, laterV o.elems, none) else ({ h with bus := h.bus.set n (addB (-1) o) }, [], none)) := Zi (by
  have e7 : ¬ (8 : Int) = 7 := by omega
  have e8 : ¬ (8 : Int) = 11 := by omega
  simp only [stepV', HK.out, if_neg e7, if_neg e8, HN.out, if_true, Int.toNat_natCast, HOO.out, modify_at _ HOO.out, List.nil_append])
 go_upto_region 22 with fail
 refine wp_region_belowAll mixed (by kernel_rfl) ?_
 iterate 3 refine Zt ?_
 refine Zv rfl (fun w' hw' => dh2 (below_look hw' hp)) ?_
 refine Zt ?_
 refine Zv rfl (fun w' hw' => vnN (below_look hw' hq8) HRV HN) ?_
 iterate 2 refine Zt ?_
 intro w3 hb3
 have HL3 := Zi (HL.out w3 hb3)
 replace HDn := Zi (HDn.out.quiet hb3)
 replace HH := Zi (HH.out.old hb3)
 replace hr := below_look hb3 hr
 clear hb3 HL hp hq8
 go_upto_region 23 with fail
 obtain ⟨hs1, hs2, hrl, hset⟩ := HH.out.stB HOO.out
 have hst := hset (w64 (o.count + -1)) (addB (-1) o) rfl rfl
 clear hset hrl
 apply Zl
 iterate 4 refine Zm ?_
 refine Zo rfl (HL3.out.c) ?_
 iterate 3 refine Zm ?_
 refine wl_storeC rfl 3 _ _ rfl g _ (.int .i64 (w64 (o.count + -1))) rfl rfl info3 rfl hs1 hs2 ?_; rw [put_noneA]
 clear HL3 hs1 hs2
 obtain ⟨o1, ho1⟩ : ∃ o1, o1 = addB (-1) o := ⟨_, rfl⟩
 have hc1 : o1.count = w64 (o.count + -1) := by rw [ho1]; rfl
 have he1 : o1.elems = o.elems := by rw [ho1]; rfl
 obtain ⟨y1, hy1⟩ : ∃ y1 : Hp, y1 = { h with bus := h.bus.set n o1 } := ⟨_, rfl⟩
 rw [<- ho1, <- hy1] at hst
 have hd1 := HDn.out.step ⟨.bar, HGR.out, by simp⟩ (h' := y1) (Keep.cellOne _ g (n * 2) (.int .i64 (w64 (o.count + -1)))) ⟨_, _, _, _, _, _, _, _, _, _, hst⟩
 have hrg : r ≠ g := fun e => by have h1 := HM.out; have h2 := HGR.out; rw [<- e, h1] at h2; cases h2
 replace hr := (heap_setCell_other w3 ⟨g, n * 2, none⟩ r (.int .i64 (w64 (o.count + -1))) hrg).trans hr
 have hnl1 : y1.bus[n]? = some o1 := by rw [hy1]; exact List.getElem?_set_self (List.getElem?_eq_some_iff.1 HOO.out).1
 obtain ⟨W4, hW⟩ : ∃ W, W = w3.setCell ⟨g, n * 2, none⟩ (.int .i64 (w64 (o.count + -1))) := ⟨_, rfl⟩
 rw [<- hW] at hst hd1 hr ⊢
 obtain ⟨g', fA1, fc1, e, -, hL1, hLV1, -⟩ := hst.buf hnl1
 cases e
 have HL := Zi (hL1 W4 (Below.refl _ _))
 have HC := Zi (later_r (c := fc1) rfl hLV1.rowsOf (by rw [he1]; exact Nat.le_trans HLEN.out (by decide)))
 replace HDn := Zi hd1
 replace HH := Zi hst
 have HO1 := Zi hnl1
 have HH1 := Zi hy1
 have HC1 := Zi hc1
 have HE1 := Zi he1
 have HP1 := Zi ho1
 clear hL1 hd1 hst hW hnl1 hy1 hc1 he1 ho1 hLV1
 obtain ⟨ne, hne⟩ : ∃ n, n = o1.elems.length := ⟨_, rfl⟩
 have hLe := HL.out.e
 rw [<- hne] at HC hLe
 have HNE := Zi hne
 have hLc := HL.out.c
 clear hne HL
 go_upto_region 24 with fail
 by_cases c0 : o1.count = 0
 ·have e0 : (o1.count == 0) = true := by simp [c0]
  have HST2 : Hid (stepV' h [] (.val v) = ({ h with bus := h.bus.set n { o1 with elems := [] } }, laterV o1.elems, none)) := Zi (by rw [HST.out, if_pos (by rw [<- HC1.out]; exact c0), HP1.out]; rfl)
  apply Zl
  iterate 3 refine Zm ?_
  refine Zo rfl (hLc) ?_
  refine Zm ?_
  clear c0 e0
  go_upto_region 25 with fail
  apply Zl
  iterate 3 refine Zm ?_
  refine Zo rfl (hLe) ?_
  refine Zn HC.out ?_; rintro e w7 ⟨A7, c7, rows7, rfl, ho7, hA7, ht7, hb7⟩; refine ⟨_, rfl, ?_⟩; simp only [Zq]
  have hf4 := HDn.out.fr
  replace HDn := Zi (HDn.out.quiet hb7)
  replace HH := Zi (HH.out.old hb7)
  replace hr := below_look hb7 hr
  refine Zm ?_
  have htk := (ht7.mono (D' := Imm (mark G k r)) (fun b h9 => h9.1) (fun _ _ _ => rfl)).tks ho7 (fun g e => hf4 g (hA7 g e))
  have HTK := Zi htk
  clear hf4 htk ht7 hA7 ho7 hb7 HC hLe hLc
  go_upto_region 26 with fail
  obtain ⟨hs1, hs2, hst⟩ := HH.out.nilE HO1.out
  have hd1 := HDn.out.step ⟨.bar, HGR.out, by simp⟩ (h' := { h with bus := h.bus.set n { o1 with elems := [] } }) (Keep.cellOne _ g (n * 2 + 1) (.slice none 0 0)) (by
   have e : ({ y1 with bus := y1.bus.set n { o1 with elems := [] } } : Hp) = { h with bus := h.bus.set n { o1 with elems := [] } } := by rw [HH1.out]; simp only [List.set_set]
   rw [<- e]
   exact ⟨_, _, _, _, _, _, _, _, _, _, hst⟩)
  have hk9 := Keep.cellOne w7 g (n * 2 + 1) (.slice none 0 0)
  have htk := HTK.out.mono (D' := Imm (mark G k r)) (fun _ h => h) (fun b hb hl => hk9.block b hl (fun e => by subst e; unfold Imm at hb; rw [HGR.out] at hb; cases hb))
  have hr9 := (heap_setCell_other w7 ⟨g, n * 2 + 1, none⟩ r (.slice none 0 0) hrg).trans hr
  apply Zl
  iterate 3 refine Zm ?_
  refine wl_storeC rfl 33 _ _ rfl g _ (.slice none 0 0) rfl rfl info33e rfl hs1 hs2 ?_; rw [put_noneA]
  clear hs1 hs2 hst hk9 HTK hr HDn HH
  have hr := hr9
  have HDn := Zi hd1
  have HTK := Zi htk
  clear hr9 hd1 htk
  obtain ⟨W9, hW⟩ : ∃ W, W = w7.setCell ⟨g, n * 2 + 1, none⟩ (.slice none 0 0) := ⟨_, rfl⟩
  rw [<- hW] at HDn HTK hr ⊢
  clear hW
  go_upto_region 27 with fail
  apply Zl
  refine Zm ?_
  refine wl_w rfl (build35 _ _ rfl _) ?_
  simp only [Zq]
  iterate 2 refine Zm ?_
  (with_reducible refine wl_putV rfl zone hzs rfl rfl hr ?_); rw [put_noneA]; intro W10 hbx hsz hkx hnx
  have HK10 := Zi (Keep.of_put hbx hsz hkx)
  replace HDn := Zi (HDn.out.put HM.out HRl.out HK10.out)
  clear hr hbx hsz hkx
  have hr := hnx
  clear hnx
  go_wp2_with fail
  refine bodyPost_ret (resD rfl _ _ r rfl rfl rfl hzs hr) rfl ?_
  rw [HST2.out]
  refine ⟨A7, c7, _, zrow, nr, ?_, HTK.out.mono (fun _ h => h) (fun b hb hl => HK10.out.block b hl (fun e => by subst e; unfold Imm at hb; rw [HM.out] at hb; cases hb)), HDn.out, Nat.le_succ _, hzs, zone, fun u e => by cases e⟩
  rw [later_len, <- HNE.out]; rfl
 ·have e0 : (o1.count == 0) = false := by simp [c0]
  have HST2 : Hid (stepV' h [] (.val v) = (y1, [], none)) := Zi (by rw [HST.out, if_neg (by rw [<- HC1.out]; exact c0), HH1.out, HP1.out])
  apply Zl
  iterate 3 refine Zm ?_
  refine Zo rfl (hLc) ?_
  refine Zm ?_
  clear c0 e0 HC hLe hLc
  go_upto_region 37 with fail
  apply Zl
  refine wl_w rfl (build35 _ _ rfl _) ?_
  simp only [Zq]
  iterate 2 refine Zm ?_
  (with_reducible refine wl_putV rfl zone hzs rfl rfl hr ?_); rw [put_noneA]; intro W10 hbx hsz hkx hnx
  replace HDn := Zi (HDn.out.put HM.out HRl.out (Keep.of_put hbx hsz hkx))
  clear hr hbx hsz hkx
  have hr := hnx
  clear hnx
  go_wp2_with fail
  refine bodyPost_ret (resD rfl _ _ r rfl rfl rfl hzs hr) rfl ?_
  rw [HST2.out]
  exact ⟨none, 0, _, zrow, nr, rfl, DTks.nothing _ _, HDn.out, Nat.le_succ _, hzs, zone, fun u e => by cases e⟩
theorem DStep_struct {G : Gh} {k p nr : Nat} {h : Hp} {w : World} (hh : DHeapAt w G k p h nr) (hf : Fr w G) {v : Va} {rv : Array Value} (hv : VAt w (Imm G) v rv) (hk : v.kind = 5) (hnr : nr <= 8000000000000) (hnd : nodesF v <= 1000000) (hdl : h.dei.length <= 1000000) :
  Calls Try.prog 89 #[.pointer (some ⟨p, 0, none⟩), .agg (drow rv)] w (DStep w G k p nr (stepV' h [] (.val v))) := by
 have HK := Zi hk
 have HND := Zi hnd
 have HDL := Zi hdl
 clear hk hnd hdl
 have HV := Zi hv
 have hvs := hv.size
 have hv1 := hv.one
 have hds : (drow rv).size = 12 := drow_size hvs
 clear hv
 have HX := Zi hh
 have HF := Zi hf
 have hzs : zrow.size = 9 := rfl
 have zone : zrow.all (·.oneCell') = true := (zero_va w (Imm G)).one
 have hb := Below.refl w.heap.size w
 clear hh hf
 go_enter Try.func89, Try.ntmps89
 go_upto_region 0 with fail
 apply Zl
 refine wl_newv (fun q => .pointer (some ⟨q, 0, none⟩)) rfl (ex_box125 _ rfl rfl) ?_
 intro W q hbn hlq hq
 simp only [Zq]
 replace hb := hb.trans hbn
 clear hbn
 iterate 2 refine Zm ?_
 have lthqr := heap_lt hq; (with_reducible refine wl_allV ?_); intro W2 r hbn hlr hr; replace hq := below_look hbn hq; replace hb := hb.trans (hbn.mono hb.size); clear hbn; simp only [Zq]
 have hrl : w.heap.size <= r := by omega
 have hql := heap_lt hq
 have HRl := Zi hrl
 have hqG : G q = none := HF.out q (by omega)
 have HQ : Hid (¬ Mine (mark G k r) k q) := Zi (by rintro ⟨x, e, -⟩; unfold mark at e; rw [if_neg (by omega), hqG] at e; cases e)
 have HDn := Zi (DDone.marked HX.out HF.out hb hrl (heap_lt hr))
 have HM := Zi (mark_same G k r)
 have HNM := Zi (mark_not G k r)
 have hvv := HDn.out.va (HV.out)
 clear HV
 have HV := Zi hvv
 clear hvv HX HF hb hrl hql hqG
 go_upto_region 1 with fail
 apply Zl
 refine Zm ?_
 refine Zo rfl (dt0 hq) ?_
 have hzz := Below.refl W2.heap.size W2
 go_upto_region 8 with fail
 apply Zl
 refine Zm ?_
 refine Zw rfl (dt1 hq hvs) ?_
 have lthqq8 := heap_lt hq; have lthrq8 := heap_lt hr; (with_reducible refine wl_allV ?_); intro W5 q8 hbn hlq8 hq8; replace hq := below_look hbn hq; replace hr := below_look hbn hr; replace hzz := hzz.trans (hbn.mono hzz.size); clear hbn; simp only [Zq]
 (with_reducible refine wl_putV hvs hv1 rfl rfl rfl hq8 ?_); rw [put_noneA]; intro W6 hbx hsz hkx hnx; replace hzz := hbx _ _ (by omega) hzz
 have hr9 := (hkx r (by omega)).trans hr
 have hq9 := (hkx q (by omega)).trans hq
 clear hq8 hr hq hbx hsz hkx
 have hq8 := hnx
 have hr := hr9
 have hq := hq9
 clear hnx hr9 hq9
 have HQ8 : Hid (mark G k r q8 = none) := Zi (HDn.out.fr q8 (by omega))
 replace HDn := Zi (HDn.out.quiet hzz)
 replace HV := Zi (HV.out.old hzz)
 obtain ⟨trv, A2v, l2v, c2v, A3v, l3v, c3v, hrv⟩ := HV.out.row
 have HRV := Zi hrv
 have hvl := hrv.vs.len
 subst hvl
 clear hrv
 go_upto_region 9 with fail
 apply Zl
 refine Zm ?_
 refine Zo rfl (vkK hq8 HRV HK) ?_
 clear hq HQ HNM hds hzz
 go_upto_region 10 with fail
 apply Zl
 iterate 2 refine Zm ?_
 go_upto_region 19 with fail
 apply Zl
 iterate 2 refine Zm ?_
 go_upto_region 21 with fail
 apply Zl
 iterate 2 refine Zm ?_
 go_upto_region 28 with fail
 apply Zl
 iterate 2 refine Zm ?_
 have HST : Hid (stepV' h [] (.val v) = (h, laterV v.parts, if h.dei.contains v.typ.name then some v else none)) := Zi (by
  simp [stepV', HK.out])
 obtain ⟨dA, dc, oA, oc, bA, bc, lA, lc, rA, rc, hh⟩ := HDn.out.heap
 have HH := Zi hh
 have hp := hh.blk
 have hbz : Below W6.heap.size W6 W6.drew := (Below.refl _ _).drew
 have HC := Zi (Has_any (c := dc) (w := W6.drew) (hh.dei.same (w' := W6.drew) (fun _ _ _ => rfl)).ss HDL.out v.typ.name)
 have HAT4 : Hid (∀ w' : World, w'.heap[q8]? = some (.cells rv 35 (0, 0)) -> OneAt w' 9 ⟨q8, 4, none⟩ (.string v.typ.name)) := Zi (fun w' h9 => one_of u9 rfl (by rw [cell_of_row _ _ _ _ _ _ h9]; exact HRV.out.at4))
 clear hh
 go_upto_region 29 with fail
 refine wp_region_Z (S := Below W6.heap.size W6) 9 mixed hbz (fun hS => ?_)
 refine zm 0 hS ?_; try simp only [Zq]
 refine zm 1 hS ?_; try simp only [Zq]
 refine zm 2 hS ?_; try simp only [Zq]
 refine zv4 (i := 3) rfl (by kernel_rfl) Zg hS rfl (fun w' hw' => ex_one rfl (dh0 (below_look hw' hp))) ?_; try simp only [Zq]
 refine zm 4 hS ?_; try simp only [Zq]
 refine zm 5 hS ?_; try simp only [Zq]
 refine zv4 (i := 6) rfl (by kernel_rfl) Zg hS rfl (fun w' hw' => ex_one rfl (HAT4.out w' (below_look hw' hq8))) ?_; try simp only [Zq]
 refine za_call (i := 7) (by kernel_rfl) rfl rfl (fun K hK => ?_); go_simp; refine ⟨_, _, ⟨rfl, rfl⟩, hK _ _ ⟨_, HC.out, ?_⟩⟩; clear hK K; rintro e w7 ⟨z, rfl, hz1, hz2, hb7⟩
 have hbz7 := hbz.trans (hb7.mono hbz.size)
 refine ⟨_, rfl, fun _ => hbz7, ?_⟩
 clear hS
 have hS := hbz7
 try simp only [Zq]
 have hdue := due_eq hz1 hz2
 refine zn 8 hS ?_; try simp only [Zq]
 refine zn 9 hS ?_; try simp only [Zq]
 refine za_done (by kernel_rfl) ?_ _
 obtain ⟨bd, hbd⟩ : ∃ bd, bd = h.dei.contains v.typ.name := ⟨_, rfl⟩
 rw [<- hbd]
 have HDUE := Zi hbd
 replace HDn := Zi (HDn.out.quiet hbz7)
 replace HV := Zi (HV.out.old hbz7)
 replace HH := Zi (HH.out.old hbz7)
 replace hq8 := below_look hbz7 hq8; replace hr := below_look hbz7 hr; replace hp := below_look hbz7 hp
 clear hS hbz7 hbz hb7 hz1 hz2 hbd hdue HC
 go_upto_region 30 with fail
 apply Zl
 refine Zm ?_
 cases bd with
 | true =>
  obtain ⟨rows, hor, hlr, hrr⟩ := HH.out.ord
  have HOR := Zi hor
  have HLR := Zi hlr
  have HRR := Zi hrr
  have hnA : ∀ b y, mark G k r b = y -> y ≠ some (k, .dei) -> ¬ rA = some ⟨b, 0, none⟩ := fun b y hy h3 e => h3 (hy.symm.trans (HRR.out b e))
  have HNP := Zi (hnA p _ HH.out.rp (by simp))
  have HNQ := Zi (hnA q8 _ HQ8.out (by simp))
  have HNRR := Zi (hnA r _ HM.out (by simp))
  have hbz : Below w7.heap.size w7 w7.drew := (Below.refl _ _).drew
  have hlen : rows.length <= 8000000000000 := by rw [hlr]; exact hnr
  clear hor hlr hrr hnA
  go_upto_region 31 with fail
  refine wp_region_Z (S := fun w' => Keep (fun b => rA = some ⟨b, 0, none⟩) w7 w') 12 mixed (Keep.of hbz) (fun hS => ?_)
  refine zm 0 hS ?_; try simp only [Zq]
  refine zm 1 hS ?_; try simp only [Zq]
  refine zm 2 hS ?_; try simp only [Zq]
  refine zm 3 hS ?_; try simp only [Zq]
  refine zv4 (i := 4) rfl (by kernel_rfl) Zg hS rfl (fun w' hw' => ex_one rfl (dh4 (hw'.look hp HNP.out))) ?_; try simp only [Zq]
  refine zm 5 hS ?_; try simp only [Zq]
  refine zm 6 hS ?_; try simp only [Zq]
  refine zv4 (i := 7) rfl (by kernel_rfl) Zg hS rfl (fun w' hw' => ex_one rfl (HAT4.out w' (hw'.look hq8 HNQ.out))) ?_; try simp only [Zq]
  refine za_new (i := 8) (v := fun q => .slice (some ⟨q, 0, none⟩) 1 1) (by kernel_rfl) rfl rfl (ex_bsStr _ rfl rfl) (fun W hW => hS.trans (C' := fun _ => False) (fun b e => e.elim) (Keep.of hW)) ?_
  clear hS
  intro W10 q10 hbn hlq10 hq10 hS
  try simp only [Zq]
  have hbn := hbz.trans (hbn.mono hbz.size)
  replace HDn := Zi (HDn.out.quiet hbn)
  replace HV := Zi (HV.out.old hbn)
  replace HH := Zi (HH.out.old hbn)
  replace HOR := Zi (HOR.out.old hbn)
  replace hp := below_look hbn hp; replace hq8 := below_look hbn hq8; replace hr := below_look hbn hr
  clear hbn hbz
  refine za_pushL (i := 9) elt22 (by kernel_rfl) rfl rfl _ _ rfl (show _ = Value.slice rA rows.length rc by rw [HLR.out]; rfl) rfl HOR.out hq10 rfl (by simp [Value.oneCell']) (by omega) (by unfold maxLen; omega) (fun w' hk => hS.trans (C' := fun b => rA = some ⟨b, 0, none⟩) (fun b e => .inl e) hk) ?_
  clear hS
  intro A9 c9 W11 hown hk9 hA9 hS
  rw [HLR.out]
  try simp only [Zq]
  have hp11 := hk9.look hp HNP.out
  obtain ⟨G9, hG9⟩ : ∃ G9, G9 = own (mark G k r) A9 (k, .dei) := ⟨_, rfl⟩
  have hGo : ∀ b, b < W10.heap.size -> G9 b = mark G k r b := by rw [hG9]; exact own_again HRR.out hA9
  have hd10 := DDone.addR HH.out HDn.out.fr HLR.out hown hk9 HRR.out hA9
  rw [<- hG9] at hd10
  rw [HLR.out] at hd10
  have HDN := Zi (HDn.out.trans hd10)
  have hva10 := hd10.va HV.out
  obtain ⟨hs1, hs2, -⟩ := dhdr_set (j := 4) (v := .slice A9 (nr + 1) c9) hp11
  have hs1 := hs1 (by omega)
  have hpr : ∀ b y, mark G k r b = y -> y ≠ some (k, .hdr) -> b ≠ p := fun b y e1 e2 e3 => by rw [e3, HH.out.rp] at e1; exact e2 e1.symm
  have hq12 := (heap_setCell_other W11 ⟨p, 4, none⟩ q8 (.slice A9 (nr + 1) c9) (hpr q8 _ HQ8.out (by simp))).trans (hk9.look hq8 HNQ.out)
  have hr12 := (heap_setCell_other W11 ⟨p, 4, none⟩ r (.slice A9 (nr + 1) c9) (hpr r _ HM.out (by simp))).trans (hk9.look hr HNRR.out)
  have HM9 : Hid (G9 r = some (k, .tmp)) := Zi ((hGo r (heap_lt hr)).trans HM.out)
  have HV9 := Zi hva10
  clear hown hk9 hA9 hd10 hva10 HDn HH HOR hp hq10 hG9 hGo hpr hq8 hr HNP HNQ HNRR hlen HRR HLR HV
  refine zn 10 hS ?_; try simp only [Zq]
  refine zn 11 hS ?_; try simp only [Zq]
  clear hS
  refine za_storeC (i := 12) (by kernel_rfl) rfl rfl 22 _ _ rfl p 4 (.slice A9 (nr + 1) c9) rfl rfl info22d rfl hs1 hs2 (fun h => absurd rfl h) ?_
  refine za_done (by kernel_rfl) ?_ _
  obtain ⟨W12, hW⟩ : ∃ W, W = W11.setCell ⟨p, 4, none⟩ (.slice A9 (nr + 1) c9) := ⟨_, rfl⟩
  rw [<- hW] at HDN HV9 hq12 hr12 ⊢
  clear hW hs1 hs2 hp11
  have hr := hr12
  have hq8 := hq12
  have HDn := HDN
  have HV := HV9
  clear hr12 hq12 HDN HV9
  obtain ⟨trz, A2z, l2z, c2z, A3z, l3z, c3z, hrz⟩ := HV.out.row
  have HRZ := Zi hrz
  have hvz := hrz.vs.len
  subst hvz
  have hbz : Below W12.heap.size W12 W12.drew := (Below.refl _ _).drew
  have HC := Zi (later_r (w := W12.drew) (c := c3z) rfl ((hrz.vs.old hbz).rowsOf) (by have h1 := HND.out; have h2 := len_nodesF v.parts; rw [nodesF_eq] at h1; omega))
  have HC2 := Zi (fun w' (hw' : Below W12.heap.size W12 w') => CopyValue_any v HND.out w' _ _ (HV.out.old hw'))
  clear hrz
  go_upto_region 32 with fail
  refine wp_region_Z (S := Below W12.heap.size W12) 8 mixed hbz (fun hS => ?_)
  refine zm 0 hS ?_; try simp only [Zq]
  refine zv4 (i := 1) rfl (by kernel_rfl) Zg hS rfl (fun w' hw' => ex_one rfl (vl (below_look hw' hq8) HRZ)) ?_; try simp only [Zq]
  refine zm 3 hS ?_; try simp only [Zq]
  refine zv4 (i := 4) rfl (by kernel_rfl) Zg hS rfl (fun w' hw' => ex_row rfl (row35 (below_look hw' hq8) hvs)) ?_; try simp only [Zq]
  refine za_call (i := 2) (by kernel_rfl) rfl rfl (fun K hK => ?_); go_simp; refine ⟨_, _, ⟨rfl, rfl⟩, hK _ _ ⟨_, HC.out, ?_⟩⟩; clear hK K; rintro e w9 ⟨A7, c7, rows7, rfl, ho7, hA7, ht7, hb9⟩
  have hbz9 := hbz.trans (hb9.mono hbz.size)
  refine ⟨_, rfl, fun _ => hbz9, ?_⟩
  clear hS
  try simp only [Zq]
  refine za_call (i := 5) (by kernel_rfl) rfl rfl (fun K hK => ?_); go_simp; refine ⟨_, _, ⟨rfl, rfl⟩, hK _ _ ⟨_, HC2.out w9 hbz9, ?_⟩⟩; clear hK K; rintro e w10 ⟨row9, rfl, hv9, hb10⟩
  have hb11 := hbz9.trans (hb10.mono hbz9.size)
  refine ⟨_, rfl, fun _ => hb11, ?_⟩
  have hS := hb11
  try simp only [Zq]
  have hxs9 := hv9.size
  have hx19 := hv9.one
  have hva := hv9.weak (D' := Imm G9) fun b (h9 : w9.heap.size <= b) => HDn.out.fr b (by have := hbz9.size; omega)
  have htk := ((ht7.mono (D' := Imm G9) (fun b h9 => h9.1) (fun _ _ _ => rfl)).tks ho7 (fun g e => HDn.out.fr g (by have := hA7 g e; have := hbz.size; omega))).mono (D' := Imm G9) (fun _ h => h) (fun b _ hl => hb10.block b hl)
  replace HDn := Zi (HDn.out.quiet hb11)
  have hr11 := below_look hb11 hr
  clear hv9 ho7 hA7 ht7 hb9 hb10 hbz9 hbz HC HC2 hr hb11
  refine zn 6 hS ?_; try simp only [Zq]
  refine zn 7 hS ?_; try simp only [Zq]
  have hkr := Keep.rowOne w10 r (putN zrow 0 row9)
  have hd := HDn.out.put HM9.out HRl.out hkr
  have hr2 := hr_new (cs := putN zrow 0 row9) hr11
  have htk2 := htk.mono (D' := Imm G9) (fun _ h => h) (fun b hb hl => hkr.block b hl (fun e => by subst e; unfold Imm at hb; rw [HM9.out] at hb; cases hb))
  have hva2 := hva.mono (D' := Imm G9) (fun _ h => h) (fun b hb hl => hkr.block b hl (fun e => by subst e; unfold Imm at hb; rw [HM9.out] at hb; cases hb))
  rw [putN_whole (by rw [hxs9, hzs])] at hd hr2 htk2 hva2
  refine za_storeN (i := 8) (by kernel_rfl) rfl rfl 35 _ _ rfl info35 rfl rfl hxs9 hx19 hr11 (by rw [hxs9, hzs]; omega) (fun h => absurd rfl h) ?_
  rw [putN_whole (by rw [hxs9, hzs])]
  refine za_done (by kernel_rfl) ?_ _
  have HDN := Zi hd
  have HTN := Zi htk2
  have HVN := Zi hva2
  clear hr11 hd htk2 hva2 htk hva hkr HDn hS
  have hr := hr2
  clear hr2
  go_wp2_with fail
  refine bodyPost_ret (resD rfl _ _ r rfl rfl rfl hxs9 hr) rfl ?_
  rw [HST.out]
  rw [<- HDUE.out]
  refine ⟨A7, c7, G9, row9, nr + 1, ?_, HTN.out, HDN.out, Nat.le_refl _, hxs9, hx19, fun u e => ?_⟩
  ·rw [later_len]; rfl
  ·cases e; exact HVN.out
 | false =>
  clear hp HH
  obtain ⟨trz, A2z, l2z, c2z, A3z, l3z, c3z, hrz⟩ := HV.out.row
  have HRZ := Zi hrz
  have hvz := hrz.vs.len
  subst hvz
  have hbz : Below w7.heap.size w7 w7.drew := (Below.refl _ _).drew
  have HC := Zi (later_r (w := w7.drew) (c := c3z) rfl ((hrz.vs.old hbz).rowsOf) (by have h1 := HND.out; have h2 := len_nodesF v.parts; rw [nodesF_eq] at h1; omega))
  have HC2 := Zi (fun w' (hw' : Below w7.heap.size w7 w') => CopyValue_any v HND.out w' _ _ (HV.out.old hw'))
  clear hrz
  go_upto_region 32 with fail
  refine wp_region_Z (S := Below w7.heap.size w7) 8 mixed hbz (fun hS => ?_)
  refine zm 0 hS ?_; try simp only [Zq]
  refine zv4 (i := 1) rfl (by kernel_rfl) Zg hS rfl (fun w' hw' => ex_one rfl (vl (below_look hw' hq8) HRZ)) ?_; try simp only [Zq]
  refine zm 3 hS ?_; try simp only [Zq]
  refine zv4 (i := 4) rfl (by kernel_rfl) Zg hS rfl (fun w' hw' => ex_row rfl (row35 (below_look hw' hq8) hvs)) ?_; try simp only [Zq]
  refine za_call (i := 2) (by kernel_rfl) rfl rfl (fun K hK => ?_); go_simp; refine ⟨_, _, ⟨rfl, rfl⟩, hK _ _ ⟨_, HC.out, ?_⟩⟩; clear hK K; rintro e w9 ⟨A7, c7, rows7, rfl, ho7, hA7, ht7, hb9⟩
  have hbz9 := hbz.trans (hb9.mono hbz.size)
  refine ⟨_, rfl, fun _ => hbz9, ?_⟩
  clear hS
  try simp only [Zq]
  refine za_call (i := 5) (by kernel_rfl) rfl rfl (fun K hK => ?_); go_simp; refine ⟨_, _, ⟨rfl, rfl⟩, hK _ _ ⟨_, HC2.out w9 hbz9, ?_⟩⟩; clear hK K; rintro e w10 ⟨row9, rfl, hv9, hb10⟩
  have hb11 := hbz9.trans (hb10.mono hbz9.size)
  refine ⟨_, rfl, fun _ => hb11, ?_⟩
  have hS := hb11
  try simp only [Zq]
  have hxs9 := hv9.size
  have hx19 := hv9.one
  have hva := hv9.weak (D' := Imm (mark G k r)) fun b (h9 : w9.heap.size <= b) => HDn.out.fr b (by have := hbz9.size; omega)
  have htk := ((ht7.mono (D' := Imm (mark G k r)) (fun b h9 => h9.1) (fun _ _ _ => rfl)).tks ho7 (fun g e => HDn.out.fr g (by have := hA7 g e; have := hbz.size; omega))).mono (D' := Imm (mark G k r)) (fun _ h => h) (fun b _ hl => hb10.block b hl)
  replace HDn := Zi (HDn.out.quiet hb11)
  have hr11 := below_look hb11 hr
  clear hv9 ho7 hA7 ht7 hb9 hb10 hbz9 hbz HC HC2 hr hb11
  refine zn 6 hS ?_; try simp only [Zq]
  refine zn 7 hS ?_; try simp only [Zq]
  have hkr := Keep.rowOne w10 r (putN zrow 0 row9)
  have hd := HDn.out.put HM.out HRl.out hkr
  have hr2 := hr_new (cs := putN zrow 0 row9) hr11
  have htk2 := htk.mono (D' := Imm (mark G k r)) (fun _ h => h) (fun b hb hl => hkr.block b hl (fun e => by subst e; unfold Imm at hb; rw [HM.out] at hb; cases hb))
  have hva2 := hva.mono (D' := Imm (mark G k r)) (fun _ h => h) (fun b hb hl => hkr.block b hl (fun e => by subst e; unfold Imm at hb; rw [HM.out] at hb; cases hb))
  rw [putN_whole (by rw [hxs9, hzs])] at hd hr2 htk2 hva2
  refine za_storeN (i := 8) (by kernel_rfl) rfl rfl 35 _ _ rfl info35 rfl rfl hxs9 hx19 hr11 (by rw [hxs9, hzs]; omega) (fun h => absurd rfl h) ?_
  rw [putN_whole (by rw [hxs9, hzs])]
  refine za_done (by kernel_rfl) ?_ _
  have HDN := Zi hd
  have HTN := Zi htk2
  have HVN := Zi hva2
  clear hr11 hd htk2 hva2 htk hva hkr HDn hS
  have hr := hr2
  clear hr2
  go_wp2_with fail
  refine bodyPost_ret (resD rfl _ _ r rfl rfl rfl hxs9 hr) rfl ?_
  rw [HST.out]
  rw [<- HDUE.out]
  refine ⟨A7, c7, _, row9, nr, ?_, HTN.out, HDN.out, Nat.le_succ _, hxs9, hx19, fun u e => ?_⟩
  ·rw [later_len]; rfl
  ·cases e
theorem DStep_part {G : Gh} {k p nr : Nat} {h : Hp} {w : World} (hh : DHeapAt w G k p h nr) (hf : Fr w G) {v : Va} {rv : Array Value} (hv : VAt w (Imm G) v rv) (hk : v.kind = 6 ∨ v.kind = 9 ∨ v.kind = 10) (hnd : nodesF v <= 1000000) :
  Calls Try.prog 89 #[.pointer (some ⟨p, 0, none⟩), .agg (drow rv)] w (DStep w G k p nr (stepV' h [] (.val v))) := by
 have HST : Hid (stepV' h [] (.val v) = (h, laterV v.parts, none)) := Zi (by
  rcases hk with e | e | e <;> simp [stepV', e, hasK])
 have HND := Zi hnd
 have e7 : (v.kind == 7) = false := beq_eq_false_iff_ne.2 (by omega)
 have e11 : (v.kind == 11) = false := beq_eq_false_iff_ne.2 (by omega)
 have e8 : (v.kind == 8) = false := beq_eq_false_iff_ne.2 (by omega)
 have e5 : (v.kind == 5) = false := beq_eq_false_iff_ne.2 (by omega)
 have HK := Zi hk
 clear hk hnd
 have HV := Zi hv
 have hvs := hv.size
 have hv1 := hv.one
 have hds : (drow rv).size = 12 := drow_size hvs
 clear hv
 have HX := Zi hh
 have HF := Zi hf
 have hzs : zrow.size = 9 := rfl
 have zone : zrow.all (·.oneCell') = true := (zero_va w (Imm G)).one
 have hb := Below.refl w.heap.size w
 clear hh hf
 go_enter Try.func89, Try.ntmps89
 go_upto_region 0 with fail
 apply Zl
 refine wl_newv (fun q => .pointer (some ⟨q, 0, none⟩)) rfl (ex_box125 _ rfl rfl) ?_
 intro W q hbn hlq hq
 simp only [Zq]
 replace hb := hb.trans hbn
 clear hbn
 iterate 2 refine Zm ?_
 have lthqr := heap_lt hq; (with_reducible refine wl_allV ?_); intro W2 r hbn hlr hr; replace hq := below_look hbn hq; replace hb := hb.trans (hbn.mono hb.size); clear hbn; simp only [Zq]
 have hrl : w.heap.size <= r := by omega
 have hql := heap_lt hq
 have HRl := Zi hrl
 have hqG : G q = none := HF.out q (by omega)
 have HQ : Hid (¬ Mine (mark G k r) k q) := Zi (by rintro ⟨x, e, -⟩; unfold mark at e; rw [if_neg (by omega), hqG] at e; cases e)
 have HDn := Zi (DDone.marked HX.out HF.out hb hrl (heap_lt hr))
 have HM := Zi (mark_same G k r)
 have HNM := Zi (mark_not G k r)
 have hvv := HDn.out.va (HV.out)
 clear HV
 have HV := Zi hvv
 clear hvv HX HF hb hrl hql hqG
 go_upto_region 1 with fail
 apply Zl
 refine Zm ?_
 refine Zo rfl (dt0 hq) ?_
 have hzz := Below.refl W2.heap.size W2
 go_upto_region 8 with fail
 apply Zl
 refine Zm ?_
 refine Zw rfl (dt1 hq hvs) ?_
 have lthqq8 := heap_lt hq; have lthrq8 := heap_lt hr; (with_reducible refine wl_allV ?_); intro W5 q8 hbn hlq8 hq8; replace hq := below_look hbn hq; replace hr := below_look hbn hr; replace hzz := hzz.trans (hbn.mono hzz.size); clear hbn; simp only [Zq]
 (with_reducible refine wl_putV hvs hv1 rfl rfl rfl hq8 ?_); rw [put_noneA]; intro W6 hbx hsz hkx hnx; replace hzz := hbx _ _ (by omega) hzz
 have hr9 := (hkx r (by omega)).trans hr
 have hq9 := (hkx q (by omega)).trans hq
 clear hq8 hr hq hbx hsz hkx
 have hq8 := hnx
 have hr := hr9
 have hq := hq9
 clear hnx hr9 hq9
 have HQ8 : Hid (mark G k r q8 = none) := Zi (HDn.out.fr q8 (by omega))
 replace HDn := Zi (HDn.out.quiet hzz)
 replace HV := Zi (HV.out.old hzz)
 obtain ⟨trv, A2v, l2v, c2v, A3v, l3v, c3v, hrv⟩ := HV.out.row
 have HRV := Zi hrv
 have hvl := hrv.vs.len
 subst hvl
 clear hrv
 go_upto_region 9 with fail
 apply Zl
 refine Zm ?_
 refine Zo rfl (vk hq8 HRV) ?_
 clear hq HQ HNM hds hzz
 go_upto_region 10 with fail
 apply Zl
 iterate 2 refine Zm ?_
 go_upto_region 19 with fail
 apply Zl
 iterate 2 refine Zm ?_
 go_upto_region 21 with fail
 apply Zl
 iterate 2 refine Zm ?_
 go_upto_region 28 with fail
 apply Zl
 iterate 2 refine Zm ?_
 go_upto_region 33 with fail
 by_cases h6 : v.kind = 6
 ·have e6 : (v.kind == 6) = true := by simp [h6]
  apply Zl
  iterate 2 refine Zm ?_
  clear h6 e6 e5 e7 e8 e11
  obtain ⟨trz, A2z, l2z, c2z, A3z, l3z, c3z, hrz⟩ := HV.out.row
  have HRZ := Zi hrz
  have hvz := hrz.vs.len
  subst hvz
  have HC := Zi (later_r (w := W6) (c := c3z) rfl hrz.vs.rowsOf (by have h1 := HND.out; have h2 := len_nodesF v.parts; rw [nodesF_eq] at h1; omega))
  clear hrz
  go_upto_region 36 with fail
  apply Zl
  refine Zm ?_
  refine Zo rfl (vl hq8 HRZ) ?_
  refine Zn HC.out ?_; rintro e w7 ⟨A7, c7, rows7, rfl, ho7, hA7, ht7, hb7⟩; refine ⟨_, rfl, ?_⟩; simp only [Zq]
  have hf4 := HDn.out.fr
  replace HDn := Zi (HDn.out.quiet hb7)
  replace hr := below_look hb7 hr
  have htk := (ht7.mono (D' := Imm (mark G k r)) (fun b h9 => h9.1) (fun _ _ _ => rfl)).tks ho7 (fun g e => hf4 g (hA7 g e))
  have HTK := Zi htk
  clear hf4 htk ht7 hA7 ho7 hb7 HC
  refine wl_w rfl (build35 _ _ rfl _) ?_
  simp only [Zq]
  iterate 2 refine Zm ?_
  (with_reducible refine wl_putV rfl zone hzs rfl rfl hr ?_); rw [put_noneA]; intro W10 hbx hsz hkx hnx
  have HK10 := Zi (Keep.of_put hbx hsz hkx)
  replace HDn := Zi (HDn.out.put HM.out HRl.out HK10.out)
  clear hr hbx hsz hkx
  have hr := hnx
  clear hnx
  go_wp2_with fail
  refine bodyPost_ret (resD rfl _ _ r rfl rfl rfl hzs hr) rfl ?_
  rw [HST.out]
  refine ⟨A7, c7, _, zrow, nr, ?_, HTK.out.mono (fun _ h => h) (fun b hb hl => HK10.out.block b hl (fun e => by subst e; unfold Imm at hb; rw [HM.out] at hb; cases hb)), HDn.out, Nat.le_succ _, hzs, zone, fun u e => by cases e⟩
  rw [later_len]; rfl
 ·have e6 : (v.kind == 6) = false := by simp [h6]
  apply Zl
  iterate 2 refine Zm ?_
  go_upto_region 34 with fail
  by_cases h9 : v.kind = 9
  ·have e9 : (v.kind == 9) = true := by simp [h9]
   apply Zl
   iterate 2 refine Zm ?_
   clear h6 e6 e5 e7 e8 e11 h9 e9
   obtain ⟨trz, A2z, l2z, c2z, A3z, l3z, c3z, hrz⟩ := HV.out.row
   have HRZ := Zi hrz
   have hvz := hrz.vs.len
   subst hvz
   have HC := Zi (later_r (w := W6) (c := c3z) rfl hrz.vs.rowsOf (by have h1 := HND.out; have h2 := len_nodesF v.parts; rw [nodesF_eq] at h1; omega))
   clear hrz
   go_upto_region 36 with fail
   apply Zl
   refine Zm ?_
   refine Zo rfl (vl hq8 HRZ) ?_
   refine Zn HC.out ?_; rintro e w7 ⟨A7, c7, rows7, rfl, ho7, hA7, ht7, hb7⟩; refine ⟨_, rfl, ?_⟩; simp only [Zq]
   have hf4 := HDn.out.fr
   replace HDn := Zi (HDn.out.quiet hb7)
   replace hr := below_look hb7 hr
   have htk := (ht7.mono (D' := Imm (mark G k r)) (fun b h9 => h9.1) (fun _ _ _ => rfl)).tks ho7 (fun g e => hf4 g (hA7 g e))
   have HTK := Zi htk
   clear hf4 htk ht7 hA7 ho7 hb7 HC
   refine wl_w rfl (build35 _ _ rfl _) ?_
   simp only [Zq]
   iterate 2 refine Zm ?_
   (with_reducible refine wl_putV rfl zone hzs rfl rfl hr ?_); rw [put_noneA]; intro W10 hbx hsz hkx hnx
   have HK10 := Zi (Keep.of_put hbx hsz hkx)
   replace HDn := Zi (HDn.out.put HM.out HRl.out HK10.out)
   clear hr hbx hsz hkx
   have hr := hnx
   clear hnx
   go_wp2_with fail
   refine bodyPost_ret (resD rfl _ _ r rfl rfl rfl hzs hr) rfl ?_
   rw [HST.out]
   refine ⟨A7, c7, _, zrow, nr, ?_, HTK.out.mono (fun _ h => h) (fun b hb hl => HK10.out.block b hl (fun e => by subst e; unfold Imm at hb; rw [HM.out] at hb; cases hb)), HDn.out, Nat.le_succ _, hzs, zone, fun u e => by cases e⟩
   rw [later_len]; rfl
  ·have e9 : (v.kind == 9) = false := by simp [h9]
   have e10 : (v.kind == 10) = true := beq_iff_eq.2 (by have := HK.out; omega)
   apply Zl
   iterate 2 refine Zm ?_
   go_upto_region 35 with fail
   apply Zl
   iterate 2 refine Zm ?_
   clear h6 e6 e5 e7 e8 e11 h9 e9 e10
   obtain ⟨trz, A2z, l2z, c2z, A3z, l3z, c3z, hrz⟩ := HV.out.row
   have HRZ := Zi hrz
   have hvz := hrz.vs.len
   subst hvz
   have HC := Zi (later_r (w := W6) (c := c3z) rfl hrz.vs.rowsOf (by have h1 := HND.out; have h2 := len_nodesF v.parts; rw [nodesF_eq] at h1; omega))
   clear hrz
   go_upto_region 36 with fail
   apply Zl
   refine Zm ?_
   refine Zo rfl (vl hq8 HRZ) ?_
   refine Zn HC.out ?_; rintro e w7 ⟨A7, c7, rows7, rfl, ho7, hA7, ht7, hb7⟩; refine ⟨_, rfl, ?_⟩; simp only [Zq]
   have hf4 := HDn.out.fr
   replace HDn := Zi (HDn.out.quiet hb7)
   replace hr := below_look hb7 hr
   have htk := (ht7.mono (D' := Imm (mark G k r)) (fun b h9 => h9.1) (fun _ _ _ => rfl)).tks ho7 (fun g e => hf4 g (hA7 g e))
   have HTK := Zi htk
   clear hf4 htk ht7 hA7 ho7 hb7 HC
   refine wl_w rfl (build35 _ _ rfl _) ?_
   simp only [Zq]
   iterate 2 refine Zm ?_
   (with_reducible refine wl_putV rfl zone hzs rfl rfl hr ?_); rw [put_noneA]; intro W10 hbx hsz hkx hnx
   have HK10 := Zi (Keep.of_put hbx hsz hkx)
   replace HDn := Zi (HDn.out.put HM.out HRl.out HK10.out)
   clear hr hbx hsz hkx
   have hr := hnx
   clear hnx
   go_wp2_with fail
   refine bodyPost_ret (resD rfl _ _ r rfl rfl rfl hzs hr) rfl ?_
   rw [HST.out]
   refine ⟨A7, c7, _, zrow, nr, ?_, HTK.out.mono (fun _ h => h) (fun b hb hl => HK10.out.block b hl (fun e => by subst e; unfold Imm at hb; rw [HM.out] at hb; cases hb)), HDn.out, Nat.le_succ _, hzs, zone, fun u e => by cases e⟩
   rw [later_len]; rfl
theorem DStep_none {G : Gh} {k p nr : Nat} {h : Hp} {w : World} (hh : DHeapAt w G k p h nr) (hf : Fr w G) {v : Va} {rv : Array Value} (hv : VAt w (Imm G) v rv) (h7 : v.kind ≠ 7) (h11 : v.kind ≠ 11) (h8 : v.kind ≠ 8) (hk : hasK v.kind = false) :
  Calls Try.prog 89 #[.pointer (some ⟨p, 0, none⟩), .agg (drow rv)] w (DStep w G k p nr (stepV' h [] (.val v))) := by
 have hkk : v.kind ≠ 5 /\ v.kind ≠ 6 /\ v.kind ≠ 9 /\ v.kind ≠ 10 := by
  unfold hasK at hk
  simp only [Bool.or_eq_false_iff, decide_eq_false_iff_not] at hk
  exact hk
 obtain ⟨h5, h6, h9, h10⟩ := hkk
 have HST : Hid (stepV' h [] (.val v) = (h, [], none)) := Zi (by
  simp only [stepV', if_neg h7, if_neg h11, if_neg h8, if_neg h5, hk]
  rfl)
 have e7 : (v.kind == 7) = false := by simp [h7]
 have e11 : (v.kind == 11) = false := by simp [h11]
 have e8 : (v.kind == 8) = false := by simp [h8]
 have e5 : (v.kind == 5) = false := by simp [h5]
 have e6 : (v.kind == 6) = false := by simp [h6]
 have e9 : (v.kind == 9) = false := by simp [h9]
 have e10 : (v.kind == 10) = false := by simp [h10]
 clear h7 h11 h8 h5 h6 h9 h10 hk
 have HV := Zi hv
 have hvs := hv.size
 have hv1 := hv.one
 have hds : (drow rv).size = 12 := drow_size hvs
 clear hv
 have HX := Zi hh
 have HF := Zi hf
 have hzs : zrow.size = 9 := rfl
 have zone : zrow.all (·.oneCell') = true := (zero_va w (Imm G)).one
 have hb := Below.refl w.heap.size w
 clear hh hf
 go_enter Try.func89, Try.ntmps89
 go_upto_region 0 with fail
 apply Zl
 refine wl_newv (fun q => .pointer (some ⟨q, 0, none⟩)) rfl (ex_box125 _ rfl rfl) ?_
 intro W q hbn hlq hq
 simp only [Zq]
 replace hb := hb.trans hbn
 clear hbn
 iterate 2 refine Zm ?_
 have lthqr := heap_lt hq; (with_reducible refine wl_allV ?_); intro W2 r hbn hlr hr; replace hq := below_look hbn hq; replace hb := hb.trans (hbn.mono hb.size); clear hbn; simp only [Zq]
 have hrl : w.heap.size <= r := by omega
 have hql := heap_lt hq
 have HRl := Zi hrl
 have hqG : G q = none := HF.out q (by omega)
 have HQ : Hid (¬ Mine (mark G k r) k q) := Zi (by rintro ⟨x, e, -⟩; unfold mark at e; rw [if_neg (by omega), hqG] at e; cases e)
 have HDn := Zi (DDone.marked HX.out HF.out hb hrl (heap_lt hr))
 have HM := Zi (mark_same G k r)
 have HNM := Zi (mark_not G k r)
 have hvv := HDn.out.va (HV.out)
 clear HV
 have HV := Zi hvv
 clear hvv HX HF hb hrl hql hqG
 go_upto_region 1 with fail
 apply Zl
 refine Zm ?_
 refine Zo rfl (dt0 hq) ?_
 have hzz := Below.refl W2.heap.size W2
 go_upto_region 8 with fail
 apply Zl
 refine Zm ?_
 refine Zw rfl (dt1 hq hvs) ?_
 have lthqq8 := heap_lt hq; have lthrq8 := heap_lt hr; (with_reducible refine wl_allV ?_); intro W5 q8 hbn hlq8 hq8; replace hq := below_look hbn hq; replace hr := below_look hbn hr; replace hzz := hzz.trans (hbn.mono hzz.size); clear hbn; simp only [Zq]
 (with_reducible refine wl_putV hvs hv1 rfl rfl rfl hq8 ?_); rw [put_noneA]; intro W6 hbx hsz hkx hnx; replace hzz := hbx _ _ (by omega) hzz
 have hr9 := (hkx r (by omega)).trans hr
 have hq9 := (hkx q (by omega)).trans hq
 clear hq8 hr hq hbx hsz hkx
 have hq8 := hnx
 have hr := hr9
 have hq := hq9
 clear hnx hr9 hq9
 have HQ8 : Hid (mark G k r q8 = none) := Zi (HDn.out.fr q8 (by omega))
 replace HDn := Zi (HDn.out.quiet hzz)
 replace HV := Zi (HV.out.old hzz)
 obtain ⟨trv, A2v, l2v, c2v, A3v, l3v, c3v, hrv⟩ := HV.out.row
 have HRV := Zi hrv
 have hvl := hrv.vs.len
 subst hvl
 clear hrv
 go_upto_region 9 with fail
 apply Zl
 refine Zm ?_
 refine Zo rfl (vk hq8 HRV) ?_
 clear hq HQ HNM hds hzz
 go_upto_region 10 with fail
 apply Zl
 iterate 2 refine Zm ?_
 go_upto_region 19 with fail
 apply Zl
 iterate 2 refine Zm ?_
 go_upto_region 21 with fail
 apply Zl
 iterate 2 refine Zm ?_
 go_upto_region 28 with fail
 apply Zl
 iterate 2 refine Zm ?_
 go_upto_region 33 with fail
 apply Zl
 iterate 2 refine Zm ?_
 go_upto_region 34 with fail
 apply Zl
 iterate 2 refine Zm ?_
 go_upto_region 35 with fail
 apply Zl
 iterate 2 refine Zm ?_
 go_upto_region 37 with fail
 apply Zl
 refine wl_w rfl (build35 _ _ rfl _) ?_
 simp only [Zq]
 iterate 2 refine Zm ?_
 (with_reducible refine wl_putV rfl zone hzs rfl rfl hr ?_); rw [put_noneA]; intro W10 hbx hsz hkx hnx
 replace HDn := Zi (HDn.out.put HM.out HRl.out (Keep.of_put hbx hsz hkx))
 clear hr hbx hsz hkx
 have hr := hnx
 clear hnx
 go_wp2_with fail
 refine bodyPost_ret (resD rfl _ _ r rfl rfl rfl hzs hr) rfl ?_
 rw [HST.out]
 exact ⟨none, 0, _, zrow, nr, rfl, DTks.nothing _ _, HDn.out, Nat.le_succ _, hzs, zone, fun u e => by cases e⟩
end Go.Proofs.Ytpamocglecangaa
namespace Go.Proofs.Ytpamocglecangaa
structure AllH (P : Va -> Prop) (Q : Ty -> Prop) (h : Hp) : Prop where
 fld : ∀ o, o ∈ h.obs -> Q o.t /\ ∀ u, u ∈ o.fields -> P u
 elm : ∀ b, b ∈ h.bus -> ∀ u, u ∈ b.elems -> P u
 tsk : ∀ ts, ts ∈ h.lev -> ∀ t, t ∈ ts -> ∀ v, t = .val v -> P v
section
variable {P : Va -> Prop} {Q : Ty -> Prop} {h : Hp}
theorem taken_all (h0 : P va0) {l : List Va} (hl : ∀ u, u ∈ l -> P u) : ∀ u, u ∈ takenV h l -> P u := fun u hu => by
 unfold takenV at hu
 obtain ⟨v, hv, rfl⟩ := List.mem_map.1 hu
 split
 ·exact hl v hv
 ·exact h0
theorem all_make (hh : AllH P Q h) (h0 : P va0) {t : Ty} (ht : Q t) {l : List Va} (hl : ∀ u, u ∈ l -> P u) : AllH P Q (makeP h t l).1 := ⟨fun o ho => by
  rcases List.mem_append.1 ho with h1 | h1
  ·exact hh.fld o h1
  ·rw [List.mem_singleton.1 h1]; exact ⟨ht, taken_all h0 hl⟩, hh.elm, hh.tsk⟩
theorem all_array (hh : AllH P Q h) (h0 : P va0) {t : Ty} {l : List Va} (hl : ∀ u, u ∈ l -> P u) : AllH P Q (arrayP h t l).1 := ⟨hh.fld, fun b hb => by
  rcases List.mem_append.1 hb with h1 | h1
  ·exact hh.elm b h1
  ·rw [List.mem_singleton.1 h1]; exact taken_all h0 hl, hh.tsk⟩
theorem all_setO (hh : AllH P Q h) {n : Nat} {o o' : Ob} (ho : h.obs[n]? = some o) (ht : o'.t = o.t) (hf : ∀ u, u ∈ o'.fields -> u ∈ o.fields ∨ P u) : AllH P Q { h with obs := h.obs.set n o' } := ⟨fun x hx => by
  have hm := List.mem_of_getElem? ho
  rcases set_mem hx with h1 | h1
  ·exact hh.fld x h1
  ·subst h1
   exact ⟨by rw [ht]; exact (hh.fld o hm).1, fun u hu => by
    rcases hf u hu with h2 | h2
    ·exact (hh.fld o hm).2 u h2
    ·exact h2⟩, hh.elm, hh.tsk⟩
theorem all_setB (hh : AllH P Q h) {n : Nat} {b b' : Bu} (hb : h.bus[n]? = some b) (hf : ∀ u, u ∈ b'.elems -> u ∈ b.elems ∨ P u) : AllH P Q { h with bus := h.bus.set n b' } := ⟨hh.fld, fun x hx u hu => by
  have hm := List.mem_of_getElem? hb
  rcases set_mem hx with h1 | h1
  ·exact hh.elm x h1 u hu
  ·subst h1
   rcases hf u hu with h2 | h2
   ·exact hh.elm b hm u h2
   ·exact h2, hh.tsk⟩
theorem all_modO (hh : AllH P Q h) {n : Nat} {f : Ob -> Ob} (hf : ∀ o, (f o).t = o.t /\ ∀ u, u ∈ (f o).fields -> u ∈ o.fields ∨ P u) : AllH P Q { h with obs := h.obs.modify n f } := ⟨fun x hx => by
  rcases mod_mem hx with h1 | ⟨a, h1, rfl⟩
  ·exact hh.fld x h1
  ·have hm := hh.fld a (List.mem_of_getElem? h1)
   exact ⟨by rw [(hf a).1]; exact hm.1, fun u hu => ((hf a).2 u hu).elim (hm.2 u) id⟩, hh.elm, hh.tsk⟩
theorem all_modB (hh : AllH P Q h) {n : Nat} {f : Bu -> Bu} (hf : ∀ b u, u ∈ (f b).elems -> u ∈ b.elems) : AllH P Q { h with bus := h.bus.modify n f } := ⟨hh.fld, fun x hx u hu => by
  rcases mod_mem hx with h1 | ⟨a, h1, rfl⟩
  ·exact hh.elm x h1 u hu
  ·exact hh.elm a (List.mem_of_getElem? h1) u (hf a u hu), hh.tsk⟩
theorem all_cnt (x : Int) : ∀ (v : Va) (h : Hp), AllH P Q h -> AllH P Q (cntV x v h) := Va.ind fun v ih h hh => by
 have hl : ∀ (l : List Va), (∀ u, u ∈ l -> u ∈ v.parts) -> ∀ h, AllH P Q h -> AllH P Q (cntVs x l h) := by
  intro l
  induction l with
  | nil => intro _ h hh; rw [cntVs]; exact hh
  | cons u l ihl =>
   intro hm h hh
   rw [cntVs]
   exact ihl (fun u hu => hm u (by simp [hu])) (cntV x u h) (ih u (hm u (by simp)) h hh)
 rw [cntV_eq]
 split
 ·exact all_modO hh fun o => ⟨rfl, fun u hu => .inl hu⟩
 ·split
  ·exact all_modO hh fun o => ⟨rfl, fun u hu => .inl hu⟩
  ·split
   ·exact all_modB hh fun b u hu => hu
   ·split
    ·exact hl v.parts (fun _ h => h) h hh
    ·exact hh
theorem all_cnts (x : Int) : ∀ (l : List Va) (h : Hp), AllH P Q h -> AllH P Q (cntVs x l h)
 | [], h, hh => by rw [cntVs]; exact hh
 | u :: l, h, hh => by rw [cntVs]; exact all_cnts x l _ (all_cnt x u h hh)
theorem all_copy (hh : AllH P Q h) (v : Va) : AllH P Q (copyP h v).1 := by
 unfold copyP
 split
 ·split
  ·exact hh
  ·exact all_cnt 1 v h hh
 ·exact hh
theorem all_end (hh : AllH P Q h) {v : Va} (hv : P v) : AllH P Q (endP h v).1 := by
 unfold endP
 split
 ·split
  ·exact hh
  ·exact ⟨hh.fld, hh.elm, fun ts hts t ht u hu => by
    rcases List.mem_append.1 hts with h1 | h1
    ·exact hh.tsk ts h1 t ht u hu
    ·rw [List.mem_singleton.1 h1] at ht
     rw [List.mem_singleton.1 ht] at hu
     cases hu; exact hv⟩
 ·exact hh
theorem all_weak (hh : AllH P Q h) (v : Va) : AllH P Q (weakP h v).1 := by
 unfold weakP
 split
 ·split
  ·rename_i o ho
   split
   ·exact hh
   ·exact all_setO hh ho rfl fun u hu => .inl hu
  ·exact hh
 ·exact hh
theorem all_load (hh : AllH P Q h) (v : Va) : AllH P Q (loadP h v).1 := by
 unfold loadP
 split
 ·split
  ·rename_i o ho
   split
   ·exact all_setO hh ho rfl fun u hu => .inl hu
   ·exact hh
  ·exact hh
 ·exact hh
theorem all_set (hh : AllH P Q h) (x f : Int) {v : Va} (hv : P v) : AllH P Q (setP h x f v).1 := by
 unfold setP
 split
 ·split
  ·split
   ·rename_i ob ho
    split
    ·exact all_setO hh ho rfl fun u hu => (set_mem hu).imp id fun e => by rw [e]; exact hv
    ·exact hh
   ·exact hh
  ·exact hh
 ·exact hh
theorem all_put (hh : AllH P Q h) (v : Va) (f : Int) {x : Va} (hx : P x) : AllH P Q (putP h v f x).1 := by
 unfold putP
 split
 ·split
  ·rename_i b hb
   split
   ·split
    ·exact all_setB hh hb fun u hu => (set_mem hu).imp id fun e => by rw [e]; exact hx
    ·exact hh
   ·exact hh
  ·exact hh
 ·exact hh
theorem all_append (hh : AllH P Q h) (v : Va) {x : Va} (hx : P x) : AllH P Q (appendP h v x).1 := by
 unfold appendP
 split
 ·split
  ·rename_i b hb
   exact all_setB hh hb fun u hu => (List.mem_append.1 hu).imp id fun e => by rw [List.mem_singleton.1 e]; exact hx
  ·exact hh
 ·exact hh
def AllT (P : Va -> Prop) (l : List Tk) : Prop := ∀ t, t ∈ l -> ∀ v, t = .val v -> P v
theorem AllT.cat {l m : List Tk} (a : AllT P l) (b : AllT P m) : AllT P (l ++ m) := fun t ht => (List.mem_append.1 ht).elim (a t) (b t)
theorem AllT.later {l : List Va} (hl : ∀ u, u ∈ l -> P u) : AllT P (laterV l) := fun t ht v e => by
 obtain ⟨u, hu, e2⟩ := later_mem ht
 rw [e2] at e; cases e; exact hl _ hu
theorem all_step (h0 : P va0) (hp : ∀ v, P v -> ∀ u, u ∈ v.parts -> P u) (hh : AllH P Q h) {l : List Tk} {t : Tk} (hl : AllT P (l ++ [t])) : AllH P Q (stepV' h l t).1 /\ AllT P (stepV' h l t).2.1 := by
 have hl1 : AllT P l := fun x hx => hl x (by simp [hx])
 cases t with
 | flds o i =>
  simp only [stepV']
  split
  ·rename_i ob ho
   split
   ·rename_i v hv
    exact ⟨hh, hl1.cat fun t ht u e => by
     simp at ht
     rcases ht with rfl | rfl
     ·cases e
     ·cases e; exact (hh.fld ob (List.mem_of_getElem? ho)).2 _ (List.mem_of_getElem? hv)⟩
   ·exact ⟨all_modO hh fun o => ⟨rfl, fun x hx => .inr (by rw [(List.mem_replicate.1 hx).2]; exact h0)⟩, hl1⟩
  ·exact ⟨hh, hl1⟩
 | val v =>
  have hv : P v := hl (.val v) (by simp) v rfl
  have hpt := hl1.cat (AllT.later (hp v hv))
  simp only [stepV']
  split
  ·split
   ·split
    ·exact ⟨all_modO hh fun o => ⟨rfl, fun u hu => .inl hu⟩, hl1⟩
    ·exact ⟨all_modO hh fun o => ⟨rfl, fun u hu => .inl hu⟩, hl1.cat fun t ht u e => by rw [List.mem_singleton.1 ht] at e; cases e⟩
   ·exact ⟨hh, hl1⟩
  ·split
   ·exact ⟨all_modO hh fun o => ⟨rfl, fun u hu => .inl hu⟩, hl1⟩
   ·split
    ·split
     ·rename_i b hb
      split
      ·exact ⟨all_modB hh fun b u hu => (by cases hu), hl1.cat (AllT.later (hh.elm b (List.mem_of_getElem? hb)))⟩
      ·exact ⟨all_modB hh fun b u hu => hu, hl1⟩
     ·exact ⟨hh, hl1⟩
    ·split
     ·exact ⟨hh, hpt⟩
     ·split
      ·exact ⟨hh, hpt⟩
      ·exact ⟨hh, hl1⟩
theorem all_run (h0 : P va0) (hp : ∀ v, P v -> ∀ u, u ∈ v.parts -> P u) : ∀ (n : Nat) (h : Hp) (l : List Tk), AllH P Q h -> AllT P l -> AllH P Q (runN n h l).1 /\ AllT P (runN n h l).2.1
 | 0, h, l, hh, hl => ⟨hh, hl⟩
 | n + 1, h, l, hh, hl => by
  simp only [runN]
  cases ht : l.getLast? with
  | none => exact ⟨hh, hl⟩
  | some t =>
   simp only
   have hs := all_step h0 hp (l := l.dropLast) (t := t) hh (by rw [<- last_split ht]; exact hl)
   cases hd : (stepV' h l.dropLast t).2.2 with
   | some v => exact hs
   | none => exact all_run h0 hp n _ _ hs.1 hs.2
theorem all_next (h0 : P va0) (hp : ∀ v, P v -> ∀ u, u ∈ v.parts -> P u) (hh : AllH P Q h) : AllH P Q (nextP h).1 := by
 unfold nextP
 cases hl : h.lev.getLast? with
 | none => exact hh
 | some l =>
  have hm : l ∈ h.lev := List.mem_of_getLast? hl
  obtain ⟨a, b⟩ := all_run h0 hp (weight h l) h l hh (fun t ht => hh.tsk l hm t ht)
  have hd : ∀ ts, ts ∈ h.lev.dropLast -> AllT P ts := fun ts hts t ht => hh.tsk ts (List.dropLast_subset _ hts) t ht
  simp only
  split
  ·exact ⟨a.fld, a.elm, fun ts hts => by
    rcases List.mem_append.1 hts with h1 | h1
    ·exact hd ts h1
    ·rw [List.mem_singleton.1 h1]; exact b⟩
  ·exact ⟨a.fld, a.elm, fun ts hts => hd ts hts⟩
theorem all_own (hh : AllH P Q h) (v : Va) : AllH P Q (ownP h v).1 := by
 unfold ownP
 split
 ·split
  ·rename_i b hb
   split
   ·exact hh
   ·split
    ·exact hh
    ·split
     ·rename_i b1 hb1
      have hc := all_cnts 1 b.elems h hh
      refine ⟨hc.fld, fun x hx u hu => ?_, hc.tsk⟩
      rcases List.mem_append.1 hx with h1 | h1
      ·rcases set_mem h1 with h2 | h2
       ·exact hc.elm x h2 u hu
       ·rw [h2] at hu; exact hc.elm b1 (List.mem_of_getElem? hb1) u hu
      ·rw [List.mem_singleton.1 h1] at hu; exact hh.elm b (List.mem_of_getElem? hb) u hu
     ·exact hh
  ·exact hh
 ·exact hh
theorem all_stepP (h0 : P va0) (hp : ∀ v, P v -> ∀ u, u ∈ v.parts -> P u) (hh : AllH P Q h) {q : Cl} (ht : Q q.t) (hl : ∀ u, u ∈ q.l -> P u) (hv : P q.v) (hx : P q.x) : AllH P Q (stepP h q) := by
 unfold stepP
 repeat' split
 ·exact all_make hh h0 ht hl
 ·exact all_array hh h0 hl
 ·exact all_copy hh _
 ·exact all_end hh hv
 ·exact all_next h0 hp hh
 ·exact all_set hh _ _ hv
 ·exact all_weak hh _
 ·exact all_load hh _
 ·exact all_own hh _
 ·exact all_put hh _ _ hx
 ·exact all_append hh _ hx
 ·exact hh
end
open Go.RowKit Go.Proofs.Ytpamocglecangaa.Nm
abbrev VaFit (v : Va) : Prop := nodesF v <= 1000000
abbrev TyFit (t : Ty) : Prop := t.nodes <= 1000000
theorem fit0 : VaFit va0 := by unfold VaFit; rw [nodesF_eq]; decide
theorem fit_parts (v : Va) (h : VaFit v) : ∀ u, u ∈ v.parts -> VaFit u := fun u hu => by
 unfold VaFit at h ⊢
 rw [nodesF_eq] at h
 have := mem_nodesF hu
 omega
structure DFit (h : Hp) : Prop where
 all : AllH VaFit TyFit h
 fl : ∀ ob, ob ∈ h.obs -> ob.fields.length <= 1000000
 el : ∀ b, b ∈ h.bus -> b.elems.length <= 1000000
 dei : h.dei.length <= 1000000
theorem step_dei (h : Hp) (l : List Tk) (t : Tk) : (stepV' h l t).1.dei = h.dei := by
 unfold stepV'
 repeat' split
 all_goals rfl
theorem DFit.step {h : Hp} (hf : DFit h) {l : List Tk} {t : Tk} (hl : AllT VaFit (l ++ [t])) : DFit (stepV' h l t).1 /\ AllT VaFit (stepV' h l t).2.1 := by
 obtain ⟨a, b⟩ := all_step fit0 fit_parts hf.all hl
 have hL := step_less h l t
 refine ⟨⟨a, fun o ho => ?_, fun b hb => ?_, by rw [step_dei]; exact hf.dei⟩, b⟩
 ·obtain ⟨o', h1, h2⟩ := hL.f o ho
  rw [h2]; exact hf.fl o' h1
 ·obtain ⟨b', h1, h2⟩ := hL.e b hb
  rcases h2 with h2 | h2
  ·rw [h2]; exact hf.el b' h1
  ·rw [h2]; exact Nat.zero_le _
theorem dstep_any {G : Gh} {k p nr : Nat} {h : Hp} {w : World} (hh : DHeapAt w G k p h nr) (hf : Fr w G) {t : Tk} {row : Array Value} (ht : DTkAt w (Imm G) t row) (hw : (∀ v, t = .val v -> ofV h.obs.length h.bus.length v = true /\ VaFit v) /\ ∀ o i, t = .flds o i -> o < h.obs.length) (hfit : DFit h) (hnr : nr <= 8000000000000) :
  Calls Try.prog 89 #[.pointer (some ⟨p, 0, none⟩), .agg row] w (DStep w G k p nr (stepV' h [] t)) := by
 cases t with
 | flds o i =>
  have e : row = frow o i := ht
  subst e
  exact DStep_flds hh hf (hw.2 o i rfl) fun ob hob => ⟨hfit.fl ob hob, (hfit.all.fld ob hob).2⟩
 | val v =>
  obtain ⟨rv, hv, e⟩ := ht
  have e2 : row = drow rv := e
  subst e2
  obtain ⟨ho, hnd⟩ := hw.1 v rfl
  by_cases h7 : v.kind = 7
  ·exact DStep_obj hh hf hv ho h7 hnr (fun ob hob => (hfit.all.fld ob hob).1) hfit.dei
  ·by_cases h11 : v.kind = 11
   ·exact DStep_weak hh hf hv ho h11
   ·by_cases h8 : v.kind = 8
    ·exact DStep_buf hh hf hv ho h8 hfit.el
    ·by_cases h5 : v.kind = 5
     ·exact DStep_struct hh hf hv h5 hnr hnd hfit.dei
     ·by_cases h6 : v.kind = 6
      ·exact DStep_part hh hf hv (.inl h6) hnd
      ·by_cases h9 : v.kind = 9
       ·exact DStep_part hh hf hv (.inr (.inl h9)) hnd
       ·by_cases h10 : v.kind = 10
        ·exact DStep_part hh hf hv (.inr (.inr h10)) hnd
        ·exact DStep_none hh hf hv h7 h11 h8 (by unfold hasK; simp [h5, h6, h9, h10])
set_option linter.unusedSimpArgs false
theorem sl90 : Try.prog.underlying 90 = some (.slice (Try.prog.elem 90)) := by kernel_rfl
theorem sl102 : Try.prog.underlying 102 = some (.slice (Try.prog.elem 102)) := by kernel_rfl
theorem sz90 (w : World) : (sizeOf (Try.prog.elem 90)).run Try.prog w = .ok 1 w := by kernel_rfl
theorem sz102 (w : World) : (sizeOf (Try.prog.elem 102)).run Try.prog w = .ok 12 w := by kernel_rfl
theorem info102s : (Try.prog.info? 102).map (·.size) = some 1 := by kernel_rfl
theorem ex_cut {ev : Operand -> Value} {o : Oper} {w : World} {ty : TypeId} {sz : Nat} (hu : Try.prog.underlying ty = some (.slice (Try.prog.elem ty))) (hs : (sizeOf (Try.prog.elem ty)).run Try.prog w = .ok sz w) (x y z : Operand) (ho : o.op = .slice ty x none (some y) (some z)) {b off l c n : Nat}
  (hx : ev x = .slice (some ⟨b, off, none⟩) l c) (hy : ev y = .int .i64 (n : Int)) (hz : ev z = .int .i64 (n : Int)) (hn : n <= c) : (execOp ev o).run Try.prog w = .ok (.value (.slice (some ⟨b, off, none⟩) n n)) w := by
 have h1 := run_slice_hm (P := Try.prog) w ty (some ⟨b, off, none⟩) l c hu .i64 .i64 (n : Int) (n : Int) (by omega) (by omega) (by omega)
 have h2 := run_sliceAt_slice (P := Try.prog) w ty (.slice (some ⟨b, off, none⟩) l c) none (some (.int .i64 (n : Int))) (some (.int .i64 (n : Int))) hu
 rw [h1, hs] at h2
 unfold execOp
 simp only [ho, Option.map_none, Option.map_some, hx, hy, hz, h2, Sem.run_bind, Sem.run_pure, Result.andThen_ok]
 simp [sliced, Addr.add]
theorem ex_all125 {o : Oper} (ho : o.op = .alloc 125) (ev : Operand -> Value) (w : World) : (execOp ev o).run Try.prog w = .ok (.value (.pointer (some ⟨w.heap.size, 0, none⟩))) (w.alloc (.cells (drow zrow) 125)) := by
 unfold execOp
 simp only [ho]
 kernel_rfl
def DValB (w : World) (G : Gh) (k p nr B : Nat) (r : Hp × Va × Bool) (e : Ending) (w' : World) : Prop := ∃ G' row nr', e = .returned (.tuple #[.agg row, .bool r.2.2]) /\ VAt w' (Imm G') r.2.1 row /\ DDone w G k p r.1 nr' w' G' /\ nr' <= nr + B
structure NextD (w : World) (G : Gh) (k p r nr B : Nat) (lev : List (List Tk)) (res : Hp × List Tk × Option Va) (n : Nat) (wr : World) (hc : Hp) (ts : List Tk) (A : Option Addr) (c : Nat) (G1 : Gh) (m nc : Nat) : Prop where
 wt : weight hc ts = n
 le : n <= m
 run : runN m hc ts = res
 wf : Wf hc
 wfT : WfT hc ts
 fit : DFit hc
 fitT : AllT VaFit ts
 lev : hc.lev = lev
 bnd : nc + n <= nr + B
 nb : n <= B
 dn : DDone w G k p hc nc wr G1
 tk : DTks wr (Imm G1) ts A c
 rr : G1 r = some (k, .tmp)
 rb : wr.heap[r]? = some (.cells zrow 35 (0, 0))
theorem DDone.tks {w w' : World} {G G' : Gh} {k p n' : Nat} {h' : Hp} (d : DDone w G k p h' n' w' G') {ts : List Tk} {A : Option Addr} {c : Nat} (ht : DTks w (Imm G) ts A c) : DTks w' (Imm G') ts A c :=
 ht.low.mono (fun b hb => by have := hb.1; unfold Imm at this ⊢; rw [d.old b hb.2]; exact this) fun b hb hl => d.keep.block b hl fun hm => by obtain ⟨_, e, _⟩ := hm; have := hb.1; unfold Imm at this; rw [this] at e; cases e
theorem row125 {w : World} {q : Nat} {row : Array Value} {t : TypeId} {fr : Nat × Nat} (h : w.heap[q]? = some (.cells row t fr)) (hs : row.size = 12) : RowAt w 125 ⟨q, 0, none⟩ row := row_mid (n := 12) h (by simp [<- hs]) u125d rfl hs info125d
theorem dNext_any {G : Gh} {k p nr : Nat} {h : Hp} {w : World} (hh : DHeapAt w G k p h nr) (hf : Fr w G) (hw : Wf h) (hfit : DFit h) {B : Nat} (hB : nr + B <= 8000000000000) (hB2 : B <= 800000000000) (hmax : ∀ l, h.lev.getLast? = some l -> weight h l <= B) :
  Calls Try.prog 49 #[.pointer (some ⟨p, 0, none⟩)] w (DValB w G k p nr B (nextP h)) := by
 have HX := Zi hh
 have HF := Zi hf
 have HWF := Zi hw
 have HFT := Zi hfit
 have HBB := Zi (And.intro hB hB2)
 have HMX := Zi hmax
 have zone : zrow.all (·.oneCell') = true := (zero_va w (Imm G)).one
 have hzs : zrow.size = 9 := rfl
 have hb := Below.refl w.heap.size w
 clear hh hf hw hmax hfit hB hB2
 go_enter Try.func49, Try.ntmps49
 go_upto_region 0 with fail
 apply Zl
 (with_reducible refine wl_allV ?_); intro W r hbn hlr hr; replace hb := hb.trans (hbn.mono hb.size); clear hbn; simp only [Zq]
 refine Zm ?_
 have hrl : w.heap.size <= r := by omega
 have HRl := Zi hrl
 have HDn := Zi (DDone.marked HX.out HF.out hb hrl (heap_lt hr))
 have HM := Zi (mark_same G k r)
 clear HX HF hb hrl
 obtain ⟨dA, dc, oA, oc, bA, bc, lA, lc, rA, rc, hh⟩ := HDn.out.heap
 have HH := Zi hh
 have hp := hh.blk
 clear hh
 obtain ⟨ll, hll⟩ : ∃ l, l = h.lev.length := ⟨_, rfl⟩
 rw [<- hll] at hp
 have HLL := Zi hll
 clear hll
 go_upto_region 1 with fail
 apply Zl
 iterate 3 refine Zm ?_
 refine Zo rfl (dh3 hp) ?_
 iterate 2 refine Zm ?_
 go_upto_region 2 with fail
 by_cases c0 : ll = 0
 ·have e0 : ((ll : Int) == 0) = true := by simp [c0]
  have HE : Hid (nextP h = (h, va0, false)) := Zi (by
   have : h.lev = [] := List.length_eq_zero_iff.1 (by rw [<- HLL.out]; exact c0)
   unfold nextP
   rw [this]; rfl)
  apply Zl
  iterate 2 refine Zm ?_
  clear c0 e0
  go_upto_region 3 with fail
  apply Zl
  refine wl_w rfl (build35 _ _ rfl _) ?_
  simp only [Zq]
  (with_reducible refine wl_putV rfl zone hzs rfl rfl hr ?_); rw [put_noneA]; intro W10 hbx hsz hkx hnx
  have HDn2 := Zi (HDn.out.put HM.out HRl.out (Keep.of_put hbx hsz hkx))
  clear hbx hsz hkx
  refine Zm ?_
  go_wp2_with fail
  refine bodyPost_ret (res35t rfl _ _ r rfl rfl rfl hnx) rfl ?_
  rw [HE.out]
  exact ⟨_, zrow, nr, rfl, zero_va _ _, HDn2.out, by omega⟩
 ·have e0 : ((ll : Int) == 0) = false := by rw [beq_eq_false_iff_ne]; omega
  apply Zl
  iterate 2 refine Zm ?_
  clear e0
  obtain ⟨ts0, hts0⟩ : ∃ ts0, h.lev.getLast? = some ts0 := by
   cases hl : h.lev.getLast? with
   | none => exact absurd (by rw [HLL.out, List.getLast?_eq_none_iff.1 hl]; rfl) c0
   | some l => exact ⟨l, rfl⟩
  obtain ⟨low, hlow⟩ : ∃ low, low = h.lev.dropLast := ⟨_, rfl⟩
  have hlev : h.lev = low ++ [ts0] := by
   rw [hlow]
   rw [List.getLast?_eq_some_iff] at hts0
   obtain ⟨l', e⟩ := hts0
   rw [e]; simp
  obtain ⟨nl, hnl⟩ : ∃ nl, nl = low.length := ⟨_, rfl⟩
  have hll1 : ll = nl + 1 := by rw [HLL.out, hlev, List.length_append, hnl]; rfl
  subst hll1
  obtain ⟨res, hres⟩ : ∃ res, res = runN (weight h ts0) h ts0 := ⟨_, rfl⟩
  have HRES : Hid (nextP h = match res.2.2 with
   | some v => ({ res.1 with lev := low ++ [res.2.1] }, v, true)
   | none => ({ res.1 with lev := low }, va0, false)) := Zi (by
   unfold nextP
   rw [hts0, hres, hlow]
   simp only
   cases (runN (weight h ts0) h ts0).2.2 <;> rfl)
  have HLEV := Zi hlev
  have hmxw := HMX.out ts0 hts0
  obtain ⟨gl, tA, tc, rfl, hgl, hlc1, hlc2, hone, htks⟩ := HH.out.topL hlev
  have HL0 : Hid (∃ G1 m nc, NextD w G k p r nr B h.lev res (weight h ts0) W h ts0 tA tc G1 m nc) := Zi ⟨mark G k r, weight h ts0, nr, rfl, Nat.le_refl _, hres.symm, HWF.out, (fun t ht => HWF.out.tsk ts0 (List.mem_of_getLast? hts0) t ht), HFT.out, (fun t ht => HFT.out.all.tsk ts0 (List.mem_of_getLast? hts0) t ht), rfl, by omega, hmxw, HDn.out, htks, HM.out, hr⟩
  have hw1 : IntKind.i64.wrap (nl : Int) = (nl : Int) := IntWalk.i64_in _ (by unfold maxLen at hlc2; omega)
  have hltI : (nl : Int) < (nl : Int) + 1 := by omega
  have HNL := Zi hnl
  rw [<- hnl] at hone
  obtain ⟨n0, hn0⟩ : ∃ n, n = ts0.length := ⟨_, rfl⟩
  rw [<- hn0] at hone
  have HN0 := Zi hn0
  clear hres hts0 hlow hlev hnl c0 hlc1 hlc2 hgl htks hn0 hmxw
  go_upto_region 4 with fail
  apply Zl
  iterate 3 refine Zm ?_
  refine Zo rfl (dh3 hp) ?_
  iterate 3 refine Zm ?_
  refine Zo rfl (hone) ?_
  refine Zm ?_
  clear hp HH HDn HM hr hone
  go_wp2_with fail
  go_loopg [5] (weight h ts0) (fun n s wr => ∃ hc ts A c G1 m nc l, s = .slice A l c /\ Hid (l = ts.length /\ NextD w G k p r nr B h.lev res n wr hc ts A c G1 m nc))
  case atStart =>
   obtain ⟨G1, m, nc, h9⟩ := HL0.out
   exact ⟨h, ts0, tA, tc, G1, m, nc, n0, rfl, Zi ⟨HN0.out, h9⟩⟩
  case round =>
   clear HL0 HN0
   obtain ⟨hc, ts, A, c, G1, m', nc, l, rfl, HN⟩ := hrel
   have HL := Zi HN.out.1
   have HN2 := Zi HN.out.2
   clear HN
   have HN := HN2
   clear HN2
   have hr := HN.out.rb
   have HLV : Hid (hc.lev = low ++ [ts0]) := Zi (HN.out.lev.trans HLEV.out)
   go_upto_region 5 with fail
   rcases List.eq_nil_or_concat ts with e | ⟨ts1, t, e⟩
   ·subst e
    obtain rfl : l = 0 := HL.out
    have HRS : Hid (nextP h = ({ hc with lev := low }, va0, false)) := Zi (by
     have h5 := HN.out.run
     rw [runN_nil] at h5
     rw [HRES.out, <- h5])
    apply Zl
    iterate 3 refine Zm ?_
    obtain ⟨dA, dc, oA, oc, bA, bc, lA, lc, rA, rc, hh⟩ := HN.out.dn.heap
    obtain ⟨gl', tA', tc', rfl, hgl, hlc1, hlc2, -, -⟩ := hh.topL HLV.out
    have hp := hh.blk
    have hll : hc.lev.length = nl + 1 := by rw [HLV.out, List.length_append, HNL.out]; rfl
    rw [hll] at hp
    have hdrop := hh.dropL HLV.out
    rw [<- HNL.out] at hdrop hlc1
    have hhr := hh.rp
    clear hll
    go_upto_region 13 with fail
    apply Zl
    iterate 4 refine Zm ?_
    refine Zo rfl (dh3 hp) ?_
    iterate 2 refine Zm ?_
    refine wl_val rfl (ex_head sl90 (sz90 _) _ _ rfl rfl rfl (by omega)) ?_
    simp only [Zq]
    iterate 2 refine Zm ?_
    obtain ⟨hs1, hs2, -⟩ := dhdr_set (j := 3) (v := .slice (some ⟨gl', 0, none⟩) nl lc) hp
    have hs1 := hs1 (by omega)
    refine wl_storeC rfl 90 _ _ rfl p 3 (.slice (some ⟨gl', 0, none⟩) nl lc) rfl rfl info90 rfl hs1 hs2 ?_
    rw [put_noneA]
    have hd2 := HN.out.dn.step (h' := { hc with lev := low }) ⟨.hdr, hhr, by simp⟩ (Keep.cellOne wr p 3 (.slice (some ⟨gl', 0, none⟩) nl lc)) ⟨_, _, _, _, _, _, _, _, _, _, hdrop⟩
    have hrp : r ≠ p := fun e => by have h5 := HN.out.rr; rw [e, hhr] at h5; cases h5
    have hr2 := (heap_setCell_other wr ⟨p, 3, none⟩ r (.slice (some ⟨gl', 0, none⟩) nl lc) hrp).trans hr
    have HD2 := Zi hd2
    have HR1 := Zi HN.out.rr
    have HBN : Hid (nc <= nr + B) := Zi (by have := HN.out.bnd; omega)
    obtain ⟨W2, hW⟩ : ∃ W, W = wr.setCell ⟨p, 3, none⟩ (.slice (some ⟨gl', 0, none⟩) nl lc) := ⟨_, rfl⟩
    rw [<- hW] at HD2 hr2 ⊢
    clear hd2 hr hp hs1 hs2 hdrop hW HN hh hrp hhr hgl hlc1 hlc2
    go_upto_region 14 with fail
    apply Zl
    refine wl_w rfl (build35 _ _ rfl _) ?_
    simp only [Zq]
    (with_reducible refine wl_putV rfl zone hzs rfl rfl hr2 ?_); rw [put_noneA]; intro W10 hbx hsz hkx hnx
    have HD3 := Zi (HD2.out.put HR1.out HRl.out (Keep.of_put hbx hsz hkx))
    clear hbx hsz hkx hr2
    refine Zm ?_
    go_wp2_with fail
    refine bodyPost_ret (res35t rfl _ _ r rfl rfl rfl hnx) rfl ?_
    rw [HRS.out]
    exact ⟨_, zrow, nc, rfl, zero_va _ _, HD3.out, HBN.out⟩
   ·rw [List.concat_eq_append] at e
    subst e
    obtain ⟨n1, hn1⟩ : ∃ n1, n1 = ts1.length := ⟨_, rfl⟩
    obtain rfl : l = n1 + 1 := by rw [HL.out, List.length_append, hn1]; rfl
    have HN1 := Zi hn1
    have hc1 : (n1 : Int) + 1 > 0 := by omega
    have hc2 : (n1 : Int) < (n1 : Int) + 1 := by omega
    have hn1b : n1 <= 800000000000 := by
     have h6 := weight_len (h := hc) (ts := ts1) (t := t)
     have h7 := HN.out.nb
     have h8 := HN.out.wt
     have h9 := HBB.out.2
     omega
    have hw2 : IntKind.i64.wrap (n1 : Int) = (n1 : Int) := IntWalk.i64_in _ (by omega)
    obtain ⟨b0, off0, row, rfl, htk, hrs, hro1, hcap, hrow⟩ := HN.out.tk.last
    rw [<- hn1] at hrow hcap
    have HCUT := Zi HN.out.tk.cut
    obtain ⟨y, hy⟩ : ∃ y, y = stepV' hc [] t := ⟨_, rfl⟩
    have HY := Zi hy
    have HTKK := Zi htk
    clear hn1 hy htk HL
    apply Zl
    iterate 3 refine Zm ?_
    go_upto_region 6 with fail
    apply Zl
    iterate 5 refine Zm ?_
    refine Zw rfl (hrow) ?_
    refine wl_newv (fun q => .pointer (some ⟨q, 0, none⟩)) rfl (ex_all125 rfl _ _) ?_
    intro W5 q hbn hlq hq
    simp only [Zq]
    refine wl_storeN rfl 125 _ _ rfl info125d rfl rfl hrs hro1 hq (by show 0 + row.size <= 12; omega) ?_
    rw [put_noneA, putN_all (by rw [hrs]; rfl)]
    have hq1 := hr_new (cs := row) hq
    have hb7 := below_setRow hbn hlq row
    obtain ⟨W6, hW6⟩ : ∃ W, W = W5.setRow q row := ⟨_, rfl⟩
    rw [<- hW6] at hq1 hb7 ⊢
    have hov := HN.out.wfT t (by simp)
    have hfv := HN.out.fitT t (by simp)
    have hcl := dstep_any (nr := nc) (HN.out.dn.quiet hb7).heap (HN.out.dn.quiet hb7).fr (HTKK.out.mono (fun _ h => h) (fun b _ hl => hb7.block b hl)) ⟨fun v e => ⟨hov.1 v e, hfv v e⟩, hov.2⟩ HN.out.fit (by have h7 := HN.out.bnd; have h9 := HBB.out.1; omega)
    rw [<- HY.out] at hcl
    have HC := Zi hcl
    have HCUT6 := Zi (HCUT.out.mono (D' := Imm G1) (fun _ h => h) (fun b _ hl => hb7.block b hl))
    replace hr := below_look hb7 hr
    have HD6 := Zi (HN.out.dn.quiet hb7)
    clear hbn hlq hq hb7 hW6 hov hfv hcl hrow HTKK HCUT
    go_upto_region 7 with fail
    apply Zl
    iterate 7 refine Zm ?_
    refine wl_val rfl (ex_cut sl102 (sz102 _) _ _ _ rfl rfl rfl rfl (by omega)) ?_
    simp only [Zq]
    refine Zm ?_
    clear hc1 hc2 hw2 hcap
    go_upto_region 8 with fail
    apply Zl
    refine Zm ?_
    refine Zw rfl (row125 hq1 hrs) ?_
    refine Zn HC.out ?_; rintro e w9 ⟨M, mc, G2, rv, nr2, rfl, hmt, hd9, hnr2, hrv9, hrv1, hdv⟩; refine ⟨_, rfl, ?_⟩; simp only [Zq]
    have hrG : G1 r = some (k, .tmp) := HN.out.rr
    have hrG2 : G2 r = some (k, .tmp) := (hd9.old r (heap_lt hr)).trans hrG
    have hr9 := hd9.look hr (by rintro ⟨z, e, h5⟩; rw [hrG] at e; cases e; exact h5 rfl)
    have HCUT9 := Zi (hd9.tks HCUT6.out)
    have HMT := Zi hmt
    have HD9 := Zi (HD6.out.trans hd9)
    have HNR2 := Zi hnr2
    have HDV := Zi hdv
    have HRG2 := Zi hrG2
    obtain ⟨lm, hlm⟩ : ∃ n, n = y.2.1.length := ⟨_, rfl⟩
    obtain ⟨bd, hbd⟩ : ∃ b, b = y.2.2.isSome := ⟨_, rfl⟩
    rw [<- hlm, <- hbd]
    have HLM := Zi hlm
    have HBD := Zi hbd
    clear hr hq1 hd9 hmt hnr2 hdv hrG hrG2 HC HCUT6 HD6 hlm hbd
    have hr := hr9
    clear hr9
    iterate 4 refine Zm ?_
    have hzz := Below.refl w9.heap.size w9
    have lthrq9 := heap_lt hr; (with_reducible refine wl_allV ?_); intro W10 q9 hbn hlq9 hq9; replace hr := below_look hbn hr; replace hzz := hzz.trans (hbn.mono hzz.size); clear hbn; simp only [Zq]
    have HQ9 : Hid (G2 q9 = none) := Zi (HD9.out.fr q9 (by omega))
    iterate 2 refine Zm ?_
    (with_reducible refine wl_putV hrv9 hrv1 hzs rfl rfl hq9 ?_); rw [put_noneA]; intro W11 hbx hsz hkx hnx; replace hzz := hbx _ _ (by omega) hzz
    have hr9 := (hkx r (by omega)).trans hr
    clear hq9 hr hbx hsz hkx
    have hq9 := hnx
    have hr := hr9
    clear hnx hr9
    replace HCUT9 := Zi (HCUT9.out.mono (D' := Imm G2) (fun _ h => h) (fun b _ hl => hzz.block b hl))
    replace HMT := Zi (HMT.out.mono (D' := Imm G2) (fun _ h => h) (fun b _ hl => hzz.block b hl))
    replace HD9 := Zi (HD9.out.quiet hzz)
    replace HDV := Zi (fun (u : Va) (e : y.2.2 = some u) => (HDV.out u e).old hzz)
    clear hzz
    have HST : Hid (stepV' hc ts1 t = (y.1, ts1 ++ y.2.1, y.2.2)) := Zi (by rw [step_more, <- HY.out])
    have HFALL : Hid (weight y.1 (ts1 ++ y.2.1) < gk) := Zi (by
     have h8 := step_falls hc ts1 t
     rw [HST.out, HN.out.wt] at h8
     exact h8)
    have HLEN : Hid (ts1.length + y.2.1.length <= 800000000000) := Zi (by
     have h5 := tasks_len y.1 (ts1 ++ y.2.1)
     have h6 : weight y.1 (ts1 ++ y.2.1) < gk := HFALL.out
     have h7 := HN.out.nb
     have h9 := HBB.out.2
     rw [List.length_append] at h5
     have h10 : sumN ((ts1 ++ y.2.1).map (wT y.1)) <= weight y.1 (ts1 ++ y.2.1) := by unfold weight; omega
     omega)
    go_upto_region 9 with fail
    apply Zl
    iterate 2 refine Zm ?_
    refine wl_catT HD9.out.fr rfl _ _ rfl (show _ = Value.slice (some ⟨b0, off0, none⟩) ts1.length ts1.length by rw [<- HN1.out]; rfl) (show _ = Value.slice M y.2.1.length mc by rw [<- HLM.out]; rfl) HCUT9.out HMT.out (by have := HLEN.out; omega) ?_
    intro A' c' W12 hown hb12
    obtain ⟨l', hl'⟩ : ∃ l', l' = (ts1 ++ y.2.1).length := ⟨_, rfl⟩
    rw [<- hl']
    have HL' := Zi hl'
    clear hl'
    simp only [Zq]
    refine Zm ?_
    have HTK := Zi hown
    replace HD9 := Zi (HD9.out.quiet hb12)
    replace HDV := Zi (fun (u : Va) (e : y.2.2 = some u) => (HDV.out u e).old hb12)
    replace hr := below_look hb12 hr; replace hq9 := below_look hb12 hq9
    clear hown hb12 HCUT9 HMT
    go_upto_region 10 with fail
    apply Zl
    refine Zm ?_
    cases hdue : y.2.2 with
    | some u =>
     have hb1 : bd = true := by rw [HBD.out, hdue]; rfl
     subst hb1
     have HVU := Zi (HDV.out u hdue)
     have HRS : Hid (nextP h = ({ y.1 with lev := low ++ [ts1 ++ y.2.1] }, u, true)) := Zi (by
      have h5 := HN.out.run
      have h6 := HN.out.wt
      have h7 := HN.out.le
      have h8 : weight y.1 (ts1 ++ y.2.1) < gk := HFALL.out
      obtain ⟨m3, rfl⟩ : ∃ m3, m' = m3 + 1 := ⟨m' - 1, by omega⟩
      rw [runN_snoc, HST.out, hdue] at h5
      rw [HRES.out, <- h5])
     have HBN : Hid (nr2 <= nr + B) := Zi (by
      have h7 := HN.out.bnd
      have h8 : weight y.1 (ts1 ++ y.2.1) < gk := HFALL.out
      have h9 := HNR2.out
      omega)
     have HLV9 : Hid (y.1.lev = low ++ [ts0]) := Zi (by rw [<- HLV.out, HY.out]; exact step_lev hc [] t)
     obtain ⟨dA, dc, oA, oc, bA, bc, lA, lc, rA, rc, hh⟩ := HD9.out.heap
     obtain ⟨gl', tA', tc', rfl, hgl, hlc1, hlc2, -, -⟩ := hh.topL HLV9.out
     have hp := hh.blk
     have hll : y.1.lev.length = nl + 1 := by rw [HLV9.out, List.length_append, HNL.out]; rfl
     rw [hll] at hp
     obtain ⟨hs1, hs2, hput⟩ := hh.putL HLV9.out HTK.out
     rw [<- HNL.out] at hput hs1 hs2
     rw [<- HL'.out] at hput
     have hrg : r ≠ gl' := fun e => by have h1 := HRG2.out; rw [e, hgl] at h1; cases h1
     have hk9 := Keep.cellOne W12 gl' nl (.slice A' l' c')
     have hd9 := HD9.out.step (h' := { y.1 with lev := low ++ [ts1 ++ y.2.1] }) ⟨.lar, hgl, by simp⟩ hk9 ⟨_, _, _, _, _, _, _, _, _, _, hput⟩
     have hvu := HVU.out.mono (D' := Imm G2) (fun _ h => h) (fun b hb hl => hk9.block b hl (fun e => by subst e; unfold Imm at hb; rw [hgl] at hb; cases hb))
     have hqg : q9 ≠ gl' := fun e => by have h1 := HQ9.out; rw [e, hgl] at h1; cases h1
     have hr9 := (heap_setCell_other W12 ⟨gl', nl, none⟩ r (.slice A' l' c') hrg).trans hr
     have hqq9 := (heap_setCell_other W12 ⟨gl', nl, none⟩ q9 (.slice A' l' c') hqg).trans hq9
     have hvs := HVU.out.size
     have HD10 := Zi hd9
     have HV10 := Zi hvu
     clear hdue HDV hh hput hll hlc1 hlc2 hd9 hvu hk9 hrg hqg hgl hr hq9 HN HTK HD9 HVU
     go_upto_region 11 with fail
     apply Zl
     iterate 3 refine Zm ?_
     refine Zo rfl (dh3 hp) ?_
     iterate 4 refine Zm ?_
     refine wl_storeC rfl 102 _ _ rfl gl' nl (.slice A' l' c') rfl rfl info102s rfl hs1 hs2 ?_; rw [put_noneA]
     obtain ⟨W13, hW⟩ : ∃ W, W = W12.setCell ⟨gl', nl, none⟩ (.slice A' l' c') := ⟨_, rfl⟩
     rw [<- hW] at HD10 HV10 hr9 hqq9 ⊢
     clear hW hs1 hs2 hp
     go_upto_region 12 with fail
     apply Zl
     refine Zw rfl (row35 hqq9 hvs) ?_
     (with_reducible refine wl_putV hvs hrv1 hzs rfl rfl hr9 ?_); rw [put_noneA]; intro W14 hbx hsz hkx hnx
     have HK10 := Zi (Keep.of_put hbx hsz hkx)
     clear hbx hsz hkx hr9
     refine Zm ?_
     go_wp2_with fail
     refine bodyPost_ret (res35t rfl _ _ r rfl rfl hvs hnx) rfl ?_
     rw [HRS.out]
     exact ⟨_, rv, nr2, rfl, HV10.out.put HRG2.out HK10.out, HD10.out.put HRG2.out HRl.out HK10.out, HBN.out⟩
    | none =>
     have hb1 : bd = false := by rw [HBD.out, hdue]; rfl
     subst hb1
     have HDU := Zi hdue
     clear hdue
     go_wp2_with fail
     go_roundg (weight y.1 (ts1 ++ y.2.1))
     case measure => exact HFALL.out
     case rel =>
      have h5 := HN.out.run
      have h6 := HN.out.wt
      have h7 := HN.out.le
      have h8 : weight y.1 (ts1 ++ y.2.1) < gk := HFALL.out
      have h9 := HN.out.bnd
      have h11 := HN.out.nb
      have h10 := HNR2.out
      obtain ⟨m3, rfl⟩ : ∃ m3, m' = m3 + 1 := ⟨m' - 1, by omega⟩
      rw [runN_snoc, HST.out, HDU.out] at h5
      have hwf := step_wf HN.out.wf HN.out.wfT
      rw [HST.out] at hwf
      have hft := HN.out.fit.step HN.out.fitT
      rw [HST.out] at hft
      exact ⟨y.1, ts1 ++ y.2.1, A', c', G2, m3, nr2, l', rfl, Zi ⟨HL'.out, rfl, by omega, h5, hwf.1, hwf.2, hft.1, hft.2, by rw [<- HN.out.lev, HY.out]; exact step_lev hc [] t, by omega, by omega, HD9.out, HTK.out, HRG2.out, hr⟩⟩
end Go.Proofs.Ytpamocglecangaa
