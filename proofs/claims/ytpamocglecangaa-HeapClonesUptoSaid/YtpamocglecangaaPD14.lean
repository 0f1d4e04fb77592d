/- The document's Own. The law's eq. The program's Buffers. The law's alike: two heaps that are the same plain heap show the same. Two heaps beside one another; what a call does to both. What a call does to both heaps: shared. -/
import Derived.Test.YtpamocglecangaaPD13
import Derived.Test.YtpamocglecangaaPD11
import Derived.Test.YtpamocglecangaaPD3
import Derived.Test.YtpamocglecangaaPD10
set_option maxHeartbeats 16000000
set_option maxRecDepth 100000
namespace Go.Proofs.Ytpamocglecangaa
open Go.RowKit Go.Proofs.Ytpamocglecangaa.Nm
set_option linter.unusedSimpArgs false
theorem darray_done {w : World} {G : Gh} {k p nr : Nat} {h : Hp} (hh : DHeapAt w G k p h nr) {v : Va} {D : Nat -> Prop} {row : Array Value} (hv : VAt w D v row) : Calls Try.prog 109 #[.pointer (some ⟨p, 0, none⟩), .agg row] w fun e w' => e = .returned (.int .i64 (darrE h v)) /\ Below w.heap.size w w' := by
 obtain ⟨dA, dc, oA, oc, bA, bc, lA, lc, rA, rc, hh⟩ := hh
 exact darray_any hh hv
theorem DDone.vs {w w' : World} {G G' : Gh} {k p n' : Nat} {h' : Hp} (d : DDone w G k p h' n' w' G') {l : List Va} {A : Option Addr} {n c : Nat} (hv : VsAt w (Imm G) l A n c) : VsAt w' (Imm G') l A n c :=
 hv.low.mono (fun b hb => by have := hb.1; unfold Imm at this ⊢; rw [d.old b hb.2]; exact this) fun b hb hl => d.keep.block b hl fun hm => by obtain ⟨_, e, _⟩ := hm; have := hb.1; unfold Imm at this; rw [this] at e; cases e
theorem taken_id {h : Hp} {l : List Va} (hl : ∀ u, u ∈ l -> ofV h.obs.length h.bus.length u = true) : takenV h l = l := by
 unfold takenV
 induction l with
 | nil => rfl
 | cons a l ih =>
  rw [List.map_cons, if_pos (hl a (by simp)), ih fun u hu => hl u (by simp [hu])]
theorem darrE_0 {h : Hp} {v : Va} (he : darrE h v = 0) : ∃ (n : Nat) (o : Bu), v.num = (n : Int) /\ h.bus[n]? = some o /\ o.count ≠ 0 /\ arrV h.bus.length v = true := by
 unfold darrE at he
 split at he
 ·rename_i ha
  obtain ⟨n, o, -, hn, -, ho⟩ := arrV.get ha
  rw [hn, Int.toNat_natCast, ho] at he
  simp only at he
  split at he
  ·cases he
  ·rename_i h1
   exact ⟨n, o, hn, ho, h1, ha⟩
 ·cases he
theorem dOwn_any {G : Gh} {k p nr : Nat} {h : Hp} {w : World} (hh : DHeapAt w G k p h nr) (hf : Fr w G) (hnb : h.bus.length <= 1000000) (hle : ∀ b, b ∈ h.bus -> b.elems.length <= 1000000 /\ ∀ u, u ∈ b.elems -> ofV h.obs.length h.bus.length u = true /\ nodesF u <= 1000000) {v : Va} {row : Array Value} (hv : VAt w (Imm G) v row) (hnd : nodesF v <= 1000000) :
  Calls Try.prog 92 #[.pointer (some ⟨p, 0, none⟩), .agg row] w (DValBErr w G k p nr (ownP h v)) := by
 have HND := Zi hnd
 have HLE := Zi hle
 have HNB := Zi hnb
 clear hnd hle hnb
 have HX := Zi hh
 have HF := Zi hf
 have HV := Zi hv
 have hvs := hv.size
 have hv1 := hv.one
 have hzs : zrow.size = 9 := rfl
 have zone : zrow.all (·.oneCell') = true := (zero_va w (Imm G)).one
 have hb := Below.refl w.heap.size w
 clear hh hf hv
 go_enter Try.func92, Try.ntmps92
 go_upto_region 0 with fail
 apply Zl
 (with_reducible refine wl_boxV rfl ?_); intro W q hbn hlq hq; replace hb := hb.trans (hbn.mono hb.size); clear hbn; simp only [Zq]
 have lthqr := heap_lt hq; (with_reducible refine wl_allV ?_); intro W2 r hbn hlr hr; replace hq := below_look hbn hq; replace hb := hb.trans (hbn.mono hb.size); clear hbn; simp only [Zq]
 refine Zm ?_; refine Zm ?_
 have hrl : w.heap.size <= r := by omega
 have hql := heap_lt hq
 have HRl := Zi hrl
 have hqG : G q = none := HF.out q (by omega)
 have HQ : Hid (¬ Mine (mark G k r) k q) := Zi (by rintro ⟨x, e, -⟩; unfold mark at e; rw [if_neg (by omega), hqG] at e; cases e)
 have HDn := Zi (DDone.marked HX.out HF.out hb hrl (heap_lt hr))
 have HM := Zi (mark_same G k r)
 have HNM := Zi (mark_not G k r)
 have hvv := HDn.out.va HV.out
 clear HV
 have HV := Zi hvv
 clear hvv HX HF hb hrl hql hqG
 obtain ⟨pe, hpe⟩ : ∃ z, z = darrE h v := ⟨_, rfl⟩
 have hc := darray_done HDn.out.heap HV.out
 rw [<- hpe] at hc
 have HC := Zi hc
 have HPE := Zi hpe
 clear hc hpe
 go_upto_region 1 with fail
 apply Zl
 refine Zm ?_
 refine Zw rfl (row35 hq hvs) ?_
 refine Zn HC.out ?_; rintro e w7 ⟨rfl, hb7⟩; refine ⟨_, rfl, ?_⟩; simp only [Zq]
 replace HDn := Zi (HDn.out.quiet hb7); replace HV := Zi (HV.out.old hb7); replace hq := below_look hb7 hq; replace hr := below_look hb7 hr; clear hb7
 refine Zm ?_
 clear HC
 go_upto_region 2 with fail
 by_cases c0 : pe = 0
 ·subst c0
  obtain ⟨n, o, hn, ho, hc0, ha⟩ := darrE_0 HPE.out.symm
  obtain ⟨o1, ho1⟩ : ∃ o1, (cntVs 1 o.elems h).bus[n]? = some o1 := by
   have h1 := (cntVs_same 1 o.elems h).2.1
   have h2 := (List.getElem?_eq_some_iff.1 ho).1
   exact ⟨_, List.getElem?_eq_getElem (by omega)⟩
  have HD : Hid (ownP h v = (if o.count = 1 then (h, v, false, (0 : Int)) else ({ cntVs 1 o.elems h with bus := (cntVs 1 o.elems h).bus.set n (addB (-1) o1) ++ [⟨1, o.elems⟩] }, v.setNum (h.bus.length : Int), true, (0 : Int)))) := Zi (by unfold ownP; rw [ha, if_pos rfl, hn, Int.toNat_natCast, ho]; simp only [if_neg hc0, ho1])
  have HO1 := Zi ho1
  have hnl := (List.getElem?_eq_some_iff.1 ho).1
  have hnlI : (n : Int) < (h.bus.length : Int) := by omega
  obtain ⟨dA, dc, oA, oc, bA, bc, lA, lc, rA, rc, hh⟩ := HDn.out.heap
  obtain ⟨g, fA, fc, rfl, hgr, hL, hLV, -⟩ := hh.buf ho
  have hol := HLE.out o (List.mem_of_getElem? ho)
  have HOL := Zi hol
  have HL := Zi hL
  have HOO := Zi ho
  have HN := Zi hn
  have HLV := Zi hLV
  have hp := hh.blk
  obtain ⟨trv, A2v, l2v, c2v, A3v, l3v, c3v, hrv⟩ := HV.out.row
  have HRV := Zi hrv
  clear hL hLV hh ho hrv hn hol ho1 hgr hc0 ha
  apply Zl
  iterate 2 refine Zm ?_
  go_upto_region 4 with fail
  refine wp_region_belowAll mixed (by kernel_rfl) ?_
  iterate 3 refine Zt ?_
  refine Zv rfl (fun w' hw' => dh2 (below_look hw' hp)) ?_
  refine Zt ?_
  refine Zv rfl (fun w' hw' => vnN (below_look hw' hq) HRV HN) ?_
  iterate 2 refine Zt ?_
  refine Zv rfl (fun w' hw' => (HL.out w' hw').c) ?_
  refine Zt ?_
  intro w9 hb9
  have HL9 := Zi (fun w' hw => HL.out w' (hb9.trans (Below.mono hw hb9.size)))
  replace HLV := Zi (HLV.out.moved (Keep.of (C := fun _ => False) hb9) (fun b e => e.elim) (fun _ _ => rfl))
  replace HDn := Zi (HDn.out.quiet hb9)
  replace HV := Zi (HV.out.old hb9)
  replace hp := below_look hb9 hp; replace hq := below_look hb9 hq; replace hr := below_look hb9 hr
  clear hb9 HL
  have HL := HL9
  clear HL9
  by_cases c1 : o.count = 1
  ·have e1 : (o.count == 1) = true := by simp [c1]
   rw [if_pos c1] at HD
   clear c1 HL hp HLV
   have HC := Zi (CopyValue_any v HND.out w9 _ _ HV.out)
   go_upto_region 5 with fail
   apply Zl
   refine Zw rfl (row35 hq hvs) ?_
   refine Zn HC.out ?_; rintro e w10 ⟨row9, rfl, hv9, hb10⟩; refine ⟨_, rfl, ?_⟩; simp only [Zq]
   have hvs9 := hv9.size
   have hv19 := hv9.one
   have HV9 := Zi (HDn.out.newva hv9)
   replace HDn := Zi (HDn.out.quiet hb10)
   replace hr := below_look hb10 hr
   clear hb10 hv9 HC
   (with_reducible refine wl_putV hvs9 hv19 hzs rfl rfl hr ?_); rw [put_noneA]; intro W13 hbx hsz hkx hnx
   have HK12 := Zi (Keep.of_put hbx hsz hkx)
   clear hbx hsz hkx hr
   iterate 2 refine Zm ?_
   go_wp2_with fail
   refine bodyPost_ret (res35tt rfl _ _ r rfl rfl rfl hvs9 hnx) rfl ?_
   rw [HD.out]
   exact ⟨_, _, rfl, HV9.out.put HM.out HK12.out, HDn.out.put HM.out HRl.out HK12.out⟩
  ·have e1 : (o.count == 1) = false := by simp [c1]
   rw [if_neg c1] at HD
   clear c1
   have hbz : Below w9.heap.size w9 w9.drew := (Below.refl _ _).drew
   obtain ⟨rows5, hro, hrl, hrr, hva⟩ := HLV.out
   have hvsl := hLVvs (D2 := fun _ => True) hro hrl hva (fun _ _ => trivial) (fun _ _ => trivial)
   have HC := Zi (CopyValues_any o.elems HOL.out.1 (fun u hu => (HOL.out.2 u hu).2) fA o.elems.length fc w9.drew _ (hvsl.old hbz))
   clear hro hrl hrr hva hvsl
   go_upto_region 6 with fail
   refine wp_region_Z (S := Below w9.heap.size w9) 10 mixed hbz (fun hS => ?_)
   refine zm 0 hS ?_; try simp only [Zq]
   refine zm 1 hS ?_; try simp only [Zq]
   refine zm 2 hS ?_; try simp only [Zq]
   refine zv4 (i := 3) rfl (by kernel_rfl) Zg hS rfl (fun w' hw' => ex_one rfl (dh2 (below_look hw' hp))) ?_; try simp only [Zq]
   refine zm 4 hS ?_; try simp only [Zq]
   refine zv4 (i := 5) rfl (by kernel_rfl) Zg hS rfl (fun w' hw' => ex_one rfl (vnN (below_look hw' hq) HRV HN)) ?_; try simp only [Zq]
   refine zm 6 hS ?_; try simp only [Zq]
   refine zm 7 hS ?_; try simp only [Zq]
   refine zv4 (i := 8) rfl (by kernel_rfl) Zg hS rfl (fun w' hw' => ex_one rfl (HL.out w' hw').e) ?_; try simp only [Zq]
   refine za_call (i := 9) (by kernel_rfl) rfl rfl (fun K hK => ?_); go_simp; refine ⟨_, _, ⟨rfl, rfl⟩, hK _ _ ⟨_, HC.out, ?_⟩⟩; clear hK K; rintro e w11 ⟨A7, c7, rows7, rfl, ho7, hl7, hA7, hv7, hb11⟩
   have hbb := hbz.trans (hb11.mono hbz.size)
   refine ⟨_, rfl, fun _ => hbb, ?_⟩
   clear hS
   have hS := hbb
   try simp only [Zq]
   have hvs7 := (NewC.vs ho7 hl7 hA7 hv7).weak (D' := Imm (mark G k r)) fun b (h9 : w9.drew.heap.size <= b) => HDn.out.fr b (by have := hbz.size; omega)
   have HVS := Zi hvs7
   replace HDn := Zi (HDn.out.quiet hbb)
   replace HV := Zi (HV.out.old hbb)
   replace hq := below_look hbb hq; replace hr := below_look hbb hr
   clear hbb hb11 hbz ho7 hl7 hA7 hv7 hvs7 HC HL hp HLV
   refine zn 10 hS ?_; try simp only [Zq]
   clear hS
   refine za_done (by kernel_rfl) ?_ _
   have H0 : Hid (DDone w11 (mark G k r) k p (cntVs 1 (o.elems.take 0) h) nr w11 (mark G k r)) := Zi (by rw [List.take_zero, cntVs]; exact DDone.calm HDn.out.heap HDn.out.fr (Below.refl _ _))
   go_upto_region 7 with fail
   apply Zl
   refine Zm ?_
   go_wp2_with fail
   go_loopw [9] (fun i wr => ∃ j : Nat, j <= o.elems.length /\ i = .int .i64 (j : Int) /\ Hid (DDone w11 (mark G k r) k p (cntVs 1 (o.elems.take j) h) nr wr (mark G k r))) (fun i _ => o.elems.length - (intOf i).toNat)
   case atStart => exact ⟨0, by omega, rfl, H0⟩
   case round =>
    clear H0
    obtain ⟨j, hj, rfl, HA⟩ := hrel
    have hjb : o.elems.length <= 1000000 := HOL.out.1
    go_upto_region 8 with fail
    by_cases hlt : j < o.elems.length
    ·have hltI : (j : Int) < (o.elems.length : Int) := by omega
     obtain ⟨fb, foff, u, rowu, rfl, -, hu, hua, hrow⟩ := (HA.out.vs HVS.out).getB hlt
     have HST := Zi (cntVs_take (by_ := 1) hu h)
     have HRU := Zi (hrow wr (Below.refl _ _))
     obtain ⟨e5, e6, -, -⟩ := cntVs_same 1 (o.elems.take j) h
     have HC := Zi (dcount_done HA.out.heap HA.out.fr hua 1 (by rfl) (by rw [e5, e6]; exact (HOL.out.2 u (List.mem_of_getElem? hu)).1))
     clear hu hua hrow e5 e6
     apply Zl
     iterate 4 refine Zm ?_
     go_upto_region 10 with fail
     apply Zl
     iterate 4 refine Zm ?_
     refine Zw rfl (HRU.out) ?_
     refine Zn HC.out ?_; rintro e w12 ⟨rfl, hd12⟩; refine ⟨_, rfl, ?_⟩; simp only [Zq]
     have HA7 := Zi (HA.out.trans hd12)
     rw [<- HST.out] at HA7
     clear hd12 HC HST HA
     go_wp2_with fail
     go_roundw
     case rel => exact ⟨j + 1, by omega, by go_num, HA7⟩
     case measure => simp [intOf]; omega
    ·have hltI : ¬ (j : Int) < (o.elems.length : Int) := by omega
     apply Zl
     iterate 4 refine Zm ?_
     obtain ⟨hx, hhx⟩ : ∃ hx, hx = cntVs 1 o.elems h := ⟨_, rfl⟩
     rw [List.take_of_length_le (by omega), <- hhx] at HA
     rw [<- hhx] at HD HO1
     have hlx : hx.bus.length = h.bus.length /\ hx.obs.length = h.obs.length := by rw [hhx]; exact ⟨(cntVs_same 1 o.elems h).2.1, (cntVs_same 1 o.elems h).1⟩
     have hnx : (n : Int) < (hx.bus.length : Int) := by omega
     have HLX := Zi hlx
     replace hq := HA.out.look hq HQ.out
     replace hr := HA.out.look hr HNM.out
     replace HV := Zi (HA.out.va HV.out)
     replace HVS := Zi (HA.out.vs HVS.out)
     replace HDn := Zi (HDn.out.trans HA.out)
     obtain ⟨dA, dc, oA, oc, bA, bc, lA, lc, rA, rc, hh⟩ := HDn.out.heap
     obtain ⟨g2, fA2, fc2, rfl, hgr2, hL2, -, -⟩ := hh.buf HO1.out
     have hbz : Below wr.heap.size wr wr.drew := (Below.refl _ _).drew
     obtain ⟨hs1, hs2, -, hset⟩ := (hh.old hbz).stB HO1.out
     have hst := hset (w64 (o1.count + -1)) (addB (-1) o1) rfl rfl
     have HL := Zi hL2
     have hp := hh.blk
     have hrg : r ≠ g2 := fun e => by have h1 := HM.out; have h2 := hgr2; rw [<- e, h1] at h2; cases h2
     have hqg : q ≠ g2 := fun e => HQ.out ⟨.bar, by rw [e]; exact hgr2, by simp⟩
     have hk9 := Keep.cellOne wr.drew g2 (n * 2) (.int .i64 (w64 (o1.count + -1)))
     have hd9 := (DDone.calm (⟨_, _, _, _, _, _, _, _, _, _, hh⟩ : DHeapAt wr (mark G k r) k p hx nr) HDn.out.fr hbz).step (h' := { hx with bus := hx.bus.set n (addB (-1) o1) }) ⟨.bar, hgr2, by simp⟩ hk9 ⟨_, _, _, _, _, _, _, _, _, _, hst⟩
     have HD9 := Zi hd9
     have hr9 := hd9.look hr HNM.out
     have hq9 := hd9.look hq HQ.out
     clear hL2 hgr2 hh hset hst hk9 hd9 hrg hqg hlx hhx HA hlt hltI
     go_upto_region 11 with fail
     refine wp_region_Z (S := Below wr.heap.size wr) 18 mixed hbz (fun hS => ?_)
     refine zm 0 hS ?_; try simp only [Zq]
     refine zm 1 hS ?_; try simp only [Zq]
     refine zm 2 hS ?_; try simp only [Zq]
     refine zv4 (i := 3) rfl (by kernel_rfl) Zg hS rfl (fun w' hw' => ex_one rfl (dh2 (below_look hw' hp))) ?_; try simp only [Zq]
     refine zm 4 hS ?_; try simp only [Zq]
     refine zv4 (i := 5) rfl (by kernel_rfl) Zg hS rfl (fun w' hw' => ex_one rfl (vnN (below_look hw' hq) HRV HN)) ?_; try simp only [Zq]
     refine zm 6 hS ?_; try simp only [Zq]
     refine zm 7 hS ?_; try simp only [Zq]
     refine zm 8 hS ?_; try simp only [Zq]
     refine zv4 (i := 9) rfl (by kernel_rfl) Zg hS rfl (fun w' hw' => ex_one rfl (dh2 (below_look hw' hp))) ?_; try simp only [Zq]
     refine zm 10 hS ?_; try simp only [Zq]
     refine zv4 (i := 11) rfl (by kernel_rfl) Zg hS rfl (fun w' hw' => ex_one rfl (vnN (below_look hw' hq) HRV HN)) ?_; try simp only [Zq]
     refine zm 12 hS ?_; try simp only [Zq]
     refine zm 13 hS ?_; try simp only [Zq]
     refine zv4 (i := 14) rfl (by kernel_rfl) Zg hS rfl (fun w' hw' => ex_one rfl (HL.out w' hw').c) ?_; try simp only [Zq]
     refine zm 15 hS ?_; try simp only [Zq]
     refine zn 16 hS ?_; try simp only [Zq]
     refine zn 17 hS ?_; try simp only [Zq]
     refine za_storeC (i := 18) (by kernel_rfl) rfl rfl 3 _ _ rfl g2 (n * 2) (.int .i64 (w64 (o1.count + -1))) rfl rfl info3 rfl hs1 hs2 (fun h => absurd rfl h) ?_
     refine za_done (by kernel_rfl) ?_ _
     clear hs1 hs2 hS hr hq hp HL hbz
     have hr := hr9
     have hq := hq9
     clear hr9 hq9
     obtain ⟨W12, hW⟩ : ∃ W, W = wr.drew.setCell ⟨g2, n * 2, none⟩ (.int .i64 (w64 (o1.count + -1))) := ⟨_, rfl⟩
     rw [<- hW] at HD9 hr hq ⊢
     clear hW
     obtain ⟨hy, hhy⟩ : ∃ hy : Hp, hy = { hx with bus := hx.bus.set n (addB (-1) o1) } := ⟨_, rfl⟩
     rw [<- hhy] at HD9
     have hly : hy.bus.length = h.bus.length /\ hy.obs.length = h.obs.length := by rw [hhy]; exact ⟨by show (hx.bus.set n _).length = _; rw [List.length_set]; exact HLX.out.1, HLX.out.2⟩
     have HLY := Zi hly
     have HHY := Zi hhy
     replace HV := Zi (HD9.out.va HV.out)
     replace HVS := Zi (HD9.out.vs HVS.out)
     replace HDn := Zi (HDn.out.trans HD9.out)
     obtain ⟨trw, A2w, l2w, c2w, A3w, l3w, c3w, hrw⟩ := HV.out.row
     have HRW := Zi hrw
     have hcc := dArray_any HDn.out.heap HDn.out.fr (by rw [hly.1]; exact HNB.out) hrw.ty (by have := HND.out; rw [nodesF_eq] at this; omega) HVS.out HOL.out.1 (fun u hu => (HOL.out.2 u hu).2)
     have htid : takenV hy o.elems = o.elems := taken_id fun u hu => by rw [hly.1, hly.2]; exact (HOL.out.2 u hu).1
     have hap : arrayP hy v.typ o.elems = ({ hy with bus := hy.bus ++ [⟨1, o.elems⟩] }, .node 8 (h.bus.length : Int) ⟨#[]⟩ v.typ [] []) := by unfold arrayP; rw [htid, hly.1]
     rw [hap] at hcc
     have HC := Zi hcc
     clear hcc htid hap hrw hly hhy HD9 HLX hnx HVS HRV
     go_upto_region 12 with fail
     apply Zl
     iterate 2 refine Zm ?_
     refine Zw rfl (vt hq HRW) ?_
     refine Zm ?_
     refine Zn HC.out ?_; rintro e w13 ⟨G9, row9, rfl, hva9, hd9⟩; refine ⟨_, rfl, ?_⟩; simp only [Zq]
     have hm9 : G9 r = some (k, .tmp) := (hd9.old r (heap_lt hr)).trans HM.out
     have hr9 := hd9.look hr HNM.out
     have hq9 := hd9.look hq HQ.out
     replace HV := Zi (hd9.va HV.out)
     replace HDn := Zi (HDn.out.trans hd9)
     have HM9 := Zi hm9
     have HVA9 := Zi hva9
     have hs9 := hva9.size
     have h19 := hva9.one
     clear hm9 hd9 hva9 hr hq HC HRW
     have hr := hr9
     have hq := hq9
     clear hr9 hq9
     have hzz := Below.refl w13.heap.size w13
     have lthrq10 := heap_lt hr; have lthqq10 := heap_lt hq; (with_reducible refine wl_allV ?_); intro W14 q10 hbn hlq10 hq10; replace hr := below_look hbn hr; replace hq := below_look hbn hq; replace hzz := hzz.trans (hbn.mono hzz.size); clear hbn; simp only [Zq]
     (with_reducible refine wl_putV hs9 h19 hzs rfl rfl hq10 ?_); rw [put_noneA]; intro W15 hbx hsz hkx hnx; replace hzz := hbx _ _ (by omega) hzz
     have hr9 := (hkx r (by omega)).trans hr
     have hq9 := (hkx q (by omega)).trans hq
     clear hq10 hr hq hbx hsz hkx
     have hq10 := hnx
     have hr := hr9
     have hq := hq9
     clear hnx hr9 hq9
     have HSZ := Zi hzz.size
     have HC := Zi (CopyValue_any v HND.out W15 _ _ (HV.out.old hzz))
     go_upto_region 13 with fail
     apply Zl
     refine Zw rfl (row35 hq hvs) ?_
     refine Zn HC.out ?_; rintro e w16 ⟨row16, rfl, hv16, hb16⟩; refine ⟨_, rfl, ?_⟩; simp only [Zq]
     have hvs16 := hv16.size
     have hv116 := hv16.one
     have HV16 : Hid (VAt w16 (fun b => W15.heap.size <= b /\ b < w16.heap.size) v row16) := Zi (hv16.low)
     replace hr := below_look hb16 hr; replace hq10 := below_look hb16 hq10; replace hzz := hzz.trans (hb16.mono hzz.size); clear hb16
     clear hv16 HC hq
     have hz6 := Below.refl w16.heap.size w16
     have lthrq11 := heap_lt hr; have lthq10q11 := heap_lt hq10; (with_reducible refine wl_allV ?_); intro W17 q11 hbn hlq11 hq11; replace hr := below_look hbn hr; replace hq10 := below_look hbn hq10; replace hzz := hzz.trans (hbn.mono hzz.size); replace hz6 := hz6.trans (hbn.mono hz6.size); clear hbn; simp only [Zq]
     (with_reducible refine wl_putV hvs16 hv116 hzs rfl rfl hq11 ?_); rw [put_noneA]; intro W18 hbx hsz hkx hnx; replace hzz := hbx _ _ (by omega) hzz; replace hz6 := hbx _ _ (by omega) hz6
     have hr9 := (hkx r (by omega)).trans hr
     have hq9 := (hkx q10 (by omega)).trans hq10
     clear hq11 hr hq10 hbx hsz hkx
     have hq11 := hnx
     have hr := hr9
     have hq10 := hq9
     clear hnx hr9 hq9
     have hwf := wf_num HVA9.out
     have hol0 : OneAt W18 3 ⟨q10, 1, none⟩ (.int .i64 (h.bus.length : Int)) := by
      obtain ⟨trx, A2x, l2x, c2x, A3x, l3x, c3x, hrx⟩ := HVA9.out.row
      exact one_of Go.Proofs.Ytpamocglecangaa.u3 rfl (by rw [cell_of_row _ _ _ _ _ _ hq10]; exact hrx.at1)
     clear HVA9 hq10
     go_upto_region 14 with fail
     apply Zl
     refine Zm ?_
     refine Zo rfl (hol0) ?_
     refine Zm ?_
     (with_reducible refine wl_putC (v := .int .i64 (h.bus.length : Int)) info3 rfl rfl rfl hq11 (by rw [hvs16]; omega) ?_); rw [put_noneA]; intro W19 hbx hsz hkx hnx; replace hzz := hbx _ _ (by omega) hzz; replace hz6 := hbx _ _ (by omega) hz6
     have hr9 := (hkx r (by omega)).trans hr
     clear hq11 hr hbx hsz hkx hol0
     have hq11 := hnx
     have hr := hr9
     clear hnx hr9
     obtain ⟨row17, hrow17⟩ : ∃ x, x = row16.setIfInBounds 1 (.int .i64 (h.bus.length : Int)) := ⟨_, rfl⟩
     have hva17 := setNum_at ((HV16.out.mono (D' := Imm G9) (fun b hb => HDn.out.fr b (by have h1 := hb.1; have h2 := hb.2; have h3 := HSZ.out; omega)) (fun b hb hl => hz6.block b hb.2))) hwf
     rw [show (Va.node 8 (h.bus.length : Int) ⟨#[]⟩ v.typ [] []).num = (h.bus.length : Int) from rfl, <- hrow17] at hva17
     rw [<- hrow17] at hq11
     replace HDn := Zi (HDn.out.quiet hzz)
     have HV17 := Zi hva17
     have hs17 := hva17.size
     have h117 := hva17.one
     clear hrow17 hva17 hzz hz6 HV16 hwf HV
     go_upto_region 15 with fail
     apply Zl
     refine Zw rfl (row35 hq11 hs17) ?_
     (with_reducible refine wl_putV hs17 h117 hzs rfl rfl hr ?_); rw [put_noneA]; intro W20 hbx hsz hkx hnx
     have HK12 := Zi (Keep.of_put hbx hsz hkx)
     clear hbx hsz hkx hr
     iterate 2 refine Zm ?_
     go_wp2_with fail
     refine bodyPost_ret (res35tt rfl _ _ r rfl rfl rfl hs17 hnx) rfl ?_
     rw [HD.out]
     have hfin : ({ hx with bus := hx.bus.set n (addB (-1) o1) ++ [⟨1, o.elems⟩] } : Hp) = { hy with bus := hy.bus ++ [⟨1, o.elems⟩] } := by rw [HHY.out]
     rw [hfin]
     exact ⟨_, _, rfl, HV17.out.put HM9.out HK12.out, HDn.out.put HM9.out HRl.out HK12.out⟩
 ·have HD : Hid (ownP h v = (h, va0, false, pe)) := Zi (by
   have h1 := HPE.out
   unfold darrE at h1
   unfold ownP
   split at h1
   ·rename_i ha
    rw [if_pos ha]
    split at h1
    ·rename_i b hb
     split at h1
     ·rename_i h2
      simp only [hb, if_pos h2, h1]
     ·exact absurd h1 c0
    ·rename_i hb
     simp only [hb, h1]
   ·rename_i ha
    rw [if_neg ha, h1])
  have h0b : (pe != 0) = true := by simp [c0]
  clear c0
  apply Zl
  iterate 2 refine Zm ?_
  go_upto_region 3 with fail
  apply Zl
  refine wl_w rfl (build35 _ _ rfl _) ?_
  simp only [Zq]
  refine Zm ?_
  (with_reducible refine wl_putV rfl zone hzs rfl rfl hr ?_); rw [put_noneA]; intro W10 hbx hsz hkx hnx
  replace HDn := Zi (HDn.out.put HM.out HRl.out (Keep.of_put hbx hsz hkx))
  clear hr hbx hsz hkx
  have hr := hnx
  clear hnx
  iterate 2 refine Zm ?_
  go_wp2_with fail
  refine bodyPost_ret (res35tt rfl _ _ r rfl rfl rfl rfl hr) rfl ?_
  rw [HD.out]
  exact ⟨_, zrow, rfl, zero_va _ _, HDn.out⟩
theorem eqVa_same (v : Va) : eqVa v v = true := by simp [eqVa]
theorem eqVas_same (l : List Va) : eqVas l l = true := by simp [eqVas]
theorem eq_any {w : World} {D D' : Nat -> Prop} {v u : Va} {row row' : Array Value} (hv : VAt w D v row) (hu : VAt w D' u row') : Calls Try.prog 44 #[.agg row, .agg row'] w fun e w' => e = .returned (.bool (eqVa v u)) /\ Below w.heap.size w w' := by
 have HV := Zi hv
 have HU := Zi hu
 have hvs := hv.size
 have hus := hu.size
 obtain ⟨B, hB⟩ : ∃ B, B = eqVa v u := ⟨_, rfl⟩
 rw [<- hB]
 have HB := Zi hB
 have hb := Below.refl w.heap.size w
 clear hv hu hB
 go_enter Try.func44, Try.ntmps44
 go_upto_region 0 with fail
 apply Zl
 (with_reducible refine wl_boxV rfl ?_); intro W p hbn hlp hp; replace hb := hb.trans (hbn.mono hb.size); clear hbn; simp only [Zq]
 have lthpq := heap_lt hp; (with_reducible refine wl_boxV rfl ?_); intro W2 q hbn hlq hq; replace hp := below_look hbn hp; replace hb := hb.trans (hbn.mono hb.size); clear hbn; simp only [Zq]
 refine Zm ?_
 have hc := EqValue_any v u W2 _ _ _ _ (HV.out.old hb) (HU.out.old hb)
 rw [<- HB.out] at hc
 have HC := Zi hc
 clear hc
 go_upto_region 1 with fail
 apply Zl
 refine Zw rfl (row35 hp hvs) ?_
 refine Zw rfl (row35 hq hus) ?_
 refine Zn HC.out ?_; rintro e w7 ⟨rfl, hb7⟩; refine ⟨_, rfl, ?_⟩; simp only [Zq]
 refine Zm ?_
 go_wp2_with fail
 go_ret
 exact ⟨rfl, hb.trans (hb7.mono hb.size)⟩
def FinB (w w' : World) (G : Gh) (q : Nat) (o : Bu) (row : Array Value) : Prop := ∃ fA fc frows, row = #[.int .i64 o.count, .slice fA o.elems.length fc] /\ OwnL w' 35 9 fA fc frows /\ frows.length = o.elems.length /\ (∀ g, fA = some ⟨g, 0, none⟩ -> q < g) /\ ∀ (j : Nat) (v : Va) (r : Array Value), o.elems[j]? = some v -> frows[j]? = some r -> VAt w' (Lw w (Imm G)) v r
theorem FinB.keep {w w1 w2 : World} {G : Gh} {q : Nat} {o : Bu} {row : Array Value} (h : FinB w w1 G q o row) (hq : w.heap.size <= q) (hk : Keep (fun b => b = q) w1 w2) : FinB w w2 G q o row := by
 obtain ⟨fA, fc, frows, h1, h3, h4, h5, h6⟩ := h
 have hC : ∀ b, Lw w (Imm G) b -> ¬ b = q := fun b hb e => by have := hb.2; omega
 exact ⟨fA, fc, frows, h1, h3.keep hk (fun g e hg => by have := h5 g e; omega), h4, h5, fun j v r e1 e2 => (h6 j v r e1 e2).keep hk hC⟩
theorem FinB.old {w w1 w2 : World} {G : Gh} {q : Nat} {o : Bu} {row : Array Value} (h : FinB w w1 G q o row) (hb : Below w1.heap.size w1 w2) : FinB w w2 G q o row := by
 obtain ⟨fA, fc, frows, h1, h3, h4, h5, h6⟩ := h
 exact ⟨fA, fc, frows, h1, h3.old hb, h4, h5, fun j v r e1 e2 => (h6 j v r e1 e2).old hb⟩
def BusOut (w : World) (G : Gh) (obs : List Bu) (e : Ending) (w' : World) : Prop := ∃ q c rows, e = .returned (.slice (some ⟨q, 0, none⟩) obs.length c) /\ OwnL w' 97 2 (some ⟨q, 0, none⟩) c rows /\ rows.length = obs.length /\ w.heap.size <= q /\ (∀ (i : Nat) (o : Bu) (row : Array Value), obs[i]? = some o -> rows[i]? = some row -> FinB w w' G q o row) /\ Below w.heap.size w w'
theorem Buffers_any {G : Gh} {k p : Nat} {h : Hp} {w : World} (hh : HeapAt w G k p h) (hno : h.bus.length <= 1000000) (hfl : ∀ o, o ∈ h.bus -> o.elems.length <= 2000000) : Calls Try.prog 38 #[.pointer (some ⟨p, 0, none⟩)] w (BusOut w G h.bus) := by
 obtain ⟨oA, oc, bA, bc, m, lA, lc, hh⟩ := hh
 obtain ⟨rows0, ho0, hl0, hr0, hv0⟩ := hh.bus
 have hone : ∀ r, r ∈ rows0 -> r.all (·.oneCell') = true := fun r hr => by
  obtain ⟨j, hj⟩ := List.mem_iff_getElem?.1 hr
  have hjl := (List.getElem?_eq_some_iff.1 hj).1
  obtain ⟨fA, fc, hx⟩ := hv0 j _ r (List.getElem?_eq_getElem (by omega)) hj
  rw [hx.eq]
  simp [Value.oneCell']
 have HO0 := Zi ho0
 have HL0 := Zi hl0
 have HV0 := Zi hv0
 have HON := Zi hone
 have HFL := Zi hfl
 have hp := hh.blk
 obtain ⟨n, hn⟩ : ∃ n, n = h.bus.length := ⟨_, rfl⟩
 rw [<- hn] at hp hno
 have HNN := Zi hn
 have hb := Below.refl w.heap.size w
 clear hh ho0 hl0 hr0 hv0 hone hfl hn
 go_enter Try.func38, Try.ntmps38
 go_upto_region 0 with fail
 apply Zl
 refine Zm ?_
 go_upto_region 1 with fail
 apply Zl
 iterate 2 refine Zm ?_
 go_upto_region 3 with fail
 apply Zl
 iterate 3 refine Zm ?_
 refine Zo rfl (h1 hp) ?_
 refine Zm ?_
 refine wl_makeL elt78 rfl _ _ rfl (n := n) (c := n) rfl rfl (Nat.le_refl _) (by omega) (by unfold maxLen; omega) ?_
 intro W q hbn hlq hlt hown
 simp only [Zq]
 have HOW := Zi hown
 replace hp := below_look hbn hp
 have hb1 := hb.trans (hbn.mono hb.size)
 clear hbn hown hb
 refine Zm ?_
 go_upto_region 4 with fail
 apply Zl
 iterate 4 refine Zm ?_
 refine Zo rfl (h1 hp) ?_
 refine wl_copyL elt78 rfl _ _ rfl rfl rfl HOW.out (by simp) rfl (HO0.out.old hb1) (by rw [HL0.out, HNN.out]) HON.out hlt ?_
 intro W2 hown2 hk2
 try simp only [Zq]
 have HO2 := Zi hown2
 have hb := Below.keep hb1 hk2 (fun b e => by omega)
 have hq2 : q < W2.heap.size := by have := hk2.size; omega
 have HB2 := Zi hb
 have H0 : Hid (∀ (i : Nat) (o : Bu) (row : Array Value), h.bus[i]? = some o -> rows0[i]? = some row -> (i < 0 -> FinB w W2 G q o row) /\ (0 <= i -> rows0[i]? = some row)) := Zi (fun i o row h1 h2 => ⟨fun h => absurd h (by omega), fun _ => h2⟩)
 have HRL : Hid (rows0.length = n) := Zi (by rw [HL0.out, HNN.out])
 clear HOW hp hb1 hown2 hk2 hlt hb
 go_upto_region 5 with fail
 apply Zl
 iterate 3 refine Zm ?_
 go_wp2_with fail
 go_loopw [21] (fun i wr => ∃ (j : Nat) (rows : List (Array Value)), j <= n /\ i = .int .i64 (j : Int) /\ Hid (OwnL wr 97 2 (some ⟨q, 0, none⟩) n rows) /\ Hid (rows.length = n) /\ Hid (∀ (i : Nat) (o : Bu) (row : Array Value), h.bus[i]? = some o -> rows[i]? = some row -> (i < j -> FinB w wr G q o row) /\ (j <= i -> rows0[i]? = some row)) /\ Hid (Below w.heap.size w wr) /\ q < wr.heap.size) (fun i _ => n - (intOf i).toNat)
 case atStart => exact ⟨0, rows0, by omega, rfl, HO2, HRL, H0, HB2, hq2⟩
 case round =>
  clear HO2 HRL H0 HB2 hq2
  obtain ⟨j, rows, hj, rfl, HO, HRL, HF, HB, hq⟩ := hrel
  go_upto_region 6 with fail
  by_cases hlt : j < n
  ·have hltI : (j : Int) < (n : Int) := by omega
   have hojl : j < h.bus.length := by rw [<- HNN.out]; exact hlt
   have ho := List.getElem?_eq_getElem hojl
   obtain ⟨o, hoe⟩ : ∃ o, o = h.bus[j] := ⟨_, rfl⟩
   rw [<- hoe] at ho
   have hr1 : rows[j]? = some (rows[j]'(by rw [HRL.out]; exact hlt)) := List.getElem?_eq_getElem _
   obtain ⟨row, hrow⟩ : ∃ row, row = rows[j]'(by rw [HRL.out]; exact hlt) := ⟨_, rfl⟩
   rw [<- hrow] at hr1
   have hr0 := (HF.out j o row ho hr1).2 (Nat.le_refl _)
   obtain ⟨fA, fc, hx⟩ := HV0.out j o row ho hr0
   obtain ⟨frows, hfo, hfl, hfr, hfv⟩ := hx.elm
   have h8 : row[1]? = some (.slice fA o.elems.length fc) := by rw [hx.eq]; rfl
   have HLD := Zi (one_of Go.Proofs.Ytpamocglecangaa.u33 rfl (HO.out.cell hr1 h8))
   have hcc := CloneR_any (hfo.old HB.out) (fun r hr => by
    obtain ⟨i, hi⟩ := List.mem_iff_getElem?.1 hr
    have hil := (List.getElem?_eq_some_iff.1 hi).1
    exact (hfv i _ r (List.getElem?_eq_getElem (by omega)) hi).one) (by have := HFL.out o (List.mem_of_getElem? ho); omega)
   rw [hfl] at hcc
   have HC := Zi hcc
   have HOO := Zi ho
   have HR1 := Zi hr1
   have HXX := Zi hx
   have HFV := Zi hfv
   have HFLN := Zi hfl
   clear hoe hrow hr0 hx hfo hfl hfr hfv h8 hcc ho hr1 hojl
   apply Zl
   refine Zm ?_
   go_upto_region 7 with fail
   apply Zl
   iterate 2 refine Zm ?_
   go_upto_region 8 with fail
   apply Zl
   iterate 6 refine Zm ?_
   refine Zo rfl (HLD.out) ?_
   refine Zn HC.out ?_; rintro e w7 ⟨A7, c7, rfl, hown7, hA7, hb7⟩; refine ⟨_, rfl, ?_⟩; simp only [Zq]
   rw [HFLN.out]
   try simp only [Zq]
   iterate 2 refine Zm ?_
   have hown8 := HO.out.old hb7
   obtain ⟨hs1, hs2⟩ := hown8.lies (j := 1) HR1.out (by omega)
   have hown9 := hown8.set (j := 1) HR1.out (by omega) (.slice A7 o.elems.length c7)
   have hk9 := Keep.cellOne w7 q (j * 2 + 1) (.slice A7 o.elems.length c7)
   have hA7q : ∀ g, A7 = some ⟨g, 0, none⟩ -> q < g := fun g e => by have := hA7 g e; omega
   have hwq : w.heap.size <= q := by have := HB.out.size; omega
   have HF9 : Hid (∀ (i : Nat) (o' : Bu) (row' : Array Value), h.bus[i]? = some o' -> (rows.set j (row.setIfInBounds 1 (.slice A7 o.elems.length c7)))[i]? = some row' -> (i < j + 1 -> FinB w (w7.setCell ⟨q, j * 2 + 1, none⟩ (.slice A7 o.elems.length c7)) G q o' row') /\ (j + 1 <= i -> rows0[i]? = some row')) := Zi (fun i o' row' e1 e2 => by
    by_cases e : j = i
    ·subst e
     rw [HOO.out] at e1
     cases e1
     rw [List.getElem?_set_self (by rw [HRL.out]; exact hlt)] at e2
     cases e2
     refine ⟨fun _ => ?_, fun h => absurd h (by omega)⟩
     have hb77 := HB.out.trans (hb7.mono HB.out.size)
     have hC : ∀ b, Lw w (Imm G) b -> ¬ b = q := fun b hb e => by have := hb.2; omega
     exact ⟨A7, c7, frows, by rw [HXX.out.eq]; rfl, hown7.keep hk9 (fun g e hg => by have := hA7q g e; omega), HFLN.out, hA7q, fun j v r e1 e2 => (((HFV.out j v r e1 e2).low : VAt w (Lw w (Imm G)) v r).old hb77).keep hk9 hC⟩
    ·rw [List.getElem?_set_ne e] at e2
     obtain ⟨f1, f2⟩ := HF.out i o' row' e1 e2
     exact ⟨fun h => ((f1 (by omega)).old hb7).keep hwq hk9, fun h => f2 (by omega)⟩)
   have HO9 := Zi hown9
   have HB9 := Zi (Below.keep (HB.out.trans (hb7.mono HB.out.size)) hk9 (fun b e => by omega))
   have HRL9 : Hid ((rows.set j (row.setIfInBounds 1 (.slice A7 o.elems.length c7))).length = n) := Zi (by rw [List.length_set]; exact HRL.out)
   have hq9 : q < (w7.setCell ⟨q, j * 2 + 1, none⟩ (.slice A7 o.elems.length c7)).heap.size := by have := hb7.size; have := hk9.size; omega
   clear hown8 hown9 hk9 hA7q hown7 hA7 HF HO HB HC HLD HXX HFV HOO HR1 hb7
   refine wl_storeC rfl 33 _ _ rfl q (j * 2 + 1) (.slice A7 o.elems.length c7) rfl rfl info33 rfl hs1 hs2 ?_
   rw [put_noneA]
   clear hs1 hs2
   obtain ⟨W9, hW⟩ : ∃ W, W = w7.setCell ⟨q, j * 2 + 1, none⟩ (.slice A7 o.elems.length c7) := ⟨_, rfl⟩
   rw [<- hW] at HF9 HO9 HB9 hq9 ⊢
   clear hW
   go_wp2_with fail
   go_roundw
   case rel => exact ⟨j + 1, _, by omega, by go_num, HO9, HRL9, HF9, HB9, hq9⟩
   case measure => simp [intOf]; omega
  ·have hltI : ¬ (j : Int) < (n : Int) := by omega
   apply Zl
   refine Zm ?_
   go_upto_region 10 with fail
   apply Zl
   iterate 2 refine Zm ?_
   go_wp2_with fail
   go_ret
   refine ⟨q, n, rows, by rw [<- HNN.out]; rfl, HO.out, by rw [HRL.out, HNN.out], by have := HB.out.size; omega, fun i o row e1 e2 => (HF.out i o row e1 e2).1 ?_, HB.out⟩
   have := (List.getElem?_eq_some_iff.1 e1).1
   rw [<- HNN.out] at this
   omega
abbrev Whole : Nat -> Prop := fun _ => True
def ObsV (w : World) (l : List Ob) (A : Option Addr) : Prop := ∀ (i : Nat) (o : Ob), l[i]? = some o -> ∃ g tr fA fc, A = some ⟨g, 0, none⟩ /\ (∀ w', Below w.heap.size w w' -> RowAt w' 32 ⟨g, i * 8, none⟩ tr /\ OneAt w' 3 ⟨g, i * 8 + 4, none⟩ (.int .i64 o.state) /\ OneAt w' 3 ⟨g, i * 8 + 5, none⟩ (.int .i64 o.count) /\ OneAt w' 3 ⟨g, i * 8 + 6, none⟩ (.int .i64 o.weak) /\ OneAt w' 33 ⟨g, i * 8 + 7, none⟩ (.slice fA o.fields.length fc)) /\ TyAt w Whole o.t tr /\ VsAt w Whole o.fields fA o.fields.length fc
def BusV (w : World) (l : List Bu) (A : Option Addr) : Prop := ∀ (i : Nat) (o : Bu), l[i]? = some o -> ∃ g fA fc, A = some ⟨g, 0, none⟩ /\ (∀ w', Below w.heap.size w w' -> OneAt w' 3 ⟨g, i * 2, none⟩ (.int .i64 o.count) /\ OneAt w' 33 ⟨g, i * 2 + 1, none⟩ (.slice fA o.elems.length fc)) /\ VsAt w Whole o.elems fA o.elems.length fc
theorem ObsV.old {w w1 : World} {l : List Ob} {A : Option Addr} (h : ObsV w l A) (hb : Below w.heap.size w w1) : ObsV w1 l A := fun i o hi => by
 obtain ⟨g, tr, fA, fc, e, h1, h2, h3⟩ := h i o hi
 exact ⟨g, tr, fA, fc, e, fun w' hw => h1 w' (hb.trans (hw.mono hb.size)), h2.old hb, h3.old hb⟩
theorem BusV.old {w w1 : World} {l : List Bu} {A : Option Addr} (h : BusV w l A) (hb : Below w.heap.size w w1) : BusV w1 l A := fun i o hi => by
 obtain ⟨g, fA, fc, e, h1, h3⟩ := h i o hi
 exact ⟨g, fA, fc, e, fun w' hw => h1 w' (hb.trans (hw.mono hb.size)), h3.old hb⟩
theorem c8_loads {w : World} {g c i : Nat} {rows : List (Array Value)} {tr : Array Value} {s cn k : Int} {fA : Option Addr} {fl fc : Nat} (ho : OwnL w 41 8 (some ⟨g, 0, none⟩) c rows) (hr : rows[i]? = some (cell8 tr s cn k fA fl fc)) (ht : tr.size = 4) :
  RowAt w 32 ⟨g, i * 8, none⟩ tr /\ OneAt w 3 ⟨g, i * 8 + 4, none⟩ (.int .i64 s) /\ OneAt w 3 ⟨g, i * 8 + 5, none⟩ (.int .i64 cn) /\ OneAt w 3 ⟨g, i * 8 + 6, none⟩ (.int .i64 k) /\ OneAt w 33 ⟨g, i * 8 + 7, none⟩ (.slice fA fl fc) := by
 obtain ⟨-, e4, e5, e6, e7⟩ := cell8_at ht s cn k fA fl fc
 obtain ⟨cur, hg, hs, hf, hx, hsz⟩ := ho.at hr
 have h2 : cur.extract (i * 8) (i * 8 + 4) = tr := by
  have h1 := cell8_ty ht s cn k fA fl fc
  rw [<- hx, Array.extract_extract] at h1
  rw [<- h1]
  congr 1; omega
 exact ⟨row_mid (n := 4) hg (by exact h2) u24 rfl ht info24, one_of u3 rfl (ho.cell hr e4), one_of u3 rfl (ho.cell hr e5), one_of u3 rfl (ho.cell hr e6), one_of u33 rfl (ho.cell hr e7)⟩
theorem obsV_p {w w' : World} {G : Gh} {q c : Nat} {obs : List Ob} {rows : List (Array Value)} (ho : OwnL w' 41 8 (some ⟨q, 0, none⟩) c rows) (hl : rows.length = obs.length) (hf : ∀ (i : Nat) (o : Ob) (row : Array Value), obs[i]? = some o -> rows[i]? = some row -> FinO w w' G q o row) : ObsV w' obs (some ⟨q, 0, none⟩) := fun i o hi => by
 have hil := (List.getElem?_eq_some_iff.1 hi).1
 have hr := List.getElem?_eq_getElem (show i < rows.length by omega)
 obtain ⟨tr, fA, fc, frows, e1, h2, h3, h4, -, h6⟩ := hf i o _ hi hr
 rw [e1] at hr
 exact ⟨q, tr, fA, fc, rfl, fun w2 hw => c8_loads (ho.old hw) hr h2.size, h2.weak fun _ _ => trivial, hLVvs h3 h4 h6 (fun _ _ => trivial) (fun _ _ => trivial)⟩
theorem obsV_d {w w' : World} {obs : List Ob} {A : Option Addr} {c : Nat} {rows : List (Array Value)} (h : DOR w w' obs A c rows) : ObsV w' obs A := fun i o hi => by
 obtain ⟨ho, hl, -, hf⟩ := h
 have hil := (List.getElem?_eq_some_iff.1 hi).1
 have hr := List.getElem?_eq_getElem (show i < rows.length by omega)
 obtain ⟨g, cur, rfl, -⟩ := ho.addr (show i < rows.length by omega)
 obtain ⟨tr, fA, fc, e1, h2, h3⟩ := hf i o _ hi hr
 rw [e1] at hr
 exact ⟨g, tr, fA, fc, rfl, fun w2 hw => c8_loads (ho.old hw) hr h2.size, h2.weak fun _ _ => trivial, h3.weak fun _ _ => trivial⟩
theorem busV_p {w w' : World} {G : Gh} {q c : Nat} {bus : List Bu} {rows : List (Array Value)} (ho : OwnL w' 97 2 (some ⟨q, 0, none⟩) c rows) (hl : rows.length = bus.length) (hf : ∀ (i : Nat) (o : Bu) (row : Array Value), bus[i]? = some o -> rows[i]? = some row -> FinB w w' G q o row) : BusV w' bus (some ⟨q, 0, none⟩) := fun i o hi => by
 have hil := (List.getElem?_eq_some_iff.1 hi).1
 have hr := List.getElem?_eq_getElem (show i < rows.length by omega)
 obtain ⟨fA, fc, frows, e1, h3, h4, -, h6⟩ := hf i o _ hi hr
 rw [e1] at hr
 exact ⟨q, fA, fc, rfl, fun w2 hw => ⟨one_of u3 rfl ((ho.old hw).cell hr (j := 0) rfl), one_of u33 rfl ((ho.old hw).cell hr (j := 1) rfl)⟩, hLVvs h3 h4 h6 (fun _ _ => trivial) (fun _ _ => trivial)⟩
theorem busV_d {w w' : World} {bus : List Bu} {A : Option Addr} {c : Nat} {rows : List (Array Value)} (h : DBR w w' bus A c rows) : BusV w' bus A := fun i o hi => by
 obtain ⟨ho, hl, -, hf⟩ := h
 have hil := (List.getElem?_eq_some_iff.1 hi).1
 have hr := List.getElem?_eq_getElem (show i < rows.length by omega)
 obtain ⟨g, cur, rfl, -⟩ := ho.addr (show i < rows.length by omega)
 obtain ⟨fA, fc, e1, h3⟩ := hf i o _ hi hr
 rw [e1] at hr
 exact ⟨g, fA, fc, rfl, fun w2 hw => ⟨one_of u3 rfl ((ho.old hw).cell hr (j := 0) rfl), one_of u33 rfl ((ho.old hw).cell hr (j := 1) rfl)⟩, h3.weak fun _ _ => trivial⟩
theorem DHeapAt.old {w w' : World} {G : Gh} {k p n : Nat} {h : Hp} (hh : DHeapAt w G k p h n) (hb : Below w.heap.size w w') : DHeapAt w' G k p h n := by
 obtain ⟨dA, dc, oA, oc, bA, bc, lA, lc, rA, rc, hh⟩ := hh
 exact ⟨_, _, _, _, _, _, _, _, _, _, hh.old hb⟩
theorem HeapAt.old {w w' : World} {G : Gh} {k p : Nat} {h : Hp} (hh : HeapAt w G k p h) (hb : Below w.heap.size w w') : HeapAt w' G k p h := by
 obtain ⟨oA, oc, bA, bc, m, lA, lc, hh⟩ := hh
 exact ⟨_, _, _, _, _, _, _, hh.old hb⟩
theorem alike_any {G : Gh} {k k2 p p2 nr : Nat} {h : Hp} {w : World} (hh : HeapAt w G k p h) (hd : DHeapAt w G k2 p2 h nr) (hfit : DFit h) (hno : h.obs.length <= 1000000) (hnb : h.bus.length <= 1000000) :
  Calls Try.prog 16 #[.pointer (some ⟨p, 0, none⟩), .pointer (some ⟨p2, 0, none⟩)] w fun e w' => e = .returned (.bool true) /\ Below w.heap.size w w' := by
 have HX := Zi hh
 have HD := Zi hd
 have HF := Zi hfit
 have hb := Below.refl w.heap.size w
 have HC := Zi (Objects_any hh hno fun o ho => Nat.le_trans (hfit.fl o ho) (by decide))
 clear hh hd hfit
 go_enter Try.func16, Try.ntmps16
 go_upto_region 0 with fail
 apply Zl
 refine Zm ?_
 obtain ⟨no, hnoe⟩ : ∃ n, n = h.obs.length := ⟨_, rfl⟩
 obtain ⟨nb, hnbe⟩ : ∃ n, n = h.bus.length := ⟨_, rfl⟩
 obtain ⟨nl, hnle⟩ : ∃ n, n = h.lev.length := ⟨_, rfl⟩
 have HNO := Zi hnoe
 have HNB := Zi hnbe
 have HNL := Zi hnle
 have HB1 := Zi (And.intro hno hnb)
 go_upto_region 1 with fail
 apply Zl
 refine Zm ?_
 refine Zn HC.out ?_; rintro e w1 ⟨q1, c1, rows1, rfl, ho1, hl1, hq1, hf1, hb1⟩; refine ⟨_, rfl, ?_⟩; simp only [Zq]
 have HO1 := Zi (obsV_p ho1 hl1 hf1)
 have HC2 := Zi (dObjects_any (HD.out.old hb1) hno fun b hb => ⟨(HF.out.all.fld b hb).1, HF.out.fl b hb, (HF.out.all.fld b hb).2⟩)
 replace hb := hb1
 clear HC ho1 hl1 hq1 hf1 hb1
 refine Zm ?_
 refine Zn HC2.out ?_; rintro e w2 ⟨A2, c2, rows2, rfl, hor2, hb2⟩; refine ⟨_, rfl, ?_⟩; simp only [Zq]
 have HO2 := Zi (obsV_d hor2)
 replace HO1 := Zi (HO1.out.old hb2)
 replace hb := hb.trans (hb2.mono hb.size)
 clear HC2 hor2 hb2
 rw [<- hnoe]
 clear hnoe
 iterate 2 refine Zm ?_
 have HC := Zi (Buffers_any (HX.out.old hb) HB1.out.2 fun o ho => Nat.le_trans (HF.out.el o ho) (by decide))
 go_upto_region 2 with fail
 apply Zl
 refine Zm ?_
 refine Zn HC.out ?_; rintro e w3 ⟨q3, c3, rows3, rfl, ho3, hl3, hq3, hf3, hb3⟩; refine ⟨_, rfl, ?_⟩; simp only [Zq]
 have HU1 := Zi (busV_p ho3 hl3 hf3)
 replace HO1 := Zi (HO1.out.old hb3)
 replace HO2 := Zi (HO2.out.old hb3)
 replace hb := hb.trans (hb3.mono hb.size)
 clear HC ho3 hl3 hq3 hf3 hb3
 have HC2 := Zi (dBuffers_any (HD.out.old hb) HB1.out.2 fun b hb => ⟨HF.out.el b hb, HF.out.all.elm b hb⟩)
 refine Zm ?_
 refine Zn HC2.out ?_; rintro e w4 ⟨A4, c4, rows4, rfl, hor4, hb4⟩; refine ⟨_, rfl, ?_⟩; simp only [Zq]
 have HU2 := Zi (busV_d hor4)
 replace HU1 := Zi (HU1.out.old hb4)
 replace HO1 := Zi (HO1.out.old hb4)
 replace HO2 := Zi (HO2.out.old hb4)
 replace hb := hb.trans (hb4.mono hb.size)
 clear HC2 hor4 hb4
 rw [<- hnbe]
 clear hnbe
 iterate 2 refine Zm ?_
 have hz := Below.refl w4.heap.size w4
 have hcl : Calls Try.prog 39 #[.pointer (some ⟨p, 0, none⟩)] w4 fun e w' => e = .returned (.int .i64 (nl : Int)) /\ Below w4.heap.size w4 w' := by
  obtain ⟨oA, oc, bA, bc, m, lA, lc, hh⟩ := HX.out.old hb
  rw [hnle]; exact Levels_any hh
 have HC1 := Zi hcl
 have HC2 := Zi (fun (w' : World) (hw : Below w4.heap.size w4 w') => (show Calls Try.prog 57 #[.pointer (some ⟨p2, 0, none⟩)] w' fun e w2 => e = .returned (.int .i64 (nl : Int)) /\ Below w'.heap.size w' w2 by
  rw [hnle]; exact dLevels_any ((HD.out.old hb).old hw)))
 clear hnle hcl hno hnb
 have e1 : ((no : Int) != (no : Int)) = false := bne_self_eq_false _
 have e2 : ((nb : Int) != (nb : Int)) = false := bne_self_eq_false _
 have e3 : ((nl : Int) != (nl : Int)) = false := bne_self_eq_false _
 go_upto_region 3 with fail
 apply Zl
 iterate 14 refine Zm ?_
 refine Zn HC1.out ?_; rintro e w5 ⟨rfl, hb5⟩; refine ⟨_, rfl, ?_⟩; simp only [Zq]
 replace hz := hz.trans (hb5.mono hz.size)
 refine Zm ?_
 refine Zn (HC2.out w5 hz) ?_; rintro e w6 ⟨rfl, hb6⟩; refine ⟨_, rfl, ?_⟩; simp only [Zq]
 replace hz := hz.trans (hb6.mono hz.size)
 iterate 2 refine Zm ?_
 clear e1 e2 e3 HC1 HC2 hb5 hb6
 replace HU1 := Zi (HU1.out.old hz)
 replace HU2 := Zi (HU2.out.old hz)
 replace HO1 := Zi (HO1.out.old hz)
 replace HO2 := Zi (HO2.out.old hz)
 replace hb := hb.trans (hz.mono hb.size)
 clear hz
 have hnb6 : no <= 1000000 /\ nb <= 1000000 := by rw [HNO.out, HNB.out]; exact HB1.out
 go_upto_region 5 with fail
 apply Zl
 refine Zm ?_
 go_wp2_with fail
 go_loopw [9] (fun i wr => ∃ j : Nat, j <= no /\ i = .int .i64 (j : Int) /\ Hid (Below w6.heap.size w6 wr)) (fun i _ => no - (intOf i).toNat)
 case atStart => exact ⟨0, by omega, rfl, Zi (Below.refl _ _)⟩
 case round =>
  obtain ⟨j, hj, rfl, HZ⟩ := hrel
  have hnb61 : no <= 1000000 := hnb6.1
  go_upto_region 6 with fail
  by_cases hlt : j < no
  ·have hltI : (j : Int) < (no : Int) := by omega
   have hjl : j < h.obs.length := by rw [<- HNO.out]; exact hlt
   have ho := List.getElem?_eq_getElem hjl
   obtain ⟨o, hoe⟩ : ∃ o, o = h.obs[j] := ⟨_, rfl⟩
   rw [<- hoe] at ho
   obtain ⟨g1, tr1, fA1, fc1, e1, hL1, hT1, hV1⟩ := HO1.out.old HZ.out j o ho
   obtain ⟨g2, tr2, fA2, fc2, e2, hL2, hT2, hV2⟩ := HO2.out.old HZ.out j o ho
   cases e1
   cases e2
   have HL1 := Zi hL1
   have HL2 := Zi hL2
   have HC1 : Hid (∀ w', Below wr.heap.size wr w' -> Calls Try.prog 58 #[.agg tr1, .agg tr2] w' fun e w2 => e = .returned (.bool true) /\ Below w'.heap.size w' w2) := Zi fun w' hw => by
    have h9 := EqType_any o.t o.t w' _ _ _ _ (hT1.old hw) (hT2.old hw)
    rwa [show eqTy o.t o.t = true by simp [eqTy]] at h9
   have HC2 : Hid (∀ w', Below wr.heap.size wr w' -> Calls Try.prog 59 #[.slice fA1 o.fields.length fc1, .slice fA2 o.fields.length fc2] w' fun e w2 => e = .returned (.bool true) /\ Below w'.heap.size w' w2) := Zi fun w' hw => by
    have h9 := EqValues_any o.fields o.fields _ _ _ _ _ _ w' _ _ (hV1.old hw) (hV2.old hw)
    rwa [eqVas_same] at h9
   have s1 : (o.state != o.state) = false := bne_self_eq_false _
   have s2 : (o.count != o.count) = false := bne_self_eq_false _
   have s3 : (o.weak != o.weak) = false := bne_self_eq_false _
   clear hL1 hL2 hT1 hT2 hV1 hV2 ho hoe hjl
   apply Zl
   iterate 4 refine Zm ?_
   go_upto_region 8 with fail
   refine wp_region_belowAll mixed (by kernel_rfl) ?_
   simp only [List.append_eq, List.cons_append, List.nil_append]
   iterate 4 refine Zt ?_
   refine Zv rfl (fun w' hw' => (HL1.out w' hw').2.1) ?_
   iterate 4 refine Zt ?_
   refine Zv rfl (fun w' hw' => (HL2.out w' hw').2.1) ?_
   iterate 6 refine Zt ?_
   refine Zv rfl (fun w' hw' => (HL1.out w' hw').2.2.1) ?_
   iterate 4 refine Zt ?_
   refine Zv rfl (fun w' hw' => (HL2.out w' hw').2.2.1) ?_
   iterate 7 refine Zt ?_
   refine Zv rfl (fun w' hw' => (HL1.out w' hw').2.2.2.1) ?_
   iterate 4 refine Zt ?_
   refine Zv rfl (fun w' hw' => (HL2.out w' hw').2.2.2.1) ?_
   iterate 7 refine Zt ?_
   ((with_reducible apply wq_row); exact rfl; exact rfl; intro w' hw'; exact (HL1.out w' hw').1)
   iterate 4 refine Zt ?_
   ((with_reducible apply wq_row); exact rfl; exact rfl; intro w' hw'; exact (HL2.out w' hw').1)
   refine wq_ck rfl (fun K hK => ?_); go_simp; refine ⟨_, _, ⟨rfl, rfl⟩, hK _ _ ⟨_, fun w' hw' => calls_class hw' (HC1.out w' hw'), ?_⟩⟩; clear hK K; simp only [Zq]
   iterate 7 refine Zt ?_
   refine Zv rfl (fun w' hw' => (HL1.out w' hw').2.2.2.2) ?_
   iterate 4 refine Zt ?_
   refine Zv rfl (fun w' hw' => (HL2.out w' hw').2.2.2.2) ?_
   refine wq_ck rfl (fun K hK => ?_); go_simp; refine ⟨_, _, ⟨rfl, rfl⟩, hK _ _ ⟨_, fun w' hw' => calls_class hw' (HC2.out w' hw'), ?_⟩⟩; clear hK K; simp only [Zq]
   iterate 2 refine Zt ?_
   intro w7 hb7
   have HZ7 := Zi (HZ.out.trans (hb7.mono HZ.out.size))
   clear hb7 HC1 HC2 HL1 HL2 HZ s1 s2 s3
   go_wp2_with fail
   go_roundw
   case rel => exact ⟨j + 1, by omega, by go_num, HZ7⟩
   case measure => simp [intOf]; omega
  ·have hltI : ¬ (j : Int) < (no : Int) := by omega
   apply Zl
   iterate 4 refine Zm ?_
   replace HU1 := Zi (HU1.out.old HZ.out)
   replace HU2 := Zi (HU2.out.old HZ.out)
   replace hb := hb.trans (HZ.out.mono hb.size)
   clear HO1 HO2 HZ hlt hltI hj
   go_upto_region 10 with fail
   apply Zl
   refine Zm ?_
   go_wp2_with fail
   go_loopw [10] (fun i wx => ∃ j : Nat, j <= nb /\ i = .int .i64 (j : Int) /\ Hid (Below wr.heap.size wr wx)) (fun i _ => nb - (intOf i).toNat)
   case atStart => exact ⟨0, by omega, rfl, Zi (Below.refl _ _)⟩
   case round =>
    obtain ⟨i, hi, rfl, HZ⟩ := hrel
    have hnb62 : nb <= 1000000 := hnb6.2
    go_upto_region 11 with fail
    by_cases hlt : i < nb
    ·have hltI : (i : Int) < (nb : Int) := by omega
     have hjl : i < h.bus.length := by rw [<- HNB.out]; exact hlt
     have ho := List.getElem?_eq_getElem hjl
     obtain ⟨o, hoe⟩ : ∃ o, o = h.bus[i] := ⟨_, rfl⟩
     rw [<- hoe] at ho
     obtain ⟨g1, fA1, fc1, e1, hL1, hV1⟩ := HU1.out.old HZ.out i o ho
     obtain ⟨g2, fA2, fc2, e2, hL2, hV2⟩ := HU2.out.old HZ.out i o ho
     cases e1
     cases e2
     have HL1 := Zi hL1
     have HL2 := Zi hL2
     have HC2 : Hid (∀ w', Below wr.heap.size wr w' -> Calls Try.prog 59 #[.slice fA1 o.elems.length fc1, .slice fA2 o.elems.length fc2] w' fun e w2 => e = .returned (.bool true) /\ Below w'.heap.size w' w2) := Zi fun w' hw => by
      have h9 := EqValues_any o.elems o.elems _ _ _ _ _ _ w' _ _ (hV1.old hw) (hV2.old hw)
      rwa [eqVas_same] at h9
     have s2 : (o.count != o.count) = false := bne_self_eq_false _
     clear hL1 hL2 hV1 hV2 ho hoe hjl
     apply Zl
     iterate 4 refine Zm ?_
     go_upto_region 13 with fail
     refine wp_region_belowAll mixed (by kernel_rfl) ?_
     iterate 4 refine Zt ?_
     refine Zv rfl (fun w' hw' => (HL1.out w' hw').1) ?_
     iterate 4 refine Zt ?_
     refine Zv rfl (fun w' hw' => (HL2.out w' hw').1) ?_
     iterate 6 refine Zt ?_
     refine Zv rfl (fun w' hw' => (HL1.out w' hw').2) ?_
     iterate 4 refine Zt ?_
     refine Zv rfl (fun w' hw' => (HL2.out w' hw').2) ?_
     refine wq_ck rfl (fun K hK => ?_); go_simp; refine ⟨_, _, ⟨rfl, rfl⟩, hK _ _ ⟨_, fun w' hw' => calls_class hw' (HC2.out w' hw'), ?_⟩⟩; clear hK K; simp only [Zq]
     iterate 2 refine Zt ?_
     intro w7 hb7
     have HZ7 := Zi (HZ.out.trans (hb7.mono HZ.out.size))
     clear hb7 HC2 HL1 HL2 HZ s2
     go_wp2_with fail
     go_roundw
     case rel => exact ⟨i + 1, by omega, by go_num, HZ7⟩
     case measure => simp [intOf]; omega
    ·have hltI : ¬ (i : Int) < (nb : Int) := by omega
     apply Zl
     iterate 4 refine Zm ?_
     go_upto_region 15 with fail
     apply Zl
     refine Zm ?_
     go_wp2_with fail
     go_ret
     exact ⟨rfl, hb.trans (HZ.out.mono hb.size)⟩
theorem mine_lt {w : World} {G : Gh} {k b : Nat} (hf : Fr w G) (hm : Mine G k b) : b < w.heap.size := by
 obtain ⟨r, e, -⟩ := hm
 rcases Nat.lt_or_ge b w.heap.size with h1 | h1
 ·exact h1
 ·rw [hf b h1] at e; cases e
structure Mv (w : World) (G : Gh) (w' : World) (G' : Gh) : Prop where
 old : ∀ b, b < w.heap.size -> G' b = G b
 same : ∀ b, b < w.heap.size -> G b = none -> w'.heap[b]? = w.heap[b]?
section
variable {w w' : World} {G G' : Gh}
theorem Done.mv {k p : Nat} {h' : Hp} (d : Done w G k p h' w' G') : Mv w G w' G' := ⟨d.old, fun b hb hn => d.keep.block b hb fun hm => by obtain ⟨_, e, _⟩ := hm; rw [hn] at e; cases e⟩
theorem DDone.mv {k p n : Nat} {h' : Hp} (d : DDone w G k p h' n w' G') : Mv w G w' G' := ⟨d.old, fun b hb hn => d.keep.block b hb fun hm => by obtain ⟨_, e, _⟩ := hm; rw [hn] at e; cases e⟩
theorem Mv.imm (m : Mv w G w' G') : ∀ b, Imm G b /\ b < w.heap.size -> Imm G' b := fun b hb => by have := hb.1; unfold Imm at this ⊢; rw [m.old b hb.2]; exact this
theorem Mv.cl (m : Mv w G w' G') {q : Cl} {row rv rx tr : Array Value} {A : Option Addr} {l c : Nat} (h : ClAt w (Imm G) q row rv rx tr A l c) : ClAt w' (Imm G') q row rv rx tr A l c := h.low.mono m.imm fun b hb hl => m.same b hl hb.1
theorem Mv.va (m : Mv w G w' G') {v : Va} {row : Array Value} (h : VAt w (Imm G) v row) : VAt w' (Imm G') v row := h.low.mono m.imm fun b hb hl => m.same b hl hb.1
theorem Mv.vs (m : Mv w G w' G') {v : List Va} {A : Option Addr} {n c : Nat} (h : VsAt w (Imm G) v A n c) : VsAt w' (Imm G') v A n c := h.low.mono m.imm fun b hb hl => m.same b hl hb.1
theorem Mv.look (m : Mv w G w' G') {b : Nat} {o : Obj} (h : w.heap[b]? = some o) (hn : G b = none) : w'.heap[b]? = some o /\ G' b = none := ⟨(m.same b (heap_lt h) hn).trans h, (m.old b (heap_lt h)).trans hn⟩
end
structure Two (w : World) (G : Gh) (k k2 p p2 : Nat) (h h2 : Hp) (n : Nat) (w' : World) (G' : Gh) : Prop where
 hp : HeapAt w' G' k p h
 hd : DHeapAt w' G' k2 p2 h2 n
 fr : Fr w' G'
 old : ∀ b, b < w.heap.size -> G' b = G b
 keep : Keep (fun b => Mine G k b ∨ Mine G k2 b) w w'
 new : ∀ b, w.heap.size <= b -> G' b = none ∨ ∃ r, G' b = some (k, r) ∨ G' b = some (k2, r)
section
variable {w W w' : World} {G G1 G' : Gh} {k k2 p p2 n n' : Nat} {h h2 h' h2' : Hp}
theorem Two.calm (hp : HeapAt w G k p h) (hd : DHeapAt w G k2 p2 h2 n) (hf : Fr w G) (hb : Below w.heap.size w w') : Two w G k k2 p p2 h h2 n w' G :=
 ⟨hp.old hb, hd.old hb, hf.on hb.size, fun b _ => rfl, Keep.of hb, fun b hlt => .inl (hf b hlt)⟩
theorem Two.trans (t : Two w G k k2 p p2 h h2 n W G1) (t2 : Two W G1 k k2 p p2 h' h2' n' w' G') : Two w G k k2 p p2 h' h2' n' w' G' where
 hp := t2.hp
 hd := t2.hd
 fr := t2.fr
 old := fun b hb => (t2.old b (by have := t.keep.size; omega)).trans (t.old b hb)
 keep := t.keep.trans (C' := fun b => Mine G1 k b ∨ Mine G1 k2 b) (fun b hm => by
  by_cases e : b < w.heap.size
  ·unfold Mine at hm ⊢; rw [t.old b e] at hm; exact .inl hm
  ·exact .inr (by omega)) t2.keep
 new := fun b hb => by
  by_cases e : b < W.heap.size
  ·rw [t2.old b e]; exact t.new b hb
  ·exact t2.new b (by omega)
theorem Two.quiet (t : Two w G k k2 p p2 h h2 n W G1) (hb : Below W.heap.size W w') : Two w G k k2 p p2 h h2 n w' G1 := t.trans (Two.calm t.hp t.hd t.fr hb)
theorem Two.stp (hk : k ≠ k2) (t : Two w G k k2 p p2 h h2 n W G1) (d : Done W G1 k p h' w' G') : Two w G k k2 p p2 h' h2 n w' G' := t.trans {
 hp := d.heap
 hd := by
  obtain ⟨dA, dc, oA, oc, bA, bc, lA, lc, rA, rc, hh⟩ := t.hd
  refine ⟨_, _, _, _, _, _, _, _, _, _, (hh.regh d.old).keep d.keep fun b hm => ?_⟩
  have hl := mine_lt t.fr hm
  obtain ⟨r, e, -⟩ := hm
  rw [<- d.old b hl] at e
  exact ⟨by rintro ⟨r2, e2, -⟩; rw [e] at e2; cases e2; exact hk rfl, by rw [e]; simp⟩
 fr := d.fr
 old := d.old
 keep := (Keep.refl _ W).trans (C' := Mine G1 k) (fun b hm => .inl (.inl hm)) d.keep
 new := fun b hb => (d.new b hb).imp id fun ⟨r, e⟩ => ⟨r, .inl e⟩ }
theorem Two.std (hk : k ≠ k2) (t : Two w G k k2 p p2 h h2 n W G1) (d : DDone W G1 k2 p2 h2' n' w' G') : Two w G k k2 p p2 h h2' n' w' G' := t.trans {
 hd := d.heap
 hp := by
  obtain ⟨oA, oc, bA, bc, m, lA, lc, hh⟩ := t.hp
  refine ⟨_, _, _, _, _, _, _, (hh.regh d.old).keep d.keep fun b hm => ?_⟩
  have hl := mine_lt t.fr hm
  obtain ⟨r, e, -⟩ := hm
  rw [<- d.old b hl] at e
  exact ⟨by rintro ⟨r2, e2, -⟩; rw [e] at e2; cases e2; exact hk rfl, by rw [e]; simp⟩
 fr := d.fr
 old := d.old
 keep := (Keep.refl _ W).trans (C' := Mine G1 k2) (fun b hm => .inl (.inr hm)) d.keep
 new := fun b hb => (d.new b hb).imp id fun ⟨r, e⟩ => ⟨r, .inr e⟩ }
theorem Two.mv (t : Two w G k k2 p p2 h h2 n w' G') : Mv w G w' G' := ⟨t.old, fun b hb hn => t.keep.block b hb fun hm => by
 rcases hm with ⟨_, e, _⟩ | ⟨_, e, _⟩ <;> (rw [hn] at e; cases e)⟩
end
def SameDone (w : World) (G : Gh) (k k2 p p2 N : Nat) (h' : Hp) (e : Ending) (w' : World) : Prop := e = .returned (.bool true) /\ ∃ G' nr', Two w G k k2 p p2 h' h' nr' w' G' /\ nr' <= N
structure ClFit (q : Cl) : Prop where
 v : VaFit q.v
 x : VaFit q.x
 t : TyFit q.t
 l : ∀ u, u ∈ q.l -> VaFit u
theorem fieldP_h (h : Hp) (x f : Int) : (fieldP h x f).1 = h := by
 unfold fieldP
 repeat' split
 all_goals rfl
theorem info37d : (Try.prog.info? 37).map (·.size) = some 26 := by kernel_rfl
theorem u37d : Try.prog.underlying 37 = some (.struct (Try.prog.fieldsOf 37)) := by kernel_rfl
theorem row37 {w : World} {q : Nat} {row : Array Value} {t : TypeId} {fr : Nat × Nat} (h : w.heap[q]? = some (.cells row t fr)) (hs : row.size = 26) : RowAt w 37 ⟨q, 0, none⟩ row := row_mid (n := 26) h (by simp [<- hs]) u37d rfl hs info37d
def stepS (h : Hp) (q : Cl) : Hp := if q.k = 10 then (ownP h q.v).1 else if q.k = 11 then (putP h q.v q.a q.x).1 else if q.k = 12 then (appendP h q.v q.x).1 else h
theorem pElems_none {w : World} {G : Gh} {k p : Nat} {h : Hp} {v : Va} {row : Array Value} (hc : Calls Try.prog 31 #[.pointer (some ⟨p, 0, none⟩), .agg row] w (ElemsPost w G k p h v)) (he : elemsP h v = none) : Calls Try.prog 31 #[.pointer (some ⟨p, 0, none⟩), .agg row] w fun e w' => e = .returned (.tuple #[.slice none 0 0, .int .i64 4]) /\ Below w.heap.size w w' :=
 hc.mono fun e w' hp => by
  obtain ⟨hb, ⟨-, h1⟩ | ⟨l, A, c, rows, h1, -⟩⟩ := hp
  ·exact ⟨h1, hb⟩
  ·rw [he] at h1; cases h1
theorem pElems_some {w : World} {G : Gh} {k p : Nat} {h : Hp} {v : Va} {row : Array Value} {l : List Va} (hc : Calls Try.prog 31 #[.pointer (some ⟨p, 0, none⟩), .agg row] w (ElemsPost w G k p h v)) (he : elemsP h v = some l) : Calls Try.prog 31 #[.pointer (some ⟨p, 0, none⟩), .agg row] w fun e w' => ∃ A c, e = .returned (.tuple #[.slice A l.length c, .int .i64 0]) /\ VsAt w' Whole l A l.length c /\ Below w.heap.size w w' :=
 hc.mono fun e w' hp => by
  obtain ⟨hb, ⟨h1, -⟩ | ⟨l', A, c, rows, h1, h2, h3, h4, h5, h6⟩⟩ := hp
  ·rw [he] at h1; cases h1
  ·rw [he] at h1; cases h1
   exact ⟨A, c, h2, hLVvs h3 h4 h6 (fun _ _ => trivial) (fun _ _ => trivial), hb⟩
theorem dElems_none {w : World} {p : Nat} {h : Hp} {v : Va} {row : Array Value} (hc : Calls Try.prog 91 #[.pointer (some ⟨p, 0, none⟩), .agg row] w (DElemsPost w h v)) (he : elemsP h v = none) : Calls Try.prog 91 #[.pointer (some ⟨p, 0, none⟩), .agg row] w fun e w' => e = .returned (.tuple #[.slice none 0 0, .int .i64 4]) /\ Below w.heap.size w w' :=
 hc.mono fun e w' hp => by
  obtain ⟨hb, ⟨-, h1⟩ | ⟨l, A, c, h1, -⟩⟩ := hp
  ·exact ⟨h1, hb⟩
  ·rw [he] at h1; cases h1
theorem dElems_some {w : World} {p : Nat} {h : Hp} {v : Va} {row : Array Value} {l : List Va} (hc : Calls Try.prog 91 #[.pointer (some ⟨p, 0, none⟩), .agg row] w (DElemsPost w h v)) (he : elemsP h v = some l) : Calls Try.prog 91 #[.pointer (some ⟨p, 0, none⟩), .agg row] w fun e w' => ∃ A c, e = .returned (.tuple #[.slice A l.length c, .int .i64 0]) /\ VsAt w' Whole l A l.length c /\ Below w.heap.size w w' :=
 hc.mono fun e w' hp => by
  obtain ⟨hb, ⟨h1, -⟩ | ⟨l', A, c, h1, h2, h3⟩⟩ := hp
  ·rw [he] at h1; cases h1
  ·rw [he] at h1; cases h1
   exact ⟨A, c, h2, h3.weak fun _ _ => trivial, hb⟩
theorem vs_nil (w : World) : VsAt w Whole [] none 0 0 := hLVvs (rows := []) (D := Whole) (OwnL.nil w 35 9) rfl (fun j v row h => by simp at h) (fun _ _ => trivial) (fun _ _ => trivial)
open Go.RowKit Go.Proofs.Ytpamocglecangaa.Nm
set_option linter.unusedSimpArgs false
theorem shared_any {G : Gh} {k k2 p p2 nr B : Nat} {h : Hp} {w : World} (hkk : k ≠ k2) (hp : HeapAt w G k p h) (hd : DHeapAt w G k2 p2 h nr) (hf : Fr w G) (hw : Wf h) {i S : Nat} (hi : Inv i S h) (hi6 : i <= 130) (hfit : DFit h) (hnb : nr + B <= 8000000000000) (hnb2 : B <= 700000000000) (hbw : ∀ l, h.lev.getLast? = some l -> weight h l <= B) {q : Cl} {row rv rx tr : Array Value} {A : Option Addr} {l c : Nat} (hcl : ClAt w (Imm G) q row rv rx tr A l c) (hok : ClOk S q) (hqf : ClFit q) :
  Calls Try.prog 54 #[.pointer (some ⟨p, 0, none⟩), .pointer (some ⟨p2, 0, none⟩), .agg row] w (SameDone w G k k2 p p2 (nr + B) (stepS h q)) := by
 have HX := Zi hp
 have HX2 := Zi hd
 have HF := Zi hf
 have HW := Zi hw
 have HI := Zi hi
 have HFT := Zi hfit
 have HK := Zi hok
 have HQF := Zi hqf
 have HKK := Zi hkk
 have HNB := Zi (And.intro hnb hnb2)
 have HBW := Zi hbw
 have hrs := hcl.size
 have hzs : zrow.size = 9 := rfl
 have zone : zrow.all (·.oneCell') = true := (zero_va w (Imm G)).one
 have HCL0 := Zi hcl
 have hb := Below.refl w.heap.size w
 have hob := hi.obs
 have hbu := hi.bus
 have hlv := hi.lev
 clear hp hd hf hw hi hfit hok hqf hkk hbw hcl
 go_enter Try.func54, Try.ntmps54
 go_upto_region 0 with fail
 apply Zl
 refine wl_newv (fun q => .pointer (some ⟨q, 0, none⟩)) rfl (ex_box37 _ rfl rfl) ?_
 intro W b1 hbn hlp hq
 simp only [Zq]
 replace hb := hb.trans hbn
 clear hbn
 refine Zm ?_
 have HDn := Zi (Two.calm HX.out HX2.out HF.out hb)
 have HCL := Zi (HCL0.out.old hb)
 have HQN : Hid (G b1 = none) := Zi (HF.out b1 (by omega))
 have HNQ : Hid (¬ (Mine G k b1 ∨ Mine G k2 b1)) := Zi (by rintro (⟨_, e, _⟩ | ⟨_, e, _⟩) <;> (rw [HQN.out] at e; cases e))
 have HT := Zi (Two.calm HDn.out.hp HDn.out.hd HDn.out.fr (Below.refl W.heap.size W))
 clear HX HX2 HF hb HCL0
 go_upto_region 1 with fail
 apply Zl
 refine Zm ?_
 refine Zo rfl (cl_k hq HCL) ?_
 by_cases c9 : q.k = 9
 ·have e9 : (q.k == 9) = true := by simp [c9]
  have HD : Hid (stepS h q = h) := Zi (by unfold stepS; rw [if_neg (fun e => by rw [c9] at e; omega), if_neg (fun e => by rw [c9] at e; omega), if_neg (fun e => by rw [c9] at e; omega)])
  go_upto_region 2 with fail
  apply Zl
  iterate 2 refine Zm ?_
  have hcp := Elems_any HT.out.hp (fun b hb => Nat.le_trans (HI.out.elm b hb).1 (by omega)) HCL.out.v
  cases he : elemsP h q.v with
  | none =>
   have HCP := Zi (pElems_none hcp he)
   have HE := Zi he
   clear hcp he
   go_upto_region 3 with fail
   apply Zl
   iterate 2 refine Zm ?_
   refine Zw rfl (cl_v hq HCL) ?_
   refine Zn HCP.out ?_; rintro e w7 ⟨rfl, hb7⟩; refine ⟨_, rfl, ?_⟩; simp only [Zq]
   replace HT := Zi (HT.out.quiet hb7)
   replace HCL := Zi (HCL.out.old hb7)
   replace hq := below_look hb7 hq
   iterate 5 refine Zm ?_
   have HCD := Zi (dElems_none (dElems_any HT.out.hd (fun b hb => ⟨Nat.le_trans (HI.out.elm b hb).1 (by omega), HFT.out.all.elm b hb⟩) HCL.out.v) HE.out)
   clear hb7 HCP
   go_upto_region 4 with fail
   apply Zl
   iterate 2 refine Zm ?_
   refine Zw rfl (cl_v hq HCL) ?_
   refine Zn HCD.out ?_; rintro e w8 ⟨rfl, hb8⟩; refine ⟨_, rfl, ?_⟩; simp only [Zq]
   replace HT := Zi (HT.out.quiet hb8)
   iterate 5 refine Zm ?_
   clear hb8 HCD hq
   have hce := EqValues_any [] [] _ _ _ _ _ _ w8 _ _ (vs_nil w8) (vs_nil w8)
   rw [eqVas_same] at hce
   have HCE := Zi hce
   clear hce
   go_upto_region 5 with fail
   apply Zl
   iterate 6 refine Zm ?_
   refine Zn HCE.out ?_; rintro e w9 ⟨rfl, hb9⟩; refine ⟨_, rfl, ?_⟩; simp only [Zq]
   iterate 2 refine Zm ?_
   go_wp2_with fail
   go_ret
   rw [HD.out]
   exact ⟨rfl, _, _, HDn.out.trans (HT.out.quiet hb9), by omega⟩
  | some le =>
   have HCP := Zi (pElems_some hcp he)
   have HE := Zi he
   clear hcp he
   go_upto_region 3 with fail
   apply Zl
   iterate 2 refine Zm ?_
   refine Zw rfl (cl_v hq HCL) ?_
   refine Zn HCP.out ?_; rintro e w7 ⟨A7, c7, rfl, hvs7, hb7⟩; refine ⟨_, rfl, ?_⟩; simp only [Zq]
   have HV7 := Zi hvs7
   replace HT := Zi (HT.out.quiet hb7)
   replace HCL := Zi (HCL.out.old hb7)
   replace hq := below_look hb7 hq
   iterate 5 refine Zm ?_
   have HCD := Zi (dElems_some (dElems_any HT.out.hd (fun b hb => ⟨Nat.le_trans (HI.out.elm b hb).1 (by omega), HFT.out.all.elm b hb⟩) HCL.out.v) HE.out)
   clear hb7 HCP hvs7
   go_upto_region 4 with fail
   apply Zl
   iterate 2 refine Zm ?_
   refine Zw rfl (cl_v hq HCL) ?_
   refine Zn HCD.out ?_; rintro e w8 ⟨A8, c8, rfl, hvs8, hb8⟩; refine ⟨_, rfl, ?_⟩; simp only [Zq]
   have HV8 := Zi hvs8
   replace HV7 := Zi (HV7.out.old hb8)
   replace HT := Zi (HT.out.quiet hb8)
   iterate 5 refine Zm ?_
   clear hb8 HCD hq hvs8
   have hce := EqValues_any le le _ _ _ _ _ _ w8 _ _ HV7.out HV8.out
   rw [eqVas_same] at hce
   have HCE := Zi hce
   clear hce
   go_upto_region 5 with fail
   apply Zl
   iterate 6 refine Zm ?_
   refine Zn HCE.out ?_; rintro e w9 ⟨rfl, hb9⟩; refine ⟨_, rfl, ?_⟩; simp only [Zq]
   iterate 2 refine Zm ?_
   go_wp2_with fail
   go_ret
   rw [HD.out]
   exact ⟨rfl, _, _, HDn.out.trans (HT.out.quiet hb9), by omega⟩
 have e9 : (q.k == 9) = false := by simp [c9]
 go_upto_region 2 with fail
 apply Zl
 iterate 2 refine Zm ?_
 by_cases c10 : q.k = 10
 ·have e10 : (q.k == 10) = true := by simp [c10]
  have HD : Hid (stepS h q = (ownP h q.v).1) := Zi (by unfold stepS; rw [if_pos c10])
  go_upto_region 6 with fail
  apply Zl
  iterate 2 refine Zm ?_
  obtain ⟨y, hy⟩ : ∃ y, y = ownP h q.v := ⟨_, rfl⟩
  have HY := Zi hy
  clear hy
  have hc := Own_any HT.out.hp HT.out.fr (by omega) (fun b hb => ⟨Nat.le_trans (HI.out.elm b hb).1 (by omega), HW.out.elm b hb⟩) HCL.out.v
  rw [<- HY.out] at hc
  have HC := Zi hc
  clear hc
  go_upto_region 7 with fail
  apply Zl
  iterate 2 refine Zm ?_
  refine Zw rfl (cl_v hq HCL) ?_
  refine Zn HC.out ?_; rintro e w7 ⟨G7, row7, rfl, hva7, d7⟩; refine ⟨_, rfl, ?_⟩; simp only [Zq]
  have m7 := d7.mv
  replace HT := Zi (HT.out.stp HKK.out d7)
  replace HCL := Zi (m7.cl HCL.out)
  obtain ⟨hq9, hn9⟩ := m7.look hq HQN.out
  clear hq HQN
  have hq := hq9
  have HQN := Zi hn9
  clear hq9 hn9
  have HVA7 := Zi hva7
  have hs7 := hva7.size
  have h17 := hva7.one
  have hz := Below.refl w7.heap.size w7
  clear d7 m7 hva7 HC
  iterate 4 refine Zm ?_
  have lthqb7 := heap_lt hq; (with_reducible refine wl_allV ?_); intro W8 b7 hbn hlb7 hb7; replace hq := below_look hbn hq; replace hz := hz.trans (hbn.mono hz.size); clear hbn; simp only [Zq]
  (with_reducible refine wl_putV hs7 h17 hzs rfl rfl hb7 ?_); rw [put_noneA]; intro W9 hbx hsz hkx hnx
  replace hz := hbx _ _ (by omega) hz
  have hq9 := (hkx b1 (by omega)).trans hq
  have HN7 : Hid (G7 b7 = none) := Zi (HT.out.fr b7 (by omega))
  clear hb7 hq hbx hsz hkx
  have hb7 := hnx
  have hq := hq9
  replace HT := Zi (HT.out.quiet hz)
  replace HCL := Zi (HCL.out.old hz)
  replace HVA7 := Zi (HVA7.out.old hz)
  clear hnx hq9 hz
  iterate 2 refine Zm ?_
  have hc := dOwn_any HT.out.hd HT.out.fr (by omega) (fun b hb => ⟨Nat.le_trans (HI.out.elm b hb).1 (by omega), fun u hu => ⟨HW.out.elm b hb u hu, HFT.out.all.elm b hb u hu⟩⟩) HCL.out.v HQF.out.v
  rw [<- HY.out] at hc
  have HC := Zi hc
  clear hc
  go_upto_region 8 with fail
  apply Zl
  iterate 2 refine Zm ?_
  refine Zw rfl (cl_v hq HCL) ?_
  refine Zn HC.out ?_; rintro e w8 ⟨G8, row8, rfl, hva8, d8⟩; refine ⟨_, rfl, ?_⟩; simp only [Zq]
  have m8 := d8.mv
  replace HT := Zi (HT.out.std HKK.out d8)
  replace HCL := Zi (m8.cl HCL.out)
  obtain ⟨hq9, hn9⟩ := m8.look hq HQN.out
  clear hq HQN
  have hq := hq9
  have HQN := Zi hn9
  clear hq9 hn9
  replace HVA7 := Zi (m8.va HVA7.out)
  obtain ⟨hb9, hn9⟩ := m8.look hb7 HN7.out
  clear hb7 HN7
  have hb7 := hb9
  have HVA8 := Zi hva8
  have hs8 := hva8.size
  have h18 := hva8.one
  have hz := Below.refl w8.heap.size w8
  clear d8 m8 hva8 HC hb9 hn9
  iterate 4 refine Zm ?_
  have lthb7b8 := heap_lt hb7; (with_reducible refine wl_allV ?_); intro W10 b8 hbn hlb8 hb8; replace hb7 := below_look hbn hb7; replace hz := hz.trans (hbn.mono hz.size); clear hbn; simp only [Zq]
  (with_reducible refine wl_putV hs8 h18 hzs rfl rfl hb8 ?_); rw [put_noneA]; intro W11 hbx hsz hkx hnx
  replace hz := hbx _ _ (by omega) hz
  have hq9 := (hkx b7 (by omega)).trans hb7
  clear hb8 hb7 hq hbx hsz hkx
  have hb8 := hnx
  have hb7 := hq9
  replace HT := Zi (HT.out.quiet hz)
  replace HVA7 := Zi (HVA7.out.old hz)
  replace HVA8 := Zi (HVA8.out.old hz)
  clear hnx hq9 hz
  iterate 2 refine Zm ?_
  have hce := eq_any HVA7.out HVA8.out
  rw [eqVa_same] at hce
  have HCE := Zi hce
  clear hce
  go_upto_region 9 with fail
  apply Zl
  iterate 9 refine Zm ?_
  refine Zw rfl (row35 hb7 hs7) ?_
  refine Zw rfl (row35 hb8 hs8) ?_
  refine Zn HCE.out ?_; rintro e w9 ⟨rfl, hb9⟩; refine ⟨_, rfl, ?_⟩; simp only [Zq]
  iterate 2 refine Zm ?_
  go_wp2_with fail
  go_ret
  rw [HD.out, <- HY.out]
  exact ⟨rfl, _, _, HDn.out.trans (HT.out.quiet hb9), by omega⟩
 have e10 : (q.k == 10) = false := by simp [c10]
 go_upto_region 6 with fail
 apply Zl
 iterate 2 refine Zm ?_
 by_cases c11 : q.k = 11
 ·have e11 : (q.k == 11) = true := by simp [c11]
  have HD : Hid (stepS h q = (putP h q.v q.a q.x).1) := Zi (by unfold stepS; rw [if_neg c10, if_pos c11])
  go_upto_region 10 with fail
  apply Zl
  iterate 2 refine Zm ?_
  obtain ⟨y, hy⟩ : ∃ y, y = putP h q.v q.a q.x := ⟨_, rfl⟩
  have HY := Zi hy
  clear hy
  have hc := Put_any HT.out.hp HT.out.fr q.a HCL.out.v HCL.out.x
  rw [<- HY.out] at hc
  have HC := Zi hc
  clear hc
  go_upto_region 11 with fail
  apply Zl
  iterate 2 refine Zm ?_
  refine Zw rfl (cl_v hq HCL) ?_
  refine Zm ?_
  refine Zo rfl (cl_a hq HCL) ?_
  refine Zm ?_
  refine Zw rfl (cl_x hq HCL) ?_
  refine Zn HC.out ?_; rintro e w7 ⟨G7, row7, rfl, hva7, d7⟩; refine ⟨_, rfl, ?_⟩; simp only [Zq]
  have m7 := d7.mv
  replace HT := Zi (HT.out.stp HKK.out d7)
  replace HCL := Zi (m7.cl HCL.out)
  obtain ⟨hq9, hn9⟩ := m7.look hq HQN.out
  clear hq HQN
  have hq := hq9
  have HQN := Zi hn9
  clear hq9 hn9
  have HVA7 := Zi hva7
  have hs7 := hva7.size
  have h17 := hva7.one
  have hz := Below.refl w7.heap.size w7
  clear d7 m7 hva7 HC
  iterate 3 refine Zm ?_
  have lthqb7 := heap_lt hq; (with_reducible refine wl_allV ?_); intro W8 b7 hbn hlb7 hb7; replace hq := below_look hbn hq; replace hz := hz.trans (hbn.mono hz.size); clear hbn; simp only [Zq]
  (with_reducible refine wl_putV hs7 h17 hzs rfl rfl hb7 ?_); rw [put_noneA]; intro W9 hbx hsz hkx hnx
  replace hz := hbx _ _ (by omega) hz
  have hq9 := (hkx b1 (by omega)).trans hq
  have HN7 : Hid (G7 b7 = none) := Zi (HT.out.fr b7 (by omega))
  clear hb7 hq hbx hsz hkx
  have hb7 := hnx
  have hq := hq9
  replace HT := Zi (HT.out.quiet hz)
  replace HCL := Zi (HCL.out.old hz)
  replace HVA7 := Zi (HVA7.out.old hz)
  clear hnx hq9 hz
  refine Zm ?_
  have hc := dPut_any HT.out.hd HT.out.fr q.a HCL.out.v HCL.out.x HQF.out.x
  rw [<- HY.out] at hc
  have HC := Zi hc
  clear hc
  go_upto_region 12 with fail
  apply Zl
  iterate 2 refine Zm ?_
  refine Zw rfl (cl_v hq HCL) ?_
  refine Zm ?_
  refine Zo rfl (cl_a hq HCL) ?_
  refine Zm ?_
  refine Zw rfl (cl_x hq HCL) ?_
  refine Zn HC.out ?_; rintro e w8 ⟨G8, row8, rfl, hva8, d8⟩; refine ⟨_, rfl, ?_⟩; simp only [Zq]
  have m8 := d8.mv
  replace HT := Zi (HT.out.std HKK.out d8)
  replace HCL := Zi (m8.cl HCL.out)
  obtain ⟨hq9, hn9⟩ := m8.look hq HQN.out
  clear hq HQN
  have hq := hq9
  have HQN := Zi hn9
  clear hq9 hn9
  replace HVA7 := Zi (m8.va HVA7.out)
  obtain ⟨hb9, hn9⟩ := m8.look hb7 HN7.out
  clear hb7 HN7
  have hb7 := hb9
  have HVA8 := Zi hva8
  have hs8 := hva8.size
  have h18 := hva8.one
  have hz := Below.refl w8.heap.size w8
  clear d8 m8 hva8 HC hb9 hn9
  iterate 3 refine Zm ?_
  have lthb7b8 := heap_lt hb7; (with_reducible refine wl_allV ?_); intro W10 b8 hbn hlb8 hb8; replace hb7 := below_look hbn hb7; replace hz := hz.trans (hbn.mono hz.size); clear hbn; simp only [Zq]
  (with_reducible refine wl_putV hs8 h18 hzs rfl rfl hb8 ?_); rw [put_noneA]; intro W11 hbx hsz hkx hnx
  replace hz := hbx _ _ (by omega) hz
  have hq9 := (hkx b7 (by omega)).trans hb7
  clear hb8 hb7 hq hbx hsz hkx
  have hb8 := hnx
  have hb7 := hq9
  replace HT := Zi (HT.out.quiet hz)
  replace HVA7 := Zi (HVA7.out.old hz)
  replace HVA8 := Zi (HVA8.out.old hz)
  clear hnx hq9 hz
  refine Zm ?_
  have hce := eq_any HVA7.out HVA8.out
  rw [eqVa_same] at hce
  have HCE := Zi hce
  clear hce
  go_upto_region 13 with fail
  apply Zl
  iterate 4 refine Zm ?_
  refine Zw rfl (row35 hb7 hs7) ?_
  refine Zw rfl (row35 hb8 hs8) ?_
  refine Zn HCE.out ?_; rintro e w9 ⟨rfl, hb9⟩; refine ⟨_, rfl, ?_⟩; simp only [Zq]
  iterate 2 refine Zm ?_
  go_wp2_with fail
  go_ret
  rw [HD.out, <- HY.out]
  exact ⟨rfl, _, _, HDn.out.trans (HT.out.quiet hb9), by omega⟩
 have e11 : (q.k == 11) = false := by simp [c11]
 go_upto_region 10 with fail
 apply Zl
 iterate 2 refine Zm ?_
 by_cases c12 : q.k = 12
 ·have e12 : (q.k == 12) = true := by simp [c12]
  have HD : Hid (stepS h q = (appendP h q.v q.x).1) := Zi (by unfold stepS; rw [if_neg c10, if_neg c11, if_pos c12])
  go_upto_region 14 with fail
  apply Zl
  iterate 2 refine Zm ?_
  obtain ⟨y, hy⟩ : ∃ y, y = appendP h q.v q.x := ⟨_, rfl⟩
  have HY := Zi hy
  clear hy
  have hbz : Below W.heap.size W W.drew := (Below.refl _ _).drew
  replace HT := Zi (HT.out.quiet hbz)
  have HCLd := Zi (HCL.out.old hbz)
  have hc := Append_any HT.out.hp HT.out.fr (fun b hb => Nat.le_trans (HI.out.elm b hb).1 (by omega)) HCLd.out.v HCLd.out.x
  rw [<- HY.out] at hc
  have HC := Zi hc
  clear hc
  go_upto_region 15 with fail
  refine wp_region_Z (S := fun w' => Keep (fun b => Mine G k b ∨ Mine G k2 b) W w') 13 mixed HT.out.keep (fun hS => ?_)
  refine zm 0 hS ?_; try simp only [Zq]
  refine zm 1 hS ?_; try simp only [Zq]
  refine zv4 (i := 2) rfl (by kernel_rfl) Zg hS rfl (fun w' hw' => ex_row rfl (cl_v (hw'.look hq HNQ.out) HCL)) ?_; try simp only [Zq]
  refine zm 3 hS ?_; try simp only [Zq]
  refine zv4 (i := 4) rfl (by kernel_rfl) Zg hS rfl (fun w' hw' => ex_row rfl (cl_x (hw'.look hq HNQ.out) HCL)) ?_; try simp only [Zq]
  refine zm 6 hS ?_; try simp only [Zq]
  refine zm 7 hS ?_; try simp only [Zq]
  refine zv4 (i := 8) rfl (by kernel_rfl) Zg hS rfl (fun w' hw' => ex_row rfl (cl_v (hw'.look hq HNQ.out) HCL)) ?_; try simp only [Zq]
  refine zm 9 hS ?_; try simp only [Zq]
  refine zv4 (i := 10) rfl (by kernel_rfl) Zg hS rfl (fun w' hw' => ex_row rfl (cl_x (hw'.look hq HNQ.out) HCL)) ?_; try simp only [Zq]
  refine za_call (i := 5) (by kernel_rfl) rfl rfl (fun K hK => ?_); go_simp; refine ⟨_, _, ⟨rfl, rfl⟩, hK _ _ ⟨_, HC.out, ?_⟩⟩; clear hK K; rintro e w7 ⟨G7, rfl, d7⟩
  have m7 := d7.mv
  replace HT := Zi (HT.out.stp HKK.out d7)
  replace HCL := Zi (m7.cl HCLd.out)
  clear hS
  have hS := HT.out.keep
  refine ⟨_, rfl, fun _ => hS, ?_⟩
  try simp only [Zq]
  clear d7 m7 HC HCLd hbz
  have hc := dAppend_any HT.out.hd HT.out.fr (fun b hb => Nat.le_trans (HI.out.elm b hb).1 (by omega)) HCL.out.v HCL.out.x HQF.out.x
  rw [<- HY.out] at hc
  have HC := Zi hc
  clear hc
  refine za_call (i := 11) (by kernel_rfl) rfl rfl (fun K hK => ?_); go_simp; refine ⟨_, _, ⟨rfl, rfl⟩, hK _ _ ⟨_, HC.out, ?_⟩⟩; clear hK K; rintro e w8 ⟨G8, rfl, d8⟩
  replace HT := Zi (HT.out.std HKK.out d8)
  clear hS
  have hS := HT.out.keep
  refine ⟨_, rfl, fun _ => hS, ?_⟩
  try simp only [Zq]
  clear d8 HC
  refine zn 12 hS ?_; try simp only [Zq]
  refine zn 13 hS ?_; try simp only [Zq]
  clear hS
  refine za_done (by kernel_rfl) ?_ _
  go_upto_region 16 with fail
  apply Zl
  iterate 4 refine Zm ?_
  go_wp2_with fail
  go_ret
  rw [HD.out, <- HY.out]
  exact ⟨rfl, _, _, HDn.out.trans HT.out, by omega⟩
 have e12 : (q.k == 12) = false := by simp [c12]
 go_upto_region 14 with fail
 apply Zl
 iterate 2 refine Zm ?_
 have HD : Hid (stepS h q = h) := Zi (by unfold stepS; rw [if_neg c10, if_neg c11, if_neg c12])
 go_upto_region 17 with fail
 apply Zl
 refine Zm ?_
 go_wp2_with fail
 go_ret
 rw [HD.out]
 exact ⟨rfl, _, _, HDn.out, by omega⟩
end Go.Proofs.Ytpamocglecangaa
