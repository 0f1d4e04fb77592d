/- The program's Weak and Load. The program's Set. The program's End. slices. The program's backwards: tasks that end values, the first one on top. A heap whose topmost level is being worked on: what its row of levels holds last is told apart. The program's New. -/
import Derived.Test.YtpamocglecangaaPD3
import Derived.RangeFuncNested
import Derived.RangeFuncLeaves
import Derived.Shelf.Abstract
import Derived.WalkKit
import Derived.OwnWalkIn
import Derived.TacticsInMore
import Derived.LoopNIn
import Derived.LoopIn
set_option maxHeartbeats 16000000
set_option maxRecDepth 100000
namespace Go.Proofs.Ytpamocglecangaa
open Go.RowKit Go.Proofs.Ytpamocglecangaa.Nm
set_option linter.unusedSimpArgs false
theorem wf_num {w : World} {D : Nat -> Prop} {v : Va} {row : Array Value} (h : VAt w D v row) : (Lit.int .i64 v.num).wf = true := by
 obtain ⟨-, -, -, -, -, -, -, -, -, -, -, -, hn, -⟩ := h.parts
 exact hn
def weakP (h : Hp) (v : Va) : Hp × Va × Int := if v.kind = 7 /\ ofV h.obs.length h.bus.length v = true then (match h.obs[v.num.toNat]? with | some o => if o.state = 3 then (h, va0, 141) else ({ h with obs := h.obs.set v.num.toNat (addW 1 o) }, .node 11 v.num ⟨#[]⟩ zeroTy [] [], 0) | none => (h, va0, 4)) else (h, va0, 4)
def loadP (h : Hp) (v : Va) : Hp × Va × Bool × Int := if v.kind = 11 /\ ofV h.obs.length h.bus.length v = true then (match h.obs[v.num.toNat]? with | some o => if o.state = 1 then ({ h with obs := h.obs.set v.num.toNat (addC 1 o) }, .node 7 v.num ⟨#[]⟩ zeroTy [] [], true, 0) else (h, va0, false, 0) | none => (h, va0, false, 4)) else (h, va0, false, 4)
def ValBErr (w : World) (G : Gh) (k p : Nat) (r : Hp × Va × Bool × Int) (e : Ending) (w' : World) : Prop := ∃ G' row, e = .returned (.tuple #[.agg row, .bool r.2.2.1, .int .i64 r.2.2.2]) /\ VAt w' (Imm G') r.2.1 row /\ Done w G k p r.1 w' G'
theorem Done.num {w W : World} {G G1 : Gh} {k p : Nat} {h : Hp} (d : Done w G k p h W G1) {oc : Nat} {bA : Option Addr} {bc m : Nat} {lA : Option Addr} {lc g i j : Nat} {h' : Hp} {x : Value} (hg : G1 g = some (k, .arr)) (hh : HAt (W.setCell ⟨g, i * 8 + j, none⟩ x) G1 k p h' (some ⟨g, 0, none⟩) oc bA bc m lA lc) : Done w G k p h' (W.setCell ⟨g, i * 8 + j, none⟩ x) G1 :=
 d.trans ⟨⟨_, _, _, _, _, _, _, hh⟩, d.fr.on (by simp), fun b _ => rfl, fun b hb => .inl (d.fr b hb), (Keep.refl _ W).trans (C' := fun b => b = g) (fun b e => .inl ⟨.arr, by rw [e]; exact hg, by simp⟩) (Keep.cellOne W g (i * 8 + j) x)⟩
theorem mine_arr {G : Gh} {k r g : Nat} (h : G r = some (k, .tmp)) (hg : G g = some (k, .arr)) : r ≠ g := fun e => by rw [e, hg] at h; cases h
/- objx: the object that the value names -/
/- objq(w9;;hb9): behind a quiet region -/
theorem Weak_any {G : Gh} {k p : Nat} {h : Hp} {w : World} (hh : HeapAt w G k p h) (hf : Fr w G) {v : Va} {row : Array Value} (hv : VAt w (Imm G) v row) :
  Calls Try.prog 29 #[.pointer (some ⟨p, 0, none⟩), .agg row] w (ValErr w G k p (weakP h v)) := by
 have HX := Zi hh
 have HF := Zi hf
 have HV := Zi hv
 have hvs := hv.size
 have hv1 := hv.one
 have hzs : zrow.size = 9 := rfl
 have zone : zrow.all (·.oneCell') = true := (zero_va w (Imm G)).one
 have hb := Below.refl w.heap.size w
 clear hh hf hv
 go_enter Try.func29, Try.ntmps29
 go_upto_region 0 with fail
 apply Zl
 (with_reducible refine wl_boxV rfl ?_); intro W q hbn hlq hq; replace hb := hb.trans (hbn.mono hb.size); clear hbn; simp only [Zq]
 have lthqr := heap_lt hq; (with_reducible refine wl_allV ?_); intro W2 r hbn hlr hr; replace hq := below_look hbn hq; replace hb := hb.trans (hbn.mono hb.size); clear hbn; simp only [Zq]
 refine Zm ?_
 have hrl : w.heap.size <= r := by omega
 have hql := heap_lt hq
 have HRl := Zi hrl
 have hqG : G q = none := HF.out q (by omega)
 have HQ : Hid (¬ Mine (mark G k r) k q) := Zi (by rintro ⟨x, e, -⟩; unfold mark at e; rw [if_neg (by omega), hqG] at e; cases e)
 have HDn := Zi (Done.marked HX.out HF.out hb hrl (heap_lt hr))
 have HM := Zi (mark_same G k r)
 have HNM := Zi (mark_not G k r)
 have hvv := HDn.out.va HV.out
 clear HV
 have HV := Zi hvv
 clear hvv HX HF hb hrl hql hqG
 obtain ⟨trv, A2v, l2v, c2v, A3v, l3v, c3v, hrv⟩ := HV.out.row
 have HRV := Zi hrv
 clear hrv
 go_upto_region 1 with fail
 by_cases h7 : v.kind = 7
 ·have e7 : (v.kind != 7) = false := by simp [h7]
  have HK7 := Zi h7
  clear h7
  obtain ⟨bb, hbb⟩ : ∃ b, b = ofV h.obs.length h.bus.length v := ⟨_, rfl⟩
  have hc := of_done HDn.out.heap HV.out
  rw [<- hbb] at hc
  have HC := Zi hc
  have HB := Zi hbb
  clear hc hbb
  apply Zl
  iterate 4 refine Zm ?_
  refine Zo rfl (vk (by assumption) (by assumption)) ?_
  iterate 4 refine Zm ?_
  refine Zw rfl (row35 hq hvs) ?_
  refine Zn HC.out ?_; rintro e w7 ⟨rfl, hb7⟩; refine ⟨_, rfl, ?_⟩; simp only [Zq]
  replace HDn := Zi (HDn.out.quiet hb7); replace HV := Zi (HV.out.old hb7); replace hq := below_look hb7 hq; replace hr := below_look hb7 hr; clear hb7
  iterate 3 refine Zm ?_
  clear HC
  cases bb with
  | false =>
   have HD : Hid (weakP h v = (h, va0, 4)) := Zi (by unfold weakP; rw [if_neg (fun c => by have := c.2; rw [<- HB.out] at this; cases this)])
   go_upto_region 2 with fail
   apply Zl
   refine wl_w rfl (build35 _ _ rfl _) ?_
   simp only [Zq]
   (with_reducible refine wl_putV rfl zone hzs rfl rfl hr ?_); rw [put_noneA]; intro W10 hbx hsz hkx hnx
   replace HDn := Zi (HDn.out.put HM.out HRl.out (Keep.of_put hbx hsz hkx))
   clear hr hbx hsz hkx
   have hr := hnx
   clear hnx
   refine Zm ?_
   go_wp2_with fail
   refine bodyPost_ret (res35t rfl _ _ r rfl rfl rfl hr) rfl ?_
   rw [HD.out]
   exact ⟨_, zrow, rfl, zero_va _ _, HDn.out⟩
  | true =>
   have h7 := HK7.out
   clear HRV
   have h1 : 0 <= v.num /\ v.num < (h.obs.length : Int) := by
    have := HB.out
    rw [ofV_eq, if_pos (by omega)] at this
    exact of_decide_eq_true this.symm
   obtain ⟨n, hn⟩ : ∃ n : Nat, v.num = (n : Int) := ⟨v.num.toNat, by omega⟩
   have hnl : n < h.obs.length := by omega
   have hnlI : (n : Int) < (h.obs.length : Int) := by omega
   have ho := List.getElem?_eq_getElem hnl
   obtain ⟨o, hoe⟩ : ∃ o, o = h.obs[n] := ⟨_, rfl⟩
   rw [<- hoe] at ho
   obtain ⟨oA, oc, bA, bc, m, lA, lc, hh⟩ := HDn.out.heap
   obtain ⟨g, rows, rfl, hR⟩ := hh.obs.rows ho
   obtain ⟨tr0, fA, fc, hL, -, -⟩ := hR.loads ho
   have HL := Zi hL
   have HOO := Zi ho
   have HH := Zi hh
   have HN := Zi hn
   have hp := hh.blk
   obtain ⟨trv, A2v, l2v, c2v, A3v, l3v, c3v, hrv⟩ := HV.out.row
   have HRV := Zi hrv
   clear hL hR hoe ho hh h1 hrv
   clear h7
   have HD : Hid (weakP h v = if o.state = 3 then (h, va0, 141) else ({ h with obs := h.obs.set n (addW 1 o) }, .node 11 (n : Int) ⟨#[]⟩ zeroTy [] [], 0)) := Zi (by unfold weakP; rw [if_pos ⟨HK7.out, HB.out.symm⟩, HN.out, Int.toNat_natCast, HOO.out])
   go_upto_region 3 with fail
   refine wp_region_belowAll mixed (by kernel_rfl) ?_
   iterate 3 refine Zt ?_
   refine Zv rfl (fun w' hw' => h0 (below_look hw' (by assumption))) ?_
   refine Zt ?_
   refine Zv rfl (fun w' hw' => vnN (below_look hw' (by assumption)) (by assumption) (by assumption)) ?_
   iterate 2 refine Zt ?_
   refine Zv rfl (fun w' hw' => (HL.out w' hw').s) ?_
   iterate 2 refine Zt ?_
   intro w9 hb9
   have HL9 := Zi (fun w' hw => HL.out w' (hb9.trans (Below.mono hw hb9.size)))
   replace HDn := Zi (HDn.out.quiet hb9); replace HV := Zi (HV.out.old hb9); replace HH := Zi (HH.out.old hb9); replace hp := below_look hb9 hp; replace hq := below_look hb9 hq; replace hr := below_look hb9 hr; clear hb9 HL
   have HL := HL9
   clear HL9
   by_cases h3 : o.state = 3
   ·have e3 : (o.state == 3) = true := by simp [h3]
    rw [if_pos h3] at HD
    clear h3 HL HH hp
    go_upto_region 4 with fail
    apply Zl
    refine wl_w rfl (build35 _ _ rfl _) ?_
    simp only [Zq]
    (with_reducible refine wl_putV rfl zone hzs rfl rfl hr ?_); rw [put_noneA]; intro W10 hbx hsz hkx hnx
    replace HDn := Zi (HDn.out.put HM.out HRl.out (Keep.of_put hbx hsz hkx))
    clear hr hbx hsz hkx
    have hr := hnx
    clear hnx
    refine Zm ?_
    go_wp2_with fail
    refine bodyPost_ret (res35t rfl _ _ r rfl rfl rfl hr) rfl ?_
    rw [HD.out]
    exact ⟨_, zrow, rfl, zero_va _ _, HDn.out⟩
   ·have e3 : (o.state == 3) = false := by simp [h3]
    rw [if_neg h3] at HD
    clear h3
    go_upto_region 5 with fail
    refine wp_region_below 12 mixed (by kernel_rfl) ?_; simp only [List.take_succ_cons, List.take_zero, List.drop_succ_cons, List.drop_zero]
    iterate 3 refine Zt ?_
    refine Zv rfl (fun w' hw' => h0 (below_look hw' (by assumption))) ?_
    refine Zt ?_
    refine Zv rfl (fun w' hw' => vnN (below_look hw' (by assumption)) (by assumption) (by assumption)) ?_
    iterate 2 refine Zt ?_
    refine Zv rfl (fun w' hw' => (HL.out w' hw').k) ?_
    iterate 3 refine Zt ?_
    intro w10 hb10
    have HL9 := Zi (fun w' hw => HL.out w' (hb10.trans (Below.mono hw hb10.size)))
    replace HDn := Zi (HDn.out.quiet hb10); replace HV := Zi (HV.out.old hb10); replace HH := Zi (HH.out.old hb10); replace hp := below_look hb10 hp; replace hq := below_look hb10 hq; replace hr := below_look hb10 hr; clear hb10 HL
    have HL := HL9
    clear HL9
    clear hp HL
    obtain ⟨hs1, hs2, hrl, hset⟩ := HH.out.stO HOO.out 6 (by omega)
    have HS := Zi (hset (w64 (o.weak + 1)) (addW 1 o) rfl rfl (by simp [addW]))
    have HRL := Zi hrl
    clear hset hrl
    refine wl_storeC rfl 3 _ _ rfl g _ (.int .i64 (w64 (o.weak + 1))) rfl rfl info3 rfl hs1 hs2 ?_
    rw [put_noneA]
    have hrg := mine_arr HM.out HRL.out
    have HDN := Zi (HDn.out.num HRL.out HS.out)
    replace hr := (heap_setCell_other w10 ⟨g, n * 8 + 6, none⟩ r (.int .i64 (w64 (o.weak + 1))) hrg).trans hr
    have hqg : q ≠ g := fun e => HQ.out ⟨.arr, by rw [e]; exact HRL.out, by simp⟩
    replace hq := (heap_setCell_other w10 ⟨g, n * 8 + 6, none⟩ q (.int .i64 (w64 (o.weak + 1))) hqg).trans hq
    have hnw := wf_num HV.out
    rw [HN.out] at hnw
    clear HDn HS hs1 hs2 HH
    obtain ⟨W12, hW⟩ : ∃ W, W = w10.setCell ⟨g, n * 8 + 6, none⟩ (.int .i64 (w64 (o.weak + 1))) := ⟨_, rfl⟩
    rw [<- hW] at HDN hq hr ⊢
    clear hW
    go_upto_region 6 with fail
    apply Zl
    refine Zm ?_
    refine Zo rfl (vnN hq HRV HN) ?_
    refine wl_w rfl (ex_build35n _ _ rfl rfl rfl) ?_
    simp only [Zq]
    have HV11 := Zi (nrow_at W12 (Imm (mark G k r)) (k := 11) (n := (n : Int)) (by rfl) hnw)
    (with_reducible refine wl_putV rfl HV11.out.one hzs rfl rfl hr ?_); rw [put_noneA]; intro W13 hbx hsz hkx hnx
    have HK12 := Zi (Keep.of_put hbx hsz hkx)
    clear hbx hsz hkx hr
    refine Zm ?_
    go_wp2_with fail
    refine bodyPost_ret (res35t rfl _ _ r rfl rfl rfl hnx) rfl ?_
    rw [HD.out]
    exact ⟨_, _, rfl, HV11.out.put HM.out HK12.out, HDN.out.put HM.out HRl.out HK12.out⟩
 ·have e7 : (v.kind != 7) = true := by simp [h7]
  have HD : Hid (weakP h v = (h, va0, 4)) := Zi (by unfold weakP; rw [if_neg (fun c => h7 c.1)])
  clear h7
  apply Zl
  iterate 4 refine Zm ?_
  refine Zo rfl (vk (by assumption) (by assumption)) ?_
  iterate 3 refine Zm ?_
  iterate 4 ((first | ((with_reducible refine wl_skipU ?_ ?_ ?_); exact rfl; exact rfl) | ((with_reducible refine wl_skip ?_ ?_); exact rfl; simp only [Zq])))
  iterate 2 refine Zm ?_
  go_upto_region 2 with fail
  apply Zl
  refine wl_w rfl (build35 _ _ rfl _) ?_
  simp only [Zq]
  (with_reducible refine wl_putV rfl zone hzs rfl rfl hr ?_); rw [put_noneA]; intro W10 hbx hsz hkx hnx
  replace HDn := Zi (HDn.out.put HM.out HRl.out (Keep.of_put hbx hsz hkx))
  clear hr hbx hsz hkx
  have hr := hnx
  clear hnx
  refine Zm ?_
  go_wp2_with fail
  refine bodyPost_ret (res35t rfl _ _ r rfl rfl rfl hr) rfl ?_
  rw [HD.out]
  exact ⟨_, zrow, rfl, zero_va _ _, HDn.out⟩
theorem Load_any {G : Gh} {k p : Nat} {h : Hp} {w : World} (hh : HeapAt w G k p h) (hf : Fr w G) {v : Va} {row : Array Value} (hv : VAt w (Imm G) v row) :
  Calls Try.prog 30 #[.pointer (some ⟨p, 0, none⟩), .agg row] w (ValBErr w G k p (loadP h v)) := by
 have HX := Zi hh
 have HF := Zi hf
 have HV := Zi hv
 have hvs := hv.size
 have hv1 := hv.one
 have hzs : zrow.size = 9 := rfl
 have zone : zrow.all (·.oneCell') = true := (zero_va w (Imm G)).one
 have hb := Below.refl w.heap.size w
 clear hh hf hv
 go_enter Try.func30, Try.ntmps30
 go_upto_region 0 with fail
 apply Zl
 (with_reducible refine wl_boxV rfl ?_); intro W q hbn hlq hq; replace hb := hb.trans (hbn.mono hb.size); clear hbn; simp only [Zq]
 have lthqr := heap_lt hq; (with_reducible refine wl_allV ?_); intro W2 r hbn hlr hr; replace hq := below_look hbn hq; replace hb := hb.trans (hbn.mono hb.size); clear hbn; simp only [Zq]
 refine Zm ?_; refine Zm ?_
 have hrl : w.heap.size <= r := by omega
 have hql := heap_lt hq
 have HRl := Zi hrl
 have hqG : G q = none := HF.out q (by omega)
 have HQ : Hid (¬ Mine (mark G k r) k q) := Zi (by rintro ⟨x, e, -⟩; unfold mark at e; rw [if_neg (by omega), hqG] at e; cases e)
 have HDn := Zi (Done.marked HX.out HF.out hb hrl (heap_lt hr))
 have HM := Zi (mark_same G k r)
 have HNM := Zi (mark_not G k r)
 have hvv := HDn.out.va HV.out
 clear HV
 have HV := Zi hvv
 clear hvv HX HF hb hrl hql hqG
 obtain ⟨trv, A2v, l2v, c2v, A3v, l3v, c3v, hrv⟩ := HV.out.row
 have HRV := Zi hrv
 clear hrv
 go_upto_region 1 with fail
 by_cases h7 : v.kind = 11
 ·have e7 : (v.kind != 11) = false := by simp [h7]
  have HK7 := Zi h7
  clear h7
  obtain ⟨bb, hbb⟩ : ∃ b, b = ofV h.obs.length h.bus.length v := ⟨_, rfl⟩
  have hc := of_done HDn.out.heap HV.out
  rw [<- hbb] at hc
  have HC := Zi hc
  have HB := Zi hbb
  clear hc hbb
  apply Zl
  iterate 4 refine Zm ?_
  refine Zo rfl (vk (by assumption) (by assumption)) ?_
  iterate 4 refine Zm ?_
  refine Zw rfl (row35 hq hvs) ?_
  refine Zn HC.out ?_; rintro e w7 ⟨rfl, hb7⟩; refine ⟨_, rfl, ?_⟩; simp only [Zq]
  replace HDn := Zi (HDn.out.quiet hb7); replace HV := Zi (HV.out.old hb7); replace hq := below_look hb7 hq; replace hr := below_look hb7 hr; clear hb7
  iterate 3 refine Zm ?_
  clear HC
  cases bb with
  | false =>
   have HD : Hid (loadP h v = (h, va0, false, 4)) := Zi (by unfold loadP; rw [if_neg (fun c => by have := c.2; rw [<- HB.out] at this; cases this)])
   go_upto_region 2 with fail
   apply Zl
   refine wl_w rfl (build35 _ _ rfl _) ?_
   simp only [Zq]
   (with_reducible refine wl_putV rfl zone hzs rfl rfl hr ?_); rw [put_noneA]; intro W10 hbx hsz hkx hnx
   replace HDn := Zi (HDn.out.put HM.out HRl.out (Keep.of_put hbx hsz hkx))
   clear hr hbx hsz hkx
   have hr := hnx
   clear hnx
   iterate 2 refine Zm ?_
   go_wp2_with fail
   refine bodyPost_ret (res35tt rfl _ _ r rfl rfl rfl rfl hr) rfl ?_
   rw [HD.out]
   exact ⟨_, zrow, rfl, zero_va _ _, HDn.out⟩
  | true =>
   have h7 := HK7.out
   clear HRV
   have h1 : 0 <= v.num /\ v.num < (h.obs.length : Int) := by
    have := HB.out
    rw [ofV_eq, if_pos (by omega)] at this
    exact of_decide_eq_true this.symm
   obtain ⟨n, hn⟩ : ∃ n : Nat, v.num = (n : Int) := ⟨v.num.toNat, by omega⟩
   have hnl : n < h.obs.length := by omega
   have hnlI : (n : Int) < (h.obs.length : Int) := by omega
   have ho := List.getElem?_eq_getElem hnl
   obtain ⟨o, hoe⟩ : ∃ o, o = h.obs[n] := ⟨_, rfl⟩
   rw [<- hoe] at ho
   obtain ⟨oA, oc, bA, bc, m, lA, lc, hh⟩ := HDn.out.heap
   obtain ⟨g, rows, rfl, hR⟩ := hh.obs.rows ho
   obtain ⟨tr0, fA, fc, hL, -, -⟩ := hR.loads ho
   have HL := Zi hL
   have HOO := Zi ho
   have HH := Zi hh
   have HN := Zi hn
   have hp := hh.blk
   obtain ⟨trv, A2v, l2v, c2v, A3v, l3v, c3v, hrv⟩ := HV.out.row
   have HRV := Zi hrv
   clear hL hR hoe ho hh h1 hrv
   clear h7
   have HD : Hid (loadP h v = if o.state = 1 then ({ h with obs := h.obs.set n (addC 1 o) }, .node 7 (n : Int) ⟨#[]⟩ zeroTy [] [], true, 0) else (h, va0, false, 0)) := Zi (by unfold loadP; rw [if_pos ⟨HK7.out, HB.out.symm⟩, HN.out, Int.toNat_natCast, HOO.out])
   go_upto_region 3 with fail
   refine wp_region_belowAll mixed (by kernel_rfl) ?_
   iterate 3 refine Zt ?_
   refine Zv rfl (fun w' hw' => h0 (below_look hw' (by assumption))) ?_
   refine Zt ?_
   refine Zv rfl (fun w' hw' => vnN (below_look hw' (by assumption)) (by assumption) (by assumption)) ?_
   iterate 2 refine Zt ?_
   refine Zv rfl (fun w' hw' => (HL.out w' hw').s) ?_
   iterate 2 refine Zt ?_
   intro w9 hb9
   have HL9 := Zi (fun w' hw => HL.out w' (hb9.trans (Below.mono hw hb9.size)))
   replace HDn := Zi (HDn.out.quiet hb9); replace HV := Zi (HV.out.old hb9); replace HH := Zi (HH.out.old hb9); replace hp := below_look hb9 hp; replace hq := below_look hb9 hq; replace hr := below_look hb9 hr; clear hb9 HL
   have HL := HL9
   clear HL9
   by_cases h3 : ¬ o.state = 1
   ·have e3 : (o.state != 1) = true := by simp [h3]
    rw [if_neg h3] at HD
    clear h3 HL HH hp
    go_upto_region 4 with fail
    apply Zl
    refine wl_w rfl (build35 _ _ rfl _) ?_
    simp only [Zq]
    (with_reducible refine wl_putV rfl zone hzs rfl rfl hr ?_); rw [put_noneA]; intro W10 hbx hsz hkx hnx
    replace HDn := Zi (HDn.out.put HM.out HRl.out (Keep.of_put hbx hsz hkx))
    clear hr hbx hsz hkx
    have hr := hnx
    clear hnx
    iterate 2 refine Zm ?_
    go_wp2_with fail
    refine bodyPost_ret (res35tt rfl _ _ r rfl rfl rfl rfl hr) rfl ?_
    rw [HD.out]
    exact ⟨_, zrow, rfl, zero_va _ _, HDn.out⟩
   ·have h3 : o.state = 1 := Classical.not_not.1 h3
    have e3 : (o.state != 1) = false := by simp [h3]
    rw [if_pos h3] at HD
    clear h3
    go_upto_region 5 with fail
    refine wp_region_below 12 mixed (by kernel_rfl) ?_; simp only [List.take_succ_cons, List.take_zero, List.drop_succ_cons, List.drop_zero]
    iterate 3 refine Zt ?_
    refine Zv rfl (fun w' hw' => h0 (below_look hw' (by assumption))) ?_
    refine Zt ?_
    refine Zv rfl (fun w' hw' => vnN (below_look hw' (by assumption)) (by assumption) (by assumption)) ?_
    iterate 2 refine Zt ?_
    refine Zv rfl (fun w' hw' => (HL.out w' hw').c) ?_
    iterate 3 refine Zt ?_
    intro w10 hb10
    have HL9 := Zi (fun w' hw => HL.out w' (hb10.trans (Below.mono hw hb10.size)))
    replace HDn := Zi (HDn.out.quiet hb10); replace HV := Zi (HV.out.old hb10); replace HH := Zi (HH.out.old hb10); replace hp := below_look hb10 hp; replace hq := below_look hb10 hq; replace hr := below_look hb10 hr; clear hb10 HL
    have HL := HL9
    clear HL9
    clear hp HL
    obtain ⟨hs1, hs2, hrl, hset⟩ := HH.out.stO HOO.out 5 (by omega)
    have HS := Zi (hset (w64 (o.count + 1)) (addC 1 o) rfl rfl (by simp [addC]))
    have HRL := Zi hrl
    clear hset hrl
    refine wl_storeC rfl 3 _ _ rfl g _ (.int .i64 (w64 (o.count + 1))) rfl rfl info3 rfl hs1 hs2 ?_
    rw [put_noneA]
    have hrg := mine_arr HM.out HRL.out
    have HDN := Zi (HDn.out.num HRL.out HS.out)
    replace hr := (heap_setCell_other w10 ⟨g, n * 8 + 5, none⟩ r (.int .i64 (w64 (o.count + 1))) hrg).trans hr
    have hqg : q ≠ g := fun e => HQ.out ⟨.arr, by rw [e]; exact HRL.out, by simp⟩
    replace hq := (heap_setCell_other w10 ⟨g, n * 8 + 5, none⟩ q (.int .i64 (w64 (o.count + 1))) hqg).trans hq
    have hnw := wf_num HV.out
    rw [HN.out] at hnw
    clear HDn HS hs1 hs2 HH
    obtain ⟨W12, hW⟩ : ∃ W, W = w10.setCell ⟨g, n * 8 + 5, none⟩ (.int .i64 (w64 (o.count + 1))) := ⟨_, rfl⟩
    rw [<- hW] at HDN hq hr ⊢
    clear hW
    go_upto_region 6 with fail
    apply Zl
    refine Zm ?_
    refine Zo rfl (vnN hq HRV HN) ?_
    refine wl_w rfl (ex_build35n _ _ rfl rfl rfl) ?_
    simp only [Zq]
    have HV11 := Zi (nrow_at W12 (Imm (mark G k r)) (k := 7) (n := (n : Int)) (by rfl) hnw)
    (with_reducible refine wl_putV rfl HV11.out.one hzs rfl rfl hr ?_); rw [put_noneA]; intro W13 hbx hsz hkx hnx
    have HK12 := Zi (Keep.of_put hbx hsz hkx)
    clear hbx hsz hkx hr
    iterate 2 refine Zm ?_
    go_wp2_with fail
    refine bodyPost_ret (res35tt rfl _ _ r rfl rfl rfl rfl hnx) rfl ?_
    rw [HD.out]
    exact ⟨_, _, rfl, HV11.out.put HM.out HK12.out, HDN.out.put HM.out HRl.out HK12.out⟩
 ·have e7 : (v.kind != 11) = true := by simp [h7]
  have HD : Hid (loadP h v = (h, va0, false, 4)) := Zi (by unfold loadP; rw [if_neg (fun c => h7 c.1)])
  clear h7
  apply Zl
  iterate 4 refine Zm ?_
  refine Zo rfl (vk (by assumption) (by assumption)) ?_
  iterate 3 refine Zm ?_
  iterate 4 ((first | ((with_reducible refine wl_skipU ?_ ?_ ?_); exact rfl; exact rfl) | ((with_reducible refine wl_skip ?_ ?_); exact rfl; simp only [Zq])))
  iterate 2 refine Zm ?_
  go_upto_region 2 with fail
  apply Zl
  refine wl_w rfl (build35 _ _ rfl _) ?_
  simp only [Zq]
  (with_reducible refine wl_putV rfl zone hzs rfl rfl hr ?_); rw [put_noneA]; intro W10 hbx hsz hkx hnx
  replace HDn := Zi (HDn.out.put HM.out HRl.out (Keep.of_put hbx hsz hkx))
  clear hr hbx hsz hkx
  have hr := hnx
  clear hnx
  iterate 2 refine Zm ?_
  go_wp2_with fail
  refine bodyPost_ret (res35tt rfl _ _ r rfl rfl rfl rfl hr) rfl ?_
  rw [HD.out]
  exact ⟨_, zrow, rfl, zero_va _ _, HDn.out⟩
theorem one_eq {w : World} {t : TypeId} {ad : Addr} {x y : Value} (h1 : OneAt w t ad x) (h2 : OneAt w t ad y) : x = y := by
 unfold OneAt at h1 h2
 rw [h1] at h2
 cases h2; rfl
theorem one_list {row : Array Value} (h : row.all (·.oneCell') = true) : ∀ u, u ∈ row.toList -> u.oneCell' = true := fun u hu => by
 rw [Array.all_eq_true] at h
 obtain ⟨i, hi, rfl⟩ := List.mem_iff_getElem.1 hu
 have := h i (by simpa using hi)
 simpa using this
theorem wp_storeN {op : Oper} {a : Act} {w : World} {K : Act -> World -> Prop} {Q : Exit -> Act -> World -> Prop} (ty : TypeId) (x y : Operand) (ho : op.op = .store ty x y) {g o n : Nat} {cs row : Array Value} {ty2 : TypeId} (hi : (Try.prog.info? ty).map (·.size) = some n)
  (hx : a.eval x = .pointer (some ⟨g, o, none⟩)) (hy : a.eval y = .agg row) (hr : row.size = n) (h1 : row.all (·.oneCell') = true) (hg : w.heap[g]? = some (.cells cs ty2 (0, 0))) (hf : o + row.size <= cs.size)
  (h : K (a.put op.dst undef) (w.setRow g (putN cs o row))) : op.wp Try.prog a w K Q := by
 unfold Oper.wp execOp
 simp only [ho, hx, hy, Instr.storeAt, Instr.sureAddr, Sem.run_bind, Sem.run_pure, Result.andThen_ok, run_storeN hi hr (one_list h1) hg hf]
 exact h
theorem wl_storeN {ops : Array Oper} {rest : List Oper} {op : Oper} {a : Act} {w : World} {Q : Exit -> Act -> World -> Prop} (hgd : op.guard = none) (ty : TypeId) (x y : Operand) (ho : op.op = .store ty x y) {g o n : Nat} {cs row : Array Value} {ty2 : TypeId} (hi : (Try.prog.info? ty).map (·.size) = some n)
  (hx : a.eval x = .pointer (some ⟨g, o, none⟩)) (hy : a.eval y = .agg row) (hr : row.size = n) (h1 : row.all (·.oneCell') = true) (hg : w.heap[g]? = some (.cells cs ty2 (0, 0))) (hf : o + row.size <= cs.size)
  (h : wpList Try.prog ops Q rest (a.put op.dst undef) (w.setRow g (putN cs o row))) : wpList Try.prog ops Q (op :: rest) a w :=
 wpList_plain hgd fun _ hK => wp_storeN ty x y ho hi hx hy hr h1 hg hf (hK _ _ h)
theorem Keep.rowOne (w : World) (g : Nat) (cs : Array Value) : Keep (fun b => b = g) w (w.setRow g cs) := ⟨by simp, rfl, rfl, by simp, fun b _ hn => setRow_other w g b cs hn⟩
section
variable {w w' : World} {G G' : Gh} {k p : Nat} {h : Hp} {oA : Option Addr} {oc : Nat} {bA : Option Addr} {bc m : Nat} {lA : Option Addr} {lc : Nat}
theorem ListV.at {r : Nat × Role} {l : List Va} {A : Option Addr} {c i : Nat} (hl : ListV w G r l A c) (hi : i < l.length) : ∃ g v row, A = some ⟨g, 0, none⟩ /\ G g = some r /\ l[i]? = some v /\ VAt w (Imm G) v row /\ ∀ w', Below w.heap.size w w' -> RowAt w' 35 ⟨g, i * 9, none⟩ row := by
 obtain ⟨rows, ho, hlen, hr, hv⟩ := hl
 have h1 : rows[i]? = some (rows[i]'(by omega)) := List.getElem?_eq_getElem _
 have h2 := List.getElem?_eq_getElem hi
 obtain ⟨g, cur, e, -⟩ := ho.addr (i := i) (by omega)
 subst e
 have hva := hv i _ _ h2 h1
 refine ⟨g, _, _, rfl, hr g rfl, h2, hva, fun w' hb => ?_⟩
 obtain ⟨cur, hg, -, -, hx, -⟩ := (ho.old hb).at h1
 exact row_mid (n := 9) hg hx u35 rfl hva.size info35
theorem ListV.put {r : Nat × Role} {l : List Va} {g c i : Nat} (hl : ListV w G r l (some ⟨g, 0, none⟩) c) (hi : i < l.length) {v : Va} {row : Array Value} (hv : VAt w (Imm G) v row) : ∃ cur, w.heap[g]? = some (.cells cur 35 (0, 0)) /\ i * 9 + row.size <= cur.size /\ ListV (w.setRow g (putN cur (i * 9) row)) G r (l.set i v) (some ⟨g, 0, none⟩) c := by
 obtain ⟨rows, ho, hlen, hr, hva⟩ := hl
 obtain ⟨cur, hg, hf, ho2⟩ := ho.put (i := i) (by omega) hv.size
 have hk := Keep.rowOne w g (putN cur (i * 9) row)
 have hG : ∀ b, Imm G b -> ¬ b = g := fun b hb e => by unfold Imm at hb; rw [e, hr g rfl] at hb; cases hb
 refine ⟨cur, hg, hf, _, ho2, by simp [hlen], hr, fun j u rw0 hj hrj => ?_⟩
 by_cases e : i = j
 ·subst e
  rw [List.getElem?_set_self (by omega)] at hj hrj
  cases hj; cases hrj
  exact hv.keep hk hG
 ·rw [List.getElem?_set_ne e] at hj hrj
  exact (hva j u rw0 hj hrj).keep hk hG
theorem HAt.setF (hh : HAt w G k p h oA oc bA bc m lA lc) {i : Nat} {o o' : Ob} (hi : h.obs[i]? = some o) {f fc : Nat} {cs : Array Value} {l : List Va} {g : Nat} (hA : oA = some ⟨g, 0, none⟩) (hO : ∀ row tr fA fc', ObAt w G k i o row tr fA fc' -> (∃ rows, ObsR w G k h.obs g oc rows /\ rows[i]? = some row) -> fA = some ⟨f, 0, none⟩ /\ fc' = fc) (hf : G f = some (k, .fld i)) (hl : l.length = o.fields.length) (ho' : o' = { o with fields := l }) (hL : ListV (w.setRow f cs) G (k, .fld i) l (some ⟨f, 0, none⟩) fc) :
  HAt (w.setRow f cs) G k p { h with obs := h.obs.set i o' } oA oc bA bc m lA lc := by
 have hk := Keep.rowOne w f cs
 have hne : ∀ b r, G b = some (k, r) -> r ≠ .fld i -> b ≠ f := fun b r e hr e2 => by rw [e2, hf] at e; cases e; exact hr rfl
 have hno : ∀ b, G b = none -> b ≠ f := fun b e e2 => by rw [e2, hf] at e; cases e
 subst hA
 obtain ⟨g', rows, e, hR⟩ := hh.obs.rows hi
 cases e
 obtain ⟨row, tr, fA, fc', hr, hx⟩ := hR.get hi
 obtain ⟨rfl, rfl⟩ := hO row tr fA fc' hx ⟨rows, hR, hr⟩
 have hrow : rows.set i row = rows := by
  apply List.ext_getElem?
  intro j
  by_cases e : i = j
  ·subst e; rw [List.getElem?_set_self (List.getElem?_eq_some_iff.1 hr).1, hr]
  ·rw [List.getElem?_set_ne e]
 refine hh.obsC (by simp) (fun b hb e => hk.block b hb fun e2 => ?_) (fun b hb e => hk.block b hb (hno b e)) ?_
 ·obtain ⟨r, e3, -, e5⟩ := e
  exact hne b r e3 (e5 i) e2
 ·refine hR.upd hi (row' := row) (tr' := tr) (fA' := some ⟨f, 0, none⟩) (fc' := fc') (fun j b hj hb e => hk.block b hb (hne b _ e (by simp [hj]))) (fun b hb e => hk.block b hb (hno b e)) (by rw [hrow]; exact hR.own.same fun b e hb => by cases e; exact hk.block g hb (hne g _ hR.role (by simp))) ?_
  subst ho'
  exact ⟨by rw [hx.eq]; show cell8 _ _ _ _ _ _ _ = cell8 _ _ _ _ _ l.length _; rw [hl], hx.ty.keep hk (fun b hb e => hno b hb e), hL⟩
theorem HAt.setE (hh : HAt w G k p h oA oc bA bc m lA lc) {i : Nat} {o o' : Bu} (hi : h.bus[i]? = some o) {f fc : Nat} {cs : Array Value} {l : List Va} {g : Nat} (hA : bA = some ⟨g, 0, none⟩) (hO : ∀ row fA fc', BuAt w G k i o row fA fc' -> (∃ rows, BusR w G k h.bus g bc rows /\ rows[i]? = some row) -> fA = some ⟨f, 0, none⟩ /\ fc' = fc) (hf : G f = some (k, .elm i)) (hl : l.length = o.elems.length) (ho' : o' = { o with elems := l }) (hL : ListV (w.setRow f cs) G (k, .elm i) l (some ⟨f, 0, none⟩) fc) :
  HAt (w.setRow f cs) G k p { h with bus := h.bus.set i o' } oA oc bA bc m lA lc := by
 have hk := Keep.rowOne w f cs
 have hne : ∀ b r, G b = some (k, r) -> r ≠ .elm i -> b ≠ f := fun b r e hr e2 => by rw [e2, hf] at e; cases e; exact hr rfl
 have hno : ∀ b, G b = none -> b ≠ f := fun b e e2 => by rw [e2, hf] at e; cases e
 subst hA
 obtain ⟨g', rows, e, hR⟩ := hh.bus.rows hi
 cases e
 obtain ⟨row, fA, fc', hr, hx⟩ := hR.get hi
 obtain ⟨rfl, rfl⟩ := hO row fA fc' hx ⟨rows, hR, hr⟩
 have hrow : rows.set i row = rows := by
  apply List.ext_getElem?
  intro j
  by_cases e : i = j
  ·subst e; rw [List.getElem?_set_self (List.getElem?_eq_some_iff.1 hr).1, hr]
  ·rw [List.getElem?_set_ne e]
 refine hh.busC (by simp) (fun b hb e => hk.block b hb fun e2 => ?_) (fun b hb e => hk.block b hb (hno b e)) ?_
 ·obtain ⟨r, e3, -, e5⟩ := e
  exact hne b r e3 (e5 i) e2
 ·refine hR.upd hi (row' := row) (eA' := some ⟨f, 0, none⟩) (ec' := fc') (fun j b hj hb e => hk.block b hb (hne b _ e (by simp [hj]))) (fun b hb e => hk.block b hb (hno b e)) (by rw [hrow]; exact hR.own.same fun b e hb => by cases e; exact hk.block g hb (hne g _ hR.role (by simp))) ?_
  subst ho'
  exact ⟨by rw [hx.eq, hl], hL⟩
theorem HAt.obj (hh : HAt w G k p h oA oc bA bc m lA lc) {i : Nat} {o : Ob} (hi : h.obs[i]? = some o) : ∃ g tr fA fc, oA = some ⟨g, 0, none⟩ /\ G g = some (k, .arr) /\ (∀ w', Below w.heap.size w w' -> ObL w' g i o tr fA fc) /\ TyAt w (Imm G) o.t tr /\ ListV w G (k, .fld i) o.fields fA fc /\ ∀ row tr' fA' fc', ObAt w G k i o row tr' fA' fc' -> (∃ rows, ObsR w G k h.obs g oc rows /\ rows[i]? = some row) -> fA' = fA /\ fc' = fc := by
 obtain ⟨g, rows, e, hR⟩ := hh.obs.rows hi
 obtain ⟨row, tr, fA, fc, hr, hx⟩ := hR.get hi
 refine ⟨g, tr, fA, fc, e, hR.role, fun w' hb => (hR.own.old hb).loads hr (hx.same (fun b hl _ => hb.block b hl) fun b hl _ => hb.block b hl), hx.ty, hx.fld, ?_⟩
 rintro row' tr' fA' fc' hx' ⟨rows', hR', hr'⟩
 obtain ⟨cur, hg, hs, hf, hc, -⟩ := hR.own.at hr
 obtain ⟨cur', hg', hs', hf', hc', -⟩ := hR'.own.at hr'
 rw [hg] at hg'; cases hg'
 have e2 : row' = row := hc'.symm.trans hc
 have h7 := (cell8_at hx.size o.state o.count o.weak fA o.fields.length fc).2.2.2.2
 have h7' := (cell8_at hx'.size o.state o.count o.weak fA' o.fields.length fc').2.2.2.2
 rw [<- hx.eq] at h7
 rw [<- hx'.eq, e2, h7] at h7'
 cases h7'
 exact ⟨rfl, rfl⟩
theorem HAt.buf (hh : HAt w G k p h oA oc bA bc m lA lc) {i : Nat} {o : Bu} (hi : h.bus[i]? = some o) : ∃ g fA fc, bA = some ⟨g, 0, none⟩ /\ G g = some (k, .bar) /\ (∀ w', Below w.heap.size w w' -> BuL w' g i o fA fc) /\ ListV w G (k, .elm i) o.elems fA fc /\ ∀ row fA' fc', BuAt w G k i o row fA' fc' -> (∃ rows, BusR w G k h.bus g bc rows /\ rows[i]? = some row) -> fA' = fA /\ fc' = fc := by
 obtain ⟨g, rows, e, hR⟩ := hh.bus.rows hi
 obtain ⟨row, fA, fc, hr, hx⟩ := hR.get hi
 refine ⟨g, fA, fc, e, hR.role, fun w' hb => (hR.own.old hb).loadsB hr (hx.same (fun b hl _ => hb.block b hl) fun b hl _ => hb.block b hl), hx.elm, ?_⟩
 rintro row' fA' fc' hx' ⟨rows', hR', hr'⟩
 obtain ⟨cur, hg, hs, hf, hc, -⟩ := hR.own.at hr
 obtain ⟨cur', hg', hs', hf', hc', -⟩ := hR'.own.at hr'
 rw [hg] at hg'; cases hg'
 have e2 : row' = row := hc'.symm.trans hc
 have h7 := hx'.eq
 rw [e2, hx.eq] at h7
 cases h7
 exact ⟨rfl, rfl⟩
end
def setP (h : Hp) (o f : Int) (v : Va) : Hp × Va × Int := if ofV h.obs.length h.bus.length v then (if placeE h o f = 0 then (match h.obs[o.toNat]? with | some ob => (match ob.fields[f.toNat]? with | some old => ({ h with obs := h.obs.set o.toNat { ob with fields := ob.fields.set f.toNat v } }, old, 0) | none => (h, va0, 1)) | none => (h, va0, 1)) else (h, va0, placeE h o f)) else (h, va0, 4)
theorem place_done {w : World} {G : Gh} {k p : Nat} {h : Hp} (hh : HeapAt w G k p h) (o f : Int) (ho : (Lit.int .i64 o).wf = true) (hf : (Lit.int .i64 f).wf = true) : Calls Try.prog 77 #[.pointer (some ⟨p, 0, none⟩), .int .i64 o, .int .i64 f] w fun e w' => e = .returned (.int .i64 (placeE h o f)) /\ Below w.heap.size w w' := by
 obtain ⟨oA, oc, bA, bc, m, lA, lc, hh⟩ := hh
 exact place_any hh o f ho hf
theorem place0 {h : Hp} {o f : Int} (hp : placeE h o f = 0) : ∃ (n j : Nat) (ob : Ob) (old : Va), o = (n : Int) /\ f = (j : Int) /\ h.obs[n]? = some ob /\ ob.fields[j]? = some old /\ ob.state ≠ 3 := by
 unfold placeE at hp
 split at hp
 ·cases hp
 ·rename_i ob hob
  split at hob
  ·rename_i h0
   split at hp
   ·rename_i hf
    split at hp
    ·cases hp
    ·rename_i hs
     exact ⟨o.toNat, f.toNat, ob, ob.fields[f.toNat]'(by omega), by omega, by omega, hob, List.getElem?_eq_getElem _, hs⟩
   ·cases hp
  ·cases hob
theorem Done.row {w W : World} {G G1 : Gh} {k p : Nat} {h : Hp} (d : Done w G k p h W G1) {oA : Option Addr} {oc : Nat} {bA : Option Addr} {bc m : Nat} {lA : Option Addr} {lc g : Nat} {h' : Hp} {cs : Array Value} (hg : Mine G1 k g) (hh : HAt (W.setRow g cs) G1 k p h' oA oc bA bc m lA lc) : Done w G k p h' (W.setRow g cs) G1 :=
 d.trans ⟨⟨_, _, _, _, _, _, _, hh⟩, d.fr.on (by simp), fun b _ => rfl, fun b hb => .inl (d.fr b hb), (Keep.refl _ W).trans (C' := fun b => b = g) (fun b e => .inl (by rw [e]; exact hg)) (Keep.rowOne W g cs)⟩
theorem Set_any {G : Gh} {k p : Nat} {h : Hp} {w : World} (hh : HeapAt w G k p h) (hf : Fr w G) (x f : Int) (hx : (Lit.int .i64 x).wf = true) (hfw : (Lit.int .i64 f).wf = true) {v : Va} {row : Array Value} (hv : VAt w (Imm G) v row) :
  Calls Try.prog 28 #[.pointer (some ⟨p, 0, none⟩), .int .i64 x, .int .i64 f, .agg row] w (ValErr w G k p (setP h x f v)) := by
 have HWF := Zi (And.intro hx hfw)
 clear hx hfw
 have HX := Zi hh
 have HF := Zi hf
 have HV := Zi hv
 have hvs := hv.size
 have hv1 := hv.one
 have hzs : zrow.size = 9 := rfl
 have zone : zrow.all (·.oneCell') = true := (zero_va w (Imm G)).one
 have hb := Below.refl w.heap.size w
 clear hh hf hv
 go_enter Try.func28, Try.ntmps28
 go_upto_region 0 with fail
 apply Zl
 (with_reducible refine wl_boxV rfl ?_); intro W q hbn hlq hq; replace hb := hb.trans (hbn.mono hb.size); clear hbn; simp only [Zq]
 have lthqr := heap_lt hq; (with_reducible refine wl_allV ?_); intro W2 r hbn hlr hr; replace hq := below_look hbn hq; replace hb := hb.trans (hbn.mono hb.size); clear hbn; simp only [Zq]
 refine Zm ?_
 have hrl : w.heap.size <= r := by omega
 have hql := heap_lt hq
 have HRl := Zi hrl
 have hqG : G q = none := HF.out q (by omega)
 have HQ : Hid (¬ Mine (mark G k r) k q) := Zi (by rintro ⟨x, e, -⟩; unfold mark at e; rw [if_neg (by omega), hqG] at e; cases e)
 have HDn := Zi (Done.marked HX.out HF.out hb hrl (heap_lt hr))
 have HM := Zi (mark_same G k r)
 have HNM := Zi (mark_not G k r)
 have hvv := HDn.out.va HV.out
 clear HV
 have HV := Zi hvv
 clear hvv HX HF hb hrl hql hqG
 obtain ⟨bb, hbb⟩ : ∃ b, b = ofV h.obs.length h.bus.length v := ⟨_, rfl⟩
 have hc := of_done HDn.out.heap HV.out
 rw [<- hbb] at hc
 have HC := Zi hc
 have HB := Zi hbb
 clear hc hbb
 go_upto_region 1 with fail
 apply Zl
 iterate 4 refine Zm ?_
 refine Zw rfl (row35 hq hvs) ?_
 refine Zn HC.out ?_; rintro e w7 ⟨rfl, hb7⟩; refine ⟨_, rfl, ?_⟩; simp only [Zq]
 replace HDn := Zi (HDn.out.quiet hb7); replace HV := Zi (HV.out.old hb7); replace hq := below_look hb7 hq; replace hr := below_look hb7 hr; clear hb7
 iterate 2 refine Zm ?_
 clear HC
 cases bb with
 | false =>
  have HD : Hid (setP h x f v = (h, va0, 4)) := Zi (by unfold setP; rw [<- HB.out]; rfl)
  go_upto_region 2 with fail
  apply Zl
  refine wl_w rfl (build35 _ _ rfl _) ?_
  simp only [Zq]
  (with_reducible refine wl_putV rfl zone hzs rfl rfl hr ?_); rw [put_noneA]; intro W10 hbx hsz hkx hnx
  replace HDn := Zi (HDn.out.put HM.out HRl.out (Keep.of_put hbx hsz hkx))
  clear hr hbx hsz hkx
  have hr := hnx
  clear hnx
  refine Zm ?_
  go_wp2_with fail
  refine bodyPost_ret (res35t rfl _ _ r rfl rfl rfl hr) rfl ?_
  rw [HD.out]
  exact ⟨_, zrow, rfl, zero_va _ _, HDn.out⟩
 | true =>
  obtain ⟨pe, hpe⟩ : ∃ z, z = placeE h x f := ⟨_, rfl⟩
  have hc := place_done HDn.out.heap x f HWF.out.1 HWF.out.2
  rw [<- hpe] at hc
  have HC := Zi hc
  have HPE := Zi hpe
  clear hc hpe
  go_upto_region 3 with fail
  apply Zl
  iterate 3 refine Zm ?_
  refine Zn HC.out ?_; rintro e w8 ⟨rfl, hb8⟩; refine ⟨_, rfl, ?_⟩; simp only [Zq]
  replace HDn := Zi (HDn.out.quiet hb8); replace HV := Zi (HV.out.old hb8); replace hq := below_look hb8 hq; replace hr := below_look hb8 hr; clear hb8
  refine Zm ?_
  clear HC
  go_upto_region 4 with fail
  by_cases h0 : pe = 0
  ·subst h0
   obtain ⟨n, j, o, old, rfl, rfl, ho, hold, -⟩ := place0 HPE.out.symm
   have HD : Hid (setP h (n : Int) (j : Int) v = ({ h with obs := h.obs.set n { o with fields := o.fields.set j v } }, old, 0)) := Zi (by unfold setP; rw [<- HB.out, <- HPE.out]; simp [ho, hold])
   apply Zl
   iterate 2 refine Zm ?_
   have hjl := (List.getElem?_eq_some_iff.1 hold).1
   have hnl := (List.getElem?_eq_some_iff.1 ho).1
   have hnlI : (n : Int) < (h.obs.length : Int) := by omega
   have hjlI : (j : Int) < (o.fields.length : Int) := by omega
   obtain ⟨oA, oc, bA, bc, m, lA, lc, hh⟩ := HDn.out.heap
   obtain ⟨g, tr0, fA, fc, rfl, hgr, hL, -, hLV, hun⟩ := hh.obj ho
   obtain ⟨fb, old', rowo, rfl, hfb, hold', hova, hrow⟩ := hLV.at hjl
   rw [hold] at hold'; cases hold'
   have HL := Zi hL
   have HOO := Zi ho
   have HH := Zi hh
   have HLV := Zi hLV
   have HUN := Zi hun
   have HFB := Zi hfb
   have HRO := Zi hrow
   have HOV := Zi hova
   have hos := hova.size
   have ho1 := hova.one
   have hp := hh.blk
   clear hL hLV hun hfb hrow hova hh ho hold
   go_upto_region 6 with fail
   have hzz := Below.refl w8.heap.size w8
   apply Zl
   iterate 3 refine Zm ?_
   refine Zo rfl (h0 hp) ?_
   iterate 3 refine Zm ?_
   refine Zo rfl ((HL.out _ (Below.refl _ _)).f) ?_
   iterate 2 refine Zm ?_
   refine Zw rfl (HRO.out _ (Below.refl _ _)) ?_
   (with_reducible refine wl_allV ?_); intro W5 q5 hbn hlq5 hq5; replace hzz := hzz.trans (hbn.mono hzz.size); clear hbn; simp only [Zq]
   (with_reducible refine wl_putV hos ho1 rfl rfl rfl hq5 ?_); rw [put_noneA]; intro W6 hbx hsz hkx hnx; replace hzz := hbx _ _ (by omega) hzz; clear hq5; have hq5 := hnx; clear hnx
   clear hbx hkx hsz
   have HQ5 : Hid (¬ Mine (mark G k r) k q5) := Zi (fun hm => by obtain ⟨z, e, -⟩ := hm; rw [HDn.out.fr q5 (by omega)] at e; cases e)
   have HL9 := Zi (fun w' hw => HL.out w' (hzz.trans (Below.mono hw hzz.size)))
   replace HDn := Zi (HDn.out.quiet hzz)
   replace HV := Zi (HV.out.old hzz)
   replace HOV := Zi (HOV.out.old hzz)
   replace HH := Zi (HH.out.old hzz)
   replace HLV := Zi (HLV.out.moved (Keep.of (C := fun _ => False) hzz) (fun b e => e.elim) (fun _ _ => rfl))
   replace hp := below_look hzz hp; replace hq := below_look hzz hq; replace hr := below_look hzz hr
   clear HL HUN HRO
   have HL := HL9
   clear HL9
   go_upto_region 7 with fail
   refine wp_region_below 11 mixed (by kernel_rfl) ?_; simp only [List.take_succ_cons, List.take_zero, List.drop_succ_cons, List.drop_zero]
   iterate 3 refine Zt ?_
   refine Zv rfl (fun w' hw' => h0 (below_look hw' (by assumption))) ?_
   iterate 3 refine Zt ?_
   refine Zv rfl (fun w' hw' => (HL.out w' hw').f) ?_
   refine Zt ?_
   ((with_reducible apply wq_row); exact rfl; exact rfl; intro w' hw'; exact row35 (below_look hw' hq) hvs)
   refine Zt ?_
   intro w10 hb10
   have hf1 := (HL.out w10 hb10).f
   replace HDn := Zi (HDn.out.quiet hb10)
   replace HV := Zi (HV.out.old hb10)
   replace HOV := Zi (HOV.out.old hb10)
   replace HH := Zi (HH.out.old hb10)
   replace HLV := Zi (HLV.out.moved (Keep.of (C := fun _ => False) hb10) (fun b e => e.elim) (fun _ _ => rfl))
   replace hp := below_look hb10 hp; replace hq := below_look hb10 hq; replace hr := below_look hb10 hr; replace hq5 := below_look hb10 hq5
   clear hb10 hzz HL hp hq
   obtain ⟨cur, hcur, hfit, hlp⟩ := HLV.out.put hjl HV.out
   obtain ⟨g2, tr2, fA2, fc2, e2, -, hL2, -, -, hun2⟩ := HH.out.obj HOO.out
   cases e2
   have e3 := one_eq hf1 (hL2 w10 (Below.refl _ _)).f
   cases e3
   have hset := HH.out.setF (o' := { o with fields := o.fields.set j v }) HOO.out rfl (f := fb) (fc := fc) hun2 HFB.out (by simp) rfl hlp
   have HDN := Zi (HDn.out.row ⟨_, HFB.out, by simp⟩ hset)
   have hk := Keep.rowOne w10 fb (putN cur (j * 9) row)
   have hrf : ¬ r = fb := fun e => by have h1 := HFB.out; rw [<- e, HM.out] at h1; cases h1
   have hqf : ¬ q5 = fb := fun e => HQ5.out ⟨.fld n, by rw [e]; exact HFB.out, by simp⟩
   have HOV2 := Zi (HOV.out.keep hk (fun b hb e => by unfold Imm at hb; rw [e, HFB.out] at hb; cases hb))
   have hr2 := hk.look hr hrf
   have hq2 := hk.look hq5 hqf
   clear hset hun2 hL2 hf1 hk hlp HDn HH HLV HOV hr hq5 HV
   refine wl_storeN rfl 35 _ _ rfl info35 rfl rfl hvs hv1 hcur hfit ?_
   rw [put_noneA]
   have hr := hr2
   have hq5 := hq2
   clear hr2 hq2 hcur hfit hrf hqf
   obtain ⟨W12, hW⟩ : ∃ W, W = w10.setRow fb (putN cur (j * 9) row) := ⟨_, rfl⟩
   rw [<- hW] at HDN HOV2 hr hq5 ⊢
   clear hW
   go_upto_region 8 with fail
   apply Zl
   refine Zw rfl (row35 hq5 hos) ?_
   (with_reducible refine wl_putV hos ho1 hzs rfl rfl hr ?_); rw [put_noneA]; intro W13 hbx hsz hkx hnx
   have HK12 := Zi (Keep.of_put hbx hsz hkx)
   clear hbx hsz hkx hr
   refine Zm ?_
   go_wp2_with fail
   refine bodyPost_ret (res35t rfl _ _ r rfl rfl hos hnx) rfl ?_
   rw [HD.out]
   exact ⟨_, _, rfl, HOV2.out.put HM.out HK12.out, HDN.out.put HM.out HRl.out HK12.out⟩
  ·have HD : Hid (setP h x f v = (h, va0, pe)) := Zi (by unfold setP; rw [<- HB.out, if_pos rfl, <- HPE.out, if_neg h0])
   have h0b : (pe != 0) = true := by simp [h0]
   apply Zl
   iterate 2 refine Zm ?_
   clear h0
   go_upto_region 5 with fail
   apply Zl
   refine wl_w rfl (build35 _ _ rfl _) ?_
   simp only [Zq]
   refine Zm ?_
   (with_reducible refine wl_putV rfl zone hzs rfl rfl hr ?_); rw [put_noneA]; intro W10 hbx hsz hkx hnx
   replace HDn := Zi (HDn.out.put HM.out HRl.out (Keep.of_put hbx hsz hkx))
   clear hr hbx hsz hkx
   have hr := hnx
   clear hnx
   refine Zm ?_
   go_wp2_with fail
   refine bodyPost_ret (res35t rfl _ _ r rfl rfl rfl hr) rfl ?_
   rw [HD.out]
   exact ⟨_, zrow, rfl, zero_va _ _, HDn.out⟩
open Go.RowKit Go.Proofs.Ytpamocglecangaa.Nm
set_option linter.unusedSimpArgs false
theorem built101v (a0 a1 a2 a3 a4 a5 a6 a7 a8 : Value) : Try.prog.built 101 [(0, .agg #[a0, a1, a2, a3, a4, a5, a6, a7, a8])] = some (#[a0, a1, a2, a3, a4, a5, a6, a7, a8] ++ #[.int .i64 0, .int .i64 0, .int .i64 0]) := by kernel_rfl
theorem ex_build101v {ev : Operand -> Value} {o : Oper} {w : World} (x : Operand) (ho : o.op = .build 101 #[(0, x)]) {row : Array Value} (ht : row.size = 9) (hx : ev x = .agg row) :
  (execOp ev o).run Try.prog w = .ok (.value (.agg (row ++ #[.int .i64 0, .int .i64 0, .int .i64 0]))) w := by
 obtain ⟨l0⟩ := row
 match l0, ht with
 | [a0, a1, a2, a3, a4, a5, a6, a7, a8], _ => exact ex_build 101 _ ho (by simp only [List.map_cons, List.map_nil, hx]) (built101v a0 a1 a2 a3 a4 a5 a6 a7 a8)
theorem run_bs98' (a0 a1 a2 a3 a4 a5 a6 a7 a8 a9 a10 a11 : Value) (w : World) : (Instr.buildSlice 98 1 #[(0, .agg #[a0, a1, a2, a3, a4, a5, a6, a7, a8, a9, a10, a11])]).run Try.prog w = .ok (.slice (some ⟨w.heap.size, 0, none⟩) 1 1) (w.alloc (.cells #[a0, a1, a2, a3, a4, a5, a6, a7, a8, a9, a10, a11] 101)) := by kernel_rfl
theorem ex_bs98 {ev : Operand -> Value} {o : Oper} {w : World} (x : Operand) (ho : o.op = .buildSlice 98 1 #[(0, x)]) {row : Array Value} (hx : ev x = .agg row) (h : row.size = 12) :
  (execOp ev o).run Try.prog w = .ok (.value (.slice (some ⟨w.heap.size, 0, none⟩) 1 1)) (w.alloc (.cells row 101)) := by
 obtain ⟨l⟩ := row
 match l, h with
 | [a0, a1, a2, a3, a4, a5, a6, a7, a8, a9, a10, a11], _ =>
  unfold execOp
  have := run_bs98' a0 a1 a2 a3 a4 a5 a6 a7 a8 a9 a10 a11 w
  simp [ho, hx, this, Result.andThen]
theorem run_bs85' (A : Option Addr) (l c : Nat) (w : World) : (Instr.buildSlice 85 1 #[(0, .slice A l c)]).run Try.prog w = .ok (.slice (some ⟨w.heap.size, 0, none⟩) 1 1) (w.alloc (.cells #[.slice A l c] 98)) := by kernel_rfl
theorem ex_bs85 {ev : Operand -> Value} {o : Oper} {w : World} (x : Operand) (ho : o.op = .buildSlice 85 1 #[(0, x)]) {A : Option Addr} {l c : Nat} (hx : ev x = .slice A l c) :
  (execOp ev o).run Try.prog w = .ok (.value (.slice (some ⟨w.heap.size, 0, none⟩) 1 1)) (w.alloc (.cells #[.slice A l c] 98)) := by
 unfold execOp
 have := run_bs85' A l c w
 simp [ho, hx, this, Result.andThen]
theorem trow_size {row : Array Value} (h : row.size = 9) (a b c : Value) : (row ++ #[a, b, c]).size = 12 := by simp [h]
theorem trow_one {row : Array Value} (h : row.all (·.oneCell') = true) {a b c : Int} : (row ++ #[Value.int .i64 a, Value.int .i64 b, Value.int .i64 c]).all (·.oneCell') = true := by
 rw [Array.all_append, h]
 simp [Value.oneCell']
def ErrOf (w : World) (G : Gh) (k p : Nat) (r : Hp × Int) (e : Ending) (w' : World) : Prop := ∃ G', e = .returned (.int .i64 r.2) /\ Done w G k p r.1 w' G'
def endP (h : Hp) (v : Va) : Hp × Int := if ofV h.obs.length h.bus.length v then (if deadV h v then (h, 140) else ({ h with lev := h.lev ++ [[.val v]] }, 0)) else (h, 4)
theorem End_any {G : Gh} {k p : Nat} {h : Hp} {w : World} (hh : HeapAt w G k p h) (hf : Fr w G) (hnb : h.lev.length <= 1000000) {v : Va} {row : Array Value} (hv : VAt w (Imm G) v row) :
  Calls Try.prog 25 #[.pointer (some ⟨p, 0, none⟩), .agg row] w (ErrOf w G k p (endP h v)) := by
 have HX := Zi hh
 have HF := Zi hf
 have HV := Zi hv
 have hvs := hv.size
 have hv1 := hv.one
 have hb := Below.refl w.heap.size w
 clear hh hf hv
 go_enter Try.func25, Try.ntmps25
 go_upto_region 0 with fail
 apply Zl
 (with_reducible refine wl_boxV rfl ?_); intro W q hbn hlq hq; replace hb := hb.trans (hbn.mono hb.size); clear hbn; simp only [Zq]
 refine Zm ?_
 have HQG : Hid (G q = none) := Zi (HF.out q (by omega))
 have HDn := Zi (Done.calm HX.out HF.out hb)
 replace HV := Zi (HV.out.old hb)
 clear HX HF hb
 obtain ⟨bb, hbb⟩ : ∃ b, b = ofV h.obs.length h.bus.length v := ⟨_, rfl⟩
 have hc := of_done HDn.out.heap HV.out
 rw [<- hbb] at hc
 have HC := Zi hc
 have HB := Zi hbb
 clear hc hbb
 go_upto_region 1 with fail
 apply Zl
 iterate 4 refine Zm ?_
 refine Zw rfl (row35 hq hvs) ?_
 refine Zn HC.out ?_; rintro e w7 ⟨rfl, hb7⟩; refine ⟨_, rfl, ?_⟩; simp only [Zq]
 replace HDn := Zi (HDn.out.quiet hb7); replace HV := Zi (HV.out.old hb7); replace hq := below_look hb7 hq; clear hb7
 iterate 3 refine Zm ?_
 clear HC
 cases bb with
 | false =>
  have HD : Hid (endP h v = (h, 4)) := Zi (by unfold endP; rw [<- HB.out]; rfl)
  go_upto_region 2 with fail
  apply Zl
  refine Zm ?_
  go_wp2_with fail
  go_ret
  rw [HD.out]
  exact ⟨_, rfl, HDn.out⟩
 | true =>
  obtain ⟨bd, hbd⟩ : ∃ b, b = deadV h v := ⟨_, rfl⟩
  have hc := dead_done HDn.out.heap HV.out HB.out.symm
  rw [<- hbd] at hc
  have HC := Zi hc
  have HBD := Zi hbd
  clear hc hbd
  go_upto_region 3 with fail
  apply Zl
  refine Zm ?_
  refine Zw rfl (row35 hq hvs) ?_
  refine Zn HC.out ?_; rintro e w8 ⟨rfl, hb8⟩; refine ⟨_, rfl, ?_⟩; simp only [Zq]
  replace HDn := Zi (HDn.out.quiet hb8); replace HV := Zi (HV.out.old hb8); replace hq := below_look hb8 hq; clear hb8
  refine Zm ?_
  clear HC
  cases bd with
  | true =>
   have HD : Hid (endP h v = (h, 140)) := Zi (by unfold endP; rw [<- HB.out, <- HBD.out]; rfl)
   go_upto_region 4 with fail
   apply Zl
   refine Zm ?_
   go_wp2_with fail
   go_ret
   rw [HD.out]
   exact ⟨_, rfl, HDn.out⟩
  | false =>
   have HD : Hid (endP h v = ({ h with lev := h.lev ++ [[.val v]] }, 0)) := Zi (by unfold endP; rw [<- HB.out, <- HBD.out]; rfl)
   obtain ⟨oA, oc, bA, bc, m, lA, lc, hh⟩ := HDn.out.heap
   have HH := Zi hh
   have hp := hh.blk
   have hpG := hh.rp
   have hnp : ∀ b, b = p -> ¬ (lA = some ⟨b, 0, none⟩) := fun b e e2 => by
    obtain ⟨-, -, -, hor, -⟩ := HH.out.lev
    have := hor b e2; rw [e, hpG] at this; cases this
   have hnq : ¬ (lA = some ⟨q, 0, none⟩) := fun e2 => by
    obtain ⟨-, -, -, hor, -⟩ := HH.out.lev
    have := hor q e2; rw [HQG.out] at this; cases this
   have HNP := Zi hnp
   have HNQ := Zi hnq
   clear hnp hnq hh
   have HKV := Zi (trow_one (a := 0) (b := 0) (c := 0) hv1)
   go_upto_region 5 with fail
   refine wp_region_Z (S := fun w' => Keep (fun b => lA = some ⟨b, 0, none⟩) w8 w') 12 mixed (Keep.of ((Below.refl _ _).drew)) (fun hS => ?_)
   have hbz : Below w8.heap.size w8 w8.drew := (Below.refl _ _).drew
   refine zm 0 hS ?_; try simp only [Zq]
   refine zm 1 hS ?_; try simp only [Zq]
   refine zm 2 hS ?_; try simp only [Zq]
   refine zm 3 hS ?_; try simp only [Zq]
   refine zv4 (i := 4) rfl (by kernel_rfl) Zg hS rfl (fun w' hw' => ex_one rfl (h3 (hw'.look hp (HNP.out _ rfl)))) ?_; try simp only [Zq]
   refine zv4 (i := 5) rfl (by kernel_rfl) Zg hS rfl (fun w' hw' => ex_row rfl (row35 (hw'.look hq HNQ.out) hvs)) ?_; try simp only [Zq]
   refine zv4 (i := 6) rfl (by kernel_rfl) Zg hS rfl (fun w' hw' => ex_build101v _ rfl hvs rfl) ?_; try simp only [Zq]
   refine za_new (i := 7) (v := fun q => .slice (some ⟨q, 0, none⟩) 1 1) (by kernel_rfl) rfl rfl (ex_bs98 _ rfl rfl (trow_size hvs _ _ _)) (fun W hW => hS.trans (C' := fun _ => False) (fun b e => e.elim) (Keep.of hW)) ?_
   clear hS
   intro W7 q7 hbn hlq7 hq7 hS
   try simp only [Zq]
   replace hbn := hbz.trans (hbn.mono hbz.size)
   have hlq7 : w8.heap.size <= q7 := hlq7
   have hd7 := Done.owned (A := some ⟨q7, 0, none⟩) (r := .lvl h.lev.length) HDn.out.heap HDn.out.fr hbn (fun g e => by cases e; exact ⟨hlq7, heap_lt hq7⟩)
   obtain ⟨G7, hG7⟩ : ∃ G7, G7 = own G (some ⟨q7, 0, none⟩) (k, .lvl h.lev.length) := ⟨_, rfl⟩
   have HR7 : Hid (RoleOf G7 (some ⟨q7, 0, none⟩) (k, .lvl h.lev.length)) := Zi (by rw [hG7]; exact own_role _ _ _)
   rw [<- hG7] at hd7
   have hhh := (HH.out.regh hd7.old).old hbn
   replace HV := Zi (HV.out.moved (Keep.of (C := fun _ => False) hbn) (fun b e => e.elim) hd7.old)
   replace HDn := Zi (HDn.out.trans hd7)
   clear HH
   have HH := Zi hhh
   have hp7 := below_look hbn hp
   clear hd7 hG7 hhh hbn hbz
   refine za_new (i := 8) (v := fun q => .slice (some ⟨q, 0, none⟩) 1 1) (by kernel_rfl) rfl rfl (ex_bs85 _ rfl rfl) (fun W hW => hS.trans (C' := fun _ => False) (fun b e => e.elim) (Keep.of hW)) ?_
   clear hS
   intro W8 q8 hbn hlq8 hq8 hS
   try simp only [Zq]
   replace HDn := Zi (HDn.out.quiet hbn)
   replace HH := Zi (HH.out.old hbn)
   replace HV := Zi (HV.out.old hbn)
   replace hp7 := below_look hbn hp7
   replace hq7 := below_look hbn hq7
   clear hbn
   have HTK : Hid (TksAt W8 G7 (k, .lvl h.lev.length) [.val v] (some ⟨q7, 0, none⟩) 1) := Zi (by
    refine ⟨[row ++ #[.int .i64 0, .int .i64 0, .int .i64 0]], ⟨fun r hr => ?_, Nat.le_refl _, by unfold maxLen; omega, .inr ⟨q7, _, rfl, hq7, by rw [trow_size hvs], fun i r hr => ?_⟩⟩, rfl, HR7.out, fun j t rw0 hj hr => ?_⟩
    ·rw [List.mem_singleton.1 hr]; exact trow_size hvs _ _ _
    ·match i, hr with
     | 0, hr =>
      cases hr
      rw [Nat.zero_mul]
      have := trow_size hvs (.int .i64 0) (.int .i64 0) (.int .i64 0)
      simp [Array.extract_eq_self_of_le, this]
    ·match j, hj, hr with
     | 0, hj, hr =>
      cases hj; cases hr
      exact ⟨row, HV.out, rfl⟩)
   obtain ⟨rows, ho, hlr, hor, hvr⟩ := HH.out.lev
   have HO := Zi ho
   have HV8 := Zi hvr
   have HOR := Zi hor
   have HLR := Zi hlr
   have hlen : rows.length <= 1000000 := by omega
   clear ho hvr hor
   refine za_pushL (i := 9) elt85 (by kernel_rfl) rfl rfl _ _ rfl (show _ = Value.slice lA rows.length lc by rw [HLR.out]; rfl) rfl HO.out hq8 rfl (by simp [Value.oneCell']) (by omega) (by unfold maxLen; omega) (fun w' hk => hS.trans (C' := fun b => lA = some ⟨b, 0, none⟩) (fun b e => .inl e) hk) ?_
   clear hS
   intro A9 c9 W9 hown hk9 hA9 hS
   rw [HLR.out]
   try simp only [Zq]
   replace hp7 := hk9.look hp7 (HNP.out _ rfl)
   have hd10 := Done.addL (ts := [.val v]) HH.out HDn.out.fr HLR.out HV8.out hown hk9 HOR.out hA9 HTK.out
   rw [HLR.out] at hd10
   obtain ⟨nb, hnb⟩ : ∃ n, n = h.lev.length + 1 := ⟨_, rfl⟩
   rw [<- hnb] at hd10 ⊢
   have HNB := Zi hnb
   clear hnb
   have HDN := Zi (HDn.out.trans hd10)
   obtain ⟨hs1, hs2, -⟩ := hdr_set (j := 3) (v := .slice A9 nb c9) hp7
   have hs1 := hs1 (by omega)
   clear hown hk9 hA9 hd10 HDn HH HO HV8 HOR hp7 HV HTK hq7
   refine zn 10 hS ?_; try simp only [Zq]
   refine zn 11 hS ?_; try simp only [Zq]
   refine za_storeC (i := 12) (by kernel_rfl) rfl rfl 85 _ _ rfl p 3 (.slice A9 nb c9) rfl rfl info85 rfl hs1 hs2 (fun h => absurd rfl h) ?_
   clear hS
   refine za_done (by kernel_rfl) ?_ _
   clear hp hq hs1 hs2 hlen
   go_upto_region 6 with fail
   apply Zl
   refine Zm ?_
   go_wp2_with fail
   go_ret
   rw [HD.out]
   exact ⟨_, rfl, HDN.out⟩
section
variable {F : Fence} {n : Nat} {P : Program} {ops : Array Oper} {Q : Exit -> Act -> World -> Prop} {rest : List Oper} {o : Oper} {a : Act} {w w2 : World} {v : Value}
theorem wlIn_op (hg : o.guard = none) (hd : ∀ c, o.op ≠ .defer c) (hab : ∀ f, o.about P w a.eval = some f -> F.fn f) (h : o.uponIn F n P a (wpListIn F n P ops Q rest) Q ((execOp a.eval o).run P w)) : wpListIn F n P ops Q (o :: rest) a w := by
 refine wpListIn_plain hg fun K hK => ⟨hab, ?_⟩
 have he : Oper.semAt F.round a.eval o = execOp a.eval o := by
  cases hr : F.round with
  | none => rfl
  | some l => exact Oper.semAt_some l _ o hd
 rw [he]
 revert h
 have key : ∀ r : Result Next, o.uponIn F n P a (wpListIn F n P ops Q rest) Q r -> o.uponIn F n P a K Q r := by
  intro r hr
  unfold Oper.uponIn at hr ⊢
  split at hr
  ·exact hK _ _ hr
  ·exact hK _ _ hr
  ·exact hK _ _ hr
  ·exact ⟨hr.1, hr.2.mono fun e w' h => by
    cases e with
    | returned v => exact hK _ _ h
    | panicked c => exact h
    | outgrown => exact h⟩
  ·exact ⟨hr.1, hr.2.mono fun _ _ h => hK _ _ h⟩
  ·exact ⟨hr.1, hr.2.mono fun e w' h => by
    cases e with
    | returned v => exact hK _ _ h
    | panicked c => exact h
    | outgrown => exact h⟩
  ·exact hr
  ·exact hr.elim
 exact key _
theorem wlIn_val (hg : o.guard = none) (hd : ∀ c, o.op ≠ .defer c) (hab : ∀ f, o.about P w a.eval = some f -> F.fn f) (hr : (execOp a.eval o).run P w = .ok (.value v) w2) (h : wpListIn F n P ops Q rest (a.put o.dst v) w2) : wpListIn F n P ops Q (o :: rest) a w :=
 wlIn_op hg hd hab (by rw [hr]; exact h)
end
section
variable {F : Fence} {n : Nat} {ops : Array Oper} {Q : Exit -> Act -> World -> Prop} {rest : List Oper} {dst : Option Tmp} {ty ty' : TypeId} {x : Operand} {pos : String} {after : Array Edge} {a : Act} {w : World} {ad : Addr} {D : Array Value} {v : Value}
theorem wlIn_rowG (hx : a.eval x = .pointer (some ad)) (hr : RowAt w ty ad D) (h : wpListIn F n Try.prog ops Q rest (a.put dst (.agg D)) w) : wpListIn F n Try.prog ops Q (⟨dst, .load ty x, ty', pos, after, none⟩ :: rest) a w :=
 wlIn_val rfl (fun c h => by cases h) (fun f h => by cases (show none = some f from h)) (ex_row hx hr) h
theorem wlIn_oneG (hx : a.eval x = .pointer (some ad)) (hr : OneAt w ty ad v) (h : wpListIn F n Try.prog ops Q rest (a.put dst v) w) : wpListIn F n Try.prog ops Q (⟨dst, .load ty x, ty', pos, after, none⟩ :: rest) a w :=
 wlIn_val rfl (fun c h => by cases h) (fun f h => by cases (show none = some f from h)) (ex_one hx hr) h
end
def downN (n k : Nat) : List Nat := (List.range k).map fun j => n - 1 - j
theorem downN_succ (n k : Nat) : downN n (k + 1) = downN n k ++ [n - 1 - k] := by simp [downN, List.range_succ]
theorem downN_len (n k : Nat) : (downN n k).length = k := by simp [downN]
def KpB (n0 : Nat) (C : Nat -> Prop) (W W' : World) : Prop := ∀ g, g < n0 -> ¬ C g -> W'.heap[g]? = W.heap[g]?
theorem KpB.t {n0 : Nat} {C : Nat -> Prop} {W1 W2 W3 : World} (h1 : KpB n0 C W1 W2) (h2 : KpB n0 C W2 W3) : KpB n0 C W1 W3 := fun g hg hc => (h2 g hg hc).trans (h1 g hg hc)
theorem KpB.b {n0 : Nat} {C : Nat -> Prop} {w : World} (hn : n0 <= w.heap.size) (W : World) (l : Nat) (o o' : Obj) (hl : w.heap.size <= l) (_ : W.heap[l]? = some o) (_ : o.isCells = false) (_ : o.isWalk = false) : KpB n0 C W (W.putObj l o') := fun g hg _ => World.putObj_heap_other (by omega)
theorem back1_in (F : Fence) (m : Nat) (h7 : F.fn 141) (hro : F.round = none) (hm : 1 <= m) (l Bs n0 n cap : Nat) (C : Nat -> Prop) (A : Option Addr) (rv : Nat -> Array Value) (hn : n <= maxLen) (J Jx : List Nat -> World -> Prop)
  (hY : ∀ (pre : List Nat) (x : Nat) (W : World), J pre W -> pre.length < n -> YieldAt F (m - 1) Try.prog l #[.int .i64 (x : Int), .agg (rv x)] W fun e W' =>
   (e = .returned (.bool true) /\ J (pre ++ [x]) W' /\ KpB n0 C W W') ∨ (e = .returned (.bool false) /\ Jx (pre ++ [x]) W'))
  (W : World) (hBs : W.heap[Bs]? = some (.cells #[.slice A n cap] 33 (0, 0))) (hB0 : Bs < n0 /\ ¬ C Bs) (hA : ∀ i, i < n -> ∃ b off, A = some ⟨b, off, none⟩ /\ b < n0 /\ ¬ C b /\ ∀ W', W'.heap[b]? = W.heap[b]? -> RowAt W' 35 ⟨b, off + i * 9, none⟩ (rv i)) (h0 : J [] W) :
  CallsIn F m Try.prog 141 #[.func (.yield l) #[] #[], .pointer (some ⟨Bs, 0, none⟩)] W fun e W' => (∃ v, e = .returned v) /\
   ((∃ ys, ys = downN n n /\ J ys W') ∨ (∃ pre, (∃ k, k <= n /\ pre = downN n k) /\ Jx pre W')) := by
 unfold maxLen at hn
 have hB33 : ∀ W', W'.heap[Bs]? = W.heap[Bs]? -> OneAt W' 33 ⟨Bs, 0, none⟩ (.slice A n cap) := fun W' h => one_of u33 rfl (by rw [cell_of_row _ _ _ _ _ _ (h.trans hBs)]; rfl)
 have HB := Zi hB33
 have HA := Zi hA
 have HY := Zi hY
 have HB0 := Zi hB0
 have h33 := hB33 W rfl
 have hnw : IntKind.i64.wrap ((n : Int) - 1) = (n : Int) - 1 := IntWalk.i64_in _ (by omega)
 clear hA hY hB33 hBs hB0
 refine callsIn_of_wp Try.func141 rfl h7 ?_ hro
 simp only [Try.ntmps141, List.size_toArray, List.length_cons, List.length_nil, Nat.reduceAdd, Nat.reduceSub, Array.replicate_succ, Array.replicate_zero, List.push_toArray, List.append_toArray, List.nil_append, List.cons_append]
 gi_wp2_with ((with_reducible apply wlIn_oneG); exact rfl; exact h33)
 clear h33 hnw
 gi_loopw [3] (fun i wr => ∃ k j : Nat, k + j = n /\ i = .int .i64 ((j : Int) - 1) /\ J (downN n k) wr /\ KpB n0 C W wr)
  (fun i _ => (intOf i + 1).toNat)
 case atStart => exact ⟨0, n, by omega, rfl, h0, fun _ _ _ => rfl⟩
 case round =>
  obtain ⟨k, j, hkj, rfl, hJs, hnx⟩ := hrel
  have HN := Zi hnx
  cases j with
  | zero =>
   have hj0 : ¬ ((0 : Nat) : Int) - 1 ≥ 0 := by omega
   obtain rfl : k = n := by omega
   gi_wp2
   go_end0
   exact ⟨⟨_, rfl⟩, .inl hJs⟩
  | succ j =>
   rw [show (((j + 1 : Nat) : Int) - 1) = (j : Int) by omega]
   have hjn : (j : Int) < (n : Int) := by omega
   have hj0 : (j : Int) ≥ 0 := by omega
   have hjw : IntKind.i64.wrap ((j : Int) - 1) = (j : Int) - 1 := IntWalk.i64_in _ (by omega)
   have hx : n - 1 - k = j := by omega
   obtain ⟨fn, tmps, assign, body, hy, hR⟩ := HY.out _ j wr hJs (by rw [downN_len]; omega)
   obtain ⟨b, off, rfl, hbn, hbC, hrow⟩ := HA.out j (by omega)
   have h35 := hrow wr (hnx b hbn hbC)
   have h33 := HB.out wr (hnx Bs HB0.out.1 HB0.out.2)
   gi_wp2_with (first | ((with_reducible apply wlIn_oneG); exact rfl; exact h33) | ((with_reducible apply wlIn_rowG); exact rfl; exact h35))
   refine hR.mono ?_
   rintro e W3 (⟨rfl, hJ3, hk3⟩ | ⟨rfl, hJx3⟩)
   ·gi_wp2
    go_roundw
    case rel => exact ⟨k + 1, j, by omega, by go_num, by rw [downN_succ, hx]; exact hJ3, HN.out.t hk3⟩
    case measure => simp [intOf]
   ·gi_wp2
    refine bodyPost_ret (results_none rfl _ _ _) rfl ?_
    exact ⟨⟨_, rfl⟩, .inr ⟨_, ⟨k + 1, by omega, by rw [downN_succ, hx]⟩, hJx3⟩⟩
theorem back_in (F : Fence) (m : Nat) (h5 : F.fn 131) (hro : F.round = none) (A : Option Addr) (n cap : Nat) (w : World) :
  CallsIn F m Try.prog 131 #[.slice A n cap] w fun e w' => e = .returned (.func (.func 141) #[] #[.pointer (some ⟨w.heap.size, 0, none⟩)]) /\ w' = w.alloc (.cells #[.slice A n cap] 33) := by
 refine callsIn_of_wp Try.func131 rfl h5 ?_ hro
 simp only [Try.ntmps131, List.size_toArray, List.length_cons, List.length_nil, Nat.reduceAdd, Nat.reduceSub, Array.replicate_succ, Array.replicate_zero, List.push_toArray, List.append_toArray, List.nil_append, List.cons_append]
 gi_wp2
 go_ret
 exact ⟨rfl, rfl⟩
theorem back_stops (F : Fence) (m : Nat) (h7 : F.fn 141) (hro : F.round = none) (hm : 1 <= m) (Bs n0 n cap : Nat) (C : Nat -> Prop) (A : Option Addr) (rv : Nat -> Array Value) (hn : n <= maxLen) (w : World) (hn0 : n0 <= w.heap.size)
  (hBs : w.heap[Bs]? = some (.cells #[.slice A n cap] 33 (0, 0))) (hB0 : Bs < n0 /\ ¬ C Bs) (hA : ∀ i, i < n -> ∃ b off, A = some ⟨b, off, none⟩ /\ b < n0 /\ ¬ C b /\ ∀ W', W'.heap[b]? = w.heap[b]? -> RowAt W' 35 ⟨b, off + i * 9, none⟩ (rv i)) :
  SeqStopsK F m Try.prog 141 #[.pointer (some ⟨Bs, 0, none⟩)] (fun x : Nat => #[Value.int .i64 (x : Int), Value.agg (rv x)]) (KpB n0 C) (fun ys => ys = downN n n) (fun pre => ∃ k, k <= n /\ pre = downN n k) n w := fun l J Jx W hW _ _ hY h0 => by
 have hb : ∀ b, b < n0 -> W.heap[b]? = w.heap[b]? := fun b hb => hW.block b (by omega)
 exact back1_in F m h7 hro hm l Bs n0 n cap C A rv hn J Jx hY W ((hb Bs hB0.1).trans hBs) hB0 (fun i hi => by
  obtain ⟨b, off, e, h1, h2, h3⟩ := hA i hi
  exact ⟨b, off, e, h1, h2, fun W' h => h3 W' (h.trans (hb b h1))⟩) h0
open Go.RowKit Go.Proofs.Ytpamocglecangaa.Nm
set_option linter.unusedSimpArgs false
theorem info98 : (Try.prog.info? 98).map (·.size) = some 1 := by kernel_rfl
def tkRow (r : Array Value) : Array Value := r ++ #[.int .i64 0, .int .i64 0, .int .i64 0]
theorem tkRow_size {r : Array Value} (h : r.size = 9) : (tkRow r).size = 12 := trow_size h _ _ _
theorem tkRow_one {r : Array Value} (h : r.all (·.oneCell') = true) : (tkRow r).all (·.oneCell') = true := trow_one h
theorem KeepsFrom.of_keep {B : Nat} {C : Nat -> Prop} {w w' : World} (h : Keep C w w') (hC : ∀ b o, C b -> B <= b -> w.heap[b]? = some o -> o.isCells = true) : KeepsFrom B w w' :=
 ⟨h.size, fun k o hB hk ho => (h.block k (heap_lt hk) fun hc => by have := hC k o hc hB hk; rw [ho] at this; cases this).trans hk⟩
theorem Keep.of_grown {w w' : World} {row : Option Nat} (h : w.grownBy w' row) : Keep (fun b => row = some b) w w' := ⟨h.os, h.tape, h.output, h.size, fun b hb hn => h.block b hb fun e => hn e.symm⟩
theorem KpB.of_keep {n0 : Nat} {C C' : Nat -> Prop} {w w' : World} (h : Keep C w w') (hn : n0 <= w.heap.size) (hC : ∀ b, b < n0 -> C b -> C' b) : KpB n0 C' w w' := fun g hg hc => h.block g (by omega) fun h2 => hc (hC g hg h2)
theorem putN_all {cs row : Array Value} (h : row.size = cs.size) : putN cs 0 row = row := by
 apply Array.ext'
 simp [putN, h]
theorem ex_storeN {ev : Operand -> Value} {o : Oper} {w : World} (ty : TypeId) (x y : Operand) (ho : o.op = .store ty x y) {g of n : Nat} {cs row : Array Value} {ty2 : TypeId} (hi : (Try.prog.info? ty).map (·.size) = some n)
  (hx : ev x = .pointer (some ⟨g, of, none⟩)) (hy : ev y = .agg row) (hr : row.size = n) (h1 : row.all (·.oneCell') = true) (hg : w.heap[g]? = some (.cells cs ty2 (0, 0))) (hf : of + row.size <= cs.size) :
  (execOp ev o).run Try.prog w = .ok .skip (w.setRow g (putN cs of row)) := by
 unfold execOp
 simp only [ho, hx, hy, Instr.storeAt, Instr.sureAddr, Sem.run_bind, Sem.run_pure, Result.andThen_ok, run_storeN hi hr (one_list h1) hg hf]
theorem ex_storeC {ev : Operand -> Value} {o : Oper} {w : World} (ty : TypeId) (x y : Operand) (ho : o.op = .store ty x y) {b of : Nat} {v : Value}
  (hx : ev x = .pointer (some ⟨b, of, none⟩)) (hy : ev y = v) (hi : (Try.prog.info? ty).map (·.size) = some 1) (h1 : v.oneCell' = true) (hc : (w.cell? ⟨b, of, none⟩).isSome = true) (hf : w.frozen? ⟨b, of, none⟩ = false) :
  (execOp ev o).run Try.prog w = .ok .skip (w.setCell ⟨b, of, none⟩ v) := by
 unfold execOp
 simp only [ho, hx, hy, Instr.storeAt, Instr.sureAddr, Sem.run_bind, Sem.run_pure, Result.andThen_ok, run_storeC b of ty v w hi h1 hc hf]
theorem ex_pushL {ev : Operand -> Value} {o : Oper} {w : World} {ty sty : TypeId} {sz by0 : Nat} {A : Option Addr} {c : Nat} {rows : List (Array Value)} {z : Array Value} (he : Elt sty ty sz by0 z) (s x : Operand) (ho : o.op = .call { callee := .builtin .append, args := #[s, x], argTypes := #[sty, sty] }) {row : Array Value} {q : Nat} {tq : TypeId} {fr : Nat × Nat}
  (hs : ev s = .slice A rows.length c) (hx : ev x = .slice (some ⟨q, 0, none⟩) 1 1) (h : OwnL w ty sz A c rows) (hq : w.heap[q]? = some (.cells row tq fr)) (hsz : row.size = sz) (h1 : row.all (·.oneCell') = true) (hlen : (rows.length + 1) * by0 <= 140737488355328) (hm : rows.length + 1 <= maxLen) :
  ∃ A' c' w', (execOp ev o).run Try.prog w = .ok (.value (.slice A' (rows.length + 1) c')) w' /\ OwnL w' ty sz A' c' (rows ++ [row]) /\ Keep (fun b => A = some ⟨b, 0, none⟩) w w' /\ (A' = A ∨ ∃ g, A' = some ⟨g, 0, none⟩ /\ w.heap.size <= g) := by
 obtain ⟨A', c', w', hr, h2, h3, h4⟩ := run_pushL he o.type h hq hsz h1 hlen hm
 refine ⟨A', c', w', ?_, h2, h3, h4⟩
 unfold execOp
 simp only [ho, resolve, invoke, builtin, Sem.run_bind, Sem.run_pure, Result.andThen_ok, List.map_toArray, List.map_cons, List.map_nil, hs, hx, hr]
theorem wlIn_skipW {F : Fence} {n : Nat} {P : Program} {ops : Array Oper} {Q : Exit -> Act -> World -> Prop} {rest : List Oper} {o : Oper} {a : Act} {w w2 : World} (hg : o.guard = none) (hd : ∀ c, o.op ≠ .defer c) (hab : ∀ f, o.about P w a.eval = some f -> F.fn f) (hr : (execOp a.eval o).run P w = .ok .skip w2) (h : wpListIn F n P ops Q rest (a.put o.dst undef) w2) : wpListIn F n P ops Q (o :: rest) a w :=
 wlIn_op hg hd hab (by rw [hr]; exact h)
structure BackI (w : World) (lb : Nat) (A : Option Addr) (rows : List (Array Value)) (rv : Nat -> Array Value) (pre : List Nat) (W : World) : Prop where
 box : ∃ A' c', Boxed W lb 98 (.slice A' (rows.length + pre.length) c') /\ OwnL W 101 12 A' c' (rows ++ pre.map fun i => tkRow (rv i)) /\ (A' = A ∨ ∃ g, A' = some ⟨g, 0, none⟩ /\ w.heap.size + 2 <= g)
 keep : Keep (fun b => A = some ⟨b, 0, none⟩) w W
 sz : w.heap.size + 2 <= W.heap.size
theorem BackI.old {w : World} {lb : Nat} {A : Option Addr} {rows : List (Array Value)} {rv : Nat -> Array Value} {pre : List Nat} {W W' : World} (h : BackI w lb A rows rv pre W) (hb : Below W.heap.size W W') : BackI w lb A rows rv pre W' := by
 obtain ⟨⟨A', c', h1, h2, h3⟩, h4, h5⟩ := h
 exact ⟨⟨A', c', below_look hb h1, h2.old hb, h3⟩, h4.trans (C' := fun _ => False) (fun b e => e.elim) (Keep.of hb), by have := hb.size; omega⟩
theorem OwnL.is_cells {w : World} {ty : TypeId} {sz : Nat} {A : Option Addr} {c : Nat} {rows : List (Array Value)} (h : OwnL w ty sz A c rows) {g : Nat} (e : A = some ⟨g, 0, none⟩) : ∃ cur, w.heap[g]? = some (.cells cur ty (0, 0)) := by
 rcases h.el with ⟨e1, -⟩ | ⟨g', cur, e1, hg, -⟩
 ·rw [e1] at e; cases e
 ·rw [e1] at e; cases e; exact ⟨cur, hg⟩
theorem backI_own {w : World} {lb : Nat} {A : Option Addr} {rows : List (Array Value)} {rv : Nat -> Array Value} {B : Nat} (hB : w.heap.size <= B) : OwnFrom B (fun pre W => BackI w lb A rows rv pre W) := fun pre X Y row hs hg hr => by
 obtain ⟨⟨A', c', h1, h2, h3⟩, h4, h5⟩ := hs
 have hcell : ∀ b cur ty, X.heap[b]? = some (.cells cur ty (0, 0)) -> some b ≠ row := fun b cur ty h e => by
  obtain ⟨-, o, ho, hc⟩ := hr b e.symm
  rw [h] at ho; cases ho; cases hc
 exact ⟨⟨A', c', h1.kept hg (hcell lb _ _ h1), h2.same fun g e hl => hg.block g hl (by obtain ⟨cur, hc⟩ := h2.is_cells e; exact hcell g _ _ hc), h3⟩,
  h4.trans (C' := fun b => row = some b) (fun b e => .inr (by have := (hr b e).1; omega)) (Keep.of_grown hg), by have := hg.size; omega⟩
theorem back_raw {w : World} {A : Option Addr} {c : Nat} {rows : List (Array Value)} (ho : OwnL w 101 12 A c rows) {vA : Option Addr} {n vc : Nat} (rv : Nat -> Array Value) (hn : n <= maxLen) (hrv : ∀ i, (rv i).size = 9 /\ (rv i).all (·.oneCell') = true)
  (hA : ∀ i, i < n -> ∃ b off, vA = some ⟨b, off, none⟩ /\ b < w.heap.size /\ A ≠ some ⟨b, 0, none⟩ /\ ∀ W', W'.heap[b]? = w.heap[b]? -> RowAt W' 35 ⟨b, off + i * 9, none⟩ (rv i)) (hroom : (rows.length + n) * 160 <= 140737488355328) :
  Calls Try.prog 104 #[.slice A rows.length c, .slice vA n vc] w fun e w' => ∃ A' c', e = .returned (.slice A' (rows.length + n) c') /\ OwnL w' 101 12 A' c' (rows ++ (downN n n).map fun i => tkRow (rv i)) /\ (A' = A ∨ ∃ g, A' = some ⟨g, 0, none⟩ /\ w.heap.size <= g) /\ Keep (fun b => A = some ⟨b, 0, none⟩) w w' := by
 refine (callsIn_wide (n := 6)).1 ?_
 refine callsIn_of_wp_marks Try.func104 rfl trivial ?_ rfl
 simp only [Try.ntmps104, List.size_toArray, List.length_cons, List.length_nil, Nat.reduceAdd, Nat.reduceSub, Array.replicate_succ, Array.replicate_zero, List.push_toArray, List.append_toArray, List.nil_append, List.cons_append]
 gi_wp2
 refine ⟨trivial, ?_⟩
 refine (back_in Fence.wide _ trivial rfl _ _ _ _).mono ?_
 rintro e w' ⟨rfl, rfl⟩
 gi_wp2
 have bL := (Boxed.new w 98 (.slice A rows.length c)).alloc (.cells #[.slice vA n vc] 33)
 have bN := Boxed.new (w.alloc (.cells #[.slice A rows.length c] 98)) 33 (.slice vA n vc)
 rw [World.size_alloc] at bN
 have hB0 : Below w.heap.size w ((w.alloc (.cells #[.slice A rows.length c] 98)).alloc (.cells #[.slice vA n vc] 33)) := ((Below.refl _ w).alloc (Nat.le_refl _) _).alloc (by simp) _
 have hsz : ((w.alloc (.cells #[.slice A rows.length c] 98)).alloc (.cells #[.slice vA n vc] 33)).heap.size = w.heap.size + 2 := by simp
 obtain ⟨W0, hW0⟩ : ∃ W0, (w.alloc (.cells #[.slice A rows.length c] 98)).alloc (.cells #[.slice vA n vc] 33) = W0 := ⟨_, rfl⟩
 rw [hW0] at bL bN hB0 hsz ⊢
 clear hW0
 have hAlt : ∀ b, A = some ⟨b, 0, none⟩ -> b < w.heap.size := fun b e => by obtain ⟨cur, h⟩ := ho.is_cells e; exact heap_lt h
 have hC0 : ¬ (A = some ⟨w.heap.size + 1, 0, none⟩ ∨ w.heap.size + 1 = w.heap.size) := by
  rintro (e | e)
  ·have := hAlt _ e; omega
  ·omega
 have hst := back_stops Fence.wide 5 trivial rfl (by omega) (w.heap.size + 1) (w.heap.size + 2) n vc (fun b => A = some ⟨b, 0, none⟩ ∨ b = w.heap.size) vA rv hn W0 (by omega) bN ⟨by omega, hC0⟩ (fun i hi => by
  obtain ⟨b, off, e, h1, h2, h3⟩ := hA i hi
  refine ⟨b, off, e, by omega, ?_, fun W' h => h3 W' (h.trans (hB0.block b h1))⟩
  rintro (e2 | e2)
  ·exact h2 e2
  ·omega)
 refine wpIn_rangeFunc_ownH (F := Fence.wide) (n := 6) rfl (by omega) (gf := 141) (lb := #[.pointer (some ⟨w.heap.size + 1, 0, none⟩)]) rfl trivial (enters_of Try.func141 (by kernel_rfl) rfl)
  hst KpB.t (KpB.b (by omega)) (Below.refl _ _) (fun _ => rfl)
  (BackI w w.heap.size A rows rv)
  (fun _ _ _ => False)
  (backI_own (by omega))
  (fun _ _ _ _ _ hs _ _ => hs)
  ⟨⟨A, c, bL, by simpa using ho.same fun g e hl => hB0.block g hl, .inl rfl⟩, Keep.of hB0, by omega⟩
  (fun x a' W => ∃ Bx, W.heap[Bx]? = some (Obj.cells (rv x) 35 (0, 0)) /\ a' = { tmps := #[.slice A rows.length c, .slice vA n vc, .pointer (some ⟨w.heap.size, 0, none⟩), undef, .slice none 0 0, undef, .pointer (some ⟨Bx, 0, none⟩), .slice vA n vc, .func (.func 141) #[] #[.pointer (some ⟨w.heap.size + 1, 0, none⟩)], .int .i64 (x : Int), .agg (rv x), undef, undef, undef, undef, undef, undef], defers := [] })
  (fun x a' _ X Y row hs hg hr => by
   obtain ⟨Bx, h1, h2⟩ := hs
   refine ⟨Bx, (hg.block Bx (heap_lt h1) fun e => ?_).trans h1, h2⟩
   obtain ⟨-, o, ho, hc⟩ := hr Bx e.symm
   rw [h1] at ho; cases ho; cases hc)
  ?assign ?body ?done ?stop
 case assign =>
  rintro l pre x W K hi hK
  refine wpIn_region_lit ?_
  simp
  refine wlIn_val rfl (fun c h => by cases h) (fun _ _ => trivial) (ex_allV rfl _ W) ?_
  have hnew : (W.alloc (.cells zrow 35)).heap[W.heap.size]? = some (.cells zrow 35 (0, 0)) := ha_new rfl
  refine wlIn_skipW rfl (fun c h => by cases h) (fun _ _ => trivial) (ex_storeN 35 _ _ rfl info35 rfl rfl (hrv x).1 (hrv x).2 hnew (by rw [(hrv x).1]; exact Nat.le_refl _)) ?_
  have hb : Below W.heap.size W ((W.alloc (.cells zrow 35)).setRow W.heap.size (putN zrow 0 (rv x))) := below_setRow ((Below.refl _ W).alloc (Nat.le_refl _) _) (Nat.le_refl _) _
  have hk : Keep (fun _ => False) W _ := Keep.of hb
  refine wpListIn_nil ?_
  refine hK _ _ (KeepsFrom.of_keep hk fun b o e => e.elim) (KpB.of_keep hk hi.sz fun b _ e => e.elim) (hi.old hb) ⟨W.heap.size, ?_, rfl⟩
  rw [hr_new hnew, putN_all (by rw [(hrv x).1]; rfl)]
 case body =>
  rintro l pre x a' W hl - hi ⟨Bx, bX, rfl⟩ hlt
  obtain ⟨⟨A', c', h1, h2, h3⟩, h4, h5⟩ := hi
  have hlen : (rows ++ pre.map fun i => tkRow (rv i)).length = rows.length + pre.length := by simp
  refine wpIn_block (wpIn_region_lit ?_)
  refine wlIn_val rfl (fun c h => by cases h) (fun _ _ => trivial) (ex_one rfl (one_of u98 rfl h1.cell)) ?_
  refine wlIn_val rfl (fun c h => by cases h) (fun _ _ => trivial) (ex_row rfl (row35 bX (hrv x).1)) ?_
  refine wlIn_val rfl (fun c h => by cases h) (fun _ _ => trivial) (ex_build101v _ rfl (hrv x).1 rfl) ?_
  refine wlIn_val rfl (fun c h => by cases h) (fun _ _ => trivial) (ex_bs98 _ rfl rfl (trow_size (hrv x).1 _ _ _)) ?_
  have hb1 : Below W.heap.size W (W.alloc (.cells (rv x ++ #[.int .i64 0, .int .i64 0, .int .i64 0]) 101)) := (Below.refl _ W).alloc (Nat.le_refl _) _
  have hq : (W.alloc (.cells (rv x ++ #[.int .i64 0, .int .i64 0, .int .i64 0]) 101)).heap[W.heap.size]? = some (.cells (tkRow (rv x)) 101 (0, 0)) := ha_new rfl
  obtain ⟨W1, hW1⟩ : ∃ W1, W1 = W.alloc (.cells (rv x ++ #[.int .i64 0, .int .i64 0, .int .i64 0]) 101) := ⟨_, rfl⟩
  rw [<- hW1] at hb1 hq ⊢
  clear hW1
  obtain ⟨A2, c2, w2, hr, ho2, hk2, hA2⟩ := ex_pushL (ev := Act.eval { tmps := #[.slice A rows.length c, .slice vA n vc, .pointer (some ⟨w.heap.size, 0, none⟩), undef, .slice none 0 0, undef, .pointer (some ⟨Bx, 0, none⟩), .slice vA n vc, .func (.func 141) #[] #[.pointer (some ⟨w.heap.size + 1, 0, none⟩)], .int .i64 (x : Int), .agg (rv x), .slice A' (rows.length + pre.length) c', .agg (rv x), .agg (tkRow (rv x)), .slice (some ⟨W.heap.size, 0, none⟩) 1 1, undef, undef], defers := [] })
   (o := ⟨some 15, .call { callee := .builtin .append, args := #[.tmp 11, .tmp 14], argTypes := #[98, 98] }, 98, "heap.go:148", #[{ on := 0, ground := Ground.data }, { on := 3, ground := Ground.data }], none⟩) elt98 (.tmp 11) (.tmp 14) rfl (by rw [hlen]; rfl) rfl (h2.old hb1) hq (tkRow_size (hrv x).1) (tkRow_one (hrv x).2) (by rw [hlen]; omega) (by rw [hlen]; unfold maxLen; omega)
  rw [hlen] at hr
  refine wlIn_val rfl (fun c h => by cases h) (fun _ _ => trivial) hr ?_
  have hbox1 : Boxed W1 w.heap.size 98 (.slice A' (rows.length + pre.length) c') := below_look hb1 h1
  have hnL : A' ≠ some ⟨w.heap.size, 0, none⟩ := fun e => by
   obtain ⟨cur, hc⟩ := h2.is_cells e
   rw [h1] at hc; cases hc
  have hbox2 : Boxed w2 w.heap.size 98 (.slice A' (rows.length + pre.length) c') := hk2.look hbox1 hnL
  refine wlIn_skipW rfl (fun c h => by cases h) (fun _ _ => trivial) (ex_storeC (v := .slice A2 (rows.length + pre.length + 1) c2) 98 (.tmp 2) (.tmp 15) rfl rfl rfl info98 rfl (by rw [hbox2.cell]; rfl) hbox2.frozen) ?_
  have hA2L : A2 ≠ some ⟨w.heap.size, 0, none⟩ := fun e => by
   obtain ⟨cur, hc⟩ := ho2.is_cells e
   rw [hbox2] at hc; cases hc
  have hkW : Keep (fun b => A' = some ⟨b, 0, none⟩ ∨ b = w.heap.size) W (w2.setCell ⟨w.heap.size, 0, none⟩ (.slice A2 (rows.length + pre.length + 1) c2)) :=
   (((Keep.refl _ W).trans (C' := fun _ => False) (fun b e => e.elim) (Keep.of hb1)).trans (C' := fun b => A' = some ⟨b, 0, none⟩) (fun b e => .inl (.inl e)) hk2).trans (C' := fun b => b = w.heap.size) (fun b e => .inl (.inr e)) (Keep.cellOne _ _ _ _)
  have hA'n : ∀ b, b < w.heap.size + 2 -> A' = some ⟨b, 0, none⟩ -> A = some ⟨b, 0, none⟩ ∨ b = w.heap.size := fun b hb e => by
   rcases h3 with h3 | ⟨g, e2, hg⟩
   ·exact .inl (h3 ▸ e)
   ·rw [e2] at e; cases e
    omega
  refine wpListIn_nil ?_
  show Exit.inBlock 1 _ _ _ _
  simp only [Exit.inBlock]
  refine ⟨KeepsFrom.of_keep hkW fun b o e hB hob => ?_, KpB.of_keep hkW h5 fun b hb e => ?_, ⟨A2, c2, ?_, ?_, ?_⟩, ?_, ?_⟩
  ·rcases e with e | e
   ·obtain ⟨cur, hc⟩ := h2.is_cells e
    rw [hc] at hob; cases hob; rfl
   ·omega
  ·rcases e with e | e
   ·exact hA'n b hb e
   ·exact .inr e
  ·have := hbox2.set (.slice A2 (rows.length + pre.length + 1) c2)
   simpa [Nat.add_assoc] using this
  ·rw [List.map_append, <- List.append_assoc]
   exact ho2.same fun g e hl => heap_setCell_other _ _ _ _ fun e2 => hA2L (by rw [e, show g = w.heap.size from e2])
  ·rcases hA2 with e | ⟨g, e, hg⟩
   ·rw [e]; exact h3
   ·exact .inr ⟨g, e, by have := hb1.size; omega⟩
  ·refine h4.trans (C' := fun b => A' = some ⟨b, 0, none⟩ ∨ b = w.heap.size) (fun b e => ?_) hkW
   rcases e with e | e
   ·rcases h3 with h3 | ⟨g, e2, hg⟩
    ·exact .inl (h3 ▸ e)
    ·rw [e2] at e; cases e; exact .inr (by omega)
   ·exact .inr (by omega)
  ·have := hkW.size; omega
 case done =>
  rintro D ys W hD rfl ⟨⟨A', c', h1, h2, h3⟩, h4, h5⟩ hK
  have h98 : OneAt W 98 ⟨w.heap.size, 0, none⟩ (.slice A' (rows.length + n) c') := by
   have := h1
   rw [downN_len] at this
   exact one_of u98 rfl this.cell
  gi_wp2_with ((with_reducible apply wlIn_oneG); exact rfl; exact h98)
  have hnD : ∀ b cur ty, W.heap[b]? = some (.cells cur ty (0, 0)) -> b ≠ D := fun b cur ty h e => by rw [e, hK] at h; cases h
  refine ⟨by simp, .inl ⟨_, _, rfl, run_takeDeferred hK, ?_⟩⟩
  refine ⟨_, results_tmp rfl _ _ _, A', c', rfl, h2.same fun g e hl => World.putObj_heap_other (by obtain ⟨cur, hc⟩ := h2.is_cells e; exact hnD g _ _ hc), ?_, ?_⟩
  ·rcases h3 with e | ⟨g, e, hg⟩
   ·exact .inl e
   ·exact .inr ⟨g, e, by omega⟩
  ·exact h4.trans (C' := fun b => b = D) (fun b e => .inr (by omega)) ⟨rfl, rfl, rfl, by simp, fun b _ hn => World.putObj_heap_other hn⟩
 case stop =>
  rintro D c pre W _ _ h _
  exact h.elim
def LevT (w : World) (G : Gh) (k : Nat) (lev : List (List Tk)) (last : Array Value) (A : Option Addr) (c : Nat) : Prop :=
 ∃ rows, OwnL w 98 1 A c (rows ++ [last]) /\ rows.length = lev.length /\ RoleOf G A (k, .lar) /\ ∀ (i : Nat) (ts : List Tk) (row : Array Value), lev[i]? = some ts -> rows[i]? = some row -> ∃ tA tc, row = #[.slice tA ts.length tc] /\ TksAt w G (k, .lvl i) ts tA tc
structure HTop (w : World) (G : Gh) (k p : Nat) (h : Hp) (last : Array Value) (oA : Option Addr) (oc : Nat) (bA : Option Addr) (bc : Nat) (m : Nat) (lA : Option Addr) (lc : Nat) : Prop where
 blk : w.heap[p]? = some (.cells (cellH oA h.obs.length oc bA h.bus.length bc m lA (h.lev.length + 1) lc) 87 (0, 0))
 rp : G p = some (k, .hdr)
 rm : G m = some (k, .dei)
 obs : ObsAt w G k h.obs oA oc
 bus : BusAt w G k h.bus bA bc
 lev : LevT w G k h.lev last lA lc
 map : DeiAt w m h.dei
section
variable {w w' : World} {G : Gh} {C : Nat -> Prop}
theorem LevT.same {k : Nat} {lev : List (List Tk)} {last : Array Value} {A : Option Addr} {c : Nat} (h : LevT w G k lev last A c) (h1 : ∀ b, b < w.heap.size -> (G b = some (k, .lar) ∨ ∃ i, i < lev.length /\ G b = some (k, .lvl i)) -> w'.heap[b]? = w.heap[b]?) (h2 : ∀ b, b < w.heap.size -> G b = none -> w'.heap[b]? = w.heap[b]?) : LevT w' G k lev last A c := by
 obtain ⟨rows, ho, hl, hr, hv⟩ := h
 refine ⟨rows, ho.same fun g e hg => h1 g hg (.inl (hr g e)), hl, hr, fun i ts row hi hri => ?_⟩
 obtain ⟨tA, tc, g1, g2⟩ := hv i ts row hi hri
 exact ⟨tA, tc, g1, g2.same (fun b hb e => h1 b hb (.inr ⟨i, (List.getElem?_eq_some_iff.1 hi).1, e⟩)) h2⟩
end
section
variable {w w' : World} {G G' : Gh} {k p : Nat} {h : Hp} {last : Array Value} {oA : Option Addr} {oc : Nat} {bA : Option Addr} {bc m : Nat} {lA : Option Addr} {lc : Nat}
theorem HTop.same (hh : HTop w G k p h last oA oc bA bc m lA lc) (h1 : ∀ b, b < w.heap.size -> Mine G k b -> G b ≠ some (k, .lvl h.lev.length) -> w'.heap[b]? = w.heap[b]?) (h2 : ∀ b, b < w.heap.size -> G b = none -> w'.heap[b]? = w.heap[b]?) : HTop w' G k p h last oA oc bA bc m lA lc where
 blk := by rw [h1 p (heap_lt hh.blk) ⟨_, hh.rp, by simp⟩ (by rw [hh.rp]; simp)]; exact hh.blk
 rp := hh.rp
 rm := hh.rm
 obs := hh.obs.same (fun b hb e => by rcases e with e | ⟨i, e⟩ <;> exact h1 b hb ⟨_, e, by simp⟩ (by rw [e]; simp)) h2
 bus := hh.bus.same (fun b hb e => by rcases e with e | ⟨i, e⟩ <;> exact h1 b hb ⟨_, e, by simp⟩ (by rw [e]; simp)) h2
 lev := hh.lev.same (fun b hb e => by
  rcases e with e | ⟨i, hi, e⟩
  ·exact h1 b hb ⟨_, e, by simp⟩ (by rw [e]; simp)
  ·exact h1 b hb ⟨_, e, by simp⟩ (by rw [e]; simp; omega)) h2
 map := hh.map.same fun hl => h1 m hl ⟨_, hh.rm, by simp⟩ (by rw [hh.rm]; simp)
theorem HTop.old (hh : HTop w G k p h last oA oc bA bc m lA lc) (hb : Below w.heap.size w w') : HTop w' G k p h last oA oc bA bc m lA lc := hh.same (fun b hl _ _ => hb.block b hl) fun b hl _ => hb.block b hl
theorem HTop.keep {C : Nat -> Prop} (hh : HTop w G k p h last oA oc bA bc m lA lc) (hk : Keep C w w') (hC : ∀ b, C b -> (¬ Mine G k b ∨ G b = some (k, .lvl h.lev.length)) /\ G b ≠ none) : HTop w' G k p h last oA oc bA bc m lA lc := hh.same (fun b hl hm hn => hk.block b hl fun hc => by
  rcases (hC b hc).1 with h | h
  ·exact h hm
  ·exact hn h) fun b hl hn => hk.block b hl fun hc => (hC b hc).2 hn
theorem HTop.regh (hh : HTop w G k p h last oA oc bA bc m lA lc) (hG : ∀ b, b < w.heap.size -> G' b = G b) : HTop w G' k p h last oA oc bA bc m lA lc where
 blk := hh.blk
 rp := by rw [hG p (heap_lt hh.blk)]; exact hh.rp
 rm := by
  obtain ⟨es, c, hm, -⟩ := hh.map
  rw [hG m (heap_lt hm)]; exact hh.rm
 obs := by
  obtain ⟨rows, ho, hl, hr, hv⟩ := hh.obs
  refine ⟨rows, ho, hl, hr.regh ho hG, fun i o row h1 h2 => ?_⟩
  obtain ⟨tr, fA, fc, g1, g2, g3⟩ := hv i o row h1 h2
  exact ⟨tr, fA, fc, g1, g2.regh hG, g3.regh hG⟩
 bus := by
  obtain ⟨rows, ho, hl, hr, hv⟩ := hh.bus
  refine ⟨rows, ho, hl, hr.regh ho hG, fun i o row h1 h2 => ?_⟩
  obtain ⟨eA, ec, g1, g2⟩ := hv i o row h1 h2
  exact ⟨eA, ec, g1, g2.regh hG⟩
 lev := by
  obtain ⟨rows, ho, hl, hr, hv⟩ := hh.lev
  refine ⟨rows, ho, hl, hr.regh ho hG, fun i o row h1 h2 => ?_⟩
  obtain ⟨tA, tc, g1, rows2, ho2, hl2, hr2, hv2⟩ := hv i o row h1 h2
  exact ⟨tA, tc, g1, rows2, ho2, hl2, hr2.regh ho2 hG, fun j t row h3 h4 => (hv2 j t row h3 h4).regh hG⟩
 map := hh.map
theorem HTop.obsC (hh : HTop w G k p h last oA oc bA bc m lA lc) {obs : List Ob} (hl : obs.length = h.obs.length) (hs : ∀ b, b < w.heap.size -> (∃ r, G b = some (k, r) /\ r ≠ .arr /\ ∀ i, r ≠ .fld i) -> w'.heap[b]? = w.heap[b]?) (h2 : ∀ b, b < w.heap.size -> G b = none -> w'.heap[b]? = w.heap[b]?) (ho : ObsAt w' G k obs oA oc) : HTop w' G k p { h with obs := obs } last oA oc bA bc m lA lc where
 blk := by rw [hs p (heap_lt hh.blk) ⟨_, hh.rp, by simp, by simp⟩]; show _ = some (Obj.cells (cellH oA obs.length oc bA h.bus.length bc m lA (h.lev.length + 1) lc) 87 (0, 0)); rw [hl]; exact hh.blk
 rp := hh.rp
 rm := hh.rm
 obs := ho
 bus := hh.bus.same (fun b hb e => hs b hb (by rcases e with e | ⟨i, e⟩ <;> exact ⟨_, e, by simp, by simp⟩)) h2
 lev := hh.lev.same (fun b hb e => hs b hb (by rcases e with e | ⟨i, -, e⟩ <;> exact ⟨_, e, by simp, by simp⟩)) h2
 map := hh.map.same fun hl => hs m hl ⟨_, hh.rm, by simp, by simp⟩
theorem HTop.busC (hh : HTop w G k p h last oA oc bA bc m lA lc) {bus : List Bu} (hl : bus.length = h.bus.length) (hs : ∀ b, b < w.heap.size -> (∃ r, G b = some (k, r) /\ r ≠ .bar /\ ∀ i, r ≠ .elm i) -> w'.heap[b]? = w.heap[b]?) (h2 : ∀ b, b < w.heap.size -> G b = none -> w'.heap[b]? = w.heap[b]?) (ho : BusAt w' G k bus bA bc) : HTop w' G k p { h with bus := bus } last oA oc bA bc m lA lc where
 blk := by rw [hs p (heap_lt hh.blk) ⟨_, hh.rp, by simp, by simp⟩]; show _ = some (Obj.cells (cellH oA h.obs.length oc bA bus.length bc m lA (h.lev.length + 1) lc) 87 (0, 0)); rw [hl]; exact hh.blk
 rp := hh.rp
 rm := hh.rm
 obs := hh.obs.same (fun b hb e => hs b hb (by rcases e with e | ⟨i, e⟩ <;> exact ⟨_, e, by simp, by simp⟩)) h2
 bus := ho
 lev := hh.lev.same (fun b hb e => hs b hb (by rcases e with e | ⟨i, -, e⟩ <;> exact ⟨_, e, by simp, by simp⟩)) h2
 map := hh.map.same fun hl => hs m hl ⟨_, hh.rm, by simp, by simp⟩
theorem HTop.setO (hh : HTop w G k p h last oA oc bA bc m lA lc) {g i j : Nat} {rows : List (Array Value)} (hA : oA = some ⟨g, 0, none⟩) (hR : ObsR w G k h.obs g oc rows) {o o' : Ob} (hi : h.obs[i]? = some o) {x : Int} (ht : o'.t = o.t) (hf : o'.fields = o.fields)
  (hj : (j = 4 /\ o'.state = x /\ o'.count = o.count /\ o'.weak = o.weak) ∨ (j = 5 /\ o'.state = o.state /\ o'.count = x /\ o'.weak = o.weak) ∨ (j = 6 /\ o'.state = o.state /\ o'.count = o.count /\ o'.weak = x)) :
  HTop (w.setCell ⟨g, i * 8 + j, none⟩ (.int .i64 x)) G k p { h with obs := h.obs.set i o' } last oA oc bA bc m lA lc := by
 have hs1 := (Keep.cellOne w g (i * 8 + j) (.int .i64 x)).block
 refine hh.obsC (by simp) (fun b hb e => hs1 b hb fun e2 => ?_) (fun b hb e => hs1 b hb fun e2 => by rw [e2, hR.role] at e; cases e) (by rw [hA]; exact hR.num hi ht hf hj)
 obtain ⟨r, e3, e4, -⟩ := e
 rw [e2, hR.role] at e3; cases e3; exact e4 rfl
theorem HTop.setB (hh : HTop w G k p h last oA oc bA bc m lA lc) {g i : Nat} {rows : List (Array Value)} (hA : bA = some ⟨g, 0, none⟩) (hR : BusR w G k h.bus g bc rows) {b b' : Bu} (hi : h.bus[i]? = some b) {x : Int} (hf : b'.elems = b.elems) (hc : b'.count = x) :
  HTop (w.setCell ⟨g, i * 2, none⟩ (.int .i64 x)) G k p { h with bus := h.bus.set i b' } last oA oc bA bc m lA lc := by
 have hs1 := (Keep.cellOne w g (i * 2) (.int .i64 x)).block
 refine hh.busC (by simp) (fun b hb e => hs1 b hb fun e2 => ?_) (fun b hb e => hs1 b hb fun e2 => by rw [e2, hR.role] at e; cases e) (by rw [hA]; exact hR.num hi hf hc)
 obtain ⟨r, e3, e4, -⟩ := e
 rw [e2, hR.role] at e3; cases e3; exact e4 rfl
theorem HTop.stO {g i : Nat} (hh : HTop w G k p h last (some ⟨g, 0, none⟩) oc bA bc m lA lc) {o : Ob} (hi : h.obs[i]? = some o) (j : Nat) (hj : j < 8) : (w.cell? ⟨g, i * 8 + j, none⟩).isSome = true /\ w.frozen? ⟨g, i * 8 + j, none⟩ = false /\ G g = some (k, .arr) /\
  ∀ (x : Int) (o' : Ob), o'.t = o.t -> o'.fields = o.fields -> ((j = 4 /\ o'.state = x /\ o'.count = o.count /\ o'.weak = o.weak) ∨ (j = 5 /\ o'.state = o.state /\ o'.count = x /\ o'.weak = o.weak) ∨ (j = 6 /\ o'.state = o.state /\ o'.count = o.count /\ o'.weak = x)) -> HTop (w.setCell ⟨g, i * 8 + j, none⟩ (.int .i64 x)) G k p { h with obs := h.obs.set i o' } last (some ⟨g, 0, none⟩) oc bA bc m lA lc := by
 obtain ⟨g', rows, e, hR⟩ := hh.obs.rows hi
 cases e
 obtain ⟨row, tr, fA, fc, hr, -⟩ := hR.get hi
 obtain ⟨h1, h2⟩ := hR.own.lies hr hj
 exact ⟨h1, h2, hR.role, fun x o' a b c => hh.setO rfl hR hi a b c⟩
theorem HTop.stB {g i : Nat} (hh : HTop w G k p h last oA oc (some ⟨g, 0, none⟩) bc m lA lc) {b : Bu} (hi : h.bus[i]? = some b) : (w.cell? ⟨g, i * 2, none⟩).isSome = true /\ w.frozen? ⟨g, i * 2, none⟩ = false /\ G g = some (k, .bar) /\
  ∀ (x : Int) (b' : Bu), b'.elems = b.elems -> b'.count = x -> HTop (w.setCell ⟨g, i * 2, none⟩ (.int .i64 x)) G k p { h with bus := h.bus.set i b' } last oA oc (some ⟨g, 0, none⟩) bc m lA lc := by
 obtain ⟨g', rows, e, hR⟩ := hh.bus.rows hi
 cases e
 obtain ⟨row, eA, ec, hr, -⟩ := hR.get hi
 obtain ⟨h1, h2⟩ := hR.own.lies hr (j := 0) (by omega)
 exact ⟨h1, h2, hR.role, fun x b' a c => hh.setB rfl hR hi a c⟩
theorem HTop.obj (hh : HTop w G k p h last oA oc bA bc m lA lc) {i : Nat} {o : Ob} (hi : h.obs[i]? = some o) : ∃ g tr fA fc, oA = some ⟨g, 0, none⟩ /\ G g = some (k, .arr) /\ (∀ w', Below w.heap.size w w' -> ObL w' g i o tr fA fc) /\ TyAt w (Imm G) o.t tr /\ ListV w G (k, .fld i) o.fields fA fc /\ ∀ row tr' fA' fc', ObAt w G k i o row tr' fA' fc' -> (∃ rows, ObsR w G k h.obs g oc rows /\ rows[i]? = some row) -> fA' = fA /\ fc' = fc := by
 obtain ⟨g, rows, e, hR⟩ := hh.obs.rows hi
 obtain ⟨row, tr, fA, fc, hr, hx⟩ := hR.get hi
 refine ⟨g, tr, fA, fc, e, hR.role, fun w' hb => (hR.own.old hb).loads hr (hx.same (fun b hl _ => hb.block b hl) fun b hl _ => hb.block b hl), hx.ty, hx.fld, ?_⟩
 rintro row' tr' fA' fc' hx' ⟨rows', hR', hr'⟩
 obtain ⟨cur, hg, hs, hf, hc, -⟩ := hR.own.at hr
 obtain ⟨cur', hg', hs', hf', hc', -⟩ := hR'.own.at hr'
 rw [hg] at hg'; cases hg'
 have e2 : row' = row := hc'.symm.trans hc
 have h7 := (cell8_at hx.size o.state o.count o.weak fA o.fields.length fc).2.2.2.2
 have h7' := (cell8_at hx'.size o.state o.count o.weak fA' o.fields.length fc').2.2.2.2
 rw [<- hx.eq] at h7
 rw [<- hx'.eq, e2, h7] at h7'
 cases h7'
 exact ⟨rfl, rfl⟩
theorem HTop.buf (hh : HTop w G k p h last oA oc bA bc m lA lc) {i : Nat} {o : Bu} (hi : h.bus[i]? = some o) : ∃ g fA fc, bA = some ⟨g, 0, none⟩ /\ G g = some (k, .bar) /\ (∀ w', Below w.heap.size w w' -> BuL w' g i o fA fc) /\ ListV w G (k, .elm i) o.elems fA fc /\ ∀ row fA' fc', BuAt w G k i o row fA' fc' -> (∃ rows, BusR w G k h.bus g bc rows /\ rows[i]? = some row) -> fA' = fA /\ fc' = fc := by
 obtain ⟨g, rows, e, hR⟩ := hh.bus.rows hi
 obtain ⟨row, fA, fc, hr, hx⟩ := hR.get hi
 refine ⟨g, fA, fc, e, hR.role, fun w' hb => (hR.own.old hb).loadsB hr (hx.same (fun b hl _ => hb.block b hl) fun b hl _ => hb.block b hl), hx.elm, ?_⟩
 rintro row' fA' fc' hx' ⟨rows', hR', hr'⟩
 obtain ⟨cur, hg, hs, hf, hc, -⟩ := hR.own.at hr
 obtain ⟨cur', hg', hs', hf', hc', -⟩ := hR'.own.at hr'
 rw [hg] at hg'; cases hg'
 have e2 : row' = row := hc'.symm.trans hc
 have h7 := hx'.eq
 rw [e2, hx.eq] at h7
 cases h7
 exact ⟨rfl, rfl⟩
end
open Go.RowKit Go.Proofs.Ytpamocglecangaa.Nm
set_option linter.unusedSimpArgs false
structure SsAt (w : World) (l : List ByteArray) (A : Option Addr) (n : Nat) : Prop where
 len : l.length = n
 max : n <= maxLen
 el : ∀ (j : Nat) (s : ByteArray), l[j]? = some s -> ∃ b off, A = some ⟨b, off, none⟩ /\ w.cell? ⟨b, off + j, none⟩ = some (.string s)
theorem run_mm84 (w : World) : (Instr.makeMap 84 none).run Try.prog w = .ok (.map (some w.heap.size)) (w.alloc (.map #[] 0)) := by kernel_rfl
theorem built87 (m : Nat) : Try.prog.built 87 [(2, .map (some m))] = some (cellH none 0 0 none 0 0 m none 0 0) := by kernel_rfl
theorem run_box87 (m : Nat) (w : World) : (Instr.box 87 (.agg (cellH none 0 0 none 0 0 m none 0 0))).run Try.prog w = .ok (.pointer (some ⟨w.heap.size, 0, none⟩)) (w.alloc (.cells (cellH none 0 0 none 0 0 m none 0 0) 87)) := by kernel_rfl
section
variable {ops : Array Oper} {rest : List Oper} {o : Oper} {a : Act} {w w2 : World} {Q : Exit -> Act -> World -> Prop}
theorem wl_s (hg : o.guard = none) (hx : (execOp a.eval o).run Try.prog w = .ok .skip w2) (h : wpList Try.prog ops Q rest (a.put o.dst undef) w2) : wpList Try.prog ops Q (o :: rest) a w := by
 refine wpList_plain hg fun K hK => ?_
 unfold Oper.wp; rw [hx]; exact hK _ _ h
end
def setMap (w : World) (q : Nat) (o : Obj) : World := { w with heap := w.heap.setIfInBounds q o }
theorem setMap_new {w : World} {q : Nat} {o o' : Obj} (hb : w.heap[q]? = some o) : (setMap w q o').heap[q]? = some o' := (MapKept.heap_set hb).1
theorem setMap_old {w : World} {q : Nat} {o o' : Obj} (hb : w.heap[q]? = some o) {p : Nat} (hp : p ≠ q) : (setMap w q o').heap[p]? = w.heap[p]? := (MapKept.heap_set hb).2 p hp
theorem setMap_keep {w : World} {q : Nat} {o o' : Obj} (hb : w.heap[q]? = some o) : Keep (fun b => b = q) w (setMap w q o') := ⟨rfl, rfl, rfl, by simp [setMap], fun b _ hn => setMap_old hb hn⟩
theorem run_new84 {r : Nat} {es : Array MapEntry} {c : Nat} {s : ByteArray} {v : Value} (w : World) (hb : w.heap[r]? = some (.map es c)) (hf : Instr.findNow .string (.string s) es.toList 0 = some none) :
  (Instr.mapUpdate 84 (.map (some r)) (.string s) v).run Try.prog w = .ok () (setMap w r (.map (es.push { key := .string s, val := v, born := c }) (c + 1))) := by
 unfold Instr.mapUpdate setMap
 simp only [Sem.run_bind, run_underlying u84, Result.andThen, MapKept.run_getObj_map hb, MapKept.run_checkKey u9 (k := .string s) (by simp [MapKept.IsKey]) false 9999, MapKept.run_findKey u9 hf, MapKept.run_setObj_map _ hb]
theorem run_upd84 {r : Nat} {es : Array MapEntry} {c : Nat} {s : ByteArray} {v x : Value} {j : Nat} {e : MapEntry} (w : World) (hb : w.heap[r]? = some (.map es c)) (hf : Instr.findNow .string (.string s) es.toList 0 = some (some (j, x))) (hj : es[j]? = some e) (hk : e.key = .string s) :
  (Instr.mapUpdate 84 (.map (some r)) (.string s) v).run Try.prog w = .ok () (setMap w r (.map (es.modify j fun e => { e with key := .string s, val := v }) c)) := by
 unfold Instr.mapUpdate setMap
 simp [Sem.run_bind, run_underlying u84, Result.andThen, MapKept.run_getObj_map hb, MapKept.run_checkKey u9 (k := .string s) (by simp [MapKept.IsKey]) false 9999, MapKept.run_findKey u9 hf, hj, hk, MapKept.run_keyThatStays (d := .string) (k := .string s) (by simp [MapKept.IsKey]), MapKept.run_setObj_map _ hb]
theorem run_put84 {w : World} {m : Nat} {dei dei' : List ByteArray} (h : DeiAt w m dei) (s : ByteArray) (hd : ∀ t, t ∈ dei' ↔ t ∈ dei ∨ t = s) : ∃ w', (Instr.mapUpdate 84 (.map (some m)) (.string s) (.bool true)).run Try.prog w = .ok () w' /\ DeiAt w' m dei' /\ Keep (fun b => b = m) w w' := by
 obtain ⟨es, c, hb, hf⟩ := h.find
 obtain ⟨es', c', hb', hst, he, hh⟩ := h
 rw [hb] at hb'
 cases hb'
 by_cases hs : s ∈ dei
 ·obtain ⟨j, e, h1, h2, h3⟩ := (hf s).1 hs
  have hsame : (es.modify j fun e => { e with key := .string s, val := .bool true }) = es := by
   obtain ⟨s', e1, e2, -⟩ := he e (List.mem_of_getElem? (by rw [Array.getElem?_toList]; exact h2))
   apply Array.ext_getElem?
   intro i
   rw [Array.getElem?_modify]
   split
   ·rename_i e4
    subst e4
    rw [h2]
    simp only [Option.map_some, Option.some.injEq]
    cases e with
    | mk key val born => simp_all
   ·rfl
  refine ⟨_, run_upd84 w hb h1 h2 h3, ⟨_, _, setMap_new hb, by rw [hsame]; exact hst, ?_, ?_⟩, setMap_keep hb⟩
  ·rw [hsame]
   intro x hx
   obtain ⟨s', e1, e2, e3⟩ := he x hx
   exact ⟨s', e1, e2, (hd s').2 (.inl e3)⟩
  ·rw [hsame]
   intro t ht
   rcases (hd t).1 ht with ht | rfl
   ·exact hh t ht
   ·exact hh t hs
 ·obtain ⟨h1, h2⟩ := (hf s).2 hs
  refine ⟨_, run_new84 w hb h1, ⟨_, _, setMap_new hb, MapKept.stamped_push hst h2, fun x hx => ?_, fun t ht => ?_⟩, setMap_keep hb⟩
  ·simp only [Array.toList_push, List.mem_append, List.mem_singleton] at hx
   rcases hx with hx | rfl
   ·obtain ⟨s', e1, e2, e3⟩ := he x hx
    exact ⟨s', e1, e2, (hd s').2 (.inl e3)⟩
   ·exact ⟨s, rfl, rfl, (hd s).2 (.inr rfl)⟩
  ·rcases (hd t).1 ht with ht | rfl
   ·obtain ⟨x, hx, e⟩ := hh t ht
    exact ⟨x, by simp [hx], e⟩
   ·exact ⟨{ key := .string t, val := .bool true, born := c }, by simp, rfl⟩
def hp0 (dei : List ByteArray) : Hp := ⟨dei, [], [], []⟩
def newG (G : Gh) (k p m : Nat) : Gh := fun b => if b = p then some (k, .hdr) else if b = m then some (k, .dei) else G b
theorem HAt.fresh {w : World} {G : Gh} {k p m : Nat} {dei : List ByteArray} (hp : w.heap[p]? = some (.cells (cellH none 0 0 none 0 0 m none 0 0) 87 (0, 0))) (hm : DeiAt w m dei) (h1 : G p = some (k, .hdr)) (h2 : G m = some (k, .dei)) : HAt w G k p (hp0 dei) none 0 none 0 m none 0 where
 blk := hp
 rp := h1
 rm := h2
 obs := ⟨[], OwnL.nil _ _ _, rfl, fun g e => (by cases e), fun i o row _ h => (by simp at h)⟩
 bus := ⟨[], OwnL.nil _ _ _, rfl, fun g e => (by cases e), fun i o row _ h => (by simp at h)⟩
 lev := ⟨[], OwnL.nil _ _ _, rfl, fun g e => (by cases e), fun i o row _ h => (by simp at h)⟩
 map := hm
def NewHp (w : World) (G : Gh) (k : Nat) (dei : List ByteArray) (e : Ending) (w' : World) : Prop := ∃ p G', e = .returned (.pointer (some ⟨p, 0, none⟩)) /\ HeapAt w' G' k p (hp0 dei) /\ Fr w' G' /\ (∀ b, b < w.heap.size -> G' b = G b) /\ (∀ b, w.heap.size <= b -> G' b = none ∨ ∃ r, G' b = some (k, r)) /\ Below w.heap.size w w'
theorem New_any {w : World} {G : Gh} (k : Nat) (hf : Fr w G) {l : List ByteArray} {A : Option Addr} {n c : Nat} (h : SsAt w l A n) : Calls Try.prog 11 #[.slice A n c] w (NewHp w G k l) := by
 have HS := Zi h
 have HF := Zi hf
 have HL := Zi h.len
 have hmx := h.max
 unfold maxLen at hmx
 have hb := Below.refl w.heap.size w
 clear h hf
 go_enter Try.func11, Try.ntmps11
 go_upto_region 0 with fail
 apply Zl
 refine Zm ?_
 go_upto_region 1 with fail
 apply Zl
 refine wl_w rfl (w2 := w.alloc (.map #[] 0)) (v := .map (some w.heap.size)) (by unfold execOp; simp [run_mm84 w, Result.andThen]) ?_
 simp only [Zq]
 refine wl_w rfl (ex_build 87 _ rfl (by simp only [List.map_cons, List.map_nil]; rfl) (built87 w.heap.size)) ?_
 simp only [Zq]
 obtain ⟨m, hm⟩ : ∃ m, m = w.heap.size := ⟨_, rfl⟩
 rw [<- hm]
 obtain ⟨W1, hW1⟩ : ∃ W, W = w.alloc (.map #[] 0) := ⟨_, rfl⟩
 have hm1 : W1.heap[m]? = some (.map #[] 0) := by rw [hW1]; exact ha_new hm
 have hb1 : Below w.heap.size w W1 := by rw [hW1]; exact hb.alloc (Nat.le_refl _) _
 rw [<- hW1]
 refine wl_newv (fun q => .pointer (some ⟨q, 0, none⟩)) rfl (cs := cellH none 0 0 none 0 0 m none 0 0) (ty := 87) (by
  unfold execOp
  have := run_box87 m W1
  simp [Act.eval, this, Result.andThen]) ?_
 intro W2 p hbn hlp hp
 simp only [Zq]
 have hm2 := below_look hbn hm1
 have hb2 := hb1.trans (hbn.mono hb1.size)
 have hpm : p ≠ m := by have := heap_lt hm1; omega
 clear hbn hm1 hW1 hb
 refine Zm ?_
 have HPM := Zi hpm
 have HGp : Hid (newG G k p m p = some (k, .hdr)) := Zi (if_pos rfl)
 have HGm : Hid (newG G k p m m = some (k, .dei)) := Zi (by unfold newG; rw [if_neg (fun e => hpm e.symm), if_pos rfl])
 have HM := Zi hm
 have hlp2 : w.heap.size <= p := by have := hb1.size; omega
 have hsz := hb2.size
 have hpl := heap_lt hp
 have H0 : Hid (HAt W2 (newG G k p m) k p (hp0 (l.take 0)) none 0 none 0 m none 0) := Zi (HAt.fresh hp ⟨#[], 0, hm2, MapKept.stamped_empty 0, fun x hx => by simp at hx, fun s hs => by simp at hs⟩ HGp.out HGm.out)
 clear hp hm2 hb1 hpm hm
 go_upto_region 2 with fail
 apply Zl
 iterate 3 refine Zm ?_
 go_wp2_with fail
 go_loopw [11] (fun i wr => ∃ j : Nat, j <= n /\ i = .int .i64 (j : Int) /\ Hid (HAt wr (newG G k p m) k p (hp0 (l.take j)) none 0 none 0 m none 0) /\ Hid (Below w.heap.size w wr) /\ p < wr.heap.size) (fun i _ => n - (intOf i).toNat)
 case atStart => exact ⟨0, by omega, rfl, H0, Zi hb2, hpl⟩
 case round =>
  clear H0 hb2 hpl hsz
  obtain ⟨j, hj, rfl, HA, hb, hpl⟩ := hrel
  go_upto_region 3 with fail
  by_cases hlt : j < n
  ·have hltI : (j : Int) < (n : Int) := by omega
   have hsj := List.getElem?_eq_getElem (l := l) (i := j) (by have := HL.out; omega)
   obtain ⟨s, hse⟩ : ∃ s, s = l[j]'(by have := HL.out; omega) := ⟨_, rfl⟩
   rw [<- hse] at hsj
   obtain ⟨b, off, rfl, hcell⟩ := HS.out.el j s hsj
   have HSL := Zi (one_of (ty := 9) u9 rfl ((hb.out.cell (block_lt_of_cell hcell)).trans hcell))
   obtain ⟨W7, hput, hdei, hkp⟩ := run_put84 (dei' := l.take (j + 1)) HA.out.map s (fun t => by rw [List.take_add_one, hsj]; simp [hp0])
   have hp := HA.out.blk
   have HPU := Zi hput
   have HDE := Zi hdei
   have HKP := Zi hkp
   clear hse hcell hput hdei hkp hsj
   apply Zl
   refine Zm ?_
   go_upto_region 4 with fail
   apply Zl
   refine Zm ?_
   refine Zo rfl (HSL.out) ?_
   refine Zm ?_
   go_upto_region 5 with fail
   apply Zl
   iterate 3 refine Zm ?_
   refine Zo rfl (h2 hp) ?_
   refine Zm ?_
   refine wl_s (w2 := W7) rfl (by
    unfold execOp
    have := HPU.out
    simp [Act.eval, this, Result.andThen]) ?_
   have HA7 : Hid (HAt W7 (newG G k p m) k p (hp0 (l.take (j + 1))) none 0 none 0 m none 0) := Zi (HAt.fresh (HKP.out.look hp HPM.out) HDE.out HGp.out HGm.out)
   have HB7 : Hid (Below w.heap.size w W7) := Zi (Below.keep hb.out HKP.out (fun b e => by have := HM.out; omega))
   have hpl7 : p < W7.heap.size := heap_lt (HKP.out.look hp HPM.out)
   clear hp HPU HDE HKP HA hb
   go_wp2_with fail
   go_roundw
   case rel => exact ⟨j + 1, by omega, by go_num, HA7, HB7, hpl7⟩
   case measure => simp [intOf]; omega
  ·have hltI : ¬ (j : Int) < (n : Int) := by omega
   apply Zl
   refine Zm ?_
   go_upto_region 7 with fail
   apply Zl
   iterate 2 refine Zm ?_
   go_wp2_with fail
   go_ret
   have hfin := HA.out
   rw [List.take_of_length_le (by have := HL.out; omega)] at hfin
   refine ⟨p, newG G k p m, rfl, ⟨_, _, _, _, _, _, _, hfin⟩, fun b hb2 => ?_, fun b hb2 => ?_, fun b hb2 => ?_, hb.out⟩
   ·obtain ⟨es, cc, h2m, -⟩ := hfin.map
    have h3 := heap_lt h2m
    unfold newG
    rw [if_neg (by omega), if_neg (by omega)]
    exact HF.out b (by have := hb.out.size; omega)
   ·have := HM.out
    unfold newG
    rw [if_neg (by omega), if_neg (by omega)]
   ·unfold newG
    split
    ·exact .inr ⟨_, rfl⟩
    ·split
     ·exact .inr ⟨_, rfl⟩
     ·exact .inl (HF.out b hb2)
end Go.Proofs.Ytpamocglecangaa
