/- What a call does to both heaps: same. The law HeapPlays. What the rows of this seat share: values and calls taken out of a row's input. Inputs out of a row, with their weight. -/
import Derived.Test.YtpamocglecangaaPD14
import Derived.Test.YtpamocglecangaaPD11
import Derived.Test.YtpamocglecangaaRows
import Derived.ProofKit
import Derived.Lib.SmallJoins
import Derived.Deep.Strs
import Derived.Deep.Slices
import Derived.Carry
import Derived.IntWalk
import Derived.Test.YtpamocglecangaaPD9
import Derived.Test.YtpamocglecangaaPD5
import Derived.Test.YtpamocglecangaaPD4
set_option maxHeartbeats 16000000
set_option maxRecDepth 100000
namespace Go.Proofs.Ytpamocglecangaa
open Go.RowKit Go.Proofs.Ytpamocglecangaa.Nm
set_option linter.unusedSimpArgs false
theorem same_any {G : Gh} {k k2 p p2 nr B : Nat} {h : Hp} {w : World} (hkk : k ≠ k2) (hp : HeapAt w G k p h) (hd : DHeapAt w G k2 p2 h nr) (hf : Fr w G) (hw : Wf h) {i S : Nat} (hi : Inv i S h) (hi6 : i <= 130) (hfit : DFit h) (hnb : nr + B <= 8000000000000) (hnb2 : B <= 700000000000) (hbw : ∀ l, h.lev.getLast? = some l -> weight h l <= B) {q : Cl} {row rv rx tr : Array Value} {A : Option Addr} {l c : Nat} (hcl : ClAt w (Imm G) q row rv rx tr A l c) (hok : ClOk S q) (hqf : ClFit q) :
  Calls Try.prog 15 #[.pointer (some ⟨p, 0, none⟩), .pointer (some ⟨p2, 0, none⟩), .agg row] w (SameDone w G k k2 p p2 (nr + B) (stepP h q)) := by
 have HX := Zi hp
 have HX2 := Zi hd
 have HF := Zi hf
 have HW := Zi hw
 have HI := Zi hi
 have HFT := Zi hfit
 have HK := Zi hok
 have HQF := Zi hqf
 have HKK := Zi hkk
 have HNB := Zi (And.intro hnb hnb2)
 have HBW := Zi hbw
 have hrs := hcl.size
 have hzs : zrow.size = 9 := rfl
 have zone : zrow.all (·.oneCell') = true := (zero_va w (Imm G)).one
 have HCL0 := Zi hcl
 have hb := Below.refl w.heap.size w
 have hob := hi.obs
 have hbu := hi.bus
 have hlv := hi.lev
 clear hp hd hf hw hi hfit hok hqf hkk hbw hcl
 go_enter Try.func15, Try.ntmps15
 go_upto_region 0 with fail
 apply Zl
 refine wl_newv (fun q => .pointer (some ⟨q, 0, none⟩)) rfl (ex_box37 _ rfl rfl) ?_
 intro W b1 hbn hlp hq
 simp only [Zq]
 replace hb := hb.trans hbn
 clear hbn
 refine Zm ?_
 have HDn := Zi (Two.calm HX.out HX2.out HF.out hb)
 have HCL := Zi (HCL0.out.old hb)
 have HQN : Hid (G b1 = none) := Zi (HF.out b1 (by omega))
 have HNQ : Hid (¬ (Mine G k b1 ∨ Mine G k2 b1)) := Zi (by rintro (⟨_, e, _⟩ | ⟨_, e, _⟩) <;> (rw [HQN.out] at e; cases e))
 have HT := Zi (Two.calm HDn.out.hp HDn.out.hd HDn.out.fr (Below.refl W.heap.size W))
 clear HX HX2 HF hb HCL0
 go_upto_region 1 with fail
 apply Zl
 refine Zm ?_
 refine Zo rfl (cl_k hq HCL) ?_
 by_cases c0 : q.k = 0
 ·have e0 : (q.k == 0) = true := by simp [c0]
  have HD : Hid (stepP h q = (makeP h q.t q.l).1) := Zi (by unfold stepP; rw [if_pos c0])
  go_upto_region 2 with fail
  apply Zl
  iterate 2 refine Zm ?_
  obtain ⟨y, hy⟩ : ∃ y, y = makeP h q.t q.l := ⟨_, rfl⟩
  have HY := Zi hy
  clear hy
  have hbz : Below W.heap.size W W.drew := (Below.refl _ _).drew
  replace HT := Zi (HT.out.quiet hbz)
  have HCLd := Zi (HCL.out.old hbz)
  have hc := Make_any HT.out.hp HT.out.fr (by omega) HCLd.out.t HCLd.out.l (by have := HCLd.out.l.len; have := HK.out.1; omega)
  rw [<- HY.out] at hc
  have HC := Zi hc
  clear hc
  go_upto_region 3 with fail
  refine wp_region_Z (S := fun w' => Keep (fun b => Mine G k b ∨ Mine G k2 b) W w') 13 mixed HT.out.keep (fun hS => ?_)
  refine zm 0 hS ?_; try simp only [Zq]
  refine zm 1 hS ?_; try simp only [Zq]
  refine zv4 (i := 2) rfl (by kernel_rfl) Zg hS rfl (fun w' hw' => ex_row rfl (cl_t (hw'.look hq HNQ.out) HCL)) ?_; try simp only [Zq]
  refine zm 3 hS ?_; try simp only [Zq]
  refine zv4 (i := 4) rfl (by kernel_rfl) Zg hS rfl (fun w' hw' => ex_one rfl (cl_l (hw'.look hq HNQ.out) HCL)) ?_; try simp only [Zq]
  refine zm 6 hS ?_; try simp only [Zq]
  refine zm 7 hS ?_; try simp only [Zq]
  refine zv4 (i := 8) rfl (by kernel_rfl) Zg hS rfl (fun w' hw' => ex_row rfl (cl_t (hw'.look hq HNQ.out) HCL)) ?_; try simp only [Zq]
  refine zm 9 hS ?_; try simp only [Zq]
  refine zv4 (i := 10) rfl (by kernel_rfl) Zg hS rfl (fun w' hw' => ex_one rfl (cl_l (hw'.look hq HNQ.out) HCL)) ?_; try simp only [Zq]
  refine za_call (i := 5) (by kernel_rfl) rfl rfl (fun K hK => ?_); go_simp; refine ⟨_, _, ⟨rfl, rfl⟩, hK _ _ ⟨_, HC.out, ?_⟩⟩; clear hK K; rintro e w7 ⟨G7, row7, rfl, hva7, d7⟩
  have m7 := d7.mv
  replace HT := Zi (HT.out.stp HKK.out d7)
  replace HCL := Zi (m7.cl HCLd.out)
  clear hS
  have hS := HT.out.keep
  refine ⟨_, rfl, fun _ => hS, ?_⟩
  try simp only [Zq]
  have HVA7 := Zi hva7
  clear d7 m7 hva7 HC HCLd hbz
  have hc := dMake_any HT.out.hd HT.out.fr (by omega) HCL.out.t HQF.out.t HCL.out.l (by have := HCL.out.l.len; have := HK.out.1; omega) HQF.out.l
  rw [<- HY.out] at hc
  have HC := Zi hc
  clear hc
  refine za_call (i := 11) (by kernel_rfl) rfl rfl (fun K hK => ?_); go_simp; refine ⟨_, _, ⟨rfl, rfl⟩, hK _ _ ⟨_, HC.out, ?_⟩⟩; clear hK K; rintro e w8 ⟨G8, row8, rfl, hva8, d8⟩
  have m8 := d8.mv
  replace HT := Zi (HT.out.std HKK.out d8)
  replace HVA7 := Zi (m8.va HVA7.out)
  clear hS
  have hS := HT.out.keep
  refine ⟨_, rfl, fun _ => hS, ?_⟩
  try simp only [Zq]
  have hce := eq_any HVA7.out hva8
  rw [eqVa_same] at hce
  have HCE := Zi hce
  clear d8 m8 hva8 HC hce
  refine za_call (i := 12) (by kernel_rfl) rfl rfl (fun K hK => ?_); go_simp; refine ⟨_, _, ⟨rfl, rfl⟩, hK _ _ ⟨_, HCE.out, ?_⟩⟩; clear hK K; rintro e w9 ⟨rfl, hb9⟩
  replace HT := Zi (HT.out.quiet hb9)
  clear hS
  have hS := HT.out.keep
  refine ⟨_, rfl, fun _ => hS, ?_⟩
  try simp only [Zq]
  refine zn 13 hS ?_; try simp only [Zq]
  clear hS
  refine za_done (by kernel_rfl) ?_ _
  go_wp2_with fail
  go_ret
  rw [HD.out, <- HY.out]
  exact ⟨rfl, _, _, HDn.out.trans HT.out, by omega⟩
 have e0 : (q.k == 0) = false := by simp [c0]
 go_upto_region 2 with fail
 apply Zl
 iterate 2 refine Zm ?_
 by_cases c1 : q.k = 1
 ·have e1 : (q.k == 1) = true := by simp [c1]
  have HD : Hid (stepP h q = (arrayP h q.t q.l).1) := Zi (by unfold stepP; rw [if_neg c0, if_pos c1])
  go_upto_region 4 with fail
  apply Zl
  iterate 2 refine Zm ?_
  obtain ⟨y, hy⟩ : ∃ y, y = arrayP h q.t q.l := ⟨_, rfl⟩
  have HY := Zi hy
  clear hy
  have hbz : Below W.heap.size W W.drew := (Below.refl _ _).drew
  replace HT := Zi (HT.out.quiet hbz)
  have HCLd := Zi (HCL.out.old hbz)
  have hc := Array_any HT.out.hp HT.out.fr (by omega) HCLd.out.t HCLd.out.l (by have := HCLd.out.l.len; have := HK.out.1; omega)
  rw [<- HY.out] at hc
  have HC := Zi hc
  clear hc
  go_upto_region 5 with fail
  refine wp_region_Z (S := fun w' => Keep (fun b => Mine G k b ∨ Mine G k2 b) W w') 13 mixed HT.out.keep (fun hS => ?_)
  refine zm 0 hS ?_; try simp only [Zq]
  refine zm 1 hS ?_; try simp only [Zq]
  refine zv4 (i := 2) rfl (by kernel_rfl) Zg hS rfl (fun w' hw' => ex_row rfl (cl_t (hw'.look hq HNQ.out) HCL)) ?_; try simp only [Zq]
  refine zm 3 hS ?_; try simp only [Zq]
  refine zv4 (i := 4) rfl (by kernel_rfl) Zg hS rfl (fun w' hw' => ex_one rfl (cl_l (hw'.look hq HNQ.out) HCL)) ?_; try simp only [Zq]
  refine zm 6 hS ?_; try simp only [Zq]
  refine zm 7 hS ?_; try simp only [Zq]
  refine zv4 (i := 8) rfl (by kernel_rfl) Zg hS rfl (fun w' hw' => ex_row rfl (cl_t (hw'.look hq HNQ.out) HCL)) ?_; try simp only [Zq]
  refine zm 9 hS ?_; try simp only [Zq]
  refine zv4 (i := 10) rfl (by kernel_rfl) Zg hS rfl (fun w' hw' => ex_one rfl (cl_l (hw'.look hq HNQ.out) HCL)) ?_; try simp only [Zq]
  refine za_call (i := 5) (by kernel_rfl) rfl rfl (fun K hK => ?_); go_simp; refine ⟨_, _, ⟨rfl, rfl⟩, hK _ _ ⟨_, HC.out, ?_⟩⟩; clear hK K; rintro e w7 ⟨G7, row7, rfl, hva7, d7⟩
  have m7 := d7.mv
  replace HT := Zi (HT.out.stp HKK.out d7)
  replace HCL := Zi (m7.cl HCLd.out)
  clear hS
  have hS := HT.out.keep
  refine ⟨_, rfl, fun _ => hS, ?_⟩
  try simp only [Zq]
  have HVA7 := Zi hva7
  clear d7 m7 hva7 HC HCLd hbz
  have hc := dArray_any HT.out.hd HT.out.fr (by omega) HCL.out.t HQF.out.t HCL.out.l (by have := HCL.out.l.len; have := HK.out.1; omega) HQF.out.l
  rw [<- HY.out] at hc
  have HC := Zi hc
  clear hc
  refine za_call (i := 11) (by kernel_rfl) rfl rfl (fun K hK => ?_); go_simp; refine ⟨_, _, ⟨rfl, rfl⟩, hK _ _ ⟨_, HC.out, ?_⟩⟩; clear hK K; rintro e w8 ⟨G8, row8, rfl, hva8, d8⟩
  have m8 := d8.mv
  replace HT := Zi (HT.out.std HKK.out d8)
  replace HVA7 := Zi (m8.va HVA7.out)
  clear hS
  have hS := HT.out.keep
  refine ⟨_, rfl, fun _ => hS, ?_⟩
  try simp only [Zq]
  have hce := eq_any HVA7.out hva8
  rw [eqVa_same] at hce
  have HCE := Zi hce
  clear d8 m8 hva8 HC hce
  refine za_call (i := 12) (by kernel_rfl) rfl rfl (fun K hK => ?_); go_simp; refine ⟨_, _, ⟨rfl, rfl⟩, hK _ _ ⟨_, HCE.out, ?_⟩⟩; clear hK K; rintro e w9 ⟨rfl, hb9⟩
  replace HT := Zi (HT.out.quiet hb9)
  clear hS
  have hS := HT.out.keep
  refine ⟨_, rfl, fun _ => hS, ?_⟩
  try simp only [Zq]
  refine zn 13 hS ?_; try simp only [Zq]
  clear hS
  refine za_done (by kernel_rfl) ?_ _
  go_wp2_with fail
  go_ret
  rw [HD.out, <- HY.out]
  exact ⟨rfl, _, _, HDn.out.trans HT.out, by omega⟩
 have e1 : (q.k == 1) = false := by simp [c1]
 go_upto_region 4 with fail
 apply Zl
 iterate 2 refine Zm ?_
 by_cases c2 : q.k = 2
 ·have e2 : (q.k == 2) = true := by simp [c2]
  have HD : Hid (stepP h q = (copyP h q.v).1) := Zi (by unfold stepP; rw [if_neg c0, if_neg c1, if_pos c2])
  go_upto_region 6 with fail
  apply Zl
  iterate 2 refine Zm ?_
  obtain ⟨y, hy⟩ : ∃ y, y = copyP h q.v := ⟨_, rfl⟩
  have HY := Zi hy
  clear hy
  have hc := Copy_any HT.out.hp HT.out.fr HCL.out.v
  rw [<- HY.out] at hc
  have HC := Zi hc
  clear hc
  go_upto_region 7 with fail
  apply Zl
  iterate 2 refine Zm ?_
  refine Zw rfl (cl_v hq HCL) ?_
  refine Zn HC.out ?_; rintro e w7 ⟨G7, row7, rfl, hva7, d7⟩; refine ⟨_, rfl, ?_⟩; simp only [Zq]
  have m7 := d7.mv
  replace HT := Zi (HT.out.stp HKK.out d7)
  replace HCL := Zi (m7.cl HCL.out)
  obtain ⟨hq9, hn9⟩ := m7.look hq HQN.out
  clear hq HQN
  have hq := hq9
  have HQN := Zi hn9
  clear hq9 hn9
  have HVA7 := Zi hva7
  have hs7 := hva7.size
  have h17 := hva7.one
  have hz := Below.refl w7.heap.size w7
  clear d7 m7 hva7 HC
  iterate 3 refine Zm ?_
  have lthqb7 := heap_lt hq; (with_reducible refine wl_allV ?_); intro W8 b7 hbn hlb7 hb7; replace hq := below_look hbn hq; replace hz := hz.trans (hbn.mono hz.size); clear hbn; simp only [Zq]
  (with_reducible refine wl_putV hs7 h17 hzs rfl rfl hb7 ?_); rw [put_noneA]; intro W9 hbx hsz hkx hnx
  replace hz := hbx _ _ (by omega) hz
  have hq9 := (hkx b1 (by omega)).trans hq
  have HN7 : Hid (G7 b7 = none) := Zi (HT.out.fr b7 (by omega))
  clear hb7 hq hbx hsz hkx
  have hb7 := hnx
  have hq := hq9
  replace HT := Zi (HT.out.quiet hz)
  replace HCL := Zi (HCL.out.old hz)
  replace HVA7 := Zi (HVA7.out.old hz)
  clear hnx hq9 hz
  refine Zm ?_
  have hc := dCopy_any HT.out.hd HT.out.fr HCL.out.v HQF.out.v
  rw [<- HY.out] at hc
  have HC := Zi hc
  clear hc
  go_upto_region 8 with fail
  apply Zl
  iterate 2 refine Zm ?_
  refine Zw rfl (cl_v hq HCL) ?_
  refine Zn HC.out ?_; rintro e w8 ⟨G8, row8, rfl, hva8, d8⟩; refine ⟨_, rfl, ?_⟩; simp only [Zq]
  have m8 := d8.mv
  replace HT := Zi (HT.out.std HKK.out d8)
  replace HCL := Zi (m8.cl HCL.out)
  obtain ⟨hq9, hn9⟩ := m8.look hq HQN.out
  clear hq HQN
  have hq := hq9
  have HQN := Zi hn9
  clear hq9 hn9
  replace HVA7 := Zi (m8.va HVA7.out)
  obtain ⟨hb9, hn9⟩ := m8.look hb7 HN7.out
  clear hb7 HN7
  have hb7 := hb9
  have HVA8 := Zi hva8
  have hs8 := hva8.size
  have h18 := hva8.one
  have hz := Below.refl w8.heap.size w8
  clear d8 m8 hva8 HC hb9 hn9
  iterate 3 refine Zm ?_
  have lthb7b8 := heap_lt hb7; (with_reducible refine wl_allV ?_); intro W10 b8 hbn hlb8 hb8; replace hb7 := below_look hbn hb7; replace hz := hz.trans (hbn.mono hz.size); clear hbn; simp only [Zq]
  (with_reducible refine wl_putV hs8 h18 hzs rfl rfl hb8 ?_); rw [put_noneA]; intro W11 hbx hsz hkx hnx
  replace hz := hbx _ _ (by omega) hz
  have hq9 := (hkx b7 (by omega)).trans hb7
  clear hb8 hb7 hq hbx hsz hkx
  have hb8 := hnx
  have hb7 := hq9
  replace HT := Zi (HT.out.quiet hz)
  replace HVA7 := Zi (HVA7.out.old hz)
  replace HVA8 := Zi (HVA8.out.old hz)
  clear hnx hq9 hz
  refine Zm ?_
  have hce := eq_any HVA7.out HVA8.out
  rw [eqVa_same] at hce
  have HCE := Zi hce
  clear hce
  go_upto_region 9 with fail
  apply Zl
  iterate 4 refine Zm ?_
  refine Zw rfl (row35 hb7 hs7) ?_
  refine Zw rfl (row35 hb8 hs8) ?_
  refine Zn HCE.out ?_; rintro e w9 ⟨rfl, hb9⟩; refine ⟨_, rfl, ?_⟩; simp only [Zq]
  iterate 2 refine Zm ?_
  go_wp2_with fail
  go_ret
  rw [HD.out, <- HY.out]
  exact ⟨rfl, _, _, HDn.out.trans (HT.out.quiet hb9), by omega⟩
 have e2 : (q.k == 2) = false := by simp [c2]
 go_upto_region 6 with fail
 apply Zl
 iterate 2 refine Zm ?_
 by_cases c3 : q.k = 3
 ·have e3 : (q.k == 3) = true := by simp [c3]
  have HD : Hid (stepP h q = (endP h q.v).1) := Zi (by unfold stepP; rw [if_neg c0, if_neg c1, if_neg c2, if_pos c3])
  go_upto_region 10 with fail
  apply Zl
  iterate 2 refine Zm ?_
  obtain ⟨y, hy⟩ : ∃ y, y = endP h q.v := ⟨_, rfl⟩
  have HY := Zi hy
  clear hy
  have hbz : Below W.heap.size W W.drew := (Below.refl _ _).drew
  replace HT := Zi (HT.out.quiet hbz)
  have HCLd := Zi (HCL.out.old hbz)
  have hc := End_any HT.out.hp HT.out.fr (by omega) HCLd.out.v
  rw [<- HY.out] at hc
  have HC := Zi hc
  clear hc
  go_upto_region 11 with fail
  refine wp_region_Z (S := fun w' => Keep (fun b => Mine G k b ∨ Mine G k2 b) W w') 9 mixed HT.out.keep (fun hS => ?_)
  refine zm 0 hS ?_; try simp only [Zq]
  refine zm 1 hS ?_; try simp only [Zq]
  refine zv4 (i := 2) rfl (by kernel_rfl) Zg hS rfl (fun w' hw' => ex_row rfl (cl_v (hw'.look hq HNQ.out) HCL)) ?_; try simp only [Zq]
  refine zm 4 hS ?_; try simp only [Zq]
  refine zm 5 hS ?_; try simp only [Zq]
  refine zv4 (i := 6) rfl (by kernel_rfl) Zg hS rfl (fun w' hw' => ex_row rfl (cl_v (hw'.look hq HNQ.out) HCL)) ?_; try simp only [Zq]
  refine za_call (i := 3) (by kernel_rfl) rfl rfl (fun K hK => ?_); go_simp; refine ⟨_, _, ⟨rfl, rfl⟩, hK _ _ ⟨_, HC.out, ?_⟩⟩; clear hK K; rintro e w7 ⟨G7, rfl, d7⟩
  have m7 := d7.mv
  replace HT := Zi (HT.out.stp HKK.out d7)
  replace HCL := Zi (m7.cl HCLd.out)
  clear hS
  have hS := HT.out.keep
  refine ⟨_, rfl, fun _ => hS, ?_⟩
  try simp only [Zq]
  clear d7 m7 HC HCLd hbz
  have hc := dEnd_any HT.out.hd HT.out.fr (by omega) HCL.out.v HQF.out.v
  rw [<- HY.out] at hc
  have HC := Zi hc
  clear hc
  refine za_call (i := 7) (by kernel_rfl) rfl rfl (fun K hK => ?_); go_simp; refine ⟨_, _, ⟨rfl, rfl⟩, hK _ _ ⟨_, HC.out, ?_⟩⟩; clear hK K; rintro e w8 ⟨G8, rfl, d8⟩
  replace HT := Zi (HT.out.std HKK.out d8)
  clear hS
  have hS := HT.out.keep
  refine ⟨_, rfl, fun _ => hS, ?_⟩
  try simp only [Zq]
  clear d8 HC
  refine zn 8 hS ?_; try simp only [Zq]
  refine zn 9 hS ?_; try simp only [Zq]
  clear hS
  refine za_done (by kernel_rfl) ?_ _
  go_upto_region 12 with fail
  apply Zl
  iterate 4 refine Zm ?_
  go_wp2_with fail
  go_ret
  rw [HD.out, <- HY.out]
  exact ⟨rfl, _, _, HDn.out.trans HT.out, by omega⟩
 have e3 : (q.k == 3) = false := by simp [c3]
 go_upto_region 10 with fail
 apply Zl
 iterate 2 refine Zm ?_
 by_cases c4 : q.k = 4
 ·have e4 : (q.k == 4) = true := by simp [c4]
  have HD : Hid (stepP h q = (nextP h).1) := Zi (by unfold stepP; rw [if_neg c0, if_neg c1, if_neg c2, if_neg c3, if_pos c4])
  go_upto_region 13 with fail
  apply Zl
  iterate 2 refine Zm ?_
  obtain ⟨y, hy⟩ : ∃ y, y = nextP h := ⟨_, rfl⟩
  have HY := Zi hy
  clear hy
  have hc := Next_any HT.out.hp HT.out.fr HW.out (fun l hl => Nat.le_trans (HBW.out l hl) (by have := HNB.out.2; omega)) (fun o ho => Nat.le_trans (HI.out.fld o ho) (by decide))
  rw [<- HY.out] at hc
  have HC := Zi hc
  clear hc
  go_upto_region 14 with fail
  apply Zl
  refine Zm ?_
  refine Zn HC.out ?_; rintro e w7 ⟨G7, row7, rfl, hva7, d7⟩; refine ⟨_, rfl, ?_⟩; simp only [Zq]
  have m7 := d7.mv
  replace HT := Zi (HT.out.stp HKK.out d7)
  replace HCL := Zi (m7.cl HCL.out)
  obtain ⟨hq9, hn9⟩ := m7.look hq HQN.out
  clear hq HQN
  have hq := hq9
  have HQN := Zi hn9
  clear hq9 hn9
  have HVA7 := Zi hva7
  have hs7 := hva7.size
  have h17 := hva7.one
  have hz := Below.refl w7.heap.size w7
  clear d7 m7 hva7 HC
  iterate 3 refine Zm ?_
  have lthqb7 := heap_lt hq; (with_reducible refine wl_allV ?_); intro W8 b7 hbn hlb7 hb7; replace hq := below_look hbn hq; replace hz := hz.trans (hbn.mono hz.size); clear hbn; simp only [Zq]
  (with_reducible refine wl_putV hs7 h17 hzs rfl rfl hb7 ?_); rw [put_noneA]; intro W9 hbx hsz hkx hnx
  replace hz := hbx _ _ (by omega) hz
  have hq9 := (hkx b1 (by omega)).trans hq
  have HN7 : Hid (G7 b7 = none) := Zi (HT.out.fr b7 (by omega))
  clear hb7 hq hbx hsz hkx
  have hb7 := hnx
  have hq := hq9
  replace HT := Zi (HT.out.quiet hz)
  replace HCL := Zi (HCL.out.old hz)
  replace HVA7 := Zi (HVA7.out.old hz)
  clear hnx hq9 hz
  refine Zm ?_
  have hc := dNext_any HT.out.hd HT.out.fr HW.out HFT.out (B := B) HNB.out.1 (by have := HNB.out.2; omega) HBW.out
  rw [<- HY.out] at hc
  have HC := Zi hc
  clear hc
  go_upto_region 15 with fail
  apply Zl
  refine Zm ?_
  refine Zn HC.out ?_; rintro e w8 ⟨G8, row8, nr8, rfl, hva8, d8, hnr8⟩; refine ⟨_, rfl, ?_⟩; simp only [Zq]
  have m8 := d8.mv
  replace HT := Zi (HT.out.std HKK.out d8)
  replace HCL := Zi (m8.cl HCL.out)
  obtain ⟨hq9, hn9⟩ := m8.look hq HQN.out
  clear hq HQN
  have hq := hq9
  have HQN := Zi hn9
  clear hq9 hn9
  replace HVA7 := Zi (m8.va HVA7.out)
  obtain ⟨hb9, hn9⟩ := m8.look hb7 HN7.out
  clear hb7 HN7
  have hb7 := hb9
  have HVA8 := Zi hva8
  have hs8 := hva8.size
  have h18 := hva8.one
  have hz := Below.refl w8.heap.size w8
  clear d8 m8 hva8 HC hb9 hn9
  iterate 3 refine Zm ?_
  have lthb7b8 := heap_lt hb7; (with_reducible refine wl_allV ?_); intro W10 b8 hbn hlb8 hb8; replace hb7 := below_look hbn hb7; replace hz := hz.trans (hbn.mono hz.size); clear hbn; simp only [Zq]
  (with_reducible refine wl_putV hs8 h18 hzs rfl rfl hb8 ?_); rw [put_noneA]; intro W11 hbx hsz hkx hnx
  replace hz := hbx _ _ (by omega) hz
  have hq9 := (hkx b7 (by omega)).trans hb7
  clear hb8 hb7 hq hbx hsz hkx
  have hb8 := hnx
  have hb7 := hq9
  replace HT := Zi (HT.out.quiet hz)
  replace HVA7 := Zi (HVA7.out.old hz)
  replace HVA8 := Zi (HVA8.out.old hz)
  clear hnx hq9 hz
  refine Zm ?_
  have hce := eq_any HVA7.out HVA8.out
  rw [eqVa_same] at hce
  have HCE := Zi hce
  clear hce
  go_upto_region 16 with fail
  apply Zl
  iterate 4 refine Zm ?_
  refine Zw rfl (row35 hb7 hs7) ?_
  refine Zw rfl (row35 hb8 hs8) ?_
  refine Zn HCE.out ?_; rintro e w9 ⟨rfl, hb9⟩; refine ⟨_, rfl, ?_⟩; simp only [Zq]
  iterate 2 refine Zm ?_
  go_wp2_with fail
  go_ret
  rw [HD.out, <- HY.out]
  exact ⟨rfl, _, _, HDn.out.trans (HT.out.quiet hb9), by omega⟩
 have e4 : (q.k == 4) = false := by simp [c4]
 go_upto_region 13 with fail
 apply Zl
 iterate 2 refine Zm ?_
 by_cases c5 : q.k = 5
 ·have e5 : (q.k == 5) = true := by simp [c5]
  have HD : Hid (stepP h q = h) := Zi (by unfold stepP; rw [if_neg (fun e => by rw [c5] at e; omega), if_neg (fun e => by rw [c5] at e; omega), if_neg (fun e => by rw [c5] at e; omega), if_neg (fun e => by rw [c5] at e; omega), if_neg (fun e => by rw [c5] at e; omega), if_neg (fun e => by rw [c5] at e; omega), if_neg (fun e => by rw [c5] at e; omega), if_neg (fun e => by rw [c5] at e; omega), if_neg (fun e => by rw [c5] at e; omega), if_neg (fun e => by rw [c5] at e; omega), if_neg (fun e => by rw [c5] at e; omega)])
  go_upto_region 17 with fail
  apply Zl
  iterate 2 refine Zm ?_
  obtain ⟨y, hy⟩ : ∃ y, y = fieldP h q.a q.b := ⟨_, rfl⟩
  have HY := Zi hy
  clear hy
  have hc := Field_any HT.out.hp HT.out.fr q.a q.b HCL.out.wa HCL.out.wb
  rw [<- HY.out] at hc
  have HC := Zi hc
  clear hc
  go_upto_region 18 with fail
  apply Zl
  iterate 2 refine Zm ?_
  refine Zo rfl (cl_a hq HCL) ?_
  refine Zm ?_
  refine Zo rfl (cl_b hq HCL) ?_
  refine Zn HC.out ?_; rintro e w7 ⟨G7, row7, rfl, hva7, d7⟩; refine ⟨_, rfl, ?_⟩; simp only [Zq]
  have m7 := d7.mv
  replace HT := Zi (HT.out.stp HKK.out d7)
  replace HCL := Zi (m7.cl HCL.out)
  obtain ⟨hq9, hn9⟩ := m7.look hq HQN.out
  clear hq HQN
  have hq := hq9
  have HQN := Zi hn9
  clear hq9 hn9
  have HVA7 := Zi hva7
  have hs7 := hva7.size
  have h17 := hva7.one
  have hz := Below.refl w7.heap.size w7
  clear d7 m7 hva7 HC
  iterate 3 refine Zm ?_
  have lthqb7 := heap_lt hq; (with_reducible refine wl_allV ?_); intro W8 b7 hbn hlb7 hb7; replace hq := below_look hbn hq; replace hz := hz.trans (hbn.mono hz.size); clear hbn; simp only [Zq]
  (with_reducible refine wl_putV hs7 h17 hzs rfl rfl hb7 ?_); rw [put_noneA]; intro W9 hbx hsz hkx hnx
  replace hz := hbx _ _ (by omega) hz
  have hq9 := (hkx b1 (by omega)).trans hq
  have HN7 : Hid (G7 b7 = none) := Zi (HT.out.fr b7 (by omega))
  clear hb7 hq hbx hsz hkx
  have hb7 := hnx
  have hq := hq9
  replace HT := Zi (HT.out.quiet hz)
  replace HCL := Zi (HCL.out.old hz)
  replace HVA7 := Zi (HVA7.out.old hz)
  clear hnx hq9 hz
  refine Zm ?_
  have hc := dField_any HT.out.hd HT.out.fr (fun o ho => (HFT.out.all.fld o ho).2) q.a q.b HCL.out.wa HCL.out.wb
  rw [<- HY.out] at hc
  have HC := Zi hc
  clear hc
  go_upto_region 19 with fail
  apply Zl
  iterate 2 refine Zm ?_
  refine Zo rfl (cl_a hq HCL) ?_
  refine Zm ?_
  refine Zo rfl (cl_b hq HCL) ?_
  refine Zn HC.out ?_; rintro e w8 ⟨G8, row8, rfl, hva8, d8⟩; refine ⟨_, rfl, ?_⟩; simp only [Zq]
  have m8 := d8.mv
  replace HT := Zi (HT.out.std HKK.out d8)
  replace HCL := Zi (m8.cl HCL.out)
  obtain ⟨hq9, hn9⟩ := m8.look hq HQN.out
  clear hq HQN
  have hq := hq9
  have HQN := Zi hn9
  clear hq9 hn9
  replace HVA7 := Zi (m8.va HVA7.out)
  obtain ⟨hb9, hn9⟩ := m8.look hb7 HN7.out
  clear hb7 HN7
  have hb7 := hb9
  have HVA8 := Zi hva8
  have hs8 := hva8.size
  have h18 := hva8.one
  have hz := Below.refl w8.heap.size w8
  clear d8 m8 hva8 HC hb9 hn9
  iterate 3 refine Zm ?_
  have lthb7b8 := heap_lt hb7; (with_reducible refine wl_allV ?_); intro W10 b8 hbn hlb8 hb8; replace hb7 := below_look hbn hb7; replace hz := hz.trans (hbn.mono hz.size); clear hbn; simp only [Zq]
  (with_reducible refine wl_putV hs8 h18 hzs rfl rfl hb8 ?_); rw [put_noneA]; intro W11 hbx hsz hkx hnx
  replace hz := hbx _ _ (by omega) hz
  have hq9 := (hkx b7 (by omega)).trans hb7
  clear hb8 hb7 hq hbx hsz hkx
  have hb8 := hnx
  have hb7 := hq9
  replace HT := Zi (HT.out.quiet hz)
  replace HVA7 := Zi (HVA7.out.old hz)
  replace HVA8 := Zi (HVA8.out.old hz)
  clear hnx hq9 hz
  refine Zm ?_
  have hce := eq_any HVA7.out HVA8.out
  rw [eqVa_same] at hce
  have HCE := Zi hce
  clear hce
  go_upto_region 20 with fail
  apply Zl
  iterate 4 refine Zm ?_
  refine Zw rfl (row35 hb7 hs7) ?_
  refine Zw rfl (row35 hb8 hs8) ?_
  refine Zn HCE.out ?_; rintro e w9 ⟨rfl, hb9⟩; refine ⟨_, rfl, ?_⟩; simp only [Zq]
  iterate 2 refine Zm ?_
  go_wp2_with fail
  go_ret
  have hfh := fieldP_h h q.a q.b
  rw [<- HY.out] at hfh
  rw [HD.out]
  exact ⟨rfl, _, _, (hfh ▸ HDn.out.trans (HT.out.quiet hb9)), by omega⟩
 have e5 : (q.k == 5) = false := by simp [c5]
 go_upto_region 17 with fail
 apply Zl
 iterate 2 refine Zm ?_
 by_cases c6 : q.k = 6
 ·have e6 : (q.k == 6) = true := by simp [c6]
  have HD : Hid (stepP h q = (setP h q.a q.b q.v).1) := Zi (by unfold stepP; rw [if_neg c0, if_neg c1, if_neg c2, if_neg c3, if_neg c4, if_pos c6])
  go_upto_region 21 with fail
  apply Zl
  iterate 2 refine Zm ?_
  obtain ⟨y, hy⟩ : ∃ y, y = setP h q.a q.b q.v := ⟨_, rfl⟩
  have HY := Zi hy
  clear hy
  have hc := Set_any HT.out.hp HT.out.fr q.a q.b HCL.out.wa HCL.out.wb HCL.out.v
  rw [<- HY.out] at hc
  have HC := Zi hc
  clear hc
  go_upto_region 22 with fail
  apply Zl
  iterate 2 refine Zm ?_
  refine Zo rfl (cl_a hq HCL) ?_
  refine Zm ?_
  refine Zo rfl (cl_b hq HCL) ?_
  refine Zm ?_
  refine Zw rfl (cl_v hq HCL) ?_
  refine Zn HC.out ?_; rintro e w7 ⟨G7, row7, rfl, hva7, d7⟩; refine ⟨_, rfl, ?_⟩; simp only [Zq]
  have m7 := d7.mv
  replace HT := Zi (HT.out.stp HKK.out d7)
  replace HCL := Zi (m7.cl HCL.out)
  obtain ⟨hq9, hn9⟩ := m7.look hq HQN.out
  clear hq HQN
  have hq := hq9
  have HQN := Zi hn9
  clear hq9 hn9
  have HVA7 := Zi hva7
  have hs7 := hva7.size
  have h17 := hva7.one
  have hz := Below.refl w7.heap.size w7
  clear d7 m7 hva7 HC
  iterate 3 refine Zm ?_
  have lthqb7 := heap_lt hq; (with_reducible refine wl_allV ?_); intro W8 b7 hbn hlb7 hb7; replace hq := below_look hbn hq; replace hz := hz.trans (hbn.mono hz.size); clear hbn; simp only [Zq]
  (with_reducible refine wl_putV hs7 h17 hzs rfl rfl hb7 ?_); rw [put_noneA]; intro W9 hbx hsz hkx hnx
  replace hz := hbx _ _ (by omega) hz
  have hq9 := (hkx b1 (by omega)).trans hq
  have HN7 : Hid (G7 b7 = none) := Zi (HT.out.fr b7 (by omega))
  clear hb7 hq hbx hsz hkx
  have hb7 := hnx
  have hq := hq9
  replace HT := Zi (HT.out.quiet hz)
  replace HCL := Zi (HCL.out.old hz)
  replace HVA7 := Zi (HVA7.out.old hz)
  clear hnx hq9 hz
  refine Zm ?_
  have hc := dSet_any HT.out.hd HT.out.fr q.a q.b HCL.out.wa HCL.out.wb HCL.out.v HQF.out.v
  rw [<- HY.out] at hc
  have HC := Zi hc
  clear hc
  go_upto_region 23 with fail
  apply Zl
  iterate 2 refine Zm ?_
  refine Zo rfl (cl_a hq HCL) ?_
  refine Zm ?_
  refine Zo rfl (cl_b hq HCL) ?_
  refine Zm ?_
  refine Zw rfl (cl_v hq HCL) ?_
  refine Zn HC.out ?_; rintro e w8 ⟨G8, row8, rfl, hva8, d8⟩; refine ⟨_, rfl, ?_⟩; simp only [Zq]
  have m8 := d8.mv
  replace HT := Zi (HT.out.std HKK.out d8)
  replace HCL := Zi (m8.cl HCL.out)
  obtain ⟨hq9, hn9⟩ := m8.look hq HQN.out
  clear hq HQN
  have hq := hq9
  have HQN := Zi hn9
  clear hq9 hn9
  replace HVA7 := Zi (m8.va HVA7.out)
  obtain ⟨hb9, hn9⟩ := m8.look hb7 HN7.out
  clear hb7 HN7
  have hb7 := hb9
  have HVA8 := Zi hva8
  have hs8 := hva8.size
  have h18 := hva8.one
  have hz := Below.refl w8.heap.size w8
  clear d8 m8 hva8 HC hb9 hn9
  iterate 3 refine Zm ?_
  have lthb7b8 := heap_lt hb7; (with_reducible refine wl_allV ?_); intro W10 b8 hbn hlb8 hb8; replace hb7 := below_look hbn hb7; replace hz := hz.trans (hbn.mono hz.size); clear hbn; simp only [Zq]
  (with_reducible refine wl_putV hs8 h18 hzs rfl rfl hb8 ?_); rw [put_noneA]; intro W11 hbx hsz hkx hnx
  replace hz := hbx _ _ (by omega) hz
  have hq9 := (hkx b7 (by omega)).trans hb7
  clear hb8 hb7 hq hbx hsz hkx
  have hb8 := hnx
  have hb7 := hq9
  replace HT := Zi (HT.out.quiet hz)
  replace HVA7 := Zi (HVA7.out.old hz)
  replace HVA8 := Zi (HVA8.out.old hz)
  clear hnx hq9 hz
  refine Zm ?_
  have hce := eq_any HVA7.out HVA8.out
  rw [eqVa_same] at hce
  have HCE := Zi hce
  clear hce
  go_upto_region 24 with fail
  apply Zl
  iterate 4 refine Zm ?_
  refine Zw rfl (row35 hb7 hs7) ?_
  refine Zw rfl (row35 hb8 hs8) ?_
  refine Zn HCE.out ?_; rintro e w9 ⟨rfl, hb9⟩; refine ⟨_, rfl, ?_⟩; simp only [Zq]
  iterate 2 refine Zm ?_
  go_wp2_with fail
  go_ret
  rw [HD.out, <- HY.out]
  exact ⟨rfl, _, _, HDn.out.trans (HT.out.quiet hb9), by omega⟩
 have e6 : (q.k == 6) = false := by simp [c6]
 go_upto_region 21 with fail
 apply Zl
 iterate 2 refine Zm ?_
 by_cases c7 : q.k = 7
 ·have e7 : (q.k == 7) = true := by simp [c7]
  have HD : Hid (stepP h q = (weakP h q.v).1) := Zi (by unfold stepP; rw [if_neg c0, if_neg c1, if_neg c2, if_neg c3, if_neg c4, if_neg c6, if_pos c7])
  go_upto_region 25 with fail
  apply Zl
  iterate 2 refine Zm ?_
  obtain ⟨y, hy⟩ : ∃ y, y = weakP h q.v := ⟨_, rfl⟩
  have HY := Zi hy
  clear hy
  have hc := Weak_any HT.out.hp HT.out.fr HCL.out.v
  rw [<- HY.out] at hc
  have HC := Zi hc
  clear hc
  go_upto_region 26 with fail
  apply Zl
  iterate 2 refine Zm ?_
  refine Zw rfl (cl_v hq HCL) ?_
  refine Zn HC.out ?_; rintro e w7 ⟨G7, row7, rfl, hva7, d7⟩; refine ⟨_, rfl, ?_⟩; simp only [Zq]
  have m7 := d7.mv
  replace HT := Zi (HT.out.stp HKK.out d7)
  replace HCL := Zi (m7.cl HCL.out)
  obtain ⟨hq9, hn9⟩ := m7.look hq HQN.out
  clear hq HQN
  have hq := hq9
  have HQN := Zi hn9
  clear hq9 hn9
  have HVA7 := Zi hva7
  have hs7 := hva7.size
  have h17 := hva7.one
  have hz := Below.refl w7.heap.size w7
  clear d7 m7 hva7 HC
  iterate 3 refine Zm ?_
  have lthqb7 := heap_lt hq; (with_reducible refine wl_allV ?_); intro W8 b7 hbn hlb7 hb7; replace hq := below_look hbn hq; replace hz := hz.trans (hbn.mono hz.size); clear hbn; simp only [Zq]
  (with_reducible refine wl_putV hs7 h17 hzs rfl rfl hb7 ?_); rw [put_noneA]; intro W9 hbx hsz hkx hnx
  replace hz := hbx _ _ (by omega) hz
  have hq9 := (hkx b1 (by omega)).trans hq
  have HN7 : Hid (G7 b7 = none) := Zi (HT.out.fr b7 (by omega))
  clear hb7 hq hbx hsz hkx
  have hb7 := hnx
  have hq := hq9
  replace HT := Zi (HT.out.quiet hz)
  replace HCL := Zi (HCL.out.old hz)
  replace HVA7 := Zi (HVA7.out.old hz)
  clear hnx hq9 hz
  refine Zm ?_
  have hc := dWeak_any HT.out.hd HT.out.fr HCL.out.v
  rw [<- HY.out] at hc
  have HC := Zi hc
  clear hc
  go_upto_region 27 with fail
  apply Zl
  iterate 2 refine Zm ?_
  refine Zw rfl (cl_v hq HCL) ?_
  refine Zn HC.out ?_; rintro e w8 ⟨G8, row8, rfl, hva8, d8⟩; refine ⟨_, rfl, ?_⟩; simp only [Zq]
  have m8 := d8.mv
  replace HT := Zi (HT.out.std HKK.out d8)
  replace HCL := Zi (m8.cl HCL.out)
  obtain ⟨hq9, hn9⟩ := m8.look hq HQN.out
  clear hq HQN
  have hq := hq9
  have HQN := Zi hn9
  clear hq9 hn9
  replace HVA7 := Zi (m8.va HVA7.out)
  obtain ⟨hb9, hn9⟩ := m8.look hb7 HN7.out
  clear hb7 HN7
  have hb7 := hb9
  have HVA8 := Zi hva8
  have hs8 := hva8.size
  have h18 := hva8.one
  have hz := Below.refl w8.heap.size w8
  clear d8 m8 hva8 HC hb9 hn9
  iterate 3 refine Zm ?_
  have lthb7b8 := heap_lt hb7; (with_reducible refine wl_allV ?_); intro W10 b8 hbn hlb8 hb8; replace hb7 := below_look hbn hb7; replace hz := hz.trans (hbn.mono hz.size); clear hbn; simp only [Zq]
  (with_reducible refine wl_putV hs8 h18 hzs rfl rfl hb8 ?_); rw [put_noneA]; intro W11 hbx hsz hkx hnx
  replace hz := hbx _ _ (by omega) hz
  have hq9 := (hkx b7 (by omega)).trans hb7
  clear hb8 hb7 hq hbx hsz hkx
  have hb8 := hnx
  have hb7 := hq9
  replace HT := Zi (HT.out.quiet hz)
  replace HVA7 := Zi (HVA7.out.old hz)
  replace HVA8 := Zi (HVA8.out.old hz)
  clear hnx hq9 hz
  refine Zm ?_
  have hce := eq_any HVA7.out HVA8.out
  rw [eqVa_same] at hce
  have HCE := Zi hce
  clear hce
  go_upto_region 28 with fail
  apply Zl
  iterate 4 refine Zm ?_
  refine Zw rfl (row35 hb7 hs7) ?_
  refine Zw rfl (row35 hb8 hs8) ?_
  refine Zn HCE.out ?_; rintro e w9 ⟨rfl, hb9⟩; refine ⟨_, rfl, ?_⟩; simp only [Zq]
  iterate 2 refine Zm ?_
  go_wp2_with fail
  go_ret
  rw [HD.out, <- HY.out]
  exact ⟨rfl, _, _, HDn.out.trans (HT.out.quiet hb9), by omega⟩
 have e7 : (q.k == 7) = false := by simp [c7]
 go_upto_region 25 with fail
 apply Zl
 iterate 2 refine Zm ?_
 by_cases c8 : q.k = 8
 ·have e8 : (q.k == 8) = true := by simp [c8]
  have HD : Hid (stepP h q = (loadP h q.v).1) := Zi (by unfold stepP; rw [if_neg c0, if_neg c1, if_neg c2, if_neg c3, if_neg c4, if_neg c6, if_neg c7, if_pos c8])
  go_upto_region 29 with fail
  apply Zl
  iterate 2 refine Zm ?_
  obtain ⟨y, hy⟩ : ∃ y, y = loadP h q.v := ⟨_, rfl⟩
  have HY := Zi hy
  clear hy
  have hc := Load_any HT.out.hp HT.out.fr HCL.out.v
  rw [<- HY.out] at hc
  have HC := Zi hc
  clear hc
  go_upto_region 30 with fail
  apply Zl
  iterate 2 refine Zm ?_
  refine Zw rfl (cl_v hq HCL) ?_
  refine Zn HC.out ?_; rintro e w7 ⟨G7, row7, rfl, hva7, d7⟩; refine ⟨_, rfl, ?_⟩; simp only [Zq]
  have m7 := d7.mv
  replace HT := Zi (HT.out.stp HKK.out d7)
  replace HCL := Zi (m7.cl HCL.out)
  obtain ⟨hq9, hn9⟩ := m7.look hq HQN.out
  clear hq HQN
  have hq := hq9
  have HQN := Zi hn9
  clear hq9 hn9
  have HVA7 := Zi hva7
  have hs7 := hva7.size
  have h17 := hva7.one
  have hz := Below.refl w7.heap.size w7
  clear d7 m7 hva7 HC
  iterate 4 refine Zm ?_
  have lthqb7 := heap_lt hq; (with_reducible refine wl_allV ?_); intro W8 b7 hbn hlb7 hb7; replace hq := below_look hbn hq; replace hz := hz.trans (hbn.mono hz.size); clear hbn; simp only [Zq]
  (with_reducible refine wl_putV hs7 h17 hzs rfl rfl hb7 ?_); rw [put_noneA]; intro W9 hbx hsz hkx hnx
  replace hz := hbx _ _ (by omega) hz
  have hq9 := (hkx b1 (by omega)).trans hq
  have HN7 : Hid (G7 b7 = none) := Zi (HT.out.fr b7 (by omega))
  clear hb7 hq hbx hsz hkx
  have hb7 := hnx
  have hq := hq9
  replace HT := Zi (HT.out.quiet hz)
  replace HCL := Zi (HCL.out.old hz)
  replace HVA7 := Zi (HVA7.out.old hz)
  clear hnx hq9 hz
  iterate 2 refine Zm ?_
  have hc := dLoad_any HT.out.hd HT.out.fr HCL.out.v
  rw [<- HY.out] at hc
  have HC := Zi hc
  clear hc
  go_upto_region 31 with fail
  apply Zl
  iterate 2 refine Zm ?_
  refine Zw rfl (cl_v hq HCL) ?_
  refine Zn HC.out ?_; rintro e w8 ⟨G8, row8, rfl, hva8, d8⟩; refine ⟨_, rfl, ?_⟩; simp only [Zq]
  have m8 := d8.mv
  replace HT := Zi (HT.out.std HKK.out d8)
  replace HCL := Zi (m8.cl HCL.out)
  obtain ⟨hq9, hn9⟩ := m8.look hq HQN.out
  clear hq HQN
  have hq := hq9
  have HQN := Zi hn9
  clear hq9 hn9
  replace HVA7 := Zi (m8.va HVA7.out)
  obtain ⟨hb9, hn9⟩ := m8.look hb7 HN7.out
  clear hb7 HN7
  have hb7 := hb9
  have HVA8 := Zi hva8
  have hs8 := hva8.size
  have h18 := hva8.one
  have hz := Below.refl w8.heap.size w8
  clear d8 m8 hva8 HC hb9 hn9
  iterate 4 refine Zm ?_
  have lthb7b8 := heap_lt hb7; (with_reducible refine wl_allV ?_); intro W10 b8 hbn hlb8 hb8; replace hb7 := below_look hbn hb7; replace hz := hz.trans (hbn.mono hz.size); clear hbn; simp only [Zq]
  (with_reducible refine wl_putV hs8 h18 hzs rfl rfl hb8 ?_); rw [put_noneA]; intro W11 hbx hsz hkx hnx
  replace hz := hbx _ _ (by omega) hz
  have hq9 := (hkx b7 (by omega)).trans hb7
  clear hb8 hb7 hq hbx hsz hkx
  have hb8 := hnx
  have hb7 := hq9
  replace HT := Zi (HT.out.quiet hz)
  replace HVA7 := Zi (HVA7.out.old hz)
  replace HVA8 := Zi (HVA8.out.old hz)
  clear hnx hq9 hz
  iterate 2 refine Zm ?_
  have hce := eq_any HVA7.out HVA8.out
  rw [eqVa_same] at hce
  have HCE := Zi hce
  clear hce
  go_upto_region 32 with fail
  apply Zl
  iterate 9 refine Zm ?_
  refine Zw rfl (row35 hb7 hs7) ?_
  refine Zw rfl (row35 hb8 hs8) ?_
  refine Zn HCE.out ?_; rintro e w9 ⟨rfl, hb9⟩; refine ⟨_, rfl, ?_⟩; simp only [Zq]
  iterate 2 refine Zm ?_
  go_wp2_with fail
  go_ret
  rw [HD.out, <- HY.out]
  exact ⟨rfl, _, _, HDn.out.trans (HT.out.quiet hb9), by omega⟩
 have e8 : (q.k == 8) = false := by simp [c8]
 go_upto_region 29 with fail
 apply Zl
 iterate 2 refine Zm ?_
 have HD : Hid (stepP h q = stepS h q) := Zi (by unfold stepP stepS; rw [if_neg c0, if_neg c1, if_neg c2, if_neg c3, if_neg c4, if_neg c6, if_neg c7, if_neg c8])
 have HC := Zi (shared_any HKK.out HT.out.hp HT.out.hd HT.out.fr HW.out HI.out hi6 HFT.out hnb hnb2 HBW.out HCL.out HK.out HQF.out)
 go_upto_region 33 with fail
 apply Zl
 iterate 2 refine Zm ?_
 refine Zw rfl (row37 hq hrs) ?_
 refine Zn HC.out ?_; rintro e w9 ⟨rfl, G9, nr9, ht9, hn9⟩; refine ⟨_, rfl, ?_⟩; simp only [Zq]
 refine Zm ?_
 go_wp2_with fail
 go_ret
 rw [HD.out]
 exact ⟨rfl, G9, nr9, HDn.out.trans ht9, hn9⟩
theorem run_dei : ∀ (n : Nat) (h : Hp) (l : List Tk), (runN n h l).1.dei = h.dei
 | 0, h, l => rfl
 | n + 1, h, l => by
  simp only [runN]
  cases l.getLast? with
  | none => rfl
  | some t =>
   simp only
   cases (stepV' h l.dropLast t).2.2 with
   | some v => exact step_dei h _ t
   | none => exact (run_dei n _ _).trans (step_dei h _ t)
theorem nextP_dei (h : Hp) : (nextP h).1.dei = h.dei := by
 unfold nextP
 cases h.lev.getLast? with
 | none => rfl
 | some l =>
  simp only
  split <;> exact run_dei _ _ _
theorem ownP_dei (h : Hp) (v : Va) : (ownP h v).1.dei = h.dei := by
 unfold ownP
 split
 ·split
  ·rename_i b hb
   split
   ·rfl
   ·split
    ·rfl
    ·split
     ·exact (cntVs_same 1 b.elems h).2.2.2
     ·rfl
  ·rfl
 ·rfl
theorem stepP_dei (h : Hp) (q : Cl) : (stepP h q).dei = h.dei := by
 unfold stepP
 split
 ·rfl
 split
 ·rfl
 split
 ·unfold copyP
  split
  ·split
   ·rfl
   ·exact (cntV_same 1 q.v h).2.2.2
  ·rfl
 split
 ·unfold endP; repeat' split
  all_goals rfl
 split
 ·exact nextP_dei h
 split
 ·unfold setP; repeat' split
  all_goals rfl
 split
 ·unfold weakP; repeat' split
  all_goals rfl
 split
 ·unfold loadP; repeat' split
  all_goals rfl
 split
 ·exact ownP_dei h q.v
 split
 ·unfold putP; repeat' split
  all_goals rfl
 split
 ·unfold appendP; repeat' split
  all_goals rfl
 ·rfl
structure PI (ns : List ByteArray) (S j : Nat) (h : Hp) : Prop where
 wf : Wf h
 inv : Inv j S h
 all : AllH VaFit TyFit h
 dei : h.dei = ns
theorem PI.zero (ns : List ByteArray) (S : Nat) : PI ns S 0 (hp0 ns) := ⟨wf_zero ns, inv_zero S ns, ⟨fun o ho => (by cases ho), fun b hb => (by cases hb), fun ts hts => (by cases hts)⟩, rfl⟩
theorem PI.step {ns : List ByteArray} {S j : Nat} {h : Hp} {q : Cl} (hp : PI ns S j h) (hj : j <= 130) (hok : ClOk S q) (hq : ClFit q) : PI ns S (j + 1) (stepP h q) :=
 ⟨wf_step q hp.wf, inv_step hp.inv hp.wf hj hok, all_stepP fit0 fit_parts hp.all hq.t hq.l hq.v hq.x, (stepP_dei h q).trans hp.dei⟩
theorem PI.fit {ns : List ByteArray} {S j : Nat} {h : Hp} (hp : PI ns S j h) (hj : j <= 1000) (hn : ns.length <= 1000000) : DFit h :=
 ⟨hp.all, fun ob hob => Nat.le_trans (hp.inv.fld ob hob) (by decide), fun b hb => Nat.le_trans (hp.inv.elm b hb).1 (by omega), by rw [hp.dei]; exact hn⟩
theorem Two.below {w w1 w' : World} {G1 G' : Gh} {k k2 p p2 n' : Nat} {h' h2' : Hp} (hb : Below w.heap.size w w1) (hg : ∀ b, b < w.heap.size -> G1 b = none) (d : Two w1 G1 k k2 p p2 h' h2' n' w' G') : Below w.heap.size w w' :=
 ⟨d.keep.os.trans hb.os, d.keep.tape.trans hb.tape, d.keep.output.trans hb.output, Nat.le_trans hb.size d.keep.size, fun b hlt => (d.keep.block b (by have := hb.size; omega) (by rintro (⟨r, e, -⟩ | ⟨r, e, -⟩) <;> (rw [hg b hlt] at e; cases e))).trans (hb.block b hlt)⟩
theorem HeapAt.regh {w : World} {G G' : Gh} {k p : Nat} {h : Hp} (hh : HeapAt w G k p h) (hG : ∀ b, b < w.heap.size -> G' b = G b) : HeapAt w G' k p h := by
 obtain ⟨oA, oc, bA, bc, m, lA, lc, hh⟩ := hh
 exact ⟨_, _, _, _, _, _, _, hh.regh hG⟩
theorem DHeapAt.regh {w : World} {G G' : Gh} {k p n : Nat} {h : Hp} (hh : DHeapAt w G k p h n) (hG : ∀ b, b < w.heap.size -> G' b = G b) : DHeapAt w G' k p h n := by
 obtain ⟨dA, dc, oA, oc, bA, bc, lA, lc, rA, rc, hh⟩ := hh
 exact ⟨_, _, _, _, _, _, _, _, _, _, hh.regh hG⟩
open Go.ChangeShapes Go.WideShapes Go.ChangeAt Go.RowKit
theorem own0 : ownKnob Try.prog.godebug = none := by kernel_rfl
theorem row_u4 : Try.prog.underlying 4 = some .bool := by kernel_rfl
theorem laidOut0 : laidOutB Try.prog = true := by kernel_rfl
theorem cells35 : Try.prog.cellsOf 35 = 9 := by kernel_rfl
theorem cells37 : Try.prog.cellsOf 37 = 26 := by kernel_rfl
theorem cells3 : Try.prog.cellsOf 3 = 1 := by kernel_rfl
theorem cells9 : Try.prog.cellsOf 9 = 1 := by kernel_rfl
theorem cells30 : Try.prog.cellsOf 30 = 1 := by kernel_rfl
theorem cells33 : Try.prog.cellsOf 33 = 1 := by kernel_rfl
theorem cells32 : Try.prog.cellsOf 32 = 4 := by kernel_rfl
theorem u23 : Try.prog.underlying 23 = some (.slice 37) := by kernel_rfl
theorem fl35 : (Try.prog.fieldsOf 35).toList.map (fun f => (f.type, f.offset)) = [(3, 0), (3, 1), (9, 2), (32, 3), (30, 7), (33, 8)] := by kernel_rfl
theorem fl37 : (Try.prog.fieldsOf 37).toList.map (fun f => (f.type, f.offset)) = [(3, 0), (3, 1), (3, 2), (35, 3), (35, 12), (32, 21), (33, 25)] := by kernel_rfl
theorem fields6 {fs : Array Field} {a b c d e g : Nat × Nat} (h : fs.toList.map (fun f => (f.type, f.offset)) = [a, b, c, d, e, g]) : ∃ f0 f1 f2 f3 f4 f5, fs = #[f0, f1, f2, f3, f4, f5] /\ (f0.type, f0.offset) = a /\ (f1.type, f1.offset) = b /\ (f2.type, f2.offset) = c /\ (f3.type, f3.offset) = d /\ (f4.type, f4.offset) = e /\ (f5.type, f5.offset) = g := by
 obtain ⟨l⟩ := fs
 match l, h with
 | [f0, f1, f2, f3, f4, f5], h => simp at h; exact ⟨f0, f1, f2, f3, f4, f5, rfl, by simp [h.1], by simp [h.2.1], by simp [h.2.2.1], by simp [h.2.2.2.1], by simp [h.2.2.2.2.1], by simp [h.2.2.2.2.2]⟩
theorem fields7 {fs : Array Field} {a b c d e g k : Nat × Nat} (h : fs.toList.map (fun f => (f.type, f.offset)) = [a, b, c, d, e, g, k]) : ∃ f0 f1 f2 f3 f4 f5 f6, fs = #[f0, f1, f2, f3, f4, f5, f6] /\ (f0.type, f0.offset) = a /\ (f1.type, f1.offset) = b /\ (f2.type, f2.offset) = c /\ (f3.type, f3.offset) = d /\ (f4.type, f4.offset) = e /\ (f5.type, f5.offset) = g /\ (f6.type, f6.offset) = k := by
 obtain ⟨l⟩ := fs
 match l, h with
 | [f0, f1, f2, f3, f4, f5, f6], h => simp at h; exact ⟨f0, f1, f2, f3, f4, f5, f6, rfl, by simp [h.1], by simp [h.2.1], by simp [h.2.2.1], by simp [h.2.2.2.1], by simp [h.2.2.2.2.1], by simp [h.2.2.2.2.2.1], by simp [h.2.2.2.2.2.2]⟩
theorem n_row {w : World} {a : Addr} {i n : Nat} {cs : List Value} (hn : 0 < n) (hl : cs.length = n) (h : ∀ j, j < n -> w.cell? (a.add (i * n + j)) = cs[j]?) (hs : a.spot = none) :
  ∃ Cs t fr, w.heap[a.block]? = some (.cells Cs t fr) /\ Cs.extract (a.off + i * n) (a.off + i * n + n) = cs.toArray := by
 have e : ∀ n, a.add n = ⟨a.block, a.off + n, none⟩ := fun n => by
  obtain ⟨b, o, s⟩ := a
  unfold Addr.add
  split
  ·rename_i h; subst h; simp at hs; simp [hs]
  ·rfl
 have h0 := h 0 hn
 rw [e] at h0
 unfold World.cell? at h0
 simp only [] at h0
 cases hc : w.heap[a.block]? with
 | none => rw [hc, List.getElem?_eq_getElem (show 0 < cs.length by omega)] at h0; cases h0
 | some o =>
  cases o with
  | cells Cs t fr =>
   refine ⟨Cs, t, fr, rfl, ?_⟩
   have hj : ∀ j, j < n -> Cs[a.off + i * n + j]? = cs[j]? := fun j hj => by
    have := h j hj
    rw [e] at this
    unfold World.cell? at this
    rw [hc] at this
    simpa [Nat.add_assoc] using this
   have h5 := hj (n - 1) (by omega)
   rw [List.getElem?_eq_getElem (show n - 1 < cs.length by omega)] at h5
   have hz := (Array.getElem?_eq_some_iff.1 h5).1
   apply Array.ext_getElem?
   intro j
   by_cases hlt : j < n
   ·rw [Array.getElem?_extract, if_pos (by omega), hj j hlt]; simp
   ·rw [Array.getElem?_eq_none (by simp; omega), Array.getElem?_eq_none (by simp; omega)]
  | _ => rw [hc, List.getElem?_eq_getElem (show 0 < cs.length by omega)] at h0; cases h0
section
variable {H : Type} {enc : TypeId × Value -> H} {w : World} {base b0 : Nat} {sp : Nat -> Bool} {held : Bool} {r : Reach} {v : Value} {d : DataW H} {p : List MemPlace}
theorem open_sl {α : Type} {L T : TypeId} {n : Nat} (hu : Try.prog.underlying L = some (.slice T)) (hcT : Try.prog.cellsOf T = n) (hn : 0 < n) {Q : α -> Array Value -> Prop} {fuel : Nat} {cs : List Value} {x : DataW H × List MemPlace} (h : DataW.trod enc Try.prog w base sp held fuel L cs = some x)
  (sub : ∀ (m : Nat), m < fuel -> ∀ cs x, DataW.trod enc Try.prog w base sp held m T cs = some x -> ∃ t, Q t cs.toArray) :
  ∃ (A : Option Addr) (len cap : Nat) (args : List α) (rows : Nat -> Array Value), cs = [.slice A len cap] /\ args.length = len /\ len <= cap /\ cap <= maxLen /\ ∀ i t, args[i]? = some t -> (∃ b off Cs t fr, A = some ⟨b, off, none⟩ /\ base <= b /\ w.heap[b]? = some (.cells Cs t fr) /\ Cs.extract (off + i * n) (off + i * n + n) = rows i) /\ Q t (rows i) := by
 rcases DataW.trod_slice hu h with ⟨rfl, _⟩ | ⟨a, len, cap, elems, rest, k, hk, rfl, _, hb, hl, hm, hle, hall, _, _⟩
 ·exact ⟨none, 0, 0, [], fun _ => #[], rfl, rfl, Nat.le_refl _, Nat.zero_le _, fun i t hi => by simp at hi⟩
 ·have each : ∀ i, i < len -> ∃ q : α × Array Value, (∃ b off Cs t fr, (some a : Option Addr) = some ⟨b, off, none⟩ /\ base <= b /\ w.heap[b]? = some (.cells Cs t fr) /\ Cs.extract (off + i * n) (off + i * n + n) = q.2) /\ Q q.1 q.2 := fun i hi => by
   have hi2 := hall i hi
   rw [List.getElem?_eq_getElem (by omega), Option.bind_eq_some_iff] at hi2
   obtain ⟨cs', h1, h2⟩ := hi2
   rw [hcT] at h1
   obtain ⟨_, hlen, hcell⟩ := World.cells?_some h1
   obtain ⟨t, ht⟩ := sub k (by omega) _ _ h2
   have hs : a.spot = none := by
    have k0 := hall 0 (by omega)
    rw [List.getElem?_eq_getElem (by omega), Option.bind_eq_some_iff] at k0
    obtain ⟨cs0, k1, _⟩ := k0
    rw [hcT] at k1
    obtain ⟨_, hlen0, hcell0⟩ := World.cells?_some k1
    have z0 := hcell0 0 hn
    rw [List.getElem?_eq_getElem (show 0 < cs0.length by omega)] at z0
    unfold World.cell? at z0
    simp [Addr.add] at z0
    split at z0
    ·split at z0
     ·cases z0
     ·rename_i h; simpa using h
    ·cases z0
   obtain ⟨Cs, t', fr, q1, q2⟩ := n_row (w := w) (a := a) (i := i) hn hlen (fun j hj => by rw [<- hcell j hj, Addr.add_add]) hs
   refine ⟨(t, cs'.toArray), ⟨a.block, a.off, Cs, t', fr, ?_, hb, q1, q2⟩, ht⟩
   obtain ⟨b, off, s⟩ := a
   simp at hs; simp [hs]
  obtain ⟨l, hln, hall2⟩ := choose_list len each
  refine ⟨some a, len, cap, l.map (·.1), fun i => ((l[i]?).map (·.2)).getD #[], rfl, by simp [hln], hl, hm, fun i t hi => ?_⟩
  simp at hi
  obtain ⟨q, hq⟩ := hi
  simp only [hq, Option.map_some, Option.getD_some]; exact hall2 i _ hq
end
open Go.ChangeShapes Go.WideShapes Go.ChangeAt Go.RowKit
theorem sumN_memb {α : Type} {f : α -> Nat} {l : List α} {x : α} (h : x ∈ l) : f x <= sumN (l.map f) := by
 induction l with
 | nil => cases h
 | cons a l ih =>
  simp only [List.map_cons, sumN]
  rcases List.mem_cons.1 h with rfl | h
  ·omega
  ·have := ih h; omega
theorem sum_bulk {H α : Type} {f : α -> Nat} {l : List α} {m : List (DataW H × List MemPlace)} (hl : l.length <= m.length) (h : ∀ (i : Nat) (a : α) (y : DataW H × List MemPlace), l[i]? = some a -> m[i]? = some y -> f a <= Rows.uptoBulk y.1) : sumN (l.map f) <= Rows.uptoBulkAll (m.map (·.1)) := by
 induction l generalizing m with
 | nil => exact Nat.zero_le _
 | cons a l ih =>
  cases m with
  | nil => simp at hl
  | cons y m =>
   have h0 := h 0 a y rfl rfl
   have h1 := ih (m := m) (by simpa using hl) (fun i a y h2 h3 => h (i + 1) a y (by simpa using h2) (by simpa using h3))
   simp only [List.map_cons, sumN, Rows.uptoBulkAll]; omega
section
variable {H : Type} {enc : TypeId × Value -> H} {w : World} {base b0 : Nat} {sp : Nat -> Bool} {held : Bool} {r : Reach} {v : Value} {d : DataW H} {p : List MemPlace}
theorem open_slW {α : Type} {L T : TypeId} {n : Nat} (hu : Try.prog.underlying L = some (.slice T)) (hcT : Try.prog.cellsOf T = n) (hn : 0 < n) {Q : α -> Array Value -> Prop} {fuel : Nat} {cs : List Value} {x : DataW H × List MemPlace} (h : DataW.trod enc Try.prog w base sp held fuel L cs = some x)
  (f : α -> Nat) (sub : ∀ (m : Nat), m < fuel -> ∀ cs x, DataW.trod enc Try.prog w base sp held m T cs = some x -> ∃ t, Q t cs.toArray /\ f t <= Rows.uptoBulk x.1) :
  ∃ (A : Option Addr) (len cap : Nat) (args : List α) (rows : Nat -> Array Value), cs = [.slice A len cap] /\ args.length = len /\ len <= cap /\ cap <= maxLen /\ (∀ i t, args[i]? = some t -> (∃ b off Cs t fr, A = some ⟨b, off, none⟩ /\ base <= b /\ w.heap[b]? = some (.cells Cs t fr) /\ Cs.extract (off + i * n) (off + i * n + n) = rows i) /\ Q t (rows i)) /\ sumN (args.map f) <= Rows.uptoBulk x.1 := by
 rcases DataW.trod_slice hu h with ⟨rfl, _⟩ | ⟨a, len, cap, elems, rest, k, hk, rfl, hx, hb, hl, hm, hle, hall, _, _⟩
 ·exact ⟨none, 0, 0, [], fun _ => #[], rfl, rfl, Nat.le_refl _, Nat.zero_le _, fun i t hi => (by simp at hi), Nat.zero_le _⟩
 ·have each : ∀ i, i < len -> ∃ q : α × Array Value, (∃ b off Cs t fr, (some a : Option Addr) = some ⟨b, off, none⟩ /\ base <= b /\ w.heap[b]? = some (.cells Cs t fr) /\ Cs.extract (off + i * n) (off + i * n + n) = q.2) /\ Q q.1 q.2 /\ ∃ y, elems[i]? = some y /\ f q.1 <= Rows.uptoBulk y.1 := fun i hi => by
   have hi2 := hall i hi
   rw [List.getElem?_eq_getElem (by omega), Option.bind_eq_some_iff] at hi2
   obtain ⟨cs', h1, h2⟩ := hi2
   rw [hcT] at h1
   obtain ⟨_, hlen, hcell⟩ := World.cells?_some h1
   obtain ⟨t, ht, hft⟩ := sub k (by omega) _ _ h2
   have hs : a.spot = none := by
    have k0 := hall 0 (by omega)
    rw [List.getElem?_eq_getElem (by omega), Option.bind_eq_some_iff] at k0
    obtain ⟨cs0, k1, _⟩ := k0
    rw [hcT] at k1
    obtain ⟨_, hlen0, hcell0⟩ := World.cells?_some k1
    have z0 := hcell0 0 hn
    rw [List.getElem?_eq_getElem (show 0 < cs0.length by omega)] at z0
    unfold World.cell? at z0
    simp [Addr.add] at z0
    split at z0
    ·split at z0
     ·cases z0
     ·rename_i h; simpa using h
    ·cases z0
   obtain ⟨Cs, t', fr, q1, q2⟩ := n_row (w := w) (a := a) (i := i) hn hlen (fun j hj => by rw [<- hcell j hj, Addr.add_add]) hs
   refine ⟨(t, cs'.toArray), ⟨a.block, a.off, Cs, t', fr, ?_, hb, q1, q2⟩, ht, _, List.getElem?_eq_getElem (by omega), hft⟩
   obtain ⟨b, off, s⟩ := a
   simp at hs; simp [hs]
  obtain ⟨l, hln, hall2⟩ := choose_list len each
  refine ⟨some a, len, cap, l.map (·.1), fun i => ((l[i]?).map (·.2)).getD #[], rfl, by simp [hln], hl, hm, fun i t hi => ?_, ?_⟩
  rotate_left
  ·rw [hx]
   have hs : sumN (l.map fun q => f q.1) <= Rows.uptoBulkAll (elems.map (·.1)) := sum_bulk (by omega) (fun i q y hq hy => by
    obtain ⟨-, -, y', e1, e2⟩ := hall2 i q hq
    rw [hy] at e1; cases e1; exact e2)
   simp only [Rows.uptoBulk, List.map_map, Function.comp_def]
   omega
  simp at hi
  obtain ⟨q, hq⟩ := hi
  simp only [hq, Option.map_some, Option.getD_some]; exact ⟨(hall2 i _ hq).1, (hall2 i _ hq).2.1⟩
theorem u22s : Try.prog.underlying 22 = some (.slice 9) := by kernel_rfl
theorem open_ss (hv : Value.okWide Try.prog w r b0 22 v) (h : DataW.Trod enc Try.prog w base sp held 22 v d p) : ∃ A l c ns, v = .slice A l c /\ SsAt w ns A l := by
 obtain ⟨A, l, c, rfl⟩ := okWide_slice u22s hv
 obtain ⟨fuel, hf⟩ := h
 obtain ⟨A', l', c', qs, rows, hcs, h1, h2, h3, h4⟩ := open_sl (n := 1) (Q := fun (q : ByteArray) row => row = #[.string q]) u22s cells9 (by omega) hf (fun m _ cs x hx => by
  obtain ⟨s, rfl, -⟩ := DataW.trod_string u9 hx
  exact ⟨s, rfl⟩)
 simp [Value.cells] at hcs
 obtain ⟨rfl, rfl, rfl⟩ := hcs
 refine ⟨_, _, _, qs, rfl, h1, by omega, fun i q hi => ?_⟩
 obtain ⟨⟨b, off, Cs, t, fr, g1, g2, g3, g4⟩, g5⟩ := h4 i q hi
 refine ⟨b, off, g1, ?_⟩
 rw [cell_of_row _ _ _ _ _ _ g3]
 rw [g5] at g4
 have := congrArg (fun a => a[0]?) g4
 rw [Nat.mul_one] at this
 simp only [Array.getElem?_extract] at this
 simp at this
 exact this.2
end
end Go.Proofs.Ytpamocglecangaa
