/- One call played on a heap. -/
import Derived.Test.YtpamocglecangaaPB15
import Derived.Test.YtpamocglecangaaPB21
import Derived.Test.YtpamocglecangaaPB22
namespace Go.Proofs.Ytpamocglecangaa
open Go.RowKit Go.Proofs.Ytpamocglecangaa.Nm
set_option linter.unusedSimpArgs false
theorem ClAt.old {w w' : World} {D : Nat → Prop} {q : Cl} {row rv rx tr : Array Value} {A : Option Addr} {l c : Nat} (h : ClAt w D q row rv rx tr A l c) (hb : Below w.heap.size w w') : ClAt w' D q row rv rx tr A l c := h.mono (fun _ h => h) fun b _ hl => hb.block b hl
def StepDone (w : World) (G : Gh) (k p : Nat) (h' : Hp) (e : Ending) (w' : World) : Prop := e = .returned (.tuple #[]) ∧ ∃ G', Done w G k p h' w' G'
set_option maxHeartbeats 16000000 in
set_option maxRecDepth 100000 in
theorem step_any {G : Gh} {k p : Nat} {h : Hp} {w : World} (hh : HeapAt w G k p h) (hf : Fr w G) (hw : Wf h) {i S : Nat} (hi : Inv i S h) (hi6 : i ≤ 60) (hS : S ≤ 2000000) {q : Cl} {row rv rx tr : Array Value} {A : Option Addr} {l c : Nat} (hcl : ClAt w (Imm G) q row rv rx tr A l c) (hok : ClOk S q) :
    Calls Try.prog 12 #[.pointer (some ⟨p, 0, none⟩), .agg row] w (StepDone w G k p (stepP h q)) := by
  have HX := Lib.hid hh
  have HF := Lib.hid hf
  have HW := Lib.hid hw
  have HI := Lib.hid hi
  have HK := Lib.hid hok
  have HCL := Lib.hid hcl
  have hb := Below.refl w.heap.size w
  have hob := hi.obs
  have hbu := hi.bus
  have hlv := hi.lev
  clear hh hf hw hi hok hcl
  go_enter Try.func12, Try.ntmps12
  go_upto_region 0 with (fail)
  apply wp_region_lit
  refine wl_newv (fun q => .pointer (some ⟨q, 0, none⟩)) rfl (ex_box37 _ rfl rfl) ?_
  intro W p1 hbn hlp hq
  simp only [put_lit, List.set_cons_zero, List.set_cons_succ]
  replace hb := hb.trans hbn
  clear hbn
  have HDn := Lib.hid (Done.calm HX.out HF.out hb)
  replace HCL := Lib.hid (HCL.out.old hb)
  clear HX HF hb
  go_upto_region 1 with (fail)
  apply wp_region_lit
  (with_reducible refine wl_k ?_ ?_); exact rfl; intro K hK; go_simp; refine hK _ ?_; clear hK K
  ((with_reducible apply wl_oneG); exact rfl; exact rfl; exact cl_k hq HCL)
  by_cases c0 : q.k = 0
  · have e0 : (q.k == 0) = true := by simp [c0]
    have HD : Hid (stepP h q = (makeP h q.t q.l).1) := Lib.hid (by unfold stepP; rw [if_pos c0])
    have hc := Make_any HDn.out.heap HDn.out.fr (by omega) HCL.out.t HCL.out.l (by have := HCL.out.l.len; have := HK.out.1; omega)
    have HC := Lib.hid hc
    clear hc
    go_upto_region 3 with (fail)
    apply wp_region_lit
    (with_reducible refine wl_k ?_ ?_); exact rfl; intro K hK; go_simp; refine hK _ ?_; clear hK K
    (with_reducible refine wl_k ?_ ?_); exact rfl; intro K hK; go_simp; refine hK _ ?_; clear hK K
    ((with_reducible apply wl_rowG); exact rfl; exact rfl; exact cl_t hq HCL)
    (with_reducible refine wl_k ?_ ?_); exact rfl; intro K hK; go_simp; refine hK _ ?_; clear hK K
    ((with_reducible apply wl_oneG); exact rfl; exact rfl; exact cl_l hq HCL)
    (with_reducible refine wl_ck ?_ ?_); exact rfl; intro K hK; go_simp; refine ⟨_, _, ⟨rfl, rfl⟩, hK _ _ ⟨_, HC.out, ?_⟩⟩; clear hK K; rintro e w7 ⟨G7, row7, rfl, -, d7⟩; refine ⟨_, rfl, ?_⟩; simp only [put_lit, List.set_cons_zero, List.set_cons_succ]
    go_wp2_with fail
    go_end0
    rw [HD.out]
    exact ⟨rfl, _, HDn.out.trans d7⟩
  have e0 : (q.k == 0) = false := by simp [c0]
  by_cases c1 : q.k = 1
  · have e1 : (q.k == 1) = true := by simp [c1]
    have HD : Hid (stepP h q = (arrayP h q.t q.l).1) := Lib.hid (by unfold stepP; rw [if_neg c0, if_pos c1])
    have hc := Array_any HDn.out.heap HDn.out.fr (by omega) HCL.out.t HCL.out.l (by have := HCL.out.l.len; have := HK.out.1; omega)
    have HC := Lib.hid hc
    clear hc
    go_upto_region 5 with (fail)
    apply wp_region_lit
    (with_reducible refine wl_k ?_ ?_); exact rfl; intro K hK; go_simp; refine hK _ ?_; clear hK K
    (with_reducible refine wl_k ?_ ?_); exact rfl; intro K hK; go_simp; refine hK _ ?_; clear hK K
    ((with_reducible apply wl_rowG); exact rfl; exact rfl; exact cl_t hq HCL)
    (with_reducible refine wl_k ?_ ?_); exact rfl; intro K hK; go_simp; refine hK _ ?_; clear hK K
    ((with_reducible apply wl_oneG); exact rfl; exact rfl; exact cl_l hq HCL)
    (with_reducible refine wl_ck ?_ ?_); exact rfl; intro K hK; go_simp; refine ⟨_, _, ⟨rfl, rfl⟩, hK _ _ ⟨_, HC.out, ?_⟩⟩; clear hK K; rintro e w7 ⟨G7, row7, rfl, -, d7⟩; refine ⟨_, rfl, ?_⟩; simp only [put_lit, List.set_cons_zero, List.set_cons_succ]
    go_wp2_with fail
    go_end0
    rw [HD.out]
    exact ⟨rfl, _, HDn.out.trans d7⟩
  have e1 : (q.k == 1) = false := by simp [c1]
  by_cases c2 : q.k = 2
  · have e2 : (q.k == 2) = true := by simp [c2]
    have HD : Hid (stepP h q = (copyP h q.v).1) := Lib.hid (by unfold stepP; rw [if_neg c0, if_neg c1, if_pos c2])
    have hc := Copy_any HDn.out.heap HDn.out.fr HCL.out.v
    have HC := Lib.hid hc
    clear hc
    go_upto_region 7 with (fail)
    apply wp_region_lit
    (with_reducible refine wl_k ?_ ?_); exact rfl; intro K hK; go_simp; refine hK _ ?_; clear hK K
    (with_reducible refine wl_k ?_ ?_); exact rfl; intro K hK; go_simp; refine hK _ ?_; clear hK K
    ((with_reducible apply wl_rowG); exact rfl; exact rfl; exact cl_v hq HCL)
    (with_reducible refine wl_ck ?_ ?_); exact rfl; intro K hK; go_simp; refine ⟨_, _, ⟨rfl, rfl⟩, hK _ _ ⟨_, HC.out, ?_⟩⟩; clear hK K; rintro e w7 ⟨G7, row7, rfl, -, d7⟩; refine ⟨_, rfl, ?_⟩; simp only [put_lit, List.set_cons_zero, List.set_cons_succ]
    go_wp2_with fail
    go_end0
    rw [HD.out]
    exact ⟨rfl, _, HDn.out.trans d7⟩
  have e2 : (q.k == 2) = false := by simp [c2]
  by_cases c3 : q.k = 3
  · have e3 : (q.k == 3) = true := by simp [c3]
    have HD : Hid (stepP h q = (endP h q.v).1) := Lib.hid (by unfold stepP; rw [if_neg c0, if_neg c1, if_neg c2, if_pos c3])
    have hc := End_any HDn.out.heap HDn.out.fr (by omega) HCL.out.v
    have HC := Lib.hid hc
    clear hc
    go_upto_region 9 with (fail)
    apply wp_region_lit
    (with_reducible refine wl_k ?_ ?_); exact rfl; intro K hK; go_simp; refine hK _ ?_; clear hK K
    (with_reducible refine wl_k ?_ ?_); exact rfl; intro K hK; go_simp; refine hK _ ?_; clear hK K
    ((with_reducible apply wl_rowG); exact rfl; exact rfl; exact cl_v hq HCL)
    (with_reducible refine wl_ck ?_ ?_); exact rfl; intro K hK; go_simp; refine ⟨_, _, ⟨rfl, rfl⟩, hK _ _ ⟨_, HC.out, ?_⟩⟩; clear hK K; rintro e w7 ⟨G7, rfl, d7⟩; refine ⟨_, rfl, ?_⟩; simp only [put_lit, List.set_cons_zero, List.set_cons_succ]
    go_wp2_with fail
    go_end0
    rw [HD.out]
    exact ⟨rfl, _, HDn.out.trans d7⟩
  have e3 : (q.k == 3) = false := by simp [c3]
  by_cases c4 : q.k = 4
  · have e4 : (q.k == 4) = true := by simp [c4]
    have HD : Hid (stepP h q = (nextP h).1) := Lib.hid (by unfold stepP; rw [if_neg c0, if_neg c1, if_neg c2, if_neg c3, if_pos c4])
    have hc := Next_any HDn.out.heap HDn.out.fr HW.out (fun l hl => Nat.le_trans (HI.out.weight hl) (Nat.le_trans (Nat.mul_le_mul hi6 (Nat.mul_le_mul_left 100 hS)) (by decide))) (fun o ho => Nat.le_trans (HI.out.fld o ho) (by decide))
    have HC := Lib.hid hc
    clear hc
    go_upto_region 11 with (fail)
    apply wp_region_lit
    (with_reducible refine wl_k ?_ ?_); exact rfl; intro K hK; go_simp; refine hK _ ?_; clear hK K
    (with_reducible refine wl_ck ?_ ?_); exact rfl; intro K hK; go_simp; refine ⟨_, _, ⟨rfl, rfl⟩, hK _ _ ⟨_, HC.out, ?_⟩⟩; clear hK K; rintro e w7 ⟨G7, row7, rfl, -, d7⟩; refine ⟨_, rfl, ?_⟩; simp only [put_lit, List.set_cons_zero, List.set_cons_succ]
    go_wp2_with fail
    go_end0
    rw [HD.out]
    exact ⟨rfl, _, HDn.out.trans d7⟩
  have e4 : (q.k == 4) = false := by simp [c4]
  by_cases c6 : q.k = 6
  · have e6 : (q.k == 6) = true := by simp [c6]
    have HD : Hid (stepP h q = (setP h q.a q.b q.v).1) := Lib.hid (by unfold stepP; rw [if_neg c0, if_neg c1, if_neg c2, if_neg c3, if_neg c4, if_pos c6])
    have hc := Set_any HDn.out.heap HDn.out.fr q.a q.b HCL.out.wa HCL.out.wb HCL.out.v
    have HC := Lib.hid hc
    clear hc
    go_upto_region 13 with (fail)
    apply wp_region_lit
    (with_reducible refine wl_k ?_ ?_); exact rfl; intro K hK; go_simp; refine hK _ ?_; clear hK K
    (with_reducible refine wl_k ?_ ?_); exact rfl; intro K hK; go_simp; refine hK _ ?_; clear hK K
    ((with_reducible apply wl_oneG); exact rfl; exact rfl; exact cl_a hq HCL)
    (with_reducible refine wl_k ?_ ?_); exact rfl; intro K hK; go_simp; refine hK _ ?_; clear hK K
    ((with_reducible apply wl_oneG); exact rfl; exact rfl; exact cl_b hq HCL)
    (with_reducible refine wl_k ?_ ?_); exact rfl; intro K hK; go_simp; refine hK _ ?_; clear hK K
    ((with_reducible apply wl_rowG); exact rfl; exact rfl; exact cl_v hq HCL)
    (with_reducible refine wl_ck ?_ ?_); exact rfl; intro K hK; go_simp; refine ⟨_, _, ⟨rfl, rfl⟩, hK _ _ ⟨_, HC.out, ?_⟩⟩; clear hK K; rintro e w7 ⟨G7, row7, rfl, -, d7⟩; refine ⟨_, rfl, ?_⟩; simp only [put_lit, List.set_cons_zero, List.set_cons_succ]
    go_wp2_with fail
    go_end0
    rw [HD.out]
    exact ⟨rfl, _, HDn.out.trans d7⟩
  have e6 : (q.k == 6) = false := by simp [c6]
  by_cases c7 : q.k = 7
  · have e7 : (q.k == 7) = true := by simp [c7]
    have HD : Hid (stepP h q = (weakP h q.v).1) := Lib.hid (by unfold stepP; rw [if_neg c0, if_neg c1, if_neg c2, if_neg c3, if_neg c4, if_neg c6, if_pos c7])
    have hc := Weak_any HDn.out.heap HDn.out.fr HCL.out.v
    have HC := Lib.hid hc
    clear hc
    go_upto_region 15 with (fail)
    apply wp_region_lit
    (with_reducible refine wl_k ?_ ?_); exact rfl; intro K hK; go_simp; refine hK _ ?_; clear hK K
    (with_reducible refine wl_k ?_ ?_); exact rfl; intro K hK; go_simp; refine hK _ ?_; clear hK K
    ((with_reducible apply wl_rowG); exact rfl; exact rfl; exact cl_v hq HCL)
    (with_reducible refine wl_ck ?_ ?_); exact rfl; intro K hK; go_simp; refine ⟨_, _, ⟨rfl, rfl⟩, hK _ _ ⟨_, HC.out, ?_⟩⟩; clear hK K; rintro e w7 ⟨G7, row7, rfl, -, d7⟩; refine ⟨_, rfl, ?_⟩; simp only [put_lit, List.set_cons_zero, List.set_cons_succ]
    go_wp2_with fail
    go_end0
    rw [HD.out]
    exact ⟨rfl, _, HDn.out.trans d7⟩
  have e7 : (q.k == 7) = false := by simp [c7]
  by_cases c8 : q.k = 8
  · have e8 : (q.k == 8) = true := by simp [c8]
    have HD : Hid (stepP h q = (loadP h q.v).1) := Lib.hid (by unfold stepP; rw [if_neg c0, if_neg c1, if_neg c2, if_neg c3, if_neg c4, if_neg c6, if_neg c7, if_pos c8])
    have hc := Load_any HDn.out.heap HDn.out.fr HCL.out.v
    have HC := Lib.hid hc
    clear hc
    go_upto_region 17 with (fail)
    apply wp_region_lit
    (with_reducible refine wl_k ?_ ?_); exact rfl; intro K hK; go_simp; refine hK _ ?_; clear hK K
    (with_reducible refine wl_k ?_ ?_); exact rfl; intro K hK; go_simp; refine hK _ ?_; clear hK K
    ((with_reducible apply wl_rowG); exact rfl; exact rfl; exact cl_v hq HCL)
    (with_reducible refine wl_ck ?_ ?_); exact rfl; intro K hK; go_simp; refine ⟨_, _, ⟨rfl, rfl⟩, hK _ _ ⟨_, HC.out, ?_⟩⟩; clear hK K; rintro e w7 ⟨G7, row7, rfl, -, d7⟩; refine ⟨_, rfl, ?_⟩; simp only [put_lit, List.set_cons_zero, List.set_cons_succ]
    go_wp2_with fail
    go_end0
    rw [HD.out]
    exact ⟨rfl, _, HDn.out.trans d7⟩
  have e8 : (q.k == 8) = false := by simp [c8]
  by_cases c10 : q.k = 10
  · have e10 : (q.k == 10) = true := by simp [c10]
    have HD : Hid (stepP h q = (ownP h q.v).1) := Lib.hid (by unfold stepP; rw [if_neg c0, if_neg c1, if_neg c2, if_neg c3, if_neg c4, if_neg c6, if_neg c7, if_neg c8, if_pos c10])
    have hc := Own_any HDn.out.heap HDn.out.fr (by omega) (fun b hb => ⟨Nat.le_trans (HI.out.elm b hb).1 (by omega), HW.out.elm b hb⟩) HCL.out.v
    have HC := Lib.hid hc
    clear hc
    go_upto_region 19 with (fail)
    apply wp_region_lit
    (with_reducible refine wl_k ?_ ?_); exact rfl; intro K hK; go_simp; refine hK _ ?_; clear hK K
    (with_reducible refine wl_k ?_ ?_); exact rfl; intro K hK; go_simp; refine hK _ ?_; clear hK K
    ((with_reducible apply wl_rowG); exact rfl; exact rfl; exact cl_v hq HCL)
    (with_reducible refine wl_ck ?_ ?_); exact rfl; intro K hK; go_simp; refine ⟨_, _, ⟨rfl, rfl⟩, hK _ _ ⟨_, HC.out, ?_⟩⟩; clear hK K; rintro e w7 ⟨G7, row7, rfl, -, d7⟩; refine ⟨_, rfl, ?_⟩; simp only [put_lit, List.set_cons_zero, List.set_cons_succ]
    go_wp2_with fail
    go_end0
    rw [HD.out]
    exact ⟨rfl, _, HDn.out.trans d7⟩
  have e10 : (q.k == 10) = false := by simp [c10]
  by_cases c11 : q.k = 11
  · have e11 : (q.k == 11) = true := by simp [c11]
    have HD : Hid (stepP h q = (putP h q.v q.a q.x).1) := Lib.hid (by unfold stepP; rw [if_neg c0, if_neg c1, if_neg c2, if_neg c3, if_neg c4, if_neg c6, if_neg c7, if_neg c8, if_neg c10, if_pos c11])
    have hc := Put_any HDn.out.heap HDn.out.fr q.a HCL.out.v HCL.out.x
    have HC := Lib.hid hc
    clear hc
    go_upto_region 21 with (fail)
    apply wp_region_lit
    (with_reducible refine wl_k ?_ ?_); exact rfl; intro K hK; go_simp; refine hK _ ?_; clear hK K
    (with_reducible refine wl_k ?_ ?_); exact rfl; intro K hK; go_simp; refine hK _ ?_; clear hK K
    ((with_reducible apply wl_rowG); exact rfl; exact rfl; exact cl_v hq HCL)
    (with_reducible refine wl_k ?_ ?_); exact rfl; intro K hK; go_simp; refine hK _ ?_; clear hK K
    ((with_reducible apply wl_oneG); exact rfl; exact rfl; exact cl_a hq HCL)
    (with_reducible refine wl_k ?_ ?_); exact rfl; intro K hK; go_simp; refine hK _ ?_; clear hK K
    ((with_reducible apply wl_rowG); exact rfl; exact rfl; exact cl_x hq HCL)
    (with_reducible refine wl_ck ?_ ?_); exact rfl; intro K hK; go_simp; refine ⟨_, _, ⟨rfl, rfl⟩, hK _ _ ⟨_, HC.out, ?_⟩⟩; clear hK K; rintro e w7 ⟨G7, row7, rfl, -, d7⟩; refine ⟨_, rfl, ?_⟩; simp only [put_lit, List.set_cons_zero, List.set_cons_succ]
    go_wp2_with fail
    go_end0
    rw [HD.out]
    exact ⟨rfl, _, HDn.out.trans d7⟩
  have e11 : (q.k == 11) = false := by simp [c11]
  by_cases c12 : q.k = 12
  · have e12 : (q.k == 12) = true := by simp [c12]
    have HD : Hid (stepP h q = (appendP h q.v q.x).1) := Lib.hid (by unfold stepP; rw [if_neg c0, if_neg c1, if_neg c2, if_neg c3, if_neg c4, if_neg c6, if_neg c7, if_neg c8, if_neg c10, if_neg c11, if_pos c12])
    have hc := Append_any HDn.out.heap HDn.out.fr (fun b hb => Nat.le_trans (HI.out.elm b hb).1 (by omega)) HCL.out.v HCL.out.x
    have HC := Lib.hid hc
    clear hc
    go_upto_region 23 with (fail)
    apply wp_region_lit
    (with_reducible refine wl_k ?_ ?_); exact rfl; intro K hK; go_simp; refine hK _ ?_; clear hK K
    (with_reducible refine wl_k ?_ ?_); exact rfl; intro K hK; go_simp; refine hK _ ?_; clear hK K
    ((with_reducible apply wl_rowG); exact rfl; exact rfl; exact cl_v hq HCL)
    (with_reducible refine wl_k ?_ ?_); exact rfl; intro K hK; go_simp; refine hK _ ?_; clear hK K
    ((with_reducible apply wl_rowG); exact rfl; exact rfl; exact cl_x hq HCL)
    (with_reducible refine wl_ck ?_ ?_); exact rfl; intro K hK; go_simp; refine ⟨_, _, ⟨rfl, rfl⟩, hK _ _ ⟨_, HC.out, ?_⟩⟩; clear hK K; rintro e w7 ⟨G7, rfl, d7⟩; refine ⟨_, rfl, ?_⟩; simp only [put_lit, List.set_cons_zero, List.set_cons_succ]
    go_wp2_with fail
    go_end0
    rw [HD.out]
    exact ⟨rfl, _, HDn.out.trans d7⟩
  have e12 : (q.k == 12) = false := by simp [c12]
  have HD : Hid (stepP h q = h) := Lib.hid (by unfold stepP; rw [if_neg c0, if_neg c1, if_neg c2, if_neg c3, if_neg c4, if_neg c6, if_neg c7, if_neg c8, if_neg c10, if_neg c11, if_neg c12])
  go_upto_region 22 with (fail)
  go_wp2_with fail
  go_end0
  rw [HD.out]
  exact ⟨rfl, _, HDn.out⟩
end Go.Proofs.Ytpamocglecangaa
