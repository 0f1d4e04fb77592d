/- A script played, by the program: the walk. -/
import Derived.Test.YtbhdgeoljlhmcaaS34
import Derived.Outline
namespace Go.Proofs.Ytbhdgeoljlhmcaa
open Go.RowKit Go.Proofs.Ytbhdgeoljlhmcaa.Nm Go.Proofs.Ytbhdgeoljlhmcaa.St
set_option linter.unusedSimpArgs false
def noOp : OpV := ⟨0, 0, 0, 0, 0, ⟨#[]⟩⟩
theorem ex_alloc39 {o : Oper} (ho : o.op = .alloc 39) (ev : Operand → Value) (w : World) : (execOp ev o).run Try.prog w = .ok (.value (.pointer (some ⟨w.heap.size, 0, none⟩))) (w.alloc (.cells noOp.cells 39)) := by
  unfold execOp
  simp only [ho]
  kernel_rfl
theorem op_one (o : OpV) : o.cells.all (·.oneCell') = true := by simp [OpV.cells, Value.oneCell']
/-- the blocks of a store are new since a world -/
def Since (B s : Nat) (rs : List Row) : Prop := ∀ q, Foot s rs q → B ≤ q
theorem Since.ran {B s : Nat} {rs rs' : List Row} {w w' : World} (h : Since B s rs) (hr : Ran s rs w rs' w') (hB : B ≤ w.heap.size) : Since B s rs' := fun q hq => (hr.foot q hq).elim (h q) (fun e => by omega)
theorem Ran.toBelow {B s : Nat} {rs rs' : List Row} {w w' : World} (hr : Ran s rs w rs' w') (h : Since B s rs) (hB : B ≤ w.heap.size) : Below B w w' :=
  ⟨hr.os, hr.tape, hr.output, hr.size, fun k hk => hr.block k (by omega) (fun hf => by have := h k hf; omega)⟩
theorem stA_step {l : List OpV} {j : Nat} {o : OpV} (h : l[j]? = some o) (hj : j < 200) : stA l (j + 1) = doA (stA l j) o ∧ errA l j = refA (stA l j) o := by
  constructor
  · show (match l[j]? with | none => stA l j | some o => if j < 200 then doA (stA l j) o else stA l j) = _
    rw [h]; simp only [if_pos hj]
  · unfold errA; rw [h]; simp only [if_pos hj]
theorem stA_stop {l : List OpV} {j : Nat} {o : OpV} (h : l[j]? = some o) (hj : ¬ j < 200) : stA l (j + 1) = stA l j ∧ errA l j = 2 := by
  constructor
  · show (match l[j]? with | none => stA l j | some o => if j < 200 then doA (stA l j) o else stA l j) = _
    rw [h]; simp only [if_neg hj]
  · unfold errA; rw [h]; simp only [if_neg hj]
theorem errs_snoc (l : List OpV) (j : Nat) : (List.range (j + 1)).map (errA l) = (List.range j).map (errA l) ++ [errA l j] := by rw [List.range_succ]; simp
set_option maxHeartbeats 4000000 in
set_option maxRecDepth 100000 in
theorem Play_any (A : Option Addr) (n c : Nat) (l : List OpV) (hn : n ≤ 1000) (w : World) (h : OpsAt w A n l) :
    Calls Try.prog 14 #[.slice A n c] w fun e w' => ∃ iv ev, e = .returned (.tuple #[iv, ev]) ∧ ItemsAt w' w.heap.size iv ((List.range 8).map fun (i : Nat) => (stA l n).buf (i : Int)) ∧ w'.ownsRow w.heap.size 33 1 ev n (ints ((List.range n).map (errA l))) ∧ Below w.heap.size w w' := by
  have HO := Lib.hid h
  clear h
  go_enter Try.func14, Try.ntmps14
  go_upto_region 1 with (fail)
  apply wp_region_lit
  refine wl_ck rfl (fun K hK => ?_); go_simp; refine ⟨_, _, ⟨rfl, rfl⟩, hK _ _ ⟨_, New_any _, ?_⟩⟩; clear hK K; rintro e w1 ⟨rfl, hst, hb1⟩; refine ⟨_, rfl, ?_⟩; simp only [put_lit, List.set_cons_zero, List.set_cons_succ]
  have HS := Lib.hid hst
  have hsin : Since w.heap.size w.heap.size [] := fun q hq => by
    rcases hq with rfl | ⟨k, r, hr, _⟩
    · exact Nat.le_refl _
    · simp at hr
  obtain ⟨s, hs⟩ : ∃ s, s = w.heap.size := ⟨_, rfl⟩
  rw [← hs] at HS ⊢
  rw [show Since w.heap.size w.heap.size [] = Since w.heap.size s [] by rw [hs]] at hsin
  clear hst hs
  go_wp2_with fail
  have hpre : Hid (w1.ownsRow w.heap.size 33 1 (.slice none 0 0) 0 (ints ((List.range 0).map (errA l)))) := Lib.hid (own_nil _ _ _ _)
  have hcp : Hid (Clear s [] (.slice none 0 0)) := Lib.hid (fun q hq => by simp [Value.ownBlock] at hq)
  have HSI := Lib.hid hsin
  clear hsin
  go_loopw [5, 16] (fun ev i wr => ∃ (j : Nat) (rs : List Row), j ≤ n ∧ i = .int .i64 (j : Int) ∧ Hid (wr.ownsRow w.heap.size 33 1 ev j (ints ((List.range j).map (errA l)))) ∧ Hid (Clear s rs ev) ∧ Hid (StoreAt wr s (stA l j) rs) ∧ Hid (Since w.heap.size s rs) ∧ Below w.heap.size w wr) (fun _ i _ => n - (intOf i).toNat)
  case atStart => exact ⟨0, [], by omega, rfl, hpre, hcp, HS, HSI, hb1⟩
  case round =>
    clear hpre hcp HS HSI hb1
    obtain ⟨j, rs, hj, rfl, HE, HCL, HS, HSI, hbw⟩ := hrel
    by_cases hlt : j < n
    · have hltI : (j : Int) < (n : Int) := by omega
      obtain ⟨b, off, rfl⟩ := HO.out.addr hlt
      obtain ⟨o, ho⟩ : ∃ o, l[j]? = some o := ⟨_, List.getElem?_eq_getElem (by rw [HO.out.1]; exact hlt)⟩
      have HOJ := Lib.hid ho
      have HRO := Lib.hid ((HO.out.below hbw).row ho)
      clear ho
      go_upto_region 5 with (fail)
      apply wp_region_lit
      refine wl_k rfl (fun K hK => ?_); go_simp; refine hK _ ?_; clear hK K
      refine wl_k rfl (fun K hK => ?_); go_simp; refine hK _ ?_; clear hK K
      ((with_reducible apply wl_rowG); exact rfl; exact rfl; exact HRO.out)
      simp only [put_lit, List.set_cons_zero, List.set_cons_succ]
      refine wl_new (fun ev w => ex_alloc39 rfl ev w) ?_
      intro W5 p5 hb5 hl5 h5
      refine wl_k rfl (fun K hK => ?_); go_simp; refine hK _ ?_; clear hK K
      refine wl_putG p5 o.cells rfl rfl 39 _ h5 info39 rfl (op_one _) ?_
      rw [put_noneA]
      have hbb := below_setRow hb5 (g := p5) hl5 o.cells
      replace HE := Lib.hid (own_below HE.out hbb)
      replace HS := Lib.hid (HS.out.below hbb)
      replace hbw := hbw.trans (hbb.mono hbw.size)
      have h5' := hr_new (cs := o.cells) h5
      clear hb5 h5 hbb HRO hl5
      generalize W5.setRow p5 o.cells = w6 at *
      by_cases h200 : (j : Int) < 200
      · have hd : decide ((j : Int) < 200) = true := by simpa using h200
        have HST := Lib.hid (stA_step HOJ.out (show j < 200 by omega))
        have hbd := stA_bound l j
        go_upto_region 8 with (fail)
        apply wp_region_lit
        refine wl_k rfl (fun K hK => ?_); go_simp; refine hK _ ?_; clear hK K
        ((with_reducible apply wl_rowG); exact rfl; exact rfl; exact rowO h5')
        simp only [put_lit, List.set_cons_zero, List.set_cons_succ]
        have hz6 := hbw.size
        have hE6 := own_lt HE.out
        refine wl_ck rfl (fun K hK => ?_); go_simp; refine ⟨_, _, ⟨rfl, rfl⟩, hK _ _ ⟨_, Do_any s (stA l j) rs (stA_good l j) (by omega) hbd.2.1 (by omega) o _ HS.out, ?_⟩⟩; clear hK K; rintro e w7 ⟨rfl, rs2, hst2, hran⟩; refine ⟨_, rfl, ?_⟩; simp only [put_lit, List.set_cons_zero, List.set_cons_succ]
        rw [← HST.out.2]
        rw [← HST.out.1] at hst2
        replace HS := Lib.hid hst2
        replace hbw := hbw.trans (hran.toBelow HSI.out hbw.size)
        have HSI2 := Lib.hid (HSI.out.ran hran hz6)
        replace HE := Lib.hid (own_ran HE.out HCL.out hran)
        replace HCL := Lib.hid (HCL.out.ran hE6 hran)
        clear hst2 hran h5' HST hbd hz6 hE6
        refine wl_k rfl (fun K hK => ?_); go_simp; refine hK _ ?_; clear hK K
        go_upto_region 9 with (fail)
        apply wp_region_lit
        refine wl_k rfl (fun K hK => ?_); go_simp; refine hK _ ?_; clear hK K
        refine wl_k rfl (fun K hK => ?_); go_simp; refine hK _ ?_; clear hK K
        obtain ⟨v', w', hr, hown, hgr, hloc⟩ := run_push25 (errA l j) 25 HE.out hbw.size (show j ≤ 1000000 by omega)
        refine wl_w rfl (ex_bs25_1 _ rfl rfl) ?_
        simp only [put_lit, List.set_cons_zero, List.set_cons_succ]
        refine wl_w rfl (ex_app _ _ rfl rfl rfl hr) ?_
        simp only [put_lit, List.set_cons_zero, List.set_cons_succ]
        have hal := (Below.refl w7.heap.size w7).alloc (Nat.le_refl _) (.cells #[.int .i64 (errA l j)] 33)
        have hsame : ∀ q, q < w7.heap.size → Foot s rs2 q → w'.heap[q]? = w7.heap[q]? := fun q hq hf => by
          rw [hgr.block q (Nat.lt_of_lt_of_le hq hal.size) (fun e => HCL.out q e.symm hf), hal.block q hq]
        have HS' := Lib.hid (HS.out.same hsame)
        have hcl' : Clear s rs2 v' := fun q hq hf => by
          rcases hloc with e | e
          · rw [e] at hq; exact HCL.out q hq hf
          · rw [e] at hq; cases hq; have := HS.out.lt hf; omega
        have hbw' := hbw.trans ((hal.mono hbw.size).grown hgr (by have := hal.size; have := hbw.size; omega) (fun q hq => (own_block HE.out hq).1))
        have HE' := Lib.hid hown
        have HCL' := Lib.hid hcl'
        clear hr hown hgr hloc hal hsame HE HCL HS hcl' hbw
        go_wp2_with fail
        go_roundw
        case rel => exact ⟨j + 1, rs2, by omega, by go_num, by rw [errs_snoc]; exact HE', HCL', HS', HSI2, hbw'⟩
        case measure => simp [intOf]; omega
      · have hd : decide ((j : Int) < 200) = false := by simpa using h200
        have HST := Lib.hid (stA_stop HOJ.out (show ¬ j < 200 by omega))
        rw [← HST.out.1] at HS
        clear h5'
        go_upto_region 9 with (fail)
        apply wp_region_lit
        refine wl_k rfl (fun K hK => ?_); go_simp; refine hK _ ?_; clear hK K
        refine wl_k rfl (fun K hK => ?_); go_simp; refine hK _ ?_; clear hK K
        obtain ⟨v', w', hr, hown, hgr, hloc⟩ := run_push25 2 25 HE.out hbw.size (show j ≤ 1000000 by omega)
        refine wl_w rfl (ex_bs25_1 _ rfl rfl) ?_
        simp only [put_lit, List.set_cons_zero, List.set_cons_succ]
        refine wl_w rfl (ex_app _ _ rfl rfl rfl hr) ?_
        simp only [put_lit, List.set_cons_zero, List.set_cons_succ]
        have hal := (Below.refl w6.heap.size w6).alloc (Nat.le_refl _) (.cells #[.int .i64 2] 33)
        have hsame : ∀ q, q < w6.heap.size → Foot s rs q → w'.heap[q]? = w6.heap[q]? := fun q hq hf => by
          rw [hgr.block q (Nat.lt_of_lt_of_le hq hal.size) (fun e => HCL.out q e.symm hf), hal.block q hq]
        have HS' := Lib.hid (HS.out.same hsame)
        have hcl' : Clear s rs v' := fun q hq hf => by
          rcases hloc with e | e
          · rw [e] at hq; exact HCL.out q hq hf
          · rw [e] at hq; cases hq; have := HS.out.lt hf; omega
        have hbw' := hbw.trans ((hal.mono hbw.size).grown hgr (by have := hal.size; have := hbw.size; omega) (fun q hq => (own_block HE.out hq).1))
        have HE' := Lib.hid hown
        have HCL' := Lib.hid hcl'
        clear hr hown hgr hloc hal hsame HE HCL HS hcl' hbw
        go_wp2_with fail
        go_roundw
        case rel => exact ⟨j + 1, rs, by omega, by go_num, by rw [errs_snoc, HST.out.2]; exact HE', HCL', HS', HSI, hbw'⟩
        case measure => simp [intOf]; omega
    · obtain rfl : j = n := by omega
      have HEF := Lib.hid HE.out
      clear HE HCL HSI
      go_wp2_with fail
      obtain ⟨W0, hW0⟩ : ∃ W0, W0 = wr := ⟨_, rfl⟩
      subst hW0
      have hpre2 := itemsAt_nil W0 W0.heap.size
      go_loopw [9, 31] (fun iv i wr2 => ∃ k : Nat, k ≤ 8 ∧ i = .int .i64 (k : Int) ∧ Hid (ItemsAt wr2 W0.heap.size iv ((List.range k).map fun (i : Nat) => (stA l j).buf (i : Int))) ∧ Hid (Below W0.heap.size W0 wr2)) (fun _ i _ => 8 - (intOf i).toNat)
      case atStart => exact ⟨0, by omega, rfl, Lib.hid hpre2, Lib.hid (Below.refl _ _)⟩
      case round =>
        clear hpre2
        obtain ⟨k, hk, rfl, HI, HB⟩ := hrel
        by_cases hlt2 : k < 8
        · have hk8 : (k : Int) < 8 := by omega
          have HS2 := Lib.hid (HS.out.below HB.out)
          have hzz := hbw.size
          have hzB := HB.out.size
          go_upto_region 15 with (fail)
          apply wp_region_lit
          refine wl_k rfl (fun K hK => ?_); go_simp; refine hK _ ?_; clear hK K
          refine wl_k rfl (fun K hK => ?_); go_simp; refine hK _ ?_; clear hK K
          refine wl_ck rfl (fun K hK => ?_); go_simp; refine ⟨_, _, ⟨rfl, rfl⟩, hK _ _ ⟨_, Item_yes s (stA l j) rs (stA_good l j) k hk8 _ HS2.out, ?_⟩⟩; clear hK K; rintro e w7 ⟨v, rfl, hit, hb1⟩; refine ⟨_, rfl, ?_⟩; simp only [put_lit, List.set_cons_zero, List.set_cons_succ]
          obtain ⟨B1, d1, B2, d2, rfl, ho1, ho2⟩ := hit.shape
          replace HI := Lib.hid (HI.out.below hb1)
          replace HB := Lib.hid (HB.out.trans (hb1.mono HB.out.size))
          have HO1 := Lib.hid ho1
          have HO2 := Lib.hid ho2
          clear hit ho1 ho2 HS2
          refine wl_k rfl (fun K hK => ?_); go_simp; refine hK _ ?_; clear hK K
          refine wl_k rfl (fun K hK => ?_); go_simp; refine hK _ ?_; clear hK K
          refine wl_k rfl (fun K hK => ?_); go_simp; refine hK _ ?_; clear hK K
          refine wl_new (fun ev w => ex_alloc32 rfl ev w) ?_
          intro W5 p5 hb5 hl5 h5
          refine wl_putG p5 (icells ((stA l j).buf (k : Int)).kd (.slice B1 ((stA l j).buf (k : Int)).l.length d1) ((stA l j).buf (k : Int)).seed (.slice B2 (pairsT ((stA l j).buf (k : Int)).t).length d2)) rfl rfl 32 _ h5 info32 rfl (icells_one _ _ _ _ _ _ _ _) ?_
          rw [put_noneA]
          have hbb := below_setRow hb5 (g := p5) hl5 (icells ((stA l j).buf (k : Int)).kd (.slice B1 ((stA l j).buf (k : Int)).l.length d1) ((stA l j).buf (k : Int)).seed (.slice B2 (pairsT ((stA l j).buf (k : Int)).t).length d2))
          have hz8 := hb1.size
          replace HI := Lib.hid (HI.out.below hbb)
          replace HB := Lib.hid (HB.out.trans (hbb.mono HB.out.size))
          replace HO1 := Lib.hid (own_weak (own_below HO1.out hbb) hzB)
          replace HO2 := Lib.hid (own_weak (own_below HO2.out hbb) hzB)
          have h5' := hr_new (cs := icells ((stA l j).buf (k : Int)).kd (.slice B1 ((stA l j).buf (k : Int)).l.length d1) ((stA l j).buf (k : Int)).seed (.slice B2 (pairsT ((stA l j).buf (k : Int)).t).length d2)) h5
          clear hb5 h5 hbb hl5 hb1
          generalize W5.setRow p5 (icells ((stA l j).buf (k : Int)).kd (.slice B1 ((stA l j).buf (k : Int)).l.length d1) ((stA l j).buf (k : Int)).seed (.slice B2 (pairsT ((stA l j).buf (k : Int)).t).length d2)) = w8 at *
          refine wl_k rfl (fun K hK => ?_); go_simp; refine hK _ ?_; clear hK K
          go_upto_region 16 with (fail)
          apply wp_region_lit
          refine wl_k rfl (fun K hK => ?_); go_simp; refine hK _ ?_; clear hK K
          ((with_reducible apply wl_rowG); exact rfl; exact rfl; exact rowIt h5')
          simp only [put_lit, List.set_cons_zero, List.set_cons_succ]
          obtain ⟨v', w', hr, hits, hbI⟩ := run_push24 24 HI.out HB.out.size (by simp; omega) HO1.out HO2.out
          refine wl_w rfl (ex_bs24_1 _ rfl rfl) ?_
          simp only [put_lit, List.set_cons_zero, List.set_cons_succ]
          refine wl_w rfl (ex_app _ _ rfl rfl rfl hr) ?_
          simp only [put_lit, List.set_cons_zero, List.set_cons_succ]
          have hsn : (List.range (k + 1)).map (fun (i : Nat) => (stA l j).buf (i : Int)) = (List.range k).map (fun (i : Nat) => (stA l j).buf (i : Int)) ++ [(stA l j).buf (k : Int)] := by rw [List.range_succ]; simp
          rw [← hsn] at hits
          have HITS := Lib.hid hits
          have HBN := Lib.hid (HB.out.trans hbI)
          clear hr hits hsn h5' HO1 HO2 HI hbI HB hzz hzB hz8
          go_wp2_with fail
          go_roundw
          case rel => exact ⟨k + 1, by omega, by go_num, HITS, HBN⟩
          case measure => simp [intOf]; omega
        · obtain rfl : k = 8 := by omega
          have HEF2 := Lib.hid (own_below HEF.out HB.out)
          have HBF := Lib.hid (hbw.trans (HB.out.mono hbw.size))
          have HIF := Lib.hid (HI.out.weak hbw.size)
          clear HI HB HEF HS hbw
          go_wp2_with fail
          go_ret2
          exact ⟨_, _, rfl, HIF.out, HEF2.out, HBF.out⟩
end Go.Proofs.Ytbhdgeoljlhmcaa
