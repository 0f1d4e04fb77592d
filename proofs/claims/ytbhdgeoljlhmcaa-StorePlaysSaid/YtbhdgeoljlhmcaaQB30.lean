/- The law StorePlays, walked. -/
import Derived.Outline
import Derived.Test.YtbhdgeoljlhmcaaQB26
import Derived.Test.YtbhdgeoljlhmcaaQB28
import Derived.Test.YtbhdgeoljlhmcaaQB13
import Derived.Test.YtbhdgeoljlhmcaaQB29
namespace Go.Proofs.Ytbhdgeoljlhmcaa
open Go.RowKit Go.Proofs.Ytbhdgeoljlhmcaa.Nm Go.Proofs.Ytbhdgeoljlhmcaa.St
set_option linter.unusedSimpArgs false
set_option maxHeartbeats 8000000 in
set_option maxRecDepth 100000 in
theorem StorePlays_any (A : Option Addr) (n c : Nat) (l : List OpV) (w : World) (h : OpsAt w A n l) :
    Calls Try.prog 9 #[.slice A n c] w fun e w' => e = .returned (.bool true) ∧ Below w.heap.size w w' := by
  have HO := Lib.hid h
  clear h
  go_enter Try.func9, Try.ntmps9
  go_upto_region 1 with (fail)
  apply wp_region_lit
  refine wl_k rfl (fun K hK => ?_); go_simp; refine hK _ ?_; clear hK K
  refine wl_ck rfl (fun K hK => ?_); go_simp; refine ⟨_, _, ⟨rfl, rfl⟩, hK _ _ ⟨_, heavy_any A n c l _ HO.out, ?_⟩⟩; clear hK K; rintro e w1 ⟨q1, rfl, hle, hbw⟩; refine ⟨_, rfl, ?_⟩; simp only [Zq]
  cases q1 with
  | true =>
    clear hle
    go_wp2_with fail
    go_ret
    exact ⟨rfl, hbw⟩
  | false =>
    have hn := hle rfl
    clear hle
    go_upto_region 3 with (fail)
    apply wp_region_lit
    refine wl_ck rfl (fun K hK => ?_); go_simp; refine ⟨_, _, ⟨rfl, rfl⟩, hK _ _ ⟨_, New_any w1, ?_⟩⟩; clear hK K; rintro e w2 ⟨rfl, hst, hb2⟩; refine ⟨_, rfl, ?_⟩; simp only [Zq]
    obtain ⟨s, hs⟩ : ∃ s, s = (w1).heap.size := ⟨_, rfl⟩
    have HS := Lib.hid hst
    have HSI0 := Lib.hid (since_new w1)
    have hz1 := hbw.size
    rw [← hs] at HS ⊢
    have HSI : Hid (Since w.heap.size s []) := Lib.hid (fun q hq => by have := HSI0.out q (by rw [← hs]; exact hq); omega)
    replace hbw := hbw.trans (hb2.mono hz1)
    clear hst hs hb2 hz1 HSI0
    refine wl_ck rfl (fun K hK => ?_); go_simp; refine ⟨_, _, ⟨rfl, rfl⟩, hK _ _ ⟨_, NewI_any w2, ?_⟩⟩; clear hK K; rintro e w3 ⟨v1, rfl, hd1, hb3⟩; refine ⟨_, rfl, ?_⟩; simp only [Zq]
    obtain ⟨nv1, bv1, M1, sh1, rfl, hone1, hM1, hsh1⟩ := hd1.form
    have HDF0 : Hid (DFar w3 (.agg (sc66 nv1 bv1 M1 sh1)) (stA l 0) (Foot s [])) := Lib.hid (DFar.fresh hd1 (fun q hq => HS.out.lt hq))
    replace HS := Lib.hid (HS.out.below hb3)
    replace hbw := hbw.trans (hb3.mono hbw.size)
    clear hd1 hb3 hM1 hsh1
    refine wl_new (fun ev w => ex_alloc66 rfl ev w) ?_
    intro W5 p4 hb5 hl5 h5
    refine wl_k rfl (fun K hK => ?_); go_simp; refine hK _ ?_; clear hK K
    refine wl_putG p4 (sc66 nv1 bv1 M1 sh1) rfl rfl 66 _ h5 info66 rfl hone1 ?_
    rw [put_noneA]
    have hwp4 : w.heap.size ≤ p4 := Nat.le_trans hbw.size hl5
    have hnp : ¬ Foot s [] p4 := fun hf => by have := HS.out.lt hf; omega
    have HDF : Hid (DFar (W5.setRow p4 (sc66 nv1 bv1 M1 sh1)) (.agg (sc66 nv1 bv1 M1 sh1)) (stA l 0) (Beside s [] p4)) := Lib.hid (HDF0.out.step (by have := hb5.size; simpa using this) (fun q hq _ => (setRow_other _ _ _ _ (by omega)).trans (hb5.block q hq)) (fun q hq => hq.elim Or.inl (fun e => Or.inr (by omega))))
    replace HS := Lib.hid ((HS.out.below hb5).rowT hnp (sc66 nv1 bv1 M1 sh1))
    have H4 := Lib.hid (hr_new (cs := sc66 nv1 bv1 M1 sh1) h5)
    have HNP := Lib.hid hnp
    replace hbw := below_setRow (hbw.trans (hb5.mono hbw.size)) (g := p4) (Nat.le_trans hbw.size hl5) (sc66 nv1 bv1 M1 sh1)
    clear hb5 h5 hl5 hone1 HDF0 hnp
    generalize W5.setRow p4 (sc66 nv1 bv1 M1 sh1) = w5 at *
    go_wp2_with fail
    go_loopw [5] (fun i wr => ∃ (j : Nat) (rs : List Row) (nv bv : Value) (M sh : Int), j ≤ n ∧ i = .int .i64 (j : Int) ∧ Hid (StoreAt wr s (stA l j) rs) ∧ Hid (Since w.heap.size s rs) ∧ Hid (wr.heap[p4]? = some (.cells (sc66 nv bv M sh) 66 (0, 0))) ∧ Hid (DFar wr (.agg (sc66 nv bv M sh)) (stA l j) (Beside s rs p4)) ∧ Hid (¬ Foot s rs p4) ∧ Below w.heap.size w wr) (fun i _ => n - (intOf i).toNat)
    case atStart => exact ⟨0, [], nv1, bv1, M1, sh1, by omega, rfl, HS, HSI, H4, HDF, HNP, hbw⟩
    case round =>
      clear HS HSI H4 HDF HNP hbw
      obtain ⟨j, rs, nv, bv, M, sh, hj, rfl, HS, HSI, H4, HDF, HNP, hbw⟩ := hrel
      by_cases hlt : j < n
      · have hltI : (j : Int) < (n : Int) := by omega
        obtain ⟨b, off, rfl⟩ := HO.out.addr hlt
        obtain ⟨o, ho⟩ : ∃ o, l[j]? = some o := ⟨_, List.getElem?_eq_getElem (by rw [HO.out.1]; exact hlt)⟩
        have HOJ := Lib.hid ho
        have HST := Lib.hid (stA_step HOJ.out (show j < 200 by omega))
        have hbd := stA_bound l j
        have HG := Lib.hid (stA_good l j)
        clear ho
        go_upto_region 9 with (fail)
        apply wp_region_lit
        iterate 4 (refine wl_k rfl (fun K hK => ?_); go_simp; refine hK _ ?_; clear hK K)
        ((with_reducible apply wl_rowG); exact rfl; exact rfl; exact (HO.out.below hbw).row HOJ.out)
        simp only [Zq]
        have hz6 := hbw.size
        have hp4l := heap_lt H4.out
        refine wl_ck rfl (fun K hK => ?_); go_simp; refine ⟨_, _, ⟨rfl, rfl⟩, hK _ _ ⟨_, Do_any s (stA l j) rs (stA_good l j) (by omega) hbd.2.1 (by omega) o _ HS.out, ?_⟩⟩; clear hK K; rintro e w7 ⟨rfl, rs2, hst2, hran⟩; refine ⟨_, rfl, ?_⟩; simp only [Zq]
        rw [← HST.out.1] at hst2
        replace HS := Lib.hid hst2
        replace hbw := hbw.trans (hran.toBelow HSI.out hbw.size)
        replace HSI := Lib.hid (HSI.out.ran hran hz6)
        replace H4 := Lib.hid ((hran.block p4 hp4l HNP.out).trans H4.out)
        replace HDF := Lib.hid (HDF.out.ran hran)
        replace HNP : Hid (¬ Foot s rs2 p4) := Lib.hid (fun hf => (hran.foot p4 hf).elim HNP.out (fun e => by omega))
        clear hst2 hran hz6 hp4l
        refine wl_k rfl (fun K hK => ?_); go_simp; refine hK _ ?_; clear hK K
        go_upto_region 10 with (fail)
        refine wp_region_held_drew (S := Kept [] w7) mixed (Kept.drew [] w7) (fun hS => ?_)
        refine hk3 (i := 1) rfl (by kernel_rfl) Zh hS rfl (fun K hK => ?_); go_simp; refine hK _ ?_; clear hK K; try simp only [Zq]
        refine hk3 (i := 2) rfl (by kernel_rfl) Zh hS rfl (fun K hK => ?_); go_simp; refine hK _ ?_; clear hK K; try simp only [Zq]
        refine hk3 (i := 3) rfl (by kernel_rfl) Zh hS rfl (fun K hK => ?_); go_simp; refine hK _ ?_; clear hK K; try simp only [Zq]
        (refine hv3 (i := 4) rfl (by kernel_rfl) Zg hS rfl (fun w' hw' => ex_row rfl ((HO.out.below (hbw.trans (hw'.toBelow hbw.size (by simp)))).row HOJ.out)) ?_; try simp only [Zy])
        (refine hv3 (i := 0) rfl (by kernel_rfl) Zg hS rfl (fun w' hw' => ex_row rfl (rowS (hw'.look H4.out (by simp)))) ?_; try simp only [Zy])
        have HFL : Hid ((∀ q, Foot s rs2 q → q < w7.heap.size) ∧ p4 < w7.heap.size) := Lib.hid ⟨fun q hq => HS.out.lt hq, heap_lt H4.out⟩
        replace HS := Lib.hid (HS.out.below (Below.refl _ w7).drew)
        replace HDF := Lib.hid (HDF.out.below (Below.refl _ w7).drew)
        replace H4 : Hid (w7.drew.heap[p4]? = _) := Lib.hid H4.out
        replace hbw := hbw.drew
        generalize w7.drew = wd at *
        refine ha_two (i := 5) (j := 9) (by kernel_rfl) ?_ ?_
        · refine sh_call (i := 5) rfl rfl (fun K hK => ?_); go_simp; refine ⟨_, _, ⟨rfl, rfl⟩, hK _ _ ⟨_, (DoI_any _ (stA l j) 0 HG.out (by omega) hbd.2.1 (by omega) o _ HDF.out.here).mono (fun e w' hp ↦ hp.far HDF.out (fun q hq ↦ hq.elim (fun hf ↦ HS.out.lt hf) (fun e ↦ by rw [e]; exact heap_lt H4.out))), ?_⟩⟩; clear hK K; rintro e w8 ⟨nv2, bv2, M2, sh2, rfl, hone2, hM2, hsh2, hb1, hd2⟩; refine ⟨_, rfl, hS.below hb1, ?_⟩; replace hS := hS.below hb1; (rw [← HST.out.1] at hd2 hM2 hsh2; replace HS := Lib.hid (HS.out.below hb1); replace H4 := Lib.hid (below_look hb1 H4.out); replace hbw := hbw.trans (hb1.mono hbw.size); replace HDF := Lib.hid hd2; have HMM := Lib.hid (And.intro hM2 hsh2); clear hd2 hM2 hsh2); try simp only [Zq]
          try simp only [Zy]
          refine hk3 (i := 6) rfl (by kernel_rfl) Zh hS rfl (fun K hK => ?_); go_simp; refine hK _ ?_; clear hK K; try simp only [Zq]
          refine hk3 (i := 7) rfl (by kernel_rfl) Zh hS rfl (fun K hK => ?_); go_simp; refine hK _ ?_; clear hK K; try simp only [Zq]
          refine hk3 (i := 8) rfl (by kernel_rfl) Zh hS rfl (fun K hK => ?_); go_simp; refine hK _ ?_; clear hK K; try simp only [Zq]
          have hb9 := (Below.refl (w8).heap.size (w8)).alloc (Nat.le_refl _) (.cells (sc66 (.slice none 0 0) (.slice none 0 0) 0 0) 66)
          have hSn := hS.below hb9
          have h9 : ((w8).alloc (.cells (sc66 (.slice none 0 0) (.slice none 0 0) 0 0) 66)).heap[(w8).heap.size]? = some (.cells (sc66 (.slice none 0 0) (.slice none 0 0) 0 0) 66 (0, 0)) := ha_new rfl
          have hp7 : w7.heap.size ≤ (w8).heap.size := hS.size
          refine ha_do (i := 9) (by kernel_rfl) rfl rfl (ex_alloc66 rfl _ _) hSn ?_; try simp only [Zy]
          replace hS := hSn
          replace HS := Lib.hid (HS.out.below hb9)
          replace HDF : Hid (DFar _ _ _ (fun q => Beside s rs2 p4 q ∨ q = (w8).heap.size)) := Lib.hid (HDF.out.step hb9.size (fun q hq _ => hb9.block q hq) (fun q hq => hq.elim Or.inl (fun e => Or.inr (by omega))))
          replace H4 := Lib.hid (below_look hb9 H4.out)
          replace hbw := hbw.trans (hb9.mono hbw.size)
          clear hSn hb9
          generalize (w8).alloc (.cells (sc66 (.slice none 0 0) (.slice none 0 0) 0 0) 66) = w9 at *
          generalize (w8).heap.size = p7 at h9 hp7 HDF ⊢
          refine ha_store (i := 10) (by kernel_rfl) rfl rfl 66 _ _ rfl p7 (sc66 nv2 bv2 M2 sh2) rfl rfl 66 _ h9 info66 rfl hone2 (hS.setNew hp7 _) (fun hS => ?_); try simp only [Zy]
          refine hk3 (i := 11) rfl (by kernel_rfl) Zh hS rfl (fun K hK => ?_); go_simp; refine hK _ ?_; clear hK K; try simp only [Zq]
          refine wpAnyH_done (by kernel_rfl) ?_ _
          have hfp7 : ¬ Foot s rs2 p7 := fun hf => by have := HFL.out.1 p7 hf; omega
          have hp47 : p4 ≠ p7 := by have := HFL.out.2; omega
          replace HS := Lib.hid (HS.out.rowT hfp7 (sc66 nv2 bv2 M2 sh2))
          replace HDF : Hid (DFar ((w9).setRow p7 (sc66 nv2 bv2 M2 sh2)) (.agg (sc66 nv2 bv2 M2 sh2)) (stA l (j + 1)) (Beside s rs2 p4)) := Lib.hid (HDF.out.step (by simp) (fun q hq hn => setRow_other _ _ _ _ (fun e => hn (Or.inr e))) (fun q hq => Or.inl (Or.inl hq)))
          replace H4 : Hid (((w9).setRow p7 (sc66 nv2 bv2 M2 sh2)).heap[p4]? = _) := Lib.hid (hr_old H4.out hp47)
          have H7 := Lib.hid (hr_new (cs := sc66 nv2 bv2 M2 sh2) h9)
          replace hbw := below_setRow hbw (g := p7) (by have := HFL.out.2; omega) (sc66 nv2 bv2 M2 sh2)
          clear hS h9 hfp7 hp47 hp7 hb1
          generalize (w9).setRow p7 (sc66 nv2 bv2 M2 sh2) = wa at *
          rw [← HST.out.2]
          go_upto_region 11 with (fail)
          apply wp_region_lit
          ((with_reducible apply wl_rowG); exact rfl; exact rfl; exact rowS H7.out); try simp only [Zy]
          refine wl_putG p4 (sc66 nv2 bv2 M2 sh2) rfl rfl 66 _ H4.out info66 rfl hone2 ?_
          rw [put_noneA]
          have H42 := Lib.hid (hr_new (cs := sc66 nv2 bv2 M2 sh2) H4.out)
          replace HS := Lib.hid (HS.out.rowT HNP.out (sc66 nv2 bv2 M2 sh2))
          replace HDF := Lib.hid (HDF.out.row (sc66 nv2 bv2 M2 sh2))
          replace hbw := below_setRow hbw (g := p4) hwp4 (sc66 nv2 bv2 M2 sh2)
          clear H7 H4 hone2
          generalize wa.setRow p4 (sc66 nv2 bv2 M2 sh2) = wb at *
          obtain ⟨X, hX⟩ : ∃ X, X = stA l (j + 1) := ⟨_, rfl⟩
          have HX := Lib.hid hX
          have HGX : Hid (Good X) := Lib.hid (by rw [hX]; exact stA_good l (j + 1))
          rw [← hX] at HS HDF HMM
          obtain ⟨E, hE⟩ : ∃ E, E = errA l j := ⟨_, rfl⟩
          rw [← hE]
          clear hX hE HST HOJ HG HFL
          go_upto_region 12 with (fail)
          apply wp_region_lit
          refine wl_k rfl (fun K hK => ?_); go_simp; refine hK _ ?_; clear hK K
          refine wl_ck rfl (fun K hK => ?_); go_simp; refine ⟨_, _, ⟨rfl, rfl⟩, hK _ _ ⟨_, items_any s X rs2 HGX.out _ HS.out, ?_⟩⟩; clear hK K; rintro e wc ⟨iv, rfl, hit, hb1⟩; refine ⟨_, rfl, ?_⟩; simp only [Zq]
          have HIT := Lib.hid hit
          replace HS := Lib.hid (HS.out.below hb1)
          replace HDF := Lib.hid (HDF.out.below hb1)
          replace H42 := Lib.hid (below_look hb1 H42.out)
          replace hbw := hbw.trans (hb1.mono hbw.size)
          clear hb1 hit
          iterate 5 (refine wl_k rfl (fun K hK => ?_); go_simp; refine hK _ ?_; clear hK K)
          obtain ⟨-, -, m2, m3⟩ := s66_cell H42.out
          go_upto_region 13 with (fail)
          refine wp_region_held_drew (S := Kept [] wc) mixed (Kept.drew [] wc) (fun hS => ?_)
          refine hk3 (i := 0) rfl (by kernel_rfl) Zh hS rfl (fun K hK => ?_); go_simp; refine hK _ ?_; clear hK K; try simp only [Zq]
          refine hk3 (i := 1) rfl (by kernel_rfl) Zh hS rfl (fun K hK => ?_); go_simp; refine hK _ ?_; clear hK K; try simp only [Zq]
          refine hk3 (i := 2) rfl (by kernel_rfl) Zh hS rfl (fun K hK => ?_); go_simp; refine hK _ ?_; clear hK K; try simp only [Zq]
          refine hk3 (i := 3) rfl (by kernel_rfl) Zh hS rfl (fun K hK => ?_); go_simp; refine hK _ ?_; clear hK K; try simp only [Zq]
          refine hk3 (i := 4) rfl (by kernel_rfl) Zh hS rfl (fun K hK => ?_); go_simp; refine hK _ ?_; clear hK K; try simp only [Zq]
          refine hk3 (i := 5) rfl (by kernel_rfl) Zh hS rfl (fun K hK => ?_); go_simp; refine hK _ ?_; clear hK K; try simp only [Zq]
          refine hk3 (i := 6) rfl (by kernel_rfl) Zh hS rfl (fun K hK => ?_); go_simp; refine hK _ ?_; clear hK K; try simp only [Zq]
          refine hk3 (i := 7) rfl (by kernel_rfl) Zh hS rfl (fun K hK => ?_); go_simp; refine hK _ ?_; clear hK K; try simp only [Zq]
          refine hk3 (i := 8) rfl (by kernel_rfl) Zh hS rfl (fun K hK => ?_); go_simp; refine hK _ ?_; clear hK K; try simp only [Zq]
          refine hk3 (i := 10) rfl (by kernel_rfl) Zh hS rfl (fun K hK => ?_); go_simp; refine hK _ ?_; clear hK K; try simp only [Zq]
          refine hv3 (i := 11) rfl (by kernel_rfl) Zg hS rfl (fun w' hw' => ex_one rfl (one3 (hw'.cell m2 (by simp <;> omega)))) ?_; try simp only [Zq]
          have hd1 := (Below.refl wc.heap.size wc).drew
          refine ha_call (i := 9) (by kernel_rfl) rfl rfl (fun K hK => ?_); go_simp; refine ⟨_, _, ⟨rfl, rfl⟩, hK _ _ ⟨_, Buffers_any s X rs2 HGX.out _ (HS.out.below hd1), ?_⟩⟩; clear hK K; rintro e we ⟨rfl, hb1⟩; refine ⟨_, rfl, hS.below hb1, ?_⟩; replace hS := hS.below hb1; (rw [HMM.out.1]; have hd2 := hd1.trans (hb1.mono hd1.size); clear hb1); try simp only [Zq]
          refine hk3 (i := 12) rfl (by kernel_rfl) Zh hS rfl (fun K hK => ?_); go_simp; refine hK _ ?_; clear hK K; try simp only [Zq]
          refine hk3 (i := 13) rfl (by kernel_rfl) Zh hS rfl (fun K hK => ?_); go_simp; refine hK _ ?_; clear hK K; try simp only [Zq]
          refine hk3 (i := 14) rfl (by kernel_rfl) Zh hS rfl (fun K hK => ?_); go_simp; refine hK _ ?_; clear hK K; try simp only [Zq]
          refine hk3 (i := 15) rfl (by kernel_rfl) Zh hS rfl (fun K hK => ?_); go_simp; refine hK _ ?_; clear hK K; try simp only [Zq]
          refine hk3 (i := 17) rfl (by kernel_rfl) Zh hS rfl (fun K hK => ?_); go_simp; refine hK _ ?_; clear hK K; try simp only [Zq]
          refine hv3 (i := 18) rfl (by kernel_rfl) Zg hS rfl (fun w' hw' => ex_one rfl (one3 (hw'.cell m3 (by simp <;> omega)))) ?_; try simp only [Zq]
          refine ha_call (i := 16) (by kernel_rfl) rfl rfl (fun K hK => ?_); go_simp; refine ⟨_, _, ⟨rfl, rfl⟩, hK _ _ ⟨_, Shared_any s X rs2 HGX.out _ (HS.out.below hd2), ?_⟩⟩; clear hK K; rintro e wf ⟨rfl, hb1⟩; refine ⟨_, rfl, hS.below hb1, ?_⟩; replace hS := hS.below hb1; (rw [HMM.out.2]; have hd3 := hd2.trans (hb1.mono hd2.size); clear hb1); try simp only [Zq]
          refine hk3 (i := 19) rfl (by kernel_rfl) Zh hS rfl (fun K hK => ?_); go_simp; refine hK _ ?_; clear hK K; try simp only [Zq]
          refine hk3 (i := 20) rfl (by kernel_rfl) Zh hS rfl (fun K hK => ?_); go_simp; refine hK _ ?_; clear hK K; try simp only [Zq]
          refine wpAnyH_done (by kernel_rfl) ?_ _
          replace HS := Lib.hid (HS.out.below hd3)
          replace HDF := Lib.hid (HDF.out.below hd3)
          replace H42 := Lib.hid (below_look hd3 H42.out)
          replace HIT := Lib.hid (HIT.out.below hd3)
          replace hbw := hbw.trans (hd3.mono hbw.size)
          clear hS hd1 hd2 hd3 m2 m3 HMM
          have ⟨pi, cpi, curi, ei, hqi, hgi, halli⟩ := HIT.out.cells (by rw [bufsTo_length]; omega)
          rw [bufsTo_length] at ei
          subst ei
          have HI1 : Hid (∀ k : Nat, k < 8 → ∃ v : Array Value, v.size = 4 ∧ curi.extract (k * 4) (k * 4 + 4) = v ∧ ∃ B, ItemAt wf B (.agg v) (X.buf (k : Int))) := Lib.hid (fun k hk => by obtain ⟨v, a1, a2, a3⟩ := halli k _ (bufsTo_get X hk); exact ⟨v, a1, a2, _, a3⟩)
          have HQ1 := Lib.hid hgi
          have HSM := Lib.hid (fun (m : Nat) => buf_small HGX.out (m : Int))
          clear halli hqi hgi HIT
          go_wp2_with fail
          go_loopw [11] (fun kv wr => ∃ k : Nat, k ≤ 8 ∧ kv = .int .i64 (k : Int) ∧ Hid (Below wf.heap.size wf wr)) (fun kv _ => 8 - (intOf kv).toNat)
          case atStart => exact ⟨0, by omega, rfl, Lib.hid (Below.refl _ _)⟩
          case round =>
            obtain ⟨k, hk, rfl, HB⟩ := hrel
            by_cases hk8 : k < 8
            · have hk8I : (k : Int) < 8 := by omega
              have h4 := below_look HB.out H42.out
              go_upto_region 18 with (fail)
              apply wp_region_lit
              ((with_reducible apply wl_rowG); exact rfl; exact rfl; exact rowS h4); try simp only [Zy]
              refine wl_k rfl (fun K hK => ?_); go_simp; refine hK _ ?_; clear hK K
              refine wl_ck rfl (fun K hK => ?_); go_simp; refine ⟨_, _, ⟨rfl, rfl⟩, hK _ _ ⟨_, ItemI_yes _ X 0 HGX.out k hk8I _ (HDF.out.here.below HB.out), ?_⟩⟩; clear hK K; rintro e wg ⟨v, rfl, hit, hb1⟩; refine ⟨_, rfl, ?_⟩; simp only [Zq]
              obtain ⟨B1, b1, B2, b2, rfl, ho1, ho2⟩ := hit.shape
              obtain ⟨YB, hYB⟩ : ∃ YB, YB = X.buf (k : Int) := ⟨_, rfl⟩
              have HYB := Lib.hid hYB
              rw [← hYB] at ho1 ho2 ⊢
              obtain ⟨IC, hIC⟩ : ∃ IC, IC = icells YB.kd (.slice B1 YB.l.length b1) YB.seed (.slice B2 (pairsT YB.t).length b2) := ⟨_, rfl⟩
              rw [← hIC]
              have h1C : IC.all (·.oneCell') = true := by rw [hIC]; exact icells_one _ _ _ _ _ _ _ _
              have hzC : IC.size = 4 := by rw [hIC]; rfl
              have HIC := Lib.hid hIC
              have HZC := Lib.hid hzC
              have H1C := Lib.hid h1C
              clear hYB hIC h1C hzC
              replace HB := Lib.hid (HB.out.trans (hb1.mono HB.out.size))
              iterate 3 (refine wl_k rfl (fun K hK => ?_); go_simp; refine hK _ ?_; clear hK K)
              refine wl_new (fun ev w => ex_alloc32 rfl ev w) ?_
              intro W6 p12 hb6 hl6 h6
              refine wl_putG p12 IC rfl rfl 32 _ h6 (by rw [info32, HZC.out]) (by rw [HZC.out]; rfl) H1C.out ?_
              rw [put_noneA]
              have hbb := below_setRow hb6 (g := p12) hl6 IC
              have H12 := Lib.hid (hr_new (cs := IC) h6)
              replace HB := Lib.hid (HB.out.trans (hbb.mono HB.out.size))
              have HI2 : Hid (ItemAt (W6.setRow p12 IC) 0 (.agg IC) YB) := Lib.hid ⟨_, _, by rw [HIC.out], own_weak (own_below ho1 hbb) (Nat.zero_le _), own_weak (own_below ho2 hbb) (Nat.zero_le _)⟩
              clear hb1 hit ho1 ho2 HIC H1C hb6 hl6 h6 hbb h4
              generalize W6.setRow p12 IC = wh at *
              refine wl_k rfl (fun K hK => ?_); go_simp; refine hK _ ?_; clear hK K
              go_upto_region 19 with (fail)
              apply wp_region_lit
              iterate 2 (refine wl_k rfl (fun K hK => ?_); go_simp; refine hK _ ?_; clear hK K)
              refine wl_ck rfl (fun K hK => ?_); go_simp; refine ⟨_, _, ⟨rfl, rfl⟩, hK _ _ ⟨_, Len_yes s X rs2 HGX.out k hk8I _ (HS.out.below HB.out), ?_⟩⟩; clear hK K; rintro e wi ⟨rfl, hb1⟩; refine ⟨_, rfl, ?_⟩; simp only [Zq]
              rw [← HYB.out]
              replace HB := Lib.hid (HB.out.trans (hb1.mono HB.out.size))
              replace H12 := Lib.hid (below_look hb1 H12.out)
              replace HI2 := Lib.hid (HI2.out.below hb1)
              clear hb1
              iterate 5 (refine wl_k rfl (fun K hK => ?_); go_simp; refine hK _ ?_; clear hK K)
              have h4 := below_look HB.out H42.out
              go_upto_region 20 with (fail)
              apply wp_region_lit
              ((with_reducible apply wl_rowG); exact rfl; exact rfl; exact rowS h4); try simp only [Zy]
              refine wl_k rfl (fun K hK => ?_); go_simp; refine hK _ ?_; clear hK K
              refine wl_ck rfl (fun K hK => ?_); go_simp; refine ⟨_, _, ⟨rfl, rfl⟩, hK _ _ ⟨_, LenI_yes _ X 0 HGX.out k hk8I _ (HDF.out.here.below HB.out), ?_⟩⟩; clear hK K; rintro e wj ⟨rfl, hb1⟩; refine ⟨_, rfl, ?_⟩; simp only [Zq]
              rw [← HYB.out]
              replace HB := Lib.hid (HB.out.trans (hb1.mono HB.out.size))
              replace H12 := Lib.hid (below_look hb1 H12.out)
              replace HI2 := Lib.hid (HI2.out.below hb1)
              clear hb1 h4
              iterate 5 (refine wl_k rfl (fun K hK => ?_); go_simp; refine hK _ ?_; clear hK K)
              obtain ⟨v1, hz1, hx1, D1, it1⟩ := HI1.out k hk8
              rw [← HYB.out] at it1
              have hsm := HSM.out k
              rw [← HYB.out] at hsm
              have HC1 := below_look HB.out HQ1.out
              have HX1 := Lib.hid hx1
              have HZ1 := Lib.hid hz1
              have HT1 := Lib.hid it1
              obtain ⟨LA, hLA⟩ : ∃ LA, LA = lenA YB := ⟨_, rfl⟩
              rw [← hLA]
              clear hx1 it1 hz1 hLA HYB
              go_upto_region 21 with (fail)
              refine wp_region_held_drew (S := Kept [] wj) mixed (Kept.drew [] wj) (fun hS => ?_)
              refine hk3 (i := 0) rfl (by kernel_rfl) Zh hS rfl (fun K hK => ?_); go_simp; refine hK _ ?_; clear hK K; try simp only [Zq]
              refine hk3 (i := 1) rfl (by kernel_rfl) Zh hS rfl (fun K hK => ?_); go_simp; refine hK _ ?_; clear hK K; try simp only [Zq]
              refine hk3 (i := 2) rfl (by kernel_rfl) Zh hS rfl (fun K hK => ?_); go_simp; refine hK _ ?_; clear hK K; try simp only [Zq]
              (refine hv3 (i := 3) rfl (by kernel_rfl) Zg hS rfl (fun w' hw' => ex_row rfl ((fun h => row_mid h HX1.out Ytbhdgeoljlhmcaa.u32 rfl HZ1.out info32) (hw'.look HC1 (by simp)))) ?_; try simp only [Zy])
              (refine hv3 (i := 4) rfl (by kernel_rfl) Zg hS rfl (fun w' hw' => ex_row rfl ((fun h => row_mid h (off := 0) (by rw [← HZC.out]; simp) Ytbhdgeoljlhmcaa.u32 rfl HZC.out info32) (hw'.look H12.out (by simp)))) ?_; try simp only [Zy])
              have hdj := (Below.refl wj.heap.size wj).drew
              refine ha_call (i := 5) (by kernel_rfl) rfl rfl (fun K hK => ?_); go_simp; refine ⟨_, _, ⟨rfl, rfl⟩, hK _ _ ⟨_, EqItem_at YB YB (by have := hsm.1; omega) (by have := hsm.2; have := pairsT_le YB.t; omega) rfl rfl rfl rfl (HT1.out.below (HB.out.trans (hdj.mono HB.out.size))) (HI2.out.below hdj), ?_⟩⟩; clear hK K; rintro e wk ⟨rfl, hb1⟩; refine ⟨_, rfl, hS.below hb1, ?_⟩; replace hS := hS.below hb1; (clear hb1); try simp only [Zq]
              refine hk3 (i := 6) rfl (by kernel_rfl) Zh hS rfl (fun K hK => ?_); go_simp; refine hK _ ?_; clear hK K; try simp only [Zq]
              refine hk3 (i := 7) rfl (by kernel_rfl) Zh hS rfl (fun K hK => ?_); go_simp; refine hK _ ?_; clear hK K; try simp only [Zq]
              refine hk3 (i := 8) rfl (by kernel_rfl) Zh hS rfl (fun K hK => ?_); go_simp; refine hK _ ?_; clear hK K; try simp only [Zq]
              refine hk3 (i := 9) rfl (by kernel_rfl) Zh hS rfl (fun K hK => ?_); go_simp; refine hK _ ?_; clear hK K; try simp only [Zq]
              refine hk3 (i := 10) rfl (by kernel_rfl) Zh hS rfl (fun K hK => ?_); go_simp; refine hK _ ?_; clear hK K; try simp only [Zq]
              refine hk3 (i := 11) rfl (by kernel_rfl) Zh hS rfl (fun K hK => ?_); go_simp; refine hK _ ?_; clear hK K; try simp only [Zq]
              refine hk3 (i := 12) rfl (by kernel_rfl) Zh hS rfl (fun K hK => ?_); go_simp; refine hK _ ?_; clear hK K; try simp only [Zq]
              refine hk3 (i := 13) rfl (by kernel_rfl) Zh hS rfl (fun K hK => ?_); go_simp; refine hK _ ?_; clear hK K; try simp only [Zq]
              refine hk3 (i := 14) rfl (by kernel_rfl) Zh hS rfl (fun K hK => ?_); go_simp; refine hK _ ?_; clear hK K; try simp only [Zq]
              refine hk3 (i := 15) rfl (by kernel_rfl) Zh hS rfl (fun K hK => ?_); go_simp; refine hK _ ?_; clear hK K; try simp only [Zq]
              refine wpAnyH_done (by kernel_rfl) ?_ _
              have HB2 : Hid (Below wf.heap.size wf _) := Lib.hid (HB.out.trans (hS.toBelow HB.out.size (by simp)))
              clear hS HB hdj H12 HI2 HC1 HX1 HT1
              go_wp2_with fail
              go_roundw
              case rel => exact ⟨k + 1, by omega, by go_num, HB2⟩
              case measure => simp [intOf]; omega
            · obtain rfl : k = 8 := by omega
              replace HS := Lib.hid (HS.out.below HB.out)
              replace HDF := Lib.hid (HDF.out.below HB.out)
              replace H42 := Lib.hid (below_look HB.out H42.out)
              replace hbw := hbw.trans (HB.out.mono hbw.size)
              rw [HX.out] at HS HDF
              clear HI1 HQ1 HSM HB HGX HX
              go_wp2_with fail
              go_roundw
              case rel => exact ⟨j + 1, rs2, nv2, bv2, M2, sh2, by omega, by go_num, HS, HSI, H42, HDF, HNP, hbw⟩
              case measure => simp [intOf]; omega
        · have hb9 := (Below.refl (wd).heap.size (wd)).alloc (Nat.le_refl _) (.cells (sc66 (.slice none 0 0) (.slice none 0 0) 0 0) 66)
          have hSn := hS.below hb9
          have h9 : ((wd).alloc (.cells (sc66 (.slice none 0 0) (.slice none 0 0) 0 0) 66)).heap[(wd).heap.size]? = some (.cells (sc66 (.slice none 0 0) (.slice none 0 0) 0 0) 66 (0, 0)) := ha_new rfl
          have hp7 : w7.heap.size ≤ (wd).heap.size := hS.size
          refine sh_w (i := 9) rfl rfl (ex_alloc66 rfl _ _) hSn ?_; try simp only [Zy]
          replace hS := hSn
          replace HS := Lib.hid (HS.out.below hb9)
          replace HDF : Hid (DFar _ _ _ (fun q => Beside s rs2 p4 q ∨ q = (wd).heap.size)) := Lib.hid (HDF.out.step hb9.size (fun q hq _ => hb9.block q hq) (fun q hq => hq.elim Or.inl (fun e => Or.inr (by omega))))
          replace H4 := Lib.hid (below_look hb9 H4.out)
          replace hbw := hbw.trans (hb9.mono hbw.size)
          clear hSn hb9
          generalize (wd).alloc (.cells (sc66 (.slice none 0 0) (.slice none 0 0) 0 0) 66) = w9 at *
          generalize (wd).heap.size = p7 at h9 hp7 HDF ⊢
          refine ha_call (i := 5) (by kernel_rfl) rfl rfl (fun K hK => ?_); go_simp; refine ⟨_, _, ⟨rfl, rfl⟩, hK _ _ ⟨_, (DoI_any _ (stA l j) 0 HG.out (by omega) hbd.2.1 (by omega) o _ HDF.out.here).mono (fun e w' hp ↦ hp.far HDF.out (fun q hq ↦ hq.elim (fun hq ↦ hq.elim (fun hf ↦ HS.out.lt hf) (fun e ↦ by rw [e]; exact heap_lt H4.out)) (fun e ↦ by rw [e]; exact heap_lt h9))), ?_⟩⟩; clear hK K; rintro e w8 ⟨nv2, bv2, M2, sh2, rfl, hone2, hM2, hsh2, hb1, hd2⟩; refine ⟨_, rfl, hS.below hb1, ?_⟩; replace hS := hS.below hb1; (rw [← HST.out.1] at hd2 hM2 hsh2; replace HS := Lib.hid (HS.out.below hb1); replace H4 := Lib.hid (below_look hb1 H4.out); replace hbw := hbw.trans (hb1.mono hbw.size); replace HDF := Lib.hid hd2; have HMM := Lib.hid (And.intro hM2 hsh2); clear hd2 hM2 hsh2); try simp only [Zq]
          try simp only [Zy]
          refine hk3 (i := 6) rfl (by kernel_rfl) Zh hS rfl (fun K hK => ?_); go_simp; refine hK _ ?_; clear hK K; try simp only [Zq]
          refine hk3 (i := 7) rfl (by kernel_rfl) Zh hS rfl (fun K hK => ?_); go_simp; refine hK _ ?_; clear hK K; try simp only [Zq]
          refine hk3 (i := 8) rfl (by kernel_rfl) Zh hS rfl (fun K hK => ?_); go_simp; refine hK _ ?_; clear hK K; try simp only [Zq]
          replace h9 := below_look hb1 h9
          refine ha_store (i := 10) (by kernel_rfl) rfl rfl 66 _ _ rfl p7 (sc66 nv2 bv2 M2 sh2) rfl rfl 66 _ h9 info66 rfl hone2 (hS.setNew hp7 _) (fun hS => ?_); try simp only [Zy]
          refine hk3 (i := 11) rfl (by kernel_rfl) Zh hS rfl (fun K hK => ?_); go_simp; refine hK _ ?_; clear hK K; try simp only [Zq]
          refine wpAnyH_done (by kernel_rfl) ?_ _
          have hfp7 : ¬ Foot s rs2 p7 := fun hf => by have := HFL.out.1 p7 hf; omega
          have hp47 : p4 ≠ p7 := by have := HFL.out.2; omega
          replace HS := Lib.hid (HS.out.rowT hfp7 (sc66 nv2 bv2 M2 sh2))
          replace HDF : Hid (DFar ((w8).setRow p7 (sc66 nv2 bv2 M2 sh2)) (.agg (sc66 nv2 bv2 M2 sh2)) (stA l (j + 1)) (Beside s rs2 p4)) := Lib.hid (HDF.out.step (by simp) (fun q hq hn => setRow_other _ _ _ _ (fun e => hn (Or.inr e))) (fun q hq => Or.inl (Or.inl hq)))
          replace H4 : Hid (((w8).setRow p7 (sc66 nv2 bv2 M2 sh2)).heap[p4]? = _) := Lib.hid (hr_old H4.out hp47)
          have H7 := Lib.hid (hr_new (cs := sc66 nv2 bv2 M2 sh2) h9)
          replace hbw := below_setRow hbw (g := p7) (by have := HFL.out.2; omega) (sc66 nv2 bv2 M2 sh2)
          clear hS h9 hfp7 hp47 hp7 hb1
          generalize (w8).setRow p7 (sc66 nv2 bv2 M2 sh2) = wa at *
          rw [← HST.out.2]
          go_upto_region 11 with (fail)
          apply wp_region_lit
          ((with_reducible apply wl_rowG); exact rfl; exact rfl; exact rowS H7.out); try simp only [Zy]
          refine wl_putG p4 (sc66 nv2 bv2 M2 sh2) rfl rfl 66 _ H4.out info66 rfl hone2 ?_
          rw [put_noneA]
          have H42 := Lib.hid (hr_new (cs := sc66 nv2 bv2 M2 sh2) H4.out)
          replace HS := Lib.hid (HS.out.rowT HNP.out (sc66 nv2 bv2 M2 sh2))
          replace HDF := Lib.hid (HDF.out.row (sc66 nv2 bv2 M2 sh2))
          replace hbw := below_setRow hbw (g := p4) hwp4 (sc66 nv2 bv2 M2 sh2)
          clear H7 H4 hone2
          generalize wa.setRow p4 (sc66 nv2 bv2 M2 sh2) = wb at *
          obtain ⟨X, hX⟩ : ∃ X, X = stA l (j + 1) := ⟨_, rfl⟩
          have HX := Lib.hid hX
          have HGX : Hid (Good X) := Lib.hid (by rw [hX]; exact stA_good l (j + 1))
          rw [← hX] at HS HDF HMM
          obtain ⟨E, hE⟩ : ∃ E, E = errA l j := ⟨_, rfl⟩
          rw [← hE]
          clear hX hE HST HOJ HG HFL
          go_upto_region 12 with (fail)
          apply wp_region_lit
          refine wl_k rfl (fun K hK => ?_); go_simp; refine hK _ ?_; clear hK K
          refine wl_ck rfl (fun K hK => ?_); go_simp; refine ⟨_, _, ⟨rfl, rfl⟩, hK _ _ ⟨_, items_any s X rs2 HGX.out _ HS.out, ?_⟩⟩; clear hK K; rintro e wc ⟨iv, rfl, hit, hb1⟩; refine ⟨_, rfl, ?_⟩; simp only [Zq]
          have HIT := Lib.hid hit
          replace HS := Lib.hid (HS.out.below hb1)
          replace HDF := Lib.hid (HDF.out.below hb1)
          replace H42 := Lib.hid (below_look hb1 H42.out)
          replace hbw := hbw.trans (hb1.mono hbw.size)
          clear hb1 hit
          iterate 5 (refine wl_k rfl (fun K hK => ?_); go_simp; refine hK _ ?_; clear hK K)
          obtain ⟨-, -, m2, m3⟩ := s66_cell H42.out
          go_upto_region 13 with (fail)
          refine wp_region_held_drew (S := Kept [] wc) mixed (Kept.drew [] wc) (fun hS => ?_)
          refine hk3 (i := 0) rfl (by kernel_rfl) Zh hS rfl (fun K hK => ?_); go_simp; refine hK _ ?_; clear hK K; try simp only [Zq]
          refine hk3 (i := 1) rfl (by kernel_rfl) Zh hS rfl (fun K hK => ?_); go_simp; refine hK _ ?_; clear hK K; try simp only [Zq]
          refine hk3 (i := 2) rfl (by kernel_rfl) Zh hS rfl (fun K hK => ?_); go_simp; refine hK _ ?_; clear hK K; try simp only [Zq]
          refine hk3 (i := 3) rfl (by kernel_rfl) Zh hS rfl (fun K hK => ?_); go_simp; refine hK _ ?_; clear hK K; try simp only [Zq]
          refine hk3 (i := 4) rfl (by kernel_rfl) Zh hS rfl (fun K hK => ?_); go_simp; refine hK _ ?_; clear hK K; try simp only [Zq]
          refine hk3 (i := 5) rfl (by kernel_rfl) Zh hS rfl (fun K hK => ?_); go_simp; refine hK _ ?_; clear hK K; try simp only [Zq]
          refine hk3 (i := 6) rfl (by kernel_rfl) Zh hS rfl (fun K hK => ?_); go_simp; refine hK _ ?_; clear hK K; try simp only [Zq]
          refine hk3 (i := 7) rfl (by kernel_rfl) Zh hS rfl (fun K hK => ?_); go_simp; refine hK _ ?_; clear hK K; try simp only [Zq]
          refine hk3 (i := 8) rfl (by kernel_rfl) Zh hS rfl (fun K hK => ?_); go_simp; refine hK _ ?_; clear hK K; try simp only [Zq]
          refine hk3 (i := 10) rfl (by kernel_rfl) Zh hS rfl (fun K hK => ?_); go_simp; refine hK _ ?_; clear hK K; try simp only [Zq]
          refine hv3 (i := 11) rfl (by kernel_rfl) Zg hS rfl (fun w' hw' => ex_one rfl (one3 (hw'.cell m2 (by simp <;> omega)))) ?_; try simp only [Zq]
          have hd1 := (Below.refl wc.heap.size wc).drew
          refine ha_call (i := 9) (by kernel_rfl) rfl rfl (fun K hK => ?_); go_simp; refine ⟨_, _, ⟨rfl, rfl⟩, hK _ _ ⟨_, Buffers_any s X rs2 HGX.out _ (HS.out.below hd1), ?_⟩⟩; clear hK K; rintro e we ⟨rfl, hb1⟩; refine ⟨_, rfl, hS.below hb1, ?_⟩; replace hS := hS.below hb1; (rw [HMM.out.1]; have hd2 := hd1.trans (hb1.mono hd1.size); clear hb1); try simp only [Zq]
          refine hk3 (i := 12) rfl (by kernel_rfl) Zh hS rfl (fun K hK => ?_); go_simp; refine hK _ ?_; clear hK K; try simp only [Zq]
          refine hk3 (i := 13) rfl (by kernel_rfl) Zh hS rfl (fun K hK => ?_); go_simp; refine hK _ ?_; clear hK K; try simp only [Zq]
          refine hk3 (i := 14) rfl (by kernel_rfl) Zh hS rfl (fun K hK => ?_); go_simp; refine hK _ ?_; clear hK K; try simp only [Zq]
          refine hk3 (i := 15) rfl (by kernel_rfl) Zh hS rfl (fun K hK => ?_); go_simp; refine hK _ ?_; clear hK K; try simp only [Zq]
          refine hk3 (i := 17) rfl (by kernel_rfl) Zh hS rfl (fun K hK => ?_); go_simp; refine hK _ ?_; clear hK K; try simp only [Zq]
          refine hv3 (i := 18) rfl (by kernel_rfl) Zg hS rfl (fun w' hw' => ex_one rfl (one3 (hw'.cell m3 (by simp <;> omega)))) ?_; try simp only [Zq]
          refine ha_call (i := 16) (by kernel_rfl) rfl rfl (fun K hK => ?_); go_simp; refine ⟨_, _, ⟨rfl, rfl⟩, hK _ _ ⟨_, Shared_any s X rs2 HGX.out _ (HS.out.below hd2), ?_⟩⟩; clear hK K; rintro e wf ⟨rfl, hb1⟩; refine ⟨_, rfl, hS.below hb1, ?_⟩; replace hS := hS.below hb1; (rw [HMM.out.2]; have hd3 := hd2.trans (hb1.mono hd2.size); clear hb1); try simp only [Zq]
          refine hk3 (i := 19) rfl (by kernel_rfl) Zh hS rfl (fun K hK => ?_); go_simp; refine hK _ ?_; clear hK K; try simp only [Zq]
          refine hk3 (i := 20) rfl (by kernel_rfl) Zh hS rfl (fun K hK => ?_); go_simp; refine hK _ ?_; clear hK K; try simp only [Zq]
          refine wpAnyH_done (by kernel_rfl) ?_ _
          replace HS := Lib.hid (HS.out.below hd3)
          replace HDF := Lib.hid (HDF.out.below hd3)
          replace H42 := Lib.hid (below_look hd3 H42.out)
          replace HIT := Lib.hid (HIT.out.below hd3)
          replace hbw := hbw.trans (hd3.mono hbw.size)
          clear hS hd1 hd2 hd3 m2 m3 HMM
          have ⟨pi, cpi, curi, ei, hqi, hgi, halli⟩ := HIT.out.cells (by rw [bufsTo_length]; omega)
          rw [bufsTo_length] at ei
          subst ei
          have HI1 : Hid (∀ k : Nat, k < 8 → ∃ v : Array Value, v.size = 4 ∧ curi.extract (k * 4) (k * 4 + 4) = v ∧ ∃ B, ItemAt wf B (.agg v) (X.buf (k : Int))) := Lib.hid (fun k hk => by obtain ⟨v, a1, a2, a3⟩ := halli k _ (bufsTo_get X hk); exact ⟨v, a1, a2, _, a3⟩)
          have HQ1 := Lib.hid hgi
          have HSM := Lib.hid (fun (m : Nat) => buf_small HGX.out (m : Int))
          clear halli hqi hgi HIT
          go_wp2_with fail
          go_loopw [11] (fun kv wr => ∃ k : Nat, k ≤ 8 ∧ kv = .int .i64 (k : Int) ∧ Hid (Below wf.heap.size wf wr)) (fun kv _ => 8 - (intOf kv).toNat)
          case atStart => exact ⟨0, by omega, rfl, Lib.hid (Below.refl _ _)⟩
          case round =>
            obtain ⟨k, hk, rfl, HB⟩ := hrel
            by_cases hk8 : k < 8
            · have hk8I : (k : Int) < 8 := by omega
              have h4 := below_look HB.out H42.out
              go_upto_region 18 with (fail)
              apply wp_region_lit
              ((with_reducible apply wl_rowG); exact rfl; exact rfl; exact rowS h4); try simp only [Zy]
              refine wl_k rfl (fun K hK => ?_); go_simp; refine hK _ ?_; clear hK K
              refine wl_ck rfl (fun K hK => ?_); go_simp; refine ⟨_, _, ⟨rfl, rfl⟩, hK _ _ ⟨_, ItemI_yes _ X 0 HGX.out k hk8I _ (HDF.out.here.below HB.out), ?_⟩⟩; clear hK K; rintro e wg ⟨v, rfl, hit, hb1⟩; refine ⟨_, rfl, ?_⟩; simp only [Zq]
              obtain ⟨B1, b1, B2, b2, rfl, ho1, ho2⟩ := hit.shape
              obtain ⟨YB, hYB⟩ : ∃ YB, YB = X.buf (k : Int) := ⟨_, rfl⟩
              have HYB := Lib.hid hYB
              rw [← hYB] at ho1 ho2 ⊢
              obtain ⟨IC, hIC⟩ : ∃ IC, IC = icells YB.kd (.slice B1 YB.l.length b1) YB.seed (.slice B2 (pairsT YB.t).length b2) := ⟨_, rfl⟩
              rw [← hIC]
              have h1C : IC.all (·.oneCell') = true := by rw [hIC]; exact icells_one _ _ _ _ _ _ _ _
              have hzC : IC.size = 4 := by rw [hIC]; rfl
              have HIC := Lib.hid hIC
              have HZC := Lib.hid hzC
              have H1C := Lib.hid h1C
              clear hYB hIC h1C hzC
              replace HB := Lib.hid (HB.out.trans (hb1.mono HB.out.size))
              iterate 3 (refine wl_k rfl (fun K hK => ?_); go_simp; refine hK _ ?_; clear hK K)
              refine wl_new (fun ev w => ex_alloc32 rfl ev w) ?_
              intro W6 p12 hb6 hl6 h6
              refine wl_putG p12 IC rfl rfl 32 _ h6 (by rw [info32, HZC.out]) (by rw [HZC.out]; rfl) H1C.out ?_
              rw [put_noneA]
              have hbb := below_setRow hb6 (g := p12) hl6 IC
              have H12 := Lib.hid (hr_new (cs := IC) h6)
              replace HB := Lib.hid (HB.out.trans (hbb.mono HB.out.size))
              have HI2 : Hid (ItemAt (W6.setRow p12 IC) 0 (.agg IC) YB) := Lib.hid ⟨_, _, by rw [HIC.out], own_weak (own_below ho1 hbb) (Nat.zero_le _), own_weak (own_below ho2 hbb) (Nat.zero_le _)⟩
              clear hb1 hit ho1 ho2 HIC H1C hb6 hl6 h6 hbb h4
              generalize W6.setRow p12 IC = wh at *
              refine wl_k rfl (fun K hK => ?_); go_simp; refine hK _ ?_; clear hK K
              go_upto_region 19 with (fail)
              apply wp_region_lit
              iterate 2 (refine wl_k rfl (fun K hK => ?_); go_simp; refine hK _ ?_; clear hK K)
              refine wl_ck rfl (fun K hK => ?_); go_simp; refine ⟨_, _, ⟨rfl, rfl⟩, hK _ _ ⟨_, Len_yes s X rs2 HGX.out k hk8I _ (HS.out.below HB.out), ?_⟩⟩; clear hK K; rintro e wi ⟨rfl, hb1⟩; refine ⟨_, rfl, ?_⟩; simp only [Zq]
              rw [← HYB.out]
              replace HB := Lib.hid (HB.out.trans (hb1.mono HB.out.size))
              replace H12 := Lib.hid (below_look hb1 H12.out)
              replace HI2 := Lib.hid (HI2.out.below hb1)
              clear hb1
              iterate 5 (refine wl_k rfl (fun K hK => ?_); go_simp; refine hK _ ?_; clear hK K)
              have h4 := below_look HB.out H42.out
              go_upto_region 20 with (fail)
              apply wp_region_lit
              ((with_reducible apply wl_rowG); exact rfl; exact rfl; exact rowS h4); try simp only [Zy]
              refine wl_k rfl (fun K hK => ?_); go_simp; refine hK _ ?_; clear hK K
              refine wl_ck rfl (fun K hK => ?_); go_simp; refine ⟨_, _, ⟨rfl, rfl⟩, hK _ _ ⟨_, LenI_yes _ X 0 HGX.out k hk8I _ (HDF.out.here.below HB.out), ?_⟩⟩; clear hK K; rintro e wj ⟨rfl, hb1⟩; refine ⟨_, rfl, ?_⟩; simp only [Zq]
              rw [← HYB.out]
              replace HB := Lib.hid (HB.out.trans (hb1.mono HB.out.size))
              replace H12 := Lib.hid (below_look hb1 H12.out)
              replace HI2 := Lib.hid (HI2.out.below hb1)
              clear hb1 h4
              iterate 5 (refine wl_k rfl (fun K hK => ?_); go_simp; refine hK _ ?_; clear hK K)
              obtain ⟨v1, hz1, hx1, D1, it1⟩ := HI1.out k hk8
              rw [← HYB.out] at it1
              have hsm := HSM.out k
              rw [← HYB.out] at hsm
              have HC1 := below_look HB.out HQ1.out
              have HX1 := Lib.hid hx1
              have HZ1 := Lib.hid hz1
              have HT1 := Lib.hid it1
              obtain ⟨LA, hLA⟩ : ∃ LA, LA = lenA YB := ⟨_, rfl⟩
              rw [← hLA]
              clear hx1 it1 hz1 hLA HYB
              go_upto_region 21 with (fail)
              refine wp_region_held_drew (S := Kept [] wj) mixed (Kept.drew [] wj) (fun hS => ?_)
              refine hk3 (i := 0) rfl (by kernel_rfl) Zh hS rfl (fun K hK => ?_); go_simp; refine hK _ ?_; clear hK K; try simp only [Zq]
              refine hk3 (i := 1) rfl (by kernel_rfl) Zh hS rfl (fun K hK => ?_); go_simp; refine hK _ ?_; clear hK K; try simp only [Zq]
              refine hk3 (i := 2) rfl (by kernel_rfl) Zh hS rfl (fun K hK => ?_); go_simp; refine hK _ ?_; clear hK K; try simp only [Zq]
              (refine hv3 (i := 3) rfl (by kernel_rfl) Zg hS rfl (fun w' hw' => ex_row rfl ((fun h => row_mid h HX1.out Ytbhdgeoljlhmcaa.u32 rfl HZ1.out info32) (hw'.look HC1 (by simp)))) ?_; try simp only [Zy])
              (refine hv3 (i := 4) rfl (by kernel_rfl) Zg hS rfl (fun w' hw' => ex_row rfl ((fun h => row_mid h (off := 0) (by rw [← HZC.out]; simp) Ytbhdgeoljlhmcaa.u32 rfl HZC.out info32) (hw'.look H12.out (by simp)))) ?_; try simp only [Zy])
              have hdj := (Below.refl wj.heap.size wj).drew
              refine ha_call (i := 5) (by kernel_rfl) rfl rfl (fun K hK => ?_); go_simp; refine ⟨_, _, ⟨rfl, rfl⟩, hK _ _ ⟨_, EqItem_at YB YB (by have := hsm.1; omega) (by have := hsm.2; have := pairsT_le YB.t; omega) rfl rfl rfl rfl (HT1.out.below (HB.out.trans (hdj.mono HB.out.size))) (HI2.out.below hdj), ?_⟩⟩; clear hK K; rintro e wk ⟨rfl, hb1⟩; refine ⟨_, rfl, hS.below hb1, ?_⟩; replace hS := hS.below hb1; (clear hb1); try simp only [Zq]
              refine hk3 (i := 6) rfl (by kernel_rfl) Zh hS rfl (fun K hK => ?_); go_simp; refine hK _ ?_; clear hK K; try simp only [Zq]
              refine hk3 (i := 7) rfl (by kernel_rfl) Zh hS rfl (fun K hK => ?_); go_simp; refine hK _ ?_; clear hK K; try simp only [Zq]
              refine hk3 (i := 8) rfl (by kernel_rfl) Zh hS rfl (fun K hK => ?_); go_simp; refine hK _ ?_; clear hK K; try simp only [Zq]
              refine hk3 (i := 9) rfl (by kernel_rfl) Zh hS rfl (fun K hK => ?_); go_simp; refine hK _ ?_; clear hK K; try simp only [Zq]
              refine hk3 (i := 10) rfl (by kernel_rfl) Zh hS rfl (fun K hK => ?_); go_simp; refine hK _ ?_; clear hK K; try simp only [Zq]
              refine hk3 (i := 11) rfl (by kernel_rfl) Zh hS rfl (fun K hK => ?_); go_simp; refine hK _ ?_; clear hK K; try simp only [Zq]
              refine hk3 (i := 12) rfl (by kernel_rfl) Zh hS rfl (fun K hK => ?_); go_simp; refine hK _ ?_; clear hK K; try simp only [Zq]
              refine hk3 (i := 13) rfl (by kernel_rfl) Zh hS rfl (fun K hK => ?_); go_simp; refine hK _ ?_; clear hK K; try simp only [Zq]
              refine hk3 (i := 14) rfl (by kernel_rfl) Zh hS rfl (fun K hK => ?_); go_simp; refine hK _ ?_; clear hK K; try simp only [Zq]
              refine hk3 (i := 15) rfl (by kernel_rfl) Zh hS rfl (fun K hK => ?_); go_simp; refine hK _ ?_; clear hK K; try simp only [Zq]
              refine wpAnyH_done (by kernel_rfl) ?_ _
              have HB2 : Hid (Below wf.heap.size wf _) := Lib.hid (HB.out.trans (hS.toBelow HB.out.size (by simp)))
              clear hS HB hdj H12 HI2 HC1 HX1 HT1
              go_wp2_with fail
              go_roundw
              case rel => exact ⟨k + 1, by omega, by go_num, HB2⟩
              case measure => simp [intOf]; omega
            · obtain rfl : k = 8 := by omega
              replace HS := Lib.hid (HS.out.below HB.out)
              replace HDF := Lib.hid (HDF.out.below HB.out)
              replace H42 := Lib.hid (below_look HB.out H42.out)
              replace hbw := hbw.trans (HB.out.mono hbw.size)
              rw [HX.out] at HS HDF
              clear HI1 HQ1 HSM HB HGX HX
              go_wp2_with fail
              go_roundw
              case rel => exact ⟨j + 1, rs2, nv2, bv2, M2, sh2, by omega, by go_num, HS, HSI, H42, HDF, HNP, hbw⟩
              case measure => simp [intOf]; omega
      · obtain rfl : j = n := by omega
        clear HS HSI H4 HDF HNP
        go_upto_region 23 with (fail)
        apply wp_region_lit
        refine wl_ck rfl (fun K hK => ?_); go_simp; refine ⟨_, _, ⟨rfl, rfl⟩, hK _ _ ⟨_, awake_any _, ?_⟩⟩; clear hK K; rintro e w15 ⟨rfl, hb1⟩; refine ⟨_, rfl, ?_⟩; simp only [Zq]
        replace hbw := hbw.trans (hb1.mono hbw.size)
        clear hb1
        go_wp2_with fail
        go_ret
        exact ⟨rfl, hbw⟩
end Go.Proofs.Ytbhdgeoljlhmcaa
