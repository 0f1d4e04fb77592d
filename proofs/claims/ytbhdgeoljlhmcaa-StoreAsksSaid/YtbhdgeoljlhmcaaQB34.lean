/- The law StoreAsks, walked. -/
import Derived.Outline
import Derived.Test.YtbhdgeoljlhmcaaQB26
import Derived.Test.YtbhdgeoljlhmcaaQB11
import Derived.Test.YtbhdgeoljlhmcaaQB33
namespace Go.Proofs.Ytbhdgeoljlhmcaa
open Go.RowKit Go.Proofs.Ytbhdgeoljlhmcaa.Nm Go.Proofs.Ytbhdgeoljlhmcaa.St
set_option linter.unusedSimpArgs false
def xcells (a b i : Int) (k : ByteArray) : Array Value := #[.int .i64 a, .int .i64 b, .int .i64 i, .string k]
theorem x_cell {w : World} {g : Nat} {a b i : Int} {k : ByteArray} (h : w.heap[g]? = some (.cells (xcells a b i k) 75 (0, 0))) :
    w.cell? ⟨g, 0, none⟩ = some (.int .i64 a) ∧ w.cell? ⟨g, 1, none⟩ = some (.int .i64 b) ∧ w.cell? ⟨g, 2, none⟩ = some (.int .i64 i) ∧ w.cell? ⟨g, 3, none⟩ = some (.string k) := by
  rw [cell_of_row _ _ _ _ _ _ h, cell_of_row _ _ _ _ _ _ h, cell_of_row _ _ _ _ _ _ h, cell_of_row _ _ _ _ _ _ h]
  exact ⟨rfl, rfl, rfl, rfl⟩
set_option maxHeartbeats 8000000 in
set_option maxRecDepth 100000 in
theorem StoreAsks_any (A : Option Addr) (n c : Nat) (l : List OpV) (xa xb xi : Int) (xk : ByteArray) (w : World) (h : OpsAt w A n l) :
    Calls Try.prog 12 #[.slice A n c, .agg (xcells xa xb xi xk)] w fun e w' => e = .returned (.bool true) ∧ Below w.heap.size w w' := by
  have HO := Lib.hid h
  clear h
  go_enter Try.func12, Try.ntmps12
  go_upto_region 1 with (fail)
  refine wp_world (fun W => Below w.heap.size w W ∧ W.heap[w.heap.size]? = some (.cells (xcells xa xb xi xk) 75 (0, 0))) ⟨(Below.refl w.heap.size w).alloc (Nat.le_refl _) _, ha_new rfl⟩ ?_
  rintro W ⟨hbw, g0⟩
  apply wp_region_lit
  refine wl_k rfl (fun K hK => ?_); go_simp; refine hK _ ?_; clear hK K
  refine wl_ck rfl (fun K hK => ?_); go_simp; refine ⟨_, _, ⟨rfl, rfl⟩, hK _ _ ⟨_, heavy_any A n c l _ (HO.out.below hbw), ?_⟩⟩; clear hK K; rintro e w1 ⟨q1, rfl, hle, hb1⟩; refine ⟨_, rfl, ?_⟩; simp only [Zq]
  replace g0 := below_look hb1 g0
  replace hbw := hbw.trans (hb1.mono hbw.size)
  clear hb1
  obtain ⟨y0, y1, y2, y3⟩ := x_cell g0
  cases q1 with
  | true =>
    clear hle
    go_wp2_with fail
    go_ret
    exact ⟨rfl, hbw⟩
  | false =>
    have hn := hle rfl
    clear hle
    by_cases hkl : 200 < (xk.size : Int)
    · go_wp2_with fail
      go_ret
      exact ⟨rfl, hbw⟩
    · go_upto_region 3 with (fail)
      apply wp_region_lit
      have hz0 := heap_lt g0
      refine wl_ck rfl (fun K hK => ?_); go_simp; refine ⟨_, _, ⟨rfl, rfl⟩, hK _ _ ⟨_, New_any w1, ?_⟩⟩; clear hK K; rintro e w2 ⟨rfl, hst, hb2⟩; refine ⟨_, rfl, ?_⟩; simp only [Zq]
      replace g0 := below_look hb2 g0
      obtain ⟨s, hs⟩ : ∃ s, s = w1.heap.size := ⟨_, rfl⟩
      have HS := Lib.hid hst
      have HSI0 := Lib.hid (since_new w1)
      have hz1 := hbw.size
      rw [← hs] at HS ⊢
      have HSI : Hid (Since w.heap.size s []) := Lib.hid (fun q hq => by have := HSI0.out q (by rw [← hs]; exact hq); omega)
      replace hbw := hbw.trans (hb2.mono hz1)
      clear hst hs hb2 hz1 HSI0
      refine wl_ck rfl (fun K hK => ?_); go_simp; refine ⟨_, _, ⟨rfl, rfl⟩, hK _ _ ⟨_, NewI_any w2, ?_⟩⟩; clear hK K; rintro e w3 ⟨v1, rfl, hd1, hb3⟩; refine ⟨_, rfl, ?_⟩; simp only [Zq]
      obtain ⟨nv1, bv1, M1, sh1, rfl, hone1, hM1, hsh1⟩ := hd1.form
      have HDF0 : Hid (DFar w3 (.agg (sc66 nv1 bv1 M1 sh1)) (stA l 0) (Foot s [])) := Lib.hid (DFar.fresh hd1 (fun q hq => HS.out.lt hq))
      replace HS := Lib.hid (HS.out.below hb3)
      replace hbw := hbw.trans (hb3.mono hbw.size)
      replace g0 := below_look hb3 g0
      clear hd1 hb3 hM1 hsh1 y0 y1 y2 y3
      refine wl_new (fun ev w => ex_alloc66 rfl ev w) ?_
      intro W5 p6 hb5 hl5 h5
      refine wl_k rfl (fun K hK => ?_); go_simp; refine hK _ ?_; clear hK K
      refine wl_putG p6 (sc66 nv1 bv1 M1 sh1) rfl rfl 66 _ h5 info66 rfl hone1 ?_
      rw [put_noneA]
      have hwp6 : w.heap.size < p6 := Nat.lt_of_lt_of_le (heap_lt g0) hl5
      have hnp : ¬ Foot s [] p6 := fun hf => by have := HS.out.lt hf; omega
      have HDF : Hid (DFar (W5.setRow p6 (sc66 nv1 bv1 M1 sh1)) (.agg (sc66 nv1 bv1 M1 sh1)) (stA l 0) (Beside s [] p6)) := Lib.hid (HDF0.out.step (by have := hb5.size; simpa using this) (fun q hq _ => (setRow_other _ _ _ _ (by omega)).trans (hb5.block q hq)) (fun q hq => hq.elim Or.inl (fun e => Or.inr (by omega))))
      replace HS := Lib.hid ((HS.out.below hb5).rowT hnp (sc66 nv1 bv1 M1 sh1))
      have H4 := Lib.hid (hr_new (cs := sc66 nv1 bv1 M1 sh1) h5)
      have HNP := Lib.hid hnp
      replace g0 : (W5.setRow p6 (sc66 nv1 bv1 M1 sh1)).heap[w.heap.size]? = _ := hr_old (below_look hb5 g0) (by omega)
      replace hbw := below_setRow (hbw.trans (hb5.mono hbw.size)) (g := p6) (Nat.le_trans hbw.size hl5) (sc66 nv1 bv1 M1 sh1)
      clear hb5 h5 hl5 hone1 HDF0 hnp
      generalize W5.setRow p6 (sc66 nv1 bv1 M1 sh1) = w5 at *
      have hws : ¬ Foot s [] w.heap.size := fun hf => by
        have hf2 : w.heap.size = s := by
          rcases hf with e | ⟨k, r, hr, _⟩
          · exact e
          · simp at hr
        have := HS.out.main
        rw [← hf2, g0] at this
        simp only [Option.some.injEq, Obj.cells.injEq] at this
        exact absurd this.2.1 (by decide)
      have HWS := Lib.hid hws
      clear hws
      go_wp2_with fail
      go_loopw [7] (fun i wr => ∃ (j : Nat) (rs : List Row) (nv bv : Value) (M sh : Int), j ≤ n ∧ i = .int .i64 (j : Int) ∧ Hid (StoreAt wr s (stA l j) rs) ∧ Hid (Since w.heap.size s rs) ∧ Hid (wr.heap[p6]? = some (.cells (sc66 nv bv M sh) 66 (0, 0))) ∧ Hid (DFar wr (.agg (sc66 nv bv M sh)) (stA l j) (Beside s rs p6)) ∧ Hid (¬ Foot s rs p6) ∧ Hid (¬ Foot s rs w.heap.size) ∧ Hid (wr.heap[w.heap.size]? = some (.cells (xcells xa xb xi xk) 75 (0, 0))) ∧ Below w.heap.size w wr) (fun i _ => n - (intOf i).toNat)
      case atStart => exact ⟨0, [], nv1, bv1, M1, sh1, by omega, rfl, HS, HSI, H4, HDF, HNP, HWS, Lib.hid g0, hbw⟩
      case round =>
        clear HS HSI H4 HDF HNP HWS g0 hbw
        obtain ⟨j, rs, nv, bv, M, sh, hj, rfl, HS, HSI, H4, HDF, HNP, HWS, G0, hbw⟩ := hrel
        by_cases hlt : j < n
        · have hltI : (j : Int) < (n : Int) := by omega
          obtain ⟨b, off, rfl⟩ := HO.out.addr hlt
          obtain ⟨o, ho⟩ : ∃ o, l[j]? = some o := ⟨_, List.getElem?_eq_getElem (by rw [HO.out.1]; exact hlt)⟩
          have HOJ := Lib.hid ho
          have HST := Lib.hid (stA_step HOJ.out (show j < 200 by omega))
          have hbd := stA_bound l j
          have HG := Lib.hid (stA_good l j)
          clear ho
          go_upto_region 9 with (fail)
          apply wp_region_lit
          iterate 4 (refine wl_k rfl (fun K hK => ?_); go_simp; refine hK _ ?_; clear hK K)
          ((with_reducible apply wl_rowG); exact rfl; exact rfl; exact (HO.out.below hbw).row HOJ.out)
          simp only [Zq]
          have hz6 := hbw.size
          have hp4l := heap_lt H4.out
          have hg0l := heap_lt G0.out
          refine wl_ck rfl (fun K hK => ?_); go_simp; refine ⟨_, _, ⟨rfl, rfl⟩, hK _ _ ⟨_, Do_any s (stA l j) rs (stA_good l j) (by omega) hbd.2.1 (by omega) o _ HS.out, ?_⟩⟩; clear hK K; rintro e w7 ⟨rfl, rs2, hst2, hran⟩; refine ⟨_, rfl, ?_⟩; simp only [Zq]
          rw [← HST.out.1] at hst2
          replace HS := Lib.hid hst2
          replace hbw := hbw.trans (hran.toBelow HSI.out hbw.size)
          replace HSI := Lib.hid (HSI.out.ran hran hz6)
          replace H4 := Lib.hid ((hran.block p6 hp4l HNP.out).trans H4.out)
          replace G0 := Lib.hid ((hran.block _ hg0l HWS.out).trans G0.out)
          replace HDF := Lib.hid (HDF.out.ran hran)
          replace HNP : Hid (¬ Foot s rs2 p6) := Lib.hid (fun hf => (hran.foot p6 hf).elim HNP.out (fun e => by omega))
          replace HWS : Hid (¬ Foot s rs2 w.heap.size) := Lib.hid (fun hf => (hran.foot _ hf).elim HWS.out (fun e => by omega))
          clear hst2 hran hz6 hp4l hg0l
          go_upto_region 10 with (fail)
          refine wp_region_held_drew (S := Kept [p6] w7) mixed (Kept.drew [p6] w7) (fun hS => ?_)
          refine hk3 (i := 1) rfl (by kernel_rfl) Zh hS rfl (fun K hK => ?_); go_simp; refine hK _ ?_; clear hK K; try simp only [Zq]
          refine hk3 (i := 2) rfl (by kernel_rfl) Zh hS rfl (fun K hK => ?_); go_simp; refine hK _ ?_; clear hK K; try simp only [Zq]
          refine hk3 (i := 3) rfl (by kernel_rfl) Zh hS rfl (fun K hK => ?_); go_simp; refine hK _ ?_; clear hK K; try simp only [Zq]
          (refine hv3 (i := 4) rfl (by kernel_rfl) Zg hS rfl (fun w' hw' => ex_row rfl ((HO.out.below (hbw.trans (hw'.toBelow hbw.size (by simp; omega)))).row HOJ.out)) ?_; try simp only [Zy])
          replace HS := Lib.hid (HS.out.below (Below.refl _ w7).drew)
          replace HDF := Lib.hid (HDF.out.below (Below.refl _ w7).drew)
          replace H4 : Hid (w7.drew.heap[p6]? = _) := Lib.hid H4.out
          replace G0 : Hid (w7.drew.heap[w.heap.size]? = _) := Lib.hid G0.out
          replace hbw := hbw.drew
          generalize w7.drew = wd at *
          refine ha_do (i := 0) (by kernel_rfl) rfl rfl (ex_row rfl (rowS H4.out)) hS ?_; try simp only [Zy]
          refine ha_call (i := 5) (by kernel_rfl) rfl rfl (fun K hK => ?_); go_simp; refine ⟨_, _, ⟨rfl, rfl⟩, hK _ _ ⟨_, (DoI_any _ (stA l j) 0 HG.out (by omega) hbd.2.1 (by omega) o _ HDF.out.here).mono (fun e w' hp ↦ hp.far HDF.out (fun q hq ↦ hq.elim (fun hf ↦ HS.out.lt hf) (fun e ↦ by rw [e]; exact heap_lt H4.out))), ?_⟩⟩; clear hK K; rintro e w8 ⟨nv2, bv2, M2, sh2, rfl, hone2, hM2, hsh2, hb1, hd2⟩; refine ⟨_, rfl, hS.below hb1, ?_⟩; replace hS := hS.below hb1; (rw [← HST.out.1] at hd2; replace HS := Lib.hid (HS.out.below hb1); replace H4 := Lib.hid (below_look hb1 H4.out); replace G0 := Lib.hid (below_look hb1 G0.out); replace hbw := hbw.trans (hb1.mono hbw.size); replace HDF := Lib.hid hd2; clear hd2 hM2 hsh2 hb1); try simp only [Zq]
          try simp only [Zy]
          refine hk3 (i := 6) rfl (by kernel_rfl) Zh hS rfl (fun K hK => ?_); go_simp; refine hK _ ?_; clear hK K; try simp only [Zq]
          refine hk3 (i := 7) rfl (by kernel_rfl) Zh hS rfl (fun K hK => ?_); go_simp; refine hK _ ?_; clear hK K; try simp only [Zq]
          refine hk3 (i := 8) rfl (by kernel_rfl) Zh hS rfl (fun K hK => ?_); go_simp; refine hK _ ?_; clear hK K; try simp only [Zq]
          refine ha_store (i := 9) (by kernel_rfl) rfl rfl 66 _ _ rfl p6 (sc66 nv2 bv2 M2 sh2) rfl rfl 66 _ H4.out info66 rfl hone2 (hS.setRow (by simp) _) (fun hS => ?_); try simp only [Zy]
          refine wpAnyH_done (by kernel_rfl) ?_ _
          rw [put_noneA]
          have H42 := Lib.hid (hr_new (cs := sc66 nv2 bv2 M2 sh2) H4.out)
          replace HS := Lib.hid (HS.out.rowT HNP.out (sc66 nv2 bv2 M2 sh2))
          replace HDF := Lib.hid (HDF.out.row (sc66 nv2 bv2 M2 sh2))
          replace G0 : Hid ((w8.setRow p6 (sc66 nv2 bv2 M2 sh2)).heap[w.heap.size]? = _) := Lib.hid (hr_old G0.out (by omega))
          replace hbw := below_setRow hbw (g := p6) (by omega) (sc66 nv2 bv2 M2 sh2)
          clear hS H4 hone2 HST HG HOJ hbd
          go_wp2_with fail
          go_roundw
          case rel => exact ⟨j + 1, rs2, nv2, bv2, M2, sh2, by omega, by go_num, HS, HSI, H42, HDF, HNP, HWS, G0, hbw⟩
          case measure => simp [intOf]; omega
        · obtain rfl : j = n := by omega
          obtain ⟨X, hX⟩ : ∃ X, X = stA l j := ⟨_, rfl⟩
          have HGX : Hid (Good X) := Lib.hid (by rw [hX]; exact stA_good l j)
          rw [← hX] at HS HDF
          have g0 := G0.out
          have hxk : xk.size ≤ 1000000000 := by omega
          clear hX HSI HNP HWS G0
          obtain ⟨y0, y1, y2, y3⟩ := x_cell g0
          obtain ⟨GV, hGV⟩ : ∃ G, G = getN X xa xk := ⟨_, rfl⟩
          obtain ⟨AV, hAV⟩ : ∃ G, G = atN X xa xi := ⟨_, rfl⟩
          obtain ⟨LV, hLV⟩ : ∃ G, G = lenN X xa := ⟨_, rfl⟩
          obtain ⟨SV, hSV⟩ : ∃ G, G = sameN X xa xb := ⟨_, rfl⟩
          have HGV := Lib.hid hGV
          have HAV := Lib.hid hAV
          have HLV := Lib.hid hLV
          have HSV := Lib.hid hSV
          obtain ⟨gv, ge⟩ := GV
          obtain ⟨av, ae⟩ := AV
          obtain ⟨lv, le⟩ := LV
          obtain ⟨sv, se⟩ := SV
          clear hGV hAV hLV hSV
          go_upto_region 11 with (fail)
          apply wp_region_lit
          iterate 2 (refine wl_k rfl (fun K hK => ?_); go_simp; refine hK _ ?_; clear hK K)
          ((with_reducible apply wl_oneG); exact rfl; exact rfl; exact one3 y0); try simp only [Zy]
          refine wl_k rfl (fun K hK => ?_); go_simp; refine hK _ ?_; clear hK K
          ((with_reducible apply wl_oneG); exact rfl; exact rfl; exact one9 y3); try simp only [Zy]
          refine wl_ck rfl (fun K hK => ?_); go_simp; refine ⟨_, _, ⟨rfl, rfl⟩, hK _ _ ⟨_, Get_gen s X rs HGX.out xa xk hxk _ HS.out, ?_⟩⟩; clear hK K; rintro e w11 ⟨rfl, hb1⟩; refine ⟨_, rfl, ?_⟩; simp only [Zq]
          rw [← HGV.out]
          replace g0 := below_look hb1 g0
          replace HS := Lib.hid (HS.out.below hb1)
          replace HDF := Lib.hid (HDF.out.below hb1)
          replace H4 := Lib.hid (below_look hb1 H4.out)
          replace hbw := hbw.trans (hb1.mono hbw.size)
          clear hb1
          obtain ⟨y0, y1, y2, y3⟩ := x_cell g0
          iterate 5 (refine wl_k rfl (fun K hK => ?_); go_simp; refine hK _ ?_; clear hK K)
          go_upto_region 12 with (fail)
          apply wp_region_lit
          ((with_reducible apply wl_rowG); exact rfl; exact rfl; exact rowS H4.out); try simp only [Zy]
          refine wl_k rfl (fun K hK => ?_); go_simp; refine hK _ ?_; clear hK K
          ((with_reducible apply wl_oneG); exact rfl; exact rfl; exact one3 y0); try simp only [Zy]
          refine wl_k rfl (fun K hK => ?_); go_simp; refine hK _ ?_; clear hK K
          ((with_reducible apply wl_oneG); exact rfl; exact rfl; exact one9 y3); try simp only [Zy]
          refine wl_ck rfl (fun K hK => ?_); go_simp; refine ⟨_, _, ⟨rfl, rfl⟩, hK _ _ ⟨_, GetI_gen _ X 0 HGX.out xa xk _ HDF.out.here, ?_⟩⟩; clear hK K; rintro e w12 ⟨rfl, hb1⟩; refine ⟨_, rfl, ?_⟩; simp only [Zq]
          rw [← HGV.out]
          replace g0 := below_look hb1 g0
          replace HS := Lib.hid (HS.out.below hb1)
          replace HDF := Lib.hid (HDF.out.below hb1)
          replace H4 := Lib.hid (below_look hb1 H4.out)
          replace hbw := hbw.trans (hb1.mono hbw.size)
          clear hb1
          obtain ⟨y0, y1, y2, y3⟩ := x_cell g0
          iterate 5 (refine wl_k rfl (fun K hK => ?_); go_simp; refine hK _ ?_; clear hK K)
          go_upto_region 13 with (fail)
          apply wp_region_lit
          iterate 2 (refine wl_k rfl (fun K hK => ?_); go_simp; refine hK _ ?_; clear hK K)
          ((with_reducible apply wl_oneG); exact rfl; exact rfl; exact one3 y0); try simp only [Zy]
          refine wl_k rfl (fun K hK => ?_); go_simp; refine hK _ ?_; clear hK K
          ((with_reducible apply wl_oneG); exact rfl; exact rfl; exact one3 y2); try simp only [Zy]
          refine wl_ck rfl (fun K hK => ?_); go_simp; refine ⟨_, _, ⟨rfl, rfl⟩, hK _ _ ⟨_, At_gen s X rs HGX.out xa xi _ HS.out, ?_⟩⟩; clear hK K; rintro e w13 ⟨rfl, hb1⟩; refine ⟨_, rfl, ?_⟩; simp only [Zq]
          rw [← HAV.out]
          replace g0 := below_look hb1 g0
          replace HS := Lib.hid (HS.out.below hb1)
          replace HDF := Lib.hid (HDF.out.below hb1)
          replace H4 := Lib.hid (below_look hb1 H4.out)
          replace hbw := hbw.trans (hb1.mono hbw.size)
          clear hb1
          obtain ⟨y0, y1, y2, y3⟩ := x_cell g0
          iterate 5 (refine wl_k rfl (fun K hK => ?_); go_simp; refine hK _ ?_; clear hK K)
          go_upto_region 14 with (fail)
          apply wp_region_lit
          ((with_reducible apply wl_rowG); exact rfl; exact rfl; exact rowS H4.out); try simp only [Zy]
          refine wl_k rfl (fun K hK => ?_); go_simp; refine hK _ ?_; clear hK K
          ((with_reducible apply wl_oneG); exact rfl; exact rfl; exact one3 y0); try simp only [Zy]
          refine wl_k rfl (fun K hK => ?_); go_simp; refine hK _ ?_; clear hK K
          ((with_reducible apply wl_oneG); exact rfl; exact rfl; exact one3 y2); try simp only [Zy]
          refine wl_ck rfl (fun K hK => ?_); go_simp; refine ⟨_, _, ⟨rfl, rfl⟩, hK _ _ ⟨_, AtI_gen _ X 0 HGX.out xa xi _ HDF.out.here, ?_⟩⟩; clear hK K; rintro e w14 ⟨rfl, hb1⟩; refine ⟨_, rfl, ?_⟩; simp only [Zq]
          rw [← HAV.out]
          replace g0 := below_look hb1 g0
          replace HS := Lib.hid (HS.out.below hb1)
          replace HDF := Lib.hid (HDF.out.below hb1)
          replace H4 := Lib.hid (below_look hb1 H4.out)
          replace hbw := hbw.trans (hb1.mono hbw.size)
          clear hb1
          obtain ⟨y0, y1, y2, y3⟩ := x_cell g0
          iterate 5 (refine wl_k rfl (fun K hK => ?_); go_simp; refine hK _ ?_; clear hK K)
          go_upto_region 15 with (fail)
          apply wp_region_lit
          iterate 2 (refine wl_k rfl (fun K hK => ?_); go_simp; refine hK _ ?_; clear hK K)
          ((with_reducible apply wl_oneG); exact rfl; exact rfl; exact one3 y0); try simp only [Zy]
          refine wl_ck rfl (fun K hK => ?_); go_simp; refine ⟨_, _, ⟨rfl, rfl⟩, hK _ _ ⟨_, Len_gen s X rs HGX.out xa _ HS.out, ?_⟩⟩; clear hK K; rintro e w15 ⟨rfl, hb1⟩; refine ⟨_, rfl, ?_⟩; simp only [Zq]
          rw [← HLV.out]
          replace g0 := below_look hb1 g0
          replace HS := Lib.hid (HS.out.below hb1)
          replace HDF := Lib.hid (HDF.out.below hb1)
          replace H4 := Lib.hid (below_look hb1 H4.out)
          replace hbw := hbw.trans (hb1.mono hbw.size)
          clear hb1
          obtain ⟨y0, y1, y2, y3⟩ := x_cell g0
          iterate 5 (refine wl_k rfl (fun K hK => ?_); go_simp; refine hK _ ?_; clear hK K)
          go_upto_region 16 with (fail)
          apply wp_region_lit
          ((with_reducible apply wl_rowG); exact rfl; exact rfl; exact rowS H4.out); try simp only [Zy]
          refine wl_k rfl (fun K hK => ?_); go_simp; refine hK _ ?_; clear hK K
          ((with_reducible apply wl_oneG); exact rfl; exact rfl; exact one3 y0); try simp only [Zy]
          refine wl_ck rfl (fun K hK => ?_); go_simp; refine ⟨_, _, ⟨rfl, rfl⟩, hK _ _ ⟨_, LenI_gen _ X 0 HGX.out xa _ HDF.out.here, ?_⟩⟩; clear hK K; rintro e w16 ⟨rfl, hb1⟩; refine ⟨_, rfl, ?_⟩; simp only [Zq]
          rw [← HLV.out]
          replace g0 := below_look hb1 g0
          replace HS := Lib.hid (HS.out.below hb1)
          replace HDF := Lib.hid (HDF.out.below hb1)
          replace H4 := Lib.hid (below_look hb1 H4.out)
          replace hbw := hbw.trans (hb1.mono hbw.size)
          clear hb1
          obtain ⟨y0, y1, y2, y3⟩ := x_cell g0
          iterate 5 (refine wl_k rfl (fun K hK => ?_); go_simp; refine hK _ ?_; clear hK K)
          go_upto_region 17 with (fail)
          apply wp_region_lit
          iterate 2 (refine wl_k rfl (fun K hK => ?_); go_simp; refine hK _ ?_; clear hK K)
          ((with_reducible apply wl_oneG); exact rfl; exact rfl; exact one3 y0); try simp only [Zy]
          refine wl_k rfl (fun K hK => ?_); go_simp; refine hK _ ?_; clear hK K
          ((with_reducible apply wl_oneG); exact rfl; exact rfl; exact one3 y1); try simp only [Zy]
          refine wl_ck rfl (fun K hK => ?_); go_simp; refine ⟨_, _, ⟨rfl, rfl⟩, hK _ _ ⟨_, Same_gen s X rs HGX.out xa xb _ HS.out, ?_⟩⟩; clear hK K; rintro e w17 ⟨rfl, hb1⟩; refine ⟨_, rfl, ?_⟩; simp only [Zq]
          rw [← HSV.out]
          replace g0 := below_look hb1 g0
          replace HS := Lib.hid (HS.out.below hb1)
          replace HDF := Lib.hid (HDF.out.below hb1)
          replace H4 := Lib.hid (below_look hb1 H4.out)
          replace hbw := hbw.trans (hb1.mono hbw.size)
          clear hb1
          obtain ⟨y0, y1, y2, y3⟩ := x_cell g0
          iterate 5 (refine wl_k rfl (fun K hK => ?_); go_simp; refine hK _ ?_; clear hK K)
          go_upto_region 18 with (fail)
          apply wp_region_lit
          ((with_reducible apply wl_rowG); exact rfl; exact rfl; exact rowS H4.out); try simp only [Zy]
          refine wl_k rfl (fun K hK => ?_); go_simp; refine hK _ ?_; clear hK K
          ((with_reducible apply wl_oneG); exact rfl; exact rfl; exact one3 y0); try simp only [Zy]
          refine wl_k rfl (fun K hK => ?_); go_simp; refine hK _ ?_; clear hK K
          ((with_reducible apply wl_oneG); exact rfl; exact rfl; exact one3 y1); try simp only [Zy]
          refine wl_ck rfl (fun K hK => ?_); go_simp; refine ⟨_, _, ⟨rfl, rfl⟩, hK _ _ ⟨_, SameI_gen _ X 0 HGX.out xa xb _ HDF.out.here, ?_⟩⟩; clear hK K; rintro e w18 ⟨rfl, hb1⟩; refine ⟨_, rfl, ?_⟩; simp only [Zq]
          rw [← HSV.out]
          replace g0 := below_look hb1 g0
          replace HS := Lib.hid (HS.out.below hb1)
          replace HDF := Lib.hid (HDF.out.below hb1)
          replace H4 := Lib.hid (below_look hb1 H4.out)
          replace hbw := hbw.trans (hb1.mono hbw.size)
          clear hb1
          obtain ⟨y0, y1, y2, y3⟩ := x_cell g0
          iterate 5 (refine wl_k rfl (fun K hK => ?_); go_simp; refine hK _ ?_; clear hK K)
          clear HS HDF H4 HGX HGV HAV HLV HSV
          go_upto_region 22 with (fail)
          apply wp_region_lit
          refine wl_k rfl (fun K hK => ?_); go_simp; refine hK _ ?_; clear hK K
          refine wl_ck rfl (fun K hK => ?_); go_simp; refine ⟨_, _, ⟨rfl, rfl⟩, hK _ _ ⟨_, Item_nil _ _, ?_⟩⟩; clear hK K; rintro e w22 ⟨rfl, hb1⟩; refine ⟨_, rfl, ?_⟩; simp only [Zq]
          replace g0 := below_look hb1 g0
          replace hbw := hbw.trans (hb1.mono hbw.size)
          clear hb1
          obtain ⟨y0, y1, y2, y3⟩ := x_cell g0
          iterate 4 (refine wl_k rfl (fun K hK => ?_); go_simp; refine hK _ ?_; clear hK K)
          go_upto_region 23 with (fail)
          apply wp_region_lit
          iterate 2 (refine wl_k rfl (fun K hK => ?_); go_simp; refine hK _ ?_; clear hK K)
          ((with_reducible apply wl_oneG); exact rfl; exact rfl; exact one3 y0); try simp only [Zy]
          refine wl_k rfl (fun K hK => ?_); go_simp; refine hK _ ?_; clear hK K
          ((with_reducible apply wl_oneG); exact rfl; exact rfl; exact one9 y3); try simp only [Zy]
          refine wl_ck rfl (fun K hK => ?_); go_simp; refine ⟨_, _, ⟨rfl, rfl⟩, hK _ _ ⟨_, Get_nil _ _ _, ?_⟩⟩; clear hK K; rintro e w23 ⟨rfl, hb1⟩; refine ⟨_, rfl, ?_⟩; simp only [Zq]
          replace g0 := below_look hb1 g0
          replace hbw := hbw.trans (hb1.mono hbw.size)
          clear hb1
          obtain ⟨y0, y1, y2, y3⟩ := x_cell g0
          iterate 4 (refine wl_k rfl (fun K hK => ?_); go_simp; refine hK _ ?_; clear hK K)
          go_upto_region 24 with (fail)
          apply wp_region_lit
          iterate 2 (refine wl_k rfl (fun K hK => ?_); go_simp; refine hK _ ?_; clear hK K)
          ((with_reducible apply wl_oneG); exact rfl; exact rfl; exact one3 y0); try simp only [Zy]
          refine wl_k rfl (fun K hK => ?_); go_simp; refine hK _ ?_; clear hK K
          ((with_reducible apply wl_oneG); exact rfl; exact rfl; exact one3 y2); try simp only [Zy]
          refine wl_ck rfl (fun K hK => ?_); go_simp; refine ⟨_, _, ⟨rfl, rfl⟩, hK _ _ ⟨_, At_nil _ _ _, ?_⟩⟩; clear hK K; rintro e w24 ⟨rfl, hb1⟩; refine ⟨_, rfl, ?_⟩; simp only [Zq]
          replace g0 := below_look hb1 g0
          replace hbw := hbw.trans (hb1.mono hbw.size)
          clear hb1
          obtain ⟨y0, y1, y2, y3⟩ := x_cell g0
          iterate 4 (refine wl_k rfl (fun K hK => ?_); go_simp; refine hK _ ?_; clear hK K)
          go_upto_region 25 with (fail)
          apply wp_region_lit
          iterate 2 (refine wl_k rfl (fun K hK => ?_); go_simp; refine hK _ ?_; clear hK K)
          ((with_reducible apply wl_oneG); exact rfl; exact rfl; exact one3 y0); try simp only [Zy]
          refine wl_ck rfl (fun K hK => ?_); go_simp; refine ⟨_, _, ⟨rfl, rfl⟩, hK _ _ ⟨_, Len_nil _ _, ?_⟩⟩; clear hK K; rintro e w25 ⟨rfl, hb1⟩; refine ⟨_, rfl, ?_⟩; simp only [Zq]
          replace g0 := below_look hb1 g0
          replace hbw := hbw.trans (hb1.mono hbw.size)
          clear hb1
          obtain ⟨y0, y1, y2, y3⟩ := x_cell g0
          iterate 4 (refine wl_k rfl (fun K hK => ?_); go_simp; refine hK _ ?_; clear hK K)
          go_upto_region 26 with (fail)
          apply wp_region_lit
          iterate 2 (refine wl_k rfl (fun K hK => ?_); go_simp; refine hK _ ?_; clear hK K)
          ((with_reducible apply wl_oneG); exact rfl; exact rfl; exact one3 y0); try simp only [Zy]
          refine wl_k rfl (fun K hK => ?_); go_simp; refine hK _ ?_; clear hK K
          ((with_reducible apply wl_oneG); exact rfl; exact rfl; exact one3 y1); try simp only [Zy]
          refine wl_ck rfl (fun K hK => ?_); go_simp; refine ⟨_, _, ⟨rfl, rfl⟩, hK _ _ ⟨_, Same_nil _ _ _, ?_⟩⟩; clear hK K; rintro e w26 ⟨rfl, hb1⟩; refine ⟨_, rfl, ?_⟩; simp only [Zq]
          replace g0 := below_look hb1 g0
          replace hbw := hbw.trans (hb1.mono hbw.size)
          clear hb1
          obtain ⟨y0, y1, y2, y3⟩ := x_cell g0
          iterate 4 (refine wl_k rfl (fun K hK => ?_); go_simp; refine hK _ ?_; clear hK K)
          clear y0 y1 y2 y3 g0
          go_upto_region 29 with (fail)
          apply wp_region_lit
          refine wl_k rfl (fun K hK => ?_); go_simp; refine hK _ ?_; clear hK K
          refine wl_val rfl (ex_build 39 _ rfl (L := [(0, .int .i64 1)]) rfl aw_b1) ?_
          try simp only [Zy]
          refine wl_ck rfl (fun K hK => ?_); go_simp; refine ⟨_, _, ⟨rfl, rfl⟩, hK _ _ ⟨_, Do_nil aw1 _, ?_⟩⟩; clear hK K; rintro e w27 ⟨rfl, hb1⟩; refine ⟨_, rfl, ?_⟩; simp only [Zq]
          replace hbw := hbw.trans (hb1.mono hbw.size)
          clear hb1
          iterate 3 (refine wl_k rfl (fun K hK => ?_); go_simp; refine hK _ ?_; clear hK K)
          refine wl_ck rfl (fun K hK => ?_); go_simp; refine ⟨_, _, ⟨rfl, rfl⟩, hK _ _ ⟨_, Clone_nil _, ?_⟩⟩; clear hK K; rintro e w28 ⟨rfl, hb1⟩; refine ⟨_, rfl, ?_⟩; simp only [Zq]
          replace hbw := hbw.trans (hb1.mono hbw.size)
          clear hb1
          iterate 4 (refine wl_k rfl (fun K hK => ?_); go_simp; refine hK _ ?_; clear hK K)
          refine wl_ck rfl (fun K hK => ?_); go_simp; refine ⟨_, _, ⟨rfl, rfl⟩, hK _ _ ⟨_, Buffers_nil _, ?_⟩⟩; clear hK K; rintro e w29 ⟨rfl, hb1⟩; refine ⟨_, rfl, ?_⟩; simp only [Zq]
          replace hbw := hbw.trans (hb1.mono hbw.size)
          clear hb1
          iterate 4 (refine wl_k rfl (fun K hK => ?_); go_simp; refine hK _ ?_; clear hK K)
          refine wl_ck rfl (fun K hK => ?_); go_simp; refine ⟨_, _, ⟨rfl, rfl⟩, hK _ _ ⟨_, Shared_nil _, ?_⟩⟩; clear hK K; rintro e w30 ⟨rfl, hb1⟩; refine ⟨_, rfl, ?_⟩; simp only [Zq]
          replace hbw := hbw.trans (hb1.mono hbw.size)
          clear hb1
          iterate 3 (refine wl_k rfl (fun K hK => ?_); go_simp; refine hK _ ?_; clear hK K)
          refine wl_ck rfl (fun K hK => ?_); go_simp; refine ⟨_, _, ⟨rfl, rfl⟩, hK _ _ ⟨_, awake_any _, ?_⟩⟩; clear hK K; rintro e w31 ⟨rfl, hb1⟩; refine ⟨_, rfl, ?_⟩; simp only [Zq]
          replace hbw := hbw.trans (hb1.mono hbw.size)
          clear hb1
          iterate 2 (refine wl_k rfl (fun K hK => ?_); go_simp; refine hK _ ?_; clear hK K)
          go_wp2_with fail
          go_ret
          exact ⟨rfl, hbw⟩
end Go.Proofs.Ytbhdgeoljlhmcaa
