/- The law StoreClones, walked. -/
import Derived.Test.YtbhdgeoljlhmcaaS59
import Derived.Test.YtbhdgeoljlhmcaaN2
import Derived.Outline
namespace Go.Proofs.Ytbhdgeoljlhmcaa
open Go.RowKit Go.Proofs.Ytbhdgeoljlhmcaa.Nm Go.Proofs.Ytbhdgeoljlhmcaa.St
set_option linter.unusedSimpArgs false
set_option maxHeartbeats 4000000 in
set_option maxRecDepth 100000 in
theorem StoreClones_any (A1 : Option Addr) (n1 c1 : Nat) (l1 : List OpV) (A2 : Option Addr) (n2 c2 : Nat) (l2 : List OpV) (w : World) (h1 : OpsAt w A1 n1 l1) (h2 : OpsAt w A2 n2 l2) :
    Calls Try.prog 10 #[.slice A1 n1 c1, .slice A2 n2 c2] w fun e w' => e = .returned (.bool true) ∧ Below w.heap.size w w' := by
  have HO1 := Lib.hid h1
  have HO2 := Lib.hid h2
  clear h1 h2
  go_enter Try.func10, Try.ntmps10
  go_upto_region 1 with (fail)
  apply wp_region_lit
  refine wl_k rfl (fun K hK => ?_); go_simp; refine hK _ ?_; clear hK K
  refine wl_ck rfl (fun K hK => ?_); go_simp; refine ⟨_, _, ⟨rfl, rfl⟩, hK _ _ ⟨_, heavy_any A1 n1 c1 l1 _ HO1.out, ?_⟩⟩; clear hK K; rintro e w1 ⟨q1, rfl, hle1, hbw⟩; refine ⟨_, rfl, ?_⟩; simp only [put_lit, List.set_cons_zero, List.set_cons_succ]
  cases q1 with
  | true =>
    clear hle1
    go_wp2_with fail
    go_ret
    exact ⟨rfl, hbw⟩
  | false =>
    have hn1 := hle1 rfl
    clear hle1
    refine wl_k rfl (fun K hK => ?_); go_simp; refine hK _ ?_; clear hK K
    refine wl_k rfl (fun K hK => ?_); go_simp; refine hK _ ?_; clear hK K
    refine wl_ck rfl (fun K hK => ?_); go_simp; refine ⟨_, _, ⟨rfl, rfl⟩, hK _ _ ⟨_, heavy_any A2 n2 c2 l2 _ (HO2.out.below hbw), ?_⟩⟩; clear hK K; rintro e w2 ⟨q2, rfl, hle2, hb1⟩; refine ⟨_, rfl, ?_⟩; simp only [put_lit, List.set_cons_zero, List.set_cons_succ]
    replace hbw := hbw.trans (hb1.mono hbw.size)
    clear hb1
    cases q2 with
    | true =>
      clear hle2
      go_wp2_with fail
      go_ret
      exact ⟨rfl, hbw⟩
    | false =>
      have hn2 := hle2 rfl
      clear hle2
      go_upto_region 3 with (fail)
      apply wp_region_lit
      refine wl_ck rfl (fun K hK => ?_); go_simp; refine ⟨_, _, ⟨rfl, rfl⟩, hK _ _ ⟨_, New_any w2, ?_⟩⟩; clear hK K; rintro e w3 ⟨rfl, hst, hb2⟩; refine ⟨_, rfl, ?_⟩; simp only [put_lit, List.set_cons_zero, List.set_cons_succ]
      obtain ⟨s, hs⟩ : ∃ s, s = (w2).heap.size := ⟨_, rfl⟩
      have HS := Lib.hid hst
      have HSI0 := Lib.hid (since_new w2)
      have hz1 := hbw.size
      rw [← hs] at HS ⊢
      have HSI : Hid (Since w.heap.size s []) := Lib.hid (fun q hq => by have := HSI0.out q (by rw [← hs]; exact hq); omega)
      replace hbw := hbw.trans (hb2.mono hz1)
      clear hst hs hb2 hz1 HSI0
      go_wp2_with fail
      go_loopw [6] (fun i wr => ∃ (j : Nat) (rs : List Row), j ≤ n1 ∧ i = .int .i64 (j : Int) ∧ Hid (StoreAt wr s (stA l1 j) rs) ∧ Hid (Since w.heap.size s rs) ∧ Below w.heap.size w wr) (fun i _ => n1 - (intOf i).toNat)
      case atStart => exact ⟨0, [], by omega, rfl, HS, HSI, hbw⟩
      case round =>
        clear HS HSI hbw
        obtain ⟨j, rs, hj, rfl, HS, HSI, hbw⟩ := hrel
        by_cases hlt : j < n1
        · have hltI : (j : Int) < (n1 : Int) := by omega
          obtain ⟨b, off, rfl⟩ := HO1.out.addr hlt
          obtain ⟨o, ho⟩ : ∃ o, l1[j]? = some o := ⟨_, List.getElem?_eq_getElem (by rw [HO1.out.1]; exact hlt)⟩
          have HOJ := Lib.hid ho
          have HST := Lib.hid (stA_step HOJ.out (show j < 200 by omega))
          have hbd := stA_bound l1 j
          have HG := Lib.hid (stA_good l1 j)
          clear ho
          go_upto_region 9 with (fail)
          apply wp_region_lit
          refine wl_k rfl (fun K hK => ?_); go_simp; refine hK _ ?_; clear hK K
          refine wl_k rfl (fun K hK => ?_); go_simp; refine hK _ ?_; clear hK K
          refine wl_k rfl (fun K hK => ?_); go_simp; refine hK _ ?_; clear hK K
          refine wl_k rfl (fun K hK => ?_); go_simp; refine hK _ ?_; clear hK K
          ((with_reducible apply wl_rowG); exact rfl; exact rfl; exact (HO1.out.below hbw).row HOJ.out)
          simp only [put_lit, List.set_cons_zero, List.set_cons_succ]
          have hz6 := hbw.size
          refine wl_ck rfl (fun K hK => ?_); go_simp; refine ⟨_, _, ⟨rfl, rfl⟩, hK _ _ ⟨_, Do_any s (stA l1 j) rs (stA_good l1 j) (by omega) hbd.2.1 (by omega) o _ HS.out, ?_⟩⟩; clear hK K; rintro e w7 ⟨rfl, rs2, hst2, hran⟩; refine ⟨_, rfl, ?_⟩; simp only [put_lit, List.set_cons_zero, List.set_cons_succ]
          rw [← HST.out.1] at hst2
          replace HS := Lib.hid hst2
          replace hbw := hbw.trans (hran.toBelow HSI.out hbw.size)
          replace HSI := Lib.hid (HSI.out.ran hran hz6)
          clear hst2 hran hz6 HOJ HST HG hbd
          go_wp2_with fail
          go_roundw
          case rel => exact ⟨j + 1, rs2, by omega, by go_num, HS, HSI, hbw⟩
          case measure => simp [intOf]; omega
        · obtain rfl : j = n1 := by omega
          have hbd := stA_bound l1 j
          have HG := Lib.hid (stA_good l1 j)
          have hmd := stA_made l1 j
          obtain ⟨A, hA⟩ : ∃ A, A = stA l1 j := ⟨_, rfl⟩
          rw [← hA] at HS HG hbd hmd
          clear hA
          go_upto_region 10 with (fail)
          apply wp_region_lit
          refine wl_k rfl (fun K hK => ?_); go_simp; refine hK _ ?_; clear hK K
          refine wl_ck rfl (fun K hK => ?_); go_simp; refine ⟨_, _, ⟨rfl, rfl⟩, hK _ _ ⟨_, Clone_any s A rs HG.out (by omega) _ HS.out, ?_⟩⟩; clear hK K; rintro e w4 ⟨c, B, rc, rfl, hst, hgB, hbuf, hmade, hsh, hbl, hsin, hb1⟩; refine ⟨_, rfl, ?_⟩; simp only [put_lit, List.set_cons_zero, List.set_cons_succ]
          have HC := Lib.hid hst
          have HGB := Lib.hid hgB
          have HBU := Lib.hid hbuf
          have HMS := Lib.hid (And.intro hmade hsh)
          have HDS : Hid (Dis c rc s rs) := Lib.hid (fun q h1 h2 => by have := hsin q h1; have := HS.out.lt h2; omega)
          have HCI : Hid (Since w.heap.size c rc) := Lib.hid (fun q h1 => by have := hsin q h1; have := hbw.size; omega)
          have HM0 : Hid (B.bufs.length ≤ 300 + 0 ∧ 0 ≤ B.shared ∧ B.shared ≤ ((300 + 0 : Nat) : Int)) := Lib.hid (by rw [hsh]; omega)
          replace HS := Lib.hid (HS.out.below hb1)
          replace hbw := hbw.trans (hb1.mono hbw.size)
          clear hst hgB hbuf hmade hsh hbl hsin hb1
          refine wl_k rfl (fun K hK => ?_); go_simp; refine hK _ ?_; clear hK K
          go_upto_region 11 with (fail)
          apply wp_region_lit
          refine wl_k rfl (fun K hK => ?_); go_simp; refine hK _ ?_; clear hK K
          refine wl_k rfl (fun K hK => ?_); go_simp; refine hK _ ?_; clear hK K
          refine wl_k rfl (fun K hK => ?_); go_simp; refine hK _ ?_; clear hK K
          refine wl_k rfl (fun K hK => ?_); go_simp; refine hK _ ?_; clear hK K
          refine wl_ck rfl (fun K hK => ?_); go_simp; refine ⟨_, _, ⟨rfl, rfl⟩, hK _ _ ⟨_, Buffers_any c B rc HGB.out _ HC.out, ?_⟩⟩; clear hK K; rintro e w5 ⟨rfl, hb1⟩; refine ⟨_, rfl, ?_⟩; simp only [put_lit, List.set_cons_zero, List.set_cons_succ]
          replace HS := Lib.hid (HS.out.below hb1)
          replace HC := Lib.hid (HC.out.below hb1)
          replace hbw := hbw.trans (hb1.mono hbw.size)
          clear hb1
          refine wl_k rfl (fun K hK => ?_); go_simp; refine hK _ ?_; clear hK K
          refine wl_ck rfl (fun K hK => ?_); go_simp; refine ⟨_, _, ⟨rfl, rfl⟩, hK _ _ ⟨_, Buffers_any s A rs HG.out _ HS.out, ?_⟩⟩; clear hK K; rintro e w6 ⟨rfl, hb1⟩; refine ⟨_, rfl, ?_⟩; simp only [put_lit, List.set_cons_zero, List.set_cons_succ]
          replace HS := Lib.hid (HS.out.below hb1)
          replace HC := Lib.hid (HC.out.below hb1)
          replace hbw := hbw.trans (hb1.mono hbw.size)
          clear hb1
          rw [HMS.out.1]
          refine wl_k rfl (fun K hK => ?_); go_simp; refine hK _ ?_; clear hK K
          refine wl_k rfl (fun K hK => ?_); go_simp; refine hK _ ?_; clear hK K
          refine wl_k rfl (fun K hK => ?_); go_simp; refine hK _ ?_; clear hK K
          refine wl_k rfl (fun K hK => ?_); go_simp; refine hK _ ?_; clear hK K
          refine wl_ck rfl (fun K hK => ?_); go_simp; refine ⟨_, _, ⟨rfl, rfl⟩, hK _ _ ⟨_, Shared_any c B rc HGB.out _ HC.out, ?_⟩⟩; clear hK K; rintro e w7 ⟨rfl, hb1⟩; refine ⟨_, rfl, ?_⟩; simp only [put_lit, List.set_cons_zero, List.set_cons_succ]
          replace HS := Lib.hid (HS.out.below hb1)
          replace HC := Lib.hid (HC.out.below hb1)
          replace hbw := hbw.trans (hb1.mono hbw.size)
          clear hb1
          refine wl_k rfl (fun K hK => ?_); go_simp; refine hK _ ?_; clear hK K
          refine wl_ck rfl (fun K hK => ?_); go_simp; refine ⟨_, _, ⟨rfl, rfl⟩, hK _ _ ⟨_, Shared_any s A rs HG.out _ HS.out, ?_⟩⟩; clear hK K; rintro e w8 ⟨rfl, hb1⟩; refine ⟨_, rfl, ?_⟩; simp only [put_lit, List.set_cons_zero, List.set_cons_succ]
          replace HS := Lib.hid (HS.out.below hb1)
          replace HC := Lib.hid (HC.out.below hb1)
          replace hbw := hbw.trans (hb1.mono hbw.size)
          clear hb1
          rw [HMS.out.2]
          refine wl_k rfl (fun K hK => ?_); go_simp; refine hK _ ?_; clear hK K
          refine wl_k rfl (fun K hK => ?_); go_simp; refine hK _ ?_; clear hK K
          clear HMS
          go_upto_region 13 with (fail)
          apply wp_region_lit
          refine wl_k rfl (fun K hK => ?_); go_simp; refine hK _ ?_; clear hK K
          refine wl_ck rfl (fun K hK => ?_); go_simp; refine ⟨_, _, ⟨rfl, rfl⟩, hK _ _ ⟨_, items_any s A rs HG.out _ HS.out, ?_⟩⟩; clear hK K; rintro e w9 ⟨iv, rfl, hit, hb1⟩; refine ⟨_, rfl, ?_⟩; simp only [put_lit, List.set_cons_zero, List.set_cons_succ]
          obtain ⟨B1, hB1⟩ : ∃ B1, B1 = w8.heap.size := ⟨_, rfl⟩
          rw [← hB1] at hit
          have HF1 : Hid (∀ q, Foot c rc q → q < B1) := Lib.hid (fun q hq => by rw [hB1]; exact HC.out.lt hq)
          have HIT := Lib.hid hit
          replace HS := Lib.hid (HS.out.below hb1)
          replace HC := Lib.hid (HC.out.below hb1)
          replace hbw := hbw.trans (hb1.mono hbw.size)
          have hz9 := hb1.size
          rw [← hB1] at hz9
          clear hb1 hit hB1
          refine wl_k rfl (fun K hK => ?_); go_simp; refine hK _ ?_; clear hK K
          refine wl_k rfl (fun K hK => ?_); go_simp; refine hK _ ?_; clear hK K
          refine wl_k rfl (fun K hK => ?_); go_simp; refine hK _ ?_; clear hK K
          refine wl_k rfl (fun K hK => ?_); go_simp; refine hK _ ?_; clear hK K
          refine wl_k rfl (fun K hK => ?_); go_simp; refine hK _ ?_; clear hK K
          go_upto_region 14 with (fail)
          apply wp_region_lit
          refine wl_k rfl (fun K hK => ?_); go_simp; refine hK _ ?_; clear hK K
          refine wl_ck rfl (fun K hK => ?_); go_simp; refine ⟨_, _, ⟨rfl, rfl⟩, hK _ _ ⟨_, items_any c B rc HGB.out _ HC.out, ?_⟩⟩; clear hK K; rintro e w10 ⟨iv2, rfl, hit2, hb1⟩; refine ⟨_, rfl, ?_⟩; simp only [put_lit, List.set_cons_zero, List.set_cons_succ]
          have HIT2 := Lib.hid (hit2.weak hz9)
          replace HIT := Lib.hid (HIT.out.below hb1)
          replace HS := Lib.hid (HS.out.below hb1)
          replace HC := Lib.hid (HC.out.below hb1)
          replace hbw := hbw.trans (hb1.mono hbw.size)
          clear hb1 hit2 hz9
          refine wl_k rfl (fun K hK => ?_); go_simp; refine hK _ ?_; clear hK K
          refine wl_k rfl (fun K hK => ?_); go_simp; refine hK _ ?_; clear hK K
          refine wl_k rfl (fun K hK => ?_); go_simp; refine hK _ ?_; clear hK K
          refine wl_k rfl (fun K hK => ?_); go_simp; refine hK _ ?_; clear hK K
          refine wl_k rfl (fun K hK => ?_); go_simp; refine hK _ ?_; clear hK K
          go_wp2_with fail
          have HR0 := Lib.hid (Ran.refl c rc w10)
          have HC0 := HC
          obtain ⟨rc0, hrc0⟩ : ∃ x, x = rc := ⟨_, rfl⟩
          have hn2' : n2 ≤ 200 := hn2
          go_loopw [12] (fun i wr => ∃ (j2 : Nat) (rc2 : List Row) (Y : Sto), j2 ≤ n2 ∧ i = .int .i64 (j2 : Int) ∧ Hid (StoreAt wr c Y rc2) ∧ Hid (Good Y) ∧ Hid (Y.bufs.length ≤ 300 + j2 ∧ 0 ≤ Y.shared ∧ Y.shared ≤ ((300 + j2 : Nat) : Int)) ∧ Hid (Ran c rc w10 rc2 wr)) (fun i _ => n2 - (intOf i).toNat)
          case atStart => exact ⟨0, rc, B, by omega, rfl, HC, HGB, HM0, HR0⟩
          case round =>
            clear HC0 HM0 HR0 HGB hrc0 rc0
            obtain ⟨j2, rc2, Y, hj2, rfl, HY, HGY, HMY, HR⟩ := hrel
            have hb2 := hbw.trans (HR.out.toBelow HCI.out hbw.size)
            by_cases hlt : j2 < n2
            · have hltI : (j2 : Int) < (n2 : Int) := by omega
              obtain ⟨bb, off, rfl⟩ := HO2.out.addr hlt
              obtain ⟨o, ho⟩ : ∃ o, l2[j2]? = some o := ⟨_, List.getElem?_eq_getElem (by rw [HO2.out.1]; exact hlt)⟩
              have HRO := Lib.hid ((HO2.out.below hb2).row ho)
              have HM2 := Lib.hid (doA_made2 HMY.out o)
              have HG2 := Lib.hid (good_do HGY.out o)
              clear ho
              go_upto_region 20 with (fail)
              apply wp_region_lit
              refine wl_k rfl (fun K hK => ?_); go_simp; refine hK _ ?_; clear hK K
              refine wl_k rfl (fun K hK => ?_); go_simp; refine hK _ ?_; clear hK K
              refine wl_k rfl (fun K hK => ?_); go_simp; refine hK _ ?_; clear hK K
              refine wl_k rfl (fun K hK => ?_); go_simp; refine hK _ ?_; clear hK K
              ((with_reducible apply wl_rowG); exact rfl; exact rfl; exact HRO.out)
              simp only [put_lit, List.set_cons_zero, List.set_cons_succ]
              refine wl_ck rfl (fun K hK => ?_); go_simp; refine ⟨_, _, ⟨rfl, rfl⟩, hK _ _ ⟨_, Do_any c Y rc2 HGY.out (by have := HMY.out; omega) HMY.out.2.1 (by have := HMY.out; omega) o _ HY.out, ?_⟩⟩; clear hK K; rintro e w11 ⟨rfl, rc3, hst3, hran⟩; refine ⟨_, rfl, ?_⟩; simp only [put_lit, List.set_cons_zero, List.set_cons_succ]
              have HY3 := Lib.hid hst3
              have HR3 := Lib.hid (HR.out.trans hran)
              have HM3 : Hid ((doA Y o).bufs.length ≤ 300 + (j2 + 1) ∧ 0 ≤ (doA Y o).shared ∧ (doA Y o).shared ≤ ((300 + (j2 + 1) : Nat) : Int)) := HM2
              clear hst3 hran HY HR HMY HM2 HRO hb2
              go_wp2_with fail
              go_roundw
              case rel => exact ⟨j2 + 1, rc3, doA Y o, by omega, by go_num, HY3, HG2, HM3, HR3⟩
              case measure => simp [intOf]; omega
            · obtain rfl : j2 = n2 := by omega
              replace HS := Lib.hid (HS.out.beside HR.out HDS.out.symm)
              replace HIT := Lib.hid (HIT.out.ran HF1.out HR.out)
              replace HIT2 := Lib.hid (HIT2.out.ran HF1.out HR.out)
              replace hbw := hb2
              clear hb2 HY HGY HMY HR HF1 HDS HCI HC
              go_upto_region 21 with (fail)
              apply wp_region_lit
              refine wl_k rfl (fun K hK => ?_); go_simp; refine hK _ ?_; clear hK K
              refine wl_ck rfl (fun K hK => ?_); go_simp; refine ⟨_, _, ⟨rfl, rfl⟩, hK _ _ ⟨_, items_any s A rs HG.out _ HS.out, ?_⟩⟩; clear hK K; rintro e w12 ⟨iv3, rfl, hit3, hb1⟩; refine ⟨_, rfl, ?_⟩; simp only [put_lit, List.set_cons_zero, List.set_cons_succ]
              have HIT3 := Lib.hid hit3
              replace HIT := Lib.hid (HIT.out.below hb1)
              replace HIT2 := Lib.hid (HIT2.out.below hb1)
              replace hbw := hbw.trans (hb1.mono hbw.size)
              clear hb1 hit3 HS
              refine wl_k rfl (fun K hK => ?_); go_simp; refine hK _ ?_; clear hK K
              refine wl_k rfl (fun K hK => ?_); go_simp; refine hK _ ?_; clear hK K
              refine wl_k rfl (fun K hK => ?_); go_simp; refine hK _ ?_; clear hK K
              refine wl_k rfl (fun K hK => ?_); go_simp; refine hK _ ?_; clear hK K
              refine wl_k rfl (fun K hK => ?_); go_simp; refine hK _ ?_; clear hK K
              have ⟨q1, cp1, cur1, e1, hq1, hg1, hall1⟩ := HIT.out.cells (by rw [bufsTo_length]; omega)
              have ⟨q2, cp2, cur2, e2, hq2, hg2, hall2⟩ := HIT2.out.cells (by rw [bufsTo_length]; omega)
              have ⟨q3, cp3, cur3, e3, hq3, hg3, hall3⟩ := HIT3.out.cells (by rw [bufsTo_length]; omega)
              rw [bufsTo_length] at e1 e2 e3
              subst e1 e2 e3
              have HI1 : Hid (∀ k : Nat, k < 8 → ∃ v : Array Value, v.size = 4 ∧ cur1.extract (k * 4) (k * 4 + 4) = v ∧ ∃ B, ItemAt w12 B (.agg v) (A.buf (k : Int))) := Lib.hid (fun k hk => by obtain ⟨v, a1, a2, a3⟩ := hall1 k _ (bufsTo_get A hk); exact ⟨v, a1, a2, _, a3⟩)
              have HI2 : Hid (∀ k : Nat, k < 8 → ∃ v : Array Value, v.size = 4 ∧ cur2.extract (k * 4) (k * 4 + 4) = v ∧ ∃ B, ItemAt w12 B (.agg v) (A.buf (k : Int))) := Lib.hid (fun k hk => by obtain ⟨v, a1, a2, a3⟩ := hall2 k _ (bufsTo_get B hk); rw [HBU.out _ (by omega) (by omega)] at a3; exact ⟨v, a1, a2, _, a3⟩)
              have HI3 : Hid (∀ k : Nat, k < 8 → ∃ v : Array Value, v.size = 4 ∧ cur3.extract (k * 4) (k * 4 + 4) = v ∧ ∃ B, ItemAt w12 B (.agg v) (A.buf (k : Int))) := Lib.hid (fun k hk => by obtain ⟨v, a1, a2, a3⟩ := hall3 k _ (bufsTo_get A hk); exact ⟨v, a1, a2, _, a3⟩)
              have HQ1 := Lib.hid hg1
              have HQ2 := Lib.hid hg2
              have HQ3 := Lib.hid hg3
              have HSM := Lib.hid (fun (m : Nat) => buf_small HG.out (m : Int))
              clear hall1 hall2 hall3 hq1 hq2 hq3 hg1 hg2 hg3 HIT HIT2 HIT3 HBU HG
              go_wp2_with fail
              go_loopw [15] (fun kv wr => ∃ k : Nat, k ≤ 8 ∧ kv = .int .i64 (k : Int) ∧ Hid (Below w12.heap.size w12 wr)) (fun kv _ => 8 - (intOf kv).toNat)
              case atStart => exact ⟨0, by omega, rfl, Lib.hid (Below.refl _ _)⟩
              case round =>
                obtain ⟨k, hk, rfl, HB⟩ := hrel
                by_cases hk8 : k < 8
                · have hk8I : (k : Int) < 8 := by omega
                  obtain ⟨v1, hz1, hx1, D1, it1⟩ := HI1.out k hk8
                  obtain ⟨v2, hz2, hx2, D2, it2⟩ := HI2.out k hk8
                  obtain ⟨v3, hz3, hx3, D3, it3⟩ := HI3.out k hk8
                  have hsm := HSM.out k
                  have HC1 := below_look HB.out HQ1.out
                  have HC2 := below_look HB.out HQ2.out
                  have HC3 := below_look HB.out HQ3.out
                  obtain ⟨YB, hYB⟩ : ∃ YB, YB = A.buf (k : Int) := ⟨_, rfl⟩
                  rw [← hYB] at it1 it2 it3 hsm
                  have HX1 := Lib.hid hx1
                  have HX2 := Lib.hid hx2
                  have HX3 := Lib.hid hx3
                  have HZ1 := Lib.hid hz1
                  have HZ2 := Lib.hid hz2
                  have HZ3 := Lib.hid hz3
                  have HT1 := Lib.hid it1
                  have HT2 := Lib.hid it2
                  have HT3 := Lib.hid it3
                  clear hx1 hx2 hx3 it1 it2 it3 hz1 hz2 hz3 hYB
                  go_upto_region 27 with (fail)
                  refine wp_region_held_drew (S := Kept [] wr) mixed (Kept.drew [] wr) (fun hS => ?_)
                  refine ha_k (i := 0) rfl (by kernel_rfl) (by kernel_rfl) (by kernel_rfl) (fun _ _ _ _ h => h) hS rfl (fun K hK => ?_); go_simp; refine hK _ ?_; clear hK K; try simp only [put_lit, List.set_cons_zero, List.set_cons_succ]
                  refine ha_k (i := 1) rfl (by kernel_rfl) (by kernel_rfl) (by kernel_rfl) (fun _ _ _ _ h => h) hS rfl (fun K hK => ?_); go_simp; refine hK _ ?_; clear hK K; try simp only [put_lit, List.set_cons_zero, List.set_cons_succ]
                  refine ha_k (i := 2) rfl (by kernel_rfl) (by kernel_rfl) (by kernel_rfl) (fun _ _ _ _ h => h) hS rfl (fun K hK => ?_); go_simp; refine hK _ ?_; clear hK K; try simp only [put_lit, List.set_cons_zero, List.set_cons_succ]
                  refine ha_val (i := 3) rfl (by kernel_rfl) (by kernel_rfl) (by kernel_rfl) (fun _ _ _ h => h) hS rfl (fun w' hw' => ex_row rfl ((fun h => row_mid h HX1.out Ytbhdgeoljlhmcaa.u32 rfl HZ1.out info32) (hw'.look HC1 (by simp <;> omega)))) ?_; try simp only [put_lit, List.set_cons_zero, List.set_cons_succ]
                  refine ha_k (i := 4) rfl (by kernel_rfl) (by kernel_rfl) (by kernel_rfl) (fun _ _ _ _ h => h) hS rfl (fun K hK => ?_); go_simp; refine hK _ ?_; clear hK K; try simp only [put_lit, List.set_cons_zero, List.set_cons_succ]
                  refine ha_k (i := 5) rfl (by kernel_rfl) (by kernel_rfl) (by kernel_rfl) (fun _ _ _ _ h => h) hS rfl (fun K hK => ?_); go_simp; refine hK _ ?_; clear hK K; try simp only [put_lit, List.set_cons_zero, List.set_cons_succ]
                  refine ha_k (i := 6) rfl (by kernel_rfl) (by kernel_rfl) (by kernel_rfl) (fun _ _ _ _ h => h) hS rfl (fun K hK => ?_); go_simp; refine hK _ ?_; clear hK K; try simp only [put_lit, List.set_cons_zero, List.set_cons_succ]
                  refine ha_val (i := 7) rfl (by kernel_rfl) (by kernel_rfl) (by kernel_rfl) (fun _ _ _ h => h) hS rfl (fun w' hw' => ex_row rfl ((fun h => row_mid h HX3.out Ytbhdgeoljlhmcaa.u32 rfl HZ3.out info32) (hw'.look HC3 (by simp <;> omega)))) ?_; try simp only [put_lit, List.set_cons_zero, List.set_cons_succ]
                  refine ha_call (i := 8) (by kernel_rfl) rfl rfl (fun K hK => ?_); go_simp; refine ⟨_, _, ⟨rfl, rfl⟩, hK _ _ ⟨_, EqItem_at YB YB (by have := hsm.1; omega) (by have := hsm.2; have := pairsT_le YB.t; omega) rfl rfl rfl rfl (HT1.out.below (HB.out.trans (hS.toBelow HB.out.size (by simp)))) (HT3.out.below (HB.out.trans (hS.toBelow HB.out.size (by simp)))), ?_⟩⟩; clear hK K; rintro e w13 ⟨rfl, hb1⟩; refine ⟨_, rfl, hS.below hb1, ?_⟩; replace hS := hS.below hb1; try simp only [put_lit, List.set_cons_zero, List.set_cons_succ]
                  refine ha_k (i := 9) rfl (by kernel_rfl) (by kernel_rfl) (by kernel_rfl) (fun _ _ _ _ h => h) hS rfl (fun K hK => ?_); go_simp; refine hK _ ?_; clear hK K; try simp only [put_lit, List.set_cons_zero, List.set_cons_succ]
                  refine ha_k (i := 10) rfl (by kernel_rfl) (by kernel_rfl) (by kernel_rfl) (fun _ _ _ _ h => h) hS rfl (fun K hK => ?_); go_simp; refine hK _ ?_; clear hK K; try simp only [put_lit, List.set_cons_zero, List.set_cons_succ]
                  refine ha_k (i := 11) rfl (by kernel_rfl) (by kernel_rfl) (by kernel_rfl) (fun _ _ _ _ h => h) hS rfl (fun K hK => ?_); go_simp; refine hK _ ?_; clear hK K; try simp only [put_lit, List.set_cons_zero, List.set_cons_succ]
                  refine ha_k (i := 12) rfl (by kernel_rfl) (by kernel_rfl) (by kernel_rfl) (fun _ _ _ _ h => h) hS rfl (fun K hK => ?_); go_simp; refine hK _ ?_; clear hK K; try simp only [put_lit, List.set_cons_zero, List.set_cons_succ]
                  refine ha_k (i := 13) rfl (by kernel_rfl) (by kernel_rfl) (by kernel_rfl) (fun _ _ _ _ h => h) hS rfl (fun K hK => ?_); go_simp; refine hK _ ?_; clear hK K; try simp only [put_lit, List.set_cons_zero, List.set_cons_succ]
                  refine ha_val (i := 14) rfl (by kernel_rfl) (by kernel_rfl) (by kernel_rfl) (fun _ _ _ h => h) hS rfl (fun w' hw' => ex_row rfl ((fun h => row_mid h HX1.out Ytbhdgeoljlhmcaa.u32 rfl HZ1.out info32) (hw'.look HC1 (by simp <;> omega)))) ?_; try simp only [put_lit, List.set_cons_zero, List.set_cons_succ]
                  refine ha_k (i := 15) rfl (by kernel_rfl) (by kernel_rfl) (by kernel_rfl) (fun _ _ _ _ h => h) hS rfl (fun K hK => ?_); go_simp; refine hK _ ?_; clear hK K; try simp only [put_lit, List.set_cons_zero, List.set_cons_succ]
                  refine ha_k (i := 16) rfl (by kernel_rfl) (by kernel_rfl) (by kernel_rfl) (fun _ _ _ _ h => h) hS rfl (fun K hK => ?_); go_simp; refine hK _ ?_; clear hK K; try simp only [put_lit, List.set_cons_zero, List.set_cons_succ]
                  refine ha_k (i := 17) rfl (by kernel_rfl) (by kernel_rfl) (by kernel_rfl) (fun _ _ _ _ h => h) hS rfl (fun K hK => ?_); go_simp; refine hK _ ?_; clear hK K; try simp only [put_lit, List.set_cons_zero, List.set_cons_succ]
                  refine ha_val (i := 18) rfl (by kernel_rfl) (by kernel_rfl) (by kernel_rfl) (fun _ _ _ h => h) hS rfl (fun w' hw' => ex_row rfl ((fun h => row_mid h HX2.out Ytbhdgeoljlhmcaa.u32 rfl HZ2.out info32) (hw'.look HC2 (by simp <;> omega)))) ?_; try simp only [put_lit, List.set_cons_zero, List.set_cons_succ]
                  refine ha_call (i := 19) (by kernel_rfl) rfl rfl (fun K hK => ?_); go_simp; refine ⟨_, _, ⟨rfl, rfl⟩, hK _ _ ⟨_, EqItem_at YB YB (by have := hsm.1; omega) (by have := hsm.2; have := pairsT_le YB.t; omega) rfl rfl rfl rfl (HT1.out.below (HB.out.trans (hS.toBelow HB.out.size (by simp)))) (HT2.out.below (HB.out.trans (hS.toBelow HB.out.size (by simp)))), ?_⟩⟩; clear hK K; rintro e w14 ⟨rfl, hb1⟩; refine ⟨_, rfl, hS.below hb1, ?_⟩; replace hS := hS.below hb1; try simp only [put_lit, List.set_cons_zero, List.set_cons_succ]
                  refine ha_k (i := 20) rfl (by kernel_rfl) (by kernel_rfl) (by kernel_rfl) (fun _ _ _ _ h => h) hS rfl (fun K hK => ?_); go_simp; refine hK _ ?_; clear hK K; try simp only [put_lit, List.set_cons_zero, List.set_cons_succ]
                  refine ha_k (i := 21) rfl (by kernel_rfl) (by kernel_rfl) (by kernel_rfl) (fun _ _ _ _ h => h) hS rfl (fun K hK => ?_); go_simp; refine hK _ ?_; clear hK K; try simp only [put_lit, List.set_cons_zero, List.set_cons_succ]
                  refine wpAnyH_done (by kernel_rfl) ?_ _
                  have HB2 : Hid (Below w12.heap.size w12 _) := Lib.hid (HB.out.trans (hS.toBelow HB.out.size (by simp)))
                  clear hS HB
                  go_wp2_with fail
                  go_roundw
                  case rel => exact ⟨k + 1, by omega, by go_num, HB2⟩
                  case measure => simp [intOf]; omega
                · obtain rfl : k = 8 := by omega
                  have hb9 := hbw.trans (HB.out.mono hbw.size)
                  clear HI1 HI2 HI3 HQ1 HQ2 HQ3 HSM HB hbw
                  go_upto_region 29 with (fail)
                  apply wp_region_lit
                  refine wl_ck rfl (fun K hK => ?_); go_simp; refine ⟨_, _, ⟨rfl, rfl⟩, hK _ _ ⟨_, awake_any _, ?_⟩⟩; clear hK K; rintro e w15 ⟨rfl, hb1⟩; refine ⟨_, rfl, ?_⟩; simp only [put_lit, List.set_cons_zero, List.set_cons_succ]
                  replace hb9 := hb9.trans (hb1.mono hb9.size)
                  clear hb1
                  go_wp2_with fail
                  go_ret
                  exact ⟨rfl, hb9⟩
end Go.Proofs.Ytbhdgeoljlhmcaa
