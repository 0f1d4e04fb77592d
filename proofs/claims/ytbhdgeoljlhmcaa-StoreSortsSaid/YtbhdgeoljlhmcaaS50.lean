/- The law StoreSorts, walked. -/
import Derived.Test.YtbhdgeoljlhmcaaS48
import Derived.Test.YtbhdgeoljlhmcaaS49
import Derived.Test.YtbhdgeoljlhmcaaS44
import Derived.Outline
namespace Go.Proofs.Ytbhdgeoljlhmcaa
open Go.RowKit Go.Proofs.Ytbhdgeoljlhmcaa.Nm Go.Proofs.Ytbhdgeoljlhmcaa.St
set_option linter.unusedSimpArgs false
theorem EqStrings_same (A1 A2 : Option Addr) (n c1 c2 : Nat) (l : List ByteArray) (hn1 : n ≤ 1000000) (w : World) (h1 : StrAt w A1 n c1 l) (h2 : StrAt w A2 n c2 l) :
    Calls Try.prog 27 #[.slice A1 n c1, .slice A2 n c2] w fun e w' => e = .returned (.bool true) ∧ Below w.heap.size w w' := by
  have h := EqStrings_any A1 A2 n n c1 c2 l l hn1 w h1 h2
  rwa [decide_eq_true rfl] at h
set_option maxHeartbeats 4000000 in
set_option maxRecDepth 100000 in
theorem StoreSorts_any (A1 A2 : Option Addr) (n1 n2 c1 c2 : Nat) (l1 l2 : List ByteArray) (key : ByteArray) (hc1 : n1 ≤ c1) (hc2 : n2 ≤ c2) (w : World) (h1 : StrAt w A1 n1 c1 l1) (h2 : StrAt w A2 n2 c2 l2) :
    Calls Try.prog 7 #[.slice A1 n1 c1, .slice A2 n2 c2, .string key] w fun e w' => e = .returned (.bool true) ∧ Below w.heap.size w w' := by
  have H1 := Lib.hid h1
  have H2 := Lib.hid h2
  have N1 := Lib.hid h1.1
  have N2 := Lib.hid h2.1
  clear h1 h2
  go_enter Try.func7, Try.ntmps7
  go_upto_region 1 with (fail)
  apply wp_region_lit
  refine wl_k rfl (fun K hK => ?_); go_simp; refine hK _ ?_; clear hK K
  refine wl_ck rfl (fun K hK => ?_); go_simp; refine ⟨_, _, ⟨rfl, rfl⟩, hK _ _ ⟨_, long_any A1 n1 c1 l1 _ H1.out, ?_⟩⟩; clear hK K; rintro e w1 ⟨q1, rfl, hle1, hbw⟩; refine ⟨_, rfl, ?_⟩; simp only [put_lit, List.set_cons_zero, List.set_cons_succ]
  cases q1 with
  | true =>
    clear hle1
    go_wp2_with fail
    go_ret
    exact ⟨rfl, hbw⟩
  | false =>
    have hn1 := (hle1 rfl).1
    clear hle1
    refine wl_k rfl (fun K hK => ?_); go_simp; refine hK _ ?_; clear hK K
    refine wl_k rfl (fun K hK => ?_); go_simp; refine hK _ ?_; clear hK K
    refine wl_ck rfl (fun K hK => ?_); go_simp; refine ⟨_, _, ⟨rfl, rfl⟩, hK _ _ ⟨_, long_any A2 n2 c2 l2 _ (H2.out.below hbw), ?_⟩⟩; clear hK K; rintro e w2 ⟨q2, rfl, hle1, hb1⟩; refine ⟨_, rfl, ?_⟩; simp only [put_lit, List.set_cons_zero, List.set_cons_succ]
    replace hbw := hbw.trans (hb1.mono hbw.size)
    clear hb1
    cases q2 with
    | true =>
      clear hle1
      go_wp2_with fail
      go_ret
      exact ⟨rfl, hbw⟩
    | false =>
      have hn2 := (hle1 rfl).1
      clear hle1
      by_cases hk : key.size ≤ 200
      · have hkI : ¬ (200 : Int) < (key.size : Int) := by omega
        have hd : decide ((200 : Int) < (key.size : Int)) = false := by simpa using hkI
        refine wl_k rfl (fun K hK => ?_); go_simp; refine hK _ ?_; clear hK K
        refine wl_k rfl (fun K hK => ?_); go_simp; refine hK _ ?_; clear hK K
        refine wl_k rfl (fun K hK => ?_); go_simp; refine hK _ ?_; clear hK K
        refine wl_k rfl (fun K hK => ?_); go_simp; refine hK _ ?_; clear hK K
        go_upto_region 3 with (fail)
        apply wp_region_lit
        refine wl_k rfl (fun K hK => ?_); go_simp; refine hK _ ?_; clear hK K
        refine wl_ck rfl (fun K hK => ?_); go_simp; refine ⟨_, _, ⟨rfl, rfl⟩, hK _ _ ⟨_, Sorted_any n1 A1 n1 c1 l1 _ (Nat.le_refl _) (by omega) hc1 (H1.out.below hbw), ?_⟩⟩; clear hK K; rintro e w3 ⟨v3, rfl, ho3, hb1⟩; refine ⟨_, rfl, ?_⟩; simp only [put_lit, List.set_cons_zero, List.set_cons_succ]
        obtain ⟨X, cx, rfl, hcx, hx⟩ := own_str2 ho3 (by rw [sortL_length, N1.out])
        replace hbw := hbw.trans (hb1.mono hbw.size)
        clear hb1
        have HX := Lib.hid hx
        clear ho3 hx
        refine wl_k rfl (fun K hK => ?_); go_simp; refine hK _ ?_; clear hK K
        refine wl_ck rfl (fun K hK => ?_); go_simp; refine ⟨_, _, ⟨rfl, rfl⟩, hK _ _ ⟨_, Sorted_any n2 A2 n2 c2 l2 _ (Nat.le_refl _) (by omega) hc2 (H2.out.below hbw), ?_⟩⟩; clear hK K; rintro e w4 ⟨v4, rfl, ho4, hb1⟩; refine ⟨_, rfl, ?_⟩; simp only [put_lit, List.set_cons_zero, List.set_cons_succ]
        obtain ⟨Y, cy, rfl, hcy, hy⟩ := own_str2 ho4 (by rw [sortL_length, N2.out])
        replace HX := Lib.hid (HX.out.below hb1)
        replace hbw := hbw.trans (hb1.mono hbw.size)
        clear hb1
        have HY := Lib.hid hy
        clear ho4 hy
        refine wl_k rfl (fun K hK => ?_); go_simp; refine hK _ ?_; clear hK K
        refine wl_k rfl (fun K hK => ?_); go_simp; refine hK _ ?_; clear hK K
        go_upto_region 4 with (fail)
        apply wp_region_lit
        refine wl_k rfl (fun K hK => ?_); go_simp; refine hK _ ?_; clear hK K
        refine wl_k rfl (fun K hK => ?_); go_simp; refine hK _ ?_; clear hK K
        refine wl_ck rfl (fun K hK => ?_); go_simp; refine ⟨_, _, ⟨rfl, rfl⟩, hK _ _ ⟨_, SortedI_any A1 n1 c1 l1 (by omega) _ (H1.out.below hbw), ?_⟩⟩; clear hK K; rintro e w5 ⟨v5, rfl, ho5, hb1⟩; refine ⟨_, rfl, ?_⟩; simp only [put_lit, List.set_cons_zero, List.set_cons_succ]
        obtain ⟨X2, cx2, rfl, hcx2, hx2⟩ := own_str2 ho5 (by rw [sortL_length, N1.out])
        replace HX := Lib.hid (HX.out.below hb1)
        replace HY := Lib.hid (HY.out.below hb1)
        replace hbw := hbw.trans (hb1.mono hbw.size)
        clear hb1
        have HX2 := Lib.hid hx2
        clear ho5 hx2
        refine wl_ck rfl (fun K hK => ?_); go_simp; refine ⟨_, _, ⟨rfl, rfl⟩, hK _ _ ⟨_, EqStrings_same X X2 n1 cx cx2 (sortL l1) (by omega) _ HX.out HX2.out, ?_⟩⟩; clear hK K; rintro e w6 ⟨rfl, hb1⟩; refine ⟨_, rfl, ?_⟩; simp only [put_lit, List.set_cons_zero, List.set_cons_succ]
        replace HX := Lib.hid (HX.out.below hb1)
        replace HY := Lib.hid (HY.out.below hb1)
        replace hbw := hbw.trans (hb1.mono hbw.size)
        clear hb1
        clear HX2
        refine wl_k rfl (fun K hK => ?_); go_simp; refine hK _ ?_; clear hK K
        refine wl_k rfl (fun K hK => ?_); go_simp; refine hK _ ?_; clear hK K
        refine wl_k rfl (fun K hK => ?_); go_simp; refine hK _ ?_; clear hK K
        refine wl_k rfl (fun K hK => ?_); go_simp; refine hK _ ?_; clear hK K
        refine wl_ck rfl (fun K hK => ?_); go_simp; refine ⟨_, _, ⟨rfl, rfl⟩, hK _ _ ⟨_, Merge_any A1 A2 n1 n2 c1 c2 l1 l2 (by omega) (by omega) hc1 hc2 _ (H1.out.below hbw) (H2.out.below hbw), ?_⟩⟩; clear hK K; rintro e w7 ⟨v7, rfl, ho7, hb1⟩; refine ⟨_, rfl, ?_⟩; simp only [put_lit, List.set_cons_zero, List.set_cons_succ]
        obtain ⟨M1, cm1, rfl, hcm1, hm1⟩ := own_str2 ho7 (by rw [mergeL_length, N1.out, N2.out])
        replace HX := Lib.hid (HX.out.below hb1)
        replace HY := Lib.hid (HY.out.below hb1)
        replace hbw := hbw.trans (hb1.mono hbw.size)
        clear hb1
        have HM1 := Lib.hid hm1
        clear ho7 hm1
        refine wl_k rfl (fun K hK => ?_); go_simp; refine hK _ ?_; clear hK K
        refine wl_k rfl (fun K hK => ?_); go_simp; refine hK _ ?_; clear hK K
        refine wl_ck rfl (fun K hK => ?_); go_simp; refine ⟨_, _, ⟨rfl, rfl⟩, hK _ _ ⟨_, MergeI_any A1 A2 n1 n2 c1 c2 l1 l2 (by omega) (by omega) _ (H1.out.below hbw) (H2.out.below hbw), ?_⟩⟩; clear hK K; rintro e w8 ⟨v8, rfl, ho8, hb1⟩; refine ⟨_, rfl, ?_⟩; simp only [put_lit, List.set_cons_zero, List.set_cons_succ]
        obtain ⟨M2, cm2, rfl, hcm2, hm2⟩ := own_str2 ho8 (by rw [mergeL_length, N1.out, N2.out])
        replace HX := Lib.hid (HX.out.below hb1)
        replace HY := Lib.hid (HY.out.below hb1)
        replace HM1 := Lib.hid (HM1.out.below hb1)
        replace hbw := hbw.trans (hb1.mono hbw.size)
        clear hb1
        have HM2 := Lib.hid hm2
        clear ho8 hm2
        refine wl_ck rfl (fun K hK => ?_); go_simp; refine ⟨_, _, ⟨rfl, rfl⟩, hK _ _ ⟨_, EqStrings_same M1 M2 (n1 + n2) cm1 cm2 (mergeL l1 l2) (by omega) _ HM1.out HM2.out, ?_⟩⟩; clear hK K; rintro e w9 ⟨rfl, hb1⟩; refine ⟨_, rfl, ?_⟩; simp only [put_lit, List.set_cons_zero, List.set_cons_succ]
        replace HX := Lib.hid (HX.out.below hb1)
        replace HY := Lib.hid (HY.out.below hb1)
        replace hbw := hbw.trans (hb1.mono hbw.size)
        clear hb1
        clear HM1 HM2
        refine wl_k rfl (fun K hK => ?_); go_simp; refine hK _ ?_; clear hK K
        refine wl_k rfl (fun K hK => ?_); go_simp; refine hK _ ?_; clear hK K
        go_upto_region 6 with (fail)
        apply wp_region_lit
        refine wl_k rfl (fun K hK => ?_); go_simp; refine hK _ ?_; clear hK K
        refine wl_k rfl (fun K hK => ?_); go_simp; refine hK _ ?_; clear hK K
        refine wl_ck rfl (fun K hK => ?_); go_simp; refine ⟨_, _, ⟨rfl, rfl⟩, hK _ _ ⟨_, Search_any A1 n1 c1 l1 key (by omega) _ (H1.out.below hbw), ?_⟩⟩; clear hK K; rintro e w10 ⟨rfl, hb1⟩; refine ⟨_, rfl, ?_⟩; simp only [put_lit, List.set_cons_zero, List.set_cons_succ]
        replace HX := Lib.hid (HX.out.below hb1)
        replace HY := Lib.hid (HY.out.below hb1)
        replace hbw := hbw.trans (hb1.mono hbw.size)
        clear hb1
        refine wl_k rfl (fun K hK => ?_); go_simp; refine hK _ ?_; clear hK K
        refine wl_k rfl (fun K hK => ?_); go_simp; refine hK _ ?_; clear hK K
        refine wl_k rfl (fun K hK => ?_); go_simp; refine hK _ ?_; clear hK K
        refine wl_k rfl (fun K hK => ?_); go_simp; refine hK _ ?_; clear hK K
        refine wl_k rfl (fun K hK => ?_); go_simp; refine hK _ ?_; clear hK K
        go_upto_region 7 with (fail)
        apply wp_region_lit
        refine wl_k rfl (fun K hK => ?_); go_simp; refine hK _ ?_; clear hK K
        refine wl_k rfl (fun K hK => ?_); go_simp; refine hK _ ?_; clear hK K
        refine wl_ck rfl (fun K hK => ?_); go_simp; refine ⟨_, _, ⟨rfl, rfl⟩, hK _ _ ⟨_, SearchI_any A1 n1 c1 l1 key (by omega) _ (H1.out.below hbw), ?_⟩⟩; clear hK K; rintro e w11 ⟨rfl, hb1⟩; refine ⟨_, rfl, ?_⟩; simp only [put_lit, List.set_cons_zero, List.set_cons_succ]
        replace HX := Lib.hid (HX.out.below hb1)
        replace HY := Lib.hid (HY.out.below hb1)
        replace hbw := hbw.trans (hb1.mono hbw.size)
        clear hb1
        obtain ⟨R, hR⟩ : ∃ R, R = ((srch l1 key 0 l1.length : Nat) : Int) := ⟨_, rfl⟩
        obtain ⟨Q, hQ⟩ : ∃ Q, Q = decide (l1[srch l1 key 0 l1.length]? = some key) := ⟨_, rfl⟩
        rw [← hR, ← hQ]
        clear hR hQ
        refine wl_k rfl (fun K hK => ?_); go_simp; refine hK _ ?_; clear hK K
        refine wl_k rfl (fun K hK => ?_); go_simp; refine hK _ ?_; clear hK K
        refine wl_k rfl (fun K hK => ?_); go_simp; refine hK _ ?_; clear hK K
        refine wl_k rfl (fun K hK => ?_); go_simp; refine hK _ ?_; clear hK K
        refine wl_k rfl (fun K hK => ?_); go_simp; refine hK _ ?_; clear hK K
        have hRR : (R == R) = true := by simp
        have hQQ : (Q == Q) = true := by simp
        go_upto_region 10 with (fail)
        apply wp_region_lit
        refine wl_k rfl (fun K hK => ?_); go_simp; refine hK _ ?_; clear hK K
        refine wl_ck rfl (fun K hK => ?_); go_simp; refine ⟨_, _, ⟨rfl, rfl⟩, hK _ _ ⟨_, CopyStrings_any A1 n1 c1 l1 (by omega) _ (H1.out.below hbw), ?_⟩⟩; clear hK K; rintro e w12 ⟨v12, rfl, ho12, hb1⟩; refine ⟨_, rfl, ?_⟩; simp only [put_lit, List.set_cons_zero, List.set_cons_succ]
        obtain ⟨v13, w13, hr13, ho13, hg13, -⟩ := run_app29 29 ho12 (H2.out.below (hbw.trans (hb1.mono hbw.size))) hb1.size (show n1 ≤ 1000000 by omega) (show n2 ≤ 1000000 by omega)
        have hb13 := hb1.grown hg13 hb1.size (fun q hq => (ho12.lt q hq).1)
        replace HX := Lib.hid (HX.out.below hb13)
        replace HY := Lib.hid (HY.out.below hb13)
        replace hbw := hbw.trans (hb13.mono hbw.size)
        refine wl_k rfl (fun K hK => ?_); go_simp; refine hK _ ?_; clear hK K
        refine wl_w rfl (ex_app29 _ _ rfl rfl rfl hr13) ?_
        simp only [put_lit, List.set_cons_zero, List.set_cons_succ]
        obtain ⟨Z, cz, rfl, hcz, hz⟩ := own_str2 ho13 (by rw [List.length_append, N1.out, N2.out])
        have HZ := Lib.hid hz
        clear hr13 ho13 hg13 hb13 hb1 ho12 hz
        refine wl_k rfl (fun K hK => ?_); go_simp; refine hK _ ?_; clear hK K
        go_upto_region 11 with (fail)
        apply wp_region_lit
        refine wl_k rfl (fun K hK => ?_); go_simp; refine hK _ ?_; clear hK K
        refine wl_k rfl (fun K hK => ?_); go_simp; refine hK _ ?_; clear hK K
        refine wl_ck rfl (fun K hK => ?_); go_simp; refine ⟨_, _, ⟨rfl, rfl⟩, hK _ _ ⟨_, Merge_any X Y n1 n2 cx cy (sortL l1) (sortL l2) (by omega) (by omega) hcx hcy _ HX.out HY.out, ?_⟩⟩; clear hK K; rintro e w14 ⟨v14, rfl, ho14, hb1⟩; refine ⟨_, rfl, ?_⟩; simp only [put_lit, List.set_cons_zero, List.set_cons_succ]
        obtain ⟨M3, cm3, rfl, hcm3, hm3⟩ := own_str2 ho14 (by rw [mergeL_length, sortL_length, sortL_length, N1.out, N2.out])
        rw [merge_sorted] at hm3
        replace HX := Lib.hid (HX.out.below hb1)
        replace HZ := Lib.hid (HZ.out.below hb1)
        replace hbw := hbw.trans (hb1.mono hbw.size)
        clear hb1
        have HM3 := Lib.hid hm3
        clear ho14 hm3 HY
        refine wl_k rfl (fun K hK => ?_); go_simp; refine hK _ ?_; clear hK K
        refine wl_ck rfl (fun K hK => ?_); go_simp; refine ⟨_, _, ⟨rfl, rfl⟩, hK _ _ ⟨_, Sorted_any (n1 + n2) Z (n1 + n2) cz (l1 ++ l2) _ (Nat.le_refl _) (by omega) hcz HZ.out, ?_⟩⟩; clear hK K; rintro e w15 ⟨v15, rfl, ho15, hb1⟩; refine ⟨_, rfl, ?_⟩; simp only [put_lit, List.set_cons_zero, List.set_cons_succ]
        obtain ⟨M4, cm4, rfl, hcm4, hm4⟩ := own_str2 ho15 (by rw [sortL_length, List.length_append, N1.out, N2.out])
        replace HX := Lib.hid (HX.out.below hb1)
        replace HM3 := Lib.hid (HM3.out.below hb1)
        replace hbw := hbw.trans (hb1.mono hbw.size)
        clear hb1
        have HM4 := Lib.hid hm4
        clear ho15 hm4 HZ
        refine wl_ck rfl (fun K hK => ?_); go_simp; refine ⟨_, _, ⟨rfl, rfl⟩, hK _ _ ⟨_, EqStrings_same M3 M4 (n1 + n2) cm3 cm4 (sortL (l1 ++ l2)) (by omega) _ HM3.out HM4.out, ?_⟩⟩; clear hK K; rintro e w16 ⟨rfl, hb1⟩; refine ⟨_, rfl, ?_⟩; simp only [put_lit, List.set_cons_zero, List.set_cons_succ]
        replace HX := Lib.hid (HX.out.below hb1)
        replace hbw := hbw.trans (hb1.mono hbw.size)
        clear hb1
        clear HM3 HM4
        refine wl_k rfl (fun K hK => ?_); go_simp; refine hK _ ?_; clear hK K
        go_upto_region 13 with (fail)
        apply wp_region_lit
        refine wl_k rfl (fun K hK => ?_); go_simp; refine hK _ ?_; clear hK K
        refine wl_k rfl (fun K hK => ?_); go_simp; refine hK _ ?_; clear hK K
        refine wl_ck rfl (fun K hK => ?_); go_simp; refine ⟨_, _, ⟨rfl, rfl⟩, hK _ _ ⟨_, Search_any X n1 cx (sortL l1) key (by omega) _ HX.out, ?_⟩⟩; clear hK K; rintro e w17 ⟨rfl, hb1⟩; refine ⟨_, rfl, ?_⟩; simp only [put_lit, List.set_cons_zero, List.set_cons_succ]
        replace hbw := hbw.trans (hb1.mono hbw.size)
        clear hb1
        obtain ⟨R2, hR⟩ : ∃ R2, R2 = ((srch (sortL l1) key 0 (sortL l1).length : Nat) : Int) := ⟨_, rfl⟩
        obtain ⟨Q2, hQ⟩ : ∃ Q2, Q2 = decide ((sortL l1)[srch (sortL l1) key 0 (sortL l1).length]? = some key) := ⟨_, rfl⟩
        rw [← hR, ← hQ]
        have HQ2 : Hid (Q2 = true ↔ key ∈ l1) := Lib.hid (by
          rw [hQ, decide_eq_true_eq, srch_mem (sortL_srt l1)]
          exact (sortL_perm l1).mem_iff)
        clear hR hQ HX
        refine wl_k rfl (fun K hK => ?_); go_simp; refine hK _ ?_; clear hK K
        refine wl_k rfl (fun K hK => ?_); go_simp; refine hK _ ?_; clear hK K
        refine wl_k rfl (fun K hK => ?_); go_simp; refine hK _ ?_; clear hK K
        refine wl_k rfl (fun K hK => ?_); go_simp; refine hK _ ?_; clear hK K
        refine wl_k rfl (fun K hK => ?_); go_simp; refine hK _ ?_; clear hK K
        go_upto_region 14 with (fail)
        apply wp_region_lit
        refine wl_k rfl (fun K hK => ?_); go_simp; refine hK _ ?_; clear hK K
        refine wl_k rfl (fun K hK => ?_); go_simp; refine hK _ ?_; clear hK K
        refine wl_k rfl (fun K hK => ?_); go_simp; refine hK _ ?_; clear hK K
        refine wl_ck rfl (fun K hK => ?_); go_simp; refine ⟨_, _, ⟨rfl, rfl⟩, hK _ _ ⟨_, Has_any A1 n1 c1 l1 key (by omega) _ (H1.out.below hbw), ?_⟩⟩; clear hK K; rintro e w18 ⟨r, rfl, hr, hb1⟩; refine ⟨_, rfl, ?_⟩; simp only [put_lit, List.set_cons_zero, List.set_cons_succ]
        replace hbw := hbw.trans (hb1.mono hbw.size)
        clear hb1
        have HE : Hid (decide (0 ≤ r) = Q2) := Lib.hid (by rw [← Bool.coe_iff_coe, decide_eq_true_eq]; exact hr.trans HQ2.out.symm)
        clear hr HQ2
        refine wl_k rfl (fun K hK => ?_); go_simp; refine hK _ ?_; clear hK K
        rw [HE.out]
        have hQ3 : (Q2 == Q2) = true := by simp
        refine wl_k rfl (fun K hK => ?_); go_simp; refine hK _ ?_; clear hK K
        refine wl_k rfl (fun K hK => ?_); go_simp; refine hK _ ?_; clear hK K
        refine wl_ck rfl (fun K hK => ?_); go_simp; refine ⟨_, _, ⟨rfl, rfl⟩, hK _ _ ⟨_, awake_any _, ?_⟩⟩; clear hK K; rintro e w19 ⟨rfl, hb1⟩; refine ⟨_, rfl, ?_⟩; simp only [put_lit, List.set_cons_zero, List.set_cons_succ]
        replace hbw := hbw.trans (hb1.mono hbw.size)
        clear hb1
        go_wp2_with fail
        go_ret
        exact ⟨rfl, hbw⟩
      · have hkI : (200 : Int) < (key.size : Int) := by omega
        have hd : decide ((200 : Int) < (key.size : Int)) = true := by simpa using hkI
        go_wp2_with fail
        go_ret
        exact ⟨rfl, hbw⟩
end Go.Proofs.Ytbhdgeoljlhmcaa
