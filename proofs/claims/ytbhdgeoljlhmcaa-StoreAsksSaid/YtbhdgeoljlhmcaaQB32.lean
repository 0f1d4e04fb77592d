/- Whether two names are the same, by the document. -/
import Derived.Outline
import Derived.Test.YtbhdgeoljlhmcaaQB28
import Derived.Test.YtbhdgeoljlhmcaaQB31
namespace Go.Proofs.Ytbhdgeoljlhmcaa
open Go.RowKit Go.Proofs.Ytbhdgeoljlhmcaa.Nm Go.Proofs.Ytbhdgeoljlhmcaa.St
set_option linter.unusedSimpArgs false
def bufN (A : Sto) (n : Int) : Buf := if isNm n then A.buf n else noBuf
def errN (n : Int) : Int := if isNm n then 0 else 4
theorem ItemI_gen (v : Value) (A : Sto) (B : Nat) (hA : Good A) (n : Int) (w : World) (h : DAt w B v A) :
    Calls Try.prog 40 #[v, .int .i64 n] w fun e w' => ∃ v', e = .returned (.tuple #[v', .int .i64 (errN n)]) ∧ ItemAt w' w.heap.size v' (bufN A n) ∧ Below w.heap.size w w' := by
  unfold bufN errN
  cases hn : isNm n with
  | false => exact (ItemI_no v A B n hn w h).mono fun e w' ⟨h1, h2⟩ => ⟨_, by rw [h1]; rfl, itemAt_no _ _, h2⟩
  | true =>
    unfold isNm at hn
    simp only [Bool.and_eq_true, decide_eq_true_eq] at hn
    obtain ⟨f, rfl⟩ : ∃ f : Nat, n = (f : Int) := ⟨n.toNat, by omega⟩
    exact (ItemI_yes v A B hA f hn.2 w h).mono fun e w' ⟨v', h1, h2, h3⟩ => ⟨v', by rw [h1]; rfl, h2, h3⟩
theorem bufN_ok {A : Sto} (hA : Good A) (n : Int) : (bufN A n).l.length ≤ 1000 ∧ (pairsT (bufN A n).t).length ≤ 1000 ∧ Apt (pairsT (bufN A n).t) := by
  unfold bufN
  split
  · have := buf_small hA n
    have h2 := pairsT_le (A.buf n).t
    exact ⟨by omega, by omega, buf_apt hA n⟩
  · exact ⟨by decide, by decide, List.Pairwise.nil⟩
set_option maxHeartbeats 4000000 in
set_option maxRecDepth 100000 in
theorem SameI_any (v : Value) (A : Sto) (B : Nat) (hA : Good A) (a b : Int) (w : World) (h : DAt w B v A) :
    Calls Try.prog 48 #[v, .int .i64 a, .int .i64 b] w fun e w' => e = .returned (.tuple #[.bool (if isNm a && isNm b then alikeB (A.buf a) (A.buf b) else false), .int .i64 (if isNm a && isNm b then 0 else 4)]) ∧ Below w.heap.size w w' := by
  have HA := Lib.hid hA
  clear hA
  obtain ⟨R1, hR1⟩ : ∃ R, R = (if (isNm a && isNm b) = true then alikeB (A.buf a) (A.buf b) else false) := ⟨_, rfl⟩
  obtain ⟨R2, hR2⟩ : ∃ R : Int, R = (if (isNm a && isNm b) = true then 0 else 4) := ⟨_, rfl⟩
  rw [← hR1, ← hR2]
  have HR := Lib.hid (And.intro hR1 hR2)
  clear hR1 hR2
  obtain ⟨nv, bv, M, sh, rfl, -, -, -⟩ := h.form
  have HD := Lib.hid h
  clear h
  go_enter Try.func48, Try.ntmps48
  go_upto_region 1 with (fail)
  refine wp_world (fun W => Below w.heap.size w W ∧ W.heap[w.heap.size]? = some (.cells (sc66 nv bv M sh) 66 (0, 0))) ⟨(Below.refl w.heap.size w).alloc (Nat.le_refl _) _, ha_new rfl⟩ ?_
  rintro W ⟨hb, g1⟩
  replace HD := Lib.hid (HD.out.below hb)
  apply wp_region_lit
  ((with_reducible apply wl_rowG); exact rfl; exact rfl; exact rowS g1); try simp only [Zy]
  refine wl_k rfl (fun K hK => ?_); go_simp; refine hK _ ?_; clear hK K
  refine wl_ck rfl (fun K hK => ?_); go_simp; refine ⟨_, _, ⟨rfl, rfl⟩, hK _ _ ⟨_, ItemI_gen _ A B HA.out a _ HD.out, ?_⟩⟩; clear hK K; rintro e w1 ⟨v, rfl, hit, hb1⟩; refine ⟨_, rfl, ?_⟩; simp only [Zq]
  obtain ⟨X1, X2, X3, X4, rfl, ho1, ho2⟩ := hit.shape
  obtain ⟨Xl, hnl⟩ : ∃ n, n = (bufN A a).l.length := ⟨_, rfl⟩
  obtain ⟨Xp, hnp⟩ : ∃ n, n = (pairsT (bufN A a).t).length := ⟨_, rfl⟩
  rw [← hnl] at ho1 ⊢
  rw [← hnp] at ho2 ⊢
  have XNL := Lib.hid (And.intro hnl hnp)
  replace g1 := below_look hb1 g1
  replace HD := Lib.hid (HD.out.below hb1)
  replace hb := hb.trans (hb1.mono hb.size)
  skip
  clear hnl hnp hit
  iterate 3 (refine wl_k rfl (fun K hK => ?_); go_simp; refine hK _ ?_; clear hK K)
  obtain ⟨XC, hC⟩ : ∃ C, C = icells (bufN A a).kd (.slice X1 Xl X2) (bufN A a).seed (.slice X3 Xp X4) := ⟨_, rfl⟩
  have h1C : XC.all (·.oneCell') = true := by rw [hC]; exact icells_one _ _ _ _ _ _ _ _
  have hzC : XC.size = 4 := by rw [hC]; rfl
  rw [← hC]
  refine wl_new (fun ev w => ex_alloc32 rfl ev w) ?_
  intro W5 p8 hb5 hl5 h5
  refine wl_putG p8 XC rfl rfl 32 _ h5 (by rw [info32, hzC]) (by rw [hzC]; rfl) h1C ?_
  rw [put_noneA]
  have XH := Lib.hid (hr_new (cs := XC) h5)
  have hbb := below_setRow hb5 (g := p8) hl5 XC
  replace g1 := below_look hbb g1
  replace HD := Lib.hid (HD.out.below hbb)
  replace hb := hb.trans (hbb.mono hb.size)
  have XI : Hid (ItemAt (W5.setRow p8 XC) 0 (.agg XC) (bufN A a)) := Lib.hid (by
    exact ⟨_, _, by rw [hC], by rw [← XNL.out.1]; exact own_weak (own_below ho1 hbb) (Nat.zero_le _), by rw [← XNL.out.2]; exact own_weak (own_below ho2 hbb) (Nat.zero_le _)⟩)
  have XZ := Lib.hid hzC
  clear hb5 h5 hbb hl5 hb1 ho1 ho2 hC h1C hzC
  generalize W5.setRow p8 XC = w2 at *
  refine wl_k rfl (fun K hK => ?_); go_simp; refine hK _ ?_; clear hK K
  go_upto_region 2 with (fail)
  apply wp_region_lit
  ((with_reducible apply wl_rowG); exact rfl; exact rfl; exact rowS g1); try simp only [Zy]
  refine wl_k rfl (fun K hK => ?_); go_simp; refine hK _ ?_; clear hK K
  refine wl_ck rfl (fun K hK => ?_); go_simp; refine ⟨_, _, ⟨rfl, rfl⟩, hK _ _ ⟨_, ItemI_gen _ A B HA.out b _ HD.out, ?_⟩⟩; clear hK K; rintro e w3 ⟨v, rfl, hit, hb1⟩; refine ⟨_, rfl, ?_⟩; simp only [Zq]
  obtain ⟨Y1, Y2, Y3, Y4, rfl, ho1, ho2⟩ := hit.shape
  obtain ⟨Yl, hnl⟩ : ∃ n, n = (bufN A b).l.length := ⟨_, rfl⟩
  obtain ⟨Yp, hnp⟩ : ∃ n, n = (pairsT (bufN A b).t).length := ⟨_, rfl⟩
  rw [← hnl] at ho1 ⊢
  rw [← hnp] at ho2 ⊢
  have YNL := Lib.hid (And.intro hnl hnp)
  replace g1 := below_look hb1 g1
  replace HD := Lib.hid (HD.out.below hb1)
  replace hb := hb.trans (hb1.mono hb.size)
  replace XH := Lib.hid (below_look hb1 XH.out); replace XI := Lib.hid (XI.out.below hb1)
  clear hnl hnp hit
  iterate 3 (refine wl_k rfl (fun K hK => ?_); go_simp; refine hK _ ?_; clear hK K)
  obtain ⟨YC, hC⟩ : ∃ C, C = icells (bufN A b).kd (.slice Y1 Yl Y2) (bufN A b).seed (.slice Y3 Yp Y4) := ⟨_, rfl⟩
  have h1C : YC.all (·.oneCell') = true := by rw [hC]; exact icells_one _ _ _ _ _ _ _ _
  have hzC : YC.size = 4 := by rw [hC]; rfl
  rw [← hC]
  refine wl_new (fun ev w => ex_alloc32 rfl ev w) ?_
  intro W5 p10 hb5 hl5 h5
  refine wl_putG p10 YC rfl rfl 32 _ h5 (by rw [info32, hzC]) (by rw [hzC]; rfl) h1C ?_
  rw [put_noneA]
  have YH := Lib.hid (hr_new (cs := YC) h5)
  have hbb := below_setRow hb5 (g := p10) hl5 YC
  replace g1 := below_look hbb g1
  replace HD := Lib.hid (HD.out.below hbb)
  replace hb := hb.trans (hbb.mono hb.size)
  have YI : Hid (ItemAt (W5.setRow p10 YC) 0 (.agg YC) (bufN A b)) := Lib.hid (by
    exact ⟨_, _, by rw [hC], by rw [← YNL.out.1]; exact own_weak (own_below ho1 hbb) (Nat.zero_le _), by rw [← YNL.out.2]; exact own_weak (own_below ho2 hbb) (Nat.zero_le _)⟩)
  have YZ := Lib.hid hzC
  replace XH := Lib.hid (below_look hbb XH.out)
  replace XI := Lib.hid (XI.out.below hbb)
  clear hb5 h5 hbb hl5 hb1 ho1 ho2 hC h1C hzC
  generalize W5.setRow p10 YC = w4 at *
  refine wl_k rfl (fun K hK => ?_); go_simp; refine hK _ ?_; clear hK K
  cases ha : isNm a with
  | false =>
    rw [show errN a = 4 by unfold errN; rw [ha]; rfl]
    go_wp2_with fail
    go_ret2
    exact ⟨by rw [HR.out.1, HR.out.2, ha]; rfl, hb⟩
  | true =>
    rw [show errN a = 0 by unfold errN; rw [ha]; rfl]
    cases hb' : isNm b with
    | false =>
      rw [show errN b = 4 by unfold errN; rw [hb']; rfl]
      go_wp2_with fail
      go_ret2
      exact ⟨by rw [HR.out.1, HR.out.2, ha, hb']; rfl, hb⟩
    | true =>
      rw [show errN b = 0 by unfold errN; rw [hb']; rfl]
      have hka := bufN_ok HA.out a
      have hkb := bufN_ok HA.out b
      have HAL := Lib.hid (Alike_any (bufN A a) (bufN A b) (by omega) (by omega) (by omega) hka.2.2 XI.out YI.out)
      rw [show bufN A a = A.buf a by unfold bufN; rw [if_pos ha], show bufN A b = A.buf b by unfold bufN; rw [if_pos hb']] at HAL
      clear hka hkb
      go_upto_region 5 with (fail)
      apply wp_region_lit
      ((with_reducible apply wl_rowG); exact rfl; exact rfl; exact row_mid XH.out (off := 0) (by rw [← XZ.out]; simp) u32 rfl XZ.out info32); try simp only [Zy]
      ((with_reducible apply wl_rowG); exact rfl; exact rfl; exact row_mid YH.out (off := 0) (by rw [← YZ.out]; simp) u32 rfl YZ.out info32); try simp only [Zy]
      refine wl_ck rfl (fun K hK => ?_); go_simp; refine ⟨_, _, ⟨rfl, rfl⟩, hK _ _ ⟨_, HAL.out, ?_⟩⟩; clear hK K; rintro e w5 ⟨rfl, hb1⟩; refine ⟨_, rfl, ?_⟩; simp only [Zq]
      replace hb := hb.trans (hb1.mono hb.size)
      clear hb1
      go_wp2_with fail
      go_ret2
      exact ⟨by rw [HR.out.1, HR.out.2, ha, hb']; rfl, hb⟩
end Go.Proofs.Ytbhdgeoljlhmcaa
