/- Long numbers divided; powers; back to an int. -/
import Derived.Test.YtclainfdeghgnaaW8
import Derived.Test.YtclainfdeghgnaaK6
import Derived.Outline
namespace Go.Proofs.Ytclainfdeghgnaa
open Go.RowKit Nm

theorem tdiv_sg (a b : Int) : sg (ng a != ng b) (a.natAbs / b.natAbs) = a.tdiv b := by
  rw [ng_def, ng_def]; unfold sg
  obtain ⟨m, hm | hm⟩ := Int.eq_nat_or_neg a <;> obtain ⟨n, hn | hn⟩ := Int.eq_nat_or_neg b <;> subst hm <;> subst hn <;>
    simp only [Int.natAbs_neg, Int.natAbs_natCast, Int.neg_tdiv, Int.tdiv_neg, Int.neg_neg, ← Int.ofNat_tdiv]
  · have e1 : ¬ ((m : Int) < 0) := by omega
    have e2 : ¬ ((n : Int) < 0) := by omega
    simp [e1, e2]
  · have e1 : ¬ ((m : Int) < 0) := by omega
    by_cases h : n = 0
    · subst h; simp [e1]
    · have e2 : (-(n : Int) < 0) := by omega
      simp only [e1, e2]; rfl
  · have e2 : ¬ ((n : Int) < 0) := by omega
    by_cases h : m = 0
    · subst h; simp [e2]
    · have e1 : (-(m : Int) < 0) := by omega
      simp only [e1, e2]; rfl
  · by_cases h : m = 0
    · subst h; simp
    · have e1 : (-(m : Int) < 0) := by omega
      by_cases h2 : n = 0
      · subst h2; simp
      · have e2 : (-(n : Int) < 0) := by omega
        simp only [e1, e2]; rfl
theorem tmod_sg (a b : Int) : sg (ng a) (a.natAbs % b.natAbs) = a.tmod b := by
  rw [ng_def]; unfold sg
  obtain ⟨m, hm | hm⟩ := Int.eq_nat_or_neg a <;> obtain ⟨n, hn | hn⟩ := Int.eq_nat_or_neg b <;> subst hm <;> subst hn <;>
    simp only [Int.natAbs_neg, Int.natAbs_natCast, Int.neg_tmod, Int.tmod_neg, ← Int.ofNat_tmod]
  · have e1 : ¬ ((m : Int) < 0) := by omega
    simp [e1]
  · have e1 : ¬ ((m : Int) < 0) := by omega
    simp [e1]
  · by_cases h : m = 0
    · subst h; simp
    · have e1 : (-(m : Int) < 0) := by omega
      simp only [e1]; rfl
  · by_cases h : m = 0
    · subst h; simp
    · have e1 : (-(m : Int) < 0) := by omega
      simp only [e1]; rfl

set_option maxHeartbeats 400000 in
theorem div_any (a b : Int) (ha : a.natAbs < 10 ^ 64) (hb0 : 0 < b.natAbs) (hb1 : b.natAbs < 10 ^ 63) (w : World) :
    Calls Try.prog 103 #[.agg (lv a), .agg (lv b)] w fun e w' => e = .returned (.tuple #[.agg (lv (a.tdiv b)), .agg (lv (a.tmod b))]) ∧ Below w.heap.size w w' := by
  have HA := Lib.hid ha
  have HB0 := Lib.hid hb0
  have HB1 := Lib.hid hb1
  have HQ := Lib.hid (show a.natAbs / b.natAbs < 10 ^ 64 from Nat.lt_of_le_of_lt (Nat.div_le_self _ _) ha)
  have HR := Lib.hid (show a.natAbs % b.natAbs < 10 ^ 64 from Nat.lt_of_le_of_lt (Nat.mod_le _ _) ha)
  clear ha hb0 hb1
  go_enter Try.func103, Try.ntmps103
  go_upto_region 1 with (fail)
  refine wp_world (fun W => W.heap[w.heap.size]? = some (.cells (lv a) 75 (0, 0)) ∧ W.heap[w.heap.size + 1]? = some (.cells (lv b) 75 (0, 0)) ∧ W.heap[w.heap.size + 1 + 1]? = some (.cells (lv 0) 75 (0, 0)) ∧ W.heap[w.heap.size + 1 + 1 + 1]? = some (.cells (lv 0) 75 (0, 0)) ∧ Below w.heap.size w W)
    ⟨ha_old (ha_old (ha_old (ha_new rfl))), ha_old (ha_old (ha_new (by simp))), by rw [← zero_long]; exact ha_old (ha_new (by simp)), by rw [← zero_long]; exact ha_new (by simp), ((((Below.refl _ _).alloc (Nat.le_refl _) _).alloc (by simp) _).alloc (by simp; omega) _).alloc (by simp; omega) _⟩ ?_
  rintro W ⟨h0, h1, h2, h3, hb⟩
  apply wp_region_lit
  refine wl_k rfl (fun K hK => ?_); go_simp; refine hK _ ?_; clear hK K
  ((with_reducible apply wl_rowG); exact rfl; exact rfl; (first | exact rowL (by with_reducible assumption) | exact rowD (by with_reducible assumption) | exact rowR (by with_reducible assumption)))
  refine wl_k rfl (fun K hK => ?_); go_simp; refine hK _ ?_; clear hK K
  ((with_reducible apply wl_rowG); exact rfl; exact rfl; (first | exact rowL (by with_reducible assumption) | exact rowD (by with_reducible assumption) | exact rowR (by with_reducible assumption)))
  refine wl_ck rfl (fun K hK => ?_); go_simp; refine ⟨_, _, ⟨rfl, rfl⟩, hK _ _ ⟨_, divDigits_any _ _ HA.out HB0.out HB1.out _, ?_⟩⟩; clear hK K; rintro e w1 ⟨rfl, hb1⟩; refine ⟨_, rfl, ?_⟩; simp only [put_lit, List.set_cons_zero, List.set_cons_succ]
  have l3 := heap_lt h3
  replace h0 := below_look hb1 h0; replace h1 := below_look hb1 h1; replace h2 := below_look hb1 h2; replace h3 := below_look hb1 h3; replace hb := hb.trans (hb1.mono hb.size); clear hb1
  refine wl_k rfl (fun K hK => ?_); go_simp; refine hK _ ?_; clear hK K
  refine wl_k rfl (fun K hK => ?_); go_simp; refine hK _ ?_; clear hK K
  refine wl_k rfl (fun K hK => ?_); go_simp; refine hK _ ?_; clear hK K
  have l3 := heap_lt h3
  ((with_reducible apply wl_new73); intro w2 p2 hbn hlp2 hp2; replace h0 := below_look hbn h0; replace h1 := below_look hbn h1; replace h2 := below_look hbn h2; replace h3 := below_look hbn h3; replace hb := hb.trans (hbn.mono hb.size); clear hbn)
  have lp2 := heap_lt hp2
  ((with_reducible apply wl_new73); intro w3 p3 hbn hlp3 hp3; replace h0 := below_look hbn h0; replace h1 := below_look hbn h1; replace h2 := below_look hbn h2; replace h3 := below_look hbn h3; replace hp2 := below_look hbn hp2; replace hb := hb.trans (hbn.mono hb.size); clear hbn)
  ((with_reducible apply wl_put73); exact rfl; exact rfl; exact hp2; intro w4 hbx hk hq; replace h0 := hk _ _ (by omega) h0; replace h1 := hk _ _ (by omega) h1; replace h2 := hk _ _ (by omega) h2; replace h3 := hk _ _ (by omega) h3; replace hp3 := hk _ _ (by omega) hp3; replace hb := hbx _ _ (by omega) hb; clear hp2; have hp2 := hq; clear hbx hk hq)
  ((with_reducible apply wl_put73); exact rfl; exact rfl; exact hp3; intro w5 hbx hk hq; replace h0 := hk _ _ (by omega) h0; replace h1 := hk _ _ (by omega) h1; replace h2 := hk _ _ (by omega) h2; replace h3 := hk _ _ (by omega) h3; replace hp2 := hk _ _ (by omega) hp2; replace hb := hbx _ _ (by omega) hb; clear hp3; have hp3 := hq; clear hbx hk hq)
  go_wp2_with fail
  refine wp_region_below 11 mixed (by kernel_rfl) ?_; simp only [List.take_succ_cons, List.take_zero, List.drop_succ_cons, List.drop_zero]
  ((with_reducible apply wq_row); exact rfl; exact rfl; (intro w' hw'; first | exact rowL (below_look hw' (by with_reducible assumption)) | exact rowD (below_look hw' (by with_reducible assumption)) | exact rowR (below_look hw' (by with_reducible assumption))))
  refine wq_k rfl (fun K hK => ?_); go_simp; refine hK _ ?_; clear hK K
  ((with_reducible apply wq_one); exact rfl; exact rfl; (intro w' hw'; exact oneN (below_look hw' (by with_reducible assumption))))
  refine wq_k rfl (fun K hK => ?_); go_simp; refine hK _ ?_; clear hK K
  ((with_reducible apply wq_one); exact rfl; exact rfl; (intro w' hw'; exact oneN (below_look hw' (by with_reducible assumption))))
  refine wq_k rfl (fun K hK => ?_); go_simp; refine hK _ ?_; clear hK K
  refine wq_ck rfl (fun K hK => ?_); go_simp; refine ⟨_, _, ⟨rfl, rfl⟩, hK _ _ ⟨_, fun w' hw' => calls_class hw' (signed_any _ _ HQ.out w'), ?_⟩⟩; clear hK K; simp only [put_lit, List.set_cons_zero, List.set_cons_succ]
  ((with_reducible apply wq_row); exact rfl; exact rfl; (intro w' hw'; first | exact rowL (below_look hw' (by with_reducible assumption)) | exact rowD (below_look hw' (by with_reducible assumption)) | exact rowR (below_look hw' (by with_reducible assumption))))
  refine wq_k rfl (fun K hK => ?_); go_simp; refine hK _ ?_; clear hK K
  ((with_reducible apply wq_one); exact rfl; exact rfl; (intro w' hw'; exact oneN (below_look hw' (by with_reducible assumption))))
  refine wq_ck rfl (fun K hK => ?_); go_simp; refine ⟨_, _, ⟨rfl, rfl⟩, hK _ _ ⟨_, fun w' hw' => calls_class hw' (signed_any _ _ HR.out w'), ?_⟩⟩; clear hK K; simp only [put_lit, List.set_cons_zero, List.set_cons_succ]
  intro w6 hb1
  replace h0 := below_look hb1 h0; replace h1 := below_look hb1 h1; replace h2 := below_look hb1 h2; replace h3 := below_look hb1 h3; replace hb := hb.trans (hb1.mono hb.size); clear hb1
  ((with_reducible apply wl_put75); exact rfl; exact rfl; exact h2; intro w7 hbx hk hq; replace h0 := hk _ _ (by omega) h0; replace h1 := hk _ _ (by omega) h1; replace h3 := hk _ _ (by omega) h3; replace hb := hbx _ _ (by omega) hb; clear h2; have h2 := hq; clear hbx hk hq)
  ((with_reducible apply wl_put75); exact rfl; exact rfl; exact h3; intro w8 hbx hk hq; replace h0 := hk _ _ (by omega) h0; replace h1 := hk _ _ (by omega) h1; replace h2 := hk _ _ (by omega) h2; replace hb := hbx _ _ (by omega) hb; clear h3; have h3 := hq; clear hbx hk hq)
  go_wp2_with fail
  refine bodyPost_ret (res_long2 rfl _ _ (w.heap.size + 1 + 1) (w.heap.size + 1 + 1 + 1) rfl rfl h2 h3) rfl ⟨?_, hb⟩
  rw [← tdiv_sg, ← tmod_sg]; rfl
end Go.Proofs.Ytclainfdeghgnaa
