/- Long numbers divided and rounded down; powers; back to an int. -/
import Derived.Test.YtclainfdeghgnaaW9
namespace Go.Proofs.Ytclainfdeghgnaa
open Go.RowKit Nm

theorem floor_eq {a b : Int} (hb : 0 < b) : a / b = if a.tmod b < 0 then a.tdiv b + -1 else a.tdiv b := by
  have h1 := Int.mul_tdiv_add_tmod a b
  have h2 := Int.tmod_lt_of_pos a hb
  have h3 := Int.lt_tmod_of_pos a hb
  generalize a.tdiv b = q at *
  generalize a.tmod b = r at *
  split
  · rw [← h1, show b * q + r = (r + b) + b * (q + -1) by rw [Int.mul_add]; omega, Int.add_mul_ediv_left _ _ (by omega), Int.ediv_eq_zero_of_lt (by omega) (by omega)]; omega
  · rw [← h1, Int.add_comm, Int.add_mul_ediv_left _ _ (by omega), Int.ediv_eq_zero_of_lt (by omega) (by omega)]; omega

set_option maxHeartbeats 400000 in
theorem floor_any (a b : Int) (ha : a.natAbs + 1 < 10 ^ 64) (hb0 : 0 < b) (hb1 : b.natAbs < 10 ^ 63) (w : World) :
    Calls Try.prog 109 #[.agg (lv a), .agg (lv b)] w fun e w' => e = .returned (.agg (lv (a / b))) ∧ Below w.heap.size w w' := by
  have HA := Lib.hid (show a.natAbs < 10 ^ 64 by omega)
  have HB0 := Lib.hid (show 0 < b.natAbs by omega)
  have HB1 := Lib.hid hb1
  have HF := Lib.hid (floor_eq (a := a) hb0)
  have HQ := Lib.hid (show (a.tdiv b).natAbs + (-1 : Int).natAbs < 10 ^ 64 by
    have h1 : (a.tdiv b).natAbs ≤ a.natAbs := by rw [Int.natAbs_tdiv]; exact Nat.div_le_self _ _
    have h2 : (-1 : Int).natAbs = 1 := rfl
    rw [h2]; omega)
  clear ha hb0 hb1
  go_enter Try.func109, Try.ntmps109
  go_upto_region 1 with (fail)
  refine wp_world (fun W => W.heap[w.heap.size]? = some (.cells (lv a) 75 (0, 0)) ∧ W.heap[w.heap.size + 1]? = some (.cells (lv b) 75 (0, 0)) ∧ W.heap[w.heap.size + 1 + 1]? = some (.cells (lv 0) 75 (0, 0)) ∧ Below w.heap.size w W)
    ⟨ha_old (ha_old (ha_new rfl)), ha_old (ha_new (by simp)), by rw [← zero_long]; exact ha_new (by simp), (((Below.refl _ _).alloc (Nat.le_refl _) _).alloc (by simp) _).alloc (by simp; omega) _⟩ ?_
  rintro W ⟨h0, h1, h2, hb⟩
  apply wp_region_lit
  ((with_reducible apply wl_rowG); exact rfl; exact rfl; (first | exact rowL (by with_reducible assumption) | exact rowD (by with_reducible assumption) | exact rowR (by with_reducible assumption)))
  ((with_reducible apply wl_rowG); exact rfl; exact rfl; (first | exact rowL (by with_reducible assumption) | exact rowD (by with_reducible assumption) | exact rowR (by with_reducible assumption)))
  refine wl_ck rfl (fun K hK => ?_); go_simp; refine ⟨_, _, ⟨rfl, rfl⟩, hK _ _ ⟨_, div_any _ _ HA.out HB0.out HB1.out _, ?_⟩⟩; clear hK K; rintro e w1 ⟨rfl, hb1⟩; refine ⟨_, rfl, ?_⟩; simp only [put_lit, List.set_cons_zero, List.set_cons_succ]
  replace h0 := below_look hb1 h0; replace h1 := below_look hb1 h1; replace h2 := below_look hb1 h2; replace hb := hb.trans (hb1.mono hb.size); clear hb1
  refine wl_k rfl (fun K hK => ?_); go_simp; refine hK _ ?_; clear hK K
  refine wl_k rfl (fun K hK => ?_); go_simp; refine hK _ ?_; clear hK K
  refine wl_k rfl (fun K hK => ?_); go_simp; refine hK _ ?_; clear hK K
  have l2 := heap_lt h2
  ((with_reducible apply wl_new75); intro w2 p2 hbn hlp2 hp2; replace h2 := below_look hbn h2; replace hb := hb.trans (hbn.mono hb.size); clear hbn)
  have lp2 := heap_lt hp2
  ((with_reducible apply wl_new75); intro w3 p3 hbn hlp3 hp3; replace h2 := below_look hbn h2; replace hp2 := below_look hbn hp2; replace hb := hb.trans (hbn.mono hb.size); clear hbn)
  ((with_reducible apply wl_put75); exact rfl; exact rfl; exact hp2; intro w4 hbx hk hq; replace h2 := hk _ _ (by omega) h2; replace hp3 := hk _ _ (by omega) hp3; replace hb := hbx _ _ (by omega) hb; clear hp2; have hp2 := hq; clear hbx hk hq)
  ((with_reducible apply wl_put75); exact rfl; exact rfl; exact hp3; intro w5 hbx hk hq; replace h2 := hk _ _ (by omega) h2; replace hp2 := hk _ _ (by omega) hp2; replace hb := hbx _ _ (by omega) hb; clear hp3; have hp3 := hq; clear hbx hk hq)
  by_cases hr : ng (a.tmod b) = true
  · have c3 : w5.cell? ⟨p3, 0, none⟩ = some (.bool true) := by rw [cell_of_row _ _ _ _ _ _ hp3, lv_neg, hr]
    go_upto_region 3 with (fail)
    refine wp_region_below 3 mixed (by kernel_rfl) ?_; simp only [List.take_succ_cons, List.take_zero, List.drop_succ_cons, List.drop_zero]
    ((with_reducible apply wq_row); exact rfl; exact rfl; (intro w' hw'; first | exact rowL (below_look hw' (by with_reducible assumption)) | exact rowD (below_look hw' (by with_reducible assumption)) | exact rowR (below_look hw' (by with_reducible assumption))))
    refine wq_ck rfl (fun K hK => ?_); go_simp; refine ⟨_, _, ⟨rfl, rfl⟩, hK _ _ ⟨_, fun w' hw' => calls_class hw' (small_any (-1) (by omega) (by omega) w'), ?_⟩⟩; clear hK K; simp only [put_lit, List.set_cons_zero, List.set_cons_succ]
    refine wq_ck rfl (fun K hK => ?_); go_simp; refine ⟨_, _, ⟨rfl, rfl⟩, hK _ _ ⟨_, fun w' hw' => calls_class hw' (add_any _ _ HQ.out w'), ?_⟩⟩; clear hK K; simp only [put_lit, List.set_cons_zero, List.set_cons_succ]
    intro w6 hb1
    replace h2 := below_look hb1 h2; replace hb := hb.trans (hb1.mono hb.size); clear hb1
    ((with_reducible apply wl_put75); exact rfl; exact rfl; exact h2; intro w7 hbx hk hq; replace hb := hbx _ _ (by omega) hb; clear h2; have h2 := hq; clear hbx hk hq)
    go_wp2_with fail
    refine bodyPost_ret (res_long rfl _ _ (w.heap.size + 1 + 1) rfl h2) rfl ⟨?_, hb⟩
    rw [HF.out, if_pos (by rw [ng_def] at hr; simpa using hr)]
  · have c3 : w5.cell? ⟨p3, 0, none⟩ = some (.bool false) := by rw [cell_of_row _ _ _ _ _ _ hp3, lv_neg, Bool.eq_false_iff.2 hr]
    go_upto_region 4 with (fail)
    apply wp_region_lit
    ((with_reducible apply wl_rowG); exact rfl; exact rfl; (first | exact rowL (by with_reducible assumption) | exact rowD (by with_reducible assumption) | exact rowR (by with_reducible assumption)))
    ((with_reducible apply wl_put75); exact rfl; exact rfl; exact h2; intro w7 hbx hk hq; replace hb := hbx _ _ (by omega) hb; clear h2; have h2 := hq; clear hbx hk hq)
    go_wp2_with fail
    refine bodyPost_ret (res_long rfl _ _ (w.heap.size + 1 + 1) rfl h2) rfl ⟨?_, hb⟩
    rw [HF.out, if_neg (by rw [ng_def] at hr; simpa using hr)]

set_option maxHeartbeats 400000 in
theorem power_any (b n : Nat) (hb1 : 1 ≤ b) (hbn : b ^ n < 10 ^ 64) (hbm : b ≤ 9223372036854775807) (hn : n ≤ 9223372036854775806) (w : World) :
    Calls Try.prog 74 #[.int .i64 b, .int .i64 n] w fun e w' => e = .returned (.agg (lv ((b ^ n : Nat) : Int))) ∧ Below w.heap.size w w' := by
  have HBN := Lib.hid hbn
  clear hbn
  go_enter Try.func74, Try.ntmps74
  go_upto_region 1 with (fail)
  refine wp_world (fun W => W.heap[w.heap.size]? = some (.cells (lv 0) 75 (0, 0)) ∧ Below w.heap.size w W)
    ⟨by rw [← zero_long]; exact ha_new rfl, (Below.refl _ _).alloc (Nat.le_refl _) _⟩ ?_
  rintro W ⟨h0, hb⟩
  apply wp_region_lit
  refine wl_ck rfl (fun K hK => ?_); go_simp; refine ⟨_, _, ⟨rfl, rfl⟩, hK _ _ ⟨_, small_any 1 (by omega) (by omega) _, ?_⟩⟩; clear hK K; rintro e w1 ⟨rfl, hb1⟩; refine ⟨_, rfl, ?_⟩; simp only [put_lit, List.set_cons_zero, List.set_cons_succ]
  replace h0 := below_look hb1 h0; replace hb := hb.trans (hb1.mono hb.size); clear hb1
  refine wl_k rfl (fun K hK => ?_); go_simp; refine hK _ ?_; clear hK K
  refine wl_ck rfl (fun K hK => ?_); go_simp; refine ⟨_, _, ⟨rfl, rfl⟩, hK _ _ ⟨_, small_any b (by omega) (by omega) _, ?_⟩⟩; clear hK K; rintro e w2 ⟨rfl, hb1⟩; refine ⟨_, rfl, ?_⟩; simp only [put_lit, List.set_cons_zero, List.set_cons_succ]
  replace h0 := below_look hb1 h0; replace hb := hb.trans (hb1.mono hb.size); clear hb1
  have l2 := heap_lt h0
  ((with_reducible apply wl_new75); intro w3 p2 hbn hlp2 hp2; replace h0 := below_look hbn h0; replace hb := hb.trans (hbn.mono hb.size); clear hbn)
  have lp2 := heap_lt hp2
  ((with_reducible apply wl_new75); intro w4 p3 hbn hlp3 hp3; replace h0 := below_look hbn h0; replace hp2 := below_look hbn hp2; replace hb := hb.trans (hbn.mono hb.size); clear hbn)
  ((with_reducible apply wl_put75); exact rfl; exact rfl; exact hp2; intro w5 hbx hk hq; replace h0 := hk _ _ (by omega) h0; replace hp3 := hk _ _ (by omega) hp3; replace hb := hbx _ _ (by omega) hb; clear hp2; have hp2 := hq; clear hbx hk hq)
  ((with_reducible apply wl_put75); exact rfl; exact rfl; exact hp3; intro w6 hbx hk hq; replace h0 := hk _ _ (by omega) h0; replace hp2 := hk _ _ (by omega) hp2; replace hb := hbx _ _ (by omega) hb; clear hp3; have hp3 := hq; clear hbx hk hq)
  go_wp2_with fail
  go_loopw [11] (fun i wr => ∃ k : Nat, k ≤ n ∧ i = .int .i64 k ∧ wr.heap[w.heap.size]? = some (.cells (lv 0) 75 (0, 0)) ∧ wr.heap[p2]? = some (.cells (lv ((b ^ k : Nat) : Int)) 75 (0, 0)) ∧ wr.heap[p3]? = some (.cells (lv b) 75 (0, 0)) ∧ Below w.heap.size w wr) (fun i _ => n - (intOf i).toNat)
  case atStart => exact ⟨0, by omega, rfl, h0, hp2, hp3, hb⟩
  case round =>
    clear h0 hp2 hp3 hb
    obtain ⟨k, hk, rfl, h0, hp2, hp3, hb⟩ := hrel
    by_cases hlt : k < n
    · have HK := Lib.hid (show ((b ^ k : Nat) : Int).natAbs * ((b : Int)).natAbs < 10 ^ 64 by
        rw [Int.natAbs_natCast, Int.natAbs_natCast, ← Nat.pow_succ]
        exact Nat.lt_of_le_of_lt (Nat.pow_le_pow_right hb1 hlt) HBN.out)
      go_upto_region 4 with (fail)
      apply wp_region_lit
      ((with_reducible apply wl_rowG); exact rfl; exact rfl; (first | exact rowL (by with_reducible assumption) | exact rowD (by with_reducible assumption) | exact rowR (by with_reducible assumption)))
      ((with_reducible apply wl_rowG); exact rfl; exact rfl; (first | exact rowL (by with_reducible assumption) | exact rowD (by with_reducible assumption) | exact rowR (by with_reducible assumption)))
      refine wl_ck rfl (fun K hK => ?_); go_simp; refine ⟨_, _, ⟨rfl, rfl⟩, hK _ _ ⟨_, mul_any _ _ HK.out _, ?_⟩⟩; clear hK K; rintro e w7 ⟨rfl, hb1⟩; refine ⟨_, rfl, ?_⟩; simp only [put_lit, List.set_cons_zero, List.set_cons_succ]
      replace h0 := below_look hb1 h0; replace hp2 := below_look hb1 hp2; replace hp3 := below_look hb1 hp3; replace hb := hb.trans (hb1.mono hb.size); clear hb1
      ((with_reducible apply wl_put75); exact rfl; exact rfl; exact hp2; intro w8 hbx hk hq; replace h0 := hk _ _ (by omega) h0; replace hp3 := hk _ _ (by omega) hp3; replace hb := hbx _ _ (by omega) hb; clear hp2; have hp2 := hq; clear hbx hk hq)
      go_wp2_with fail
      go_roundw
      case rel => exact ⟨k + 1, hlt, by go_num, h0, by rw [Nat.pow_succ, Int.natCast_mul]; exact hp2, hp3, hb⟩
      case measure => simp [intOf]; omega
    · obtain rfl : k = n := by omega
      go_upto_region 6 with (fail)
      apply wp_region_lit
      ((with_reducible apply wl_rowG); exact rfl; exact rfl; (first | exact rowL (by with_reducible assumption) | exact rowD (by with_reducible assumption) | exact rowR (by with_reducible assumption)))
      ((with_reducible apply wl_put75); exact rfl; exact rfl; exact h0; intro w7 hbx hk hq; replace hb := hbx _ _ (by omega) hb; clear h0; have h0 := hq; clear hbx hk hq)
      go_wp2_with fail
      exact bodyPost_ret (res_long rfl _ _ w.heap.size rfl h0) rfl ⟨rfl, hb⟩
end Go.Proofs.Ytclainfdeghgnaa
