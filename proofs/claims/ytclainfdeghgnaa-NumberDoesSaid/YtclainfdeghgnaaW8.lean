/- Long numbers: out of an int, compared, multiplied, divided. -/
import Derived.Test.YtclainfdeghgnaaW7
import Derived.Outline
namespace Go.Proofs.Ytclainfdeghgnaa
open Go.RowKit Nm


theorem mul_sg (a b : Int) : sg (ng a != ng b) (a.natAbs * b.natAbs) = a * b := by
  rw [ng_def, ng_def]; unfold sg
  have h := Int.natAbs_mul a b
  rw [← h]
  rcases Int.lt_or_le a 0 with h1 | h1 <;> rcases Int.lt_or_le b 0 with h2 | h2
  · have : 0 ≤ a * b := Int.mul_nonneg_of_nonpos_of_nonpos (by omega) (by omega)
    simp [h1, h2]; omega
  · have : a * b ≤ 0 := Int.mul_nonpos_of_nonpos_of_nonneg (by omega) (by omega)
    have e1 : ¬ b < 0 := by omega
    simp [h1, e1]; omega
  · have : a * b ≤ 0 := Int.mul_nonpos_of_nonneg_of_nonpos (by omega) (by omega)
    have e1 : ¬ a < 0 := by omega
    simp [h2, e1]; omega
  · have : 0 ≤ a * b := Int.mul_nonneg (by omega) (by omega)
    have e1 : ¬ a < 0 := by omega
    have e2 : ¬ b < 0 := by omega
    simp [e1, e2]; omega

set_option maxHeartbeats 400000 in
theorem mul_any (a b : Int) (hz : a.natAbs * b.natAbs < 10 ^ 64) (w : World) :
    Calls Try.prog 73 #[.agg (lv a), .agg (lv b)] w fun e w' => e = .returned (.agg (lv (a * b))) ∧ Below w.heap.size w w' := by
  have HZ := Lib.hid hz
  clear hz
  go_enter Try.func73, Try.ntmps73
  go_upto_region 1 with (fail)
  refine wp_world (fun W => W.heap[w.heap.size]? = some (.cells (lv a) 75 (0, 0)) ∧ W.heap[w.heap.size + 1]? = some (.cells (lv b) 75 (0, 0)) ∧ W.heap[w.heap.size + 1 + 1]? = some (.cells (lv 0) 75 (0, 0)) ∧ Below w.heap.size w W) ⟨ha_old (ha_old (ha_new rfl)), ha_old (ha_new (by simp)), by rw [← zero_long]; exact ha_new (by simp), (((Below.refl _ _).alloc (Nat.le_refl _) _).alloc (by simp) _).alloc (by simp; omega) _⟩ ?_
  rintro W ⟨h0, h1, h2, hb⟩
  refine wp_region_below 11 mixed (by kernel_rfl) ?_; simp only [List.take_succ_cons, List.take_zero, List.drop_succ_cons, List.drop_zero]
  refine wq_k rfl (fun K hK => ?_); go_simp; refine hK _ ?_; clear hK K
  ((with_reducible apply wq_row); exact rfl; exact rfl; (intro w' hw'; first | exact rowL (below_look hw' (by with_reducible assumption)) | exact rowD (below_look hw' (by with_reducible assumption)) | exact rowR (below_look hw' (by with_reducible assumption))))
  refine wq_k rfl (fun K hK => ?_); go_simp; refine hK _ ?_; clear hK K
  ((with_reducible apply wq_row); exact rfl; exact rfl; (intro w' hw'; first | exact rowL (below_look hw' (by with_reducible assumption)) | exact rowD (below_look hw' (by with_reducible assumption)) | exact rowR (below_look hw' (by with_reducible assumption))))
  refine wq_ck rfl (fun K hK => ?_); go_simp; refine ⟨_, _, ⟨rfl, rfl⟩, hK _ _ ⟨_, fun w' hw' => calls_class hw' (mulDigits_any _ _ w'), ?_⟩⟩; clear hK K; simp only [put_lit, List.set_cons_zero, List.set_cons_succ]
  refine wq_k rfl (fun K hK => ?_); go_simp; refine hK _ ?_; clear hK K
  ((with_reducible apply wq_one); exact rfl; exact rfl; (intro w' hw'; exact oneN (below_look hw' (by with_reducible assumption))))
  refine wq_k rfl (fun K hK => ?_); go_simp; refine hK _ ?_; clear hK K
  ((with_reducible apply wq_one); exact rfl; exact rfl; (intro w' hw'; exact oneN (below_look hw' (by with_reducible assumption))))
  refine wq_k rfl (fun K hK => ?_); go_simp; refine hK _ ?_; clear hK K
  refine wq_ck rfl (fun K hK => ?_); go_simp; refine ⟨_, _, ⟨rfl, rfl⟩, hK _ _ ⟨_, fun w' hw' => calls_class hw' (signed_any _ _ HZ.out w'), ?_⟩⟩; clear hK K; simp only [put_lit, List.set_cons_zero, List.set_cons_succ]
  intro w' hw'
  have h2' := below_look hw' h2
  go_wp2_with (first | ((with_reducible apply wl_row); exact rfl; (first | exact rowL (by with_reducible assumption) | exact rowD (by with_reducible assumption) | exact rowR (by with_reducible assumption))) | ((with_reducible apply wl_one); exact rfl; exact oneN (by with_reducible assumption)) | ((with_reducible apply wl_stL); exact rfl; exact rfl; with_reducible assumption) | ((with_reducible apply wl_stR); exact rfl; exact rfl; with_reducible assumption))
  refine bodyPost_ret (res_long rfl _ _ (w.heap.size + 1 + 1) rfl (hr_new h2')) rfl ⟨by rw [← mul_sg]; rfl, ?_⟩
  exact below_setRow (hb.trans (hw'.mono hb.size)) (by omega) _

def sml (m k i : Nat) : Nat := if i < k then dg m i else 0
theorem sml_step (m k : Nat) (hk : k < 64) (v : Value) (hv : v = .int .u8 (dg m k)) : (row (sml m k)).setIfInBounds k v = row (sml m (k + 1)) := by
  subst hv; rw [row_set _ _ _ hk]; apply row_congr; intro i _; unfold sml; split
  · subst_vars; rw [if_pos (by omega)]
  · by_cases h : i < k
    · rw [if_pos h, if_pos (by omega)]
    · rw [if_neg h, if_neg (by omega)]
theorem sml_zero (m : Nat) : row (sml m 0) = row fun _ => 0 := row_congr fun i _ => by simp [sml]
theorem sml_end {m k : Nat} (h : m / 10 ^ k = 0) : row (sml m k) = dv m := row_congr fun i _ => by
  unfold sml; split
  · rfl
  · have h1 : m < 10 ^ k := by
      rcases (Nat.div_eq_zero_iff).1 h with h | h
      · have := p10 k; omega
      · exact h
    have h2 : 10 ^ k ≤ 10 ^ i := Nat.pow_le_pow_right (by decide) (by omega)
    unfold dg; rw [Nat.div_eq_of_lt (by omega)]
theorem sml_lt {m k : Nat} (hm : m < 10 ^ 20) (h : 0 < m / 10 ^ k) : k < 20 := by
  refine Nat.lt_of_not_le fun hle => ?_
  have h2 : 10 ^ 20 ≤ 10 ^ k := Nat.pow_le_pow_right (by decide) hle
  rw [Nat.div_eq_of_lt (by omega)] at h
  omega
theorem neg_u64 {n : Int} (h1 : -9223372036854775808 ≤ n) (h2 : n < 0) : IntKind.u64.wrap (-(IntKind.u64.wrap n)) = (n.natAbs : Int) := by
  rw [IntKind.wrap_u64, IntKind.wrap_u64]; omega
theorem pos_u64 {n : Int} (h1 : 0 ≤ n) (h2 : n ≤ 9223372036854775807) : IntKind.u64.wrap n = (n.natAbs : Int) := by
  rw [IntKind.wrap_u64]; omega
theorem sg_int (n : Int) : sg (decide (n < 0)) n.natAbs = n := by unfold sg; by_cases h : n < 0 <;> simp [h] <;> omega

set_option maxHeartbeats 400000 in
theorem small_any (n : Int) (h1 : -9223372036854775808 ≤ n) (h2 : n ≤ 9223372036854775807) (w : World) :
    Calls Try.prog 58 #[.int .i64 n] w fun e w' => e = .returned (.agg (lv n)) ∧ Below w.heap.size w w' := by
  obtain ⟨m, hm⟩ : ∃ m, m = n.natAbs := ⟨_, rfl⟩
  have hm20 : m < 10 ^ 20 := by have : (10 : Nat) ^ 20 = 100000000000000000000 := by decide
                                omega
  have HM := Lib.hid hm
  have HM20 := Lib.hid hm20
  have hmu : (m : Int) ≤ 9223372036854775808 := by omega
  rcases Int.lt_or_le n 0 with hn | hn
  · have e1 := neg_u64 h1 hn
    rw [← hm] at e1
    clear hm hm20
    go_enter Try.func58, Try.ntmps58
    go_upto_region 2 with (fail)
    refine wp_world (fun W => W.heap[w.heap.size]? = some (.cells (lv 0) 75 (0, 0)) ∧ W.heap[w.heap.size + 1]? = some (.cells (row (sml m 0)) 73 (0, 0)) ∧ Below w.heap.size w W) ⟨by rw [← zero_long]; exact ha_old (ha_new rfl), by rw [sml_zero, ← zero_row]; exact ha_new (by simp), ((Below.refl _ _).alloc (Nat.le_refl _) _).alloc (by simp) _⟩ ?_
    rintro W ⟨h0, h1, hb⟩
    go_wp2_with fail
    clear e1
    go_loopw [4, 5] (fun u i wr => ∃ k q : Nat, i = .int .i64 k ∧ u = .int .u64 q ∧ Hid (q = m / 10 ^ k) ∧ wr.heap[w.heap.size]? = some (.cells (lv 0) 75 (0, 0)) ∧ wr.heap[w.heap.size + 1]? = some (.cells (row (sml m k)) 73 (0, 0)) ∧ Below w.heap.size w wr) (fun u _ _ => (intOf u).toNat)
    case atStart => exact ⟨0, m, rfl, rfl, Lib.hid (by simp), h0, h1, hb⟩
    case round =>
      clear h0 h1 hb
      obtain ⟨k, q, rfl, rfl, hq, h0, h1, hb⟩ := hrel
      by_cases hp : 0 < q
      · have hk20 : k < 20 := sml_lt HM20.out (by rw [← hq.out]; exact hp)
        have hmk : q ≤ m := by rw [hq.out]; exact Nat.div_le_self _ _
        have cd : ∃ v, wr.cell? ⟨w.heap.size + 1, k, none⟩ = some v := ⟨_, by rw [cell_of_row _ _ _ _ _ _ h1, row_get _ _ (by omega)]⟩
        obtain ⟨v, cd⟩ := cd
        have fd : wr.frozen? ⟨w.heap.size + 1, k, none⟩ = false := frozen_of_row _ _ _ _ _ h1
        go_wp2_with fail
        go_roundw
        case rel =>
          refine ⟨k + 1, q / 10, by go_num, by go_num, Lib.hid (by rw [hq.out, Nat.div_div_eq_div_mul, Nat.pow_succ]), hs_old h0 (by simp), (hs_new h1).trans (by rw [sml_step _ _ (by omega) _ (by unfold dg; rw [← hq.out]; go_num)]), hb.setCell (by simp) _⟩
        case measure => simp [intOf]; omega
      · obtain rfl : q = 0 := by omega
        rw [sml_end hq.out.symm] at h1
        go_wp2_with (first | ((with_reducible apply wl_row); exact rfl; (first | exact rowL (by with_reducible assumption) | exact rowD (by with_reducible assumption) | exact rowR (by with_reducible assumption))) | ((with_reducible apply wl_one); exact rfl; exact oneN (by with_reducible assumption)) | ((with_reducible apply wl_stL); exact rfl; exact rfl; with_reducible assumption) | ((with_reducible apply wl_stR); exact rfl; exact rfl; with_reducible assumption) | (go_at_call 101; refine (signed_any _ _ (Nat.lt_trans HM20.out (by decide)) _).mono ?_; rintro e w1 ⟨rfl, hb1⟩; replace h0 := below_look hb1 h0))
        refine bodyPost_ret (res_long rfl _ _ w.heap.size rfl (hr_new h0)) rfl ⟨?_, below_setRow (hb.trans (hb1.mono hb.size)) (by omega) _⟩
        have := sg_int n
        rw [← HM.out] at this
        first | rw [this] | (rw [show decide (n < 0) = true by simp; omega] at this; rw [this])
  · have e1 := pos_u64 hn h2
    rw [← hm] at e1
    clear hm hm20
    go_enter Try.func58, Try.ntmps58
    go_upto_region 2 with (fail)
    refine wp_world (fun W => W.heap[w.heap.size]? = some (.cells (lv 0) 75 (0, 0)) ∧ W.heap[w.heap.size + 1]? = some (.cells (row (sml m 0)) 73 (0, 0)) ∧ Below w.heap.size w W) ⟨by rw [← zero_long]; exact ha_old (ha_new rfl), by rw [sml_zero, ← zero_row]; exact ha_new (by simp), ((Below.refl _ _).alloc (Nat.le_refl _) _).alloc (by simp) _⟩ ?_
    rintro W ⟨h0, h1, hb⟩
    go_wp2_with fail
    clear e1
    go_loopw [4, 5] (fun u i wr => ∃ k q : Nat, i = .int .i64 k ∧ u = .int .u64 q ∧ Hid (q = m / 10 ^ k) ∧ wr.heap[w.heap.size]? = some (.cells (lv 0) 75 (0, 0)) ∧ wr.heap[w.heap.size + 1]? = some (.cells (row (sml m k)) 73 (0, 0)) ∧ Below w.heap.size w wr) (fun u _ _ => (intOf u).toNat)
    case atStart => exact ⟨0, m, rfl, rfl, Lib.hid (by simp), h0, h1, hb⟩
    case round =>
      clear h0 h1 hb
      obtain ⟨k, q, rfl, rfl, hq, h0, h1, hb⟩ := hrel
      by_cases hp : 0 < q
      · have hk20 : k < 20 := sml_lt HM20.out (by rw [← hq.out]; exact hp)
        have hmk : q ≤ m := by rw [hq.out]; exact Nat.div_le_self _ _
        have cd : ∃ v, wr.cell? ⟨w.heap.size + 1, k, none⟩ = some v := ⟨_, by rw [cell_of_row _ _ _ _ _ _ h1, row_get _ _ (by omega)]⟩
        obtain ⟨v, cd⟩ := cd
        have fd : wr.frozen? ⟨w.heap.size + 1, k, none⟩ = false := frozen_of_row _ _ _ _ _ h1
        go_wp2_with fail
        go_roundw
        case rel =>
          refine ⟨k + 1, q / 10, by go_num, by go_num, Lib.hid (by rw [hq.out, Nat.div_div_eq_div_mul, Nat.pow_succ]), hs_old h0 (by simp), (hs_new h1).trans (by rw [sml_step _ _ (by omega) _ (by unfold dg; rw [← hq.out]; go_num)]), hb.setCell (by simp) _⟩
        case measure => simp [intOf]; omega
      · obtain rfl : q = 0 := by omega
        rw [sml_end hq.out.symm] at h1
        go_wp2_with (first | ((with_reducible apply wl_row); exact rfl; (first | exact rowL (by with_reducible assumption) | exact rowD (by with_reducible assumption) | exact rowR (by with_reducible assumption))) | ((with_reducible apply wl_one); exact rfl; exact oneN (by with_reducible assumption)) | ((with_reducible apply wl_stL); exact rfl; exact rfl; with_reducible assumption) | ((with_reducible apply wl_stR); exact rfl; exact rfl; with_reducible assumption) | (go_at_call 101; refine (signed_any _ _ (Nat.lt_trans HM20.out (by decide)) _).mono ?_; rintro e w1 ⟨rfl, hb1⟩; replace h0 := below_look hb1 h0))
        refine bodyPost_ret (res_long rfl _ _ w.heap.size rfl (hr_new h0)) rfl ⟨?_, below_setRow (hb.trans (hb1.mono hb.size)) (by omega) _⟩
        have := sg_int n
        rw [← HM.out] at this
        first | rw [this] | (rw [show decide (n < 0) = true by simp; omega] at this; rw [this])

/-- Which of two numbers is greater. -/
@[irreducible] def cz (a b : Int) : Int := if a < b then -1 else if a = b then 0 else 1
theorem cz_def (a b : Int) : cz a b = if a < b then -1 else if a = b then 0 else 1 := by unfold cz; rfl

set_option maxHeartbeats 400000 in
theorem compare_any (a b : Int) (ha : a.natAbs < 10 ^ 64) (hb0 : b.natAbs < 10 ^ 64) (w : World) :
    Calls Try.prog 57 #[.agg (lv a), .agg (lv b)] w fun e w' => e = .returned (.int .i64 (cz a b)) ∧ Below w.heap.size w w' := by
  have HA := Lib.hid ha
  have HB := Lib.hid hb0
  clear ha hb0
  cases hna : ng a <;> cases hnb : ng b
  all_goals
    go_enter Try.func57, Try.ntmps57
    go_upto_region 1 with (fail)
    refine wp_world (fun W => W.heap[w.heap.size]? = some (.cells (lv a) 75 (0, 0)) ∧ W.heap[w.heap.size + 1]? = some (.cells (lv b) 75 (0, 0)) ∧ Below w.heap.size w W) ⟨ha_old (ha_new rfl), ha_new (by simp), ((Below.refl _ _).alloc (Nat.le_refl _) _).alloc (by simp) _⟩ ?_
    rintro W ⟨h0, h1, hb⟩
    have n0 : W.cell? ⟨w.heap.size, 0, none⟩ = some (.bool (ng a)) := by rw [cell_of_row _ _ _ _ _ _ h0]; exact lv_neg a
    have n1 : W.cell? ⟨w.heap.size + 1, 0, none⟩ = some (.bool (ng b)) := by rw [cell_of_row _ _ _ _ _ _ h1]; exact lv_neg b
    rw [hna] at n0
    rw [hnb] at n1
  · go_wp2_with (first | ((with_reducible apply wl_row); exact rfl; exact rowD (by with_reducible assumption)) | (go_at_call 100; refine (compareDigits_any _ _ _).mono ?_; rintro e w1 ⟨rfl, hb1⟩))
    all_goals
      go_ret
      refine ⟨congrArg (fun x => Ending.returned (.int .i64 x)) (?_ : _ = cz a b), hb.trans (hb1.mono hb.size)⟩
      have hc := cmpD_spec HA.out HB.out
      rw [ng_def] at hna hnb
      simp at hna hnb
      rw [cz_def]
      first
      | (have h' := ‹(1:Int) < if cmpD _ _ < -1 then -1 else cmpD _ _›; split at h' <;> split <;> (try split) <;> omega)
      | (have h' := ‹(if cmpD _ _ < -1 then -1 else cmpD _ _) ≤ (1:Int)›; split at h' <;> split <;> (try split) <;> omega)
  · go_wp2_with fail
    go_ret
    refine ⟨?_, hb⟩
    rw [cz_def, if_neg (by rw [ng_def] at hna hnb; simp at hna hnb; omega), if_neg (by rw [ng_def] at hna hnb; simp at hna hnb; omega)]
    rfl
  · go_wp2_with fail
    go_ret
    refine ⟨?_, hb⟩
    rw [cz_def, if_pos (by rw [ng_def] at hna hnb; simp at hna hnb; omega)]
    rfl
  · go_wp2_with (first | ((with_reducible apply wl_row); exact rfl; exact rowD (by with_reducible assumption)) | (go_at_call 100; refine (compareDigits_any _ _ _).mono ?_; rintro e w1 ⟨rfl, hb1⟩))
    all_goals
      go_ret
      refine ⟨congrArg (fun x => Ending.returned (.int .i64 x)) (?_ : _ = cz a b), hb.trans (hb1.mono hb.size)⟩
      have hc := cmpD_spec HB.out HA.out
      rw [ng_def] at hna hnb
      simp at hna hnb
      rw [cz_def]
      first
      | (have h' := ‹(1:Int) < if cmpD _ _ < -1 then -1 else cmpD _ _›; split at h' <;> split <;> (try split) <;> omega)
      | (have h' := ‹(if cmpD _ _ < -1 then -1 else cmpD _ _) ≤ (1:Int)›; split at h' <;> split <;> (try split) <;> omega)
end Go.Proofs.Ytclainfdeghgnaa
