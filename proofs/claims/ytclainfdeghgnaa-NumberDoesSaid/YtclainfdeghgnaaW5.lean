/- The sum of long numbers; which one is greater. -/
import Derived.Test.YtclainfdeghgnaaW4
namespace Go.Proofs.Ytclainfdeghgnaa
open Go.RowKit Nm

theorem add_same {a b : Int} (h : (ng a == ng b) = true) : sg (ng a) (a.natAbs + b.natAbs) = a + b := by
  rw [ng_def, ng_def] at h; rw [ng_def]; unfold sg
  have h' : (a < 0) ↔ (b < 0) := by simpa using h
  by_cases hx : a < 0 <;> simp [hx] <;> omega
theorem add_big {a b : Int} (h : (ng a == ng b) = false) (hl : b.natAbs ≤ a.natAbs) : sg (ng a) (a.natAbs - b.natAbs) = a + b := by
  rw [ng_def, ng_def] at h; rw [ng_def]; unfold sg
  have h' : ¬ ((a < 0) ↔ (b < 0)) := by simpa using h
  by_cases hx : a < 0 <;> simp [hx] <;> omega
theorem add_less {a b : Int} (h : (ng a == ng b) = false) (hl : a.natAbs ≤ b.natAbs) : sg (ng b) (b.natAbs - a.natAbs) = a + b := by
  rw [ng_def, ng_def] at h; rw [ng_def]; unfold sg
  have h' : ¬ ((a < 0) ↔ (b < 0)) := by simpa using h
  by_cases hx : b < 0 <;> simp [hx] <;> omega

set_option maxHeartbeats 400000 in
theorem add_any (a b : Int) (hz : a.natAbs + b.natAbs < 10 ^ 64) (w : World) :
    Calls Try.prog 84 #[.agg (lv a), .agg (lv b)] w fun e w' => e = .returned (.agg (lv (a + b))) ∧ Below w.heap.size w w' := by
  have HZ := Lib.hid hz
  have HA := Lib.hid (show a.natAbs < 10 ^ 64 from by omega)
  have HB := Lib.hid (show b.natAbs < 10 ^ 64 from by omega)
  clear hz
  by_cases hs : (ng a == ng b) = true
  · go_enter Try.func84, Try.ntmps84
    go_upto_region 1 with (fail)
    refine wp_world (fun W => W.heap[w.heap.size]? = some (.cells (lv a) 75 (0, 0)) ∧ W.heap[w.heap.size + 1]? = some (.cells (lv b) 75 (0, 0)) ∧ W.heap[w.heap.size + 1 + 1]? = some (.cells (lv 0) 75 (0, 0)) ∧ Below w.heap.size w W) ⟨ha_old (ha_old (ha_new rfl)), ha_old (ha_new (by simp)), by rw [← zero_long]; exact ha_new (by simp), (((Below.refl _ _).alloc (Nat.le_refl _) _).alloc (by simp) _).alloc (by simp; omega) _⟩ ?_
    rintro W ⟨h0, h1, h2, hb⟩
    go_upto_region 2 with (go_big_may; first | ((with_reducible apply wl_row); exact rfl; (first | exact rowL (by with_reducible assumption) | exact rowD (by with_reducible assumption) | exact rowR (by with_reducible assumption))) | ((with_reducible apply wl_one); exact rfl; exact oneN (by with_reducible assumption)) | ((with_reducible apply wl_stL); exact rfl; exact rfl; with_reducible assumption) | ((with_reducible apply wl_stR); exact rfl; exact rfl; with_reducible assumption))
    refine wp_region_below 8 mixed (by kernel_rfl) ?_; simp only [List.take_succ_cons, List.take_zero, List.drop_succ_cons, List.drop_zero]
    refine wq_k rfl (fun K hK => ?_); go_simp; refine hK _ ?_; clear hK K
    ((with_reducible apply wq_row); exact rfl; exact rfl; (intro w' hw'; first | exact rowL (below_look hw' (by with_reducible assumption)) | exact rowD (below_look hw' (by with_reducible assumption)) | exact rowR (below_look hw' (by with_reducible assumption))))
    refine wq_k rfl (fun K hK => ?_); go_simp; refine hK _ ?_; clear hK K
    ((with_reducible apply wq_row); exact rfl; exact rfl; (intro w' hw'; first | exact rowL (below_look hw' (by with_reducible assumption)) | exact rowD (below_look hw' (by with_reducible assumption)) | exact rowR (below_look hw' (by with_reducible assumption))))
    refine wq_ck rfl (fun K hK => ?_); go_simp; refine ⟨_, _, ⟨rfl, rfl⟩, hK _ _ ⟨_, fun w' hw' => calls_class hw' (addDigits_any _ _ w'), ?_⟩⟩; clear hK K; simp only [put_lit, List.set_cons_zero, List.set_cons_succ]
    refine wq_k rfl (fun K hK => ?_); go_simp; refine hK _ ?_; clear hK K
    ((with_reducible apply wq_one); exact rfl; exact rfl; (intro w' hw'; exact oneN (below_look hw' (by with_reducible assumption))))
    refine wq_ck rfl (fun K hK => ?_); go_simp; refine ⟨_, _, ⟨rfl, rfl⟩, hK _ _ ⟨_, fun w' hw' => calls_class hw' (signed_any _ _ HZ.out w'), ?_⟩⟩; clear hK K; simp only [put_lit, List.set_cons_zero, List.set_cons_succ]
    intro w' hw'
    have h2' := below_look hw' h2
    go_wp2_with (first | ((with_reducible apply wl_row); exact rfl; (first | exact rowL (by with_reducible assumption) | exact rowD (by with_reducible assumption) | exact rowR (by with_reducible assumption))) | ((with_reducible apply wl_one); exact rfl; exact oneN (by with_reducible assumption)) | ((with_reducible apply wl_stL); exact rfl; exact rfl; with_reducible assumption) | ((with_reducible apply wl_stR); exact rfl; exact rfl; with_reducible assumption))
    refine bodyPost_ret (res_long rfl _ _ (w.heap.size + 1 + 1) rfl (hr_new h2')) rfl ⟨by rw [add_same hs], ?_⟩
    exact below_setRow (hb.trans (hw'.mono hb.size)) (by omega) _
  · replace hs : (ng a == ng b) = false := by simpa using hs
    have hc := cmpD_spec HA.out HB.out
    have hcb := cmpD_bd a.natAbs b.natAbs
    by_cases hl : b.natAbs ≤ a.natAbs
    · have hge : 0 ≤ cmpD a.natAbs b.natAbs := by omega
      have HL := Lib.hid hl
      have HD := Lib.hid (show a.natAbs - b.natAbs < 10 ^ 64 from by have := HA.out; omega)
      clear hc hl
      go_enter Try.func84, Try.ntmps84
      go_upto_region 1 with (fail)
      refine wp_world (fun W => W.heap[w.heap.size]? = some (.cells (lv a) 75 (0, 0)) ∧ W.heap[w.heap.size + 1]? = some (.cells (lv b) 75 (0, 0)) ∧ W.heap[w.heap.size + 1 + 1]? = some (.cells (lv 0) 75 (0, 0)) ∧ Below w.heap.size w W) ⟨ha_old (ha_old (ha_new rfl)), ha_old (ha_new (by simp)), by rw [← zero_long]; exact ha_new (by simp), (((Below.refl _ _).alloc (Nat.le_refl _) _).alloc (by simp) _).alloc (by simp; omega) _⟩ ?_
      rintro W ⟨h0, h1, h2, hb⟩
      go_upto_region 4 with (go_big_may; first | ((with_reducible apply wl_row); exact rfl; (first | exact rowL (by with_reducible assumption) | exact rowD (by with_reducible assumption) | exact rowR (by with_reducible assumption))) | ((with_reducible apply wl_one); exact rfl; exact oneN (by with_reducible assumption)) | ((with_reducible apply wl_stL); exact rfl; exact rfl; with_reducible assumption) | ((with_reducible apply wl_stR); exact rfl; exact rfl; with_reducible assumption) | (go_at_call 100; refine (compareDigits_any _ _ _).mono ?_; rintro e w1 ⟨rfl, hb1⟩))
      have hbb := hb.trans (hb1.mono hb.size)
      replace h0 := below_look hb1 h0
      replace h1 := below_look hb1 h1
      replace h2 := below_look hb1 h2
      refine wp_region_below 8 mixed (by kernel_rfl) ?_; simp only [List.take_succ_cons, List.take_zero, List.drop_succ_cons, List.drop_zero]
      refine wq_k rfl (fun K hK => ?_); go_simp; refine hK _ ?_; clear hK K
      ((with_reducible apply wq_row); exact rfl; exact rfl; (intro w' hw'; first | exact rowL (below_look hw' (by with_reducible assumption)) | exact rowD (below_look hw' (by with_reducible assumption)) | exact rowR (below_look hw' (by with_reducible assumption))))
      refine wq_k rfl (fun K hK => ?_); go_simp; refine hK _ ?_; clear hK K
      ((with_reducible apply wq_row); exact rfl; exact rfl; (intro w' hw'; first | exact rowL (below_look hw' (by with_reducible assumption)) | exact rowD (below_look hw' (by with_reducible assumption)) | exact rowR (below_look hw' (by with_reducible assumption))))
      refine wq_ck rfl (fun K hK => ?_); go_simp; refine ⟨_, _, ⟨rfl, rfl⟩, hK _ _ ⟨_, fun w' hw' => calls_class hw' (subDigits_any _ _ HL.out w'), ?_⟩⟩; clear hK K; simp only [put_lit, List.set_cons_zero, List.set_cons_succ]
      refine wq_k rfl (fun K hK => ?_); go_simp; refine hK _ ?_; clear hK K
      ((with_reducible apply wq_one); exact rfl; exact rfl; (intro w' hw'; exact oneN (below_look hw' (by with_reducible assumption))))
      refine wq_ck rfl (fun K hK => ?_); go_simp; refine ⟨_, _, ⟨rfl, rfl⟩, hK _ _ ⟨_, fun w' hw' => calls_class hw' (signed_any _ _ HD.out w'), ?_⟩⟩; clear hK K; simp only [put_lit, List.set_cons_zero, List.set_cons_succ]
      intro w' hw'
      have h2' := below_look hw' h2
      go_wp2_with (first | ((with_reducible apply wl_row); exact rfl; (first | exact rowL (by with_reducible assumption) | exact rowD (by with_reducible assumption) | exact rowR (by with_reducible assumption))) | ((with_reducible apply wl_one); exact rfl; exact oneN (by with_reducible assumption)) | ((with_reducible apply wl_stL); exact rfl; exact rfl; with_reducible assumption) | ((with_reducible apply wl_stR); exact rfl; exact rfl; with_reducible assumption))
      refine bodyPost_ret (res_long rfl _ _ (w.heap.size + 1 + 1) rfl (hr_new h2')) rfl ⟨by rw [add_big hs HL.out], ?_⟩
      exact below_setRow (hbb.trans (hw'.mono hbb.size)) (by omega) _
    · have hge : cmpD a.natAbs b.natAbs < 0 := by omega
      have HL := Lib.hid (show a.natAbs ≤ b.natAbs from by omega)
      have HD := Lib.hid (show b.natAbs - a.natAbs < 10 ^ 64 from by have := HB.out; omega)
      clear hc hl
      go_enter Try.func84, Try.ntmps84
      go_upto_region 1 with (fail)
      refine wp_world (fun W => W.heap[w.heap.size]? = some (.cells (lv a) 75 (0, 0)) ∧ W.heap[w.heap.size + 1]? = some (.cells (lv b) 75 (0, 0)) ∧ W.heap[w.heap.size + 1 + 1]? = some (.cells (lv 0) 75 (0, 0)) ∧ Below w.heap.size w W) ⟨ha_old (ha_old (ha_new rfl)), ha_old (ha_new (by simp)), by rw [← zero_long]; exact ha_new (by simp), (((Below.refl _ _).alloc (Nat.le_refl _) _).alloc (by simp) _).alloc (by simp; omega) _⟩ ?_
      rintro W ⟨h0, h1, h2, hb⟩
      go_upto_region 5 with (go_big_may; first | ((with_reducible apply wl_row); exact rfl; (first | exact rowL (by with_reducible assumption) | exact rowD (by with_reducible assumption) | exact rowR (by with_reducible assumption))) | ((with_reducible apply wl_one); exact rfl; exact oneN (by with_reducible assumption)) | ((with_reducible apply wl_stL); exact rfl; exact rfl; with_reducible assumption) | ((with_reducible apply wl_stR); exact rfl; exact rfl; with_reducible assumption) | (go_at_call 100; refine (compareDigits_any _ _ _).mono ?_; rintro e w1 ⟨rfl, hb1⟩))
      have hbb := hb.trans (hb1.mono hb.size)
      replace h0 := below_look hb1 h0
      replace h1 := below_look hb1 h1
      replace h2 := below_look hb1 h2
      refine wp_region_below 8 mixed (by kernel_rfl) ?_; simp only [List.take_succ_cons, List.take_zero, List.drop_succ_cons, List.drop_zero]
      refine wq_k rfl (fun K hK => ?_); go_simp; refine hK _ ?_; clear hK K
      ((with_reducible apply wq_row); exact rfl; exact rfl; (intro w' hw'; first | exact rowL (below_look hw' (by with_reducible assumption)) | exact rowD (below_look hw' (by with_reducible assumption)) | exact rowR (below_look hw' (by with_reducible assumption))))
      refine wq_k rfl (fun K hK => ?_); go_simp; refine hK _ ?_; clear hK K
      ((with_reducible apply wq_row); exact rfl; exact rfl; (intro w' hw'; first | exact rowL (below_look hw' (by with_reducible assumption)) | exact rowD (below_look hw' (by with_reducible assumption)) | exact rowR (below_look hw' (by with_reducible assumption))))
      refine wq_ck rfl (fun K hK => ?_); go_simp; refine ⟨_, _, ⟨rfl, rfl⟩, hK _ _ ⟨_, fun w' hw' => calls_class hw' (subDigits_any _ _ HL.out w'), ?_⟩⟩; clear hK K; simp only [put_lit, List.set_cons_zero, List.set_cons_succ]
      refine wq_k rfl (fun K hK => ?_); go_simp; refine hK _ ?_; clear hK K
      ((with_reducible apply wq_one); exact rfl; exact rfl; (intro w' hw'; exact oneN (below_look hw' (by with_reducible assumption))))
      refine wq_ck rfl (fun K hK => ?_); go_simp; refine ⟨_, _, ⟨rfl, rfl⟩, hK _ _ ⟨_, fun w' hw' => calls_class hw' (signed_any _ _ HD.out w'), ?_⟩⟩; clear hK K; simp only [put_lit, List.set_cons_zero, List.set_cons_succ]
      intro w' hw'
      have h2' := below_look hw' h2
      go_wp2_with (first | ((with_reducible apply wl_row); exact rfl; (first | exact rowL (by with_reducible assumption) | exact rowD (by with_reducible assumption) | exact rowR (by with_reducible assumption))) | ((with_reducible apply wl_one); exact rfl; exact oneN (by with_reducible assumption)) | ((with_reducible apply wl_stL); exact rfl; exact rfl; with_reducible assumption) | ((with_reducible apply wl_stR); exact rfl; exact rfl; with_reducible assumption))
      refine bodyPost_ret (res_long rfl _ _ (w.heap.size + 1 + 1) rfl (hr_new h2')) rfl ⟨by rw [add_less hs HL.out], ?_⟩
      exact below_setRow (hbb.trans (hw'.mono hbb.size)) (by omega) _
end Go.Proofs.Ytclainfdeghgnaa
