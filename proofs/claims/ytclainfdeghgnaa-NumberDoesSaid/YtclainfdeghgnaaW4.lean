/- Long numbers negated, added, multiplied. -/
import Derived.Test.YtclainfdeghgnaaW3
namespace Go.Proofs.Ytclainfdeghgnaa
open Go.RowKit Nm

theorem sg_minus (z : Int) : sg (!ng z) z.natAbs = -z := by rw [ng_def]; unfold sg; by_cases h : z < 0 <;> simp [h] <;> omega

set_option maxHeartbeats 400000 in
theorem minus_any (z : Int) (hz : z.natAbs < 10 ^ 64) (w : World) :
    Calls Try.prog 89 #[.agg (lv z)] w fun e w' => e = .returned (.agg (lv (-z))) ∧ Below w.heap.size w w' := by
  have HZ := Lib.hid hz; clear hz
  go_enter Try.func89, Try.ntmps89
  go_upto_region 1 with (fail)
  refine wp_world (fun W => W.heap[w.heap.size]? = some (.cells (lv z) 75 (0, 0)) ∧ W.heap[w.heap.size + 1]? = some (.cells (lv 0) 75 (0, 0)) ∧ Below w.heap.size w W)
    ⟨ha_old (ha_new rfl), by rw [← zero_long]; exact ha_new (by simp), ((Below.refl _ _).alloc (Nat.le_refl _) _).alloc (by simp) _⟩ ?_
  rintro W ⟨h0, h1, hb⟩
  go_wp2_with (first | ((with_reducible apply wl_row); exact rfl; (first | exact rowL (by with_reducible assumption) | exact rowD (by with_reducible assumption) | exact rowR (by with_reducible assumption))) | ((with_reducible apply wl_one); exact rfl; exact oneN (by with_reducible assumption)) | ((with_reducible apply wl_stL); exact rfl; exact rfl; with_reducible assumption) | ((with_reducible apply wl_stR); exact rfl; exact rfl; with_reducible assumption) | (go_at_call 101; refine (signed_any _ _ HZ.out _).mono ?_; rintro e w1 ⟨rfl, hb1⟩; have h1' := below_look hb1 h1))
  refine bodyPost_ret (res_long rfl _ _ (w.heap.size + 1) rfl (hr_new h1')) rfl ⟨by rw [sg_minus], ?_⟩
  exact below_setRow (hb.trans (hb1.mono hb.size)) (by omega) _
end Go.Proofs.Ytclainfdeghgnaa
