/- Long numbers: with a sign, out of an int, negated, compared, added, multiplied. -/
import Derived.Test.YtclainfdeghgnaaW1
import Derived.Test.YtclainfdeghgnaaW2
import Derived.Outline
namespace Go.Proofs.Ytclainfdeghgnaa
open Go.RowKit Nm

set_option maxHeartbeats 400000 in
theorem signed_any (n : Nat) (s : Bool) (hn : n < 10 ^ 64) (w : World) :
    Calls Try.prog 101 #[.agg (dv n), .bool s] w fun e w' => e = .returned (.agg (lv (sg s n))) ∧ Below w.heap.size w w' := by
  have HN := Lib.hid hn; clear hn
  have hz : (0 : Nat) < 10 ^ 64 := p10 64
  have HZ := Lib.hid hz; clear hz
  have HS0 : Hid (Try.prog.built 75 [(0, .bool (s && decide (n ≠ 0))), (1, .agg (dv n))] = some (lv (sg s n))) := built_sg s n
  cases s
  all_goals
    go_enter Try.func101, Try.ntmps101
    go_wp2
    refine wp_world (fun W => W.heap[w.heap.size]? = some (.cells (dv n) 73 (0, 0)) ∧ W.heap[w.heap.size + 1]? = some (.cells (lv 0) 75 (0, 0)) ∧ Below w.heap.size w W)
      ⟨ha_old (ha_new rfl), by rw [← zero_long]; exact ha_new (by simp), ((Below.refl _ _).alloc (Nat.le_refl _) _).alloc (by simp) _⟩ ?_
    rintro W ⟨h0, h1, hb⟩
    refine wp_region_below 8 mixed (by kernel_rfl) ?_
    simp only [List.take_succ_cons, List.take_zero, List.drop_succ_cons, List.drop_zero]
    refine wq_k rfl (fun K hK => ?_); go_simp; refine hK _ ?_; clear hK K
    refine wq_k rfl (fun K hK => ?_); go_simp; refine hK _ ?_; clear hK K
  · refine wq_skip rfl ?_
    refine wq_skip rfl ?_
    refine wq_skip rfl ?_
    refine wq_k rfl (fun K hK => ?_); go_simp; refine hK _ ?_; clear hK K
    refine wq_val rfl (fun w' hw' => ld_row _ rfl _ rfl (below_cells hw' (heap_lt h0) h0)) ?_
    refine wq_val rfl (fun w' hw' => ex_build 75 _ rfl (L := [(0, .bool false), (1, .agg (dv n))]) rfl HS0.out) ?_
    intro w' hw'
    refine wl_stLong rfl _ _ rfl (w.heap.size + 1) rfl rfl (below_cells hw' (heap_lt h1) h1) ?_
    go_wp2
    refine bodyPost_ret (res_long rfl _ _ (w.heap.size + 1) rfl (hr_new (below_cells hw' (heap_lt h1) h1))) rfl ⟨rfl, ?_⟩
    exact below_setRow (hb.trans (hw'.mono hb.size)) (by omega) _
  · refine wq_valG rfl (fun w' hw' => ld_row _ rfl _ rfl (below_cells hw' (heap_lt h0) h0)) ?_
    refine wq_valG rfl (fun w' hw' => ex_build 73 _ rfl (L := []) rfl built_zero) ?_
    refine wq_valG rfl (fun w' hw' => ex_neq73 _ _ _ rfl rfl rfl HN.out HZ.out) ?_
    refine wq_k rfl (fun K hK => ?_); go_simp; refine hK _ ?_; clear hK K
    refine wq_val rfl (fun w' hw' => ld_row _ rfl _ rfl (below_cells hw' (heap_lt h0) h0)) ?_
    refine wq_val rfl (fun w' hw' => ex_build 75 _ rfl (L := [(0, .bool (!decide (n = 0))), (1, .agg (dv n))]) rfl (by have h := HS0.out; simpa using h)) ?_
    intro w' hw'
    refine wl_stLong rfl _ _ rfl (w.heap.size + 1) rfl rfl (below_cells hw' (heap_lt h1) h1) ?_
    go_wp2
    refine bodyPost_ret (res_long rfl _ _ (w.heap.size + 1) rfl (hr_new (below_cells hw' (heap_lt h1) h1))) rfl ⟨rfl, ?_⟩
    exact below_setRow (hb.trans (hw'.mono hb.size)) (by omega) _
end Go.Proofs.Ytclainfdeghgnaa
