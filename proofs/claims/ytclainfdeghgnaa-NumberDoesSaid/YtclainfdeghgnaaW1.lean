/- The sum of two rows of digits. -/
import Derived.Test.YtclainfdeghgnaaRows
import Derived.Test.YtclainfdeghgnaaK3
import Derived.Deep.QuietTactic
import Derived.BigQuiet
import Derived.Outline
namespace Go.Proofs.Ytclainfdeghgnaa
open Go.RowKit Nm


def ad (a b k i : Nat) : Nat := if i < k then dg (a + b) i else dg a i
theorem ad_step (a b k : Nat) (hk : k < 64) (v : Value) (hv : v = .int .u8 (dg (a + b) k)) : (row (ad a b k)).setIfInBounds k v = row (ad a b (k + 1)) := by
  subst hv; rw [row_set _ _ _ hk]; apply row_congr; intro i _; unfold ad; split
  · subst_vars; rw [if_pos (by omega)]
  · by_cases h : i < k
    · rw [if_pos h, if_pos (by omega)]
    · rw [if_neg h, if_neg (by omega)]
theorem ad_zero (a b : Nat) : row (ad a b 0) = dv a := row_congr fun i _ => by simp [ad]
theorem ad_end (a b : Nat) : row (ad a b 64) = dv (a + b) := row_congr fun i h => by simp [ad, h]

set_option maxHeartbeats 400000 in
theorem addDigits_any (a b : Nat) (w : World) :
    Calls Try.prog 121 #[.agg (dv a), .agg (dv b)] w fun e w' => e = .returned (.agg (dv (a + b))) ∧ Below w.heap.size w w' := by
  go_enter Try.func121, Try.ntmps121
  go_wp2
  go_loopw [5, 8] (fun c i wr => ∃ k : Nat, k ≤ 64 ∧ i = .int .i64 k ∧ c = .int .u8 (cy a b k) ∧ wr.heap[w.heap.size]? = some (.cells (row (ad a b k)) 73 (0, 0)) ∧ wr.heap[w.heap.size + 1]? = some (.cells (dv b) 73 (0, 0)) ∧ wr.heap[w.heap.size + 1 + 1]? = some (.cells (row fun _ => 0) 73 (0, 0)) ∧ Below w.heap.size w wr) (fun _ i _ => 64 - (intOf i).toNat)
  case atStart => 
    refine ⟨0, by omega, rfl, by rw [cy_zero]; rfl, ?_, ?_, ?_, ?_⟩
    · rw [ad_zero]; exact ha_old (ha_old (ha_new rfl))
    · exact ha_old (ha_new (by simp))
    · rw [← zero_row]; exact ha_new (by simp)
    · exact (((Below.refl _ _).alloc (Nat.le_refl _) _).alloc (by simp) _).alloc (by simp; omega) _
  case round =>
    obtain ⟨k, hk, rfl, rfl, hA, hB, hC, hb⟩ := hrel
    have cl := cy_le a b k
    by_cases hlt : k < 64
    · have ca : wr.cell? ⟨w.heap.size, k, none⟩ = some (.int .u8 (dg a k)) := by
        rw [cell_of_row _ _ _ _ _ _ hA, row_get _ _ hlt]; simp [ad]
      have cb : wr.cell? ⟨w.heap.size + 1, k, none⟩ = some (.int .u8 (dg b k)) := by
        rw [cell_of_row _ _ _ _ _ _ hB, dv, row_get _ _ hlt]
      have fa : wr.frozen? ⟨w.heap.size, k, none⟩ = false := frozen_of_row _ _ _ _ _ hA
      have da := dg_lt a k
      have db := dg_lt b k
      go_wp2
      go_quiet (fail)
      go_wp2
      go_roundw
      case rel =>
        have e1 := add_mod10 a b k
        have e2 := add_div10 a b k
        refine ⟨k + 1, hlt, by go_num, by rw [← e2]; go_num, ?_, ?_, ?_, ?_⟩
        · rw [heap_setCell_same (wr.drewN nq) _ _ _ _ _ hA, ad_step _ _ _ hlt _ (by rw [← e1]; go_num)]
        · rw [heap_setCell_other _ _ _ _ (by simp)]; exact hB
        · rw [heap_setCell_other _ _ _ _ (by simp; omega)]; exact hC
        · exact (below_drewN hb nq).setCell (Nat.le_refl _) _
      case measure => simp [intOf]; omega
    · obtain rfl : k = 64 := by omega
      rw [ad_end] at hA
      have hsz : wr.heap.size > w.heap.size + 1 + 1 := heap_lt hC
      go_wp2_with (first | (refine wpList_load_row rfl 73 _ rfl w.heap.size rfl 73 _ _ _ hA u73 rfl (by rw [info73, dv_size]) ?_) | (refine wpList_store_row rfl 73 _ _ rfl (w.heap.size + 1 + 1) _ rfl rfl 73 _ hC (by rw [info73, dv_size]) (by rw [row_size, dv_size]) (dv_one _) ?_))
      refine bodyPost_ret (v := .agg (dv (a + b))) (results_cell_row rfl _ _ (w.heap.size + 1 + 1) 73 _ (0, 0) _ rfl (setRow_heap _ _ _ _ _ _ hC) u73 rfl (by rw [info73, dv_size])) rfl ⟨rfl, ?_⟩
      exact below_setRow hb (by omega) _
end Go.Proofs.Ytclainfdeghgnaa
