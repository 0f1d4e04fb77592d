/- The difference of two rows of digits, and which one is greater. -/
import Derived.Test.YtclainfdeghgnaaRows
import Derived.Test.YtclainfdeghgnaaK3
import Derived.Outline
namespace Go.Proofs.Ytclainfdeghgnaa
open Go.RowKit Nm

def sd (a b k i : Nat) : Nat := if i < k then dg (a - b) i else dg a i
theorem sd_step (a b k : Nat) (hk : k < 64) (v : Value) (hv : v = .int .u8 (dg (a - b) k)) : (row (sd a b k)).setIfInBounds k v = row (sd a b (k + 1)) := by
  subst hv; rw [row_set _ _ _ hk]; apply row_congr; intro i _; unfold sd; split
  · subst_vars; rw [if_pos (by omega)]
  · by_cases h : i < k
    · rw [if_pos h, if_pos (by omega)]
    · rw [if_neg h, if_neg (by omega)]
theorem sd_zero (a b : Nat) : row (sd a b 0) = dv a := row_congr fun i _ => by simp [sd]
theorem sd_end (a b : Nat) : row (sd a b 64) = dv (a - b) := row_congr fun i h => by simp [sd, h]

set_option maxHeartbeats 400000 in
theorem subDigits_any (a b : Nat) (hab : b ≤ a) (w : World) :
    Calls Try.prog 131 #[.agg (dv a), .agg (dv b)] w fun e w' => e = .returned (.agg (dv (a - b))) ∧ Below w.heap.size w w' := by
  have HAB := Lib.hid hab; clear hab
  go_enter Try.func131, Try.ntmps131
  go_wp2
  go_loopw [5, 8] (fun c i wr => ∃ k : Nat, k ≤ 64 ∧ i = .int .i64 k ∧ c = .int .u8 (bw a b k) ∧ wr.heap[w.heap.size]? = some (.cells (row (sd a b k)) 73 (0, 0)) ∧ wr.heap[w.heap.size + 1]? = some (.cells (dv b) 73 (0, 0)) ∧ wr.heap[w.heap.size + 1 + 1]? = some (.cells (row fun _ => 0) 73 (0, 0)) ∧ Below w.heap.size w wr) (fun _ i _ => 64 - (intOf i).toNat)
  case atStart => 
    refine ⟨0, by omega, rfl, by rw [bw_zero]; rfl, ?_, ?_, ?_, ?_⟩
    · rw [sd_zero]; exact ha_old (ha_old (ha_new rfl))
    · exact ha_old (ha_new (by simp))
    · rw [← zero_row]; exact ha_new (by simp)
    · exact (((Below.refl _ _).alloc (Nat.le_refl _) _).alloc (by simp) _).alloc (by simp; omega) _
  case round =>
    obtain ⟨k, hk, rfl, rfl, hA, hB, hC, hb⟩ := hrel
    have cl := bw_le a b k
    by_cases hlt : k < 64
    · have ca : wr.cell? ⟨w.heap.size, k, none⟩ = some (.int .u8 (dg a k)) := by
        rw [cell_of_row _ _ _ _ _ _ hA, row_get _ _ hlt]; simp [sd]
      have cb : wr.cell? ⟨w.heap.size + 1, k, none⟩ = some (.int .u8 (dg b k)) := by
        rw [cell_of_row _ _ _ _ _ _ hB, dv, row_get _ _ hlt]
      have fa : wr.frozen? ⟨w.heap.size, k, none⟩ = false := frozen_of_row _ _ _ _ _ hA
      have da := dg_lt a k
      have db := dg_lt b k
      go_wp2
      go_quiet (fail)
      go_wp2
      go_roundw
      case rel =>
        have e1 := dg_sub a b k HAB.out
        have e2 := bw_succ a b k
        refine ⟨k + 1, hlt, by go_num, by rw [e2]; congr 1; omega, ?_, ?_, ?_, ?_⟩
        · exact (hs_new (w := wr.drewN nq) hA).trans (by rw [sd_step _ _ _ hlt _ (by rw [e1]; congr 1; omega)])
        · exact hs_old (w := wr.drewN nq) hB (by simp)
        · exact hs_old (w := wr.drewN nq) hC (by simp; omega)
        · exact (below_drewN hb nq).setCell (Nat.le_refl _) _
      case measure => simp [intOf]; omega
    · obtain rfl : k = 64 := by omega
      rw [sd_end] at hA
      have hsz : wr.heap.size > w.heap.size + 1 + 1 := heap_lt hC
      go_wp2_with (first | (refine wl_mid rfl 73 _ rfl w.heap.size 0 64 rfl hA (dv_whole _) u73 rfl (dv_size _) info73 ?_) | (refine wpList_store_row rfl 73 _ _ rfl (w.heap.size + 1 + 1) _ rfl rfl 73 _ hC (by rw [info73, dv_size]) (by rw [row_size, dv_size]) (dv_one _) ?_))
      refine bodyPost_ret (v := .agg (dv (a - b))) (results_cell_row rfl _ _ (w.heap.size + 1 + 1) 73 _ (0, 0) _ rfl (hr_new hC) u73 rfl (by rw [info73, dv_size])) rfl ⟨rfl, ?_⟩
      exact below_setRow hb (by omega) _

set_option maxHeartbeats 400000 in
theorem compareDigits_any (a b : Nat) (w : World) :
    Calls Try.prog 100 #[.agg (dv a), .agg (dv b)] w fun e w' => e = .returned (.int .i64 (cmpD a b)) ∧ Below w.heap.size w w' := by
  go_enter Try.func100, Try.ntmps100
  go_wp2
  go_loopw [5] (fun i wr => ∃ k : Nat, k ≤ 64 ∧ i = .int .i64 ((k : Int) - 1) ∧ cmpD a b = cmpK a b k ∧ wr.heap[w.heap.size]? = some (.cells (dv a) 73 (0, 0)) ∧ wr.heap[w.heap.size + 1]? = some (.cells (dv b) 73 (0, 0)) ∧ Below w.heap.size w wr) (fun i _ => (intOf i + 1).toNat)
  case atStart => 
    refine ⟨64, by omega, rfl, rfl, ?_, ?_, ?_⟩
    · exact ha_old (ha_new rfl)
    · exact ha_new (by simp)
    · exact ((Below.refl _ _).alloc (Nat.le_refl _) _).alloc (by simp) _
  case round =>
    obtain ⟨k, hk, rfl, hc, hA, hB, hb⟩ := hrel
    by_cases hlt : 0 < k
    · obtain ⟨j, rfl⟩ : ∃ j, k = j + 1 := ⟨k - 1, by omega⟩
      have ej : ((j + 1 : Nat) : Int) - 1 = (j : Int) := by omega
      rw [ej]
      clear ej
      have ca : wr.cell? ⟨w.heap.size, j, none⟩ = some (.int .u8 (dg a j)) := by
        rw [cell_of_row _ _ _ _ _ _ hA, dv, row_get _ _ (by omega)]
      have cb : wr.cell? ⟨w.heap.size + 1, j, none⟩ = some (.int .u8 (dg b j)) := by
        rw [cell_of_row _ _ _ _ _ _ hB, dv, row_get _ _ (by omega)]
      have da := dg_lt a j
      have db := dg_lt b j
      have HC := Lib.hid hc
      clear hc
      by_cases he : dg a j = dg b j
      · have hne : ((dg b j : Int) != dg b j) = false := by simp
        rw [he] at ca
        go_wp2
        go_quiet (fail)
        go_wp2
        go_roundw
        case rel =>
          refine ⟨j, by omega, by go_num, ?_, hA, hB, below_drewN hb _⟩
          rw [HC.out, cmpK, if_pos he]
        case measure => simp [intOf]
      · have hne : ((dg a j : Int) != dg b j) = true := by simp; omega
        go_wp2
        go_quiet (fail)
        go_wp2
        go_quiet (fail)
        go_wp2
        go_ret
        refine ⟨?_, below_drewN (below_drewN hb _) _⟩
        rw [HC.out, cmpK, if_neg he]
        rfl
    · obtain rfl : k = 0 := by omega
      go_wp2
      go_ret
      refine ⟨?_, hb⟩
      rw [hc, cmpK]
      rfl
end Go.Proofs.Ytclainfdeghgnaa
