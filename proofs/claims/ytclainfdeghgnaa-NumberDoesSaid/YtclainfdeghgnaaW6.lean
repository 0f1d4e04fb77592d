/- The product of two rows of digits. -/
import Derived.Test.YtclainfdeghgnaaK4
import Derived.Outline
namespace Go.Proofs.Ytclainfdeghgnaa
open Go.RowKit Nm

def mo (p k i : Nat) : Nat := if i < k then dg p i else 0
theorem mo_step (p k : Nat) (hk : k < 64) (v : Value) (hv : v = .int .u8 (dg p k)) : (row (mo p k)).setIfInBounds k v = row (mo p (k + 1)) := by
  subst hv; rw [row_set _ _ _ hk]; apply row_congr; intro i _; unfold mo; split
  · subst_vars; rw [if_pos (by omega)]
  · by_cases h : i < k
    · rw [if_pos h, if_pos (by omega)]
    · rw [if_neg h, if_neg (by omega)]
theorem mo_zero (p : Nat) : row (mo p 0) = row fun _ => 0 := row_congr fun i _ => by simp [mo]
theorem mo_end (p : Nat) : row (mo p 64) = dv p := row_congr fun i h => by simp [mo, h]

set_option maxHeartbeats 1000000 in
theorem mulDigits_any (a b : Nat) (w : World) :
    Calls Try.prog 119 #[.agg (dv a), .agg (dv b)] w fun e w' => e = .returned (.agg (dv (a * b))) ∧ Below w.heap.size w w' := by
  go_enter Try.func119, Try.ntmps119
  go_upto_region 2 with (fail)
  refine wp_world (fun W => W.heap[w.heap.size]? = some (.cells (dv a) 73 (0, 0)) ∧ W.heap[w.heap.size + 1]? = some (.cells (dv b) 73 (0, 0)) ∧ W.heap[w.heap.size + 1 + 1]? = some (.cells (row fun _ => 0) 73 (0, 0)) ∧ W.heap[w.heap.size + 1 + 1 + 1]? = some (.cells (rowI fun _ => 0) 156 (0, 0)) ∧ Below w.heap.size w W)
    ⟨ha_old (ha_old (ha_old (ha_new rfl))), ha_old (ha_old (ha_new (by simp))), by rw [← zero_row]; exact ha_old (ha_new (by simp)), by rw [← zero_rowI]; exact ha_new (by simp), ((((Below.refl _ _).alloc (Nat.le_refl _) _).alloc (by simp) _).alloc (by simp; omega) _).alloc (by simp; omega) _⟩ ?_
  rintro W ⟨h0, h1, h2, h3, hb⟩
  go_wp2_with (first | ((with_reducible apply wl_row); exact rfl; (first | exact rowL (by with_reducible assumption) | exact rowD (by with_reducible assumption) | exact rowR (by with_reducible assumption))) | ((with_reducible apply wl_one); exact rfl; exact oneN (by with_reducible assumption)) | ((with_reducible apply wl_stL); exact rfl; exact rfl; with_reducible assumption) | ((with_reducible apply wl_stR); exact rfl; exact rfl; with_reducible assumption))
  go_loopw [14] (fun i wr => ∃ (k : Nat) (s : Nat → Nat), k ≤ 64 ∧ i = .int .i64 k ∧ Hid (MulInv a b k 0 s) ∧ wr.heap[w.heap.size + 1]? = some (.cells (dv b) 73 (0, 0)) ∧ wr.heap[w.heap.size + 1 + 1]? = some (.cells (row fun _ => 0) 73 (0, 0)) ∧ wr.heap[w.heap.size + 1 + 1 + 1]? = some (.cells (rowI s) 156 (0, 0)) ∧ Below w.heap.size w wr) (fun i _ => 64 - (intOf i).toNat)
  case atStart => exact ⟨0, _, by omega, rfl, MulInv.start a b, h1, h2, h3, hb⟩
  case round =>
    clear h0 h1 h2 h3 hb
    obtain ⟨k, s, hk, rfl, hI, h1, h2, h3, hb⟩ := hrel
    by_cases hlt : k < 64
    · have hd := dg_lt a k
      go_wp2_with (((with_reducible apply wl_ix73); exact rfl; exact rfl; assumption))
      go_loopw [8] (fun i wr => ∃ (j : Nat) (s : Nat → Nat), k + j ≤ 64 ∧ i = .int .i64 j ∧ (dg a k = 0 → j = 0) ∧ Hid (MulInv a b k j s) ∧ wr.heap[w.heap.size + 1]? = some (.cells (dv b) 73 (0, 0)) ∧ wr.heap[w.heap.size + 1 + 1]? = some (.cells (row fun _ => 0) 73 (0, 0)) ∧ wr.heap[w.heap.size + 1 + 1 + 1]? = some (.cells (rowI s) 156 (0, 0)) ∧ Below w.heap.size w wr) (fun i _ => 64 - (intOf i).toNat)
      case atStart => exact ⟨0, s, by omega, rfl, fun _ => rfl, hI, h1, h2, h3, hb⟩
      case round =>
        clear h1 h2 h3 hb hI
        obtain ⟨j, s, hkj, rfl, hj0, hI, h1, h2, h3, hb⟩ := hrel
        have HJ := Lib.hid hj0
        clear hj0
        by_cases hc : 0 < dg a k ∧ k + j < 64
        · obtain ⟨hc1, hc2⟩ := hc
          have hs : s (k + j) ≤ 5184 := hI.out.le (by omega) _ hc2
          have db := dg_lt b j
          have hp0 : (0 : Int) ≤ (dg a k : Int) * (dg b j : Int) := Int.mul_nonneg (by omega) (by omega)
          have hp1 : (dg a k : Int) * (dg b j : Int) ≤ 81 := by
            have : dg a k * dg b j ≤ 9 * 9 := Nat.mul_le_mul (by omega) (by omega)
            have h2 : ((dg a k * dg b j : Nat) : Int) ≤ 81 := by omega
            rwa [Int.natCast_mul] at h2
          have cs : wr.cell? ⟨w.heap.size + 1 + 1 + 1, k + j, none⟩ = some (.int .i64 (s (k + j))) := by
            rw [cell_of_row _ _ _ _ _ _ h3, rowI_get _ _ hc2]
          have cb : wr.cell? ⟨w.heap.size + 1, j, none⟩ = some (.int .u8 (dg b j)) := by
            rw [cell_of_row _ _ _ _ _ _ h1, dv, row_get _ _ (by omega)]
          have e1 : IntKind.i64.wrap ((k : Int) + j) = (k : Int) + j := IntWalk.i64_in _ (by omega)
          have e2 : IntKind.i64.wrap ((dg a k : Int) * (dg b j : Int)) = (dg a k : Int) * (dg b j : Int) := IntWalk.i64_in _ (by omega)
          have e3 : IntKind.i64.wrap ((s (k + j) : Int) + (dg a k : Int) * (dg b j : Int)) = (s (k + j) : Int) + (dg a k : Int) * (dg b j : Int) := IntWalk.i64_in _ (by omega)
          have e4 : (0 : Int) ≤ (k : Int) + j := by omega
          have e5 : (k : Int) + j < 64 := by omega
          have e6 : ((k : Int) + j).toNat = k + j := by omega
          have hj64 : (j : Int) < 64 := by omega
          go_wp2_with fail
          refine wp_region_below 14 mixed (by kernel_rfl) ?_; simp only [List.take_succ_cons, List.take_zero, List.drop_succ_cons, List.drop_zero]
          refine wq_k rfl (fun K hK => ?_); go_simp; refine hK _ ?_; clear hK K
          refine wq_k rfl (fun K hK => ?_); go_simp; refine hK _ ?_; clear hK K
          refine wq_k rfl (fun K hK => ?_); go_simp; refine hK _ ?_; clear hK K
          refine wq_k rfl (fun K hK => ?_); go_simp; refine hK _ ?_; clear hK K
          ((with_reducible apply wq_one); exact rfl; exact rfl; (intro w' hw'; exact one_of u3 rfl (below_cell hw' (by with_reducible assumption))))
          refine wq_k rfl (fun K hK => ?_); go_simp; refine hK _ ?_; clear hK K
          refine wq_k rfl (fun K hK => ?_); go_simp; refine hK _ ?_; clear hK K
          refine wq_k rfl (fun K hK => ?_); go_simp; refine hK _ ?_; clear hK K
          refine wq_k rfl (fun K hK => ?_); go_simp; refine hK _ ?_; clear hK K
          ((with_reducible apply wq_one); exact rfl; exact rfl; (intro w' hw'; exact one_of u5 rfl (below_cell hw' (by with_reducible assumption))))
          refine wq_k rfl (fun K hK => ?_); go_simp; refine hK _ ?_; clear hK K
          refine wq_k rfl (fun K hK => ?_); go_simp; refine hK _ ?_; clear hK K
          refine wq_k rfl (fun K hK => ?_); go_simp; refine hK _ ?_; clear hK K
          refine wq_k rfl (fun K hK => ?_); go_simp; refine hK _ ?_; clear hK K
          intro w' hw'
          have cs' := below_cell hw' cs
          have fs' : w'.frozen? ⟨w.heap.size + 1 + 1 + 1, k + j, none⟩ = false := frozen_of_row _ _ _ _ _ (below_look hw' h3)
          go_wp2
          clear e1 e2 e3 e4 e5 e6
          go_roundw
          case rel =>
            have h3' := below_look hw' h3
            refine ⟨j + 1, upd s (k + j) (dg a k * dg b j), by omega, by go_num, by omega, hI.out.step hc2, hs_old (below_look hw' h1) (by simp), hs_old (below_look hw' h2) (by simp), ?_, ?_⟩
            · rw [← rowI_upd s (k + j) _ hc2 _ (by rw [Int.natCast_add, Int.natCast_mul])]
              exact hs_new h3'
            · exact (hb.trans (hw'.mono hb.size)).setCell (by simp; omega) _
          case measure => simp [intOf]; omega
        · go_wp2
          all_goals
            go_roundw
            case rel =>
              refine ⟨k + 1, s, hlt, by go_num, hI.out.next ?_, h1, h2, h3, hb⟩
              have := HJ.out
              omega
            case measure => simp [intOf]; omega
    · obtain rfl : k = 64 := by omega
      have hsz := heap_lt h3
      obtain ⟨B, hB⟩ : ∃ B, B = wr.heap.size := ⟨_, rfl⟩
      go_upto_region 12 with (fail)
      refine wp_world (fun W => W.heap[w.heap.size + 1 + 1]? = some (.cells (row fun _ => 0) 73 (0, 0)) ∧ W.heap[w.heap.size + 1 + 1 + 1]? = some (.cells (rowI s) 156 (0, 0)) ∧ W.heap[B]? = some (.cells (row (mo (a * b) 0)) 73 (0, 0)) ∧ Below w.heap.size w W)
        ⟨ha_old h2, ha_old h3, by rw [mo_zero, ← zero_row]; exact ha_new hB, hb.alloc (by omega) _⟩ ?_
      rintro W ⟨h2, h3, h4, hb⟩
      have hBB : w.heap.size + 1 + 1 + 1 < B := by omega
      rw [← hB]
      clear hB hsz
      go_wp2_with (((with_reducible apply wl_row); exact rfl; exact rowS (by with_reducible assumption)))
      go_loopw [10, 44] (fun c i wr => ∃ k : Nat, k ≤ 64 ∧ i = .int .i64 k ∧ c = .int .i64 (Nm.cs s k) ∧ wr.heap[w.heap.size + 1 + 1]? = some (.cells (row fun _ => 0) 73 (0, 0)) ∧ wr.heap[B]? = some (.cells (row (mo (a * b) k)) 73 (0, 0)) ∧ Below w.heap.size w wr) (fun _ i _ => 64 - (intOf i).toNat)
      case atStart => exact ⟨0, by omega, rfl, rfl, h2, h4, hb⟩
      case round =>
        clear h2 h3 h4 hb
        obtain ⟨k, hk, rfl, rfl, h2, h4, hb⟩ := hrel
        by_cases hlt : k < 64
        · have b1 := hI.out.le' k hlt
          have b2 := cs_le s 64 (fun m hm => hI.out.le' m hm) k (by omega)
          have cc : ∃ v, wr.cell? ⟨B, k, none⟩ = some v := ⟨_, by rw [cell_of_row _ _ _ _ _ _ h4, row_get _ _ hlt]⟩
          obtain ⟨v, cc⟩ := cc
          have fc : wr.frozen? ⟨B, k, none⟩ = false := frozen_of_row _ _ _ _ _ h4
          go_wp2_with (((with_reducible apply wl_ix156); exact rfl; exact rfl; assumption))
          go_roundw
          case rel =>
            refine ⟨k + 1, hlt, by go_num, by rw [Nm.cs]; go_num, hs_old h2 (by simp; omega), ?_, hb.setCell (by simp; omega) _⟩
            exact (hs_new h4).trans (by rw [mo_step _ _ hlt _ (by rw [hI.out.dig k hlt]; go_num)])
          case measure => simp [intOf]; omega
        · obtain rfl : k = 64 := by omega
          rw [mo_end] at h4
          rw [row_zero_dv] at h2
          go_wp2_with (first | ((with_reducible apply wl_row); exact rfl; (first | exact rowL (by with_reducible assumption) | exact rowD (by with_reducible assumption) | exact rowR (by with_reducible assumption))) | ((with_reducible apply wl_one); exact rfl; exact oneN (by with_reducible assumption)) | ((with_reducible apply wl_stL); exact rfl; exact rfl; with_reducible assumption) | ((with_reducible apply wl_stR); exact rfl; exact rfl; with_reducible assumption))
          refine bodyPost_ret (res_dig rfl _ _ (w.heap.size + 1 + 1) rfl (hr_new h2)) rfl ⟨rfl, ?_⟩
          exact below_setRow hb (by omega) _
end Go.Proofs.Ytclainfdeghgnaa
