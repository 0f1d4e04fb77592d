/- Lists compared, entries as a map, by the program. -/
import Derived.Test.YtbhdgeoljlhmcaaS38
import Derived.Test.YtbhdgeoljlhmcaaS36
import Derived.Shelf.SlMaps.Equal
import Derived.Outline
namespace Go.Proofs
open Go.Shelf
def Try.laysMe_ren : Go.Shelf.Ren := ⟨fun | 6 => 73 | n => n, fun | 0 => 0 | 3 => 3 | 4 => 4 | 23 => 115 | 24 => 115 | 26 => 9 | 27 => 3 | 36 => 54 | n => n, fun | n => n⟩
theorem Try.laysMe : Go.Proofs.SlLaysEq.n6 Try.prog Try.laysMe_ren := {
  mixed := by kernel_rfl
  f6 := ⟨Try.f73.name, by kernel_rfl, Try.func73.trans (congrArg some (by kernel_rfl))⟩
  t0 := Try.underlying0
  a0 := Try.isAgg0
  z0 := Try.sizeOf0
  v0 := Try.zeroValue0
  t3 := Try.underlying3
  a3 := Try.isAgg3
  z3 := Try.sizeOf3
  v3 := Try.zeroValue3
  t4 := Try.underlying4
  a4 := Try.isAgg4
  z4 := Try.sizeOf4
  v4 := Try.zeroValue4
  t23 := Try.underlying115
  a23 := Try.isAgg115
  z23 := Try.sizeOf115
  v23 := Try.zeroValue115
  t24 := Try.underlying115
  a24 := Try.isAgg115
  z24 := Try.sizeOf115
  v24 := Try.zeroValue115
  a26 := Try.isAgg9
  z26 := Try.sizeOf9
  a27 := Try.isAgg3
  z27 := Try.sizeOf3
  t36 := Try.underlying54
  a36 := Try.isAgg54
  z36 := Try.sizeOf54 }
end Go.Proofs
namespace Go.Proofs.Ytbhdgeoljlhmcaa
open Go.RowKit Go.Proofs.Ytbhdgeoljlhmcaa.Nm Go.Proofs.Ytbhdgeoljlhmcaa.St
set_option linter.unusedSimpArgs false
set_option maxHeartbeats 2000000 in
set_option maxRecDepth 100000 in
theorem Equal_any (A1 A2 : Option Addr) (n1 n2 c1 c2 : Nat) (l1 l2 : List ByteArray) (hn1 : n1 ≤ 1000000) (w : World) (h1 : StrAt w A1 n1 c1 l1) (h2 : StrAt w A2 n2 c2 l2) :
    Calls Try.prog 72 #[.slice A1 n1 c1, .slice A2 n2 c2] w fun e w' => e = .returned (.bool (decide (l1 = l2))) ∧ Below w.heap.size w w' := by
  have H1 := Lib.hid h1
  have H2 := Lib.hid h2
  clear h1 h2
  by_cases hn : n1 = n2
  · subst hn
    go_enter Try.func72, Try.ntmps72
    go_wp2_with fail
    go_loopw [13] (fun i wr => ∃ j : Nat, j ≤ n1 ∧ i = .int .i64 (j : Int) ∧ Hid (l1.take j = l2.take j) ∧ Below w.heap.size w wr) (fun i _ => n1 - (intOf i).toNat)
    case atStart => exact ⟨0, by omega, rfl, Lib.hid (by simp), Below.refl _ _⟩
    case round =>
      obtain ⟨j, hj, rfl, HT, hb⟩ := hrel
      by_cases hlt : j < n1
      · obtain ⟨a, ha⟩ : ∃ a, l1[j]? = some a := ⟨_, List.getElem?_eq_getElem (by rw [H1.out.1]; exact hlt)⟩
        obtain ⟨b, hb2⟩ : ∃ b, l2[j]? = some b := ⟨_, List.getElem?_eq_getElem (by rw [H2.out.1]; exact hlt)⟩
        obtain ⟨ad1, rfl, hca⟩ := H1.out.cell ha
        obtain ⟨ad2, rfl, hcb⟩ := H2.out.cell hb2
        have HCA := Lib.hid hca
        have HCB := Lib.hid hcb
        have HA := Lib.hid ha
        have HB := Lib.hid hb2
        have hltI : (j : Int) < (n1 : Int) := by omega
        clear hca hcb ha hb2
        go_upto_region 6 with (fail)
        refine wp_region_held_drew (S := Below w.heap.size w) mixed hb.drew (fun hS => ?_)
        refine ha_k (i := 0) rfl (by kernel_rfl) (by kernel_rfl) (by kernel_rfl) (fun _ _ _ _ h => h) hS rfl (fun K hK => ?_); go_simp; refine hK _ ?_; clear hK K; try simp only [put_lit, List.set_cons_zero, List.set_cons_succ]
        refine ha_k (i := 1) rfl (by kernel_rfl) (by kernel_rfl) (by kernel_rfl) (fun _ _ _ _ h => h) hS rfl (fun K hK => ?_); go_simp; refine hK _ ?_; clear hK K; try simp only [put_lit, List.set_cons_zero, List.set_cons_succ]
        (refine ha_val (i := 2) rfl (by kernel_rfl) (by kernel_rfl) (by kernel_rfl) (fun _ _ _ h => h) hS rfl (fun w' _ => ex_ixS (j := j) _ _ rfl rfl rfl hlt) ?_; try simp only [put_lit, List.set_cons_zero, List.set_cons_succ])
        (refine ha_val (i := 3) rfl (by kernel_rfl) (by kernel_rfl) (by kernel_rfl) (fun _ _ _ h => h) hS rfl (fun w' hw' => ex_one rfl (one9 (below_cell hw' HCA.out))) ?_; try simp only [put_lit, List.set_cons_zero, List.set_cons_succ])
        refine ha_k (i := 4) rfl (by kernel_rfl) (by kernel_rfl) (by kernel_rfl) (fun _ _ _ _ h => h) hS rfl (fun K hK => ?_); go_simp; refine hK _ ?_; clear hK K; try simp only [put_lit, List.set_cons_zero, List.set_cons_succ]
        refine ha_k (i := 5) rfl (by kernel_rfl) (by kernel_rfl) (by kernel_rfl) (fun _ _ _ _ h => h) hS rfl (fun K hK => ?_); go_simp; refine hK _ ?_; clear hK K; try simp only [put_lit, List.set_cons_zero, List.set_cons_succ]
        (refine ha_val (i := 6) rfl (by kernel_rfl) (by kernel_rfl) (by kernel_rfl) (fun _ _ _ h => h) hS rfl (fun w' _ => ex_ixS (j := j) _ _ rfl rfl rfl hlt) ?_; try simp only [put_lit, List.set_cons_zero, List.set_cons_succ])
        (refine ha_val (i := 7) rfl (by kernel_rfl) (by kernel_rfl) (by kernel_rfl) (fun _ _ _ h => h) hS rfl (fun w' hw' => ex_one rfl (one9 (below_cell hw' HCB.out))) ?_; try simp only [put_lit, List.set_cons_zero, List.set_cons_succ])
        refine ha_k (i := 8) rfl (by kernel_rfl) (by kernel_rfl) (by kernel_rfl) (fun _ _ _ _ h => h) hS rfl (fun K hK => ?_); go_simp; refine hK _ ?_; clear hK K; try simp only [put_lit, List.set_cons_zero, List.set_cons_succ]
        refine wpAnyH_done (by kernel_rfl) ?_ _
        rw [show (a.toList == b.toList) = decide (a = b) by rw [← Bool.coe_iff_coe]; simp only [decide_eq_true_eq, beq_iff_eq]; rw [ByteArray.toList_eq, ByteArray.toList_eq]; exact ⟨fun e => ByteArray.ext (Array.toList_inj.1 e), fun e => by rw [e]⟩]
        clear hb
        by_cases e : a = b
        · rw [decide_eq_true e]
          go_wp2_with fail
          go_roundw
          case rel => exact ⟨j + 1, by omega, by go_num, Lib.hid (by rw [List.take_add_one, List.take_add_one, HA.out, HB.out, HT.out, e]), hS⟩
          case measure => simp [intOf]; omega
        · rw [decide_eq_false e]
          have HN : Hid (decide (l1 = l2) = false) := Lib.hid (decide_eq_false (fun h => e (by have h1 := HA.out; rw [h, HB.out] at h1; cases h1; rfl)))
          go_wp2_with fail
          go_ret
          exact ⟨by rw [HN.out]; rfl, hS⟩
      · obtain rfl : j = n1 := by omega
        have HN : Hid (decide (l1 = l2) = true) := Lib.hid (decide_eq_true (by have h := HT.out; rw [List.take_of_length_le (by rw [H1.out.1]; exact Nat.le_refl _), List.take_of_length_le (by rw [H2.out.1]; exact Nat.le_refl _)] at h; exact h))
        go_wp2_with fail
        go_ret
        exact ⟨by rw [HN.out]; rfl, hb⟩
  · have hnI : ¬ (n1 : Int) = (n2 : Int) := by omega
    have hd : ((n1 : Int) == (n2 : Int)) = false := by simpa using hnI
    have HN : Hid (decide (l1 = l2) = false) := Lib.hid (decide_eq_false (fun h => hn (by rw [← H1.out.1, ← H2.out.1, h])))
    go_enter Try.func72, Try.ntmps72
    go_wp2_with fail
    go_ret
    exact ⟨by rw [HN.out]; rfl, Below.refl _ _⟩
end Go.Proofs.Ytbhdgeoljlhmcaa
