/- Names, and the form of a name's field, by the program. -/
import Derived.Test.YtbhdgeoljlhmcaaS10
import Derived.Outline
namespace Go.Proofs.Ytbhdgeoljlhmcaa
open Go.RowKit Go.Proofs.Ytbhdgeoljlhmcaa.Nm Go.Proofs.Ytbhdgeoljlhmcaa.St
set_option linter.unusedSimpArgs false
def isNm (n : Int) : Bool := decide (0 ≤ n) && decide (n < 8)
theorem isName_any (n : Int) (w : World) : Calls Try.prog 80 #[.int .i64 n] w fun e w' => e = .returned (.bool (isNm n)) ∧ Below w.heap.size w w' := by
  go_enter Try.func80, Try.ntmps80
  by_cases h : 0 ≤ n
  · have hd : decide (0 ≤ n) = true := by simpa using h
    go_wp2_with fail
    go_ret
    exact ⟨by simp [isNm, h], Below.refl _ _⟩
  · have hd : decide (0 ≤ n) = false := by simpa using h
    go_wp2_with fail
    go_ret
    exact ⟨by unfold isNm; rw [hd]; rfl, Below.refl _ _⟩
/-- the form of a name's field -/
def nmOk (used : Bool) (n : Int) : Bool := (used && isNm n) || (!used && decide (n = 0))
theorem nmOk_any (used : Bool) (n : Int) (w : World) : Calls Try.prog 90 #[.bool used, .int .i64 n] w fun e w' => e = .returned (.bool (nmOk used n)) ∧ Below w.heap.size w w' := by
  go_enter Try.func90, Try.ntmps90
  cases used with
  | true =>
    go_upto_region 1 with (fail)
    apply wp_region_lit
    refine wl_k rfl (fun K hK => ?_); go_simp; refine hK _ ?_; clear hK K
    refine wl_k rfl (fun K hK => ?_); go_simp; refine hK _ ?_; clear hK K
    refine wl_k rfl (fun K hK => ?_); go_simp; refine hK _ ?_; clear hK K
    refine wl_ck rfl (fun K hK => ?_); go_simp; refine ⟨_, _, ⟨rfl, rfl⟩, hK _ _ ⟨_, isName_any n _, ?_⟩⟩; clear hK K; rintro e w1 ⟨rfl, hb1⟩; refine ⟨_, rfl, ?_⟩; simp only [put_lit, List.set_cons_zero, List.set_cons_succ]
    refine wl_k rfl (fun K hK => ?_); go_simp; refine hK _ ?_; clear hK K
    refine wl_k rfl (fun K hK => ?_); go_simp; refine hK _ ?_; clear hK K
    cases hq : isNm n with
    | true =>
      (refine wl_skip rfl ?_; simp only [put_lit, List.set_cons_zero, List.set_cons_succ])
      (refine wl_skip rfl ?_; simp only [put_lit, List.set_cons_zero, List.set_cons_succ])
      (refine wl_skip rfl ?_; simp only [put_lit, List.set_cons_zero, List.set_cons_succ])
      (refine wl_skip rfl ?_; simp only [put_lit, List.set_cons_zero, List.set_cons_succ])
      (refine wl_skip rfl ?_; simp only [put_lit, List.set_cons_zero, List.set_cons_succ])
      (refine wl_skip rfl ?_; simp only [put_lit, List.set_cons_zero, List.set_cons_succ])
      refine wl_k rfl (fun K hK => ?_); go_simp; refine hK _ ?_; clear hK K
      refine wl_k rfl (fun K hK => ?_); go_simp; refine hK _ ?_; clear hK K
      go_wp2_with fail
      go_ret
      exact ⟨by unfold nmOk; rw [hq]; rfl, hb1⟩
    | false =>
      refine wl_k rfl (fun K hK => ?_); go_simp; refine hK _ ?_; clear hK K
      refine wl_k rfl (fun K hK => ?_); go_simp; refine hK _ ?_; clear hK K
      refine wl_k rfl (fun K hK => ?_); go_simp; refine hK _ ?_; clear hK K
      (refine wl_skip rfl ?_; simp only [put_lit, List.set_cons_zero, List.set_cons_succ])
      (refine wl_skip rfl ?_; simp only [put_lit, List.set_cons_zero, List.set_cons_succ])
      refine wl_k rfl (fun K hK => ?_); go_simp; refine hK _ ?_; clear hK K
      refine wl_k rfl (fun K hK => ?_); go_simp; refine hK _ ?_; clear hK K
      refine wl_k rfl (fun K hK => ?_); go_simp; refine hK _ ?_; clear hK K
      go_wp2_with fail
      go_ret
      exact ⟨by unfold nmOk; rw [hq]; rfl, hb1⟩
  | false =>
    go_upto_region 1 with (fail)
    apply wp_region_lit
    refine wl_k rfl (fun K hK => ?_); go_simp; refine hK _ ?_; clear hK K
    refine wl_k rfl (fun K hK => ?_); go_simp; refine hK _ ?_; clear hK K
    (refine wl_skip rfl ?_; simp only [put_lit, List.set_cons_zero, List.set_cons_succ])
    (refine wl_skip rfl ?_; simp only [put_lit, List.set_cons_zero, List.set_cons_succ])
    refine wl_k rfl (fun K hK => ?_); go_simp; refine hK _ ?_; clear hK K
    refine wl_k rfl (fun K hK => ?_); go_simp; refine hK _ ?_; clear hK K
    refine wl_k rfl (fun K hK => ?_); go_simp; refine hK _ ?_; clear hK K
    refine wl_k rfl (fun K hK => ?_); go_simp; refine hK _ ?_; clear hK K
    refine wl_k rfl (fun K hK => ?_); go_simp; refine hK _ ?_; clear hK K
    refine wl_k rfl (fun K hK => ?_); go_simp; refine hK _ ?_; clear hK K
    refine wl_k rfl (fun K hK => ?_); go_simp; refine hK _ ?_; clear hK K
    refine wl_k rfl (fun K hK => ?_); go_simp; refine hK _ ?_; clear hK K
    refine wl_k rfl (fun K hK => ?_); go_simp; refine hK _ ?_; clear hK K
    refine wl_k rfl (fun K hK => ?_); go_simp; refine hK _ ?_; clear hK K
    go_wp2_with fail
    go_ret
    exact ⟨by unfold nmOk; simp [Bool.beq_eq_decide_eq], Below.refl _ _⟩
end Go.Proofs.Ytbhdgeoljlhmcaa
