/- Whether a text is a value of a width: the document's answer, and the law. -/
import Derived.Test.YtclainfdeghgnaaW56
import Derived.Test.YtclainfdeghgnaaW47
import Derived.Outline
namespace Go.Proofs.Ytclainfdeghgnaa
open Go.RowKit Go.Proofs.Ytclainfdeghgnaa.Nm Go.Proofs.Ytclainfdeghgnaa.Lm
def fitsS (m : ByteArray) (n : Int) (s : Bool) : Bool × Int := match rdm m with
  | none => (false, 4)
  | some x => if isRight n then (hasI n s x, 0) else (false, 3)
theorem Fits_any (m : ByteArray) (n : Int) (s : Bool) (r : Bool) (er : Int) (h : Hid (fitsS m n s = (r, er))) (w : World) :
    Calls Try.prog 34 #[.string m, .int .i64 n, .bool s] w fun e w' => e = .returned (.tuple #[.bool r, .int .i64 er]) ∧ Below w.heap.size w w' := by
  have h := h.out
  unfold fitsS at h
  cases hx : rdm m with
  | none =>
    rw [hx] at h
    simp only [Prod.mk.injEq] at h
    obtain ⟨rfl, rfl⟩ := h
    exact Fits_none m n s hx w
  | some x =>
    rw [hx] at h
    cases hr : isRight n with
    | false =>
      rw [hr] at h
      simp only [Bool.false_eq_true, if_false, Prod.mk.injEq] at h
      obtain ⟨rfl, rfl⟩ := h
      exact Fits_name m n s x hx (Lib.hid hr) w
    | true =>
      rw [hr] at h
      simp only [if_true, Prod.mk.injEq] at h
      obtain ⟨rfl, rfl⟩ := h
      exact Fits_ok m n s x hx (Lib.hid hr) _ (Lib.hid rfl) w
set_option maxHeartbeats 1000000 in
set_option maxRecDepth 100000 in
theorem FitsI_any (m : ByteArray) (n : Int) (s : Bool) (r : Bool) (er : Int) (h : Hid (fitsS m n s = (r, er))) (w : World) :
    Calls Try.prog 35 #[.string m, .int .i64 n, .bool s] w fun e w' => e = .returned (.tuple #[.bool r, .int .i64 er]) ∧ Below w.heap.size w w' := by
  have h := h.out
  unfold fitsS at h
  have nx := rdm_nl (m := m)
  have R1 := Lib.hid (ReadI_any m)
  cases hx : rdm m with
  | none =>
    rw [hx] at h R1 nx
    simp only [Prod.mk.injEq] at h
    obtain ⟨rfl, rfl⟩ := h
    clear hx nx
    go_enter Try.func35, Try.ntmps35
    go_upto_region 1 with (fail)
    have hb := Below.refl w.heap.size w
    apply wp_region_lit
    refine wl_k rfl (fun K hK => ?_); go_simp; refine hK _ ?_; clear hK K
    refine wl_ck rfl (fun K hK => ?_); go_simp; refine ⟨_, _, ⟨rfl, rfl⟩, hK _ _ ⟨_, R1.out _, ?_⟩⟩; clear hK K; rintro e w1 ⟨A1, c1, rfl, i1, hb1⟩; refine ⟨_, rfl, ?_⟩; simp only [put_lit, List.set_cons_zero, List.set_cons_succ]
    replace hb := hb.trans (hb1.mono hb.size); clear hb1
    refine wl_k rfl (fun K hK => ?_); go_simp; refine hK _ ?_; clear hK K
    refine wl_k rfl (fun K hK => ?_); go_simp; refine hK _ ?_; clear hK K
    refine wl_k rfl (fun K hK => ?_); go_simp; refine hK _ ?_; clear hK K
    (have lsp6 := hb.size; (with_reducible apply wl_new84); intro w2 p6 hbn hlp6 hp6; replace i1 := i1.below hbn; replace hb := hb.trans (hbn.mono hb.size); clear hbn)
    ((with_reducible apply wl_putI); exact rfl; exact rfl; exact hp6; intro w3 hbx hk hq hi; replace i1 := hi _ _ _ i1; replace hb := hbx _ _ (by omega) hb; clear hp6; have hp6 := hq; clear hbx hk hq hi)
    go_wp2_with fail
    exact bodyPost_ret (results_tmp2 rfl _ _ _) rfl ⟨rfl, hb⟩
  | some x =>
    rw [hx] at h R1 nx
    clear hx
    simp only [Option.getD_some, Option.isSome_some] at R1 nx
    cases hr : isRight n with
    | false =>
      rw [hr] at h
      simp only [Bool.false_eq_true, if_false, Prod.mk.injEq] at h
      obtain ⟨rfl, rfl⟩ := h
      have HR := Lib.hid hr.symm
      clear hr
      go_enter Try.func35, Try.ntmps35
      go_upto_region 1 with (fail)
      have hb := Below.refl w.heap.size w
      apply wp_region_lit
      refine wl_k rfl (fun K hK => ?_); go_simp; refine hK _ ?_; clear hK K
      refine wl_ck rfl (fun K hK => ?_); go_simp; refine ⟨_, _, ⟨rfl, rfl⟩, hK _ _ ⟨_, R1.out _, ?_⟩⟩; clear hK K; rintro e w1 ⟨A1, c1, rfl, i1, hb1⟩; refine ⟨_, rfl, ?_⟩; simp only [put_lit, List.set_cons_zero, List.set_cons_succ]
      replace hb := hb.trans (hb1.mono hb.size); clear hb1
      refine wl_k rfl (fun K hK => ?_); go_simp; refine hK _ ?_; clear hK K
      refine wl_k rfl (fun K hK => ?_); go_simp; refine hK _ ?_; clear hK K
      refine wl_k rfl (fun K hK => ?_); go_simp; refine hK _ ?_; clear hK K
      (have lsp6 := hb.size; (with_reducible apply wl_new84); intro w2 p6 hbn hlp6 hp6; replace i1 := i1.below hbn; replace hb := hb.trans (hbn.mono hb.size); clear hbn)
      ((with_reducible apply wl_putI); exact rfl; exact rfl; exact hp6; intro w3 hbx hk hq hi; replace i1 := hi _ _ _ i1; replace hb := hbx _ _ (by omega) hb; clear hp6; have hp6 := hq; clear hbx hk hq hi)
      go_wp2_with (go_at_call 63; refine (isWidth_any n false HR _).mono ?_; rintro e w9 ⟨rfl, hb1⟩; replace hb := hb.trans (hb1.mono hb.size); clear hb1)
      exact bodyPost_ret (results_tmp2 rfl _ _ _) rfl ⟨rfl, hb⟩
    | true =>
      rw [hr] at h
      simp only [if_true, Prod.mk.injEq] at h
      obtain ⟨rfl, rfl⟩ := h
      have HR := Lib.hid hr.symm
      obtain ⟨k, hk, k1, k2, k3⟩ := right_bits hr
      have n1 : 1 ≤ n := by omega
      have n2 : n ≤ 64 := by omega
      clear hr hk k1 k2 k3
      go_enter Try.func35, Try.ntmps35
      go_upto_region 1 with (fail)
      have hb := Below.refl w.heap.size w
      apply wp_region_lit
      refine wl_k rfl (fun K hK => ?_); go_simp; refine hK _ ?_; clear hK K
      refine wl_ck rfl (fun K hK => ?_); go_simp; refine ⟨_, _, ⟨rfl, rfl⟩, hK _ _ ⟨_, R1.out _, ?_⟩⟩; clear hK K; rintro e w1 ⟨A1, c1, rfl, i1, hb1⟩; refine ⟨_, rfl, ?_⟩; simp only [put_lit, List.set_cons_zero, List.set_cons_succ]
      replace hb := hb.trans (hb1.mono hb.size); clear hb1
      refine wl_k rfl (fun K hK => ?_); go_simp; refine hK _ ?_; clear hK K
      refine wl_k rfl (fun K hK => ?_); go_simp; refine hK _ ?_; clear hK K
      refine wl_k rfl (fun K hK => ?_); go_simp; refine hK _ ?_; clear hK K
      (have lsp6 := hb.size; (with_reducible apply wl_new84); intro w2 p6 hbn hlp6 hp6; replace i1 := i1.below hbn; replace hb := hb.trans (hbn.mono hb.size); clear hbn)
      ((with_reducible apply wl_putI); exact rfl; exact rfl; exact hp6; intro w3 hbx hk hq hi; replace i1 := hi _ _ _ i1; replace hb := hbx _ _ (by omega) hb; clear hp6; have hp6 := hq; clear hbx hk hq hi)
      go_upto_region 6 with (go_at_call 63; refine (isWidth_any n true HR _).mono ?_; rintro e w9 ⟨rfl, hb1⟩; replace hp6 := below_look hb1 hp6; replace i1 := i1.below hb1; replace hb := hb.trans (hb1.mono hb.size); clear hb1)
      apply wp_region_lit
      ((with_reducible apply wl_rowG); exact rfl; exact rfl; exact rowIv (by with_reducible assumption))
      refine wl_k rfl (fun K hK => ?_); go_simp; refine hK _ ?_; clear hK K
      refine wl_k rfl (fun K hK => ?_); go_simp; refine hK _ ?_; clear hK K
      refine wl_ck rfl (fun K hK => ?_); go_simp; refine ⟨_, _, ⟨rfl, rfl⟩, hK _ _ ⟨_, withinI_any x n s A1 c1 n1 n2 _ i1 (by omega) (hasI n s x) (Lib.hid rfl), ?_⟩⟩; clear hK K; rintro e w7 ⟨rfl, hb1⟩; refine ⟨_, rfl, ?_⟩; simp only [put_lit, List.set_cons_zero, List.set_cons_succ]
      replace hb := hb.trans (hb1.mono hb.size); clear hb1
      go_wp2_with fail
      exact bodyPost_ret (results_tmp2 rfl _ _ _) rfl ⟨rfl, hb⟩
theorem kv0 {w : World} {b : Nat} {n : Int} {s : Bool} {m : ByteArray} {t : TypeId} {fr : Nat × Nat} (hb : w.heap[b]? = some (.cells (kvB n s m) t fr)) : w.cell? ⟨b, 0, none⟩ = some (.int .i64 n) := by rw [cell_of_row _ _ _ _ _ _ hb]; rfl
theorem kv1 {w : World} {b : Nat} {n : Int} {s : Bool} {m : ByteArray} {t : TypeId} {fr : Nat × Nat} (hb : w.heap[b]? = some (.cells (kvB n s m) t fr)) : w.cell? ⟨b, 1, none⟩ = some (.bool s) := by rw [cell_of_row _ _ _ _ _ _ hb]; rfl
theorem kv2 {w : World} {b : Nat} {n : Int} {s : Bool} {m : ByteArray} {t : TypeId} {fr : Nat × Nat} (hb : w.heap[b]? = some (.cells (kvB n s m) t fr)) : w.cell? ⟨b, 2, none⟩ = some (.string m) := by rw [cell_of_row _ _ _ _ _ _ hb]; rfl
set_option maxHeartbeats 1000000 in
set_option maxRecDepth 100000 in
theorem NumberFits_any (m : ByteArray) (n : Int) (s : Bool) (md : ByteArray) (w : World) :
    Calls Try.prog 10 #[.string m, .agg (kvB n s md)] w fun e w' => e = .returned (.bool true) ∧ Below w.heap.size w w' := by
  rcases hr : fitsS m n s with ⟨r, er⟩
  have HR := Lib.hid hr
  clear hr
  cases la : decide (200 < m.size)
  · have LA := Lib.hid la
    clear la
    go_enter Try.func10, Try.ntmps10
    go_upto_region 1 with (fail)
    refine wp_world (fun W => W.heap[w.heap.size]? = some (.cells (kvB n s md) 25 (0, 0)) ∧ Below w.heap.size w W) ⟨ha_new rfl, (Below.refl _ _).alloc (Nat.le_refl _) _⟩ ?_
    rintro W ⟨h0, hb⟩
    go_upto_region 3 with (go_at_call 20; refine (longs m _ _ LA).mono ?_; rintro e w9 ⟨rfl, hb1⟩; replace h0 := below_look hb1 h0; replace hb := hb.trans (hb1.mono hb.size); clear hb1)
    apply wp_region_lit
    refine wl_k rfl (fun K hK => ?_); go_simp; refine hK _ ?_; clear hK K
    refine wl_k rfl (fun K hK => ?_); go_simp; refine hK _ ?_; clear hK K
    ((with_reducible apply wl_oneG); exact rfl; exact rfl; exact one_of u3 rfl (kv0 h0))
    refine wl_k rfl (fun K hK => ?_); go_simp; refine hK _ ?_; clear hK K
    ((with_reducible apply wl_oneG); exact rfl; exact rfl; exact one_of u4 rfl (kv1 h0))
    refine wl_ck rfl (fun K hK => ?_); go_simp; refine ⟨_, _, ⟨rfl, rfl⟩, hK _ _ ⟨_, Fits_any _ _ _ _ _ HR _, ?_⟩⟩; clear hK K; rintro e w2 ⟨rfl, hb1⟩; refine ⟨_, rfl, ?_⟩; simp only [put_lit, List.set_cons_zero, List.set_cons_succ]
    replace h0 := below_look hb1 h0; replace hb := hb.trans (hb1.mono hb.size); clear hb1
    go_upto_region 4 with (fail)
    apply wp_region_lit
    refine wl_k rfl (fun K hK => ?_); go_simp; refine hK _ ?_; clear hK K
    refine wl_k rfl (fun K hK => ?_); go_simp; refine hK _ ?_; clear hK K
    ((with_reducible apply wl_oneG); exact rfl; exact rfl; exact one_of u3 rfl (kv0 h0))
    refine wl_k rfl (fun K hK => ?_); go_simp; refine hK _ ?_; clear hK K
    ((with_reducible apply wl_oneG); exact rfl; exact rfl; exact one_of u4 rfl (kv1 h0))
    refine wl_ck rfl (fun K hK => ?_); go_simp; refine ⟨_, _, ⟨rfl, rfl⟩, hK _ _ ⟨_, FitsI_any _ _ _ _ _ HR _, ?_⟩⟩; clear hK K; rintro e w3 ⟨rfl, hb1⟩; refine ⟨_, rfl, ?_⟩; simp only [put_lit, List.set_cons_zero, List.set_cons_succ]
    replace h0 := below_look hb1 h0; replace hb := hb.trans (hb1.mono hb.size); clear hb1
    go_wp2_with (go_at_call 21; refine (awake_any _).mono ?_; rintro e w9 ⟨rfl, hb1⟩; replace hb := hb.trans (hb1.mono hb.size); clear hb1)
    go_ret
    exact ⟨rfl, hb⟩
  · have LA := Lib.hid la
    clear la
    go_enter Try.func10, Try.ntmps10
    go_upto_region 1 with (fail)
    refine wp_world (fun W => W.heap[w.heap.size]? = some (.cells (kvB n s md) 25 (0, 0)) ∧ Below w.heap.size w W) ⟨ha_new rfl, (Below.refl _ _).alloc (Nat.le_refl _) _⟩ ?_
    rintro W ⟨h0, hb⟩
    go_wp2_with (first | (go_at_call 20; refine (longs m _ _ LA).mono ?_; rintro e w9 ⟨rfl, hb1⟩; replace hb := hb.trans (hb1.mono hb.size); clear hb1) | (go_at_call 21; refine (awake_any _).mono ?_; rintro e w9 ⟨rfl, hb1⟩; replace hb := hb.trans (hb1.mono hb.size); clear hb1))
    go_ret
    exact ⟨rfl, hb⟩
end Go.Proofs.Ytclainfdeghgnaa
