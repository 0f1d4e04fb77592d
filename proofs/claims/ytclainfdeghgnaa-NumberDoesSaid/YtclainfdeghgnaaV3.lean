/- The document's powers of 2 and of 10, floors, comparisons. The document's floors and comparisons. -/
import Derived.Test.YtclainfdeghgnaaV2
import Derived.Test.YtclainfdeghgnaaW10
import Derived.Outline
import Derived.Test.YtclainfdeghgnaaW12
namespace Go.Proofs.Ytclainfdeghgnaa
open Go.RowKit Go.Proofs.Ytclainfdeghgnaa.Nm Go.Proofs.Ytclainfdeghgnaa.Lm
theorem nl_p2 {k : Nat} (h : k ≤ 64) : nl (2 ^ k) ≤ 3 := by
  refine nl_le _ _ ?_
  have h1 : 2 ^ k ≤ 2 ^ 64 := Nat.pow_le_pow_right (by decide) h
  have h2 : 2 ^ 64 < B ^ 3 := by decide
  omega
theorem nl_p10 {k : Nat} (h : k ≤ 36) : nl (10 ^ k) ≤ 4 := by
  refine nl_le _ _ ?_
  have h1 : 10 ^ k ≤ 10 ^ 36 := Nat.pow_le_pow_right (by decide) h
  have h2 : 10 ^ 36 < B ^ 4 := by decide
  omega
def p2 (k : Nat) : Int := ((2 ^ k : Nat) : Int)
def p10I (k : Nat) : Int := ((10 ^ k : Nat) : Int)
theorem p2_abs (k : Nat) : (p2 k).natAbs = 2 ^ k := Int.natAbs_natCast _
theorem p10_abs (k : Nat) : (p10I k).natAbs = 10 ^ k := Int.natAbs_natCast _
theorem p2_succ (k : Nat) : p2 k + p2 k = p2 (k + 1) := by unfold p2; rw [Nat.pow_succ]; omega
theorem p10_succ (k : Nat) : p10I k * 10 = p10I (k + 1) := by unfold p10I; rw [Nat.pow_succ]; simp
set_option maxHeartbeats 1000000 in
theorem PowerI_any (n : Nat) (hn : n ≤ 64) (w : World) :
    Calls Try.prog 115 #[.int .i64 (n : Int)] w fun e w' => ∃ A2 c2, e = .returned (.agg (iv (p2 n) A2 c2)) ∧ IvAt w' (p2 n) A2 c2 ∧ Below w.heap.size w w' := by
  go_enter Try.func115, Try.ntmps115
  go_upto_region 1 with (fail)
  refine wp_world (fun W => W.heap[w.heap.size]? = some (.cells (iv 0 none 0) 84 (0, 0)) ∧ Below w.heap.size w W) ⟨by rw [iv_zero]; exact ha_new rfl, (Below.refl _ _).alloc (Nat.le_refl _) _⟩ ?_
  rintro W ⟨h0, hb⟩
  apply wp_region_lit
  refine wl_ck rfl (fun K hK => ?_); go_simp; refine ⟨_, _, ⟨rfl, rfl⟩, hK _ _ ⟨_, Of_any 1 (by decide) (by decide) _, ?_⟩⟩; clear hK K; rintro e w1 ⟨A1, c1, rfl, h1, hb1⟩; refine ⟨_, rfl, ?_⟩; simp only [put_lit, List.set_cons_zero, List.set_cons_succ]; replace h0 := below_look hb1 h0; replace hb := hb.trans (hb1.mono hb.size); clear hb1
  (have lth0p3 := heap_lt h0; have lsp3 := hb.size; (with_reducible apply wl_new84); intro w2 p3 hbn hlp3 hp3; replace h0 := below_look hbn h0; replace h1 := h1.below hbn; replace hb := hb.trans (hbn.mono hb.size); clear hbn)
  ((with_reducible apply wl_putI); exact rfl; exact rfl; exact hp3; intro w3 hbx hk hq hi; replace h0 := hk _ _ (by omega) h0; replace h1 := hi _ _ _ h1; replace hb := hbx _ _ (by omega) hb; clear hp3; have hp3 := hq; clear hbx hk hq hi)
  go_wp2_with fail
  go_loopw [4] (fun i wr => ∃ (k : Nat) (A2 : Option Addr) (c2 : Nat), k ≤ n ∧ i = .int .i64 (k : Int) ∧ wr.heap[p3]? = some (.cells (iv (p2 k) A2 c2) 84 (0, 0)) ∧ wr.heap[w.heap.size]? = some (.cells (iv 0 none 0) 84 (0, 0)) ∧ IvAt wr (p2 k) A2 c2 ∧ Below w.heap.size w wr) (fun i _ => (n - intOf i).toNat)
  case atStart => exact ⟨0, A1, c1, by omega, rfl, hp3, h0, h1, hb⟩
  case round =>
    clear h0 h1 hp3 hb
    obtain ⟨k, A2, c2, hk, rfl, h1, h0, hI, hb⟩ := hrel
    by_cases hlt : k < n
    · have n2 : nl (p2 k).natAbs ≤ 400 := by rw [p2_abs]; have := nl_p2 (k := k) (by omega); omega
      go_upto_region 5 with (fail)
      apply wp_region_lit
      ((with_reducible apply wl_rowG); exact rfl; exact rfl; exact rowIv (by with_reducible assumption))
      ((with_reducible apply wl_rowG); exact rfl; exact rfl; exact rowIv (by with_reducible assumption))
      refine wl_ck rfl (fun K hK => ?_); go_simp; refine ⟨_, _, ⟨rfl, rfl⟩, hK _ _ ⟨_, Sum2_any _ _ _ _ _ _ _ hI hI n2 n2, ?_⟩⟩; clear hK K; rintro e w4 ⟨A3, c3, rfl, hI2, hb1⟩; refine ⟨_, rfl, ?_⟩; simp only [put_lit, List.set_cons_zero, List.set_cons_succ]; replace h0 := below_look hb1 h0; replace h1 := below_look hb1 h1; replace hb := hb.trans (hb1.mono hb.size); clear hb1
      rw [p2_succ] at hI2 ⊢
      ((with_reducible apply wl_putI); exact rfl; exact rfl; exact h1; intro w5 hbx hk hq hi; replace h0 := hk _ _ (by omega) h0; replace hI2 := hi _ _ _ hI2; replace hb := hbx _ _ (by omega) hb; clear h1; have h1 := hq; clear hbx hk hq hi)
      clear hI n2
      go_wp2_with fail
      go_roundw
      case rel => exact ⟨k + 1, A3, c3, by omega, by go_num, h1, h0, hI2, hb⟩
      case measure => simp [intOf]; omega
    · obtain rfl : k = n := by omega
      go_upto_region 6 with (fail)
      apply wp_region_lit
      ((with_reducible apply wl_rowG); exact rfl; exact rfl; exact rowIv (by with_reducible assumption))
      ((with_reducible apply wl_putI); exact rfl; exact rfl; exact h0; intro w5 hbx hk hq hi; replace h1 := hk _ _ (by omega) h1; replace hI := hi _ _ _ hI; replace hb := hbx _ _ (by omega) hb; clear h0; have h0 := hq; clear hbx hk hq hi)
      go_wp2_with fail
      exact bodyPost_ret (res_iv rfl _ _ w.heap.size rfl h0) rfl ⟨A2, c2, rfl, hI, hb⟩
set_option maxHeartbeats 1000000 in
theorem TensI_any (n : Nat) (hn : n ≤ 36) (w : World) :
    Calls Try.prog 79 #[.int .i64 (n : Int)] w fun e w' => ∃ A2 c2, e = .returned (.agg (iv (p10I n) A2 c2)) ∧ IvAt w' (p10I n) A2 c2 ∧ Below w.heap.size w w' := by
  go_enter Try.func79, Try.ntmps79
  go_upto_region 1 with (fail)
  refine wp_world (fun W => W.heap[w.heap.size]? = some (.cells (iv 0 none 0) 84 (0, 0)) ∧ Below w.heap.size w W) ⟨by rw [iv_zero]; exact ha_new rfl, (Below.refl _ _).alloc (Nat.le_refl _) _⟩ ?_
  rintro W ⟨h0, hb⟩
  apply wp_region_lit
  refine wl_ck rfl (fun K hK => ?_); go_simp; refine ⟨_, _, ⟨rfl, rfl⟩, hK _ _ ⟨_, Of_any 1 (by decide) (by decide) _, ?_⟩⟩; clear hK K; rintro e w1 ⟨A1, c1, rfl, h1, hb1⟩; refine ⟨_, rfl, ?_⟩; simp only [put_lit, List.set_cons_zero, List.set_cons_succ]; replace h0 := below_look hb1 h0; replace hb := hb.trans (hb1.mono hb.size); clear hb1
  (have lth0p3 := heap_lt h0; have lsp3 := hb.size; (with_reducible apply wl_new84); intro w2 p3 hbn hlp3 hp3; replace h0 := below_look hbn h0; replace h1 := h1.below hbn; replace hb := hb.trans (hbn.mono hb.size); clear hbn)
  ((with_reducible apply wl_putI); exact rfl; exact rfl; exact hp3; intro w3 hbx hk hq hi; replace h0 := hk _ _ (by omega) h0; replace h1 := hi _ _ _ h1; replace hb := hbx _ _ (by omega) hb; clear hp3; have hp3 := hq; clear hbx hk hq hi)
  go_wp2_with fail
  go_loopw [4] (fun i wr => ∃ (k : Nat) (A2 : Option Addr) (c2 : Nat), k ≤ n ∧ i = .int .i64 (k : Int) ∧ wr.heap[p3]? = some (.cells (iv (p10I k) A2 c2) 84 (0, 0)) ∧ wr.heap[w.heap.size]? = some (.cells (iv 0 none 0) 84 (0, 0)) ∧ IvAt wr (p10I k) A2 c2 ∧ Below w.heap.size w wr) (fun i _ => (n - intOf i).toNat)
  case atStart => exact ⟨0, A1, c1, by omega, rfl, hp3, h0, h1, hb⟩
  case round =>
    clear h0 h1 hp3 hb
    obtain ⟨k, A2, c2, hk, rfl, h1, h0, hI, hb⟩ := hrel
    by_cases hlt : k < n
    · have n2 : nl (p10I k).natAbs ≤ 400 := by rw [p10_abs]; have := nl_p10 (k := k) (by omega); omega
      have n10 : nl (10 : Int).natAbs ≤ 400 := by
        have h : nl (10 ^ 1) ≤ 4 := nl_p10 (by omega)
        have e : (10 : Nat) ^ 1 = 10 := rfl
        rw [e] at h
        show nl 10 ≤ 400
        omega
      go_upto_region 5 with (fail)
      have hI' := hI.below (Below.refl _ wr).drew
      replace hb := hb.drew
      refine wp_region_held_drew (S := Kept [p3] wr) mixed (Kept.drew [p3] wr) (fun hS => ?_)
      refine ha_two (i := 0) (j := 1) (by kernel_rfl) ?_ ?_
      · refine sh_val (i := 0) rfl rfl (ex_row rfl (rowIv h1)) hS ?_; try simp only [put_lit, List.set_cons_zero, List.set_cons_succ]
        refine ha_call (i := 1) (by kernel_rfl) rfl rfl (fun K hK => ?_); go_simp; refine ⟨_, _, ⟨rfl, rfl⟩, hK _ _ ⟨_, Of_any 10 (by decide) (by decide) _, ?_⟩⟩; clear hK K; rintro e w4 ⟨A3, c3, rfl, hI2, hb1⟩; refine ⟨_, rfl, hS.below hb1, ?_⟩; replace hS := hS.below hb1; replace h0 := below_look hb1 h0; replace h1 := below_look hb1 h1; replace hI' := hI'.below hb1; replace hb := hb.trans (hb1.mono hb.size); clear hb1; try simp only [put_lit, List.set_cons_zero, List.set_cons_succ]
        refine ha_call (i := 2) (by kernel_rfl) rfl rfl (fun K hK => ?_); go_simp; refine ⟨_, _, ⟨rfl, rfl⟩, hK _ _ ⟨_, TimesI_any _ _ _ _ _ _ _ hI' hI2 n2 n10, ?_⟩⟩; clear hK K; rintro e w5 ⟨A4, c4, rfl, hI3, hb1⟩; refine ⟨_, rfl, hS.below hb1, ?_⟩; replace hS := hS.below hb1; replace h0 := below_look hb1 h0; replace h1 := below_look hb1 h1; replace hI' := hI'.below hb1; replace hb := hb.trans (hb1.mono hb.size); clear hb1; try simp only [put_lit, List.set_cons_zero, List.set_cons_succ]
        rw [p10_succ] at hI3 ⊢
        refine ha_store (i := 3) (by kernel_rfl) rfl rfl 84 _ _ rfl _ (iv (p10I (k + 1)) A4 c4) rfl rfl 84 _ h1 info84 rfl (iv_one _ _ _) (hS.setRow (by simp) _) (fun hS => ?_); try simp only [put_lit, List.set_cons_zero, List.set_cons_succ]
        refine wpAnyH_done (by kernel_rfl) ?_ _
        clear hI n2 hI' n10 hI2
        go_wp2_with fail
        go_roundw
        case rel => exact ⟨k + 1, A4, c4, by omega, by go_num, hr_new h1, hr_old h0 (by omega), hI3.put h1 _, below_setRow hb (by omega) _⟩
        case measure => simp [intOf]; omega
      · refine sh_call (i := 1) rfl rfl (fun K hK => ?_); go_simp; refine ⟨_, _, ⟨rfl, rfl⟩, hK _ _ ⟨_, Of_any 10 (by decide) (by decide) _, ?_⟩⟩; clear hK K; rintro e w4 ⟨A3, c3, rfl, hI2, hb1⟩; refine ⟨_, rfl, hS.below hb1, ?_⟩; replace hS := hS.below hb1; replace h0 := below_look hb1 h0; replace h1 := below_look hb1 h1; replace hI' := hI'.below hb1; replace hb := hb.trans (hb1.mono hb.size); clear hb1; try simp only [put_lit, List.set_cons_zero, List.set_cons_succ]
        refine ha_do (i := 0) (by kernel_rfl) rfl rfl (ex_row rfl (rowIv h1)) hS ?_; try simp only [put_lit, List.set_cons_zero, List.set_cons_succ]
        refine ha_call (i := 2) (by kernel_rfl) rfl rfl (fun K hK => ?_); go_simp; refine ⟨_, _, ⟨rfl, rfl⟩, hK _ _ ⟨_, TimesI_any _ _ _ _ _ _ _ hI' hI2 n2 n10, ?_⟩⟩; clear hK K; rintro e w5 ⟨A4, c4, rfl, hI3, hb1⟩; refine ⟨_, rfl, hS.below hb1, ?_⟩; replace hS := hS.below hb1; replace h0 := below_look hb1 h0; replace h1 := below_look hb1 h1; replace hI' := hI'.below hb1; replace hb := hb.trans (hb1.mono hb.size); clear hb1; try simp only [put_lit, List.set_cons_zero, List.set_cons_succ]
        rw [p10_succ] at hI3 ⊢
        refine ha_store (i := 3) (by kernel_rfl) rfl rfl 84 _ _ rfl _ (iv (p10I (k + 1)) A4 c4) rfl rfl 84 _ h1 info84 rfl (iv_one _ _ _) (hS.setRow (by simp) _) (fun hS => ?_); try simp only [put_lit, List.set_cons_zero, List.set_cons_succ]
        refine wpAnyH_done (by kernel_rfl) ?_ _
        clear hI n2 hI' n10 hI2
        go_wp2_with fail
        go_roundw
        case rel => exact ⟨k + 1, A4, c4, by omega, by go_num, hr_new h1, hr_old h0 (by omega), hI3.put h1 _, below_setRow hb (by omega) _⟩
        case measure => simp [intOf]; omega
    · obtain rfl : k = n := by omega
      go_upto_region 6 with (fail)
      apply wp_region_lit
      ((with_reducible apply wl_rowG); exact rfl; exact rfl; exact rowIv (by with_reducible assumption))
      ((with_reducible apply wl_putI); exact rfl; exact rfl; exact h0; intro w5 hbx hk hq hi; replace h1 := hk _ _ (by omega) h1; replace hI := hi _ _ _ hI; replace hb := hbx _ _ (by omega) hb; clear h0; have h0 := hq; clear hbx hk hq hi)
      go_wp2_with fail
      exact bodyPost_ret (res_iv rfl _ _ w.heap.size rfl h0) rfl ⟨A2, c2, rfl, hI, hb⟩
end Go.Proofs.Ytclainfdeghgnaa

namespace Go.Proofs.Ytclainfdeghgnaa
open Go.RowKit Go.Proofs.Ytclainfdeghgnaa.Nm Go.Proofs.Ytclainfdeghgnaa.Lm
theorem cz_np {x y : Int} (hx : ng x = true) (hy : ng y = false) : cz x y = -1 := by
  rw [ng_def] at hx hy; simp at hx hy; rw [cz_def, if_pos (by omega)]
theorem cz_pn {x y : Int} (hx : ng x = false) (hy : ng y = true) : cz x y = 1 := by
  rw [ng_def] at hx hy; simp at hx hy; rw [cz_def, if_neg (by omega), if_neg (by omega)]
theorem cz_pp {x y : Int} (hx : ng x = false) (hy : ng y = false) : cz x y = cmpN x.natAbs y.natAbs := by
  rw [ng_def] at hx hy; simp at hx hy; rw [cz_def]; unfold cmpN
  rcases Int.lt_trichotomy x y with h | h | h
  · rw [if_pos h, if_pos (by omega)]
  · rw [if_neg (by omega), if_pos h, if_neg (by omega), if_neg (by omega)]
  · rw [if_neg (by omega), if_neg (by omega), if_neg (by omega), if_pos (by omega)]
theorem cz_nn {x y : Int} (hx : ng x = true) (hy : ng y = true) : cz x y = -cmpN x.natAbs y.natAbs := by
  rw [ng_def] at hx hy; simp at hx hy; rw [cz_def]; unfold cmpN
  rcases Int.lt_trichotomy x y with h | h | h
  · rw [if_pos h, if_neg (by omega), if_pos (by omega)]
  · rw [if_neg (by omega), if_pos h, if_neg (by omega), if_neg (by omega)]; rfl
  · rw [if_neg (by omega), if_neg (by omega), if_pos (by omega)]; rfl
theorem cmpN_bd (a b : Nat) : -1 ≤ cmpN a b ∧ cmpN a b ≤ 1 := by unfold cmpN; split <;> (try split) <;> omega
set_option maxHeartbeats 1000000 in
theorem CmpI_any (x y : Int) (A A' : Option Addr) (c c' : Nat) (w : World) (hx : IvAt w x A c) (hy : IvAt w y A' c') (hn : nl x.natAbs ≤ 400) :
    Calls Try.prog 67 #[.agg (iv x A c), .agg (iv y A' c')] w fun e w' => e = .returned (.int .i64 (cz x y)) ∧ Below w.heap.size w w' := by
  have HX := Lib.hid hx
  have HY := Lib.hid hy
  clear hx hy
  cases hsx : ng x
  · cases hsy : ng y
    · have HSX := Lib.hid hsx
      have e := cz_pp hsx hsy
      obtain ⟨C, hC⟩ : ∃ C, C = cmpN x.natAbs y.natAbs := ⟨_, rfl⟩
      have hC1 := cmpN_bd x.natAbs y.natAbs
      rw [← hC] at e hC1
      have HC := Lib.hid hC
      have HE := Lib.hid e
      clear hC e
      obtain ⟨hC0, hC1⟩ := hC1
      go_enter Try.func67, Try.ntmps67
      go_upto_region 1 with (fail)
      refine wp_world (fun W => W.heap[w.heap.size]? = some (.cells (iv x A c) 84 (0, 0)) ∧ W.heap[w.heap.size + 1]? = some (.cells (iv y A' c') 84 (0, 0)) ∧ Below w.heap.size w W) ⟨ha_old (ha_new rfl), ha_new (by simp), (((Below.refl _ _).alloc (Nat.le_refl _) _).alloc (by simp) _)⟩ ?_
      rintro W ⟨h0, h1, hb⟩
      have a0 := iv0 h0
      have a1 := iv1 h0
      have b0 := iv0 h1
      have b1 := iv1 h1
      rw [hsx] at a0
      rw [hsy] at b0
      clear hsx hsy
      go_wp2_with (go_at_call 112; refine (compareN_any _ _ _ _ x.natAbs y.natAbs _ (HX.out.below hb).2 (HY.out.below hb).2 (by omega)).mono ?_; rintro e w1 ⟨rfl, hb1⟩; rw [← HC.out]; replace hb := hb.trans (hb1.mono hb.size); have c0 := iv0 (below_look hb1 h0); rw [HSX.out] at c0; clear hb1 a0 a1 b0 b1)
      go_ret
      rw [HE.out]
      exact ⟨rfl, hb⟩
    · have e := cz_pn hsx hsy
      rw [e]
      clear e
      go_enter Try.func67, Try.ntmps67
      go_upto_region 1 with (fail)
      refine wp_world (fun W => W.heap[w.heap.size]? = some (.cells (iv x A c) 84 (0, 0)) ∧ W.heap[w.heap.size + 1]? = some (.cells (iv y A' c') 84 (0, 0)) ∧ Below w.heap.size w W) ⟨ha_old (ha_new rfl), ha_new (by simp), (((Below.refl _ _).alloc (Nat.le_refl _) _).alloc (by simp) _)⟩ ?_
      rintro W ⟨h0, h1, hb⟩
      have a0 := iv0 h0
      have a1 := iv1 h0
      have b0 := iv0 h1
      have b1 := iv1 h1
      rw [hsx] at a0
      rw [hsy] at b0
      clear hsx hsy
      go_wp2_with fail
      go_ret
      exact ⟨rfl, hb⟩
  · cases hsy : ng y
    · have e := cz_np hsx hsy
      rw [e]
      clear e
      go_enter Try.func67, Try.ntmps67
      go_upto_region 1 with (fail)
      refine wp_world (fun W => W.heap[w.heap.size]? = some (.cells (iv x A c) 84 (0, 0)) ∧ W.heap[w.heap.size + 1]? = some (.cells (iv y A' c') 84 (0, 0)) ∧ Below w.heap.size w W) ⟨ha_old (ha_new rfl), ha_new (by simp), (((Below.refl _ _).alloc (Nat.le_refl _) _).alloc (by simp) _)⟩ ?_
      rintro W ⟨h0, h1, hb⟩
      have a0 := iv0 h0
      have a1 := iv1 h0
      have b0 := iv0 h1
      have b1 := iv1 h1
      rw [hsx] at a0
      rw [hsy] at b0
      clear hsx hsy
      go_wp2_with fail
      go_ret
      exact ⟨rfl, hb⟩
    · have HSX := Lib.hid hsx
      have e := cz_nn hsx hsy
      obtain ⟨C, hC⟩ : ∃ C, C = cmpN x.natAbs y.natAbs := ⟨_, rfl⟩
      have hC1 := cmpN_bd x.natAbs y.natAbs
      rw [← hC] at e hC1
      have HC := Lib.hid hC
      have HE := Lib.hid e
      clear hC e
      obtain ⟨hC0, hC1⟩ := hC1
      go_enter Try.func67, Try.ntmps67
      go_upto_region 1 with (fail)
      refine wp_world (fun W => W.heap[w.heap.size]? = some (.cells (iv x A c) 84 (0, 0)) ∧ W.heap[w.heap.size + 1]? = some (.cells (iv y A' c') 84 (0, 0)) ∧ Below w.heap.size w W) ⟨ha_old (ha_new rfl), ha_new (by simp), (((Below.refl _ _).alloc (Nat.le_refl _) _).alloc (by simp) _)⟩ ?_
      rintro W ⟨h0, h1, hb⟩
      have a0 := iv0 h0
      have a1 := iv1 h0
      have b0 := iv0 h1
      have b1 := iv1 h1
      rw [hsx] at a0
      rw [hsy] at b0
      clear hsx hsy
      go_wp2_with (go_at_call 112; refine (compareN_any _ _ _ _ x.natAbs y.natAbs _ (HX.out.below hb).2 (HY.out.below hb).2 (by omega)).mono ?_; rintro e w1 ⟨rfl, hb1⟩; rw [← HC.out]; replace hb := hb.trans (hb1.mono hb.size); have c0 := iv0 (below_look hb1 h0); rw [HSX.out] at c0; clear hb1 a0 a1 b0 b1)
      go_ret
      rw [HE.out]
      exact ⟨rfl, hb⟩
theorem emod_eq {a b : Int} (hb : 0 < b) : a % b = if a.tmod b < 0 then a.tmod b + b else a.tmod b := by
  have h1 := Int.mul_tdiv_add_tmod a b
  have h2 := Int.mul_ediv_add_emod a b
  rw [floor_eq hb] at h2
  split
  · rename_i h
    rw [if_pos h, Int.mul_add] at h2
    omega
  · rename_i h
    rw [if_neg h] at h2
    omega
set_option maxHeartbeats 2000000 in
theorem FloorI_any (x y : Int) (A A' : Option Addr) (c c' : Nat) (w : World) (hx : IvAt w x A c) (hy : IvAt w y A' c') (hn : nl x.natAbs ≤ 399) (hn' : nl y.natAbs ≤ 399) (h0y : 0 < y) :
    Calls Try.prog 114 #[.agg (iv x A c), .agg (iv y A' c')] w fun e w' => ∃ A2 c2 A3 c3, e = .returned (.tuple #[.agg (iv (x / y) A2 c2), .agg (iv (x % y) A3 c3)]) ∧ IvAt w' (x / y) A2 c2 ∧ IvAt w' (x % y) A3 c3 ∧ Below w.heap.size w w' := by
  have q1 : nl (x.tdiv y).natAbs ≤ 400 := by rw [Int.natAbs_tdiv]; exact nl_sub (Nat.div_le_self _ _) (by omega)
  have q2 : nl (x.tmod y).natAbs ≤ 400 := by rw [Int.natAbs_tmod]; exact nl_sub (Nat.mod_le _ _) (by omega)
  have q3 : nl (1 : Int).natAbs ≤ 400 := by show nl 1 ≤ 400; rw [nl_one]; omega
  replace hn : nl x.natAbs ≤ 400 := by omega
  replace hn' : nl y.natAbs ≤ 400 := by omega
  by_cases hlt : x.tmod y < 0
  · have e1 := floor_eq (a := x) h0y
    have e2 := emod_eq (a := x) h0y
    rw [if_pos hlt] at e1 e2
    rw [e1, e2]
    clear e1 e2
    have hng : ng (x.tmod y) = true := by rw [ng_def]; simpa using hlt
    have HNG := Lib.hid hng
    clear hng hlt
    have HX := Lib.hid hx
    have HY := Lib.hid hy
    have hy0 : y ≠ 0 := by omega
    have HY0 := Lib.hid hy0
    have HP := Lib.hid h0y
    clear hx hy h0y hy0
    go_enter Try.func114, Try.ntmps114
    go_upto_region 1 with (fail)
    refine wp_world (fun W => W.heap[w.heap.size]? = some (.cells (iv x A c) 84 (0, 0)) ∧ W.heap[w.heap.size + 1]? = some (.cells (iv y A' c') 84 (0, 0)) ∧ W.heap[w.heap.size + 1 + 1]? = some (.cells (iv 0 none 0) 84 (0, 0)) ∧ W.heap[w.heap.size + 1 + 1 + 1]? = some (.cells (iv 0 none 0) 84 (0, 0)) ∧ Below w.heap.size w W) ⟨ha_old (ha_old (ha_old (ha_new rfl))), ha_old (ha_old (ha_new (by simp))), by rw [iv_zero]; exact ha_old (ha_new (by simp)), by rw [iv_zero]; exact ha_new (by simp), ((((Below.refl _ _).alloc (Nat.le_refl _) _).alloc (by simp) _).alloc (by simp; omega) _).alloc (by simp; omega) _⟩ ?_
    rintro W ⟨h0, h1, h2, h3, hb⟩
    have hX := (HX.out.below hb)
    have hY := (HY.out.below hb)
    apply wp_region_lit
    ((with_reducible apply wl_rowG); exact rfl; exact rfl; exact rowIv (by with_reducible assumption))
    ((with_reducible apply wl_rowG); exact rfl; exact rfl; exact rowIv (by with_reducible assumption))
    refine wl_ck rfl (fun K hK => ?_); go_simp; refine ⟨_, _, ⟨rfl, rfl⟩, hK _ _ ⟨_, PartedI_any _ _ _ _ _ _ _ hX hY hn hn' HY0.out, ?_⟩⟩; clear hK K; rintro e w1 ⟨A2, c2, A3, c3, rfl, hQ, hR, hb1⟩; refine ⟨_, rfl, ?_⟩; simp only [put_lit, List.set_cons_zero, List.set_cons_succ]; replace h0 := below_look hb1 h0; replace h1 := below_look hb1 h1; replace h2 := below_look hb1 h2; replace h3 := below_look hb1 h3; replace hX := hX.below hb1; replace hY := hY.below hb1; replace hb := hb.trans (hb1.mono hb.size); clear hb1
    refine wl_k rfl (fun K hK => ?_); go_simp; refine hK _ ?_; clear hK K
    refine wl_k rfl (fun K hK => ?_); go_simp; refine hK _ ?_; clear hK K
    refine wl_k rfl (fun K hK => ?_); go_simp; refine hK _ ?_; clear hK K
    (have lth0p6 := heap_lt h0; have lth1p6 := heap_lt h1; have lth2p6 := heap_lt h2; have lth3p6 := heap_lt h3; have lsp6 := hb.size; (with_reducible apply wl_new84); intro w2 p6 hbn hlp6 hp6; replace h0 := below_look hbn h0; replace h1 := below_look hbn h1; replace h2 := below_look hbn h2; replace h3 := below_look hbn h3; replace hX := hX.below hbn; replace hY := hY.below hbn; replace hQ := hQ.below hbn; replace hR := hR.below hbn; replace hb := hb.trans (hbn.mono hb.size); clear hbn)
    (have lth0p7 := heap_lt h0; have lth1p7 := heap_lt h1; have lth2p7 := heap_lt h2; have lth3p7 := heap_lt h3; have lthp6p7 := heap_lt hp6; have lsp7 := hb.size; (with_reducible apply wl_new84); intro w3 p7 hbn hlp7 hp7; replace h0 := below_look hbn h0; replace h1 := below_look hbn h1; replace h2 := below_look hbn h2; replace h3 := below_look hbn h3; replace hp6 := below_look hbn hp6; replace hX := hX.below hbn; replace hY := hY.below hbn; replace hQ := hQ.below hbn; replace hR := hR.below hbn; replace hb := hb.trans (hbn.mono hb.size); clear hbn)
    ((with_reducible apply wl_putI); exact rfl; exact rfl; exact hp6; intro w4 hbx hk hq hi; replace h0 := hk _ _ (by omega) h0; replace h1 := hk _ _ (by omega) h1; replace h2 := hk _ _ (by omega) h2; replace h3 := hk _ _ (by omega) h3; replace hp7 := hk _ _ (by omega) hp7; replace hX := hi _ _ _ hX; replace hY := hi _ _ _ hY; replace hQ := hi _ _ _ hQ; replace hR := hi _ _ _ hR; replace hb := hbx _ _ (by omega) hb; clear hp6; have hp6 := hq; clear hbx hk hq hi)
    ((with_reducible apply wl_putI); exact rfl; exact rfl; exact hp7; intro w5 hbx hk hq hi; replace h0 := hk _ _ (by omega) h0; replace h1 := hk _ _ (by omega) h1; replace h2 := hk _ _ (by omega) h2; replace h3 := hk _ _ (by omega) h3; replace hp6 := hk _ _ (by omega) hp6; replace hX := hi _ _ _ hX; replace hY := hi _ _ _ hY; replace hQ := hi _ _ _ hQ; replace hR := hi _ _ _ hR; replace hb := hbx _ _ (by omega) hb; clear hp7; have hp7 := hq; clear hbx hk hq hi)
    have r0 := iv0 hp7
    rw [HNG.out] at r0
    go_upto_region 3 with (fail)
    have s0 := hQ.below (Below.refl _ w5).drew
    have s1 := hR.below (Below.refl _ w5).drew
    have s2 := hY.below (Below.refl _ w5).drew
    replace hb := hb.drew
    refine wp_region_held_drew (S := Kept [w.heap.size + 1 + 1, w.heap.size + 1 + 1 + 1] w5) mixed (Kept.drew [w.heap.size + 1 + 1, w.heap.size + 1 + 1 + 1] w5) (fun hS => ?_)
    refine ha_val (i := 0) rfl (by kernel_rfl) (by kernel_rfl) (by kernel_rfl) (fun _ _ _ h => h) hS rfl (fun w' hw' => ex_row rfl (rowIv (hw'.look hp6 (by simp <;> omega)))) ?_; try simp only [put_lit, List.set_cons_zero, List.set_cons_succ]
    refine ha_val (i := 3) rfl (by kernel_rfl) (by kernel_rfl) (by kernel_rfl) (fun _ _ _ h => h) hS rfl (fun w' hw' => ex_row rfl (rowIv (hw'.look hp7 (by simp <;> omega)))) ?_; try simp only [put_lit, List.set_cons_zero, List.set_cons_succ]
    refine ha_val (i := 4) rfl (by kernel_rfl) (by kernel_rfl) (by kernel_rfl) (fun _ _ _ h => h) hS rfl (fun w' hw' => ex_row rfl (rowIv (hw'.look h1 (by simp <;> omega)))) ?_; try simp only [put_lit, List.set_cons_zero, List.set_cons_succ]
    refine ha_call (i := 1) (by kernel_rfl) rfl rfl (fun K hK => ?_); go_simp; refine ⟨_, _, ⟨rfl, rfl⟩, hK _ _ ⟨_, Of_any 1 (by decide) (by decide) _, ?_⟩⟩; clear hK K; rintro e w6 ⟨A5, c5, rfl, s3, hb1⟩; refine ⟨_, rfl, hS.below hb1, ?_⟩; replace hS := hS.below hb1; replace h2 := below_look hb1 h2; replace h3 := below_look hb1 h3; replace s0 := s0.below hb1; replace s1 := s1.below hb1; replace s2 := s2.below hb1; replace hb := hb.trans (hb1.mono hb.size); clear hb1; try simp only [put_lit, List.set_cons_zero, List.set_cons_succ]
    refine ha_call (i := 2) (by kernel_rfl) rfl rfl (fun K hK => ?_); go_simp; refine ⟨_, _, ⟨rfl, rfl⟩, hK _ _ ⟨_, MinusI_any _ _ _ _ _ _ _ s0 s3 q1 q3, ?_⟩⟩; clear hK K; rintro e w7 ⟨A6, c6, rfl, t0, hb1⟩; refine ⟨_, rfl, hS.below hb1, ?_⟩; replace hS := hS.below hb1; replace h2 := below_look hb1 h2; replace h3 := below_look hb1 h3; replace s1 := s1.below hb1; replace s2 := s2.below hb1; replace hb := hb.trans (hb1.mono hb.size); clear hb1; try simp only [put_lit, List.set_cons_zero, List.set_cons_succ]
    refine ha_call (i := 5) (by kernel_rfl) rfl rfl (fun K hK => ?_); go_simp; refine ⟨_, _, ⟨rfl, rfl⟩, hK _ _ ⟨_, Sum2_any _ _ _ _ _ _ _ s1 s2 q2 hn', ?_⟩⟩; clear hK K; rintro e w8 ⟨A7, c7, rfl, t1, hb1⟩; refine ⟨_, rfl, hS.below hb1, ?_⟩; replace hS := hS.below hb1; replace h2 := below_look hb1 h2; replace h3 := below_look hb1 h3; replace t0 := t0.below hb1; replace hb := hb.trans (hb1.mono hb.size); clear hb1; try simp only [put_lit, List.set_cons_zero, List.set_cons_succ]
    rw [Int.sub_eq_add_neg] at t0 ⊢
    refine ha_store (i := 6) (by kernel_rfl) rfl rfl 84 _ _ rfl _ (iv (x.tdiv y + -1) A6 c6) rfl rfl 84 _ h2 info84 rfl (iv_one _ _ _) (hS.setRow (by simp) _) (fun hS => ?_); try simp only [put_lit, List.set_cons_zero, List.set_cons_succ]
    have h3' := hr_old (cs := iv (x.tdiv y + -1) A6 c6) h3 (show w.heap.size + 1 + 1 + 1 ≠ w.heap.size + 1 + 1 by omega)
    refine ha_store (i := 7) (by kernel_rfl) rfl rfl 84 _ _ rfl _ (iv (x.tmod y + y) A7 c7) rfl rfl 84 _ h3' info84 rfl (iv_one _ _ _) (hS.setRow (by simp) _) (fun hS => ?_); try simp only [put_lit, List.set_cons_zero, List.set_cons_succ]
    refine wpAnyH_done (by kernel_rfl) ?_ _
    clear q1 q2 q3
    go_wp2_with fail
    refine bodyPost_ret (res_iv2 rfl _ _ (w.heap.size + 1 + 1) (w.heap.size + 1 + 1 + 1) rfl rfl (hr_old (hr_new h2) (by omega)) (hr_new h3')) rfl ⟨A6, c6, A7, c7, rfl, (t0.put h2 _).put h3' _, (t1.put h2 _).put h3' _, below_setRow (below_setRow hb (by omega) _) (by omega) _⟩
  · have e1 := floor_eq (a := x) h0y
    have e2 := emod_eq (a := x) h0y
    rw [if_neg hlt] at e1 e2
    rw [e1, e2]
    clear e1 e2
    have hng : ng (x.tmod y) = false := by rw [ng_def]; simpa using hlt
    have HNG := Lib.hid hng
    clear hng hlt
    have HX := Lib.hid hx
    have HY := Lib.hid hy
    have hy0 : y ≠ 0 := by omega
    have HY0 := Lib.hid hy0
    have HP := Lib.hid h0y
    clear hx hy h0y hy0
    go_enter Try.func114, Try.ntmps114
    go_upto_region 1 with (fail)
    refine wp_world (fun W => W.heap[w.heap.size]? = some (.cells (iv x A c) 84 (0, 0)) ∧ W.heap[w.heap.size + 1]? = some (.cells (iv y A' c') 84 (0, 0)) ∧ W.heap[w.heap.size + 1 + 1]? = some (.cells (iv 0 none 0) 84 (0, 0)) ∧ W.heap[w.heap.size + 1 + 1 + 1]? = some (.cells (iv 0 none 0) 84 (0, 0)) ∧ Below w.heap.size w W) ⟨ha_old (ha_old (ha_old (ha_new rfl))), ha_old (ha_old (ha_new (by simp))), by rw [iv_zero]; exact ha_old (ha_new (by simp)), by rw [iv_zero]; exact ha_new (by simp), ((((Below.refl _ _).alloc (Nat.le_refl _) _).alloc (by simp) _).alloc (by simp; omega) _).alloc (by simp; omega) _⟩ ?_
    rintro W ⟨h0, h1, h2, h3, hb⟩
    have hX := (HX.out.below hb)
    have hY := (HY.out.below hb)
    apply wp_region_lit
    ((with_reducible apply wl_rowG); exact rfl; exact rfl; exact rowIv (by with_reducible assumption))
    ((with_reducible apply wl_rowG); exact rfl; exact rfl; exact rowIv (by with_reducible assumption))
    refine wl_ck rfl (fun K hK => ?_); go_simp; refine ⟨_, _, ⟨rfl, rfl⟩, hK _ _ ⟨_, PartedI_any _ _ _ _ _ _ _ hX hY hn hn' HY0.out, ?_⟩⟩; clear hK K; rintro e w1 ⟨A2, c2, A3, c3, rfl, hQ, hR, hb1⟩; refine ⟨_, rfl, ?_⟩; simp only [put_lit, List.set_cons_zero, List.set_cons_succ]; replace h0 := below_look hb1 h0; replace h1 := below_look hb1 h1; replace h2 := below_look hb1 h2; replace h3 := below_look hb1 h3; replace hX := hX.below hb1; replace hY := hY.below hb1; replace hb := hb.trans (hb1.mono hb.size); clear hb1
    refine wl_k rfl (fun K hK => ?_); go_simp; refine hK _ ?_; clear hK K
    refine wl_k rfl (fun K hK => ?_); go_simp; refine hK _ ?_; clear hK K
    refine wl_k rfl (fun K hK => ?_); go_simp; refine hK _ ?_; clear hK K
    (have lth0p6 := heap_lt h0; have lth1p6 := heap_lt h1; have lth2p6 := heap_lt h2; have lth3p6 := heap_lt h3; have lsp6 := hb.size; (with_reducible apply wl_new84); intro w2 p6 hbn hlp6 hp6; replace h0 := below_look hbn h0; replace h1 := below_look hbn h1; replace h2 := below_look hbn h2; replace h3 := below_look hbn h3; replace hX := hX.below hbn; replace hY := hY.below hbn; replace hQ := hQ.below hbn; replace hR := hR.below hbn; replace hb := hb.trans (hbn.mono hb.size); clear hbn)
    (have lth0p7 := heap_lt h0; have lth1p7 := heap_lt h1; have lth2p7 := heap_lt h2; have lth3p7 := heap_lt h3; have lthp6p7 := heap_lt hp6; have lsp7 := hb.size; (with_reducible apply wl_new84); intro w3 p7 hbn hlp7 hp7; replace h0 := below_look hbn h0; replace h1 := below_look hbn h1; replace h2 := below_look hbn h2; replace h3 := below_look hbn h3; replace hp6 := below_look hbn hp6; replace hX := hX.below hbn; replace hY := hY.below hbn; replace hQ := hQ.below hbn; replace hR := hR.below hbn; replace hb := hb.trans (hbn.mono hb.size); clear hbn)
    ((with_reducible apply wl_putI); exact rfl; exact rfl; exact hp6; intro w4 hbx hk hq hi; replace h0 := hk _ _ (by omega) h0; replace h1 := hk _ _ (by omega) h1; replace h2 := hk _ _ (by omega) h2; replace h3 := hk _ _ (by omega) h3; replace hp7 := hk _ _ (by omega) hp7; replace hX := hi _ _ _ hX; replace hY := hi _ _ _ hY; replace hQ := hi _ _ _ hQ; replace hR := hi _ _ _ hR; replace hb := hbx _ _ (by omega) hb; clear hp6; have hp6 := hq; clear hbx hk hq hi)
    ((with_reducible apply wl_putI); exact rfl; exact rfl; exact hp7; intro w5 hbx hk hq hi; replace h0 := hk _ _ (by omega) h0; replace h1 := hk _ _ (by omega) h1; replace h2 := hk _ _ (by omega) h2; replace h3 := hk _ _ (by omega) h3; replace hp6 := hk _ _ (by omega) hp6; replace hX := hi _ _ _ hX; replace hY := hi _ _ _ hY; replace hQ := hi _ _ _ hQ; replace hR := hi _ _ _ hR; replace hb := hbx _ _ (by omega) hb; clear hp7; have hp7 := hq; clear hbx hk hq hi)
    have r0 := iv0 hp7
    rw [HNG.out] at r0
    go_upto_region 4 with (fail)
    replace hb := hb.drew
    have s0 := hQ.below (Below.refl _ w5).drew
    have s1 := hR.below (Below.refl _ w5).drew
    refine wp_region_held_drew (S := Kept [w.heap.size + 1 + 1, w.heap.size + 1 + 1 + 1] w5) mixed (Kept.drew [w.heap.size + 1 + 1, w.heap.size + 1 + 1 + 1] w5) (fun hS => ?_)
    refine ha_val (i := 0) rfl (by kernel_rfl) (by kernel_rfl) (by kernel_rfl) (fun _ _ _ h => h) hS rfl (fun w' hw' => ex_row rfl (rowIv (hw'.look hp6 (by simp <;> omega)))) ?_; try simp only [put_lit, List.set_cons_zero, List.set_cons_succ]
    refine ha_val (i := 1) rfl (by kernel_rfl) (by kernel_rfl) (by kernel_rfl) (fun _ _ _ h => h) hS rfl (fun w' hw' => ex_row rfl (rowIv (hw'.look hp7 (by simp <;> omega)))) ?_; try simp only [put_lit, List.set_cons_zero, List.set_cons_succ]
    refine ha_store (i := 2) (by kernel_rfl) rfl rfl 84 _ _ rfl _ (iv (x.tdiv y) A2 c2) rfl rfl 84 _ h2 info84 rfl (iv_one _ _ _) (hS.setRow (by simp) _) (fun hS => ?_); try simp only [put_lit, List.set_cons_zero, List.set_cons_succ]
    have h3' := hr_old (w := w5.drew) (cs := iv (x.tdiv y) A2 c2) h3 (show w.heap.size + 1 + 1 + 1 ≠ w.heap.size + 1 + 1 by omega)
    refine ha_store (i := 3) (by kernel_rfl) rfl rfl 84 _ _ rfl _ (iv (x.tmod y) A3 c3) rfl rfl 84 _ h3' info84 rfl (iv_one _ _ _) (hS.setRow (by simp) _) (fun hS => ?_); try simp only [put_lit, List.set_cons_zero, List.set_cons_succ]
    refine wpAnyH_done (by kernel_rfl) ?_ _
    clear q1 q2 q3
    go_wp2_with fail
    refine bodyPost_ret (res_iv2 rfl _ _ (w.heap.size + 1 + 1) (w.heap.size + 1 + 1 + 1) rfl rfl (hr_old (hr_new h2) (by omega)) (hr_new h3')) rfl ⟨A2, c2, A3, c3, rfl, (s0.put h2 _).put h3' _, (s1.put h2 _).put h3' _, below_setRow (below_setRow hb (by omega) _) (by omega) _⟩
end Go.Proofs.Ytclainfdeghgnaa
