/- The document's ends of a width, and what lies between them. -/
import Derived.Test.YtclainfdeghgnaaV3
import Derived.Test.YtclainfdeghgnaaM3
import Derived.Test.YtclainfdeghgnaaW17
import Derived.Outline
namespace Go.Proofs.Ytclainfdeghgnaa
open Go.RowKit Go.Proofs.Ytclainfdeghgnaa.Nm Go.Proofs.Ytclainfdeghgnaa.Lm
def t2 (x : Int) : Int := ((2 ^ x.toNat : Nat) : Int)
theorem PowerT_any (x : Int) (h0 : 0 ≤ x) (h : x ≤ 64) (w : World) :
    Calls Try.prog 115 #[.int .i64 x] w fun e w' => ∃ A2 c2, e = .returned (.agg (iv (t2 x) A2 c2)) ∧ IvAt w' (t2 x) A2 c2 ∧ Below w.heap.size w w' := by
  obtain ⟨n, rfl⟩ := Int.eq_ofNat_of_zero_le h0
  exact PowerI_any n (by omega) w
theorem nl_t2 {x : Int} (h : x ≤ 64) : nl (t2 x).natAbs ≤ 3 := by
  unfold t2
  rw [Int.natAbs_natCast]; exact nl_p2 (by omega)
theorem built84y : Try.prog.built 84 [] = some (iv 0 none 0) := by rw [iv_zero]; kernel_rfl
theorem nl_one' : nl (1 : Int).natAbs ≤ 1 := by show nl 1 ≤ 1; rw [nl_one]; omega
theorem nl_zero' : nl (0 : Int).natAbs ≤ 1 := by show nl 0 ≤ 1; rw [nl_zero]; omega
theorem lo_t2 {n : Int} (h : 1 ≤ n) : 0 - t2 (n - 1) = loW n.toNat true := by
  unfold loW t2
  rw [if_pos rfl, show (n - 1).toNat = n.toNat - 1 by omega]; omega
theorem hi_t2 {n : Int} (h : 1 ≤ n) : t2 (n - 1) - 1 = hiW n.toNat true := by
  unfold hiW t2
  rw [if_pos rfl, show (n - 1).toNat = n.toNat - 1 by omega]
theorem lo_f (n : Int) : (0 : Int) = loW n.toNat false := by unfold loW; simp
theorem hi_f (n : Int) : t2 n - 1 = hiW n.toNat false := by unfold hiW t2; simp
set_option maxHeartbeats 2000000 in
set_option maxRecDepth 100000 in
theorem endsI_any (n : Int) (s : Bool) (h1 : 1 ≤ n) (h2 : n ≤ 64) (w : World) :
    Calls Try.prog 111 #[.int .i64 n, .bool s] w fun e w' => ∃ A2 c2 A3 c3, e = .returned (.tuple #[.agg (iv (loW n.toNat s) A2 c2), .agg (iv (hiW n.toNat s) A3 c3)]) ∧ IvAt w' (loW n.toNat s) A2 c2 ∧ IvAt w' (hiW n.toNat s) A3 c3 ∧ Below w.heap.size w w' := by
  cases s
  · have E1 := Lib.hid (lo_f n)
    have E2 := Lib.hid (hi_f n)
    go_enter Try.func111, Try.ntmps111
    go_upto_region 1 with (fail)
    refine wp_world (fun W => W.heap[w.heap.size]? = some (.cells (iv 0 none 0) 84 (0, 0)) ∧ W.heap[w.heap.size + 1]? = some (.cells (iv 0 none 0) 84 (0, 0)) ∧ Below w.heap.size w W) ⟨by rw [iv_zero]; exact ha_old (ha_new rfl), by rw [iv_zero]; exact ha_new (by simp), ((Below.refl _ _).alloc (Nat.le_refl _) _).alloc (by simp) _⟩ ?_
    rintro W ⟨h4, h5, hb⟩
    go_upto_region 3 with (fail)
    apply wp_region_lit
    refine wl_val rfl (ex_build 84 _ rfl (L := []) rfl built84y) ?_
    simp only [put_lit, List.set_cons_zero, List.set_cons_succ]
    refine wl_k rfl (fun K hK => ?_); go_simp; refine hK _ ?_; clear hK K
    refine wl_ck rfl (fun K hK => ?_); go_simp; refine ⟨_, _, ⟨rfl, rfl⟩, hK _ _ ⟨_, PowerT_any n (by omega) h2 _, ?_⟩⟩; clear hK K; rintro e w1 ⟨A1, c1, rfl, i1, hb1⟩; refine ⟨_, rfl, ?_⟩; simp only [put_lit, List.set_cons_zero, List.set_cons_succ]; replace h4 := below_look hb1 h4; replace h5 := below_look hb1 h5; replace hb := hb.trans (hb1.mono hb.size); clear hb1
    refine wl_ck rfl (fun K hK => ?_); go_simp; refine ⟨_, _, ⟨rfl, rfl⟩, hK _ _ ⟨_, Of_any 1 (by decide) (by decide) _, ?_⟩⟩; clear hK K; rintro e w2 ⟨A2, c2, rfl, i2, hb1⟩; refine ⟨_, rfl, ?_⟩; simp only [put_lit, List.set_cons_zero, List.set_cons_succ]; replace h4 := below_look hb1 h4; replace h5 := below_look hb1 h5; replace i1 := i1.below hb1; replace hb := hb.trans (hb1.mono hb.size); clear hb1
    refine wl_ck rfl (fun K hK => ?_); go_simp; refine ⟨_, _, ⟨rfl, rfl⟩, hK _ _ ⟨_, MinusI_any _ _ _ _ _ _ _ i1 i2 (by have := nl_t2 (x := n) h2; omega) (by have := nl_one'; omega), ?_⟩⟩; clear hK K; rintro e w3 ⟨A3, c3, rfl, i3, hb1⟩; refine ⟨_, rfl, ?_⟩; simp only [put_lit, List.set_cons_zero, List.set_cons_succ]; replace h4 := below_look hb1 h4; replace h5 := below_look hb1 h5; replace hb := hb.trans (hb1.mono hb.size); clear hb1
    have i0 : IvAt w3 0 none 0 := IvAt.zero _
    ((with_reducible apply wl_putI); exact rfl; exact rfl; exact h4; intro w4 hbx hk hq hi; replace h5 := hk _ _ (by omega) h5; replace i0 := hi _ _ _ i0; replace i3 := hi _ _ _ i3; replace hb := hbx _ _ (by omega) hb; clear h4; have h4 := hq; clear hbx hk hq hi)
    ((with_reducible apply wl_putI); exact rfl; exact rfl; exact h5; intro w5 hbx hk hq hi; replace h4 := hk _ _ (by omega) h4; replace i0 := hi _ _ _ i0; replace i3 := hi _ _ _ i3; replace hb := hbx _ _ (by omega) hb; clear h5; have h5 := hq; clear hbx hk hq hi)
    go_wp2_with fail
    rw [E2.out] at i3 h5
    refine bodyPost_ret (res_iv2 rfl _ _ w.heap.size (w.heap.size + 1) rfl rfl h4 h5) rfl ⟨none, 0, A3, c3, ?_, ?_, i3, hb⟩
    · rw [← E1.out]
    · rw [← E1.out]; exact i0
  · have E1 := Lib.hid (lo_t2 h1)
    have E2 := Lib.hid (hi_t2 h1)
    have w1 : IntKind.i64.wrap (n - 1) = n - 1 := IntWalk.i64_in _ (by omega)
    go_enter Try.func111, Try.ntmps111
    go_upto_region 1 with (fail)
    refine wp_world (fun W => W.heap[w.heap.size]? = some (.cells (iv 0 none 0) 84 (0, 0)) ∧ W.heap[w.heap.size + 1]? = some (.cells (iv 0 none 0) 84 (0, 0)) ∧ Below w.heap.size w W) ⟨by rw [iv_zero]; exact ha_old (ha_new rfl), by rw [iv_zero]; exact ha_new (by simp), ((Below.refl _ _).alloc (Nat.le_refl _) _).alloc (by simp) _⟩ ?_
    rintro W ⟨h4, h5, hb⟩
    go_upto_region 2 with (fail)
    apply wp_region_lit
    refine wl_val rfl (ex_build 84 _ rfl (L := []) rfl built84y) ?_
    simp only [put_lit, List.set_cons_zero, List.set_cons_succ]
    refine wl_k rfl (fun K hK => ?_); go_simp; refine hK _ ?_; clear hK K
    refine wl_k rfl (fun K hK => ?_); go_simp; refine hK _ ?_; clear hK K
    refine wl_ck rfl (fun K hK => ?_); go_simp; refine ⟨_, _, ⟨rfl, rfl⟩, hK _ _ ⟨_, PowerT_any (n - 1) (by omega) (by omega) _, ?_⟩⟩; clear hK K; rintro e w1 ⟨A1, c1, rfl, i1, hb1⟩; refine ⟨_, rfl, ?_⟩; simp only [put_lit, List.set_cons_zero, List.set_cons_succ]; replace h4 := below_look hb1 h4; replace h5 := below_look hb1 h5; replace hb := hb.trans (hb1.mono hb.size); clear hb1
    refine wl_ck rfl (fun K hK => ?_); go_simp; refine ⟨_, _, ⟨rfl, rfl⟩, hK _ _ ⟨_, MinusI_any 0 _ _ _ _ _ _ (IvAt.zero _) i1 (by have := nl_zero'; omega) (by have := nl_t2 (x := n - 1) (by omega); omega), ?_⟩⟩; clear hK K; rintro e w2 ⟨A2, c2, rfl, i2, hb1⟩; refine ⟨_, rfl, ?_⟩; simp only [put_lit, List.set_cons_zero, List.set_cons_succ]; replace h4 := below_look hb1 h4; replace h5 := below_look hb1 h5; replace hb := hb.trans (hb1.mono hb.size); clear hb1
    refine wl_k rfl (fun K hK => ?_); go_simp; refine hK _ ?_; clear hK K
    refine wl_k rfl (fun K hK => ?_); go_simp; refine hK _ ?_; clear hK K
    refine wl_ck rfl (fun K hK => ?_); go_simp; refine ⟨_, _, ⟨rfl, rfl⟩, hK _ _ ⟨_, PowerT_any (n - 1) (by omega) (by omega) _, ?_⟩⟩; clear hK K; rintro e w3 ⟨A3, c3, rfl, i3, hb1⟩; refine ⟨_, rfl, ?_⟩; simp only [put_lit, List.set_cons_zero, List.set_cons_succ]; replace h4 := below_look hb1 h4; replace h5 := below_look hb1 h5; replace i2 := i2.below hb1; replace hb := hb.trans (hb1.mono hb.size); clear hb1
    refine wl_ck rfl (fun K hK => ?_); go_simp; refine ⟨_, _, ⟨rfl, rfl⟩, hK _ _ ⟨_, Of_any 1 (by decide) (by decide) _, ?_⟩⟩; clear hK K; rintro e w4 ⟨A4, c4, rfl, i4, hb1⟩; refine ⟨_, rfl, ?_⟩; simp only [put_lit, List.set_cons_zero, List.set_cons_succ]; replace h4 := below_look hb1 h4; replace h5 := below_look hb1 h5; replace i2 := i2.below hb1; replace i3 := i3.below hb1; replace hb := hb.trans (hb1.mono hb.size); clear hb1
    refine wl_ck rfl (fun K hK => ?_); go_simp; refine ⟨_, _, ⟨rfl, rfl⟩, hK _ _ ⟨_, MinusI_any _ _ _ _ _ _ _ i3 i4 (by have := nl_t2 (x := n - 1) (by omega); omega) (by have := nl_one'; omega), ?_⟩⟩; clear hK K; rintro e w5 ⟨A5, c5, rfl, i5, hb1⟩; refine ⟨_, rfl, ?_⟩; simp only [put_lit, List.set_cons_zero, List.set_cons_succ]; replace h4 := below_look hb1 h4; replace h5 := below_look hb1 h5; replace i2 := i2.below hb1; replace hb := hb.trans (hb1.mono hb.size); clear hb1
    ((with_reducible apply wl_putI); exact rfl; exact rfl; exact h4; intro w6 hbx hk hq hi; replace h5 := hk _ _ (by omega) h5; replace i2 := hi _ _ _ i2; replace i5 := hi _ _ _ i5; replace hb := hbx _ _ (by omega) hb; clear h4; have h4 := hq; clear hbx hk hq hi)
    ((with_reducible apply wl_putI); exact rfl; exact rfl; exact h5; intro w7 hbx hk hq hi; replace h4 := hk _ _ (by omega) h4; replace i2 := hi _ _ _ i2; replace i5 := hi _ _ _ i5; replace hb := hbx _ _ (by omega) hb; clear h5; have h5 := hq; clear hbx hk hq hi)
    go_wp2_with fail
    rw [E2.out] at i5 h5
    try rw [Int.zero_sub] at i2
    try rw [Int.zero_sub] at h4
    have e1 := E1.out
    rw [Int.zero_sub] at e1
    rw [e1] at i2 h4
    exact bodyPost_ret (res_iv2 rfl _ _ w.heap.size (w.heap.size + 1) rfl rfl h4 h5) rfl ⟨A2, c2, A5, c5, rfl, i2, i5, hb⟩
theorem hasW_cz (n : Nat) (s : Bool) (x : Int) : hasW n s x = (decide (0 ≤ cz x (loW n s)) && decide (cz x (hiW n s) ≤ 0)) := by
  unfold hasW
  have h1 : (0 ≤ cz x (loW n s)) ↔ loW n s ≤ x := by rw [cz_def]; split <;> (try split) <;> omega
  have h2 : (cz x (hiW n s) ≤ 0) ↔ x ≤ hiW n s := by rw [cz_def]; split <;> (try split) <;> omega
  rw [Bool.eq_iff_iff]
  simp [h1, h2]
theorem nl_lo {n : Nat} (h : n ≤ 64) (s : Bool) : nl (loW n s).natAbs ≤ 3 := by
  have := lo_bd h s
  exact nl_le _ _ (Nat.lt_of_le_of_lt (show (loW n s).natAbs ≤ 9223372036854775808 by omega) (by decide))
theorem nl_hi {n : Nat} (h0 : 1 ≤ n) (h : n ≤ 64) (s : Bool) : nl (hiW n s).natAbs ≤ 3 := by
  have := hi_bd h0 h s
  exact nl_le _ _ (Nat.lt_of_le_of_lt (show (hiW n s).natAbs ≤ 18446744073709551615 by omega) (by decide))
set_option maxHeartbeats 2000000 in
set_option maxRecDepth 100000 in
theorem withinI_any (x n : Int) (s : Bool) (A : Option Addr) (c : Nat) (h1 : 1 ≤ n) (h2 : n ≤ 64) (w : World) (hI : IvAt w x A c) (nz : nl x.natAbs ≤ 400) (R : Bool) (HR : Hid (hasW n.toNat s x = R)) :
    Calls Try.prog 66 #[.agg (iv x A c), .int .i64 n, .bool s] w fun e w' => e = .returned (.bool R) ∧ Below w.heap.size w w' := by
  have HX := Lib.hid hI
  have hr := HR.out
  rw [hasW_cz] at hr
  obtain ⟨C1, hC1⟩ : ∃ C1, cz x (loW n.toNat s) = C1 := ⟨_, rfl⟩
  obtain ⟨C2, hC2⟩ : ∃ C2, cz x (hiW n.toNat s) = C2 := ⟨_, rfl⟩
  rw [hC1, hC2] at hr
  have HC1 := Lib.hid hC1
  have HC2 := Lib.hid hC2
  have HRR := Lib.hid hr
  clear hI hr hC1 hC2
  by_cases g1 : 0 ≤ C1
  · have G1 := Lib.hid g1
    clear g1
    go_enter Try.func66, Try.ntmps66
    go_upto_region 1 with (fail)
    refine wp_world (fun W => W.heap[w.heap.size]? = some (.cells (iv x A c) 84 (0, 0)) ∧ Below w.heap.size w W) ⟨ha_new rfl, (Below.refl _ _).alloc (Nat.le_refl _) _⟩ ?_
    rintro W ⟨h0, hb⟩
    have ix := HX.out.below hb
    apply wp_region_lit
    refine wl_k rfl (fun K hK => ?_); go_simp; refine hK _ ?_; clear hK K
    refine wl_k rfl (fun K hK => ?_); go_simp; refine hK _ ?_; clear hK K
    refine wl_ck rfl (fun K hK => ?_); go_simp; refine ⟨_, _, ⟨rfl, rfl⟩, hK _ _ ⟨_, endsI_any n s h1 h2 _, ?_⟩⟩; clear hK K; rintro e w1 ⟨A1, c1, A2, c2, rfl, i1, i2, hb1⟩; refine ⟨_, rfl, ?_⟩; simp only [put_lit, List.set_cons_zero, List.set_cons_succ]; replace h0 := below_look hb1 h0; replace ix := ix.below hb1; replace hb := hb.trans (hb1.mono hb.size); clear hb1
    refine wl_k rfl (fun K hK => ?_); go_simp; refine hK _ ?_; clear hK K
    refine wl_k rfl (fun K hK => ?_); go_simp; refine hK _ ?_; clear hK K
    refine wl_k rfl (fun K hK => ?_); go_simp; refine hK _ ?_; clear hK K
    (have lth0p7 := heap_lt h0; have lsp7 := hb.size; (with_reducible apply wl_new84); intro w2 p7 hbn hlp7 hp7; replace h0 := below_look hbn h0; replace ix := ix.below hbn; replace i1 := i1.below hbn; replace i2 := i2.below hbn; replace hb := hb.trans (hbn.mono hb.size); clear hbn)
    (have lth0p8 := heap_lt h0; have lthp7p8 := heap_lt hp7; have lsp8 := hb.size; (with_reducible apply wl_new84); intro w3 p8 hbn hlp8 hp8; replace h0 := below_look hbn h0; replace hp7 := below_look hbn hp7; replace ix := ix.below hbn; replace i1 := i1.below hbn; replace i2 := i2.below hbn; replace hb := hb.trans (hbn.mono hb.size); clear hbn)
    ((with_reducible apply wl_putI); exact rfl; exact rfl; exact hp7; intro w4 hbx hk hq hi; replace h0 := hk _ _ (by omega) h0; replace hp8 := hk _ _ (by omega) hp8; replace ix := hi _ _ _ ix; replace i1 := hi _ _ _ i1; replace i2 := hi _ _ _ i2; replace hb := hbx _ _ (by omega) hb; clear hp7; have hp7 := hq; clear hbx hk hq hi)
    ((with_reducible apply wl_putI); exact rfl; exact rfl; exact hp8; intro w5 hbx hk hq hi; replace h0 := hk _ _ (by omega) h0; replace hp7 := hk _ _ (by omega) hp7; replace ix := hi _ _ _ ix; replace i1 := hi _ _ _ i1; replace i2 := hi _ _ _ i2; replace hb := hbx _ _ (by omega) hb; clear hp8; have hp8 := hq; clear hbx hk hq hi)
    go_upto_region 2 with (fail)
    apply wp_region_lit
    ((with_reducible apply wl_rowG); exact rfl; exact rfl; exact rowIv (by with_reducible assumption))
    ((with_reducible apply wl_rowG); exact rfl; exact rfl; exact rowIv hp7)
    refine wl_ck rfl (fun K hK => ?_); go_simp; refine ⟨_, _, ⟨rfl, rfl⟩, hK _ _ ⟨_, CmpI_any _ _ _ _ _ _ _ ix i1 (by omega), ?_⟩⟩; clear hK K; rintro e w6 ⟨rfl, hb1⟩; refine ⟨_, rfl, ?_⟩; simp only [put_lit, List.set_cons_zero, List.set_cons_succ]; replace h0 := below_look hb1 h0; replace hp7 := below_look hb1 hp7; replace hp8 := below_look hb1 hp8; replace ix := ix.below hb1; replace i2 := i2.below hb1; replace hb := hb.trans (hb1.mono hb.size); clear hb1
    rw [HC1.out]
    have g1 := G1.out
    refine wl_k rfl (fun K hK => ?_); go_simp; refine hK _ ?_; clear hK K
    refine wl_k rfl (fun K hK => ?_); go_simp; refine hK _ ?_; clear hK K
    ((with_reducible apply wl_rowG); exact rfl; exact rfl; exact rowIv (by with_reducible assumption))
    ((with_reducible apply wl_rowG); exact rfl; exact rfl; exact rowIv hp8)
    refine wl_ck rfl (fun K hK => ?_); go_simp; refine ⟨_, _, ⟨rfl, rfl⟩, hK _ _ ⟨_, CmpI_any _ _ _ _ _ _ _ ix i2 (by omega), ?_⟩⟩; clear hK K; rintro e w7 ⟨rfl, hb1⟩; refine ⟨_, rfl, ?_⟩; simp only [put_lit, List.set_cons_zero, List.set_cons_succ]; replace h0 := below_look hb1 h0; replace hb := hb.trans (hb1.mono hb.size); clear hb1
    rw [HC2.out]
    have e : decide (C2 ≤ 0) = R := by rw [← HRR.out]; simp [g1]
    have HE := Lib.hid e
    clear e
    go_wp2_with fail
    go_ret
    rw [← HE.out]
    exact ⟨rfl, hb⟩
  · have e : false = R := by rw [← HRR.out]; simp [g1]
    have HE := Lib.hid e
    have G1 := Lib.hid g1
    clear e g1
    go_enter Try.func66, Try.ntmps66
    go_upto_region 1 with (fail)
    refine wp_world (fun W => W.heap[w.heap.size]? = some (.cells (iv x A c) 84 (0, 0)) ∧ Below w.heap.size w W) ⟨ha_new rfl, (Below.refl _ _).alloc (Nat.le_refl _) _⟩ ?_
    rintro W ⟨h0, hb⟩
    have ix := HX.out.below hb
    apply wp_region_lit
    refine wl_k rfl (fun K hK => ?_); go_simp; refine hK _ ?_; clear hK K
    refine wl_k rfl (fun K hK => ?_); go_simp; refine hK _ ?_; clear hK K
    refine wl_ck rfl (fun K hK => ?_); go_simp; refine ⟨_, _, ⟨rfl, rfl⟩, hK _ _ ⟨_, endsI_any n s h1 h2 _, ?_⟩⟩; clear hK K; rintro e w1 ⟨A1, c1, A2, c2, rfl, i1, i2, hb1⟩; refine ⟨_, rfl, ?_⟩; simp only [put_lit, List.set_cons_zero, List.set_cons_succ]; replace h0 := below_look hb1 h0; replace ix := ix.below hb1; replace hb := hb.trans (hb1.mono hb.size); clear hb1
    refine wl_k rfl (fun K hK => ?_); go_simp; refine hK _ ?_; clear hK K
    refine wl_k rfl (fun K hK => ?_); go_simp; refine hK _ ?_; clear hK K
    refine wl_k rfl (fun K hK => ?_); go_simp; refine hK _ ?_; clear hK K
    (have lth0p7 := heap_lt h0; have lsp7 := hb.size; (with_reducible apply wl_new84); intro w2 p7 hbn hlp7 hp7; replace h0 := below_look hbn h0; replace ix := ix.below hbn; replace i1 := i1.below hbn; replace i2 := i2.below hbn; replace hb := hb.trans (hbn.mono hb.size); clear hbn)
    (have lth0p8 := heap_lt h0; have lthp7p8 := heap_lt hp7; have lsp8 := hb.size; (with_reducible apply wl_new84); intro w3 p8 hbn hlp8 hp8; replace h0 := below_look hbn h0; replace hp7 := below_look hbn hp7; replace ix := ix.below hbn; replace i1 := i1.below hbn; replace i2 := i2.below hbn; replace hb := hb.trans (hbn.mono hb.size); clear hbn)
    ((with_reducible apply wl_putI); exact rfl; exact rfl; exact hp7; intro w4 hbx hk hq hi; replace h0 := hk _ _ (by omega) h0; replace hp8 := hk _ _ (by omega) hp8; replace ix := hi _ _ _ ix; replace i1 := hi _ _ _ i1; replace i2 := hi _ _ _ i2; replace hb := hbx _ _ (by omega) hb; clear hp7; have hp7 := hq; clear hbx hk hq hi)
    ((with_reducible apply wl_putI); exact rfl; exact rfl; exact hp8; intro w5 hbx hk hq hi; replace h0 := hk _ _ (by omega) h0; replace hp7 := hk _ _ (by omega) hp7; replace ix := hi _ _ _ ix; replace i1 := hi _ _ _ i1; replace i2 := hi _ _ _ i2; replace hb := hbx _ _ (by omega) hb; clear hp8; have hp8 := hq; clear hbx hk hq hi)
    go_upto_region 2 with (fail)
    apply wp_region_lit
    ((with_reducible apply wl_rowG); exact rfl; exact rfl; exact rowIv (by with_reducible assumption))
    ((with_reducible apply wl_rowG); exact rfl; exact rfl; exact rowIv hp7)
    refine wl_ck rfl (fun K hK => ?_); go_simp; refine ⟨_, _, ⟨rfl, rfl⟩, hK _ _ ⟨_, CmpI_any _ _ _ _ _ _ _ ix i1 (by omega), ?_⟩⟩; clear hK K; rintro e w6 ⟨rfl, hb1⟩; refine ⟨_, rfl, ?_⟩; simp only [put_lit, List.set_cons_zero, List.set_cons_succ]; replace h0 := below_look hb1 h0; replace hp7 := below_look hb1 hp7; replace hp8 := below_look hb1 hp8; replace ix := ix.below hb1; replace i2 := i2.below hb1; replace hb := hb.trans (hb1.mono hb.size); clear hb1
    rw [HC1.out]
    have g1 := G1.out
    go_wp2_with fail
    go_ret
    rw [← HE.out]
    exact ⟨rfl, hb⟩
set_option maxHeartbeats 400000 in
theorem isWidth_any (n : Int) (R : Bool) (HR : Hid (R = isRight n)) (w : World) :
    Calls Try.prog 63 #[.int .i64 n] w fun e w' => e = .returned (.bool R) ∧ Below w.heap.size w w' := by
  go_enter Try.func63, Try.ntmps63
  go_wp2_with fail
  all_goals
    go_ret
    refine ⟨congrArg (fun b => Ending.returned (.bool b)) (?_ : _ = R), Below.refl _ _⟩
    rw [HR.out]
    unfold isRight
    first
    | rfl
    | (simp [*]; done)
end Go.Proofs.Ytclainfdeghgnaa
