/- A quotient rounded: both signs turned. A quotient rounded, the document's, by a number below nought: the signs are turned first; by any number but nought. Quotients of decimals, the program's: whatever the arguments. A new variable that may be made at any time of a drawn region: it is taken where it comes up. Quotients of decimals, the document's; the law. -/
import Derived.Test.YtclainfdeghgnaaW29
import Derived.Test.YtclainfdeghgnaaV8
import Derived.Outline
import Derived.Test.YtclainfdeghgnaaW30
import Derived.Test.YtclainfdeghgnaaK9
namespace Go.Proofs.Ytclainfdeghgnaa
open Go.Proofs.Ytclainfdeghgnaa.Nm
theorem ng_turn {a : Int} (h : a ≠ 0) : ng (0 - a) = !ng a := by
  rw [ng_def, ng_def]
  by_cases h1 : a < 0
  · simp [h1]; omega
  · simp [h1]; omega
theorem upS_zero (L : List UInt8) (s : Bool) (q b : Nat) (hb : 0 < b) : upS L s q 0 b = false := by
  unfold upS
  split
  · simp
  · split
    · simp; omega
    · split
      · simp; omega
      · rfl
theorem roundS_turn (L : List UInt8) (a b : Int) (hb : b ≠ 0) : roundS L (0 - a) (0 - b) = roundS L a b := by
  have e1 : (0 - a).natAbs = a.natAbs := by omega
  have e2 : (0 - b).natAbs = b.natAbs := by omega
  unfold roundS
  rw [e1, e2, ng_turn hb]
  by_cases ha : a = 0
  · subst ha
    simp only [Int.natAbs_zero, Nat.zero_div, Nat.zero_mod]
    rw [upS_zero _ _ _ _ (by omega), upS_zero _ _ _ _ (by omega)]
    simp [sg]
  · rw [ng_turn ha]
    cases ng a <;> cases ng b <;> rfl
end Go.Proofs.Ytclainfdeghgnaa

namespace Go.Proofs.Ytclainfdeghgnaa
open Go.RowKit Go.Proofs.Ytclainfdeghgnaa.Nm Go.Proofs.Ytclainfdeghgnaa.Lm
theorem built84y : Try.prog.built 84 [] = some (iv 0 none 0) := by rw [iv_zero]; kernel_rfl
set_option maxHeartbeats 40000000 in
set_option maxRecDepth 100000 in
theorem roundedN_any (a b : Int) (A A' : Option Addr) (c c' : Nat) (m : ByteArray) (w : World) (hx : IvAt w a A c) (hy : IvAt w b A' c') (hn : nl a.natAbs ≤ 200) (hn' : nl b.natAbs ≤ 200) (hb0 : b < 0) (P N : Int) (HP : Hid (P = 0 - a)) (HNN : Hid (N = 0 - b)) (T : Int) (HTT : Hid (T = (((P.tmod N).natAbs + (P.tmod N).natAbs : Nat) : Int))) (HM : Hid (isRoundL m.data.toList = true)) (R : Int) (HRR : Hid (R = roundS m.data.toList P N)) :
    Calls Try.prog 81 #[.agg (iv a A c), .agg (iv b A' c'), .string m] w fun e w' => ∃ A2 c2, e = .returned (.agg (iv R A2 c2)) ∧ IvAt w' R A2 c2 ∧ Below w.heap.size w w' := by
  obtain ⟨q, hq⟩ : ∃ q, q = P.tdiv N := ⟨_, rfl⟩
  obtain ⟨r, hr⟩ : ∃ r, r = P.tmod N := ⟨_, rfl⟩
  have HQ := Lib.hid hq
  have HR := Lib.hid hr
  have HX := Lib.hid hx
  have HY := Lib.hid hy
  have HN0 := Lib.hid (And.intro hn (And.intro hn' (show nl (0 : Int).natAbs ≤ 1 by show nl 0 ≤ 1; rw [nl_zero]; omega)))
  have HN : Hid (nl P.natAbs ≤ 200 ∧ nl N.natAbs ≤ 200) := Lib.hid (by rw [HP.out, HNN.out, show (0 - a).natAbs = a.natAbs by omega, show (0 - b).natAbs = b.natAbs by omega]; exact ⟨hn, hn'⟩)
  have HB : Hid (0 < N) := Lib.hid (by rw [HNN.out]; omega)
  have ngb : ng b = true := by rw [ng_def]; simp; omega
  have HNR : Hid (nl r.natAbs ≤ 200 ∧ nl q.natAbs ≤ 200) := Lib.hid (by rw [hr, hq]; exact ⟨nl_tmod HN.out.1, nl_tdiv HN.out.1⟩)
  have HN2 : Hid (nl T.natAbs ≤ 400) := Lib.hid (by rw [HTT.out, Int.natAbs_natCast]; exact nl_two HN.out.2 (by have := HB.out; omega))
  have HTT0 := HTT
  rw [← hr] at HTT
  clear hx hy hn hn' hb0 hq hr
  go_enter Try.func81, Try.ntmps81
  go_upto_region 1 with (fail)
  refine wp_world (fun W => W.heap[w.heap.size]? = some (.cells (iv a A c) 84 (0, 0)) ∧ W.heap[w.heap.size + 1]? = some (.cells (iv b A' c') 84 (0, 0)) ∧ W.heap[w.heap.size + 1 + 1]? = some (.cells (iv 0 none 0) 84 (0, 0)) ∧ Below w.heap.size w W) ⟨ha_old (ha_old (ha_new rfl)), ha_old (ha_new (by simp)), by rw [iv_zero]; exact ha_new (by simp), (((Below.refl _ _).alloc (Nat.le_refl _) _).alloc (by simp) _).alloc (by simp; omega) _⟩ ?_
  rintro W ⟨h0, h1, h2, hb⟩
  have b0 := iv0 h1
  rw [ngb] at b0
  have hX := HX.out.below hb
  have hY := HY.out.below hb
  clear HX HY
  go_upto_region 2 with (fail)
  clear b0
  replace hX := hX.below (Below.refl _ _).drew
  replace hY := hY.below (Below.refl _ _).drew
  replace hb := hb.drew
  rename_i K hK
  have tail : ∀ (A7 : Option Addr) (c7 : Nat) (A8 : Option Addr) (c8 : Nat) (t13 t14 t15 t16 t17 t18 : Value) (wz : World), wz.heap[w.heap.size]? = some (.cells (iv P A7 c7) 84 (0, 0)) → wz.heap[w.heap.size + 1]? = some (.cells (iv N A8 c8) 84 (0, 0)) → wz.heap[w.heap.size + 1 + 1]? = some (.cells (iv 0 none 0) 84 (0, 0)) → IvAt wz P A7 c7 → IvAt wz N A8 c8 → Below w.heap.size w wz →
      K ⟨#[.agg (iv a A c), .agg (iv b A' c'), .string m, .pointer (some ⟨w.heap.size, 0, none⟩), .pointer (some ⟨w.heap.size + 1, 0, none⟩), undef, .pointer (some ⟨w.heap.size + 1 + 1, 0, none⟩), undef, undef, undef, undef, .pointer (some ⟨w.heap.size + 1, 0, none⟩), .bool true, t13, t14, t15, t16, t17, t18, undef, undef, undef, undef, undef, undef, undef, undef, undef, undef, undef, undef, undef, undef, undef, undef, undef, undef, undef, undef, undef, undef, undef, undef, undef, undef, undef, undef, undef, undef, undef, undef, undef, undef, undef, undef, undef, undef, undef, undef, undef, undef, undef, undef, undef, undef, undef, undef, undef, undef, undef, undef, undef, undef, undef, undef, undef, undef], []⟩ wz := by
    intro A7 c7 A8 c8 t13 t14 t15 t16 t17 t18 wz g0 g1 g2 gX gY gb
    apply hK
    clear hK hX hY hb h0 h1 h2
    have h0 := g0
    have h1 := g1
    have h2 := g2
    have hX := gX
    have hY := gY
    have hb := gb
    clear g0 g1 g2 gX gY gb
    have hm := HM.out
    have hs := RsOf.mk' m.data.toList (a := P) (b := N) HB.out
    rw [← HRR.out] at hs
    have h0 := fun h => up_r0 (L := m.data.toList) (a := P) (b := N) h HB.out
    have hT := HTT0.out
    have hN0 := HB.out
    unfold isRoundL at hm
    simp only [Bool.or_eq_true, beq_iff_eq] at hm
    rcases hm with ((h | h) | h) | h
    · rw [h, up_down] at hs
      have HS := Lib.hid hs
      have l1 := lit_eq h (l := [102, 108, 111, 111, 114]) rfl
      have l2 := lit_eq h (l := [104, 97, 108, 102]) rfl
      have l3 := lit_eq h (l := [101, 118, 101, 110]) rfl
      clear h hs h0 hT hN0
      go_upto_region 3 with (fail)
      apply wp_region_lit
      ((with_reducible apply wl_rowG); exact rfl; exact rfl; exact rowIv (by with_reducible assumption))
      ((with_reducible apply wl_rowG); exact rfl; exact rfl; exact rowIv (by with_reducible assumption))
      refine wl_ck rfl (fun K hK => ?_); go_simp; refine ⟨_, _, ⟨rfl, rfl⟩, hK _ _ ⟨_, PartedI_any _ _ _ _ _ _ _ hX hY (by have := HN.out; omega) (by have := HN.out; omega) (by have := HB.out; omega), ?_⟩⟩; clear hK K; rintro e w1 ⟨A2, c2, A3, c3, rfl, hQ, hR, hb1⟩; refine ⟨_, rfl, ?_⟩; simp only [put_lit, List.set_cons_zero, List.set_cons_succ]
      rw [← HQ.out, ← HR.out]
      rw [← HQ.out] at hQ
      rw [← HR.out] at hR
      replace h0 := below_look hb1 h0; replace h1 := below_look hb1 h1; replace h2 := below_look hb1 h2; replace hX := hX.below hb1; replace hY := hY.below hb1; replace hb := hb.trans (hb1.mono hb.size); clear hb1
      refine wl_k rfl (fun K hK => ?_); go_simp; refine hK _ ?_; clear hK K
      refine wl_k rfl (fun K hK => ?_); go_simp; refine hK _ ?_; clear hK K
      refine wl_k rfl (fun K hK => ?_); go_simp; refine hK _ ?_; clear hK K
      (have lth0p7 := heap_lt h0; have lth1p7 := heap_lt h1; have lth2p7 := heap_lt h2; have lsp7 := hb.size; (with_reducible apply wl_new84); intro w2 p7 hbn hlp7 hp7; replace h0 := below_look hbn h0; replace h1 := below_look hbn h1; replace h2 := below_look hbn h2; replace hX := hX.below hbn; replace hY := hY.below hbn; replace hQ := hQ.below hbn; replace hR := hR.below hbn; replace hb := hb.trans (hbn.mono hb.size); clear hbn)
      (have lth0p8 := heap_lt h0; have lth1p8 := heap_lt h1; have lth2p8 := heap_lt h2; have lthp7p8 := heap_lt hp7; have lsp8 := hb.size; (with_reducible apply wl_new84); intro w3 p8 hbn hlp8 hp8; replace h0 := below_look hbn h0; replace h1 := below_look hbn h1; replace h2 := below_look hbn h2; replace hp7 := below_look hbn hp7; replace hX := hX.below hbn; replace hY := hY.below hbn; replace hQ := hQ.below hbn; replace hR := hR.below hbn; replace hb := hb.trans (hbn.mono hb.size); clear hbn)
      ((with_reducible apply wl_putI); exact rfl; exact rfl; exact hp7; intro w4 hbx hk hq hi; replace h0 := hk _ _ (by omega) h0; replace h1 := hk _ _ (by omega) h1; replace h2 := hk _ _ (by omega) h2; replace hp8 := hk _ _ (by omega) hp8; replace hX := hi _ _ _ hX; replace hY := hi _ _ _ hY; replace hQ := hi _ _ _ hQ; replace hR := hi _ _ _ hR; replace hb := hbx _ _ (by omega) hb; clear hp7; have hp7 := hq; clear hbx hk hq hi)
      ((with_reducible apply wl_putI); exact rfl; exact rfl; exact hp8; intro w5 hbx hk hq hi; replace h0 := hk _ _ (by omega) h0; replace h1 := hk _ _ (by omega) h1; replace h2 := hk _ _ (by omega) h2; replace hp7 := hk _ _ (by omega) hp7; replace hX := hi _ _ _ hX; replace hY := hi _ _ _ hY; replace hQ := hi _ _ _ hQ; replace hR := hi _ _ _ hR; replace hb := hbx _ _ (by omega) hb; clear hp8; have hp8 := hq; clear hbx hk hq hi)
      go_upto_region 4 with (fail)
      have r1 := iv1 hp8
      apply wp_region_lit
      refine wl_k rfl (fun K hK => ?_); go_simp; refine hK _ ?_; clear hK K
      ((with_reducible apply wl_oneG); exact rfl; exact rfl; exact one82 (by with_reducible assumption))
      refine wl_k rfl (fun K hK => ?_); go_simp; refine hK _ ?_; clear hK K
      ((with_reducible apply wl_oneG); exact rfl; exact rfl; exact one82 (by with_reducible assumption))
      clear r1
      refine wl_ck rfl (fun K hK => ?_); go_simp; refine ⟨_, _, ⟨rfl, rfl⟩, hK _ _ ⟨_, plus_any _ _ _ _ _ _ r.natAbs r.natAbs _ hR.2 hR.2 (nl_spec _) (nl_spec _) (by have := HNR.out.1; omega) (by have := HNR.out.1; omega), ?_⟩⟩; clear hK K; rintro e w6 ⟨A4, c4, rfl, hc4, hl4, hb1⟩; refine ⟨_, rfl, ?_⟩; simp only [put_lit, List.set_cons_zero, List.set_cons_succ]
      replace h0 := below_look hb1 h0; replace h1 := below_look hb1 h1; replace h2 := below_look hb1 h2; replace hp7 := below_look hb1 hp7; replace hp8 := below_look hb1 hp8; replace hX := hX.below hb1; replace hY := hY.below hb1; replace hQ := hQ.below hb1; replace hR := hR.below hb1; replace hb := hb.trans (hb1.mono hb.size); clear hb1
      have hT : IvAt w6 T A4 c4 := IvAt.of _ (by rw [HTT.out]; exact Int.natAbs_natCast _) hc4 hl4
      clear hc4 hl4
      refine wl_ck rfl (fun K hK => ?_); go_simp; refine ⟨_, _, ⟨rfl, rfl⟩, hK _ _ ⟨_, signedI_any false A4 (r.natAbs + r.natAbs) c4 _, ?_⟩⟩; clear hK K; rintro e w7 ⟨rfl, hb1⟩; refine ⟨_, rfl, ?_⟩; simp only [put_lit, List.set_cons_zero, List.set_cons_succ]
      rw [show sg false (r.natAbs + r.natAbs) = T from HTT.out.symm]
      replace h0 := below_look hb1 h0; replace h1 := below_look hb1 h1; replace h2 := below_look hb1 h2; replace hp7 := below_look hb1 hp7; replace hp8 := below_look hb1 hp8; replace hX := hX.below hb1; replace hY := hY.below hb1; replace hQ := hQ.below hb1; replace hR := hR.below hb1; replace hT := hT.below hb1; replace hb := hb.trans (hb1.mono hb.size); clear hb1
      (have lth0p9 := heap_lt h0; have lth1p9 := heap_lt h1; have lth2p9 := heap_lt h2; have lthp7p9 := heap_lt hp7; have lthp8p9 := heap_lt hp8; have lsp9 := hb.size; (with_reducible apply wl_new84); intro w8 p9 hbn hlp9 hp9; replace h0 := below_look hbn h0; replace h1 := below_look hbn h1; replace h2 := below_look hbn h2; replace hp7 := below_look hbn hp7; replace hp8 := below_look hbn hp8; replace hX := hX.below hbn; replace hY := hY.below hbn; replace hQ := hQ.below hbn; replace hR := hR.below hbn; replace hT := hT.below hbn; replace hb := hb.trans (hbn.mono hb.size); clear hbn)
      ((with_reducible apply wl_putI); exact rfl; exact rfl; exact hp9; intro w9 hbx hk hq hi; replace h0 := hk _ _ (by omega) h0; replace h1 := hk _ _ (by omega) h1; replace h2 := hk _ _ (by omega) h2; replace hp7 := hk _ _ (by omega) hp7; replace hp8 := hk _ _ (by omega) hp8; replace hX := hi _ _ _ hX; replace hY := hi _ _ _ hY; replace hQ := hi _ _ _ hQ; replace hR := hi _ _ _ hR; replace hT := hi _ _ _ hT; replace hb := hbx _ _ (by omega) hb; clear hp9; have hp9 := hq; clear hbx hk hq hi)
      go_upto_region 6 with (fail)
      rw [← HQ.out, ← HR.out] at HS
      go_upto_region 14 with (fail)
      apply wp_region_lit
      ((with_reducible apply wl_rowG); exact rfl; exact rfl; exact rowIv (by with_reducible assumption))
      ((with_reducible apply wl_putI); exact rfl; exact rfl; exact h2; intro w21 hbx hk hq hi; replace hQ := hi _ _ _ hQ; replace hb := hbx _ _ (by omega) hb; clear h2; have h2 := hq; clear hbx hk hq hi)
      go_wp2_with fail
      rw [(HS.out.1 rfl)]
      exact bodyPost_ret (res_iv rfl _ _ (w.heap.size + 1 + 1) rfl h2) rfl ⟨A2, c2, rfl, hQ, hb⟩
    · rw [h, up_floor HB.out] at hs
      have HS := Lib.hid hs
      have l1 := lit_eq h (l := [102, 108, 111, 111, 114]) rfl
      have l2 := lit_eq h (l := [104, 97, 108, 102]) rfl
      have l3 := lit_eq h (l := [101, 118, 101, 110]) rfl
      clear h hs h0 hT hN0
      go_upto_region 3 with (fail)
      apply wp_region_lit
      ((with_reducible apply wl_rowG); exact rfl; exact rfl; exact rowIv (by with_reducible assumption))
      ((with_reducible apply wl_rowG); exact rfl; exact rfl; exact rowIv (by with_reducible assumption))
      refine wl_ck rfl (fun K hK => ?_); go_simp; refine ⟨_, _, ⟨rfl, rfl⟩, hK _ _ ⟨_, PartedI_any _ _ _ _ _ _ _ hX hY (by have := HN.out; omega) (by have := HN.out; omega) (by have := HB.out; omega), ?_⟩⟩; clear hK K; rintro e w1 ⟨A2, c2, A3, c3, rfl, hQ, hR, hb1⟩; refine ⟨_, rfl, ?_⟩; simp only [put_lit, List.set_cons_zero, List.set_cons_succ]
      rw [← HQ.out, ← HR.out]
      rw [← HQ.out] at hQ
      rw [← HR.out] at hR
      replace h0 := below_look hb1 h0; replace h1 := below_look hb1 h1; replace h2 := below_look hb1 h2; replace hX := hX.below hb1; replace hY := hY.below hb1; replace hb := hb.trans (hb1.mono hb.size); clear hb1
      refine wl_k rfl (fun K hK => ?_); go_simp; refine hK _ ?_; clear hK K
      refine wl_k rfl (fun K hK => ?_); go_simp; refine hK _ ?_; clear hK K
      refine wl_k rfl (fun K hK => ?_); go_simp; refine hK _ ?_; clear hK K
      (have lth0p7 := heap_lt h0; have lth1p7 := heap_lt h1; have lth2p7 := heap_lt h2; have lsp7 := hb.size; (with_reducible apply wl_new84); intro w2 p7 hbn hlp7 hp7; replace h0 := below_look hbn h0; replace h1 := below_look hbn h1; replace h2 := below_look hbn h2; replace hX := hX.below hbn; replace hY := hY.below hbn; replace hQ := hQ.below hbn; replace hR := hR.below hbn; replace hb := hb.trans (hbn.mono hb.size); clear hbn)
      (have lth0p8 := heap_lt h0; have lth1p8 := heap_lt h1; have lth2p8 := heap_lt h2; have lthp7p8 := heap_lt hp7; have lsp8 := hb.size; (with_reducible apply wl_new84); intro w3 p8 hbn hlp8 hp8; replace h0 := below_look hbn h0; replace h1 := below_look hbn h1; replace h2 := below_look hbn h2; replace hp7 := below_look hbn hp7; replace hX := hX.below hbn; replace hY := hY.below hbn; replace hQ := hQ.below hbn; replace hR := hR.below hbn; replace hb := hb.trans (hbn.mono hb.size); clear hbn)
      ((with_reducible apply wl_putI); exact rfl; exact rfl; exact hp7; intro w4 hbx hk hq hi; replace h0 := hk _ _ (by omega) h0; replace h1 := hk _ _ (by omega) h1; replace h2 := hk _ _ (by omega) h2; replace hp8 := hk _ _ (by omega) hp8; replace hX := hi _ _ _ hX; replace hY := hi _ _ _ hY; replace hQ := hi _ _ _ hQ; replace hR := hi _ _ _ hR; replace hb := hbx _ _ (by omega) hb; clear hp7; have hp7 := hq; clear hbx hk hq hi)
      ((with_reducible apply wl_putI); exact rfl; exact rfl; exact hp8; intro w5 hbx hk hq hi; replace h0 := hk _ _ (by omega) h0; replace h1 := hk _ _ (by omega) h1; replace h2 := hk _ _ (by omega) h2; replace hp7 := hk _ _ (by omega) hp7; replace hX := hi _ _ _ hX; replace hY := hi _ _ _ hY; replace hQ := hi _ _ _ hQ; replace hR := hi _ _ _ hR; replace hb := hbx _ _ (by omega) hb; clear hp8; have hp8 := hq; clear hbx hk hq hi)
      go_upto_region 4 with (fail)
      have r1 := iv1 hp8
      apply wp_region_lit
      refine wl_k rfl (fun K hK => ?_); go_simp; refine hK _ ?_; clear hK K
      ((with_reducible apply wl_oneG); exact rfl; exact rfl; exact one82 (by with_reducible assumption))
      refine wl_k rfl (fun K hK => ?_); go_simp; refine hK _ ?_; clear hK K
      ((with_reducible apply wl_oneG); exact rfl; exact rfl; exact one82 (by with_reducible assumption))
      clear r1
      refine wl_ck rfl (fun K hK => ?_); go_simp; refine ⟨_, _, ⟨rfl, rfl⟩, hK _ _ ⟨_, plus_any _ _ _ _ _ _ r.natAbs r.natAbs _ hR.2 hR.2 (nl_spec _) (nl_spec _) (by have := HNR.out.1; omega) (by have := HNR.out.1; omega), ?_⟩⟩; clear hK K; rintro e w6 ⟨A4, c4, rfl, hc4, hl4, hb1⟩; refine ⟨_, rfl, ?_⟩; simp only [put_lit, List.set_cons_zero, List.set_cons_succ]
      replace h0 := below_look hb1 h0; replace h1 := below_look hb1 h1; replace h2 := below_look hb1 h2; replace hp7 := below_look hb1 hp7; replace hp8 := below_look hb1 hp8; replace hX := hX.below hb1; replace hY := hY.below hb1; replace hQ := hQ.below hb1; replace hR := hR.below hb1; replace hb := hb.trans (hb1.mono hb.size); clear hb1
      have hT : IvAt w6 T A4 c4 := IvAt.of _ (by rw [HTT.out]; exact Int.natAbs_natCast _) hc4 hl4
      clear hc4 hl4
      refine wl_ck rfl (fun K hK => ?_); go_simp; refine ⟨_, _, ⟨rfl, rfl⟩, hK _ _ ⟨_, signedI_any false A4 (r.natAbs + r.natAbs) c4 _, ?_⟩⟩; clear hK K; rintro e w7 ⟨rfl, hb1⟩; refine ⟨_, rfl, ?_⟩; simp only [put_lit, List.set_cons_zero, List.set_cons_succ]
      rw [show sg false (r.natAbs + r.natAbs) = T from HTT.out.symm]
      replace h0 := below_look hb1 h0; replace h1 := below_look hb1 h1; replace h2 := below_look hb1 h2; replace hp7 := below_look hb1 hp7; replace hp8 := below_look hb1 hp8; replace hX := hX.below hb1; replace hY := hY.below hb1; replace hQ := hQ.below hb1; replace hR := hR.below hb1; replace hT := hT.below hb1; replace hb := hb.trans (hb1.mono hb.size); clear hb1
      (have lth0p9 := heap_lt h0; have lth1p9 := heap_lt h1; have lth2p9 := heap_lt h2; have lthp7p9 := heap_lt hp7; have lthp8p9 := heap_lt hp8; have lsp9 := hb.size; (with_reducible apply wl_new84); intro w8 p9 hbn hlp9 hp9; replace h0 := below_look hbn h0; replace h1 := below_look hbn h1; replace h2 := below_look hbn h2; replace hp7 := below_look hbn hp7; replace hp8 := below_look hbn hp8; replace hX := hX.below hbn; replace hY := hY.below hbn; replace hQ := hQ.below hbn; replace hR := hR.below hbn; replace hT := hT.below hbn; replace hb := hb.trans (hbn.mono hb.size); clear hbn)
      ((with_reducible apply wl_putI); exact rfl; exact rfl; exact hp9; intro w9 hbx hk hq hi; replace h0 := hk _ _ (by omega) h0; replace h1 := hk _ _ (by omega) h1; replace h2 := hk _ _ (by omega) h2; replace hp7 := hk _ _ (by omega) hp7; replace hp8 := hk _ _ (by omega) hp8; replace hX := hi _ _ _ hX; replace hY := hi _ _ _ hY; replace hQ := hi _ _ _ hQ; replace hR := hi _ _ _ hR; replace hT := hi _ _ _ hT; replace hb := hbx _ _ (by omega) hb; clear hp9; have hp9 := hq; clear hbx hk hq hi)
      go_upto_region 6 with (fail)
      rw [← HQ.out, ← HR.out] at HS
      have r0 := iv0 hp8
      have r1 := iv1 hp8
      cases hg : ng r
      · rw [hg] at r0 HS
        clear r1
        go_upto_region 14 with (fail)
        apply wp_region_lit
        ((with_reducible apply wl_rowG); exact rfl; exact rfl; exact rowIv (by with_reducible assumption))
        ((with_reducible apply wl_putI); exact rfl; exact rfl; exact h2; intro w21 hbx hk hq hi; replace hQ := hi _ _ _ hQ; replace hb := hbx _ _ (by omega) hb; clear h2; have h2 := hq; clear hbx hk hq hi)
        go_wp2_with fail
        rw [(HS.out.1 rfl)]
        exact bodyPost_ret (res_iv rfl _ _ (w.heap.size + 1 + 1) rfl h2) rfl ⟨A2, c2, rfl, hQ, hb⟩
      · rw [hg] at r0 HS
        have hr0 : Hid (r < 0) := Lib.hid (by rw [ng_def] at hg; simpa using hg)
        have hz := nl_pos' (n := r.natAbs) (by have := hr0.out; omega)
        clear hg
        go_upto_region 16 with (fail)
        clear r0 r1
        replace hQ := hQ.below (Below.refl _ _).drew
        replace hb := hb.drew
        have HRR := Lib.hid ((HS.out.2 rfl).1 hr0.out)
        have n1 : nl (1 : Int).natAbs ≤ 1 := (by show nl 1 ≤ 1; rw [nl_one]; omega)
        refine wp_region_held_drew (S := Kept [w.heap.size + 1 + 1] w9) mixed (Kept.drew [w.heap.size + 1 + 1] w9) (fun hS => ?_)
        refine ha_val (i := 0) rfl (by kernel_rfl) (by kernel_rfl) (by kernel_rfl) (fun _ _ _ h => h) hS rfl (fun w' hw' => ex_row rfl (rowIv (hw'.look hp7 (by simp <;> omega)))) ?_; try simp only [put_lit, List.set_cons_zero, List.set_cons_succ]
        refine ha_call (i := 1) (by kernel_rfl) rfl rfl (fun K hK => ?_); go_simp; refine ⟨_, _, ⟨rfl, rfl⟩, hK _ _ ⟨_, Of_any 1 (by decide) (by decide) _, ?_⟩⟩; clear hK K; rintro e w20 ⟨A5, c5, rfl, hO, hb1⟩; refine ⟨_, rfl, hS.below hb1, ?_⟩; replace hS := hS.below hb1; replace h2 := below_look hb1 h2; replace hQ := hQ.below hb1; replace hb := hb.trans (hb1.mono hb.size); clear hb1; try simp only [put_lit, List.set_cons_zero, List.set_cons_succ]
        refine ha_call (i := 2) (by kernel_rfl) rfl rfl (fun K hK => ?_); go_simp; refine ⟨_, _, ⟨rfl, rfl⟩, hK _ _ ⟨_, MinusI_any q 1 _ _ _ _ _ hQ hO (by have := HNR.out.2; omega) (by omega), ?_⟩⟩; clear hK K; rintro e w21 ⟨A6, c6, rfl, hI, hb1⟩; refine ⟨_, rfl, hS.below hb1, ?_⟩; replace hS := hS.below hb1; replace h2 := below_look hb1 h2; replace hb := hb.trans (hb1.mono hb.size); clear hb1; try simp only [put_lit, List.set_cons_zero, List.set_cons_succ]
        refine ha_store (i := 3) (by kernel_rfl) rfl rfl 84 _ _ rfl _ (iv (q - 1) A6 c6) rfl rfl 84 _ h2 info84 rfl (iv_one _ _ _) (hS.setRow (by simp) _) (fun hS => ?_); try simp only [put_lit, List.set_cons_zero, List.set_cons_succ]
        refine wpAnyH_done (by kernel_rfl) ?_ _
        go_wp2_with fail
        rw [HRR.out]
        exact bodyPost_ret (res_iv rfl _ _ (w.heap.size + 1 + 1) rfl (hr_new h2)) rfl ⟨A6, c6, rfl, hI.put h2 _, below_setRow hb (by omega) _⟩
    · rw [h] at hs h0
      have HS := Lib.hid hs
      have HU := Lib.hid h0
      obtain ⟨C, hC⟩ : ∃ C, C = cz T N := ⟨_, rfl⟩
      have hU := up_half (a := P) HB.out hT
      rw [← hC] at hU
      have HC := Lib.hid hC
      clear hC
      obtain ⟨U, hUU⟩ : ∃ U, U = upB [104, 97, 108, 102] P N := ⟨_, rfl⟩
      rw [← hUU] at HS HU hU
      clear hUU
      have l1 := lit_eq h (l := [102, 108, 111, 111, 114]) rfl
      have l2 := lit_eq h (l := [104, 97, 108, 102]) rfl
      have l3 := lit_eq h (l := [101, 118, 101, 110]) rfl
      clear h hs h0 hT hN0
      go_upto_region 3 with (fail)
      apply wp_region_lit
      ((with_reducible apply wl_rowG); exact rfl; exact rfl; exact rowIv (by with_reducible assumption))
      ((with_reducible apply wl_rowG); exact rfl; exact rfl; exact rowIv (by with_reducible assumption))
      refine wl_ck rfl (fun K hK => ?_); go_simp; refine ⟨_, _, ⟨rfl, rfl⟩, hK _ _ ⟨_, PartedI_any _ _ _ _ _ _ _ hX hY (by have := HN.out; omega) (by have := HN.out; omega) (by have := HB.out; omega), ?_⟩⟩; clear hK K; rintro e w1 ⟨A2, c2, A3, c3, rfl, hQ, hR, hb1⟩; refine ⟨_, rfl, ?_⟩; simp only [put_lit, List.set_cons_zero, List.set_cons_succ]
      rw [← HQ.out, ← HR.out]
      rw [← HQ.out] at hQ
      rw [← HR.out] at hR
      replace h0 := below_look hb1 h0; replace h1 := below_look hb1 h1; replace h2 := below_look hb1 h2; replace hX := hX.below hb1; replace hY := hY.below hb1; replace hb := hb.trans (hb1.mono hb.size); clear hb1
      refine wl_k rfl (fun K hK => ?_); go_simp; refine hK _ ?_; clear hK K
      refine wl_k rfl (fun K hK => ?_); go_simp; refine hK _ ?_; clear hK K
      refine wl_k rfl (fun K hK => ?_); go_simp; refine hK _ ?_; clear hK K
      (have lth0p7 := heap_lt h0; have lth1p7 := heap_lt h1; have lth2p7 := heap_lt h2; have lsp7 := hb.size; (with_reducible apply wl_new84); intro w2 p7 hbn hlp7 hp7; replace h0 := below_look hbn h0; replace h1 := below_look hbn h1; replace h2 := below_look hbn h2; replace hX := hX.below hbn; replace hY := hY.below hbn; replace hQ := hQ.below hbn; replace hR := hR.below hbn; replace hb := hb.trans (hbn.mono hb.size); clear hbn)
      (have lth0p8 := heap_lt h0; have lth1p8 := heap_lt h1; have lth2p8 := heap_lt h2; have lthp7p8 := heap_lt hp7; have lsp8 := hb.size; (with_reducible apply wl_new84); intro w3 p8 hbn hlp8 hp8; replace h0 := below_look hbn h0; replace h1 := below_look hbn h1; replace h2 := below_look hbn h2; replace hp7 := below_look hbn hp7; replace hX := hX.below hbn; replace hY := hY.below hbn; replace hQ := hQ.below hbn; replace hR := hR.below hbn; replace hb := hb.trans (hbn.mono hb.size); clear hbn)
      ((with_reducible apply wl_putI); exact rfl; exact rfl; exact hp7; intro w4 hbx hk hq hi; replace h0 := hk _ _ (by omega) h0; replace h1 := hk _ _ (by omega) h1; replace h2 := hk _ _ (by omega) h2; replace hp8 := hk _ _ (by omega) hp8; replace hX := hi _ _ _ hX; replace hY := hi _ _ _ hY; replace hQ := hi _ _ _ hQ; replace hR := hi _ _ _ hR; replace hb := hbx _ _ (by omega) hb; clear hp7; have hp7 := hq; clear hbx hk hq hi)
      ((with_reducible apply wl_putI); exact rfl; exact rfl; exact hp8; intro w5 hbx hk hq hi; replace h0 := hk _ _ (by omega) h0; replace h1 := hk _ _ (by omega) h1; replace h2 := hk _ _ (by omega) h2; replace hp7 := hk _ _ (by omega) hp7; replace hX := hi _ _ _ hX; replace hY := hi _ _ _ hY; replace hQ := hi _ _ _ hQ; replace hR := hi _ _ _ hR; replace hb := hbx _ _ (by omega) hb; clear hp8; have hp8 := hq; clear hbx hk hq hi)
      go_upto_region 4 with (fail)
      have r1 := iv1 hp8
      apply wp_region_lit
      refine wl_k rfl (fun K hK => ?_); go_simp; refine hK _ ?_; clear hK K
      ((with_reducible apply wl_oneG); exact rfl; exact rfl; exact one82 (by with_reducible assumption))
      refine wl_k rfl (fun K hK => ?_); go_simp; refine hK _ ?_; clear hK K
      ((with_reducible apply wl_oneG); exact rfl; exact rfl; exact one82 (by with_reducible assumption))
      clear r1
      refine wl_ck rfl (fun K hK => ?_); go_simp; refine ⟨_, _, ⟨rfl, rfl⟩, hK _ _ ⟨_, plus_any _ _ _ _ _ _ r.natAbs r.natAbs _ hR.2 hR.2 (nl_spec _) (nl_spec _) (by have := HNR.out.1; omega) (by have := HNR.out.1; omega), ?_⟩⟩; clear hK K; rintro e w6 ⟨A4, c4, rfl, hc4, hl4, hb1⟩; refine ⟨_, rfl, ?_⟩; simp only [put_lit, List.set_cons_zero, List.set_cons_succ]
      replace h0 := below_look hb1 h0; replace h1 := below_look hb1 h1; replace h2 := below_look hb1 h2; replace hp7 := below_look hb1 hp7; replace hp8 := below_look hb1 hp8; replace hX := hX.below hb1; replace hY := hY.below hb1; replace hQ := hQ.below hb1; replace hR := hR.below hb1; replace hb := hb.trans (hb1.mono hb.size); clear hb1
      have hT : IvAt w6 T A4 c4 := IvAt.of _ (by rw [HTT.out]; exact Int.natAbs_natCast _) hc4 hl4
      clear hc4 hl4
      refine wl_ck rfl (fun K hK => ?_); go_simp; refine ⟨_, _, ⟨rfl, rfl⟩, hK _ _ ⟨_, signedI_any false A4 (r.natAbs + r.natAbs) c4 _, ?_⟩⟩; clear hK K; rintro e w7 ⟨rfl, hb1⟩; refine ⟨_, rfl, ?_⟩; simp only [put_lit, List.set_cons_zero, List.set_cons_succ]
      rw [show sg false (r.natAbs + r.natAbs) = T from HTT.out.symm]
      replace h0 := below_look hb1 h0; replace h1 := below_look hb1 h1; replace h2 := below_look hb1 h2; replace hp7 := below_look hb1 hp7; replace hp8 := below_look hb1 hp8; replace hX := hX.below hb1; replace hY := hY.below hb1; replace hQ := hQ.below hb1; replace hR := hR.below hb1; replace hT := hT.below hb1; replace hb := hb.trans (hb1.mono hb.size); clear hb1
      (have lth0p9 := heap_lt h0; have lth1p9 := heap_lt h1; have lth2p9 := heap_lt h2; have lthp7p9 := heap_lt hp7; have lthp8p9 := heap_lt hp8; have lsp9 := hb.size; (with_reducible apply wl_new84); intro w8 p9 hbn hlp9 hp9; replace h0 := below_look hbn h0; replace h1 := below_look hbn h1; replace h2 := below_look hbn h2; replace hp7 := below_look hbn hp7; replace hp8 := below_look hbn hp8; replace hX := hX.below hbn; replace hY := hY.below hbn; replace hQ := hQ.below hbn; replace hR := hR.below hbn; replace hT := hT.below hbn; replace hb := hb.trans (hbn.mono hb.size); clear hbn)
      ((with_reducible apply wl_putI); exact rfl; exact rfl; exact hp9; intro w9 hbx hk hq hi; replace h0 := hk _ _ (by omega) h0; replace h1 := hk _ _ (by omega) h1; replace h2 := hk _ _ (by omega) h2; replace hp7 := hk _ _ (by omega) hp7; replace hp8 := hk _ _ (by omega) hp8; replace hX := hi _ _ _ hX; replace hY := hi _ _ _ hY; replace hQ := hi _ _ _ hQ; replace hR := hi _ _ _ hR; replace hT := hi _ _ _ hT; replace hb := hbx _ _ (by omega) hb; clear hp9; have hp9 := hq; clear hbx hk hq hi)
      go_upto_region 6 with (fail)
      rw [← HQ.out, ← HR.out] at HS
      rw [← HR.out] at HU
      go_upto_region 10 with (fail)
      apply wp_region_lit
      ((with_reducible apply wl_rowG); exact rfl; exact rfl; exact rowIv (by with_reducible assumption))
      ((with_reducible apply wl_rowG); exact rfl; exact rfl; exact rowIv (by with_reducible assumption))
      refine wl_ck rfl (fun K hK => ?_); go_simp; refine ⟨_, _, ⟨rfl, rfl⟩, hK _ _ ⟨_, CmpI_any _ _ _ _ _ _ _ hT hY HN2.out, ?_⟩⟩; clear hK K; rintro e w10 ⟨rfl, hb1⟩; refine ⟨_, rfl, ?_⟩; simp only [put_lit, List.set_cons_zero, List.set_cons_succ]
      replace h0 := below_look hb1 h0; replace h1 := below_look hb1 h1; replace h2 := below_look hb1 h2; replace hp7 := below_look hb1 hp7; replace hp8 := below_look hb1 hp8; replace hp9 := below_look hb1 hp9; replace hX := hX.below hb1; replace hY := hY.below hb1; replace hQ := hQ.below hb1; replace hR := hR.below hb1; replace hT := hT.below hb1; replace hb := hb.trans (hb1.mono hb.size); clear hb1
      rw [← HC.out]
      have r0 := iv0 hp8
      have r1 := iv1 hp8
      cases U
      · have hc : ¬ 0 ≤ C := by simpa using hU
        clear hU
        go_upto_region 14 with (fail)
        apply wp_region_lit
        ((with_reducible apply wl_rowG); exact rfl; exact rfl; exact rowIv (by with_reducible assumption))
        ((with_reducible apply wl_putI); exact rfl; exact rfl; exact h2; intro w21 hbx hk hq hi; replace hQ := hi _ _ _ hQ; replace hb := hbx _ _ (by omega) hb; clear h2; have h2 := hq; clear hbx hk hq hi)
        go_wp2_with fail
        rw [(HS.out.1 rfl)]
        exact bodyPost_ret (res_iv rfl _ _ (w.heap.size + 1 + 1) rfl h2) rfl ⟨A2, c2, rfl, hQ, hb⟩
      · have hc : 0 ≤ C := by simpa using hU
        clear hU
        by_cases hs : r < 0
        · have hr0 := Lib.hid hs
          have hg : ng r = true := by rw [ng_def]; simpa using hs
          rw [hg] at r0
          have hz := nl_pos' (n := r.natAbs) (by omega)
          clear hg hs
          go_upto_region 16 with (fail)
          clear r0 r1
          replace hQ := hQ.below (Below.refl _ _).drew
          replace hb := hb.drew
          have HRR := Lib.hid ((HS.out.2 rfl).1 hr0.out)
          have n1 : nl (1 : Int).natAbs ≤ 1 := (by show nl 1 ≤ 1; rw [nl_one]; omega)
          refine wp_region_held_drew (S := Kept [w.heap.size + 1 + 1] w10) mixed (Kept.drew [w.heap.size + 1 + 1] w10) (fun hS => ?_)
          refine ha_val (i := 0) rfl (by kernel_rfl) (by kernel_rfl) (by kernel_rfl) (fun _ _ _ h => h) hS rfl (fun w' hw' => ex_row rfl (rowIv (hw'.look hp7 (by simp <;> omega)))) ?_; try simp only [put_lit, List.set_cons_zero, List.set_cons_succ]
          refine ha_call (i := 1) (by kernel_rfl) rfl rfl (fun K hK => ?_); go_simp; refine ⟨_, _, ⟨rfl, rfl⟩, hK _ _ ⟨_, Of_any 1 (by decide) (by decide) _, ?_⟩⟩; clear hK K; rintro e w20 ⟨A5, c5, rfl, hO, hb1⟩; refine ⟨_, rfl, hS.below hb1, ?_⟩; replace hS := hS.below hb1; replace h2 := below_look hb1 h2; replace hQ := hQ.below hb1; replace hb := hb.trans (hb1.mono hb.size); clear hb1; try simp only [put_lit, List.set_cons_zero, List.set_cons_succ]
          refine ha_call (i := 2) (by kernel_rfl) rfl rfl (fun K hK => ?_); go_simp; refine ⟨_, _, ⟨rfl, rfl⟩, hK _ _ ⟨_, MinusI_any q 1 _ _ _ _ _ hQ hO (by have := HNR.out.2; omega) (by omega), ?_⟩⟩; clear hK K; rintro e w21 ⟨A6, c6, rfl, hI, hb1⟩; refine ⟨_, rfl, hS.below hb1, ?_⟩; replace hS := hS.below hb1; replace h2 := below_look hb1 h2; replace hb := hb.trans (hb1.mono hb.size); clear hb1; try simp only [put_lit, List.set_cons_zero, List.set_cons_succ]
          refine ha_store (i := 3) (by kernel_rfl) rfl rfl 84 _ _ rfl _ (iv (q - 1) A6 c6) rfl rfl 84 _ h2 info84 rfl (iv_one _ _ _) (hS.setRow (by simp) _) (fun hS => ?_); try simp only [put_lit, List.set_cons_zero, List.set_cons_succ]
          refine wpAnyH_done (by kernel_rfl) ?_ _
          go_wp2_with fail
          rw [HRR.out]
          exact bodyPost_ret (res_iv rfl _ _ (w.heap.size + 1 + 1) rfl (hr_new h2)) rfl ⟨A6, c6, rfl, hI.put h2 _, below_setRow hb (by omega) _⟩
        · have hr0 : Hid (0 < r) := Lib.hid (by have := HU.out rfl; omega)
          have hg : ng r = false := by rw [ng_def]; simpa using hs
          rw [hg] at r0
          have hz := nl_pos' (n := r.natAbs) (by have := hr0.out; omega)
          clear hg hs
          go_upto_region 17 with (fail)
          clear r0 r1
          replace hQ := hQ.below (Below.refl _ _).drew
          replace hb := hb.drew
          have HRR := Lib.hid ((HS.out.2 rfl).2 hr0.out)
          have n1 : nl (1 : Int).natAbs ≤ 1 := (by show nl 1 ≤ 1; rw [nl_one]; omega)
          refine wp_region_held_drew (S := Kept [w.heap.size + 1 + 1] w10) mixed (Kept.drew [w.heap.size + 1 + 1] w10) (fun hS => ?_)
          refine ha_val (i := 0) rfl (by kernel_rfl) (by kernel_rfl) (by kernel_rfl) (fun _ _ _ h => h) hS rfl (fun w' hw' => ex_row rfl (rowIv (hw'.look hp7 (by simp <;> omega)))) ?_; try simp only [put_lit, List.set_cons_zero, List.set_cons_succ]
          refine ha_call (i := 1) (by kernel_rfl) rfl rfl (fun K hK => ?_); go_simp; refine ⟨_, _, ⟨rfl, rfl⟩, hK _ _ ⟨_, Of_any 1 (by decide) (by decide) _, ?_⟩⟩; clear hK K; rintro e w20 ⟨A5, c5, rfl, hO, hb1⟩; refine ⟨_, rfl, hS.below hb1, ?_⟩; replace hS := hS.below hb1; replace h2 := below_look hb1 h2; replace hQ := hQ.below hb1; replace hb := hb.trans (hb1.mono hb.size); clear hb1; try simp only [put_lit, List.set_cons_zero, List.set_cons_succ]
          refine ha_call (i := 2) (by kernel_rfl) rfl rfl (fun K hK => ?_); go_simp; refine ⟨_, _, ⟨rfl, rfl⟩, hK _ _ ⟨_, Sum2_any q 1 _ _ _ _ _ hQ hO (by have := HNR.out.2; omega) (by omega), ?_⟩⟩; clear hK K; rintro e w21 ⟨A6, c6, rfl, hI, hb1⟩; refine ⟨_, rfl, hS.below hb1, ?_⟩; replace hS := hS.below hb1; replace h2 := below_look hb1 h2; replace hb := hb.trans (hb1.mono hb.size); clear hb1; try simp only [put_lit, List.set_cons_zero, List.set_cons_succ]
          refine ha_store (i := 3) (by kernel_rfl) rfl rfl 84 _ _ rfl _ (iv (q + 1) A6 c6) rfl rfl 84 _ h2 info84 rfl (iv_one _ _ _) (hS.setRow (by simp) _) (fun hS => ?_); try simp only [put_lit, List.set_cons_zero, List.set_cons_succ]
          refine wpAnyH_done (by kernel_rfl) ?_ _
          go_wp2_with fail
          rw [HRR.out]
          exact bodyPost_ret (res_iv rfl _ _ (w.heap.size + 1 + 1) rfl (hr_new h2)) rfl ⟨A6, c6, rfl, hI.put h2 _, below_setRow hb (by omega) _⟩
    · rw [h] at hs h0
      have e := up_even P N
      by_cases h1 : T < N
      · rw [e, decide_eq_false (by omega), decide_eq_false (by omega)] at hs
        have HS := Lib.hid hs
        have HC : Hid (-1 = cz T N) := Lib.hid (by rw [cz_def, if_pos h1])
        clear e h1
        have l1 := lit_eq h (l := [102, 108, 111, 111, 114]) rfl
        have l2 := lit_eq h (l := [104, 97, 108, 102]) rfl
        have l3 := lit_eq h (l := [101, 118, 101, 110]) rfl
        clear h hs h0 hT hN0
        go_upto_region 3 with (fail)
        apply wp_region_lit
        ((with_reducible apply wl_rowG); exact rfl; exact rfl; exact rowIv (by with_reducible assumption))
        ((with_reducible apply wl_rowG); exact rfl; exact rfl; exact rowIv (by with_reducible assumption))
        refine wl_ck rfl (fun K hK => ?_); go_simp; refine ⟨_, _, ⟨rfl, rfl⟩, hK _ _ ⟨_, PartedI_any _ _ _ _ _ _ _ hX hY (by have := HN.out; omega) (by have := HN.out; omega) (by have := HB.out; omega), ?_⟩⟩; clear hK K; rintro e w1 ⟨A2, c2, A3, c3, rfl, hQ, hR, hb1⟩; refine ⟨_, rfl, ?_⟩; simp only [put_lit, List.set_cons_zero, List.set_cons_succ]
        rw [← HQ.out, ← HR.out]
        rw [← HQ.out] at hQ
        rw [← HR.out] at hR
        replace h0 := below_look hb1 h0; replace h1 := below_look hb1 h1; replace h2 := below_look hb1 h2; replace hX := hX.below hb1; replace hY := hY.below hb1; replace hb := hb.trans (hb1.mono hb.size); clear hb1
        refine wl_k rfl (fun K hK => ?_); go_simp; refine hK _ ?_; clear hK K
        refine wl_k rfl (fun K hK => ?_); go_simp; refine hK _ ?_; clear hK K
        refine wl_k rfl (fun K hK => ?_); go_simp; refine hK _ ?_; clear hK K
        (have lth0p7 := heap_lt h0; have lth1p7 := heap_lt h1; have lth2p7 := heap_lt h2; have lsp7 := hb.size; (with_reducible apply wl_new84); intro w2 p7 hbn hlp7 hp7; replace h0 := below_look hbn h0; replace h1 := below_look hbn h1; replace h2 := below_look hbn h2; replace hX := hX.below hbn; replace hY := hY.below hbn; replace hQ := hQ.below hbn; replace hR := hR.below hbn; replace hb := hb.trans (hbn.mono hb.size); clear hbn)
        (have lth0p8 := heap_lt h0; have lth1p8 := heap_lt h1; have lth2p8 := heap_lt h2; have lthp7p8 := heap_lt hp7; have lsp8 := hb.size; (with_reducible apply wl_new84); intro w3 p8 hbn hlp8 hp8; replace h0 := below_look hbn h0; replace h1 := below_look hbn h1; replace h2 := below_look hbn h2; replace hp7 := below_look hbn hp7; replace hX := hX.below hbn; replace hY := hY.below hbn; replace hQ := hQ.below hbn; replace hR := hR.below hbn; replace hb := hb.trans (hbn.mono hb.size); clear hbn)
        ((with_reducible apply wl_putI); exact rfl; exact rfl; exact hp7; intro w4 hbx hk hq hi; replace h0 := hk _ _ (by omega) h0; replace h1 := hk _ _ (by omega) h1; replace h2 := hk _ _ (by omega) h2; replace hp8 := hk _ _ (by omega) hp8; replace hX := hi _ _ _ hX; replace hY := hi _ _ _ hY; replace hQ := hi _ _ _ hQ; replace hR := hi _ _ _ hR; replace hb := hbx _ _ (by omega) hb; clear hp7; have hp7 := hq; clear hbx hk hq hi)
        ((with_reducible apply wl_putI); exact rfl; exact rfl; exact hp8; intro w5 hbx hk hq hi; replace h0 := hk _ _ (by omega) h0; replace h1 := hk _ _ (by omega) h1; replace h2 := hk _ _ (by omega) h2; replace hp7 := hk _ _ (by omega) hp7; replace hX := hi _ _ _ hX; replace hY := hi _ _ _ hY; replace hQ := hi _ _ _ hQ; replace hR := hi _ _ _ hR; replace hb := hbx _ _ (by omega) hb; clear hp8; have hp8 := hq; clear hbx hk hq hi)
        go_upto_region 4 with (fail)
        have r1 := iv1 hp8
        apply wp_region_lit
        refine wl_k rfl (fun K hK => ?_); go_simp; refine hK _ ?_; clear hK K
        ((with_reducible apply wl_oneG); exact rfl; exact rfl; exact one82 (by with_reducible assumption))
        refine wl_k rfl (fun K hK => ?_); go_simp; refine hK _ ?_; clear hK K
        ((with_reducible apply wl_oneG); exact rfl; exact rfl; exact one82 (by with_reducible assumption))
        clear r1
        refine wl_ck rfl (fun K hK => ?_); go_simp; refine ⟨_, _, ⟨rfl, rfl⟩, hK _ _ ⟨_, plus_any _ _ _ _ _ _ r.natAbs r.natAbs _ hR.2 hR.2 (nl_spec _) (nl_spec _) (by have := HNR.out.1; omega) (by have := HNR.out.1; omega), ?_⟩⟩; clear hK K; rintro e w6 ⟨A4, c4, rfl, hc4, hl4, hb1⟩; refine ⟨_, rfl, ?_⟩; simp only [put_lit, List.set_cons_zero, List.set_cons_succ]
        replace h0 := below_look hb1 h0; replace h1 := below_look hb1 h1; replace h2 := below_look hb1 h2; replace hp7 := below_look hb1 hp7; replace hp8 := below_look hb1 hp8; replace hX := hX.below hb1; replace hY := hY.below hb1; replace hQ := hQ.below hb1; replace hR := hR.below hb1; replace hb := hb.trans (hb1.mono hb.size); clear hb1
        have hT : IvAt w6 T A4 c4 := IvAt.of _ (by rw [HTT.out]; exact Int.natAbs_natCast _) hc4 hl4
        clear hc4 hl4
        refine wl_ck rfl (fun K hK => ?_); go_simp; refine ⟨_, _, ⟨rfl, rfl⟩, hK _ _ ⟨_, signedI_any false A4 (r.natAbs + r.natAbs) c4 _, ?_⟩⟩; clear hK K; rintro e w7 ⟨rfl, hb1⟩; refine ⟨_, rfl, ?_⟩; simp only [put_lit, List.set_cons_zero, List.set_cons_succ]
        rw [show sg false (r.natAbs + r.natAbs) = T from HTT.out.symm]
        replace h0 := below_look hb1 h0; replace h1 := below_look hb1 h1; replace h2 := below_look hb1 h2; replace hp7 := below_look hb1 hp7; replace hp8 := below_look hb1 hp8; replace hX := hX.below hb1; replace hY := hY.below hb1; replace hQ := hQ.below hb1; replace hR := hR.below hb1; replace hT := hT.below hb1; replace hb := hb.trans (hb1.mono hb.size); clear hb1
        (have lth0p9 := heap_lt h0; have lth1p9 := heap_lt h1; have lth2p9 := heap_lt h2; have lthp7p9 := heap_lt hp7; have lthp8p9 := heap_lt hp8; have lsp9 := hb.size; (with_reducible apply wl_new84); intro w8 p9 hbn hlp9 hp9; replace h0 := below_look hbn h0; replace h1 := below_look hbn h1; replace h2 := below_look hbn h2; replace hp7 := below_look hbn hp7; replace hp8 := below_look hbn hp8; replace hX := hX.below hbn; replace hY := hY.below hbn; replace hQ := hQ.below hbn; replace hR := hR.below hbn; replace hT := hT.below hbn; replace hb := hb.trans (hbn.mono hb.size); clear hbn)
        ((with_reducible apply wl_putI); exact rfl; exact rfl; exact hp9; intro w9 hbx hk hq hi; replace h0 := hk _ _ (by omega) h0; replace h1 := hk _ _ (by omega) h1; replace h2 := hk _ _ (by omega) h2; replace hp7 := hk _ _ (by omega) hp7; replace hp8 := hk _ _ (by omega) hp8; replace hX := hi _ _ _ hX; replace hY := hi _ _ _ hY; replace hQ := hi _ _ _ hQ; replace hR := hi _ _ _ hR; replace hT := hi _ _ _ hT; replace hb := hbx _ _ (by omega) hb; clear hp9; have hp9 := hq; clear hbx hk hq hi)
        go_upto_region 6 with (fail)
        rw [← HQ.out, ← HR.out] at HS
        go_upto_region 12 with (fail)
        apply wp_region_lit
        ((with_reducible apply wl_rowG); exact rfl; exact rfl; exact rowIv (by with_reducible assumption))
        ((with_reducible apply wl_rowG); exact rfl; exact rfl; exact rowIv (by with_reducible assumption))
        refine wl_ck rfl (fun K hK => ?_); go_simp; refine ⟨_, _, ⟨rfl, rfl⟩, hK _ _ ⟨_, CmpI_any _ _ _ _ _ _ _ hT hY HN2.out, ?_⟩⟩; clear hK K; rintro e w10 ⟨rfl, hb1⟩; refine ⟨_, rfl, ?_⟩; simp only [put_lit, List.set_cons_zero, List.set_cons_succ]
        replace h0 := below_look hb1 h0; replace h1 := below_look hb1 h1; replace h2 := below_look hb1 h2; replace hp7 := below_look hb1 hp7; replace hp8 := below_look hb1 hp8; replace hp9 := below_look hb1 hp9; replace hX := hX.below hb1; replace hY := hY.below hb1; replace hQ := hQ.below hb1; replace hR := hR.below hb1; replace hT := hT.below hb1; replace hb := hb.trans (hb1.mono hb.size); clear hb1
        rw [← HC.out]
        refine wl_k rfl (fun K hK => ?_); go_simp; refine hK _ ?_; clear hK K
        refine wl_k rfl (fun K hK => ?_); go_simp; refine hK _ ?_; clear hK K
        ((with_reducible apply wl_rowG); exact rfl; exact rfl; exact rowIv (by with_reducible assumption))
        ((with_reducible apply wl_rowG); exact rfl; exact rfl; exact rowIv (by with_reducible assumption))
        refine wl_ck rfl (fun K hK => ?_); go_simp; refine ⟨_, _, ⟨rfl, rfl⟩, hK _ _ ⟨_, CmpI_any _ _ _ _ _ _ _ hT hY HN2.out, ?_⟩⟩; clear hK K; rintro e w11 ⟨rfl, hb1⟩; refine ⟨_, rfl, ?_⟩; simp only [put_lit, List.set_cons_zero, List.set_cons_succ]
        replace h0 := below_look hb1 h0; replace h1 := below_look hb1 h1; replace h2 := below_look hb1 h2; replace hp7 := below_look hb1 hp7; replace hp8 := below_look hb1 hp8; replace hp9 := below_look hb1 hp9; replace hX := hX.below hb1; replace hY := hY.below hb1; replace hQ := hQ.below hb1; replace hR := hR.below hb1; replace hT := hT.below hb1; replace hb := hb.trans (hb1.mono hb.size); clear hb1
        rw [← HC.out]
        have r0 := iv0 hp8
        have r1 := iv1 hp8
        go_upto_region 14 with (fail)
        apply wp_region_lit
        ((with_reducible apply wl_rowG); exact rfl; exact rfl; exact rowIv (by with_reducible assumption))
        ((with_reducible apply wl_putI); exact rfl; exact rfl; exact h2; intro w21 hbx hk hq hi; replace hQ := hi _ _ _ hQ; replace hb := hbx _ _ (by omega) hb; clear h2; have h2 := hq; clear hbx hk hq hi)
        go_wp2_with fail
        rw [(HS.out.1 rfl)]
        exact bodyPost_ret (res_iv rfl _ _ (w.heap.size + 1 + 1) rfl h2) rfl ⟨A2, c2, rfl, hQ, hb⟩
      · by_cases h2 : T = N
        · rw [e, decide_eq_false (by omega), decide_eq_true (by omega)] at hs h0
          simp only [Bool.false_or, Bool.true_and] at hs h0
          have HS := Lib.hid hs
          have HU := Lib.hid h0
          have HC : Hid (0 = cz T N) := Lib.hid (by rw [cz_def, if_neg h1, if_pos h2])
          obtain ⟨BT, hBT⟩ : ∃ BT, BT = bt (P.tdiv N).natAbs 0 := ⟨_, rfl⟩
          obtain ⟨U, hUU⟩ : ∃ U, U = decide (BT = 1) := ⟨_, rfl⟩
          rw [show decide ((P.tdiv N).natAbs % 2 = 1) = U by rw [hUU, hBT, bt_zero]] at HS HU
          have HBT := Lib.hid hBT
          have hU := hUU
          clear e h1 h2 hBT hUU
          have l1 := lit_eq h (l := [102, 108, 111, 111, 114]) rfl
          have l2 := lit_eq h (l := [104, 97, 108, 102]) rfl
          have l3 := lit_eq h (l := [101, 118, 101, 110]) rfl
          clear h hs h0 hT hN0
          go_upto_region 3 with (fail)
          apply wp_region_lit
          ((with_reducible apply wl_rowG); exact rfl; exact rfl; exact rowIv (by with_reducible assumption))
          ((with_reducible apply wl_rowG); exact rfl; exact rfl; exact rowIv (by with_reducible assumption))
          refine wl_ck rfl (fun K hK => ?_); go_simp; refine ⟨_, _, ⟨rfl, rfl⟩, hK _ _ ⟨_, PartedI_any _ _ _ _ _ _ _ hX hY (by have := HN.out; omega) (by have := HN.out; omega) (by have := HB.out; omega), ?_⟩⟩; clear hK K; rintro e w1 ⟨A2, c2, A3, c3, rfl, hQ, hR, hb1⟩; refine ⟨_, rfl, ?_⟩; simp only [put_lit, List.set_cons_zero, List.set_cons_succ]
          rw [← HQ.out, ← HR.out]
          rw [← HQ.out] at hQ
          rw [← HR.out] at hR
          replace h0 := below_look hb1 h0; replace h1 := below_look hb1 h1; replace h2 := below_look hb1 h2; replace hX := hX.below hb1; replace hY := hY.below hb1; replace hb := hb.trans (hb1.mono hb.size); clear hb1
          refine wl_k rfl (fun K hK => ?_); go_simp; refine hK _ ?_; clear hK K
          refine wl_k rfl (fun K hK => ?_); go_simp; refine hK _ ?_; clear hK K
          refine wl_k rfl (fun K hK => ?_); go_simp; refine hK _ ?_; clear hK K
          (have lth0p7 := heap_lt h0; have lth1p7 := heap_lt h1; have lth2p7 := heap_lt h2; have lsp7 := hb.size; (with_reducible apply wl_new84); intro w2 p7 hbn hlp7 hp7; replace h0 := below_look hbn h0; replace h1 := below_look hbn h1; replace h2 := below_look hbn h2; replace hX := hX.below hbn; replace hY := hY.below hbn; replace hQ := hQ.below hbn; replace hR := hR.below hbn; replace hb := hb.trans (hbn.mono hb.size); clear hbn)
          (have lth0p8 := heap_lt h0; have lth1p8 := heap_lt h1; have lth2p8 := heap_lt h2; have lthp7p8 := heap_lt hp7; have lsp8 := hb.size; (with_reducible apply wl_new84); intro w3 p8 hbn hlp8 hp8; replace h0 := below_look hbn h0; replace h1 := below_look hbn h1; replace h2 := below_look hbn h2; replace hp7 := below_look hbn hp7; replace hX := hX.below hbn; replace hY := hY.below hbn; replace hQ := hQ.below hbn; replace hR := hR.below hbn; replace hb := hb.trans (hbn.mono hb.size); clear hbn)
          ((with_reducible apply wl_putI); exact rfl; exact rfl; exact hp7; intro w4 hbx hk hq hi; replace h0 := hk _ _ (by omega) h0; replace h1 := hk _ _ (by omega) h1; replace h2 := hk _ _ (by omega) h2; replace hp8 := hk _ _ (by omega) hp8; replace hX := hi _ _ _ hX; replace hY := hi _ _ _ hY; replace hQ := hi _ _ _ hQ; replace hR := hi _ _ _ hR; replace hb := hbx _ _ (by omega) hb; clear hp7; have hp7 := hq; clear hbx hk hq hi)
          ((with_reducible apply wl_putI); exact rfl; exact rfl; exact hp8; intro w5 hbx hk hq hi; replace h0 := hk _ _ (by omega) h0; replace h1 := hk _ _ (by omega) h1; replace h2 := hk _ _ (by omega) h2; replace hp7 := hk _ _ (by omega) hp7; replace hX := hi _ _ _ hX; replace hY := hi _ _ _ hY; replace hQ := hi _ _ _ hQ; replace hR := hi _ _ _ hR; replace hb := hbx _ _ (by omega) hb; clear hp8; have hp8 := hq; clear hbx hk hq hi)
          go_upto_region 4 with (fail)
          have r1 := iv1 hp8
          apply wp_region_lit
          refine wl_k rfl (fun K hK => ?_); go_simp; refine hK _ ?_; clear hK K
          ((with_reducible apply wl_oneG); exact rfl; exact rfl; exact one82 (by with_reducible assumption))
          refine wl_k rfl (fun K hK => ?_); go_simp; refine hK _ ?_; clear hK K
          ((with_reducible apply wl_oneG); exact rfl; exact rfl; exact one82 (by with_reducible assumption))
          clear r1
          refine wl_ck rfl (fun K hK => ?_); go_simp; refine ⟨_, _, ⟨rfl, rfl⟩, hK _ _ ⟨_, plus_any _ _ _ _ _ _ r.natAbs r.natAbs _ hR.2 hR.2 (nl_spec _) (nl_spec _) (by have := HNR.out.1; omega) (by have := HNR.out.1; omega), ?_⟩⟩; clear hK K; rintro e w6 ⟨A4, c4, rfl, hc4, hl4, hb1⟩; refine ⟨_, rfl, ?_⟩; simp only [put_lit, List.set_cons_zero, List.set_cons_succ]
          replace h0 := below_look hb1 h0; replace h1 := below_look hb1 h1; replace h2 := below_look hb1 h2; replace hp7 := below_look hb1 hp7; replace hp8 := below_look hb1 hp8; replace hX := hX.below hb1; replace hY := hY.below hb1; replace hQ := hQ.below hb1; replace hR := hR.below hb1; replace hb := hb.trans (hb1.mono hb.size); clear hb1
          have hT : IvAt w6 T A4 c4 := IvAt.of _ (by rw [HTT.out]; exact Int.natAbs_natCast _) hc4 hl4
          clear hc4 hl4
          refine wl_ck rfl (fun K hK => ?_); go_simp; refine ⟨_, _, ⟨rfl, rfl⟩, hK _ _ ⟨_, signedI_any false A4 (r.natAbs + r.natAbs) c4 _, ?_⟩⟩; clear hK K; rintro e w7 ⟨rfl, hb1⟩; refine ⟨_, rfl, ?_⟩; simp only [put_lit, List.set_cons_zero, List.set_cons_succ]
          rw [show sg false (r.natAbs + r.natAbs) = T from HTT.out.symm]
          replace h0 := below_look hb1 h0; replace h1 := below_look hb1 h1; replace h2 := below_look hb1 h2; replace hp7 := below_look hb1 hp7; replace hp8 := below_look hb1 hp8; replace hX := hX.below hb1; replace hY := hY.below hb1; replace hQ := hQ.below hb1; replace hR := hR.below hb1; replace hT := hT.below hb1; replace hb := hb.trans (hb1.mono hb.size); clear hb1
          (have lth0p9 := heap_lt h0; have lth1p9 := heap_lt h1; have lth2p9 := heap_lt h2; have lthp7p9 := heap_lt hp7; have lthp8p9 := heap_lt hp8; have lsp9 := hb.size; (with_reducible apply wl_new84); intro w8 p9 hbn hlp9 hp9; replace h0 := below_look hbn h0; replace h1 := below_look hbn h1; replace h2 := below_look hbn h2; replace hp7 := below_look hbn hp7; replace hp8 := below_look hbn hp8; replace hX := hX.below hbn; replace hY := hY.below hbn; replace hQ := hQ.below hbn; replace hR := hR.below hbn; replace hT := hT.below hbn; replace hb := hb.trans (hbn.mono hb.size); clear hbn)
          ((with_reducible apply wl_putI); exact rfl; exact rfl; exact hp9; intro w9 hbx hk hq hi; replace h0 := hk _ _ (by omega) h0; replace h1 := hk _ _ (by omega) h1; replace h2 := hk _ _ (by omega) h2; replace hp7 := hk _ _ (by omega) hp7; replace hp8 := hk _ _ (by omega) hp8; replace hX := hi _ _ _ hX; replace hY := hi _ _ _ hY; replace hQ := hi _ _ _ hQ; replace hR := hi _ _ _ hR; replace hT := hi _ _ _ hT; replace hb := hbx _ _ (by omega) hb; clear hp9; have hp9 := hq; clear hbx hk hq hi)
          go_upto_region 6 with (fail)
          rw [← HQ.out, ← HR.out] at HS
          rw [← HR.out] at HU
          rw [← HQ.out] at HBT
          go_upto_region 12 with (fail)
          apply wp_region_lit
          ((with_reducible apply wl_rowG); exact rfl; exact rfl; exact rowIv (by with_reducible assumption))
          ((with_reducible apply wl_rowG); exact rfl; exact rfl; exact rowIv (by with_reducible assumption))
          refine wl_ck rfl (fun K hK => ?_); go_simp; refine ⟨_, _, ⟨rfl, rfl⟩, hK _ _ ⟨_, CmpI_any _ _ _ _ _ _ _ hT hY HN2.out, ?_⟩⟩; clear hK K; rintro e w10 ⟨rfl, hb1⟩; refine ⟨_, rfl, ?_⟩; simp only [put_lit, List.set_cons_zero, List.set_cons_succ]
          replace h0 := below_look hb1 h0; replace h1 := below_look hb1 h1; replace h2 := below_look hb1 h2; replace hp7 := below_look hb1 hp7; replace hp8 := below_look hb1 hp8; replace hp9 := below_look hb1 hp9; replace hX := hX.below hb1; replace hY := hY.below hb1; replace hQ := hQ.below hb1; replace hR := hR.below hb1; replace hT := hT.below hb1; replace hb := hb.trans (hb1.mono hb.size); clear hb1
          rw [← HC.out]
          refine wl_k rfl (fun K hK => ?_); go_simp; refine hK _ ?_; clear hK K
          refine wl_k rfl (fun K hK => ?_); go_simp; refine hK _ ?_; clear hK K
          ((with_reducible apply wl_rowG); exact rfl; exact rfl; exact rowIv (by with_reducible assumption))
          ((with_reducible apply wl_rowG); exact rfl; exact rfl; exact rowIv (by with_reducible assumption))
          refine wl_ck rfl (fun K hK => ?_); go_simp; refine ⟨_, _, ⟨rfl, rfl⟩, hK _ _ ⟨_, CmpI_any _ _ _ _ _ _ _ hT hY HN2.out, ?_⟩⟩; clear hK K; rintro e w11 ⟨rfl, hb1⟩; refine ⟨_, rfl, ?_⟩; simp only [put_lit, List.set_cons_zero, List.set_cons_succ]
          replace h0 := below_look hb1 h0; replace h1 := below_look hb1 h1; replace h2 := below_look hb1 h2; replace hp7 := below_look hb1 hp7; replace hp8 := below_look hb1 hp8; replace hp9 := below_look hb1 hp9; replace hX := hX.below hb1; replace hY := hY.below hb1; replace hQ := hQ.below hb1; replace hR := hR.below hb1; replace hT := hT.below hb1; replace hb := hb.trans (hb1.mono hb.size); clear hb1
          rw [← HC.out]
          refine wl_k rfl (fun K hK => ?_); go_simp; refine hK _ ?_; clear hK K
          refine wl_k rfl (fun K hK => ?_); go_simp; refine hK _ ?_; clear hK K
          have q1 := iv1 hp7
          refine wl_k rfl (fun K hK => ?_); go_simp; refine hK _ ?_; clear hK K
          ((with_reducible apply wl_oneG); exact rfl; exact rfl; exact one82 (by with_reducible assumption))
          clear q1
          refine wl_ck rfl (fun K hK => ?_); go_simp; refine ⟨_, _, ⟨rfl, rfl⟩, hK _ _ ⟨_, bit_any _ _ _ q.natAbs 0 _ hQ.2 (nl_spec _) (by have := HNR.out.2; omega) (by omega), ?_⟩⟩; clear hK K; rintro e w12 ⟨rfl, rfl⟩; refine ⟨_, rfl, ?_⟩; simp only [put_lit, List.set_cons_zero, List.set_cons_succ]
          rw [← HBT.out]
          have r0 := iv0 hp8
          have r1 := iv1 hp8
          cases U
          · have hc : ¬ (BT : Int) = 1 := by have : ¬ BT = 1 := by simpa using hU
                                             omega
            clear hU
            go_upto_region 14 with (fail)
            apply wp_region_lit
            ((with_reducible apply wl_rowG); exact rfl; exact rfl; exact rowIv (by with_reducible assumption))
            ((with_reducible apply wl_putI); exact rfl; exact rfl; exact h2; intro w21 hbx hk hq hi; replace hQ := hi _ _ _ hQ; replace hb := hbx _ _ (by omega) hb; clear h2; have h2 := hq; clear hbx hk hq hi)
            go_wp2_with fail
            rw [(HS.out.1 rfl)]
            exact bodyPost_ret (res_iv rfl _ _ (w.heap.size + 1 + 1) rfl h2) rfl ⟨A2, c2, rfl, hQ, hb⟩
          · have hc : BT = 1 := by simpa using hU
            clear hU
            subst hc
            by_cases hs : r < 0
            · have hr0 := Lib.hid hs
              have hg : ng r = true := by rw [ng_def]; simpa using hs
              rw [hg] at r0
              have hz := nl_pos' (n := r.natAbs) (by omega)
              clear hg hs
              go_upto_region 16 with (fail)
              clear r0 r1
              replace hQ := hQ.below (Below.refl _ _).drew
              replace hb := hb.drew
              have HRR := Lib.hid ((HS.out.2 rfl).1 hr0.out)
              have n1 : nl (1 : Int).natAbs ≤ 1 := (by show nl 1 ≤ 1; rw [nl_one]; omega)
              refine wp_region_held_drew (S := Kept [w.heap.size + 1 + 1] w11) mixed (Kept.drew [w.heap.size + 1 + 1] w11) (fun hS => ?_)
              refine ha_val (i := 0) rfl (by kernel_rfl) (by kernel_rfl) (by kernel_rfl) (fun _ _ _ h => h) hS rfl (fun w' hw' => ex_row rfl (rowIv (hw'.look hp7 (by simp <;> omega)))) ?_; try simp only [put_lit, List.set_cons_zero, List.set_cons_succ]
              refine ha_call (i := 1) (by kernel_rfl) rfl rfl (fun K hK => ?_); go_simp; refine ⟨_, _, ⟨rfl, rfl⟩, hK _ _ ⟨_, Of_any 1 (by decide) (by decide) _, ?_⟩⟩; clear hK K; rintro e w20 ⟨A5, c5, rfl, hO, hb1⟩; refine ⟨_, rfl, hS.below hb1, ?_⟩; replace hS := hS.below hb1; replace h2 := below_look hb1 h2; replace hQ := hQ.below hb1; replace hb := hb.trans (hb1.mono hb.size); clear hb1; try simp only [put_lit, List.set_cons_zero, List.set_cons_succ]
              refine ha_call (i := 2) (by kernel_rfl) rfl rfl (fun K hK => ?_); go_simp; refine ⟨_, _, ⟨rfl, rfl⟩, hK _ _ ⟨_, MinusI_any q 1 _ _ _ _ _ hQ hO (by have := HNR.out.2; omega) (by omega), ?_⟩⟩; clear hK K; rintro e w21 ⟨A6, c6, rfl, hI, hb1⟩; refine ⟨_, rfl, hS.below hb1, ?_⟩; replace hS := hS.below hb1; replace h2 := below_look hb1 h2; replace hb := hb.trans (hb1.mono hb.size); clear hb1; try simp only [put_lit, List.set_cons_zero, List.set_cons_succ]
              refine ha_store (i := 3) (by kernel_rfl) rfl rfl 84 _ _ rfl _ (iv (q - 1) A6 c6) rfl rfl 84 _ h2 info84 rfl (iv_one _ _ _) (hS.setRow (by simp) _) (fun hS => ?_); try simp only [put_lit, List.set_cons_zero, List.set_cons_succ]
              refine wpAnyH_done (by kernel_rfl) ?_ _
              go_wp2_with fail
              rw [HRR.out]
              exact bodyPost_ret (res_iv rfl _ _ (w.heap.size + 1 + 1) rfl (hr_new h2)) rfl ⟨A6, c6, rfl, hI.put h2 _, below_setRow hb (by omega) _⟩
            · have hr0 : Hid (0 < r) := Lib.hid (by have := HU.out rfl; omega)
              have hg : ng r = false := by rw [ng_def]; simpa using hs
              rw [hg] at r0
              have hz := nl_pos' (n := r.natAbs) (by have := hr0.out; omega)
              clear hg hs
              go_upto_region 17 with (fail)
              clear r0 r1
              replace hQ := hQ.below (Below.refl _ _).drew
              replace hb := hb.drew
              have HRR := Lib.hid ((HS.out.2 rfl).2 hr0.out)
              have n1 : nl (1 : Int).natAbs ≤ 1 := (by show nl 1 ≤ 1; rw [nl_one]; omega)
              refine wp_region_held_drew (S := Kept [w.heap.size + 1 + 1] w11) mixed (Kept.drew [w.heap.size + 1 + 1] w11) (fun hS => ?_)
              refine ha_val (i := 0) rfl (by kernel_rfl) (by kernel_rfl) (by kernel_rfl) (fun _ _ _ h => h) hS rfl (fun w' hw' => ex_row rfl (rowIv (hw'.look hp7 (by simp <;> omega)))) ?_; try simp only [put_lit, List.set_cons_zero, List.set_cons_succ]
              refine ha_call (i := 1) (by kernel_rfl) rfl rfl (fun K hK => ?_); go_simp; refine ⟨_, _, ⟨rfl, rfl⟩, hK _ _ ⟨_, Of_any 1 (by decide) (by decide) _, ?_⟩⟩; clear hK K; rintro e w20 ⟨A5, c5, rfl, hO, hb1⟩; refine ⟨_, rfl, hS.below hb1, ?_⟩; replace hS := hS.below hb1; replace h2 := below_look hb1 h2; replace hQ := hQ.below hb1; replace hb := hb.trans (hb1.mono hb.size); clear hb1; try simp only [put_lit, List.set_cons_zero, List.set_cons_succ]
              refine ha_call (i := 2) (by kernel_rfl) rfl rfl (fun K hK => ?_); go_simp; refine ⟨_, _, ⟨rfl, rfl⟩, hK _ _ ⟨_, Sum2_any q 1 _ _ _ _ _ hQ hO (by have := HNR.out.2; omega) (by omega), ?_⟩⟩; clear hK K; rintro e w21 ⟨A6, c6, rfl, hI, hb1⟩; refine ⟨_, rfl, hS.below hb1, ?_⟩; replace hS := hS.below hb1; replace h2 := below_look hb1 h2; replace hb := hb.trans (hb1.mono hb.size); clear hb1; try simp only [put_lit, List.set_cons_zero, List.set_cons_succ]
              refine ha_store (i := 3) (by kernel_rfl) rfl rfl 84 _ _ rfl _ (iv (q + 1) A6 c6) rfl rfl 84 _ h2 info84 rfl (iv_one _ _ _) (hS.setRow (by simp) _) (fun hS => ?_); try simp only [put_lit, List.set_cons_zero, List.set_cons_succ]
              refine wpAnyH_done (by kernel_rfl) ?_ _
              go_wp2_with fail
              rw [HRR.out]
              exact bodyPost_ret (res_iv rfl _ _ (w.heap.size + 1 + 1) rfl (hr_new h2)) rfl ⟨A6, c6, rfl, hI.put h2 _, below_setRow hb (by omega) _⟩
        · rw [e, decide_eq_true (by omega)] at hs h0
          simp only [Bool.true_or] at hs h0
          have HS := Lib.hid hs
          have HC : Hid (1 = cz T N) := Lib.hid (by rw [cz_def, if_neg h1, if_neg h2])
          have HU : Hid (true = true → P.tmod N ≠ 0) := Lib.hid (fun _ => h0 trivial)
          clear e h1 h2
          have l1 := lit_eq h (l := [102, 108, 111, 111, 114]) rfl
          have l2 := lit_eq h (l := [104, 97, 108, 102]) rfl
          have l3 := lit_eq h (l := [101, 118, 101, 110]) rfl
          clear h hs h0 hT hN0
          go_upto_region 3 with (fail)
          apply wp_region_lit
          ((with_reducible apply wl_rowG); exact rfl; exact rfl; exact rowIv (by with_reducible assumption))
          ((with_reducible apply wl_rowG); exact rfl; exact rfl; exact rowIv (by with_reducible assumption))
          refine wl_ck rfl (fun K hK => ?_); go_simp; refine ⟨_, _, ⟨rfl, rfl⟩, hK _ _ ⟨_, PartedI_any _ _ _ _ _ _ _ hX hY (by have := HN.out; omega) (by have := HN.out; omega) (by have := HB.out; omega), ?_⟩⟩; clear hK K; rintro e w1 ⟨A2, c2, A3, c3, rfl, hQ, hR, hb1⟩; refine ⟨_, rfl, ?_⟩; simp only [put_lit, List.set_cons_zero, List.set_cons_succ]
          rw [← HQ.out, ← HR.out]
          rw [← HQ.out] at hQ
          rw [← HR.out] at hR
          replace h0 := below_look hb1 h0; replace h1 := below_look hb1 h1; replace h2 := below_look hb1 h2; replace hX := hX.below hb1; replace hY := hY.below hb1; replace hb := hb.trans (hb1.mono hb.size); clear hb1
          refine wl_k rfl (fun K hK => ?_); go_simp; refine hK _ ?_; clear hK K
          refine wl_k rfl (fun K hK => ?_); go_simp; refine hK _ ?_; clear hK K
          refine wl_k rfl (fun K hK => ?_); go_simp; refine hK _ ?_; clear hK K
          (have lth0p7 := heap_lt h0; have lth1p7 := heap_lt h1; have lth2p7 := heap_lt h2; have lsp7 := hb.size; (with_reducible apply wl_new84); intro w2 p7 hbn hlp7 hp7; replace h0 := below_look hbn h0; replace h1 := below_look hbn h1; replace h2 := below_look hbn h2; replace hX := hX.below hbn; replace hY := hY.below hbn; replace hQ := hQ.below hbn; replace hR := hR.below hbn; replace hb := hb.trans (hbn.mono hb.size); clear hbn)
          (have lth0p8 := heap_lt h0; have lth1p8 := heap_lt h1; have lth2p8 := heap_lt h2; have lthp7p8 := heap_lt hp7; have lsp8 := hb.size; (with_reducible apply wl_new84); intro w3 p8 hbn hlp8 hp8; replace h0 := below_look hbn h0; replace h1 := below_look hbn h1; replace h2 := below_look hbn h2; replace hp7 := below_look hbn hp7; replace hX := hX.below hbn; replace hY := hY.below hbn; replace hQ := hQ.below hbn; replace hR := hR.below hbn; replace hb := hb.trans (hbn.mono hb.size); clear hbn)
          ((with_reducible apply wl_putI); exact rfl; exact rfl; exact hp7; intro w4 hbx hk hq hi; replace h0 := hk _ _ (by omega) h0; replace h1 := hk _ _ (by omega) h1; replace h2 := hk _ _ (by omega) h2; replace hp8 := hk _ _ (by omega) hp8; replace hX := hi _ _ _ hX; replace hY := hi _ _ _ hY; replace hQ := hi _ _ _ hQ; replace hR := hi _ _ _ hR; replace hb := hbx _ _ (by omega) hb; clear hp7; have hp7 := hq; clear hbx hk hq hi)
          ((with_reducible apply wl_putI); exact rfl; exact rfl; exact hp8; intro w5 hbx hk hq hi; replace h0 := hk _ _ (by omega) h0; replace h1 := hk _ _ (by omega) h1; replace h2 := hk _ _ (by omega) h2; replace hp7 := hk _ _ (by omega) hp7; replace hX := hi _ _ _ hX; replace hY := hi _ _ _ hY; replace hQ := hi _ _ _ hQ; replace hR := hi _ _ _ hR; replace hb := hbx _ _ (by omega) hb; clear hp8; have hp8 := hq; clear hbx hk hq hi)
          go_upto_region 4 with (fail)
          have r1 := iv1 hp8
          apply wp_region_lit
          refine wl_k rfl (fun K hK => ?_); go_simp; refine hK _ ?_; clear hK K
          ((with_reducible apply wl_oneG); exact rfl; exact rfl; exact one82 (by with_reducible assumption))
          refine wl_k rfl (fun K hK => ?_); go_simp; refine hK _ ?_; clear hK K
          ((with_reducible apply wl_oneG); exact rfl; exact rfl; exact one82 (by with_reducible assumption))
          clear r1
          refine wl_ck rfl (fun K hK => ?_); go_simp; refine ⟨_, _, ⟨rfl, rfl⟩, hK _ _ ⟨_, plus_any _ _ _ _ _ _ r.natAbs r.natAbs _ hR.2 hR.2 (nl_spec _) (nl_spec _) (by have := HNR.out.1; omega) (by have := HNR.out.1; omega), ?_⟩⟩; clear hK K; rintro e w6 ⟨A4, c4, rfl, hc4, hl4, hb1⟩; refine ⟨_, rfl, ?_⟩; simp only [put_lit, List.set_cons_zero, List.set_cons_succ]
          replace h0 := below_look hb1 h0; replace h1 := below_look hb1 h1; replace h2 := below_look hb1 h2; replace hp7 := below_look hb1 hp7; replace hp8 := below_look hb1 hp8; replace hX := hX.below hb1; replace hY := hY.below hb1; replace hQ := hQ.below hb1; replace hR := hR.below hb1; replace hb := hb.trans (hb1.mono hb.size); clear hb1
          have hT : IvAt w6 T A4 c4 := IvAt.of _ (by rw [HTT.out]; exact Int.natAbs_natCast _) hc4 hl4
          clear hc4 hl4
          refine wl_ck rfl (fun K hK => ?_); go_simp; refine ⟨_, _, ⟨rfl, rfl⟩, hK _ _ ⟨_, signedI_any false A4 (r.natAbs + r.natAbs) c4 _, ?_⟩⟩; clear hK K; rintro e w7 ⟨rfl, hb1⟩; refine ⟨_, rfl, ?_⟩; simp only [put_lit, List.set_cons_zero, List.set_cons_succ]
          rw [show sg false (r.natAbs + r.natAbs) = T from HTT.out.symm]
          replace h0 := below_look hb1 h0; replace h1 := below_look hb1 h1; replace h2 := below_look hb1 h2; replace hp7 := below_look hb1 hp7; replace hp8 := below_look hb1 hp8; replace hX := hX.below hb1; replace hY := hY.below hb1; replace hQ := hQ.below hb1; replace hR := hR.below hb1; replace hT := hT.below hb1; replace hb := hb.trans (hb1.mono hb.size); clear hb1
          (have lth0p9 := heap_lt h0; have lth1p9 := heap_lt h1; have lth2p9 := heap_lt h2; have lthp7p9 := heap_lt hp7; have lthp8p9 := heap_lt hp8; have lsp9 := hb.size; (with_reducible apply wl_new84); intro w8 p9 hbn hlp9 hp9; replace h0 := below_look hbn h0; replace h1 := below_look hbn h1; replace h2 := below_look hbn h2; replace hp7 := below_look hbn hp7; replace hp8 := below_look hbn hp8; replace hX := hX.below hbn; replace hY := hY.below hbn; replace hQ := hQ.below hbn; replace hR := hR.below hbn; replace hT := hT.below hbn; replace hb := hb.trans (hbn.mono hb.size); clear hbn)
          ((with_reducible apply wl_putI); exact rfl; exact rfl; exact hp9; intro w9 hbx hk hq hi; replace h0 := hk _ _ (by omega) h0; replace h1 := hk _ _ (by omega) h1; replace h2 := hk _ _ (by omega) h2; replace hp7 := hk _ _ (by omega) hp7; replace hp8 := hk _ _ (by omega) hp8; replace hX := hi _ _ _ hX; replace hY := hi _ _ _ hY; replace hQ := hi _ _ _ hQ; replace hR := hi _ _ _ hR; replace hT := hi _ _ _ hT; replace hb := hbx _ _ (by omega) hb; clear hp9; have hp9 := hq; clear hbx hk hq hi)
          go_upto_region 6 with (fail)
          rw [← HQ.out, ← HR.out] at HS
          rw [← HR.out] at HU
          go_upto_region 12 with (fail)
          apply wp_region_lit
          ((with_reducible apply wl_rowG); exact rfl; exact rfl; exact rowIv (by with_reducible assumption))
          ((with_reducible apply wl_rowG); exact rfl; exact rfl; exact rowIv (by with_reducible assumption))
          refine wl_ck rfl (fun K hK => ?_); go_simp; refine ⟨_, _, ⟨rfl, rfl⟩, hK _ _ ⟨_, CmpI_any _ _ _ _ _ _ _ hT hY HN2.out, ?_⟩⟩; clear hK K; rintro e w10 ⟨rfl, hb1⟩; refine ⟨_, rfl, ?_⟩; simp only [put_lit, List.set_cons_zero, List.set_cons_succ]
          replace h0 := below_look hb1 h0; replace h1 := below_look hb1 h1; replace h2 := below_look hb1 h2; replace hp7 := below_look hb1 hp7; replace hp8 := below_look hb1 hp8; replace hp9 := below_look hb1 hp9; replace hX := hX.below hb1; replace hY := hY.below hb1; replace hQ := hQ.below hb1; replace hR := hR.below hb1; replace hT := hT.below hb1; replace hb := hb.trans (hb1.mono hb.size); clear hb1
          rw [← HC.out]
          have r0 := iv0 hp8
          have r1 := iv1 hp8
          by_cases hs : r < 0
          · have hr0 := Lib.hid hs
            have hg : ng r = true := by rw [ng_def]; simpa using hs
            rw [hg] at r0
            have hz := nl_pos' (n := r.natAbs) (by omega)
            clear hg hs
            go_upto_region 16 with (fail)
            clear r0 r1
            replace hQ := hQ.below (Below.refl _ _).drew
            replace hb := hb.drew
            have HRR := Lib.hid ((HS.out.2 rfl).1 hr0.out)
            have n1 : nl (1 : Int).natAbs ≤ 1 := (by show nl 1 ≤ 1; rw [nl_one]; omega)
            refine wp_region_held_drew (S := Kept [w.heap.size + 1 + 1] w10) mixed (Kept.drew [w.heap.size + 1 + 1] w10) (fun hS => ?_)
            refine ha_val (i := 0) rfl (by kernel_rfl) (by kernel_rfl) (by kernel_rfl) (fun _ _ _ h => h) hS rfl (fun w' hw' => ex_row rfl (rowIv (hw'.look hp7 (by simp <;> omega)))) ?_; try simp only [put_lit, List.set_cons_zero, List.set_cons_succ]
            refine ha_call (i := 1) (by kernel_rfl) rfl rfl (fun K hK => ?_); go_simp; refine ⟨_, _, ⟨rfl, rfl⟩, hK _ _ ⟨_, Of_any 1 (by decide) (by decide) _, ?_⟩⟩; clear hK K; rintro e w20 ⟨A5, c5, rfl, hO, hb1⟩; refine ⟨_, rfl, hS.below hb1, ?_⟩; replace hS := hS.below hb1; replace h2 := below_look hb1 h2; replace hQ := hQ.below hb1; replace hb := hb.trans (hb1.mono hb.size); clear hb1; try simp only [put_lit, List.set_cons_zero, List.set_cons_succ]
            refine ha_call (i := 2) (by kernel_rfl) rfl rfl (fun K hK => ?_); go_simp; refine ⟨_, _, ⟨rfl, rfl⟩, hK _ _ ⟨_, MinusI_any q 1 _ _ _ _ _ hQ hO (by have := HNR.out.2; omega) (by omega), ?_⟩⟩; clear hK K; rintro e w21 ⟨A6, c6, rfl, hI, hb1⟩; refine ⟨_, rfl, hS.below hb1, ?_⟩; replace hS := hS.below hb1; replace h2 := below_look hb1 h2; replace hb := hb.trans (hb1.mono hb.size); clear hb1; try simp only [put_lit, List.set_cons_zero, List.set_cons_succ]
            refine ha_store (i := 3) (by kernel_rfl) rfl rfl 84 _ _ rfl _ (iv (q - 1) A6 c6) rfl rfl 84 _ h2 info84 rfl (iv_one _ _ _) (hS.setRow (by simp) _) (fun hS => ?_); try simp only [put_lit, List.set_cons_zero, List.set_cons_succ]
            refine wpAnyH_done (by kernel_rfl) ?_ _
            go_wp2_with fail
            rw [HRR.out]
            exact bodyPost_ret (res_iv rfl _ _ (w.heap.size + 1 + 1) rfl (hr_new h2)) rfl ⟨A6, c6, rfl, hI.put h2 _, below_setRow hb (by omega) _⟩
          · have hr0 : Hid (0 < r) := Lib.hid (by have := HU.out rfl; omega)
            have hg : ng r = false := by rw [ng_def]; simpa using hs
            rw [hg] at r0
            have hz := nl_pos' (n := r.natAbs) (by have := hr0.out; omega)
            clear hg hs
            go_upto_region 17 with (fail)
            clear r0 r1
            replace hQ := hQ.below (Below.refl _ _).drew
            replace hb := hb.drew
            have HRR := Lib.hid ((HS.out.2 rfl).2 hr0.out)
            have n1 : nl (1 : Int).natAbs ≤ 1 := (by show nl 1 ≤ 1; rw [nl_one]; omega)
            refine wp_region_held_drew (S := Kept [w.heap.size + 1 + 1] w10) mixed (Kept.drew [w.heap.size + 1 + 1] w10) (fun hS => ?_)
            refine ha_val (i := 0) rfl (by kernel_rfl) (by kernel_rfl) (by kernel_rfl) (fun _ _ _ h => h) hS rfl (fun w' hw' => ex_row rfl (rowIv (hw'.look hp7 (by simp <;> omega)))) ?_; try simp only [put_lit, List.set_cons_zero, List.set_cons_succ]
            refine ha_call (i := 1) (by kernel_rfl) rfl rfl (fun K hK => ?_); go_simp; refine ⟨_, _, ⟨rfl, rfl⟩, hK _ _ ⟨_, Of_any 1 (by decide) (by decide) _, ?_⟩⟩; clear hK K; rintro e w20 ⟨A5, c5, rfl, hO, hb1⟩; refine ⟨_, rfl, hS.below hb1, ?_⟩; replace hS := hS.below hb1; replace h2 := below_look hb1 h2; replace hQ := hQ.below hb1; replace hb := hb.trans (hb1.mono hb.size); clear hb1; try simp only [put_lit, List.set_cons_zero, List.set_cons_succ]
            refine ha_call (i := 2) (by kernel_rfl) rfl rfl (fun K hK => ?_); go_simp; refine ⟨_, _, ⟨rfl, rfl⟩, hK _ _ ⟨_, Sum2_any q 1 _ _ _ _ _ hQ hO (by have := HNR.out.2; omega) (by omega), ?_⟩⟩; clear hK K; rintro e w21 ⟨A6, c6, rfl, hI, hb1⟩; refine ⟨_, rfl, hS.below hb1, ?_⟩; replace hS := hS.below hb1; replace h2 := below_look hb1 h2; replace hb := hb.trans (hb1.mono hb.size); clear hb1; try simp only [put_lit, List.set_cons_zero, List.set_cons_succ]
            refine ha_store (i := 3) (by kernel_rfl) rfl rfl 84 _ _ rfl _ (iv (q + 1) A6 c6) rfl rfl 84 _ h2 info84 rfl (iv_one _ _ _) (hS.setRow (by simp) _) (fun hS => ?_); try simp only [put_lit, List.set_cons_zero, List.set_cons_succ]
            refine wpAnyH_done (by kernel_rfl) ?_ _
            go_wp2_with fail
            rw [HRR.out]
            exact bodyPost_ret (res_iv rfl _ _ (w.heap.size + 1 + 1) rfl (hr_new h2)) rfl ⟨A6, c6, rfl, hI.put h2 _, below_setRow hb (by omega) _⟩
  clear hK
  refine wp_region_held_drew (S := Kept [w.heap.size, w.heap.size + 1] W) mixed (Kept.drew [w.heap.size, w.heap.size + 1] W) (fun hS => ?_)
  refine ha_val (i := 0) rfl (by kernel_rfl) (by kernel_rfl) (by kernel_rfl) (fun _ _ _ h => h) hS rfl (fun w3 _ => ex_build (w := w3) 84 _ rfl (L := []) rfl built84y) ?_; try simp only [put_lit, List.set_cons_zero, List.set_cons_succ]
  refine ha_val (i := 3) rfl (by kernel_rfl) (by kernel_rfl) (by kernel_rfl) (fun _ _ _ h => h) hS rfl (fun w3 _ => ex_build (w := w3) 84 _ rfl (L := []) rfl built84y) ?_; try simp only [put_lit, List.set_cons_zero, List.set_cons_succ]
  refine ha_two (i := 1) (j := 4) (by kernel_rfl) ?_ ?_
  · refine sh_val (i := 1) rfl rfl (ex_row rfl (rowIv h0)) hS ?_; try simp only [put_lit, List.set_cons_zero, List.set_cons_succ]
    refine ha_two (i := 2) (j := 4) (by kernel_rfl) ?_ ?_
    · refine sh_call (i := 2) rfl rfl (fun K hK => ?_); go_simp; refine ⟨_, _, ⟨rfl, rfl⟩, hK _ _ ⟨_, MinusI_any 0 a _ _ _ _ _ (IvAt.zero _) hX (by have := HN0.out; omega) (by have := HN0.out; omega), ?_⟩⟩; clear hK K; rintro e w1 ⟨A5, c5, rfl, hP, hb1⟩; refine ⟨_, rfl, hS.below hb1, ?_⟩; replace hS := hS.below hb1; replace h0 := below_look hb1 h0; replace h1 := below_look hb1 h1; replace h2 := below_look hb1 h2; replace hX := hX.below hb1; replace hY := hY.below hb1; replace hb := hb.trans (hb1.mono hb.size); clear hb1; try simp only [put_lit, List.set_cons_zero, List.set_cons_succ]
      refine ha_do (i := 4) (by kernel_rfl) rfl rfl (ex_row rfl (rowIv h1)) hS ?_; try simp only [put_lit, List.set_cons_zero, List.set_cons_succ]
      refine ha_call (i := 5) (by kernel_rfl) rfl rfl (fun K hK => ?_); go_simp; refine ⟨_, _, ⟨rfl, rfl⟩, hK _ _ ⟨_, MinusI_any 0 b _ _ _ _ _ (IvAt.zero _) hY (by have := HN0.out; omega) (by have := HN0.out; omega), ?_⟩⟩; clear hK K; rintro e w2 ⟨A6, c6, rfl, hQ, hb1⟩; refine ⟨_, rfl, hS.below hb1, ?_⟩; replace hS := hS.below hb1; replace h0 := below_look hb1 h0; replace h1 := below_look hb1 h1; replace h2 := below_look hb1 h2; replace hP := hP.below hb1; replace hb := hb.trans (hb1.mono hb.size); clear hb1; try simp only [put_lit, List.set_cons_zero, List.set_cons_succ]
      refine ha_store (i := 6) (by kernel_rfl) rfl rfl 84 _ _ rfl _ (iv (0 - a) A5 c5) rfl rfl 84 _ h0 info84 rfl (iv_one _ _ _) (hS.setRow (by simp) _) (fun hS => ?_); try simp only [put_lit, List.set_cons_zero, List.set_cons_succ]
      refine ha_store (i := 7) (by kernel_rfl) rfl rfl 84 _ _ rfl _ (iv (0 - b) A6 c6) rfl rfl 84 _ (hr_old h1 (by omega)) info84 rfl (iv_one _ _ _) (hS.setRow (by simp) _) (fun hS => ?_); try simp only [put_lit, List.set_cons_zero, List.set_cons_succ]
      refine wpAnyH_done (by kernel_rfl) ?_ _
      rw [← HP.out] at hP ⊢
      rw [← HNN.out] at hQ ⊢
      exact tail _ _ _ _ _ _ _ _ _ _ _ (hr_old (hr_new h0) (by omega)) (hr_new (hr_old h1 (by omega))) (hr_old (hr_old h2 (by omega)) (by omega)) ((hP.put h0 _).put (hr_old h1 (by omega)) _) ((hQ.put h0 _).put (hr_old h1 (by omega)) _) (below_setRow (below_setRow hb (by omega) _) (by omega) _)
    · refine sh_val (i := 4) rfl rfl (ex_row rfl (rowIv h1)) hS ?_; try simp only [put_lit, List.set_cons_zero, List.set_cons_succ]
      refine ha_call (i := 2) (by kernel_rfl) rfl rfl (fun K hK => ?_); go_simp; refine ⟨_, _, ⟨rfl, rfl⟩, hK _ _ ⟨_, MinusI_any 0 a _ _ _ _ _ (IvAt.zero _) hX (by have := HN0.out; omega) (by have := HN0.out; omega), ?_⟩⟩; clear hK K; rintro e w1 ⟨A5, c5, rfl, hP, hb1⟩; refine ⟨_, rfl, hS.below hb1, ?_⟩; replace hS := hS.below hb1; replace h0 := below_look hb1 h0; replace h1 := below_look hb1 h1; replace h2 := below_look hb1 h2; replace hX := hX.below hb1; replace hY := hY.below hb1; replace hb := hb.trans (hb1.mono hb.size); clear hb1; try simp only [put_lit, List.set_cons_zero, List.set_cons_succ]
      refine ha_call (i := 5) (by kernel_rfl) rfl rfl (fun K hK => ?_); go_simp; refine ⟨_, _, ⟨rfl, rfl⟩, hK _ _ ⟨_, MinusI_any 0 b _ _ _ _ _ (IvAt.zero _) hY (by have := HN0.out; omega) (by have := HN0.out; omega), ?_⟩⟩; clear hK K; rintro e w2 ⟨A6, c6, rfl, hQ, hb1⟩; refine ⟨_, rfl, hS.below hb1, ?_⟩; replace hS := hS.below hb1; replace h0 := below_look hb1 h0; replace h1 := below_look hb1 h1; replace h2 := below_look hb1 h2; replace hP := hP.below hb1; replace hb := hb.trans (hb1.mono hb.size); clear hb1; try simp only [put_lit, List.set_cons_zero, List.set_cons_succ]
      refine ha_store (i := 6) (by kernel_rfl) rfl rfl 84 _ _ rfl _ (iv (0 - a) A5 c5) rfl rfl 84 _ h0 info84 rfl (iv_one _ _ _) (hS.setRow (by simp) _) (fun hS => ?_); try simp only [put_lit, List.set_cons_zero, List.set_cons_succ]
      refine ha_store (i := 7) (by kernel_rfl) rfl rfl 84 _ _ rfl _ (iv (0 - b) A6 c6) rfl rfl 84 _ (hr_old h1 (by omega)) info84 rfl (iv_one _ _ _) (hS.setRow (by simp) _) (fun hS => ?_); try simp only [put_lit, List.set_cons_zero, List.set_cons_succ]
      refine wpAnyH_done (by kernel_rfl) ?_ _
      rw [← HP.out] at hP ⊢
      rw [← HNN.out] at hQ ⊢
      exact tail _ _ _ _ _ _ _ _ _ _ _ (hr_old (hr_new h0) (by omega)) (hr_new (hr_old h1 (by omega))) (hr_old (hr_old h2 (by omega)) (by omega)) ((hP.put h0 _).put (hr_old h1 (by omega)) _) ((hQ.put h0 _).put (hr_old h1 (by omega)) _) (below_setRow (below_setRow hb (by omega) _) (by omega) _)
  · refine sh_val (i := 4) rfl rfl (ex_row rfl (rowIv h1)) hS ?_; try simp only [put_lit, List.set_cons_zero, List.set_cons_succ]
    refine ha_do (i := 1) (by kernel_rfl) rfl rfl (ex_row rfl (rowIv h0)) hS ?_; try simp only [put_lit, List.set_cons_zero, List.set_cons_succ]
    refine ha_call (i := 2) (by kernel_rfl) rfl rfl (fun K hK => ?_); go_simp; refine ⟨_, _, ⟨rfl, rfl⟩, hK _ _ ⟨_, MinusI_any 0 a _ _ _ _ _ (IvAt.zero _) hX (by have := HN0.out; omega) (by have := HN0.out; omega), ?_⟩⟩; clear hK K; rintro e w1 ⟨A5, c5, rfl, hP, hb1⟩; refine ⟨_, rfl, hS.below hb1, ?_⟩; replace hS := hS.below hb1; replace h0 := below_look hb1 h0; replace h1 := below_look hb1 h1; replace h2 := below_look hb1 h2; replace hX := hX.below hb1; replace hY := hY.below hb1; replace hb := hb.trans (hb1.mono hb.size); clear hb1; try simp only [put_lit, List.set_cons_zero, List.set_cons_succ]
    refine ha_call (i := 5) (by kernel_rfl) rfl rfl (fun K hK => ?_); go_simp; refine ⟨_, _, ⟨rfl, rfl⟩, hK _ _ ⟨_, MinusI_any 0 b _ _ _ _ _ (IvAt.zero _) hY (by have := HN0.out; omega) (by have := HN0.out; omega), ?_⟩⟩; clear hK K; rintro e w2 ⟨A6, c6, rfl, hQ, hb1⟩; refine ⟨_, rfl, hS.below hb1, ?_⟩; replace hS := hS.below hb1; replace h0 := below_look hb1 h0; replace h1 := below_look hb1 h1; replace h2 := below_look hb1 h2; replace hP := hP.below hb1; replace hb := hb.trans (hb1.mono hb.size); clear hb1; try simp only [put_lit, List.set_cons_zero, List.set_cons_succ]
    refine ha_store (i := 6) (by kernel_rfl) rfl rfl 84 _ _ rfl _ (iv (0 - a) A5 c5) rfl rfl 84 _ h0 info84 rfl (iv_one _ _ _) (hS.setRow (by simp) _) (fun hS => ?_); try simp only [put_lit, List.set_cons_zero, List.set_cons_succ]
    refine ha_store (i := 7) (by kernel_rfl) rfl rfl 84 _ _ rfl _ (iv (0 - b) A6 c6) rfl rfl 84 _ (hr_old h1 (by omega)) info84 rfl (iv_one _ _ _) (hS.setRow (by simp) _) (fun hS => ?_); try simp only [put_lit, List.set_cons_zero, List.set_cons_succ]
    refine wpAnyH_done (by kernel_rfl) ?_ _
    rw [← HP.out] at hP ⊢
    rw [← HNN.out] at hQ ⊢
    exact tail _ _ _ _ _ _ _ _ _ _ _ (hr_old (hr_new h0) (by omega)) (hr_new (hr_old h1 (by omega))) (hr_old (hr_old h2 (by omega)) (by omega)) ((hP.put h0 _).put (hr_old h1 (by omega)) _) ((hQ.put h0 _).put (hr_old h1 (by omega)) _) (below_setRow (below_setRow hb (by omega) _) (by omega) _)
theorem roundedI_any (a b : Int) (A A' : Option Addr) (c c' : Nat) (m : ByteArray) (w : World) (hx : IvAt w a A c) (hy : IvAt w b A' c') (hn : nl a.natAbs ≤ 200) (hn' : nl b.natAbs ≤ 200) (hb0 : b ≠ 0) (HM : Hid (isRoundL m.data.toList = true)) (R : Int) (HR : Hid (R = roundS m.data.toList a b)) :
    Calls Try.prog 81 #[.agg (iv a A c), .agg (iv b A' c'), .string m] w fun e w' => ∃ A2 c2, e = .returned (.agg (iv R A2 c2)) ∧ IvAt w' R A2 c2 ∧ Below w.heap.size w w' := by
  by_cases h : 0 < b
  · exact roundedI_pos a b A A' c c' m w hx hy hn hn' h HM R HR
  · exact roundedN_any a b A A' c c' m w hx hy hn hn' (by omega) (0 - a) (0 - b) (Lib.hid rfl) (Lib.hid rfl) _ (Lib.hid rfl) HM R (Lib.hid (by rw [HR.out, roundS_turn _ _ _ hb0]))
end Go.Proofs.Ytclainfdeghgnaa

namespace Go.Proofs.Ytclainfdeghgnaa
open Go.RowKit Go.Proofs.Ytclainfdeghgnaa.Nm
theorem divBd {u1 k1 u2 k2 scale : Int} {m : List UInt8} (h : refusedS [(u1, k1), (u2, k2)] scale m = 0) (h0 : u2 ≠ 0) : DivBd u1 k1 u2 k2 scale := by
  obtain ⟨h1, h2, h3, h4⟩ := refused0 h
  obtain ⟨⟨v1, v2, v3, v4⟩, x1, x2, x3, x4⟩ := allD2 h1
  have a2 : 10 ^ (k2 + scale).toNat ≤ 10 ^ 18 := p10_le (by omega)
  have a3 : 10 ^ k1.toNat ≤ 10 ^ 9 := p10_le (by omega)
  have c1 : u1.natAbs ≤ 100000000000000000 := by omega
  have c2 : u2.natAbs ≤ 100000000000000000 := by omega
  have a4 : u1.natAbs * 10 ^ (k2 + scale).toNat ≤ 100000000000000000 * 10 ^ 18 := Nat.mul_le_mul c1 a2
  have a5 : u2.natAbs * 10 ^ k1.toNat ≤ 100000000000000000 * 10 ^ 9 := Nat.mul_le_mul c2 a3
  have a6 : 0 < u2.natAbs * 10 ^ k1.toNat := Nat.mul_pos (by omega) (Nat.pow_pos (by decide))
  refine ⟨by omega, by omega, by omega, by omega, by omega, by omega, v3, by omega, Nat.lt_of_le_of_lt a2 (by decide), Nat.lt_of_le_of_lt a3 (by decide), ?_, ?_, ?_, ?_, ?_⟩
  · rw [Int.natAbs_natCast]; exact Nat.lt_of_le_of_lt a4 (by decide)
  · rw [Int.natAbs_natCast]; exact Nat.lt_of_le_of_lt a5 (by decide)
  · rw [Int.natAbs_mul, Int.natAbs_natCast]; exact Nat.lt_of_le_of_lt a4 (by decide)
  · rw [Int.natAbs_mul, Int.natAbs_natCast]; exact a6
  · rw [Int.natAbs_mul, Int.natAbs_natCast]; exact Nat.lt_of_le_of_lt a5 (by decide)
def divZ (u1 k1 u2 k2 scale : Int) (m : List UInt8) : Int := roundS m (u1 * t10 (k2 + scale)) (u2 * t10 k1)
def divDS (u1 k1 u2 k2 scale : Int) (m : List UInt8) : Int × Int × Int :=
  if refusedS [(u1, k1), (u2, k2)] scale m = 0 then (if u2 = 0 then (0, 0, 70) else (madeU (divZ u1 k1 u2 k2 scale m), madeK (divZ u1 k1 u2 k2 scale m) scale, madeE (divZ u1 k1 u2 k2 scale m))) else (0, 0, refusedS [(u1, k1), (u2, k2)] scale m)
theorem Div_any (u1 k1 u2 k2 scale : Int) (m : ByteArray) (u' k' e : Int) (h : Hid (divDS u1 k1 u2 k2 scale m.data.toList = (u', k', e))) (w : World) :
    Calls Try.prog 24 #[.agg (dc u1 k1), .agg (dc u2 k2), .int .i64 scale, .string m] w fun e' w' => e' = .returned (.tuple #[.agg (dc u' k'), .int .i64 e]) ∧ Below w.heap.size w w' := by
  have h := h.out
  unfold divDS at h
  by_cases hv : refusedS [(u1, k1), (u2, k2)] scale m.data.toList = 0
  · rw [if_pos hv] at h
    by_cases h0 : u2 = 0
    · rw [if_pos h0] at h
      simp only [Prod.mk.injEq] at h
      obtain ⟨rfl, rfl, rfl⟩ := h
      exact Div_zero u1 k1 u2 k2 scale m 0 (Lib.hid hv.symm) rfl (Lib.hid h0) w
    · rw [if_neg h0] at h
      simp only [Prod.mk.injEq] at h
      obtain ⟨rfl, rfl, rfl⟩ := h
      obtain ⟨hd, hm, s0, s9⟩ := refused0 hv
      obtain ⟨_, x1, x2, x3, x4⟩ := allD2 hd
      have B := divBd hv h0
      refine Div_ok u1 k1 u2 k2 scale m 0 (Lib.hid hv.symm) rfl h0 (Lib.hid B) s0 s9 x3 x4 (Lib.hid hm) _ _ _ _ (Lib.hid rfl) (Lib.hid ?_) (Lib.hid rfl) (Lib.hid rfl) (Lib.hid rfl) w
      have h1 := roundS_bd m.data.toList (u1 * t10 (k2 + scale)) (u2 * t10 k1)
      have h2 : (u1 * t10 (k2 + scale)).natAbs < 10 ^ 63 := B.ra
      have h3 : (10 : Nat) ^ 63 + 1 < 10 ^ 64 := by decide
      exact Nat.lt_of_le_of_lt h1 (by omega)
  · rw [if_neg hv] at h
    simp only [Prod.mk.injEq] at h
    obtain ⟨rfl, rfl, rfl⟩ := h
    exact Div_refused u1 k1 u2 k2 scale m _ (Lib.hid rfl) hv w
end Go.Proofs.Ytclainfdeghgnaa

namespace Go.Proofs.Ytclainfdeghgnaa.Nm
open Go.RowKit
theorem Kept.setNew {D : List Nat} {p : Nat} {W w : World} (h : Kept D W w) (hm : W.heap.size ≤ p) (cs : Array Value) : Kept D W (w.setRow p cs) :=
  ⟨by simpa using h.1, fun k hk hp => by rw [setRow_other w p k cs (fun e => by omega)]; exact h.2 k hk hp⟩
section
variable {P : Program} {ops : Array Oper} {Q : Exit → Act → World → Prop} {md : Region.Mode} {D : List Nat} {W : World} {i : Nat} {oi : Oper} {fuel : Nat} {listed : Array Bool} {a : Act} {w : World} {z : Array Value} {ty : TypeId}
theorem ha_mk (hr : Region.ready md ops listed = [i]) (ho : ops[i]? = some oi) (hg : Region.wanted oi (yielded ops a.tmps) = true)
    (hal : ∀ ev w, (execOp ev oi).run P w = .ok (.value (.pointer (some ⟨w.heap.size, 0, none⟩))) (w.alloc (.cells z ty))) (hS : Kept D W w)
    (h : ∀ w' p, Below w.heap.size w w' → W.heap.size ≤ p → w.heap.size ≤ p → w'.heap[p]? = some (.cells z ty) → Kept D W w' → wpAnyH P md ops Q (Kept D W) fuel (listed.setIfInBounds i true) (a.put oi.dst (.pointer (some ⟨p, 0, none⟩))) w') :
    wpAnyH P md ops Q (Kept D W) (fuel + 1) listed a w := by
  have hb : Below w.heap.size w (w.alloc (.cells z ty)) := (Below.refl _ _).alloc (Nat.le_refl _) _
  refine ha_do hr ho hg (hal a.eval w) (hS.below hb) ?_
  exact h _ _ hb hS.1 (Nat.le_refl _) (ha_new rfl) (hS.below hb)
theorem sh_mk (ho : ops[i]? = some oi) (hg : Region.wanted oi (yielded ops a.tmps) = true)
    (hal : ∀ ev w, (execOp ev oi).run P w = .ok (.value (.pointer (some ⟨w.heap.size, 0, none⟩))) (w.alloc (.cells z ty))) (hS : Kept D W w)
    (h : ∀ w' p, Below w.heap.size w w' → W.heap.size ≤ p → w.heap.size ≤ p → w'.heap[p]? = some (.cells z ty) → Kept D W w' → wpAnyH P md ops Q (Kept D W) fuel (listed.setIfInBounds i true) (a.put oi.dst (.pointer (some ⟨p, 0, none⟩))) w') :
    StepH P md ops Q (Kept D W) fuel listed a w i := by
  have hb : Below w.heap.size w (w.alloc (.cells z ty)) := (Below.refl _ _).alloc (Nat.le_refl _) _
  unfold StepH wpOp
  simp only [ho]
  rw [if_pos hg]
  refine .inl ?_
  unfold Oper.wp
  rw [hal]
  exact ⟨hS.below hb, h _ _ hb hS.1 (Nat.le_refl _) (ha_new rfl) (hS.below hb)⟩
end
end Go.Proofs.Ytclainfdeghgnaa.Nm

namespace Go.Proofs.Ytclainfdeghgnaa
open Go.RowKit Go.Proofs.Ytclainfdeghgnaa.Nm Go.Proofs.Ytclainfdeghgnaa.Lm
theorem ex_alloc84i {o : Oper} (ho : o.op = .alloc 84) (ev : Operand → Value) (w : World) : (execOp ev o).run Try.prog w = .ok (.value (.pointer (some ⟨w.heap.size, 0, none⟩))) (w.alloc (.cells (iv 0 none 0) 84)) := by
  rw [iv_zero]
  unfold execOp
  simp only [ho]
  kernel_rfl
set_option maxHeartbeats 1000000 in
theorem DivI_bad (u1 k1 u2 k2 scale : Int) (m : ByteArray) (E : Int) (HE : Hid (E = refusedS [(u1, k1), (u2, k2)] scale m.data.toList)) (hE : E ≠ 0) (w : World) :
    Calls Try.prog 25 #[.agg (dc u1 k1), .agg (dc u2 k2), .int .i64 scale, .string m] w fun e' w' => e' = .returned (.tuple #[.agg (dc 0 0), .int .i64 E]) ∧ Below w.heap.size w w' := by
  go_enter Try.func25, Try.ntmps25
  go_upto_region 1 with (fail)
  refine wp_world (fun W => W.heap[w.heap.size]? = some (.cells (dc u1 k1) 33 (0, 0)) ∧ W.heap[w.heap.size + 1]? = some (.cells (dc u2 k2) 33 (0, 0)) ∧ W.heap[w.heap.size + 1 + 1]? = some (.cells (dc 0 0) 33 (0, 0)) ∧ Below w.heap.size w W) ⟨ha_old (ha_old (ha_new rfl)), ha_old (ha_new (by simp)), ha_new (by simp), (((Below.refl _ _).alloc (Nat.le_refl _) _).alloc (by simp) _).alloc (by simp; omega) _⟩ ?_
  rintro W ⟨h0, h1, h2, hb⟩
  apply wp_region_lit
  ((with_reducible apply wl_rowG); exact rfl; exact rfl; exact rowDc h0)
  ((with_reducible apply wl_rowG); exact rfl; exact rfl; exact rowDc h1)
  refine wl_k rfl (fun K hK => ?_); go_simp; refine hK _ ?_; clear hK K
  refine wl_k rfl (fun K hK => ?_); go_simp; refine hK _ ?_; clear hK K
  refine wl_ck rfl (fun K hK => ?_); go_simp; refine ⟨_, _, ⟨rfl, rfl⟩, hK _ _ ⟨_, askedI_any u1 k1 u2 k2 scale m E HE _, ?_⟩⟩; clear hK K; rintro e w1 ⟨rfl, hb1⟩; refine ⟨_, rfl, ?_⟩; simp only [put_lit, List.set_cons_zero, List.set_cons_succ]
  replace h0 := below_look hb1 h0; replace h1 := below_look hb1 h1; replace h2 := below_look hb1 h2; replace hb := hb.trans (hb1.mono hb.size); clear hb1
  have c0 := dc0 h2
  have c1 := dc1 h2
  have f0 : w1.frozen? ⟨w.heap.size + 1 + 1, 0, none⟩ = false := frozen_of_row _ _ _ _ _ h2
  have f1 : w1.frozen? ⟨w.heap.size + 1 + 1, 1, none⟩ = false := frozen_of_row _ _ _ _ _ h2
  go_wp2_with fail
  exact bodyPost_ret (res_decErr rfl _ _ (w.heap.size + 1 + 1) rfl ((hs_new (hs_new h2)).trans rfl)) rfl ⟨rfl, (hb.setCell (by simp; omega) _).setCell (by simp; omega) _⟩
set_option maxHeartbeats 1000000 in
theorem DivI_zero (u1 k1 u2 k2 scale : Int) (m : ByteArray) (E : Int) (HE : Hid (E = refusedS [(u1, k1), (u2, k2)] scale m.data.toList)) (hE : E = 0) (hu0 : Hid (u2 = 0)) (w : World) :
    Calls Try.prog 25 #[.agg (dc u1 k1), .agg (dc u2 k2), .int .i64 scale, .string m] w fun e' w' => e' = .returned (.tuple #[.agg (dc 0 0), .int .i64 70]) ∧ Below w.heap.size w w' := by
  go_enter Try.func25, Try.ntmps25
  go_upto_region 1 with (fail)
  refine wp_world (fun W => W.heap[w.heap.size]? = some (.cells (dc u1 k1) 33 (0, 0)) ∧ W.heap[w.heap.size + 1]? = some (.cells (dc u2 k2) 33 (0, 0)) ∧ W.heap[w.heap.size + 1 + 1]? = some (.cells (dc 0 0) 33 (0, 0)) ∧ Below w.heap.size w W) ⟨ha_old (ha_old (ha_new rfl)), ha_old (ha_new (by simp)), ha_new (by simp), (((Below.refl _ _).alloc (Nat.le_refl _) _).alloc (by simp) _).alloc (by simp; omega) _⟩ ?_
  rintro W ⟨h0, h1, h2, hb⟩
  apply wp_region_lit
  ((with_reducible apply wl_rowG); exact rfl; exact rfl; exact rowDc h0)
  ((with_reducible apply wl_rowG); exact rfl; exact rfl; exact rowDc h1)
  refine wl_k rfl (fun K hK => ?_); go_simp; refine hK _ ?_; clear hK K
  refine wl_k rfl (fun K hK => ?_); go_simp; refine hK _ ?_; clear hK K
  refine wl_ck rfl (fun K hK => ?_); go_simp; refine ⟨_, _, ⟨rfl, rfl⟩, hK _ _ ⟨_, askedI_any u1 k1 u2 k2 scale m E HE _, ?_⟩⟩; clear hK K; rintro e w1 ⟨rfl, hb1⟩; refine ⟨_, rfl, ?_⟩; simp only [put_lit, List.set_cons_zero, List.set_cons_succ]
  replace h0 := below_look hb1 h0; replace h1 := below_look hb1 h1; replace h2 := below_look hb1 h2; replace hb := hb.trans (hb1.mono hb.size); clear hb1
  subst hE
  have b0 := dc0 h1
  rw [hu0.out] at b0
  have c0 := dc0 h2
  have c1 := dc1 h2
  have f0 : w1.frozen? ⟨w.heap.size + 1 + 1, 0, none⟩ = false := frozen_of_row _ _ _ _ _ h2
  have f1 : w1.frozen? ⟨w.heap.size + 1 + 1, 1, none⟩ = false := frozen_of_row _ _ _ _ _ h2
  go_wp2_with fail
  exact bodyPost_ret (res_decErr rfl _ _ (w.heap.size + 1 + 1) rfl ((hs_new (hs_new h2)).trans rfl)) rfl ⟨rfl, (hb.setCell (by simp; omega) _).setCell (by simp; omega) _⟩
set_option maxHeartbeats 40000000 in
set_option maxRecDepth 100000 in
theorem DivI_good (u1 k1 u2 k2 scale : Int) (m : ByteArray) (E : Int) (HE : Hid (E = refusedS [(u1, k1), (u2, k2)] scale m.data.toList)) (hE : E = 0) (hz0 : u2 ≠ 0) (HM : Hid (isRoundL m.data.toList = true)) (DB : Hid (DivBd u1 k1 u2 k2 scale)) (K12 : Hid (0 ≤ k1 ∧ k1 ≤ 9 ∧ 0 ≤ k2 ∧ k2 ≤ 9 ∧ 0 ≤ scale ∧ scale ≤ 9 ∧ nl u1.natAbs ≤ 3 ∧ nl u2.natAbs ≤ 3))
    (x y z : Int) (HX : Hid (x = u1 * t10 (k2 + scale))) (HY : Hid (y = u2 * t10 k1)) (HZ : Hid (z = roundS m.data.toList x y)) (u' k' e : Int) (hu : Hid (u' = madeU z)) (hk : Hid (k' = madeK z scale)) (he : Hid (e = madeE z)) (w : World) :
    Calls Try.prog 25 #[.agg (dc u1 k1), .agg (dc u2 k2), .int .i64 scale, .string m] w fun e' w' => e' = .returned (.tuple #[.agg (dc u' k'), .int .i64 e]) ∧ Below w.heap.size w w' := by
  have NX : Hid (nl x.natAbs ≤ 7) := Lib.hid (nl_63 (by rw [HX.out]; exact Nat.le_of_lt DB.out.ra))
  have NY : Hid (nl y.natAbs ≤ 7) := Lib.hid (nl_63 (by rw [HY.out]; exact Nat.le_of_lt DB.out.rb1))
  have NZ : Hid (nl z.natAbs ≤ 7) := Lib.hid (nl_63 (by
    have h1 := roundS_bd m.data.toList x y
    have h2 : (u1 * t10 (k2 + scale)).natAbs < 10 ^ 63 := DB.out.ra
    rw [HX.out] at h1
    rw [HZ.out, HX.out]
    omega))
  have YP : Hid (y ≠ 0) := Lib.hid (by rw [HY.out]; exact Int.mul_ne_zero hz0 (by have := t10_pos k1; omega))
  have hzb : (u2 == 0) = false := by simpa using hz0
  have i1 : IntKind.i64.wrap (k2 + scale) = k2 + scale := IntWalk.i64_in _ (by have := K12.out; omega)
  go_enter Try.func25, Try.ntmps25
  go_upto_region 1 with (fail)
  refine wp_world (fun W => W.heap[w.heap.size]? = some (.cells (dc u1 k1) 33 (0, 0)) ∧ W.heap[w.heap.size + 1]? = some (.cells (dc u2 k2) 33 (0, 0)) ∧ W.heap[w.heap.size + 1 + 1]? = some (.cells (dc 0 0) 33 (0, 0)) ∧ Below w.heap.size w W) ⟨ha_old (ha_old (ha_new rfl)), ha_old (ha_new (by simp)), ha_new (by simp), (((Below.refl _ _).alloc (Nat.le_refl _) _).alloc (by simp) _).alloc (by simp; omega) _⟩ ?_
  rintro W ⟨h0, h1, h2, hb⟩
  apply wp_region_lit
  ((with_reducible apply wl_rowG); exact rfl; exact rfl; exact rowDc h0)
  ((with_reducible apply wl_rowG); exact rfl; exact rfl; exact rowDc h1)
  refine wl_k rfl (fun K hK => ?_); go_simp; refine hK _ ?_; clear hK K
  refine wl_k rfl (fun K hK => ?_); go_simp; refine hK _ ?_; clear hK K
  refine wl_ck rfl (fun K hK => ?_); go_simp; refine ⟨_, _, ⟨rfl, rfl⟩, hK _ _ ⟨_, askedI_any u1 k1 u2 k2 scale m E HE _, ?_⟩⟩; clear hK K; rintro e w1 ⟨rfl, hb1⟩; refine ⟨_, rfl, ?_⟩; simp only [put_lit, List.set_cons_zero, List.set_cons_succ]
  replace h0 := below_look hb1 h0; replace h1 := below_look hb1 h1; replace h2 := below_look hb1 h2; replace hb := hb.trans (hb1.mono hb.size); clear hb1
  subst hE
  have a0 := dc0 h0
  have b1 := dc1 h1
  have b0 := dc0 h1
  go_upto_region 6 with (fail)
  clear b0
  have L0 := heap_lt h0
  have L1 := heap_lt h1
  have L2 := heap_lt h2
  have L3 := hb.size
  rename_i K hK
  have tail : ∀ (p11 : Nat) (A : Option Addr) (c : Nat) (t23 t26 t27 t29 t30 t31 t32 t33 : Value) (wz : World), w.heap.size + 1 + 1 < p11 → wz.heap[w.heap.size]? = some (.cells (dc u1 k1) 33 (0, 0)) → wz.heap[w.heap.size + 1]? = some (.cells (dc u2 k2) 33 (0, 0)) → wz.heap[w.heap.size + 1 + 1]? = some (.cells (dc 0 0) 33 (0, 0)) → wz.heap[p11]? = some (.cells (iv x A c) 84 (0, 0)) → IvAt wz x A c → Below w.heap.size w wz →
      K ⟨#[.agg (dc u1 k1), .agg (dc u2 k2), .int .i64 scale, .string m, .pointer (some ⟨w.heap.size, 0, none⟩), .pointer (some ⟨w.heap.size + 1, 0, none⟩), undef, undef, .pointer (some ⟨w.heap.size + 1 + 1, 0, none⟩), .int .i64 0, .int .i64 0, .pointer (some ⟨p11, 0, none⟩), .agg (dc u1 k1), .agg (dc u2 k2), .int .i64 scale, .string m, .int .i64 0, .int .i64 0, .bool false, undef, undef, .pointer (some ⟨w.heap.size + 1, 0, none⟩), .int .i64 u2, .bool false, undef, .pointer (some ⟨w.heap.size, 0, none⟩), t26, t27, .pointer (some ⟨w.heap.size + 1, 1, none⟩), t29, t30, t31, t32, t33, undef, undef, undef, undef, undef, undef, undef, undef, undef, undef, undef, undef, undef, undef], []⟩ wz := by
    intro p11 A c t23 t26 t27 t29 t30 t31 t32 t33 wz hlt h0 h1 h2 hp11 j5 hb
    apply hK
    clear hK a0 b1 L0 L1 L2 L3
    have b0 := dc0 h1
    have a1 := dc1 h0
    go_upto_region 7 with (fail)
    replace j5 := j5.below (Below.refl _ _).drew
    replace hb := hb.drew
    refine wp_region_held_drew (S := Kept [w.heap.size + 1 + 1] wz) mixed (Kept.drew [w.heap.size + 1 + 1] wz) (fun hS => ?_)
    refine ha_val (i := 0) rfl (by kernel_rfl) (by kernel_rfl) (by kernel_rfl) (fun _ _ _ h => h) hS rfl (fun w' hw' => ex_row rfl (rowIv (hw'.look hp11 (by simp <;> omega)))) ?_
    refine ha_k (i := 1) rfl (by kernel_rfl) (by kernel_rfl) (by kernel_rfl) (fun _ _ _ _ h => h) hS rfl (fun K hK => ?_); go_simp; refine hK _ ?_; clear hK K; try simp only [put_lit, List.set_cons_zero, List.set_cons_succ]
    refine ha_val (i := 2) rfl (by kernel_rfl) (by kernel_rfl) (by kernel_rfl) (fun _ _ _ h => h) hS rfl (fun w' hw' => ex_one rfl (one3 (hw'.cell b0 (by simp <;> omega)))) ?_; try simp only [put_lit, List.set_cons_zero, List.set_cons_succ]
    refine ha_k (i := 4) rfl (by kernel_rfl) (by kernel_rfl) (by kernel_rfl) (fun _ _ _ _ h => h) hS rfl (fun K hK => ?_); go_simp; refine hK _ ?_; clear hK K; try simp only [put_lit, List.set_cons_zero, List.set_cons_succ]
    refine ha_val (i := 5) rfl (by kernel_rfl) (by kernel_rfl) (by kernel_rfl) (fun _ _ _ h => h) hS rfl (fun w' hw' => ex_one rfl (one3 (hw'.cell a1 (by simp <;> omega)))) ?_; try simp only [put_lit, List.set_cons_zero, List.set_cons_succ]
    refine ha_k (i := 8) rfl (by kernel_rfl) (by kernel_rfl) (by kernel_rfl) (fun _ _ _ _ h => h) hS rfl (fun K hK => ?_); go_simp; refine hK _ ?_; clear hK K; try simp only [put_lit, List.set_cons_zero, List.set_cons_succ]
    refine ha_k (i := 10) rfl (by kernel_rfl) (by kernel_rfl) (by kernel_rfl) (fun _ _ _ _ h => h) hS rfl (fun K hK => ?_); go_simp; refine hK _ ?_; clear hK K; try simp only [put_lit, List.set_cons_zero, List.set_cons_succ]
    refine ha_call (i := 3) (by kernel_rfl) rfl rfl (fun K hK => ?_); go_simp; refine ⟨_, _, ⟨rfl, rfl⟩, hK _ _ ⟨_, Of_any u2 DB.out.b1 DB.out.b2 _, ?_⟩⟩; clear hK K; rintro e v1 ⟨B1, d1, rfl, j6, hb1⟩; refine ⟨_, rfl, hS.below hb1, ?_⟩; replace hS := hS.below hb1; replace h2 := below_look hb1 h2; replace j5 := j5.below hb1; replace hb := hb.trans (hb1.mono hb.size); clear hb1; try simp only [put_lit, List.set_cons_zero, List.set_cons_succ]
    refine ha_call (i := 6) (by kernel_rfl) rfl rfl (fun K hK => ?_); go_simp; refine ⟨_, _, ⟨rfl, rfl⟩, hK _ _ ⟨_, TensT_any k1 (by have := K12.out; omega) (by have := K12.out; omega) _, ?_⟩⟩; clear hK K; rintro e v2 ⟨B2, d2, rfl, j7, hb1⟩; refine ⟨_, rfl, hS.below hb1, ?_⟩; replace hS := hS.below hb1; replace h2 := below_look hb1 h2; replace j5 := j5.below hb1; replace j6 := j6.below hb1; replace hb := hb.trans (hb1.mono hb.size); clear hb1; try simp only [put_lit, List.set_cons_zero, List.set_cons_succ]
    refine ha_call (i := 7) (by kernel_rfl) rfl rfl (fun K hK => ?_); go_simp; refine ⟨_, _, ⟨rfl, rfl⟩, hK _ _ ⟨_, TimesI_any _ _ _ _ _ _ _ j6 j7 (by have := K12.out; omega) (by have := nl_t10 (x := k1) (by have := K12.out; omega); omega), ?_⟩⟩; clear hK K; rintro e v3 ⟨B3, d3, rfl, j8, hb1⟩; refine ⟨_, rfl, hS.below hb1, ?_⟩; replace hS := hS.below hb1; replace h2 := below_look hb1 h2; replace j5 := j5.below hb1; replace hb := hb.trans (hb1.mono hb.size); clear hb1; rw [← HY.out] at j8 ⊢; try simp only [put_lit, List.set_cons_zero, List.set_cons_succ]
    refine ha_call (i := 9) (by kernel_rfl) rfl rfl (fun K hK => ?_); go_simp; refine ⟨_, _, ⟨rfl, rfl⟩, hK _ _ ⟨_, roundedI_any x y _ _ _ _ m _ j5 j8 (by have := NX.out; omega) (by have := NY.out; omega) YP.out HM z HZ, ?_⟩⟩; clear hK K; rintro e v4 ⟨B4, d4, rfl, j9, hb1⟩; refine ⟨_, rfl, hS.below hb1, ?_⟩; replace hS := hS.below hb1; replace h2 := below_look hb1 h2; replace hb := hb.trans (hb1.mono hb.size); clear hb1; try simp only [put_lit, List.set_cons_zero, List.set_cons_succ]
    refine ha_call (i := 11) (by kernel_rfl) rfl rfl (fun K hK => ?_); go_simp; refine ⟨_, _, ⟨rfl, rfl⟩, hK _ _ ⟨_, decimal_any z scale _ _ _ j9 (by have := NZ.out; omega) u' k' e hu hk he, ?_⟩⟩; clear hK K; rintro e v5 ⟨rfl, hb1⟩; refine ⟨_, rfl, hS.below hb1, ?_⟩; replace hS := hS.below hb1; replace h2 := below_look hb1 h2; replace hb := hb.trans (hb1.mono hb.size); clear hb1; try simp only [put_lit, List.set_cons_zero, List.set_cons_succ]
    refine ha_k (i := 12) rfl (by kernel_rfl) (by kernel_rfl) (by kernel_rfl) (fun _ _ _ _ h => h) hS rfl (fun K hK => ?_); go_simp; refine hK _ ?_; clear hK K; try simp only [put_lit, List.set_cons_zero, List.set_cons_succ]
    refine ha_k (i := 13) rfl (by kernel_rfl) (by kernel_rfl) (by kernel_rfl) (fun _ _ _ _ h => h) hS rfl (fun K hK => ?_); go_simp; refine hK _ ?_; clear hK K; try simp only [put_lit, List.set_cons_zero, List.set_cons_succ]
    refine ha_store (i := 14) (by kernel_rfl) rfl rfl 33 _ _ rfl _ (dc (u') (k')) rfl rfl 33 _ h2 info33 rfl (by simp [dc, Value.oneCell']) (hS.setRow (by simp) _) (fun hS => ?_); try simp only [put_lit, List.set_cons_zero, List.set_cons_succ]
    refine ha_k (i := 15) rfl (by kernel_rfl) (by kernel_rfl) (by kernel_rfl) (fun _ _ _ _ h => h) hS rfl (fun K hK => ?_); go_simp; refine hK _ ?_; clear hK K; try simp only [put_lit, List.set_cons_zero, List.set_cons_succ]
    refine wpAnyH_done (by kernel_rfl) ?_ _
    clear b0 a1
    go_wp2_with fail
    exact bodyPost_ret (res_decErr rfl _ _ (w.heap.size + 1 + 1) rfl (hr_new h2)) rfl ⟨rfl, below_setRow hb (by omega) _⟩
  clear hK
  replace hb := hb.drew
  refine wp_region_held_drew (S := Kept [] w1) mixed (Kept.drew [] w1) (fun hS => ?_)
  refine ha_k (i := 0) rfl (by kernel_rfl) (by kernel_rfl) (by kernel_rfl) (fun _ _ _ _ h => h) hS rfl (fun K hK => ?_); go_simp; refine hK _ ?_; clear hK K; try simp only [put_lit, List.set_cons_zero, List.set_cons_succ]
  refine ha_val (i := 1) rfl (by kernel_rfl) (by kernel_rfl) (by kernel_rfl) (fun _ _ _ h => h) hS rfl (fun w' hw' => ex_one rfl (one3 (hw'.cell a0 (by simp <;> omega)))) ?_; try simp only [put_lit, List.set_cons_zero, List.set_cons_succ]
  refine ha_k (i := 3) rfl (by kernel_rfl) (by kernel_rfl) (by kernel_rfl) (fun _ _ _ _ h => h) hS rfl (fun K hK => ?_); go_simp; refine hK _ ?_; clear hK K; try simp only [put_lit, List.set_cons_zero, List.set_cons_succ]
  refine ha_val (i := 4) rfl (by kernel_rfl) (by kernel_rfl) (by kernel_rfl) (fun _ _ _ h => h) hS rfl (fun w' hw' => ex_one rfl (one3 (hw'.cell b1 (by simp <;> omega)))) ?_; try simp only [put_lit, List.set_cons_zero, List.set_cons_succ]
  refine ha_k (i := 5) rfl (by kernel_rfl) (by kernel_rfl) (by kernel_rfl) (fun _ _ _ _ h => h) hS rfl (fun K hK => ?_); go_simp; refine hK _ ?_; clear hK K; try simp only [put_lit, List.set_cons_zero, List.set_cons_succ]
  refine ha_k (i := 6) rfl (by kernel_rfl) (by kernel_rfl) (by kernel_rfl) (fun _ _ _ _ h => h) hS rfl (fun K hK => ?_); go_simp; refine hK _ ?_; clear hK K; try simp only [put_lit, List.set_cons_zero, List.set_cons_succ]
  refine ha_two (i := 2) (j := 9) (by kernel_rfl) ?_ ?_
  · refine sh_call (i := 2) rfl rfl (fun K hK => ?_); go_simp; refine ⟨_, _, ⟨rfl, rfl⟩, hK _ _ ⟨_, Of_any u1 DB.out.a1 DB.out.a2 _, ?_⟩⟩; clear hK K; rintro e w2 ⟨A2, c2, rfl, j1, hb1⟩; refine ⟨_, rfl, hS.below hb1, ?_⟩; replace hS := hS.below hb1; replace h0 := below_look hb1 h0; replace h1 := below_look hb1 h1; replace h2 := below_look hb1 h2; replace hb := hb.trans (hb1.mono hb.size); clear hb1; try simp only [put_lit, List.set_cons_zero, List.set_cons_succ]
    refine ha_two (i := 7) (j := 9) (by kernel_rfl) ?_ ?_
    · refine sh_call (i := 7) rfl rfl (fun K hK => ?_); go_simp; refine ⟨_, _, ⟨rfl, rfl⟩, hK _ _ ⟨_, TensT_any (k2 + scale) (by have := K12.out; omega) (by have := K12.out; omega) _, ?_⟩⟩; clear hK K; rintro e w3 ⟨A3, c3, rfl, j2, hb1⟩; refine ⟨_, rfl, hS.below hb1, ?_⟩; replace hS := hS.below hb1; replace h0 := below_look hb1 h0; replace h1 := below_look hb1 h1; replace h2 := below_look hb1 h2; replace j1 := j1.below hb1; replace hb := hb.trans (hb1.mono hb.size); clear hb1; try simp only [put_lit, List.set_cons_zero, List.set_cons_succ]
      refine ha_two (i := 8) (j := 9) (by kernel_rfl) ?_ ?_
      · refine sh_call (i := 8) rfl rfl (fun K hK => ?_); go_simp; refine ⟨_, _, ⟨rfl, rfl⟩, hK _ _ ⟨_, TimesI_any _ _ _ _ _ _ _ j1 j2 (by have := K12.out; omega) (by have := nl_t10 (x := k2 + scale) (by have := K12.out; omega); omega), ?_⟩⟩; clear hK K; rintro e w4 ⟨A4, c4, rfl, j5, hb1⟩; refine ⟨_, rfl, hS.below hb1, ?_⟩; replace hS := hS.below hb1; replace h0 := below_look hb1 h0; replace h1 := below_look hb1 h1; replace h2 := below_look hb1 h2; replace hb := hb.trans (hb1.mono hb.size); clear hb1; rw [← HX.out] at j5 ⊢; try simp only [put_lit, List.set_cons_zero, List.set_cons_succ]
        refine ha_mk (i := 9) (by kernel_rfl) rfl rfl (fun ev w' => ex_alloc84i rfl ev w') hS (fun w5 p11 hb1 hLp11 hlp11 hp11 hS => ?_); replace h0 := below_look hb1 h0; replace h1 := below_look hb1 h1; replace h2 := below_look hb1 h2; replace j5 := j5.below hb1; replace hb := hb.trans (hb1.mono hb.size); clear hb1; try simp only [put_lit, List.set_cons_zero, List.set_cons_succ]
        refine ha_store (i := 10) (by kernel_rfl) rfl rfl 84 _ _ rfl _ (iv x A4 c4) rfl rfl 84 _ hp11 info84 rfl (iv_one _ _ _) (hS.setNew (by omega) _) (fun hS => ?_); try simp only [put_lit, List.set_cons_zero, List.set_cons_succ]
        refine wpAnyH_done (by kernel_rfl) ?_ _
        replace h0 := hr_old (g := p11) (cs := iv x A4 c4) h0 (by omega)
        replace h1 := hr_old (g := p11) (cs := iv x A4 c4) h1 (by omega)
        replace h2 := hr_old (g := p11) (cs := iv x A4 c4) h2 (by omega)
        replace hb := below_setRow hb (g := p11) (by omega) (iv x A4 c4)
        replace j5 := j5.put hp11 (iv x A4 c4)
        replace hp11 := hr_new (cs := iv x A4 c4) hp11
        exact tail p11 A4 c4 undef _ _ _ _ _ _ _ _ (by omega) h0 h1 h2 hp11 j5 hb
      · refine sh_mk (i := 9) rfl rfl (fun ev w' => ex_alloc84i rfl ev w') hS (fun w4 p11 hb1 hLp11 hlp11 hp11 hS => ?_); replace h0 := below_look hb1 h0; replace h1 := below_look hb1 h1; replace h2 := below_look hb1 h2; replace j1 := j1.below hb1; replace j2 := j2.below hb1; replace hb := hb.trans (hb1.mono hb.size); clear hb1; try simp only [put_lit, List.set_cons_zero, List.set_cons_succ]
        refine ha_call (i := 8) (by kernel_rfl) rfl rfl (fun K hK => ?_); go_simp; refine ⟨_, _, ⟨rfl, rfl⟩, hK _ _ ⟨_, TimesI_any _ _ _ _ _ _ _ j1 j2 (by have := K12.out; omega) (by have := nl_t10 (x := k2 + scale) (by have := K12.out; omega); omega), ?_⟩⟩; clear hK K; rintro e w5 ⟨A5, c5, rfl, j5, hb1⟩; refine ⟨_, rfl, hS.below hb1, ?_⟩; replace hS := hS.below hb1; replace h0 := below_look hb1 h0; replace h1 := below_look hb1 h1; replace h2 := below_look hb1 h2; replace hp11 := below_look hb1 hp11; replace hb := hb.trans (hb1.mono hb.size); clear hb1; rw [← HX.out] at j5 ⊢; try simp only [put_lit, List.set_cons_zero, List.set_cons_succ]
        refine ha_store (i := 10) (by kernel_rfl) rfl rfl 84 _ _ rfl _ (iv x A5 c5) rfl rfl 84 _ hp11 info84 rfl (iv_one _ _ _) (hS.setNew (by omega) _) (fun hS => ?_); try simp only [put_lit, List.set_cons_zero, List.set_cons_succ]
        refine wpAnyH_done (by kernel_rfl) ?_ _
        replace h0 := hr_old (g := p11) (cs := iv x A5 c5) h0 (by omega)
        replace h1 := hr_old (g := p11) (cs := iv x A5 c5) h1 (by omega)
        replace h2 := hr_old (g := p11) (cs := iv x A5 c5) h2 (by omega)
        replace hb := below_setRow hb (g := p11) (by omega) (iv x A5 c5)
        replace j5 := j5.put hp11 (iv x A5 c5)
        replace hp11 := hr_new (cs := iv x A5 c5) hp11
        exact tail p11 A5 c5 undef _ _ _ _ _ _ _ _ (by omega) h0 h1 h2 hp11 j5 hb
    · refine sh_mk (i := 9) rfl rfl (fun ev w' => ex_alloc84i rfl ev w') hS (fun w3 p11 hb1 hLp11 hlp11 hp11 hS => ?_); replace h0 := below_look hb1 h0; replace h1 := below_look hb1 h1; replace h2 := below_look hb1 h2; replace j1 := j1.below hb1; replace hb := hb.trans (hb1.mono hb.size); clear hb1; try simp only [put_lit, List.set_cons_zero, List.set_cons_succ]
      refine ha_call (i := 7) (by kernel_rfl) rfl rfl (fun K hK => ?_); go_simp; refine ⟨_, _, ⟨rfl, rfl⟩, hK _ _ ⟨_, TensT_any (k2 + scale) (by have := K12.out; omega) (by have := K12.out; omega) _, ?_⟩⟩; clear hK K; rintro e w4 ⟨A4, c4, rfl, j2, hb1⟩; refine ⟨_, rfl, hS.below hb1, ?_⟩; replace hS := hS.below hb1; replace h0 := below_look hb1 h0; replace h1 := below_look hb1 h1; replace h2 := below_look hb1 h2; replace hp11 := below_look hb1 hp11; replace j1 := j1.below hb1; replace hb := hb.trans (hb1.mono hb.size); clear hb1; try simp only [put_lit, List.set_cons_zero, List.set_cons_succ]
      refine ha_call (i := 8) (by kernel_rfl) rfl rfl (fun K hK => ?_); go_simp; refine ⟨_, _, ⟨rfl, rfl⟩, hK _ _ ⟨_, TimesI_any _ _ _ _ _ _ _ j1 j2 (by have := K12.out; omega) (by have := nl_t10 (x := k2 + scale) (by have := K12.out; omega); omega), ?_⟩⟩; clear hK K; rintro e w5 ⟨A5, c5, rfl, j5, hb1⟩; refine ⟨_, rfl, hS.below hb1, ?_⟩; replace hS := hS.below hb1; replace h0 := below_look hb1 h0; replace h1 := below_look hb1 h1; replace h2 := below_look hb1 h2; replace hp11 := below_look hb1 hp11; replace hb := hb.trans (hb1.mono hb.size); clear hb1; rw [← HX.out] at j5 ⊢; try simp only [put_lit, List.set_cons_zero, List.set_cons_succ]
      refine ha_store (i := 10) (by kernel_rfl) rfl rfl 84 _ _ rfl _ (iv x A5 c5) rfl rfl 84 _ hp11 info84 rfl (iv_one _ _ _) (hS.setNew (by omega) _) (fun hS => ?_); try simp only [put_lit, List.set_cons_zero, List.set_cons_succ]
      refine wpAnyH_done (by kernel_rfl) ?_ _
      replace h0 := hr_old (g := p11) (cs := iv x A5 c5) h0 (by omega)
      replace h1 := hr_old (g := p11) (cs := iv x A5 c5) h1 (by omega)
      replace h2 := hr_old (g := p11) (cs := iv x A5 c5) h2 (by omega)
      replace hb := below_setRow hb (g := p11) (by omega) (iv x A5 c5)
      replace j5 := j5.put hp11 (iv x A5 c5)
      replace hp11 := hr_new (cs := iv x A5 c5) hp11
      exact tail p11 A5 c5 undef _ _ _ _ _ _ _ _ (by omega) h0 h1 h2 hp11 j5 hb
  · refine sh_mk (i := 9) rfl rfl (fun ev w' => ex_alloc84i rfl ev w') hS (fun w2 p11 hb1 hLp11 hlp11 hp11 hS => ?_); replace h0 := below_look hb1 h0; replace h1 := below_look hb1 h1; replace h2 := below_look hb1 h2; replace hb := hb.trans (hb1.mono hb.size); clear hb1; try simp only [put_lit, List.set_cons_zero, List.set_cons_succ]
    refine ha_call (i := 2) (by kernel_rfl) rfl rfl (fun K hK => ?_); go_simp; refine ⟨_, _, ⟨rfl, rfl⟩, hK _ _ ⟨_, Of_any u1 DB.out.a1 DB.out.a2 _, ?_⟩⟩; clear hK K; rintro e w3 ⟨A3, c3, rfl, j1, hb1⟩; refine ⟨_, rfl, hS.below hb1, ?_⟩; replace hS := hS.below hb1; replace h0 := below_look hb1 h0; replace h1 := below_look hb1 h1; replace h2 := below_look hb1 h2; replace hp11 := below_look hb1 hp11; replace hb := hb.trans (hb1.mono hb.size); clear hb1; try simp only [put_lit, List.set_cons_zero, List.set_cons_succ]
    refine ha_call (i := 7) (by kernel_rfl) rfl rfl (fun K hK => ?_); go_simp; refine ⟨_, _, ⟨rfl, rfl⟩, hK _ _ ⟨_, TensT_any (k2 + scale) (by have := K12.out; omega) (by have := K12.out; omega) _, ?_⟩⟩; clear hK K; rintro e w4 ⟨A4, c4, rfl, j2, hb1⟩; refine ⟨_, rfl, hS.below hb1, ?_⟩; replace hS := hS.below hb1; replace h0 := below_look hb1 h0; replace h1 := below_look hb1 h1; replace h2 := below_look hb1 h2; replace hp11 := below_look hb1 hp11; replace j1 := j1.below hb1; replace hb := hb.trans (hb1.mono hb.size); clear hb1; try simp only [put_lit, List.set_cons_zero, List.set_cons_succ]
    refine ha_call (i := 8) (by kernel_rfl) rfl rfl (fun K hK => ?_); go_simp; refine ⟨_, _, ⟨rfl, rfl⟩, hK _ _ ⟨_, TimesI_any _ _ _ _ _ _ _ j1 j2 (by have := K12.out; omega) (by have := nl_t10 (x := k2 + scale) (by have := K12.out; omega); omega), ?_⟩⟩; clear hK K; rintro e w5 ⟨A5, c5, rfl, j5, hb1⟩; refine ⟨_, rfl, hS.below hb1, ?_⟩; replace hS := hS.below hb1; replace h0 := below_look hb1 h0; replace h1 := below_look hb1 h1; replace h2 := below_look hb1 h2; replace hp11 := below_look hb1 hp11; replace hb := hb.trans (hb1.mono hb.size); clear hb1; rw [← HX.out] at j5 ⊢; try simp only [put_lit, List.set_cons_zero, List.set_cons_succ]
    refine ha_store (i := 10) (by kernel_rfl) rfl rfl 84 _ _ rfl _ (iv x A5 c5) rfl rfl 84 _ hp11 info84 rfl (iv_one _ _ _) (hS.setNew (by omega) _) (fun hS => ?_); try simp only [put_lit, List.set_cons_zero, List.set_cons_succ]
    refine wpAnyH_done (by kernel_rfl) ?_ _
    replace h0 := hr_old (g := p11) (cs := iv x A5 c5) h0 (by omega)
    replace h1 := hr_old (g := p11) (cs := iv x A5 c5) h1 (by omega)
    replace h2 := hr_old (g := p11) (cs := iv x A5 c5) h2 (by omega)
    replace hb := below_setRow hb (g := p11) (by omega) (iv x A5 c5)
    replace j5 := j5.put hp11 (iv x A5 c5)
    replace hp11 := hr_new (cs := iv x A5 c5) hp11
    exact tail p11 A5 c5 undef _ _ _ _ _ _ _ _ (by omega) h0 h1 h2 hp11 j5 hb
theorem DivI_any (u1 k1 u2 k2 scale : Int) (m : ByteArray) (u' k' e : Int) (h : Hid (divDS u1 k1 u2 k2 scale m.data.toList = (u', k', e))) (w : World) :
    Calls Try.prog 25 #[.agg (dc u1 k1), .agg (dc u2 k2), .int .i64 scale, .string m] w fun e' w' => e' = .returned (.tuple #[.agg (dc u' k'), .int .i64 e]) ∧ Below w.heap.size w w' := by
  have h := h.out
  unfold divDS at h
  by_cases hv : refusedS [(u1, k1), (u2, k2)] scale m.data.toList = 0
  · rw [if_pos hv] at h
    by_cases h0 : u2 = 0
    · rw [if_pos h0] at h
      simp only [Prod.mk.injEq] at h
      obtain ⟨rfl, rfl, rfl⟩ := h
      exact DivI_zero u1 k1 u2 k2 scale m 0 (Lib.hid hv.symm) rfl (Lib.hid h0) w
    · rw [if_neg h0] at h
      simp only [Prod.mk.injEq] at h
      obtain ⟨rfl, rfl, rfl⟩ := h
      obtain ⟨hd, hm, s0, s9⟩ := refused0 hv
      obtain ⟨⟨y1, y2, y3, y4⟩, x1, x2, x3, x4⟩ := allD2 hd
      have B := divBd hv h0
      exact DivI_good u1 k1 u2 k2 scale m 0 (Lib.hid hv.symm) rfl h0 (Lib.hid hm) (Lib.hid B) (Lib.hid ⟨y3, y4, x3, x4, s0, s9, by have := nl_i64 B.a1 B.a2; omega, by have := nl_i64 B.b1 B.b2; omega⟩) _ _ _ (Lib.hid rfl) (Lib.hid rfl) (Lib.hid rfl) _ _ _ (Lib.hid rfl) (Lib.hid rfl) (Lib.hid rfl) w
  · rw [if_neg hv] at h
    simp only [Prod.mk.injEq] at h
    obtain ⟨rfl, rfl, rfl⟩ := h
    exact DivI_bad u1 k1 u2 k2 scale m _ (Lib.hid rfl) hv w
set_option maxHeartbeats 2000000 in
set_option maxRecDepth 100000 in
theorem NumberDivs_any (u1 k1 u2 k2 scale : Int) (m : ByteArray) (w : World) :
    Calls Try.prog 4 #[.agg (dc u1 k1), .agg (dc u2 k2), .agg #[.int .i64 scale, .string m]] w fun e w' => e = .returned (.bool true) ∧ Below w.heap.size w w' := by
  rcases hr : divDS u1 k1 u2 k2 scale m.data.toList with ⟨u', k', e⟩
  have HR := Lib.hid hr
  clear hr
  go_enter Try.func4, Try.ntmps4
  go_upto_region 1 with (fail)
  refine wp_world (fun W => W.heap[w.heap.size]? = some (.cells (dc u1 k1) 33 (0, 0)) ∧ W.heap[w.heap.size + 1]? = some (.cells (dc u2 k2) 33 (0, 0)) ∧ W.heap[w.heap.size + 1 + 1]? = some (.cells (#[.int .i64 scale, .string m]) 35 (0, 0)) ∧ Below w.heap.size w W) ⟨ha_old (ha_old (ha_new rfl)), ha_old (ha_new (by simp)), ha_new (by simp), (((Below.refl _ _).alloc (Nat.le_refl _) _).alloc (by simp) _).alloc (by simp; omega) _⟩ ?_
  rintro W ⟨h0, h1, h2, hb⟩
  apply wp_region_lit
  ((with_reducible apply wl_rowG); exact rfl; exact rfl; exact rowDc h0)
  ((with_reducible apply wl_rowG); exact rfl; exact rfl; exact rowDc h1)
  refine wl_k rfl (fun K hK => ?_); go_simp; refine hK _ ?_; clear hK K
  ((with_reducible apply wl_oneG); exact rfl; exact rfl; exact one_of u3 rfl (to0 h2))
  refine wl_k rfl (fun K hK => ?_); go_simp; refine hK _ ?_; clear hK K
  ((with_reducible apply wl_oneG); exact rfl; exact rfl; exact one_of u9s rfl (to1 h2))
  refine wl_ck rfl (fun K hK => ?_); go_simp; refine ⟨_, _, ⟨rfl, rfl⟩, hK _ _ ⟨_, Div_any _ _ _ _ _ _ _ _ _ HR _, ?_⟩⟩; clear hK K; rintro e w1 ⟨rfl, hb1⟩; refine ⟨_, rfl, ?_⟩; simp only [put_lit, List.set_cons_zero, List.set_cons_succ]
  replace h0 := below_look hb1 h0; replace h1 := below_look hb1 h1; replace h2 := below_look hb1 h2; replace hb := hb.trans (hb1.mono hb.size); clear hb1
  refine wl_k rfl (fun K hK => ?_); go_simp; refine hK _ ?_; clear hK K
  refine wl_k rfl (fun K hK => ?_); go_simp; refine hK _ ?_; clear hK K
  refine wl_k rfl (fun K hK => ?_); go_simp; refine hK _ ?_; clear hK K
  (have lth0pa := heap_lt h0; have lth1pa := heap_lt h1; have lth2pa := heap_lt h2; have lspa := hb.size; (with_reducible apply wl_new33); intro w2 pa hbn hlpa hpa; replace h0 := below_look hbn h0; replace h1 := below_look hbn h1; replace h2 := below_look hbn h2; replace hb := hb.trans (hbn.mono hb.size); clear hbn)
  ((with_reducible apply wl_put33); exact rfl; exact rfl; exact hpa; intro w3 hbx hk hq; replace h0 := hk _ _ (by omega) h0; replace h1 := hk _ _ (by omega) h1; replace h2 := hk _ _ (by omega) h2; replace hb := hbx _ _ (by omega) hb; clear hpa; have hpa := hq; clear hbx hk hq)
  go_upto_region 2 with (fail)
  apply wp_region_lit
  ((with_reducible apply wl_rowG); exact rfl; exact rfl; exact rowDc h0)
  ((with_reducible apply wl_rowG); exact rfl; exact rfl; exact rowDc h1)
  refine wl_k rfl (fun K hK => ?_); go_simp; refine hK _ ?_; clear hK K
  ((with_reducible apply wl_oneG); exact rfl; exact rfl; exact one_of u3 rfl (to0 h2))
  refine wl_k rfl (fun K hK => ?_); go_simp; refine hK _ ?_; clear hK K
  ((with_reducible apply wl_oneG); exact rfl; exact rfl; exact one_of u9s rfl (to1 h2))
  refine wl_ck rfl (fun K hK => ?_); go_simp; refine ⟨_, _, ⟨rfl, rfl⟩, hK _ _ ⟨_, DivI_any _ _ _ _ _ _ _ _ _ HR _, ?_⟩⟩; clear hK K; rintro e w4 ⟨rfl, hb1⟩; refine ⟨_, rfl, ?_⟩; simp only [put_lit, List.set_cons_zero, List.set_cons_succ]
  replace h0 := below_look hb1 h0; replace h1 := below_look hb1 h1; replace h2 := below_look hb1 h2; replace hpa := below_look hb1 hpa; replace hb := hb.trans (hb1.mono hb.size); clear hb1
  refine wl_k rfl (fun K hK => ?_); go_simp; refine hK _ ?_; clear hK K
  refine wl_k rfl (fun K hK => ?_); go_simp; refine hK _ ?_; clear hK K
  refine wl_k rfl (fun K hK => ?_); go_simp; refine hK _ ?_; clear hK K
  (have lth0pb := heap_lt h0; have lth1pb := heap_lt h1; have lth2pb := heap_lt h2; have lthpapb := heap_lt hpa; have lspb := hb.size; (with_reducible apply wl_new33); intro w5 pb hbn hlpb hpb; replace h0 := below_look hbn h0; replace h1 := below_look hbn h1; replace h2 := below_look hbn h2; replace hpa := below_look hbn hpa; replace hb := hb.trans (hbn.mono hb.size); clear hbn)
  ((with_reducible apply wl_put33); exact rfl; exact rfl; exact hpb; intro w6 hbx hk hq; replace h0 := hk _ _ (by omega) h0; replace h1 := hk _ _ (by omega) h1; replace h2 := hk _ _ (by omega) h2; replace hpa := hk _ _ (by omega) hpa; replace hb := hbx _ _ (by omega) hb; clear hpb; have hpb := hq; clear hbx hk hq)
  go_upto_region 3 with (fail)
  apply wp_region_lit
  ((with_reducible apply wl_rowG); exact rfl; exact rfl; exact rowDc hpa)
  ((with_reducible apply wl_rowG); exact rfl; exact rfl; exact rowDc hpb)
  simp only [dc]
  go_wp2_with (go_at_call 21; refine (awake_any _).mono ?_; rintro e w9 ⟨rfl, hb1⟩; replace hb := hb.trans (hb1.mono hb.size); clear hb1)
  go_ret
  exact ⟨rfl, hb⟩
end Go.Proofs.Ytclainfdeghgnaa
