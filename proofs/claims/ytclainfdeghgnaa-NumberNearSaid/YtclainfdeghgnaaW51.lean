/- The law of nearness: rounding. -/
import Derived.Test.YtclainfdeghgnaaM10
import Derived.Test.YtclainfdeghgnaaW50
import Derived.Outline
namespace Go.Proofs.Ytclainfdeghgnaa
open Go.RowKit Go.Proofs.Ytclainfdeghgnaa.Nm
def toV (s : Int) (m : ByteArray) : Array Value := #[.int .i64 s, .string m]
theorem u9t : Try.prog.underlying 9 = some .string := by kernel_rfl
theorem one9 {w : World} {ad : Addr} {v : Value} (h : w.cell? ad = some v) : OneAt w 9 ad v := one_of u9t rfl h
theorem to0 {w : World} {b : Nat} {s : Int} {m : ByteArray} {t : TypeId} {fr : Nat × Nat} (hb : w.heap[b]? = some (.cells (toV s m) t fr)) : w.cell? ⟨b, 0, none⟩ = some (.int .i64 s) := by rw [cell_of_row _ _ _ _ _ _ hb]; rfl
theorem to1 {w : World} {b : Nat} {s : Int} {m : ByteArray} {t : TypeId} {fr : Nat × Nat} (hb : w.heap[b]? = some (.cells (toV s m) t fr)) : w.cell? ⟨b, 1, none⟩ = some (.string m) := by rw [cell_of_row _ _ _ _ _ _ hb]; rfl
set_option maxHeartbeats 4000000 in
set_option maxRecDepth 100000 in
theorem NumberNear_any (u1 k1 u2 k2 s : Int) (m : ByteArray) (w : World) :
    Calls Try.prog 17 #[.agg (dc u1 k1), .agg (dc u2 k2), .agg (toV s m)] w fun e w' => e = .returned (.bool true) ∧ Below w.heap.size w w' := by
  rcases ha : roundDS u1 k1 s m.data.toList with ⟨ua, ka, ea⟩
  have HA := Lib.hid ha
  clear ha
  go_enter Try.func17, Try.ntmps17
  go_upto_region 1 with (fail)
  refine wp_world (fun W => W.heap[w.heap.size]? = some (.cells (dc u1 k1) 33 (0, 0)) ∧ W.heap[w.heap.size + 1]? = some (.cells (dc u2 k2) 33 (0, 0)) ∧ W.heap[w.heap.size + 1 + 1]? = some (.cells (toV s m) 35 (0, 0)) ∧ Below w.heap.size w W) ⟨ha_old (ha_old (ha_new rfl)), ha_old (ha_new (by simp)), ha_new (by simp), (((Below.refl _ _).alloc (Nat.le_refl _) _).alloc (by simp) _).alloc (by simp; omega) _⟩ ?_
  rintro W ⟨h0, h1, h2, hb⟩
  apply wp_region_lit
  ((with_reducible apply wl_rowG); exact rfl; exact rfl; exact rowDc h0)
  refine wl_k rfl (fun K hK => ?_); go_simp; refine hK _ ?_; clear hK K
  ((with_reducible apply wl_oneG); exact rfl; exact rfl; exact one3 (to0 h2))
  refine wl_k rfl (fun K hK => ?_); go_simp; refine hK _ ?_; clear hK K
  ((with_reducible apply wl_oneG); exact rfl; exact rfl; exact one9 (to1 h2))
  refine wl_ck rfl (fun K hK => ?_); go_simp; refine ⟨_, _, ⟨rfl, rfl⟩, hK _ _ ⟨_, Round_any _ _ _ _ _ _ _ HA _, ?_⟩⟩; clear hK K; rintro e w1 ⟨rfl, hb1⟩; refine ⟨_, rfl, ?_⟩; simp only [put_lit, List.set_cons_zero, List.set_cons_succ]
  replace h0 := below_look hb1 h0; replace h1 := below_look hb1 h1; replace h2 := below_look hb1 h2; replace hb := hb.trans (hb1.mono hb.size); clear hb1
  refine wl_k rfl (fun K hK => ?_); go_simp; refine hK _ ?_; clear hK K
  refine wl_k rfl (fun K hK => ?_); go_simp; refine hK _ ?_; clear hK K
  refine wl_k rfl (fun K hK => ?_); go_simp; refine hK _ ?_; clear hK K
  (have lth0pa := heap_lt h0; have lth1pa := heap_lt h1; have lth2pa := heap_lt h2; have lspa := hb.size; (with_reducible apply wl_new33); intro w2 pa hbn hlpa hpa; replace h0 := below_look hbn h0; replace h1 := below_look hbn h1; replace h2 := below_look hbn h2; replace hb := hb.trans (hbn.mono hb.size); clear hbn)
  ((with_reducible apply wl_put33); exact rfl; exact rfl; exact hpa; intro w3 hbx hk hq; replace h0 := hk _ _ (by omega) h0; replace h1 := hk _ _ (by omega) h1; replace h2 := hk _ _ (by omega) h2; replace hb := hbx _ _ (by omega) hb; clear hpa; have hpa := hq; clear hbx hk hq)
  by_cases hea : ea = 0
  · have HR := Lib.hid (rounds_of HA.out hea)
    have HO := Lib.hid (near_own HR.out)
    have HK := Lib.hid HR.out.ek
    go_upto_region 4 with (fail)
    clear hea
    apply wp_region_lit
    ((with_reducible apply wl_rowG); exact rfl; exact rfl; exact rowDc h0)
    refine wl_k rfl (fun K hK => ?_); go_simp; refine hK _ ?_; clear hK K
    ((with_reducible apply wl_oneG); exact rfl; exact rfl; exact one3 (dc1 h0))
    refine wl_k rfl (fun K hK => ?_); go_simp; refine hK _ ?_; clear hK K
    ((with_reducible apply wl_oneG); exact rfl; exact rfl; exact one9 (to1 h2))
    refine wl_ck rfl (fun K hK => ?_); go_simp; refine ⟨_, _, ⟨rfl, rfl⟩, hK _ _ ⟨_, Round_any _ _ _ _ _ _ _ HO _, ?_⟩⟩; clear hK K; rintro e w4 ⟨rfl, hb1⟩; refine ⟨_, rfl, ?_⟩; simp only [put_lit, List.set_cons_zero, List.set_cons_succ]
    replace h0 := below_look hb1 h0; replace h1 := below_look hb1 h1; replace h2 := below_look hb1 h2; replace hpa := below_look hb1 hpa; replace hb := hb.trans (hb1.mono hb.size); clear hb1
    refine wl_k rfl (fun K hK => ?_); go_simp; refine hK _ ?_; clear hK K
    refine wl_k rfl (fun K hK => ?_); go_simp; refine hK _ ?_; clear hK K
    refine wl_k rfl (fun K hK => ?_); go_simp; refine hK _ ?_; clear hK K
    (have lth0po := heap_lt h0; have lth1po := heap_lt h1; have lth2po := heap_lt h2; have lthpapo := heap_lt hpa; have lspo := hb.size; (with_reducible apply wl_new33); intro w5 po hbn hlpo hpo; replace h0 := below_look hbn h0; replace h1 := below_look hbn h1; replace h2 := below_look hbn h2; replace hpa := below_look hbn hpa; replace hb := hb.trans (hbn.mono hb.size); clear hbn)
    ((with_reducible apply wl_put33); exact rfl; exact rfl; exact hpo; intro w6 hbx hk hq; replace h0 := hk _ _ (by omega) h0; replace h1 := hk _ _ (by omega) h1; replace h2 := hk _ _ (by omega) h2; replace hpa := hk _ _ (by omega) hpa; replace hb := hbx _ _ (by omega) hb; clear hpo; have hpo := hq; clear hbx hk hq)
    go_upto_region 5 with (fail)
    apply wp_region_lit
    ((with_reducible apply wl_rowG); exact rfl; exact rfl; exact rowDc hpo)
    ((with_reducible apply wl_rowG); exact rfl; exact rfl; exact rowDc h0)
    simp only [dc]
    clear hpo
    have a1 := dc1 hpa
    have t0 := to0 h2
    rw [HK.out] at a1
    rcases hd : roundDS u1 k1 s [102, 108, 111, 111, 114] with ⟨ud, kd, ed⟩
    have HD := Lib.hid hd
    clear hd
    go_upto_region 7 with (fail)
    clear a1 t0
    apply wp_region_lit
    ((with_reducible apply wl_rowG); exact rfl; exact rfl; exact rowDc h0)
    refine wl_k rfl (fun K hK => ?_); go_simp; refine hK _ ?_; clear hK K
    ((with_reducible apply wl_oneG); exact rfl; exact rfl; exact one3 (to0 h2))
    refine wl_ck rfl (fun K hK => ?_); go_simp; refine ⟨_, _, ⟨rfl, rfl⟩, hK _ _ ⟨_, Round_any _ _ _ _ _ _ _ HD _, ?_⟩⟩; clear hK K; rintro e w7 ⟨rfl, hb1⟩; refine ⟨_, rfl, ?_⟩; simp only [put_lit, List.set_cons_zero, List.set_cons_succ]
    replace h0 := below_look hb1 h0; replace h1 := below_look hb1 h1; replace h2 := below_look hb1 h2; replace hpa := below_look hb1 hpa; replace hb := hb.trans (hb1.mono hb.size); clear hb1
    refine wl_k rfl (fun K hK => ?_); go_simp; refine hK _ ?_; clear hK K
    refine wl_k rfl (fun K hK => ?_); go_simp; refine hK _ ?_; clear hK K
    refine wl_k rfl (fun K hK => ?_); go_simp; refine hK _ ?_; clear hK K
    (have lth0pd := heap_lt h0; have lth1pd := heap_lt h1; have lth2pd := heap_lt h2; have lthpapd := heap_lt hpa; have lspd := hb.size; (with_reducible apply wl_new33); intro w8 pd hbn hlpd hpd; replace h0 := below_look hbn h0; replace h1 := below_look hbn h1; replace h2 := below_look hbn h2; replace hpa := below_look hbn hpa; replace hb := hb.trans (hbn.mono hb.size); clear hbn)
    ((with_reducible apply wl_put33); exact rfl; exact rfl; exact hpd; intro w9 hbx hk hq; replace h0 := hk _ _ (by omega) h0; replace h1 := hk _ _ (by omega) h1; replace h2 := hk _ _ (by omega) h2; replace hpa := hk _ _ (by omega) hpa; replace hb := hbx _ _ (by omega) hb; clear hpd; have hpd := hq; clear hbx hk hq)
    rcases hc : cmpDS ud kd u1 k1 with ⟨nc, ec⟩
    have HC := Lib.hid hc
    clear hc
    go_upto_region 8 with (fail)
    apply wp_region_lit
    ((with_reducible apply wl_rowG); exact rfl; exact rfl; exact rowDc hpd)
    ((with_reducible apply wl_rowG); exact rfl; exact rfl; exact rowDc h0)
    refine wl_ck rfl (fun K hK => ?_); go_simp; refine ⟨_, _, ⟨rfl, rfl⟩, hK _ _ ⟨_, CompareDecimal_any _ _ _ _ _ _ HC _, ?_⟩⟩; clear hK K; rintro e w10 ⟨rfl, hb1⟩; refine ⟨_, rfl, ?_⟩; simp only [put_lit, List.set_cons_zero, List.set_cons_succ]
    clear hpd
    replace h0 := below_look hb1 h0; replace h1 := below_look hb1 h1; replace h2 := below_look hb1 h2; replace hpa := below_look hb1 hpa; replace hb := hb.trans (hb1.mono hb.size); clear hb1
    by_cases hed : ed = 0
    · obtain ⟨n', hn1, hn2⟩ := near_floor (rounds_of HD.out hed)
      have hn3 := HC.out.symm.trans hn1
      simp only [Prod.mk.injEq] at hn3
      obtain ⟨rfl, rfl⟩ := hn3
      have hn4 : ¬ 0 < nc := by omega
      clear hn1 hn2
      go_upto_region 11 with (fail)
      apply wp_region_lit
      refine wl_k rfl (fun K hK => ?_); go_simp; refine hK _ ?_; clear hK K
      ((with_reducible apply wl_oneG); exact rfl; exact rfl; exact one3 (to0 h2))
      refine wl_k rfl (fun K hK => ?_); go_simp; refine hK _ ?_; clear hK K
      (have lth0po := heap_lt h0; have lth1po := heap_lt h1; have lth2po := heap_lt h2; have lthpapo := heap_lt hpa; have lspo := hb.size; (with_reducible apply wl_new33); intro w14 po2 hbn hlpo2 hpo2; replace h0 := below_look hbn h0; replace h1 := below_look hbn h1; replace h2 := below_look hbn h2; replace hpa := below_look hbn hpa; replace hb := hb.trans (hbn.mono hb.size); clear hbn)
      simp only [put_lit, List.set_cons_zero, List.set_cons_succ]
      ((with_reducible apply wl_put33 (u := 1) (k := s)); exact rfl; exact rfl; exact hpo2; intro w15 hbx hk hq; replace h0 := hk _ _ (by omega) h0; replace h1 := hk _ _ (by omega) h1; replace h2 := hk _ _ (by omega) h2; replace hpa := hk _ _ (by omega) hpa; replace hb := hbx _ _ (by omega) hb; clear hpo2; have hpo2 := hq; clear hbx hk hq)
      rcases hu : addS ua ka 1 s with ⟨uu, ku, ei⟩
      rcases hl : subS ua ka 1 s with ⟨ul, kl, ej⟩
      have HU := Lib.hid hu
      have HL := Lib.hid hl
      clear hu hl
      go_upto_region 12 with (fail)
      apply wp_region_lit
      ((with_reducible apply wl_rowG); exact rfl; exact rfl; exact rowDc hpa)
      ((with_reducible apply wl_rowG); exact rfl; exact rfl; exact rowDc hpo2)
      refine wl_ck rfl (fun K hK => ?_); go_simp; refine ⟨_, _, ⟨rfl, rfl⟩, hK _ _ ⟨_, Add_any _ _ _ _ _ _ _ HU _, ?_⟩⟩; clear hK K; rintro e w16 ⟨rfl, hb1⟩; refine ⟨_, rfl, ?_⟩; simp only [put_lit, List.set_cons_zero, List.set_cons_succ]
      replace h0 := below_look hb1 h0; replace h1 := below_look hb1 h1; replace h2 := below_look hb1 h2; replace hpa := below_look hb1 hpa; replace hpo2 := below_look hb1 hpo2; replace hb := hb.trans (hb1.mono hb.size); clear hb1
      refine wl_k rfl (fun K hK => ?_); go_simp; refine hK _ ?_; clear hK K
      refine wl_k rfl (fun K hK => ?_); go_simp; refine hK _ ?_; clear hK K
      refine wl_k rfl (fun K hK => ?_); go_simp; refine hK _ ?_; clear hK K
      (have lth0pu := heap_lt h0; have lth1pu := heap_lt h1; have lth2pu := heap_lt h2; have lthpapu := heap_lt hpa; have lthpo2pu := heap_lt hpo2; have lspu := hb.size; (with_reducible apply wl_new33); intro w17 pu hbn hlpu hpu; replace h0 := below_look hbn h0; replace h1 := below_look hbn h1; replace h2 := below_look hbn h2; replace hpa := below_look hbn hpa; replace hpo2 := below_look hbn hpo2; replace hb := hb.trans (hbn.mono hb.size); clear hbn)
      ((with_reducible apply wl_put33); exact rfl; exact rfl; exact hpu; intro w18 hbx hk hq; replace h0 := hk _ _ (by omega) h0; replace h1 := hk _ _ (by omega) h1; replace h2 := hk _ _ (by omega) h2; replace hpa := hk _ _ (by omega) hpa; replace hpo2 := hk _ _ (by omega) hpo2; replace hb := hbx _ _ (by omega) hb; clear hpu; have hpu := hq; clear hbx hk hq)
      go_upto_region 13 with (fail)
      apply wp_region_lit
      ((with_reducible apply wl_rowG); exact rfl; exact rfl; exact rowDc hpa)
      ((with_reducible apply wl_rowG); exact rfl; exact rfl; exact rowDc hpo2)
      refine wl_ck rfl (fun K hK => ?_); go_simp; refine ⟨_, _, ⟨rfl, rfl⟩, hK _ _ ⟨_, Sub_any _ _ _ _ _ _ _ HL _, ?_⟩⟩; clear hK K; rintro e w19 ⟨rfl, hb1⟩; refine ⟨_, rfl, ?_⟩; simp only [put_lit, List.set_cons_zero, List.set_cons_succ]
      replace h0 := below_look hb1 h0; replace h1 := below_look hb1 h1; replace h2 := below_look hb1 h2; replace hpa := below_look hb1 hpa; replace hpu := below_look hb1 hpu; replace hb := hb.trans (hb1.mono hb.size); clear hb1
      refine wl_k rfl (fun K hK => ?_); go_simp; refine hK _ ?_; clear hK K
      refine wl_k rfl (fun K hK => ?_); go_simp; refine hK _ ?_; clear hK K
      refine wl_k rfl (fun K hK => ?_); go_simp; refine hK _ ?_; clear hK K
      (have lth0pl := heap_lt h0; have lth1pl := heap_lt h1; have lth2pl := heap_lt h2; have lthpapl := heap_lt hpa; have lthpupl := heap_lt hpu; have lspl := hb.size; (with_reducible apply wl_new33); intro w20 pl hbn hlpl hpl; replace h0 := below_look hbn h0; replace h1 := below_look hbn h1; replace h2 := below_look hbn h2; replace hpa := below_look hbn hpa; replace hpu := below_look hbn hpu; replace hb := hb.trans (hbn.mono hb.size); clear hbn)
      ((with_reducible apply wl_put33); exact rfl; exact rfl; exact hpl; intro w21 hbx hk hq; replace h0 := hk _ _ (by omega) h0; replace h1 := hk _ _ (by omega) h1; replace h2 := hk _ _ (by omega) h2; replace hpa := hk _ _ (by omega) hpa; replace hpu := hk _ _ (by omega) hpu; replace hb := hbx _ _ (by omega) hb; clear hpl; have hpl := hq; clear hbx hk hq)
      rcases hbr : roundDS u2 k2 s m.data.toList with ⟨ub, kb, eb⟩
      have HB := Lib.hid hbr
      clear hbr
      by_cases hei : ei = 0
      · by_cases hej : ej = 0
        · have H1 := Lib.hid (near_up HR.out (hei ▸ HU.out))
          have H2 := Lib.hid (near_low HR.out (hej ▸ HL.out))
          go_upto_region 15 with (fail)
          clear hei hej
          apply wp_region_lit
          ((with_reducible apply wl_rowG); exact rfl; exact rfl; exact rowDc hpu)
          ((with_reducible apply wl_rowG); exact rfl; exact rfl; exact rowDc h0)
          refine wl_ck rfl (fun K hK => ?_); go_simp; refine ⟨_, _, ⟨rfl, rfl⟩, hK _ _ ⟨_, CompareDecimal_any _ _ _ _ _ _ H1 _, ?_⟩⟩; clear hK K; rintro e w22 ⟨rfl, hb1⟩; refine ⟨_, rfl, ?_⟩; simp only [put_lit, List.set_cons_zero, List.set_cons_succ]
          replace h0 := below_look hb1 h0; replace h1 := below_look hb1 h1; replace h2 := below_look hb1 h2; replace hpa := below_look hb1 hpa; replace hpl := below_look hb1 hpl; replace hb := hb.trans (hb1.mono hb.size); clear hb1
          go_upto_region 16 with (fail)
          apply wp_region_lit
          ((with_reducible apply wl_rowG); exact rfl; exact rfl; exact rowDc hpl)
          ((with_reducible apply wl_rowG); exact rfl; exact rfl; exact rowDc h0)
          refine wl_ck rfl (fun K hK => ?_); go_simp; refine ⟨_, _, ⟨rfl, rfl⟩, hK _ _ ⟨_, CompareDecimal_any _ _ _ _ _ _ H2 _, ?_⟩⟩; clear hK K; rintro e w23 ⟨rfl, hb1⟩; refine ⟨_, rfl, ?_⟩; simp only [put_lit, List.set_cons_zero, List.set_cons_succ]
          replace h0 := below_look hb1 h0; replace h1 := below_look hb1 h1; replace h2 := below_look hb1 h2; replace hpa := below_look hb1 hpa; replace hb := hb.trans (hb1.mono hb.size); clear hb1
          clear hpl hpu hpo2
          go_upto_region 19 with (fail)
          apply wp_region_lit
          ((with_reducible apply wl_rowG); exact rfl; exact rfl; exact rowDc h1)
          refine wl_k rfl (fun K hK => ?_); go_simp; refine hK _ ?_; clear hK K
          ((with_reducible apply wl_oneG); exact rfl; exact rfl; exact one3 (to0 h2))
          refine wl_k rfl (fun K hK => ?_); go_simp; refine hK _ ?_; clear hK K
          ((with_reducible apply wl_oneG); exact rfl; exact rfl; exact one9 (to1 h2))
          refine wl_ck rfl (fun K hK => ?_); go_simp; refine ⟨_, _, ⟨rfl, rfl⟩, hK _ _ ⟨_, Round_any _ _ _ _ _ _ _ HB _, ?_⟩⟩; clear hK K; rintro e w30 ⟨rfl, hb1⟩; refine ⟨_, rfl, ?_⟩; simp only [put_lit, List.set_cons_zero, List.set_cons_succ]
          replace h0 := below_look hb1 h0; replace h1 := below_look hb1 h1; replace h2 := below_look hb1 h2; replace hpa := below_look hb1 hpa; replace hb := hb.trans (hb1.mono hb.size); clear hb1
          refine wl_k rfl (fun K hK => ?_); go_simp; refine hK _ ?_; clear hK K
          refine wl_k rfl (fun K hK => ?_); go_simp; refine hK _ ?_; clear hK K
          refine wl_k rfl (fun K hK => ?_); go_simp; refine hK _ ?_; clear hK K
          (have lth0pb := heap_lt h0; have lth1pb := heap_lt h1; have lth2pb := heap_lt h2; have lthpapb := heap_lt hpa; have lspb := hb.size; (with_reducible apply wl_new33); intro w31 pb hbn hlpb hpb; replace h0 := below_look hbn h0; replace h1 := below_look hbn h1; replace h2 := below_look hbn h2; replace hpa := below_look hbn hpa; replace hb := hb.trans (hbn.mono hb.size); clear hbn)
          ((with_reducible apply wl_put33); exact rfl; exact rfl; exact hpb; intro w32 hbx hk hq; replace h0 := hk _ _ (by omega) h0; replace h1 := hk _ _ (by omega) h1; replace h2 := hk _ _ (by omega) h2; replace hpa := hk _ _ (by omega) hpa; replace hb := hbx _ _ (by omega) hb; clear hpb; have hpb := hq; clear hbx hk hq)
          by_cases heb : eb = 0
          · obtain ⟨cu, cv, hcu, hcv, hle, hge⟩ := near_order HR.out (rounds_of HB.out heb)
            have HCU := Lib.hid hcu
            have HCV := Lib.hid hcv
            clear hcu hcv
            go_upto_region 22 with (fail)
            clear heb
            apply wp_region_lit
            ((with_reducible apply wl_rowG); exact rfl; exact rfl; exact rowDc h0)
            ((with_reducible apply wl_rowG); exact rfl; exact rfl; exact rowDc h1)
            refine wl_ck rfl (fun K hK => ?_); go_simp; refine ⟨_, _, ⟨rfl, rfl⟩, hK _ _ ⟨_, CompareDecimal_any _ _ _ _ _ _ HCU _, ?_⟩⟩; clear hK K; rintro e w33 ⟨rfl, hb1⟩; refine ⟨_, rfl, ?_⟩; simp only [put_lit, List.set_cons_zero, List.set_cons_succ]
            replace h0 := below_look hb1 h0; replace h1 := below_look hb1 h1; replace h2 := below_look hb1 h2; replace hpa := below_look hb1 hpa; replace hpb := below_look hb1 hpb; replace hb := hb.trans (hb1.mono hb.size); clear hb1
            go_upto_region 23 with (fail)
            apply wp_region_lit
            ((with_reducible apply wl_rowG); exact rfl; exact rfl; exact rowDc hpa)
            ((with_reducible apply wl_rowG); exact rfl; exact rfl; exact rowDc hpb)
            refine wl_ck rfl (fun K hK => ?_); go_simp; refine ⟨_, _, ⟨rfl, rfl⟩, hK _ _ ⟨_, CompareDecimal_any _ _ _ _ _ _ HCV _, ?_⟩⟩; clear hK K; rintro e w34 ⟨rfl, hb1⟩; refine ⟨_, rfl, ?_⟩; simp only [put_lit, List.set_cons_zero, List.set_cons_succ]
            replace h0 := below_look hb1 h0; replace h1 := below_look hb1 h1; replace h2 := below_look hb1 h2; replace hpa := below_look hb1 hpa; replace hpb := below_look hb1 hpb; replace hb := hb.trans (hb1.mono hb.size); clear hb1
            rcases Int.lt_trichotomy cu 0 with hc | hc | hc
            · have c1 : cu ≤ 0 := by omega
              have c2 : ¬ 0 ≤ cu := by omega
              have c3 : ¬ 0 < cv := by have := hle c1; omega
              clear hle hge hc
              go_wp2_with (go_at_call 21; refine (awake_any _).mono ?_; rintro e w9 ⟨rfl, hb1⟩; replace hb := hb.trans (hb1.mono hb.size); clear hb1)
              go_ret
              exact ⟨rfl, hb⟩
            · subst hc
              have c1 := hle (Int.le_refl _)
              have c2 := hge (Int.le_refl _)
              obtain rfl : cv = 0 := by omega
              clear hle hge c1 c2
              go_wp2_with (go_at_call 21; refine (awake_any _).mono ?_; rintro e w9 ⟨rfl, hb1⟩; replace hb := hb.trans (hb1.mono hb.size); clear hb1)
              go_ret
              exact ⟨rfl, hb⟩
            · have c1 : ¬ cu ≤ 0 := by omega
              have c2 : 0 ≤ cu := by omega
              have c3 : ¬ cv < 0 := by have := hge c2; omega
              clear hle hge hc
              go_wp2_with (go_at_call 21; refine (awake_any _).mono ?_; rintro e w9 ⟨rfl, hb1⟩; replace hb := hb.trans (hb1.mono hb.size); clear hb1)
              go_ret
              exact ⟨rfl, hb⟩
          · go_wp2_with (go_at_call 21; refine (awake_any _).mono ?_; rintro e w9 ⟨rfl, hb1⟩; replace hb := hb.trans (hb1.mono hb.size); clear hb1)
            go_ret
            exact ⟨rfl, hb⟩
        · clear hpo2 hpu hpl
          go_upto_region 19 with (fail)
          apply wp_region_lit
          ((with_reducible apply wl_rowG); exact rfl; exact rfl; exact rowDc h1)
          refine wl_k rfl (fun K hK => ?_); go_simp; refine hK _ ?_; clear hK K
          ((with_reducible apply wl_oneG); exact rfl; exact rfl; exact one3 (to0 h2))
          refine wl_k rfl (fun K hK => ?_); go_simp; refine hK _ ?_; clear hK K
          ((with_reducible apply wl_oneG); exact rfl; exact rfl; exact one9 (to1 h2))
          refine wl_ck rfl (fun K hK => ?_); go_simp; refine ⟨_, _, ⟨rfl, rfl⟩, hK _ _ ⟨_, Round_any _ _ _ _ _ _ _ HB _, ?_⟩⟩; clear hK K; rintro e w30 ⟨rfl, hb1⟩; refine ⟨_, rfl, ?_⟩; simp only [put_lit, List.set_cons_zero, List.set_cons_succ]
          replace h0 := below_look hb1 h0; replace h1 := below_look hb1 h1; replace h2 := below_look hb1 h2; replace hpa := below_look hb1 hpa; replace hb := hb.trans (hb1.mono hb.size); clear hb1
          refine wl_k rfl (fun K hK => ?_); go_simp; refine hK _ ?_; clear hK K
          refine wl_k rfl (fun K hK => ?_); go_simp; refine hK _ ?_; clear hK K
          refine wl_k rfl (fun K hK => ?_); go_simp; refine hK _ ?_; clear hK K
          (have lth0pb := heap_lt h0; have lth1pb := heap_lt h1; have lth2pb := heap_lt h2; have lthpapb := heap_lt hpa; have lspb := hb.size; (with_reducible apply wl_new33); intro w31 pb hbn hlpb hpb; replace h0 := below_look hbn h0; replace h1 := below_look hbn h1; replace h2 := below_look hbn h2; replace hpa := below_look hbn hpa; replace hb := hb.trans (hbn.mono hb.size); clear hbn)
          ((with_reducible apply wl_put33); exact rfl; exact rfl; exact hpb; intro w32 hbx hk hq; replace h0 := hk _ _ (by omega) h0; replace h1 := hk _ _ (by omega) h1; replace h2 := hk _ _ (by omega) h2; replace hpa := hk _ _ (by omega) hpa; replace hb := hbx _ _ (by omega) hb; clear hpb; have hpb := hq; clear hbx hk hq)
          by_cases heb : eb = 0
          · obtain ⟨cu, cv, hcu, hcv, hle, hge⟩ := near_order HR.out (rounds_of HB.out heb)
            have HCU := Lib.hid hcu
            have HCV := Lib.hid hcv
            clear hcu hcv
            go_upto_region 22 with (fail)
            clear heb
            apply wp_region_lit
            ((with_reducible apply wl_rowG); exact rfl; exact rfl; exact rowDc h0)
            ((with_reducible apply wl_rowG); exact rfl; exact rfl; exact rowDc h1)
            refine wl_ck rfl (fun K hK => ?_); go_simp; refine ⟨_, _, ⟨rfl, rfl⟩, hK _ _ ⟨_, CompareDecimal_any _ _ _ _ _ _ HCU _, ?_⟩⟩; clear hK K; rintro e w33 ⟨rfl, hb1⟩; refine ⟨_, rfl, ?_⟩; simp only [put_lit, List.set_cons_zero, List.set_cons_succ]
            replace h0 := below_look hb1 h0; replace h1 := below_look hb1 h1; replace h2 := below_look hb1 h2; replace hpa := below_look hb1 hpa; replace hpb := below_look hb1 hpb; replace hb := hb.trans (hb1.mono hb.size); clear hb1
            go_upto_region 23 with (fail)
            apply wp_region_lit
            ((with_reducible apply wl_rowG); exact rfl; exact rfl; exact rowDc hpa)
            ((with_reducible apply wl_rowG); exact rfl; exact rfl; exact rowDc hpb)
            refine wl_ck rfl (fun K hK => ?_); go_simp; refine ⟨_, _, ⟨rfl, rfl⟩, hK _ _ ⟨_, CompareDecimal_any _ _ _ _ _ _ HCV _, ?_⟩⟩; clear hK K; rintro e w34 ⟨rfl, hb1⟩; refine ⟨_, rfl, ?_⟩; simp only [put_lit, List.set_cons_zero, List.set_cons_succ]
            replace h0 := below_look hb1 h0; replace h1 := below_look hb1 h1; replace h2 := below_look hb1 h2; replace hpa := below_look hb1 hpa; replace hpb := below_look hb1 hpb; replace hb := hb.trans (hb1.mono hb.size); clear hb1
            rcases Int.lt_trichotomy cu 0 with hc | hc | hc
            · have c1 : cu ≤ 0 := by omega
              have c2 : ¬ 0 ≤ cu := by omega
              have c3 : ¬ 0 < cv := by have := hle c1; omega
              clear hle hge hc
              go_wp2_with (go_at_call 21; refine (awake_any _).mono ?_; rintro e w9 ⟨rfl, hb1⟩; replace hb := hb.trans (hb1.mono hb.size); clear hb1)
              go_ret
              exact ⟨rfl, hb⟩
            · subst hc
              have c1 := hle (Int.le_refl _)
              have c2 := hge (Int.le_refl _)
              obtain rfl : cv = 0 := by omega
              clear hle hge c1 c2
              go_wp2_with (go_at_call 21; refine (awake_any _).mono ?_; rintro e w9 ⟨rfl, hb1⟩; replace hb := hb.trans (hb1.mono hb.size); clear hb1)
              go_ret
              exact ⟨rfl, hb⟩
            · have c1 : ¬ cu ≤ 0 := by omega
              have c2 : 0 ≤ cu := by omega
              have c3 : ¬ cv < 0 := by have := hge c2; omega
              clear hle hge hc
              go_wp2_with (go_at_call 21; refine (awake_any _).mono ?_; rintro e w9 ⟨rfl, hb1⟩; replace hb := hb.trans (hb1.mono hb.size); clear hb1)
              go_ret
              exact ⟨rfl, hb⟩
          · go_wp2_with (go_at_call 21; refine (awake_any _).mono ?_; rintro e w9 ⟨rfl, hb1⟩; replace hb := hb.trans (hb1.mono hb.size); clear hb1)
            go_ret
            exact ⟨rfl, hb⟩
      · clear hpo2 hpu hpl
        go_upto_region 19 with (fail)
        apply wp_region_lit
        ((with_reducible apply wl_rowG); exact rfl; exact rfl; exact rowDc h1)
        refine wl_k rfl (fun K hK => ?_); go_simp; refine hK _ ?_; clear hK K
        ((with_reducible apply wl_oneG); exact rfl; exact rfl; exact one3 (to0 h2))
        refine wl_k rfl (fun K hK => ?_); go_simp; refine hK _ ?_; clear hK K
        ((with_reducible apply wl_oneG); exact rfl; exact rfl; exact one9 (to1 h2))
        refine wl_ck rfl (fun K hK => ?_); go_simp; refine ⟨_, _, ⟨rfl, rfl⟩, hK _ _ ⟨_, Round_any _ _ _ _ _ _ _ HB _, ?_⟩⟩; clear hK K; rintro e w30 ⟨rfl, hb1⟩; refine ⟨_, rfl, ?_⟩; simp only [put_lit, List.set_cons_zero, List.set_cons_succ]
        replace h0 := below_look hb1 h0; replace h1 := below_look hb1 h1; replace h2 := below_look hb1 h2; replace hpa := below_look hb1 hpa; replace hb := hb.trans (hb1.mono hb.size); clear hb1
        refine wl_k rfl (fun K hK => ?_); go_simp; refine hK _ ?_; clear hK K
        refine wl_k rfl (fun K hK => ?_); go_simp; refine hK _ ?_; clear hK K
        refine wl_k rfl (fun K hK => ?_); go_simp; refine hK _ ?_; clear hK K
        (have lth0pb := heap_lt h0; have lth1pb := heap_lt h1; have lth2pb := heap_lt h2; have lthpapb := heap_lt hpa; have lspb := hb.size; (with_reducible apply wl_new33); intro w31 pb hbn hlpb hpb; replace h0 := below_look hbn h0; replace h1 := below_look hbn h1; replace h2 := below_look hbn h2; replace hpa := below_look hbn hpa; replace hb := hb.trans (hbn.mono hb.size); clear hbn)
        ((with_reducible apply wl_put33); exact rfl; exact rfl; exact hpb; intro w32 hbx hk hq; replace h0 := hk _ _ (by omega) h0; replace h1 := hk _ _ (by omega) h1; replace h2 := hk _ _ (by omega) h2; replace hpa := hk _ _ (by omega) hpa; replace hb := hbx _ _ (by omega) hb; clear hpb; have hpb := hq; clear hbx hk hq)
        by_cases heb : eb = 0
        · obtain ⟨cu, cv, hcu, hcv, hle, hge⟩ := near_order HR.out (rounds_of HB.out heb)
          have HCU := Lib.hid hcu
          have HCV := Lib.hid hcv
          clear hcu hcv
          go_upto_region 22 with (fail)
          clear heb
          apply wp_region_lit
          ((with_reducible apply wl_rowG); exact rfl; exact rfl; exact rowDc h0)
          ((with_reducible apply wl_rowG); exact rfl; exact rfl; exact rowDc h1)
          refine wl_ck rfl (fun K hK => ?_); go_simp; refine ⟨_, _, ⟨rfl, rfl⟩, hK _ _ ⟨_, CompareDecimal_any _ _ _ _ _ _ HCU _, ?_⟩⟩; clear hK K; rintro e w33 ⟨rfl, hb1⟩; refine ⟨_, rfl, ?_⟩; simp only [put_lit, List.set_cons_zero, List.set_cons_succ]
          replace h0 := below_look hb1 h0; replace h1 := below_look hb1 h1; replace h2 := below_look hb1 h2; replace hpa := below_look hb1 hpa; replace hpb := below_look hb1 hpb; replace hb := hb.trans (hb1.mono hb.size); clear hb1
          go_upto_region 23 with (fail)
          apply wp_region_lit
          ((with_reducible apply wl_rowG); exact rfl; exact rfl; exact rowDc hpa)
          ((with_reducible apply wl_rowG); exact rfl; exact rfl; exact rowDc hpb)
          refine wl_ck rfl (fun K hK => ?_); go_simp; refine ⟨_, _, ⟨rfl, rfl⟩, hK _ _ ⟨_, CompareDecimal_any _ _ _ _ _ _ HCV _, ?_⟩⟩; clear hK K; rintro e w34 ⟨rfl, hb1⟩; refine ⟨_, rfl, ?_⟩; simp only [put_lit, List.set_cons_zero, List.set_cons_succ]
          replace h0 := below_look hb1 h0; replace h1 := below_look hb1 h1; replace h2 := below_look hb1 h2; replace hpa := below_look hb1 hpa; replace hpb := below_look hb1 hpb; replace hb := hb.trans (hb1.mono hb.size); clear hb1
          rcases Int.lt_trichotomy cu 0 with hc | hc | hc
          · have c1 : cu ≤ 0 := by omega
            have c2 : ¬ 0 ≤ cu := by omega
            have c3 : ¬ 0 < cv := by have := hle c1; omega
            clear hle hge hc
            go_wp2_with (go_at_call 21; refine (awake_any _).mono ?_; rintro e w9 ⟨rfl, hb1⟩; replace hb := hb.trans (hb1.mono hb.size); clear hb1)
            go_ret
            exact ⟨rfl, hb⟩
          · subst hc
            have c1 := hle (Int.le_refl _)
            have c2 := hge (Int.le_refl _)
            obtain rfl : cv = 0 := by omega
            clear hle hge c1 c2
            go_wp2_with (go_at_call 21; refine (awake_any _).mono ?_; rintro e w9 ⟨rfl, hb1⟩; replace hb := hb.trans (hb1.mono hb.size); clear hb1)
            go_ret
            exact ⟨rfl, hb⟩
          · have c1 : ¬ cu ≤ 0 := by omega
            have c2 : 0 ≤ cu := by omega
            have c3 : ¬ cv < 0 := by have := hge c2; omega
            clear hle hge hc
            go_wp2_with (go_at_call 21; refine (awake_any _).mono ?_; rintro e w9 ⟨rfl, hb1⟩; replace hb := hb.trans (hb1.mono hb.size); clear hb1)
            go_ret
            exact ⟨rfl, hb⟩
        · go_wp2_with (go_at_call 21; refine (awake_any _).mono ?_; rintro e w9 ⟨rfl, hb1⟩; replace hb := hb.trans (hb1.mono hb.size); clear hb1)
          go_ret
          exact ⟨rfl, hb⟩
    · go_upto_region 11 with (fail)
      apply wp_region_lit
      refine wl_k rfl (fun K hK => ?_); go_simp; refine hK _ ?_; clear hK K
      ((with_reducible apply wl_oneG); exact rfl; exact rfl; exact one3 (to0 h2))
      refine wl_k rfl (fun K hK => ?_); go_simp; refine hK _ ?_; clear hK K
      (have lth0po := heap_lt h0; have lth1po := heap_lt h1; have lth2po := heap_lt h2; have lthpapo := heap_lt hpa; have lspo := hb.size; (with_reducible apply wl_new33); intro w14 po2 hbn hlpo2 hpo2; replace h0 := below_look hbn h0; replace h1 := below_look hbn h1; replace h2 := below_look hbn h2; replace hpa := below_look hbn hpa; replace hb := hb.trans (hbn.mono hb.size); clear hbn)
      simp only [put_lit, List.set_cons_zero, List.set_cons_succ]
      ((with_reducible apply wl_put33 (u := 1) (k := s)); exact rfl; exact rfl; exact hpo2; intro w15 hbx hk hq; replace h0 := hk _ _ (by omega) h0; replace h1 := hk _ _ (by omega) h1; replace h2 := hk _ _ (by omega) h2; replace hpa := hk _ _ (by omega) hpa; replace hb := hbx _ _ (by omega) hb; clear hpo2; have hpo2 := hq; clear hbx hk hq)
      rcases hu : addS ua ka 1 s with ⟨uu, ku, ei⟩
      rcases hl : subS ua ka 1 s with ⟨ul, kl, ej⟩
      have HU := Lib.hid hu
      have HL := Lib.hid hl
      clear hu hl
      go_upto_region 12 with (fail)
      apply wp_region_lit
      ((with_reducible apply wl_rowG); exact rfl; exact rfl; exact rowDc hpa)
      ((with_reducible apply wl_rowG); exact rfl; exact rfl; exact rowDc hpo2)
      refine wl_ck rfl (fun K hK => ?_); go_simp; refine ⟨_, _, ⟨rfl, rfl⟩, hK _ _ ⟨_, Add_any _ _ _ _ _ _ _ HU _, ?_⟩⟩; clear hK K; rintro e w16 ⟨rfl, hb1⟩; refine ⟨_, rfl, ?_⟩; simp only [put_lit, List.set_cons_zero, List.set_cons_succ]
      replace h0 := below_look hb1 h0; replace h1 := below_look hb1 h1; replace h2 := below_look hb1 h2; replace hpa := below_look hb1 hpa; replace hpo2 := below_look hb1 hpo2; replace hb := hb.trans (hb1.mono hb.size); clear hb1
      refine wl_k rfl (fun K hK => ?_); go_simp; refine hK _ ?_; clear hK K
      refine wl_k rfl (fun K hK => ?_); go_simp; refine hK _ ?_; clear hK K
      refine wl_k rfl (fun K hK => ?_); go_simp; refine hK _ ?_; clear hK K
      (have lth0pu := heap_lt h0; have lth1pu := heap_lt h1; have lth2pu := heap_lt h2; have lthpapu := heap_lt hpa; have lthpo2pu := heap_lt hpo2; have lspu := hb.size; (with_reducible apply wl_new33); intro w17 pu hbn hlpu hpu; replace h0 := below_look hbn h0; replace h1 := below_look hbn h1; replace h2 := below_look hbn h2; replace hpa := below_look hbn hpa; replace hpo2 := below_look hbn hpo2; replace hb := hb.trans (hbn.mono hb.size); clear hbn)
      ((with_reducible apply wl_put33); exact rfl; exact rfl; exact hpu; intro w18 hbx hk hq; replace h0 := hk _ _ (by omega) h0; replace h1 := hk _ _ (by omega) h1; replace h2 := hk _ _ (by omega) h2; replace hpa := hk _ _ (by omega) hpa; replace hpo2 := hk _ _ (by omega) hpo2; replace hb := hbx _ _ (by omega) hb; clear hpu; have hpu := hq; clear hbx hk hq)
      go_upto_region 13 with (fail)
      apply wp_region_lit
      ((with_reducible apply wl_rowG); exact rfl; exact rfl; exact rowDc hpa)
      ((with_reducible apply wl_rowG); exact rfl; exact rfl; exact rowDc hpo2)
      refine wl_ck rfl (fun K hK => ?_); go_simp; refine ⟨_, _, ⟨rfl, rfl⟩, hK _ _ ⟨_, Sub_any _ _ _ _ _ _ _ HL _, ?_⟩⟩; clear hK K; rintro e w19 ⟨rfl, hb1⟩; refine ⟨_, rfl, ?_⟩; simp only [put_lit, List.set_cons_zero, List.set_cons_succ]
      replace h0 := below_look hb1 h0; replace h1 := below_look hb1 h1; replace h2 := below_look hb1 h2; replace hpa := below_look hb1 hpa; replace hpu := below_look hb1 hpu; replace hb := hb.trans (hb1.mono hb.size); clear hb1
      refine wl_k rfl (fun K hK => ?_); go_simp; refine hK _ ?_; clear hK K
      refine wl_k rfl (fun K hK => ?_); go_simp; refine hK _ ?_; clear hK K
      refine wl_k rfl (fun K hK => ?_); go_simp; refine hK _ ?_; clear hK K
      (have lth0pl := heap_lt h0; have lth1pl := heap_lt h1; have lth2pl := heap_lt h2; have lthpapl := heap_lt hpa; have lthpupl := heap_lt hpu; have lspl := hb.size; (with_reducible apply wl_new33); intro w20 pl hbn hlpl hpl; replace h0 := below_look hbn h0; replace h1 := below_look hbn h1; replace h2 := below_look hbn h2; replace hpa := below_look hbn hpa; replace hpu := below_look hbn hpu; replace hb := hb.trans (hbn.mono hb.size); clear hbn)
      ((with_reducible apply wl_put33); exact rfl; exact rfl; exact hpl; intro w21 hbx hk hq; replace h0 := hk _ _ (by omega) h0; replace h1 := hk _ _ (by omega) h1; replace h2 := hk _ _ (by omega) h2; replace hpa := hk _ _ (by omega) hpa; replace hpu := hk _ _ (by omega) hpu; replace hb := hbx _ _ (by omega) hb; clear hpl; have hpl := hq; clear hbx hk hq)
      rcases hbr : roundDS u2 k2 s m.data.toList with ⟨ub, kb, eb⟩
      have HB := Lib.hid hbr
      clear hbr
      by_cases hei : ei = 0
      · by_cases hej : ej = 0
        · have H1 := Lib.hid (near_up HR.out (hei ▸ HU.out))
          have H2 := Lib.hid (near_low HR.out (hej ▸ HL.out))
          go_upto_region 15 with (fail)
          clear hei hej
          apply wp_region_lit
          ((with_reducible apply wl_rowG); exact rfl; exact rfl; exact rowDc hpu)
          ((with_reducible apply wl_rowG); exact rfl; exact rfl; exact rowDc h0)
          refine wl_ck rfl (fun K hK => ?_); go_simp; refine ⟨_, _, ⟨rfl, rfl⟩, hK _ _ ⟨_, CompareDecimal_any _ _ _ _ _ _ H1 _, ?_⟩⟩; clear hK K; rintro e w22 ⟨rfl, hb1⟩; refine ⟨_, rfl, ?_⟩; simp only [put_lit, List.set_cons_zero, List.set_cons_succ]
          replace h0 := below_look hb1 h0; replace h1 := below_look hb1 h1; replace h2 := below_look hb1 h2; replace hpa := below_look hb1 hpa; replace hpl := below_look hb1 hpl; replace hb := hb.trans (hb1.mono hb.size); clear hb1
          go_upto_region 16 with (fail)
          apply wp_region_lit
          ((with_reducible apply wl_rowG); exact rfl; exact rfl; exact rowDc hpl)
          ((with_reducible apply wl_rowG); exact rfl; exact rfl; exact rowDc h0)
          refine wl_ck rfl (fun K hK => ?_); go_simp; refine ⟨_, _, ⟨rfl, rfl⟩, hK _ _ ⟨_, CompareDecimal_any _ _ _ _ _ _ H2 _, ?_⟩⟩; clear hK K; rintro e w23 ⟨rfl, hb1⟩; refine ⟨_, rfl, ?_⟩; simp only [put_lit, List.set_cons_zero, List.set_cons_succ]
          replace h0 := below_look hb1 h0; replace h1 := below_look hb1 h1; replace h2 := below_look hb1 h2; replace hpa := below_look hb1 hpa; replace hb := hb.trans (hb1.mono hb.size); clear hb1
          clear hpl hpu hpo2
          go_upto_region 19 with (fail)
          apply wp_region_lit
          ((with_reducible apply wl_rowG); exact rfl; exact rfl; exact rowDc h1)
          refine wl_k rfl (fun K hK => ?_); go_simp; refine hK _ ?_; clear hK K
          ((with_reducible apply wl_oneG); exact rfl; exact rfl; exact one3 (to0 h2))
          refine wl_k rfl (fun K hK => ?_); go_simp; refine hK _ ?_; clear hK K
          ((with_reducible apply wl_oneG); exact rfl; exact rfl; exact one9 (to1 h2))
          refine wl_ck rfl (fun K hK => ?_); go_simp; refine ⟨_, _, ⟨rfl, rfl⟩, hK _ _ ⟨_, Round_any _ _ _ _ _ _ _ HB _, ?_⟩⟩; clear hK K; rintro e w30 ⟨rfl, hb1⟩; refine ⟨_, rfl, ?_⟩; simp only [put_lit, List.set_cons_zero, List.set_cons_succ]
          replace h0 := below_look hb1 h0; replace h1 := below_look hb1 h1; replace h2 := below_look hb1 h2; replace hpa := below_look hb1 hpa; replace hb := hb.trans (hb1.mono hb.size); clear hb1
          refine wl_k rfl (fun K hK => ?_); go_simp; refine hK _ ?_; clear hK K
          refine wl_k rfl (fun K hK => ?_); go_simp; refine hK _ ?_; clear hK K
          refine wl_k rfl (fun K hK => ?_); go_simp; refine hK _ ?_; clear hK K
          (have lth0pb := heap_lt h0; have lth1pb := heap_lt h1; have lth2pb := heap_lt h2; have lthpapb := heap_lt hpa; have lspb := hb.size; (with_reducible apply wl_new33); intro w31 pb hbn hlpb hpb; replace h0 := below_look hbn h0; replace h1 := below_look hbn h1; replace h2 := below_look hbn h2; replace hpa := below_look hbn hpa; replace hb := hb.trans (hbn.mono hb.size); clear hbn)
          ((with_reducible apply wl_put33); exact rfl; exact rfl; exact hpb; intro w32 hbx hk hq; replace h0 := hk _ _ (by omega) h0; replace h1 := hk _ _ (by omega) h1; replace h2 := hk _ _ (by omega) h2; replace hpa := hk _ _ (by omega) hpa; replace hb := hbx _ _ (by omega) hb; clear hpb; have hpb := hq; clear hbx hk hq)
          by_cases heb : eb = 0
          · obtain ⟨cu, cv, hcu, hcv, hle, hge⟩ := near_order HR.out (rounds_of HB.out heb)
            have HCU := Lib.hid hcu
            have HCV := Lib.hid hcv
            clear hcu hcv
            go_upto_region 22 with (fail)
            clear heb
            apply wp_region_lit
            ((with_reducible apply wl_rowG); exact rfl; exact rfl; exact rowDc h0)
            ((with_reducible apply wl_rowG); exact rfl; exact rfl; exact rowDc h1)
            refine wl_ck rfl (fun K hK => ?_); go_simp; refine ⟨_, _, ⟨rfl, rfl⟩, hK _ _ ⟨_, CompareDecimal_any _ _ _ _ _ _ HCU _, ?_⟩⟩; clear hK K; rintro e w33 ⟨rfl, hb1⟩; refine ⟨_, rfl, ?_⟩; simp only [put_lit, List.set_cons_zero, List.set_cons_succ]
            replace h0 := below_look hb1 h0; replace h1 := below_look hb1 h1; replace h2 := below_look hb1 h2; replace hpa := below_look hb1 hpa; replace hpb := below_look hb1 hpb; replace hb := hb.trans (hb1.mono hb.size); clear hb1
            go_upto_region 23 with (fail)
            apply wp_region_lit
            ((with_reducible apply wl_rowG); exact rfl; exact rfl; exact rowDc hpa)
            ((with_reducible apply wl_rowG); exact rfl; exact rfl; exact rowDc hpb)
            refine wl_ck rfl (fun K hK => ?_); go_simp; refine ⟨_, _, ⟨rfl, rfl⟩, hK _ _ ⟨_, CompareDecimal_any _ _ _ _ _ _ HCV _, ?_⟩⟩; clear hK K; rintro e w34 ⟨rfl, hb1⟩; refine ⟨_, rfl, ?_⟩; simp only [put_lit, List.set_cons_zero, List.set_cons_succ]
            replace h0 := below_look hb1 h0; replace h1 := below_look hb1 h1; replace h2 := below_look hb1 h2; replace hpa := below_look hb1 hpa; replace hpb := below_look hb1 hpb; replace hb := hb.trans (hb1.mono hb.size); clear hb1
            rcases Int.lt_trichotomy cu 0 with hc | hc | hc
            · have c1 : cu ≤ 0 := by omega
              have c2 : ¬ 0 ≤ cu := by omega
              have c3 : ¬ 0 < cv := by have := hle c1; omega
              clear hle hge hc
              go_wp2_with (go_at_call 21; refine (awake_any _).mono ?_; rintro e w9 ⟨rfl, hb1⟩; replace hb := hb.trans (hb1.mono hb.size); clear hb1)
              go_ret
              exact ⟨rfl, hb⟩
            · subst hc
              have c1 := hle (Int.le_refl _)
              have c2 := hge (Int.le_refl _)
              obtain rfl : cv = 0 := by omega
              clear hle hge c1 c2
              go_wp2_with (go_at_call 21; refine (awake_any _).mono ?_; rintro e w9 ⟨rfl, hb1⟩; replace hb := hb.trans (hb1.mono hb.size); clear hb1)
              go_ret
              exact ⟨rfl, hb⟩
            · have c1 : ¬ cu ≤ 0 := by omega
              have c2 : 0 ≤ cu := by omega
              have c3 : ¬ cv < 0 := by have := hge c2; omega
              clear hle hge hc
              go_wp2_with (go_at_call 21; refine (awake_any _).mono ?_; rintro e w9 ⟨rfl, hb1⟩; replace hb := hb.trans (hb1.mono hb.size); clear hb1)
              go_ret
              exact ⟨rfl, hb⟩
          · go_wp2_with (go_at_call 21; refine (awake_any _).mono ?_; rintro e w9 ⟨rfl, hb1⟩; replace hb := hb.trans (hb1.mono hb.size); clear hb1)
            go_ret
            exact ⟨rfl, hb⟩
        · clear hpo2 hpu hpl
          go_upto_region 19 with (fail)
          apply wp_region_lit
          ((with_reducible apply wl_rowG); exact rfl; exact rfl; exact rowDc h1)
          refine wl_k rfl (fun K hK => ?_); go_simp; refine hK _ ?_; clear hK K
          ((with_reducible apply wl_oneG); exact rfl; exact rfl; exact one3 (to0 h2))
          refine wl_k rfl (fun K hK => ?_); go_simp; refine hK _ ?_; clear hK K
          ((with_reducible apply wl_oneG); exact rfl; exact rfl; exact one9 (to1 h2))
          refine wl_ck rfl (fun K hK => ?_); go_simp; refine ⟨_, _, ⟨rfl, rfl⟩, hK _ _ ⟨_, Round_any _ _ _ _ _ _ _ HB _, ?_⟩⟩; clear hK K; rintro e w30 ⟨rfl, hb1⟩; refine ⟨_, rfl, ?_⟩; simp only [put_lit, List.set_cons_zero, List.set_cons_succ]
          replace h0 := below_look hb1 h0; replace h1 := below_look hb1 h1; replace h2 := below_look hb1 h2; replace hpa := below_look hb1 hpa; replace hb := hb.trans (hb1.mono hb.size); clear hb1
          refine wl_k rfl (fun K hK => ?_); go_simp; refine hK _ ?_; clear hK K
          refine wl_k rfl (fun K hK => ?_); go_simp; refine hK _ ?_; clear hK K
          refine wl_k rfl (fun K hK => ?_); go_simp; refine hK _ ?_; clear hK K
          (have lth0pb := heap_lt h0; have lth1pb := heap_lt h1; have lth2pb := heap_lt h2; have lthpapb := heap_lt hpa; have lspb := hb.size; (with_reducible apply wl_new33); intro w31 pb hbn hlpb hpb; replace h0 := below_look hbn h0; replace h1 := below_look hbn h1; replace h2 := below_look hbn h2; replace hpa := below_look hbn hpa; replace hb := hb.trans (hbn.mono hb.size); clear hbn)
          ((with_reducible apply wl_put33); exact rfl; exact rfl; exact hpb; intro w32 hbx hk hq; replace h0 := hk _ _ (by omega) h0; replace h1 := hk _ _ (by omega) h1; replace h2 := hk _ _ (by omega) h2; replace hpa := hk _ _ (by omega) hpa; replace hb := hbx _ _ (by omega) hb; clear hpb; have hpb := hq; clear hbx hk hq)
          by_cases heb : eb = 0
          · obtain ⟨cu, cv, hcu, hcv, hle, hge⟩ := near_order HR.out (rounds_of HB.out heb)
            have HCU := Lib.hid hcu
            have HCV := Lib.hid hcv
            clear hcu hcv
            go_upto_region 22 with (fail)
            clear heb
            apply wp_region_lit
            ((with_reducible apply wl_rowG); exact rfl; exact rfl; exact rowDc h0)
            ((with_reducible apply wl_rowG); exact rfl; exact rfl; exact rowDc h1)
            refine wl_ck rfl (fun K hK => ?_); go_simp; refine ⟨_, _, ⟨rfl, rfl⟩, hK _ _ ⟨_, CompareDecimal_any _ _ _ _ _ _ HCU _, ?_⟩⟩; clear hK K; rintro e w33 ⟨rfl, hb1⟩; refine ⟨_, rfl, ?_⟩; simp only [put_lit, List.set_cons_zero, List.set_cons_succ]
            replace h0 := below_look hb1 h0; replace h1 := below_look hb1 h1; replace h2 := below_look hb1 h2; replace hpa := below_look hb1 hpa; replace hpb := below_look hb1 hpb; replace hb := hb.trans (hb1.mono hb.size); clear hb1
            go_upto_region 23 with (fail)
            apply wp_region_lit
            ((with_reducible apply wl_rowG); exact rfl; exact rfl; exact rowDc hpa)
            ((with_reducible apply wl_rowG); exact rfl; exact rfl; exact rowDc hpb)
            refine wl_ck rfl (fun K hK => ?_); go_simp; refine ⟨_, _, ⟨rfl, rfl⟩, hK _ _ ⟨_, CompareDecimal_any _ _ _ _ _ _ HCV _, ?_⟩⟩; clear hK K; rintro e w34 ⟨rfl, hb1⟩; refine ⟨_, rfl, ?_⟩; simp only [put_lit, List.set_cons_zero, List.set_cons_succ]
            replace h0 := below_look hb1 h0; replace h1 := below_look hb1 h1; replace h2 := below_look hb1 h2; replace hpa := below_look hb1 hpa; replace hpb := below_look hb1 hpb; replace hb := hb.trans (hb1.mono hb.size); clear hb1
            rcases Int.lt_trichotomy cu 0 with hc | hc | hc
            · have c1 : cu ≤ 0 := by omega
              have c2 : ¬ 0 ≤ cu := by omega
              have c3 : ¬ 0 < cv := by have := hle c1; omega
              clear hle hge hc
              go_wp2_with (go_at_call 21; refine (awake_any _).mono ?_; rintro e w9 ⟨rfl, hb1⟩; replace hb := hb.trans (hb1.mono hb.size); clear hb1)
              go_ret
              exact ⟨rfl, hb⟩
            · subst hc
              have c1 := hle (Int.le_refl _)
              have c2 := hge (Int.le_refl _)
              obtain rfl : cv = 0 := by omega
              clear hle hge c1 c2
              go_wp2_with (go_at_call 21; refine (awake_any _).mono ?_; rintro e w9 ⟨rfl, hb1⟩; replace hb := hb.trans (hb1.mono hb.size); clear hb1)
              go_ret
              exact ⟨rfl, hb⟩
            · have c1 : ¬ cu ≤ 0 := by omega
              have c2 : 0 ≤ cu := by omega
              have c3 : ¬ cv < 0 := by have := hge c2; omega
              clear hle hge hc
              go_wp2_with (go_at_call 21; refine (awake_any _).mono ?_; rintro e w9 ⟨rfl, hb1⟩; replace hb := hb.trans (hb1.mono hb.size); clear hb1)
              go_ret
              exact ⟨rfl, hb⟩
          · go_wp2_with (go_at_call 21; refine (awake_any _).mono ?_; rintro e w9 ⟨rfl, hb1⟩; replace hb := hb.trans (hb1.mono hb.size); clear hb1)
            go_ret
            exact ⟨rfl, hb⟩
      · clear hpo2 hpu hpl
        go_upto_region 19 with (fail)
        apply wp_region_lit
        ((with_reducible apply wl_rowG); exact rfl; exact rfl; exact rowDc h1)
        refine wl_k rfl (fun K hK => ?_); go_simp; refine hK _ ?_; clear hK K
        ((with_reducible apply wl_oneG); exact rfl; exact rfl; exact one3 (to0 h2))
        refine wl_k rfl (fun K hK => ?_); go_simp; refine hK _ ?_; clear hK K
        ((with_reducible apply wl_oneG); exact rfl; exact rfl; exact one9 (to1 h2))
        refine wl_ck rfl (fun K hK => ?_); go_simp; refine ⟨_, _, ⟨rfl, rfl⟩, hK _ _ ⟨_, Round_any _ _ _ _ _ _ _ HB _, ?_⟩⟩; clear hK K; rintro e w30 ⟨rfl, hb1⟩; refine ⟨_, rfl, ?_⟩; simp only [put_lit, List.set_cons_zero, List.set_cons_succ]
        replace h0 := below_look hb1 h0; replace h1 := below_look hb1 h1; replace h2 := below_look hb1 h2; replace hpa := below_look hb1 hpa; replace hb := hb.trans (hb1.mono hb.size); clear hb1
        refine wl_k rfl (fun K hK => ?_); go_simp; refine hK _ ?_; clear hK K
        refine wl_k rfl (fun K hK => ?_); go_simp; refine hK _ ?_; clear hK K
        refine wl_k rfl (fun K hK => ?_); go_simp; refine hK _ ?_; clear hK K
        (have lth0pb := heap_lt h0; have lth1pb := heap_lt h1; have lth2pb := heap_lt h2; have lthpapb := heap_lt hpa; have lspb := hb.size; (with_reducible apply wl_new33); intro w31 pb hbn hlpb hpb; replace h0 := below_look hbn h0; replace h1 := below_look hbn h1; replace h2 := below_look hbn h2; replace hpa := below_look hbn hpa; replace hb := hb.trans (hbn.mono hb.size); clear hbn)
        ((with_reducible apply wl_put33); exact rfl; exact rfl; exact hpb; intro w32 hbx hk hq; replace h0 := hk _ _ (by omega) h0; replace h1 := hk _ _ (by omega) h1; replace h2 := hk _ _ (by omega) h2; replace hpa := hk _ _ (by omega) hpa; replace hb := hbx _ _ (by omega) hb; clear hpb; have hpb := hq; clear hbx hk hq)
        by_cases heb : eb = 0
        · obtain ⟨cu, cv, hcu, hcv, hle, hge⟩ := near_order HR.out (rounds_of HB.out heb)
          have HCU := Lib.hid hcu
          have HCV := Lib.hid hcv
          clear hcu hcv
          go_upto_region 22 with (fail)
          clear heb
          apply wp_region_lit
          ((with_reducible apply wl_rowG); exact rfl; exact rfl; exact rowDc h0)
          ((with_reducible apply wl_rowG); exact rfl; exact rfl; exact rowDc h1)
          refine wl_ck rfl (fun K hK => ?_); go_simp; refine ⟨_, _, ⟨rfl, rfl⟩, hK _ _ ⟨_, CompareDecimal_any _ _ _ _ _ _ HCU _, ?_⟩⟩; clear hK K; rintro e w33 ⟨rfl, hb1⟩; refine ⟨_, rfl, ?_⟩; simp only [put_lit, List.set_cons_zero, List.set_cons_succ]
          replace h0 := below_look hb1 h0; replace h1 := below_look hb1 h1; replace h2 := below_look hb1 h2; replace hpa := below_look hb1 hpa; replace hpb := below_look hb1 hpb; replace hb := hb.trans (hb1.mono hb.size); clear hb1
          go_upto_region 23 with (fail)
          apply wp_region_lit
          ((with_reducible apply wl_rowG); exact rfl; exact rfl; exact rowDc hpa)
          ((with_reducible apply wl_rowG); exact rfl; exact rfl; exact rowDc hpb)
          refine wl_ck rfl (fun K hK => ?_); go_simp; refine ⟨_, _, ⟨rfl, rfl⟩, hK _ _ ⟨_, CompareDecimal_any _ _ _ _ _ _ HCV _, ?_⟩⟩; clear hK K; rintro e w34 ⟨rfl, hb1⟩; refine ⟨_, rfl, ?_⟩; simp only [put_lit, List.set_cons_zero, List.set_cons_succ]
          replace h0 := below_look hb1 h0; replace h1 := below_look hb1 h1; replace h2 := below_look hb1 h2; replace hpa := below_look hb1 hpa; replace hpb := below_look hb1 hpb; replace hb := hb.trans (hb1.mono hb.size); clear hb1
          rcases Int.lt_trichotomy cu 0 with hc | hc | hc
          · have c1 : cu ≤ 0 := by omega
            have c2 : ¬ 0 ≤ cu := by omega
            have c3 : ¬ 0 < cv := by have := hle c1; omega
            clear hle hge hc
            go_wp2_with (go_at_call 21; refine (awake_any _).mono ?_; rintro e w9 ⟨rfl, hb1⟩; replace hb := hb.trans (hb1.mono hb.size); clear hb1)
            go_ret
            exact ⟨rfl, hb⟩
          · subst hc
            have c1 := hle (Int.le_refl _)
            have c2 := hge (Int.le_refl _)
            obtain rfl : cv = 0 := by omega
            clear hle hge c1 c2
            go_wp2_with (go_at_call 21; refine (awake_any _).mono ?_; rintro e w9 ⟨rfl, hb1⟩; replace hb := hb.trans (hb1.mono hb.size); clear hb1)
            go_ret
            exact ⟨rfl, hb⟩
          · have c1 : ¬ cu ≤ 0 := by omega
            have c2 : 0 ≤ cu := by omega
            have c3 : ¬ cv < 0 := by have := hge c2; omega
            clear hle hge hc
            go_wp2_with (go_at_call 21; refine (awake_any _).mono ?_; rintro e w9 ⟨rfl, hb1⟩; replace hb := hb.trans (hb1.mono hb.size); clear hb1)
            go_ret
            exact ⟨rfl, hb⟩
        · go_wp2_with (go_at_call 21; refine (awake_any _).mono ?_; rintro e w9 ⟨rfl, hb1⟩; replace hb := hb.trans (hb1.mono hb.size); clear hb1)
          go_ret
          exact ⟨rfl, hb⟩
  · go_wp2_with (go_at_call 21; refine (awake_any _).mono ?_; rintro e w9 ⟨rfl, hb1⟩; replace hb := hb.trans (hb1.mono hb.size); clear hb1)
    go_ret
    exact ⟨rfl, hb⟩
end Go.Proofs.Ytclainfdeghgnaa
