/- The law of the sums and differences of decimals. -/
import Derived.Test.YtclainfdeghgnaaW53
import Derived.Test.YtclainfdeghgnaaW50
import Derived.Outline
namespace Go.Proofs.Ytclainfdeghgnaa
open Go.RowKit Go.Proofs.Ytclainfdeghgnaa.Nm
set_option maxHeartbeats 2000000 in
set_option maxRecDepth 100000 in
theorem NumberAdds_any (u1 k1 u2 k2 : Int) (w : World) :
    Calls Try.prog 15 #[.agg (dc u1 k1), .agg (dc u2 k2)] w fun e w' => e = .returned (.bool true) ∧ Below w.heap.size w w' := by
  rcases ha : addS u1 k1 u2 k2 with ⟨ua, ka, ea⟩
  rcases hs : subS u1 k1 u2 k2 with ⟨us, ks, es⟩
  rcases hc : cmpDS u1 k1 u2 k2 with ⟨rc, ec⟩
  have HA := Lib.hid ha
  have HS := Lib.hid hs
  have HC := Lib.hid hc
  clear ha hs hc
  go_enter Try.func15, Try.ntmps15
  go_upto_region 1 with (fail)
  refine wp_world (fun W => W.heap[w.heap.size]? = some (.cells (dc u1 k1) 33 (0, 0)) ∧ W.heap[w.heap.size + 1]? = some (.cells (dc u2 k2) 33 (0, 0)) ∧ Below w.heap.size w W) ⟨ha_old (ha_new rfl), ha_new (by simp), ((Below.refl _ _).alloc (Nat.le_refl _) _).alloc (by simp) _⟩ ?_
  rintro W ⟨h0, h1, hb⟩
  apply wp_region_lit
  ((with_reducible apply wl_rowG); exact rfl; exact rfl; exact rowDc h0)
  ((with_reducible apply wl_rowG); exact rfl; exact rfl; exact rowDc h1)
  refine wl_ck rfl (fun K hK => ?_); go_simp; refine ⟨_, _, ⟨rfl, rfl⟩, hK _ _ ⟨_, Add_any _ _ _ _ _ _ _ HA _, ?_⟩⟩; clear hK K; rintro e w1 ⟨rfl, hb1⟩; refine ⟨_, rfl, ?_⟩; simp only [put_lit, List.set_cons_zero, List.set_cons_succ]
  replace h0 := below_look hb1 h0; replace h1 := below_look hb1 h1; replace hb := hb.trans (hb1.mono hb.size); clear hb1
  refine wl_k rfl (fun K hK => ?_); go_simp; refine hK _ ?_; clear hK K
  refine wl_k rfl (fun K hK => ?_); go_simp; refine hK _ ?_; clear hK K
  refine wl_k rfl (fun K hK => ?_); go_simp; refine hK _ ?_; clear hK K
  (have lth0pa := heap_lt h0; have lth1pa := heap_lt h1; have lspa := hb.size; (with_reducible apply wl_new33); intro w2 pa hbn hlpa hpa; replace h0 := below_look hbn h0; replace h1 := below_look hbn h1; replace hb := hb.trans (hbn.mono hb.size); clear hbn)
  ((with_reducible apply wl_put33); exact rfl; exact rfl; exact hpa; intro w3 hbx hk hq; replace h0 := hk _ _ (by omega) h0; replace h1 := hk _ _ (by omega) h1; replace hb := hbx _ _ (by omega) hb; clear hpa; have hpa := hq; clear hbx hk hq)
  go_upto_region 2 with (fail)
  apply wp_region_lit
  ((with_reducible apply wl_rowG); exact rfl; exact rfl; exact rowDc h0)
  ((with_reducible apply wl_rowG); exact rfl; exact rfl; exact rowDc h1)
  refine wl_ck rfl (fun K hK => ?_); go_simp; refine ⟨_, _, ⟨rfl, rfl⟩, hK _ _ ⟨_, AddI_any _ _ _ _ _ _ _ HA _, ?_⟩⟩; clear hK K; rintro e w4 ⟨rfl, hb1⟩; refine ⟨_, rfl, ?_⟩; simp only [put_lit, List.set_cons_zero, List.set_cons_succ]
  replace h0 := below_look hb1 h0; replace h1 := below_look hb1 h1; replace hpa := below_look hb1 hpa; replace hb := hb.trans (hb1.mono hb.size); clear hb1
  refine wl_k rfl (fun K hK => ?_); go_simp; refine hK _ ?_; clear hK K
  refine wl_k rfl (fun K hK => ?_); go_simp; refine hK _ ?_; clear hK K
  refine wl_k rfl (fun K hK => ?_); go_simp; refine hK _ ?_; clear hK K
  (have lth0pb := heap_lt h0; have lth1pb := heap_lt h1; have lthpapb := heap_lt hpa; have lspb := hb.size; (with_reducible apply wl_new33); intro w5 pb hbn hlpb hpb; replace h0 := below_look hbn h0; replace h1 := below_look hbn h1; replace hpa := below_look hbn hpa; replace hb := hb.trans (hbn.mono hb.size); clear hbn)
  ((with_reducible apply wl_put33); exact rfl; exact rfl; exact hpb; intro w6 hbx hk hq; replace h0 := hk _ _ (by omega) h0; replace h1 := hk _ _ (by omega) h1; replace hpa := hk _ _ (by omega) hpa; replace hb := hbx _ _ (by omega) hb; clear hpb; have hpb := hq; clear hbx hk hq)
  go_upto_region 3 with (fail)
  apply wp_region_lit
  ((with_reducible apply wl_rowG); exact rfl; exact rfl; exact rowDc h0)
  ((with_reducible apply wl_rowG); exact rfl; exact rfl; exact rowDc h1)
  refine wl_ck rfl (fun K hK => ?_); go_simp; refine ⟨_, _, ⟨rfl, rfl⟩, hK _ _ ⟨_, Sub_any _ _ _ _ _ _ _ HS _, ?_⟩⟩; clear hK K; rintro e w7 ⟨rfl, hb1⟩; refine ⟨_, rfl, ?_⟩; simp only [put_lit, List.set_cons_zero, List.set_cons_succ]
  replace h0 := below_look hb1 h0; replace h1 := below_look hb1 h1; replace hpa := below_look hb1 hpa; replace hpb := below_look hb1 hpb; replace hb := hb.trans (hb1.mono hb.size); clear hb1
  refine wl_k rfl (fun K hK => ?_); go_simp; refine hK _ ?_; clear hK K
  refine wl_k rfl (fun K hK => ?_); go_simp; refine hK _ ?_; clear hK K
  refine wl_k rfl (fun K hK => ?_); go_simp; refine hK _ ?_; clear hK K
  (have lth0pc := heap_lt h0; have lth1pc := heap_lt h1; have lthpapc := heap_lt hpa; have lthpbpc := heap_lt hpb; have lspc := hb.size; (with_reducible apply wl_new33); intro w8 pc hbn hlpc hpc; replace h0 := below_look hbn h0; replace h1 := below_look hbn h1; replace hpa := below_look hbn hpa; replace hpb := below_look hbn hpb; replace hb := hb.trans (hbn.mono hb.size); clear hbn)
  ((with_reducible apply wl_put33); exact rfl; exact rfl; exact hpc; intro w9 hbx hk hq; replace h0 := hk _ _ (by omega) h0; replace h1 := hk _ _ (by omega) h1; replace hpa := hk _ _ (by omega) hpa; replace hpb := hk _ _ (by omega) hpb; replace hb := hbx _ _ (by omega) hb; clear hpc; have hpc := hq; clear hbx hk hq)
  go_upto_region 4 with (fail)
  apply wp_region_lit
  ((with_reducible apply wl_rowG); exact rfl; exact rfl; exact rowDc h0)
  ((with_reducible apply wl_rowG); exact rfl; exact rfl; exact rowDc h1)
  refine wl_ck rfl (fun K hK => ?_); go_simp; refine ⟨_, _, ⟨rfl, rfl⟩, hK _ _ ⟨_, SubI_any _ _ _ _ _ _ _ HS _, ?_⟩⟩; clear hK K; rintro e w10 ⟨rfl, hb1⟩; refine ⟨_, rfl, ?_⟩; simp only [put_lit, List.set_cons_zero, List.set_cons_succ]
  replace h0 := below_look hb1 h0; replace h1 := below_look hb1 h1; replace hpa := below_look hb1 hpa; replace hpb := below_look hb1 hpb; replace hpc := below_look hb1 hpc; replace hb := hb.trans (hb1.mono hb.size); clear hb1
  refine wl_k rfl (fun K hK => ?_); go_simp; refine hK _ ?_; clear hK K
  refine wl_k rfl (fun K hK => ?_); go_simp; refine hK _ ?_; clear hK K
  refine wl_k rfl (fun K hK => ?_); go_simp; refine hK _ ?_; clear hK K
  (have lth0pd := heap_lt h0; have lth1pd := heap_lt h1; have lthpapd := heap_lt hpa; have lthpbpd := heap_lt hpb; have lthpcpd := heap_lt hpc; have lspd := hb.size; (with_reducible apply wl_new33); intro w11 pd hbn hlpd hpd; replace h0 := below_look hbn h0; replace h1 := below_look hbn h1; replace hpa := below_look hbn hpa; replace hpb := below_look hbn hpb; replace hpc := below_look hbn hpc; replace hb := hb.trans (hbn.mono hb.size); clear hbn)
  ((with_reducible apply wl_put33); exact rfl; exact rfl; exact hpd; intro w12 hbx hk hq; replace h0 := hk _ _ (by omega) h0; replace h1 := hk _ _ (by omega) h1; replace hpa := hk _ _ (by omega) hpa; replace hpb := hk _ _ (by omega) hpb; replace hpc := hk _ _ (by omega) hpc; replace hb := hbx _ _ (by omega) hb; clear hpd; have hpd := hq; clear hbx hk hq)
  go_upto_region 5 with (fail)
  apply wp_region_lit
  ((with_reducible apply wl_rowG); exact rfl; exact rfl; exact rowDc h0)
  ((with_reducible apply wl_rowG); exact rfl; exact rfl; exact rowDc h1)
  refine wl_ck rfl (fun K hK => ?_); go_simp; refine ⟨_, _, ⟨rfl, rfl⟩, hK _ _ ⟨_, CompareDecimal_any _ _ _ _ _ _ HC _, ?_⟩⟩; clear hK K; rintro e w20 ⟨rfl, hb1⟩; refine ⟨_, rfl, ?_⟩; simp only [put_lit, List.set_cons_zero, List.set_cons_succ]
  replace h0 := below_look hb1 h0; replace h1 := below_look hb1 h1; replace hpa := below_look hb1 hpa; replace hpb := below_look hb1 hpb; replace hpc := below_look hb1 hpc; replace hpd := below_look hb1 hpd; replace hb := hb.trans (hb1.mono hb.size); clear hb1
  go_upto_region 6 with (fail)
  apply wp_region_lit
  ((with_reducible apply wl_rowG); exact rfl; exact rfl; exact rowDc h0)
  ((with_reducible apply wl_rowG); exact rfl; exact rfl; exact rowDc h1)
  refine wl_ck rfl (fun K hK => ?_); go_simp; refine ⟨_, _, ⟨rfl, rfl⟩, hK _ _ ⟨_, CompareDecimalI_any _ _ _ _ _ _ HC _, ?_⟩⟩; clear hK K; rintro e w20 ⟨rfl, hb1⟩; refine ⟨_, rfl, ?_⟩; simp only [put_lit, List.set_cons_zero, List.set_cons_succ]
  replace h0 := below_look hb1 h0; replace h1 := below_look hb1 h1; replace hpa := below_look hb1 hpa; replace hpb := below_look hb1 hpb; replace hpc := below_look hb1 hpc; replace hpd := below_look hb1 hpd; replace hb := hb.trans (hb1.mono hb.size); clear hb1
  go_upto_region 7 with (fail)
  apply wp_region_lit
  ((with_reducible apply wl_rowG); exact rfl; exact rfl; exact rowDc hpa)
  ((with_reducible apply wl_rowG); exact rfl; exact rfl; exact rowDc hpb)
  simp only [dc]
  refine wl_k rfl (fun K hK => ?_); go_simp; refine hK _ ?_; clear hK K
  refine wl_k rfl (fun K hK => ?_); go_simp; refine hK _ ?_; clear hK K
  refine wl_k rfl (fun K hK => ?_); go_simp; refine hK _ ?_; clear hK K
  refine wl_k rfl (fun K hK => ?_); go_simp; refine hK _ ?_; clear hK K
  refine wl_k rfl (fun K hK => ?_); go_simp; refine hK _ ?_; clear hK K
  refine wl_k rfl (fun K hK => ?_); go_simp; refine hK _ ?_; clear hK K
  refine wl_k rfl (fun K hK => ?_); go_simp; refine hK _ ?_; clear hK K
  ((with_reducible apply wl_rowG); exact rfl; exact rfl; exact rowDc hpc)
  ((with_reducible apply wl_rowG); exact rfl; exact rfl; exact rowDc hpd)
  simp only [dc]
  go_wp2_with (go_at_call 21; refine (awake_any _).mono ?_; rintro e w9 ⟨rfl, hb1⟩; replace hb := hb.trans (hb1.mono hb.size); clear hb1)
  go_ret
  exact ⟨rfl, hb⟩
end Go.Proofs.Ytclainfdeghgnaa
