/- The law of undoing: sums of decimals may be ordered and grouped, and a difference undoes a sum. -/
import Derived.Test.YtclainfdeghgnaaM9
import Derived.Test.YtclainfdeghgnaaW31
import Derived.Outline
namespace Go.Proofs.Ytclainfdeghgnaa
open Go.RowKit Go.Proofs.Ytclainfdeghgnaa.Nm
theorem ex_alloc33 {o : Oper} (ho : o.op = .alloc 33) (ev : Operand → Value) (w : World) : (execOp ev o).run Try.prog w = .ok (.value (.pointer (some ⟨w.heap.size, 0, none⟩))) (w.alloc (.cells (dc 0 0) 33)) := by
  unfold execOp
  simp only [ho]
  simp [go_sem, dc]
theorem wl_new33 {ops : Array Oper} {rest : List Oper} {dst : Option Tmp} {ty' : TypeId} {pos : String} {after : Array Edge} {a : Act} {w : World} {Q : Exit → Act → World → Prop}
    (h : ∀ W p, Below w.heap.size w W → w.heap.size ≤ p → W.heap[p]? = some (.cells (dc 0 0) 33 (0, 0)) → wpList Try.prog ops Q rest (a.put dst (.pointer (some ⟨p, 0, none⟩))) W) : wpList Try.prog ops Q (⟨dst, .alloc 33, ty', pos, after, none⟩ :: rest) a w := wl_new (ex_alloc33 rfl) h
set_option maxHeartbeats 4000000 in
set_option maxRecDepth 100000 in
theorem NumberUndoes_any (u1 k1 u2 k2 u3 k3 : Int) (w : World) :
    Calls Try.prog 16 #[.agg (dc u1 k1), .agg (dc u2 k2), .agg (dc u3 k3)] w fun e w' => e = .returned (.bool true) ∧ Below w.heap.size w w' := by
  rcases ha : addS u1 k1 u2 k2 with ⟨ua, ka, ea⟩
  have HA := Lib.hid ha
  have hb' := ha
  rw [addS_comm] at hb'
  have HB := Lib.hid hb'
  clear ha hb'
  go_enter Try.func16, Try.ntmps16
  go_upto_region 1 with (fail)
  refine wp_world (fun W => W.heap[w.heap.size]? = some (.cells (dc u1 k1) 33 (0, 0)) ∧ W.heap[w.heap.size + 1]? = some (.cells (dc u2 k2) 33 (0, 0)) ∧ W.heap[w.heap.size + 1 + 1]? = some (.cells (dc u3 k3) 33 (0, 0)) ∧ Below w.heap.size w W) ⟨ha_old (ha_old (ha_new rfl)), ha_old (ha_new (by simp)), ha_new (by simp), (((Below.refl _ _).alloc (Nat.le_refl _) _).alloc (by simp) _).alloc (by simp; omega) _⟩ ?_
  rintro W ⟨h0, h1, h2, hb⟩
  apply wp_region_lit
  ((with_reducible apply wl_rowG); exact rfl; exact rfl; exact rowDc h0)
  ((with_reducible apply wl_rowG); exact rfl; exact rfl; exact rowDc h1)
  refine wl_ck rfl (fun K hK => ?_); go_simp; refine ⟨_, _, ⟨rfl, rfl⟩, hK _ _ ⟨_, Add_any _ _ _ _ _ _ _ HA _, ?_⟩⟩; clear hK K; rintro e w1 ⟨rfl, hb1⟩; refine ⟨_, rfl, ?_⟩; simp only [put_lit, List.set_cons_zero, List.set_cons_succ]
  replace h0 := below_look hb1 h0; replace h1 := below_look hb1 h1; replace h2 := below_look hb1 h2; replace hb := hb.trans (hb1.mono hb.size); clear hb1
  refine wl_k rfl (fun K hK => ?_); go_simp; refine hK _ ?_; clear hK K
  refine wl_k rfl (fun K hK => ?_); go_simp; refine hK _ ?_; clear hK K
  refine wl_k rfl (fun K hK => ?_); go_simp; refine hK _ ?_; clear hK K
  (have lth0pa := heap_lt h0; have lth1pa := heap_lt h1; have lth2pa := heap_lt h2; have lspa := hb.size; (with_reducible apply wl_new33); intro w2 pa hbn hlpa hpa; replace h0 := below_look hbn h0; replace h1 := below_look hbn h1; replace h2 := below_look hbn h2; replace hb := hb.trans (hbn.mono hb.size); clear hbn)
  ((with_reducible apply wl_put33); exact rfl; exact rfl; exact hpa; intro w3 hbx hk hq; replace h0 := hk _ _ (by omega) h0; replace h1 := hk _ _ (by omega) h1; replace h2 := hk _ _ (by omega) h2; replace hb := hbx _ _ (by omega) hb; clear hpa; have hpa := hq; clear hbx hk hq)
  go_upto_region 2 with (fail)
  apply wp_region_lit
  ((with_reducible apply wl_rowG); exact rfl; exact rfl; exact rowDc h1)
  ((with_reducible apply wl_rowG); exact rfl; exact rfl; exact rowDc h0)
  refine wl_ck rfl (fun K hK => ?_); go_simp; refine ⟨_, _, ⟨rfl, rfl⟩, hK _ _ ⟨_, Add_any _ _ _ _ _ _ _ HB _, ?_⟩⟩; clear hK K; rintro e w4 ⟨rfl, hb1⟩; refine ⟨_, rfl, ?_⟩; simp only [put_lit, List.set_cons_zero, List.set_cons_succ]
  replace h0 := below_look hb1 h0; replace h1 := below_look hb1 h1; replace h2 := below_look hb1 h2; replace hpa := below_look hb1 hpa; replace hb := hb.trans (hb1.mono hb.size); clear hb1
  refine wl_k rfl (fun K hK => ?_); go_simp; refine hK _ ?_; clear hK K
  refine wl_k rfl (fun K hK => ?_); go_simp; refine hK _ ?_; clear hK K
  refine wl_k rfl (fun K hK => ?_); go_simp; refine hK _ ?_; clear hK K
  (have lth0pb := heap_lt h0; have lth1pb := heap_lt h1; have lth2pb := heap_lt h2; have lthpapb := heap_lt hpa; have lspb := hb.size; (with_reducible apply wl_new33); intro w5 pb hbn hlpb hpb; replace h0 := below_look hbn h0; replace h1 := below_look hbn h1; replace h2 := below_look hbn h2; replace hpa := below_look hbn hpa; replace hb := hb.trans (hbn.mono hb.size); clear hbn)
  ((with_reducible apply wl_put33); exact rfl; exact rfl; exact hpb; intro w6 hbx hk hq; replace h0 := hk _ _ (by omega) h0; replace h1 := hk _ _ (by omega) h1; replace h2 := hk _ _ (by omega) h2; replace hpa := hk _ _ (by omega) hpa; replace hb := hbx _ _ (by omega) hb; clear hpb; have hpb := hq; clear hbx hk hq)
  go_upto_region 3 with (fail)
  apply wp_region_lit
  ((with_reducible apply wl_rowG); exact rfl; exact rfl; exact rowDc hpa)
  ((with_reducible apply wl_rowG); exact rfl; exact rfl; exact rowDc hpb)
  simp only [dc]
  clear hpb
  by_cases hea : ea = 0
  · have HEA := Lib.hid hea
    rcases hp : addS ua ka u3 k3 with ⟨up, kp, ep⟩
    rcases hq : addS u2 k2 u3 k3 with ⟨uq, kq, eq⟩
    rcases hc : subS ua ka u2 k2 with ⟨uc, kc, ec⟩
    have HP := Lib.hid hp
    have HQ := Lib.hid hq
    have HC := Lib.hid hc
    clear hp hq hc
    go_upto_region 7 with (fail)
    clear hea
    apply wp_region_lit
    ((with_reducible apply wl_rowG); exact rfl; exact rfl; exact rowDc hpa)
    ((with_reducible apply wl_rowG); exact rfl; exact rfl; exact rowDc h1)
    refine wl_ck rfl (fun K hK => ?_); go_simp; refine ⟨_, _, ⟨rfl, rfl⟩, hK _ _ ⟨_, Sub_any _ _ _ _ _ _ _ HC _, ?_⟩⟩; clear hK K; rintro e w16 ⟨rfl, hb1⟩; refine ⟨_, rfl, ?_⟩; simp only [put_lit, List.set_cons_zero, List.set_cons_succ]
    replace h0 := below_look hb1 h0; replace h1 := below_look hb1 h1; replace h2 := below_look hb1 h2; replace hpa := below_look hb1 hpa; replace hb := hb.trans (hb1.mono hb.size); clear hb1
    refine wl_k rfl (fun K hK => ?_); go_simp; refine hK _ ?_; clear hK K
    refine wl_k rfl (fun K hK => ?_); go_simp; refine hK _ ?_; clear hK K
    refine wl_k rfl (fun K hK => ?_); go_simp; refine hK _ ?_; clear hK K
    (have lth0pc := heap_lt h0; have lth1pc := heap_lt h1; have lth2pc := heap_lt h2; have lthpapc := heap_lt hpa; have lspc := hb.size; (with_reducible apply wl_new33); intro w17 pc hbn hlpc hpc; replace h0 := below_look hbn h0; replace h1 := below_look hbn h1; replace h2 := below_look hbn h2; replace hpa := below_look hbn hpa; replace hb := hb.trans (hbn.mono hb.size); clear hbn)
    ((with_reducible apply wl_put33); exact rfl; exact rfl; exact hpc; intro w18 hbx hk hq; replace h0 := hk _ _ (by omega) h0; replace h1 := hk _ _ (by omega) h1; replace h2 := hk _ _ (by omega) h2; replace hpa := hk _ _ (by omega) hpa; replace hb := hbx _ _ (by omega) hb; clear hpc; have hpc := hq; clear hbx hk hq)
    by_cases hec : ec = 0
    · have HU := Lib.hid (undo1 (HEA.out ▸ HA.out) (hec ▸ HC.out))
      go_upto_region 9 with (fail)
      clear hec
      apply wp_region_lit
      ((with_reducible apply wl_rowG); exact rfl; exact rfl; exact rowDc hpc)
      ((with_reducible apply wl_rowG); exact rfl; exact rfl; exact rowDc h0)
      refine wl_ck rfl (fun K hK => ?_); go_simp; refine ⟨_, _, ⟨rfl, rfl⟩, hK _ _ ⟨_, CompareDecimal_any _ _ _ _ _ _ HU _, ?_⟩⟩; clear hK K; rintro e w19 ⟨rfl, hb1⟩; refine ⟨_, rfl, ?_⟩; simp only [put_lit, List.set_cons_zero, List.set_cons_succ]
      replace h0 := below_look hb1 h0; replace h1 := below_look hb1 h1; replace h2 := below_look hb1 h2; replace hpa := below_look hb1 hpa; replace hb := hb.trans (hb1.mono hb.size); clear hb1
      go_upto_region 12 with (fail)
      apply wp_region_lit
      ((with_reducible apply wl_rowG); exact rfl; exact rfl; exact rowDc hpa)
      ((with_reducible apply wl_rowG); exact rfl; exact rfl; exact rowDc h2)
      refine wl_ck rfl (fun K hK => ?_); go_simp; refine ⟨_, _, ⟨rfl, rfl⟩, hK _ _ ⟨_, Add_any _ _ _ _ _ _ _ HP _, ?_⟩⟩; clear hK K; rintro e w7 ⟨rfl, hb1⟩; refine ⟨_, rfl, ?_⟩; simp only [put_lit, List.set_cons_zero, List.set_cons_succ]
      replace h0 := below_look hb1 h0; replace h1 := below_look hb1 h1; replace h2 := below_look hb1 h2; replace hpa := below_look hb1 hpa; replace hb := hb.trans (hb1.mono hb.size); clear hb1
      refine wl_k rfl (fun K hK => ?_); go_simp; refine hK _ ?_; clear hK K
      refine wl_k rfl (fun K hK => ?_); go_simp; refine hK _ ?_; clear hK K
      refine wl_k rfl (fun K hK => ?_); go_simp; refine hK _ ?_; clear hK K
      (have lth0pp := heap_lt h0; have lth1pp := heap_lt h1; have lth2pp := heap_lt h2; have lthpapp := heap_lt hpa; have lspp := hb.size; (with_reducible apply wl_new33); intro w8 pp hbn hlpp hpp; replace h0 := below_look hbn h0; replace h1 := below_look hbn h1; replace h2 := below_look hbn h2; replace hpa := below_look hbn hpa; replace hb := hb.trans (hbn.mono hb.size); clear hbn)
      ((with_reducible apply wl_put33); exact rfl; exact rfl; exact hpp; intro w9 hbx hk hq; replace h0 := hk _ _ (by omega) h0; replace h1 := hk _ _ (by omega) h1; replace h2 := hk _ _ (by omega) h2; replace hpa := hk _ _ (by omega) hpa; replace hb := hbx _ _ (by omega) hb; clear hpp; have hpp := hq; clear hbx hk hq)
      go_upto_region 13 with (fail)
      apply wp_region_lit
      ((with_reducible apply wl_rowG); exact rfl; exact rfl; exact rowDc h1)
      ((with_reducible apply wl_rowG); exact rfl; exact rfl; exact rowDc h2)
      refine wl_ck rfl (fun K hK => ?_); go_simp; refine ⟨_, _, ⟨rfl, rfl⟩, hK _ _ ⟨_, Add_any _ _ _ _ _ _ _ HQ _, ?_⟩⟩; clear hK K; rintro e w10 ⟨rfl, hb1⟩; refine ⟨_, rfl, ?_⟩; simp only [put_lit, List.set_cons_zero, List.set_cons_succ]
      replace h0 := below_look hb1 h0; replace h1 := below_look hb1 h1; replace h2 := below_look hb1 h2; replace hpp := below_look hb1 hpp; replace hb := hb.trans (hb1.mono hb.size); clear hb1
      refine wl_k rfl (fun K hK => ?_); go_simp; refine hK _ ?_; clear hK K
      refine wl_k rfl (fun K hK => ?_); go_simp; refine hK _ ?_; clear hK K
      refine wl_k rfl (fun K hK => ?_); go_simp; refine hK _ ?_; clear hK K
      (have lth0pq := heap_lt h0; have lth1pq := heap_lt h1; have lth2pq := heap_lt h2; have lthpppq := heap_lt hpp; have lspq := hb.size; (with_reducible apply wl_new33); intro w11 pq hbn hlpq hpq; replace h0 := below_look hbn h0; replace h1 := below_look hbn h1; replace h2 := below_look hbn h2; replace hpp := below_look hbn hpp; replace hb := hb.trans (hbn.mono hb.size); clear hbn)
      ((with_reducible apply wl_put33); exact rfl; exact rfl; exact hpq; intro w12 hbx hk hq; replace h0 := hk _ _ (by omega) h0; replace h1 := hk _ _ (by omega) h1; replace h2 := hk _ _ (by omega) h2; replace hpp := hk _ _ (by omega) hpp; replace hb := hbx _ _ (by omega) hb; clear hpq; have hpq := hq; clear hbx hk hq)
      by_cases hpe : ep = 0
      · by_cases hqe : eq = 0
        · have HPE := Lib.hid hpe
          have HQE := Lib.hid hqe
          go_upto_region 16 with (fail)
          rcases hs : addS u1 k1 uq kq with ⟨us, ks, es⟩
          have HS := Lib.hid hs
          clear hs hpe hqe
          apply wp_region_lit
          ((with_reducible apply wl_rowG); exact rfl; exact rfl; exact rowDc h0)
          ((with_reducible apply wl_rowG); exact rfl; exact rfl; exact rowDc hpq)
          refine wl_ck rfl (fun K hK => ?_); go_simp; refine ⟨_, _, ⟨rfl, rfl⟩, hK _ _ ⟨_, Add_any _ _ _ _ _ _ _ HS _, ?_⟩⟩; clear hK K; rintro e w13 ⟨rfl, hb1⟩; refine ⟨_, rfl, ?_⟩; simp only [put_lit, List.set_cons_zero, List.set_cons_succ]
          replace h0 := below_look hb1 h0; replace h1 := below_look hb1 h1; replace h2 := below_look hb1 h2; replace hpp := below_look hb1 hpp; replace hb := hb.trans (hb1.mono hb.size); clear hb1
          refine wl_k rfl (fun K hK => ?_); go_simp; refine hK _ ?_; clear hK K
          refine wl_k rfl (fun K hK => ?_); go_simp; refine hK _ ?_; clear hK K
          refine wl_k rfl (fun K hK => ?_); go_simp; refine hK _ ?_; clear hK K
          (have lth0ps := heap_lt h0; have lth1ps := heap_lt h1; have lth2ps := heap_lt h2; have lthppps := heap_lt hpp; have lsps := hb.size; (with_reducible apply wl_new33); intro w14 ps hbn hlps hps; replace h0 := below_look hbn h0; replace h1 := below_look hbn h1; replace h2 := below_look hbn h2; replace hpp := below_look hbn hpp; replace hb := hb.trans (hbn.mono hb.size); clear hbn)
          ((with_reducible apply wl_put33); exact rfl; exact rfl; exact hps; intro w15 hbx hk hq; replace h0 := hk _ _ (by omega) h0; replace h1 := hk _ _ (by omega) h1; replace h2 := hk _ _ (by omega) h2; replace hpp := hk _ _ (by omega) hpp; replace hb := hbx _ _ (by omega) hb; clear hps; have hps := hq; clear hbx hk hq)
          by_cases hse : es = 0
          · have HSE := Lib.hid hse
            have H2 := undo2 (HEA.out ▸ HA.out) (HPE.out ▸ HP.out) (HQE.out ▸ HQ.out) (hse ▸ HS.out)
            obtain ⟨rfl, rfl⟩ := H2
            go_upto_region 17 with (fail)
            apply wp_region_lit
            refine wl_k rfl (fun K hK => ?_); go_simp; refine hK _ ?_; clear hK K
            refine wl_k rfl (fun K hK => ?_); go_simp; refine hK _ ?_; clear hK K
            refine wl_k rfl (fun K hK => ?_); go_simp; refine hK _ ?_; clear hK K
            ((with_reducible apply wl_rowG); exact rfl; exact rfl; exact rowDc hps)
            ((with_reducible apply wl_rowG); exact rfl; exact rfl; exact rowDc hpp)
            simp only [dc]
            go_wp2_with (go_at_call 21; refine (awake_any _).mono ?_; rintro e w9 ⟨rfl, hb1⟩; replace hb := hb.trans (hb1.mono hb.size); clear hb1)
            go_ret
            exact ⟨rfl, hb⟩
          · go_upto_region 17 with (fail)
            go_wp2_with (go_at_call 21; refine (awake_any _).mono ?_; rintro e w9 ⟨rfl, hb1⟩; replace hb := hb.trans (hb1.mono hb.size); clear hb1)
            go_ret
            exact ⟨rfl, hb⟩
        · go_wp2_with (go_at_call 21; refine (awake_any _).mono ?_; rintro e w9 ⟨rfl, hb1⟩; replace hb := hb.trans (hb1.mono hb.size); clear hb1)
          go_ret
          exact ⟨rfl, hb⟩
      · by_cases hqe : eq = 0
        · go_wp2_with (go_at_call 21; refine (awake_any _).mono ?_; rintro e w9 ⟨rfl, hb1⟩; replace hb := hb.trans (hb1.mono hb.size); clear hb1)
          go_ret
          exact ⟨rfl, hb⟩
        · go_wp2_with (go_at_call 21; refine (awake_any _).mono ?_; rintro e w9 ⟨rfl, hb1⟩; replace hb := hb.trans (hb1.mono hb.size); clear hb1)
          go_ret
          exact ⟨rfl, hb⟩
    · go_upto_region 12 with (fail)
      clear hec
      apply wp_region_lit
      ((with_reducible apply wl_rowG); exact rfl; exact rfl; exact rowDc hpa)
      ((with_reducible apply wl_rowG); exact rfl; exact rfl; exact rowDc h2)
      refine wl_ck rfl (fun K hK => ?_); go_simp; refine ⟨_, _, ⟨rfl, rfl⟩, hK _ _ ⟨_, Add_any _ _ _ _ _ _ _ HP _, ?_⟩⟩; clear hK K; rintro e w7 ⟨rfl, hb1⟩; refine ⟨_, rfl, ?_⟩; simp only [put_lit, List.set_cons_zero, List.set_cons_succ]
      replace h0 := below_look hb1 h0; replace h1 := below_look hb1 h1; replace h2 := below_look hb1 h2; replace hpa := below_look hb1 hpa; replace hb := hb.trans (hb1.mono hb.size); clear hb1
      refine wl_k rfl (fun K hK => ?_); go_simp; refine hK _ ?_; clear hK K
      refine wl_k rfl (fun K hK => ?_); go_simp; refine hK _ ?_; clear hK K
      refine wl_k rfl (fun K hK => ?_); go_simp; refine hK _ ?_; clear hK K
      (have lth0pp := heap_lt h0; have lth1pp := heap_lt h1; have lth2pp := heap_lt h2; have lthpapp := heap_lt hpa; have lspp := hb.size; (with_reducible apply wl_new33); intro w8 pp hbn hlpp hpp; replace h0 := below_look hbn h0; replace h1 := below_look hbn h1; replace h2 := below_look hbn h2; replace hpa := below_look hbn hpa; replace hb := hb.trans (hbn.mono hb.size); clear hbn)
      ((with_reducible apply wl_put33); exact rfl; exact rfl; exact hpp; intro w9 hbx hk hq; replace h0 := hk _ _ (by omega) h0; replace h1 := hk _ _ (by omega) h1; replace h2 := hk _ _ (by omega) h2; replace hpa := hk _ _ (by omega) hpa; replace hb := hbx _ _ (by omega) hb; clear hpp; have hpp := hq; clear hbx hk hq)
      go_upto_region 13 with (fail)
      apply wp_region_lit
      ((with_reducible apply wl_rowG); exact rfl; exact rfl; exact rowDc h1)
      ((with_reducible apply wl_rowG); exact rfl; exact rfl; exact rowDc h2)
      refine wl_ck rfl (fun K hK => ?_); go_simp; refine ⟨_, _, ⟨rfl, rfl⟩, hK _ _ ⟨_, Add_any _ _ _ _ _ _ _ HQ _, ?_⟩⟩; clear hK K; rintro e w10 ⟨rfl, hb1⟩; refine ⟨_, rfl, ?_⟩; simp only [put_lit, List.set_cons_zero, List.set_cons_succ]
      replace h0 := below_look hb1 h0; replace h1 := below_look hb1 h1; replace h2 := below_look hb1 h2; replace hpp := below_look hb1 hpp; replace hb := hb.trans (hb1.mono hb.size); clear hb1
      refine wl_k rfl (fun K hK => ?_); go_simp; refine hK _ ?_; clear hK K
      refine wl_k rfl (fun K hK => ?_); go_simp; refine hK _ ?_; clear hK K
      refine wl_k rfl (fun K hK => ?_); go_simp; refine hK _ ?_; clear hK K
      (have lth0pq := heap_lt h0; have lth1pq := heap_lt h1; have lth2pq := heap_lt h2; have lthpppq := heap_lt hpp; have lspq := hb.size; (with_reducible apply wl_new33); intro w11 pq hbn hlpq hpq; replace h0 := below_look hbn h0; replace h1 := below_look hbn h1; replace h2 := below_look hbn h2; replace hpp := below_look hbn hpp; replace hb := hb.trans (hbn.mono hb.size); clear hbn)
      ((with_reducible apply wl_put33); exact rfl; exact rfl; exact hpq; intro w12 hbx hk hq; replace h0 := hk _ _ (by omega) h0; replace h1 := hk _ _ (by omega) h1; replace h2 := hk _ _ (by omega) h2; replace hpp := hk _ _ (by omega) hpp; replace hb := hbx _ _ (by omega) hb; clear hpq; have hpq := hq; clear hbx hk hq)
      by_cases hpe : ep = 0
      · by_cases hqe : eq = 0
        · have HPE := Lib.hid hpe
          have HQE := Lib.hid hqe
          go_upto_region 16 with (fail)
          rcases hs : addS u1 k1 uq kq with ⟨us, ks, es⟩
          have HS := Lib.hid hs
          clear hs hpe hqe
          apply wp_region_lit
          ((with_reducible apply wl_rowG); exact rfl; exact rfl; exact rowDc h0)
          ((with_reducible apply wl_rowG); exact rfl; exact rfl; exact rowDc hpq)
          refine wl_ck rfl (fun K hK => ?_); go_simp; refine ⟨_, _, ⟨rfl, rfl⟩, hK _ _ ⟨_, Add_any _ _ _ _ _ _ _ HS _, ?_⟩⟩; clear hK K; rintro e w13 ⟨rfl, hb1⟩; refine ⟨_, rfl, ?_⟩; simp only [put_lit, List.set_cons_zero, List.set_cons_succ]
          replace h0 := below_look hb1 h0; replace h1 := below_look hb1 h1; replace h2 := below_look hb1 h2; replace hpp := below_look hb1 hpp; replace hb := hb.trans (hb1.mono hb.size); clear hb1
          refine wl_k rfl (fun K hK => ?_); go_simp; refine hK _ ?_; clear hK K
          refine wl_k rfl (fun K hK => ?_); go_simp; refine hK _ ?_; clear hK K
          refine wl_k rfl (fun K hK => ?_); go_simp; refine hK _ ?_; clear hK K
          (have lth0ps := heap_lt h0; have lth1ps := heap_lt h1; have lth2ps := heap_lt h2; have lthppps := heap_lt hpp; have lsps := hb.size; (with_reducible apply wl_new33); intro w14 ps hbn hlps hps; replace h0 := below_look hbn h0; replace h1 := below_look hbn h1; replace h2 := below_look hbn h2; replace hpp := below_look hbn hpp; replace hb := hb.trans (hbn.mono hb.size); clear hbn)
          ((with_reducible apply wl_put33); exact rfl; exact rfl; exact hps; intro w15 hbx hk hq; replace h0 := hk _ _ (by omega) h0; replace h1 := hk _ _ (by omega) h1; replace h2 := hk _ _ (by omega) h2; replace hpp := hk _ _ (by omega) hpp; replace hb := hbx _ _ (by omega) hb; clear hps; have hps := hq; clear hbx hk hq)
          by_cases hse : es = 0
          · have HSE := Lib.hid hse
            have H2 := undo2 (HEA.out ▸ HA.out) (HPE.out ▸ HP.out) (HQE.out ▸ HQ.out) (hse ▸ HS.out)
            obtain ⟨rfl, rfl⟩ := H2
            go_upto_region 17 with (fail)
            apply wp_region_lit
            refine wl_k rfl (fun K hK => ?_); go_simp; refine hK _ ?_; clear hK K
            refine wl_k rfl (fun K hK => ?_); go_simp; refine hK _ ?_; clear hK K
            refine wl_k rfl (fun K hK => ?_); go_simp; refine hK _ ?_; clear hK K
            ((with_reducible apply wl_rowG); exact rfl; exact rfl; exact rowDc hps)
            ((with_reducible apply wl_rowG); exact rfl; exact rfl; exact rowDc hpp)
            simp only [dc]
            go_wp2_with (go_at_call 21; refine (awake_any _).mono ?_; rintro e w9 ⟨rfl, hb1⟩; replace hb := hb.trans (hb1.mono hb.size); clear hb1)
            go_ret
            exact ⟨rfl, hb⟩
          · go_upto_region 17 with (fail)
            go_wp2_with (go_at_call 21; refine (awake_any _).mono ?_; rintro e w9 ⟨rfl, hb1⟩; replace hb := hb.trans (hb1.mono hb.size); clear hb1)
            go_ret
            exact ⟨rfl, hb⟩
        · go_wp2_with (go_at_call 21; refine (awake_any _).mono ?_; rintro e w9 ⟨rfl, hb1⟩; replace hb := hb.trans (hb1.mono hb.size); clear hb1)
          go_ret
          exact ⟨rfl, hb⟩
      · by_cases hqe : eq = 0
        · go_wp2_with (go_at_call 21; refine (awake_any _).mono ?_; rintro e w9 ⟨rfl, hb1⟩; replace hb := hb.trans (hb1.mono hb.size); clear hb1)
          go_ret
          exact ⟨rfl, hb⟩
        · go_wp2_with (go_at_call 21; refine (awake_any _).mono ?_; rintro e w9 ⟨rfl, hb1⟩; replace hb := hb.trans (hb1.mono hb.size); clear hb1)
          go_ret
          exact ⟨rfl, hb⟩
  · go_wp2_with (go_at_call 21; refine (awake_any _).mono ?_; rintro e w9 ⟨rfl, hb1⟩; replace hb := hb.trans (hb1.mono hb.size); clear hb1)
    go_ret
    exact ⟨rfl, hb⟩
end Go.Proofs.Ytclainfdeghgnaa
