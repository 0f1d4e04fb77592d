/- A quotient rounded. -/
import Derived.Test.YtclainfdeghgnaaW28
import Derived.Test.YtclainfdeghgnaaW24
import Derived.Outline
namespace Go.Proofs.Ytclainfdeghgnaa
open Go.RowKit Go.Proofs.Ytclainfdeghgnaa.Nm

/-- Whether a mode takes the magnitude up. -/
def upS (L : List UInt8) (neg : Bool) (q r b : Nat) : Bool :=
  if L = [102, 108, 111, 111, 114] then neg && decide (r ≠ 0)
  else if L = [104, 97, 108, 102] then decide (b ≤ r + r)
  else if L = [101, 118, 101, 110] then decide (b < r + r) || (decide (r + r = b) && decide (q % 2 = 1))
  else false
def roundS (L : List UInt8) (a b : Int) : Int :=
  sg (ng a != ng b) (a.natAbs / b.natAbs + if upS L (ng a != ng b) (a.natAbs / b.natAbs) (a.natAbs % b.natAbs) b.natAbs then 1 else 0)
structure RdBd (a b : Int) : Prop where
  a : a.natAbs < 10 ^ 63
  b0 : 0 < b.natAbs
  b1 : b.natAbs < 10 ^ 63
set_option maxHeartbeats 400000 in
theorem rounded_down (a b : Int) (m : ByteArray) (hm : m.data.toList = [100, 111, 119, 110]) (BA : Hid (a.natAbs < 10 ^ 64)) (BB0 : Hid (0 < b.natAbs)) (BB : Hid (b.natAbs < 10 ^ 63)) (BQ : Hid (a.natAbs < 10 ^ 63)) (w : World) :
    Calls Try.prog 76 #[.agg (lv a), .agg (lv b), .string m] w fun e w' => e = .returned (.agg (lv (sg (ng a != ng b) (a.natAbs / b.natAbs)))) ∧ Below w.heap.size w w' := by
  have l1 := lit_eq hm (l := [102, 108, 111, 111, 114]) rfl
  have l2 := lit_eq hm (l := [104, 97, 108, 102]) rfl
  have l3 := lit_eq hm (l := [101, 118, 101, 110]) rfl
  clear hm
  go_enter Try.func76, Try.ntmps76
  go_upto_region 1 with (fail)
  refine wp_world (fun W => W.heap[w.heap.size]? = some (.cells (lv a) 75 (0, 0)) ∧ W.heap[w.heap.size + 1]? = some (.cells (lv b) 75 (0, 0)) ∧ W.heap[w.heap.size + 1 + 1]? = some (.cells (lv 0) 75 (0, 0)) ∧ Below w.heap.size w W) ⟨ha_old (ha_old (ha_new rfl)), ha_old (ha_new (by simp)), by rw [← zero_long]; exact ha_new (by simp), (((Below.refl _ _).alloc (Nat.le_refl _) _).alloc (by simp) _).alloc (by simp; omega) _⟩ ?_
  rintro W ⟨h0, h1, h2, hb⟩
  apply wp_region_lit
  refine wl_k rfl (fun K hK => ?_); go_simp; refine hK _ ?_; clear hK K
  ((with_reducible apply wl_rowG); exact rfl; exact rfl; (first | exact rowL (by with_reducible assumption) | exact rowD (by with_reducible assumption) | exact rowR (by with_reducible assumption)))
  refine wl_k rfl (fun K hK => ?_); go_simp; refine hK _ ?_; clear hK K
  ((with_reducible apply wl_rowG); exact rfl; exact rfl; (first | exact rowL (by with_reducible assumption) | exact rowD (by with_reducible assumption) | exact rowR (by with_reducible assumption)))
  refine wl_ck rfl (fun K hK => ?_); go_simp; refine ⟨_, _, ⟨rfl, rfl⟩, hK _ _ ⟨_, divDigits_any _ _ BA.out BB0.out BB.out _, ?_⟩⟩; clear hK K; rintro e w1 ⟨rfl, hb1⟩; refine ⟨_, rfl, ?_⟩; simp only [put_lit, List.set_cons_zero, List.set_cons_succ]
  replace h0 := below_look hb1 h0; replace h1 := below_look hb1 h1; replace h2 := below_look hb1 h2; replace hb := hb.trans (hb1.mono hb.size); clear hb1
  refine wl_k rfl (fun K hK => ?_); go_simp; refine hK _ ?_; clear hK K
  refine wl_k rfl (fun K hK => ?_); go_simp; refine hK _ ?_; clear hK K
  refine wl_k rfl (fun K hK => ?_); go_simp; refine hK _ ?_; clear hK K
  (have lth0p2 := heap_lt h0; have lth1p2 := heap_lt h1; have lth2p2 := heap_lt h2; have lsp2 := hb.size; (with_reducible apply wl_new73); intro w2 p2 hbn hlp2 hp2; replace h0 := below_look hbn h0; replace h1 := below_look hbn h1; replace h2 := below_look hbn h2; replace hb := hb.trans (hbn.mono hb.size); clear hbn)
  (have lth0p3 := heap_lt h0; have lth1p3 := heap_lt h1; have lth2p3 := heap_lt h2; have lthp2p3 := heap_lt hp2; have lsp3 := hb.size; (with_reducible apply wl_new73); intro w3 p3 hbn hlp3 hp3; replace h0 := below_look hbn h0; replace h1 := below_look hbn h1; replace h2 := below_look hbn h2; replace hp2 := below_look hbn hp2; replace hb := hb.trans (hbn.mono hb.size); clear hbn)
  ((with_reducible apply wl_put73); exact rfl; exact rfl; exact hp2; intro w4 hbx hk hq; replace h0 := hk _ _ (by omega) h0; replace h1 := hk _ _ (by omega) h1; replace h2 := hk _ _ (by omega) h2; replace hp3 := hk _ _ (by omega) hp3; replace hb := hbx _ _ (by omega) hb; clear hp2; have hp2 := hq; clear hbx hk hq)
  ((with_reducible apply wl_put73); exact rfl; exact rfl; exact hp3; intro w5 hbx hk hq; replace h0 := hk _ _ (by omega) h0; replace h1 := hk _ _ (by omega) h1; replace h2 := hk _ _ (by omega) h2; replace hp2 := hk _ _ (by omega) hp2; replace hb := hbx _ _ (by omega) hb; clear hp3; have hp3 := hq; clear hbx hk hq)
  have n0 : w5.cell? ⟨w.heap.size, 0, none⟩ = some (.bool (ng a)) := by rw [cell_of_row _ _ _ _ _ _ h0]; exact lv_neg a
  have n1 : w5.cell? ⟨w.heap.size + 1, 0, none⟩ = some (.bool (ng b)) := by rw [cell_of_row _ _ _ _ _ _ h1]; exact lv_neg b
  obtain ⟨q, hq⟩ : ∃ q, q = a.natAbs / b.natAbs := ⟨_, rfl⟩
  obtain ⟨r, hr⟩ : ∃ r, r = a.natAbs % b.natAbs := ⟨_, rfl⟩
  rw [← hq] at hp2
  rw [← hr] at hp3
  have QB : Hid (q + 1 < 10 ^ 64) := Lib.hid (by
    have h1 := Nat.div_le_self a.natAbs b.natAbs
    have h2 := BA.out
    have h3 : (10 : Nat) ^ 64 = 10000000000000000000000000000000000000000000000000000000000000000 := by decide
    have h4 := BQ.out
    omega)
  have RB : Hid (r < b.natAbs) := Lib.hid (by rw [hr]; exact Nat.mod_lt _ BB0.out)
  have HQ := Lib.hid hq
  have HR := Lib.hid hr
  clear hq hr
  go_upto_region 3 with (fail)
  refine wp_region_belowAll mixed (by kernel_rfl) ?_
  ((with_reducible apply wq_row); exact rfl; exact rfl; (intro w' hw'; first | exact rowL (below_look hw' (by with_reducible assumption)) | exact rowD (below_look hw' (by with_reducible assumption)) | exact rowR (below_look hw' (by with_reducible assumption))))
  ((with_reducible apply wq_row); exact rfl; exact rfl; (intro w' hw'; first | exact rowL (below_look hw' (by with_reducible assumption)) | exact rowD (below_look hw' (by with_reducible assumption)) | exact rowR (below_look hw' (by with_reducible assumption))))
  refine wq_ck rfl (fun K hK => ?_); go_simp; refine ⟨_, _, ⟨rfl, rfl⟩, hK _ _ ⟨_, fun w' hw' => calls_class hw' (addDigits_any _ _ w'), ?_⟩⟩; clear hK K; simp only [put_lit, List.set_cons_zero, List.set_cons_succ]
  refine wq_k rfl (fun K hK => ?_); go_simp; refine hK _ ?_; clear hK K
  ((with_reducible apply wq_row); exact rfl; exact rfl; (intro w' hw'; first | exact rowL (below_look hw' (by with_reducible assumption)) | exact rowD (below_look hw' (by with_reducible assumption)) | exact rowR (below_look hw' (by with_reducible assumption))))
  refine wq_ck rfl (fun K hK => ?_); go_simp; refine ⟨_, _, ⟨rfl, rfl⟩, hK _ _ ⟨_, fun w' hw' => calls_class hw' (compareDigits_any _ _ w'), ?_⟩⟩; clear hK K; simp only [put_lit, List.set_cons_zero, List.set_cons_succ]
  refine wq_k rfl (fun K hK => ?_); go_simp; refine hK _ ?_; clear hK K
  intro w6 hb1
  replace h0 := below_look hb1 h0; replace h1 := below_look hb1 h1; replace h2 := below_look hb1 h2; replace hp2 := below_look hb1 hp2; replace hp3 := below_look hb1 hp3; replace hb := hb.trans (hb1.mono hb.size); clear hb1
  have HT := cmpD_spec (a := r + r) (b := b.natAbs) (by have := RB.out; have := BB.out; have h3 : (10 : Nat) ^ 63 * 10 = 10 ^ 64 := by decide
                                                        omega) (Nat.lt_trans BB.out (by decide))
  generalize hTT : cmpD (r + r) b.natAbs = T at HT
  generalize hNN : (!(ng a == ng b)) = N
  clear n0 n1 hTT
  go_upto_region 14 with (fail)
  apply wp_region_lit
  ((with_reducible apply wl_rowG); exact rfl; exact rfl; (first | exact rowL (by with_reducible assumption) | exact rowD (by with_reducible assumption) | exact rowR (by with_reducible assumption)))
  refine wl_k rfl (fun K hK => ?_); go_simp; refine hK _ ?_; clear hK K
  refine wl_ck rfl (fun K hK => ?_); go_simp; refine ⟨_, _, ⟨rfl, rfl⟩, hK _ _ ⟨_, signed_any _ _ (by have := QB.out; omega) _, ?_⟩⟩; clear hK K; rintro e w7 ⟨rfl, hb1⟩; refine ⟨_, rfl, ?_⟩; simp only [put_lit, List.set_cons_zero, List.set_cons_succ]
  replace h2 := below_look hb1 h2; replace hb := hb.trans (hb1.mono hb.size); clear hb1
  ((with_reducible apply wl_put75); exact rfl; exact rfl; exact h2; intro w8 hbx hk hq; replace hb := hbx _ _ (by omega) hb; clear h2; have h2 := hq; clear hbx hk hq)
  go_wp2_with fail
  refine bodyPost_ret (res_long rfl _ _ (w.heap.size + 1 + 1) rfl h2) rfl ⟨?_, hb⟩
  rw [show (ng a != ng b) = N from hNN, HQ.out]
set_option maxHeartbeats 1000000 in
theorem rounded_floor (a b : Int) (m : ByteArray) (hm : m.data.toList = [102, 108, 111, 111, 114]) (BA : Hid (a.natAbs < 10 ^ 64)) (BB0 : Hid (0 < b.natAbs)) (BB : Hid (b.natAbs < 10 ^ 63)) (BQ : Hid (a.natAbs < 10 ^ 63)) (R : Int) (hR : Hid (R = roundS [102, 108, 111, 111, 114] a b)) (w : World) :
    Calls Try.prog 76 #[.agg (lv a), .agg (lv b), .string m] w fun e w' => e = .returned (.agg (lv R)) ∧ Below w.heap.size w w' := by
  have l1 := lit_eq hm (l := [102, 108, 111, 111, 114]) rfl
  have l2 := lit_eq hm (l := [104, 97, 108, 102]) rfl
  have l3 := lit_eq hm (l := [101, 118, 101, 110]) rfl
  clear hm
  go_enter Try.func76, Try.ntmps76
  go_upto_region 1 with (fail)
  refine wp_world (fun W => W.heap[w.heap.size]? = some (.cells (lv a) 75 (0, 0)) ∧ W.heap[w.heap.size + 1]? = some (.cells (lv b) 75 (0, 0)) ∧ W.heap[w.heap.size + 1 + 1]? = some (.cells (lv 0) 75 (0, 0)) ∧ Below w.heap.size w W) ⟨ha_old (ha_old (ha_new rfl)), ha_old (ha_new (by simp)), by rw [← zero_long]; exact ha_new (by simp), (((Below.refl _ _).alloc (Nat.le_refl _) _).alloc (by simp) _).alloc (by simp; omega) _⟩ ?_
  rintro W ⟨h0, h1, h2, hb⟩
  apply wp_region_lit
  refine wl_k rfl (fun K hK => ?_); go_simp; refine hK _ ?_; clear hK K
  ((with_reducible apply wl_rowG); exact rfl; exact rfl; (first | exact rowL (by with_reducible assumption) | exact rowD (by with_reducible assumption) | exact rowR (by with_reducible assumption)))
  refine wl_k rfl (fun K hK => ?_); go_simp; refine hK _ ?_; clear hK K
  ((with_reducible apply wl_rowG); exact rfl; exact rfl; (first | exact rowL (by with_reducible assumption) | exact rowD (by with_reducible assumption) | exact rowR (by with_reducible assumption)))
  refine wl_ck rfl (fun K hK => ?_); go_simp; refine ⟨_, _, ⟨rfl, rfl⟩, hK _ _ ⟨_, divDigits_any _ _ BA.out BB0.out BB.out _, ?_⟩⟩; clear hK K; rintro e w1 ⟨rfl, hb1⟩; refine ⟨_, rfl, ?_⟩; simp only [put_lit, List.set_cons_zero, List.set_cons_succ]
  replace h0 := below_look hb1 h0; replace h1 := below_look hb1 h1; replace h2 := below_look hb1 h2; replace hb := hb.trans (hb1.mono hb.size); clear hb1
  refine wl_k rfl (fun K hK => ?_); go_simp; refine hK _ ?_; clear hK K
  refine wl_k rfl (fun K hK => ?_); go_simp; refine hK _ ?_; clear hK K
  refine wl_k rfl (fun K hK => ?_); go_simp; refine hK _ ?_; clear hK K
  (have lth0p2 := heap_lt h0; have lth1p2 := heap_lt h1; have lth2p2 := heap_lt h2; have lsp2 := hb.size; (with_reducible apply wl_new73); intro w2 p2 hbn hlp2 hp2; replace h0 := below_look hbn h0; replace h1 := below_look hbn h1; replace h2 := below_look hbn h2; replace hb := hb.trans (hbn.mono hb.size); clear hbn)
  (have lth0p3 := heap_lt h0; have lth1p3 := heap_lt h1; have lth2p3 := heap_lt h2; have lthp2p3 := heap_lt hp2; have lsp3 := hb.size; (with_reducible apply wl_new73); intro w3 p3 hbn hlp3 hp3; replace h0 := below_look hbn h0; replace h1 := below_look hbn h1; replace h2 := below_look hbn h2; replace hp2 := below_look hbn hp2; replace hb := hb.trans (hbn.mono hb.size); clear hbn)
  ((with_reducible apply wl_put73); exact rfl; exact rfl; exact hp2; intro w4 hbx hk hq; replace h0 := hk _ _ (by omega) h0; replace h1 := hk _ _ (by omega) h1; replace h2 := hk _ _ (by omega) h2; replace hp3 := hk _ _ (by omega) hp3; replace hb := hbx _ _ (by omega) hb; clear hp2; have hp2 := hq; clear hbx hk hq)
  ((with_reducible apply wl_put73); exact rfl; exact rfl; exact hp3; intro w5 hbx hk hq; replace h0 := hk _ _ (by omega) h0; replace h1 := hk _ _ (by omega) h1; replace h2 := hk _ _ (by omega) h2; replace hp2 := hk _ _ (by omega) hp2; replace hb := hbx _ _ (by omega) hb; clear hp3; have hp3 := hq; clear hbx hk hq)
  have n0 : w5.cell? ⟨w.heap.size, 0, none⟩ = some (.bool (ng a)) := by rw [cell_of_row _ _ _ _ _ _ h0]; exact lv_neg a
  have n1 : w5.cell? ⟨w.heap.size + 1, 0, none⟩ = some (.bool (ng b)) := by rw [cell_of_row _ _ _ _ _ _ h1]; exact lv_neg b
  obtain ⟨q, hq⟩ : ∃ q, q = a.natAbs / b.natAbs := ⟨_, rfl⟩
  obtain ⟨r, hr⟩ : ∃ r, r = a.natAbs % b.natAbs := ⟨_, rfl⟩
  rw [← hq] at hp2
  rw [← hr] at hp3
  have QB : Hid (q + 1 < 10 ^ 64) := Lib.hid (by
    have h1 := Nat.div_le_self a.natAbs b.natAbs
    have h2 := BA.out
    have h3 : (10 : Nat) ^ 64 = 10000000000000000000000000000000000000000000000000000000000000000 := by decide
    have h4 := BQ.out
    omega)
  have RB : Hid (r < b.natAbs) := Lib.hid (by rw [hr]; exact Nat.mod_lt _ BB0.out)
  have HQ := Lib.hid hq
  have HR := Lib.hid hr
  clear hq hr
  go_upto_region 3 with (fail)
  refine wp_region_belowAll mixed (by kernel_rfl) ?_
  ((with_reducible apply wq_row); exact rfl; exact rfl; (intro w' hw'; first | exact rowL (below_look hw' (by with_reducible assumption)) | exact rowD (below_look hw' (by with_reducible assumption)) | exact rowR (below_look hw' (by with_reducible assumption))))
  ((with_reducible apply wq_row); exact rfl; exact rfl; (intro w' hw'; first | exact rowL (below_look hw' (by with_reducible assumption)) | exact rowD (below_look hw' (by with_reducible assumption)) | exact rowR (below_look hw' (by with_reducible assumption))))
  refine wq_ck rfl (fun K hK => ?_); go_simp; refine ⟨_, _, ⟨rfl, rfl⟩, hK _ _ ⟨_, fun w' hw' => calls_class hw' (addDigits_any _ _ w'), ?_⟩⟩; clear hK K; simp only [put_lit, List.set_cons_zero, List.set_cons_succ]
  refine wq_k rfl (fun K hK => ?_); go_simp; refine hK _ ?_; clear hK K
  ((with_reducible apply wq_row); exact rfl; exact rfl; (intro w' hw'; first | exact rowL (below_look hw' (by with_reducible assumption)) | exact rowD (below_look hw' (by with_reducible assumption)) | exact rowR (below_look hw' (by with_reducible assumption))))
  refine wq_ck rfl (fun K hK => ?_); go_simp; refine ⟨_, _, ⟨rfl, rfl⟩, hK _ _ ⟨_, fun w' hw' => calls_class hw' (compareDigits_any _ _ w'), ?_⟩⟩; clear hK K; simp only [put_lit, List.set_cons_zero, List.set_cons_succ]
  refine wq_k rfl (fun K hK => ?_); go_simp; refine hK _ ?_; clear hK K
  intro w6 hb1
  replace h0 := below_look hb1 h0; replace h1 := below_look hb1 h1; replace h2 := below_look hb1 h2; replace hp2 := below_look hb1 hp2; replace hp3 := below_look hb1 hp3; replace hb := hb.trans (hb1.mono hb.size); clear hb1
  have HT := cmpD_spec (a := r + r) (b := b.natAbs) (by have := RB.out; have := BB.out; have h3 : (10 : Nat) ^ 63 * 10 = 10 ^ 64 := by decide
                                                        omega) (Nat.lt_trans BB.out (by decide))
  generalize hTT : cmpD (r + r) b.natAbs = T at HT
  generalize hNN : (!(ng a == ng b)) = N
  clear n0 n1 hTT
  go_upto_region 7 with (fail)
  have HN := Lib.hid hNN
  clear hNN
  have HTT := Lib.hid HT
  clear HT
  cases N
  · apply wp_region_lit
    refine wl_k rfl (fun K hK => ?_); go_simp; refine hK _ ?_; clear hK K
    refine wl_k rfl (fun K hK => ?_); go_simp; refine hK _ ?_; clear hK K
    refine wl_skip rfl ?_
    simp only [put_lit, List.set_cons_zero, List.set_cons_succ]
    refine wl_skip rfl ?_
    simp only [put_lit, List.set_cons_zero, List.set_cons_succ]
    refine wl_skip rfl ?_
    simp only [put_lit, List.set_cons_zero, List.set_cons_succ]
    refine wl_k rfl (fun K hK => ?_); go_simp; refine hK _ ?_; clear hK K
    refine wl_k rfl (fun K hK => ?_); go_simp; refine hK _ ?_; clear hK K
    go_upto_region 14 with (fail)
    apply wp_region_lit
    ((with_reducible apply wl_rowG); exact rfl; exact rfl; (first | exact rowL (by with_reducible assumption) | exact rowD (by with_reducible assumption) | exact rowR (by with_reducible assumption)))
    refine wl_k rfl (fun K hK => ?_); go_simp; refine hK _ ?_; clear hK K
    refine wl_ck rfl (fun K hK => ?_); go_simp; refine ⟨_, _, ⟨rfl, rfl⟩, hK _ _ ⟨_, signed_any _ _ (by have := QB.out; omega) _, ?_⟩⟩; clear hK K; rintro e w7 ⟨rfl, hb1⟩; refine ⟨_, rfl, ?_⟩; simp only [put_lit, List.set_cons_zero, List.set_cons_succ]
    replace h2 := below_look hb1 h2; replace hb := hb.trans (hb1.mono hb.size); clear hb1
    ((with_reducible apply wl_put75); exact rfl; exact rfl; exact h2; intro w8 hbx hk hq; replace hb := hbx _ _ (by omega) hb; clear h2; have h2 := hq; clear hbx hk hq)
    go_wp2_with fail
    refine bodyPost_ret (res_long rfl _ _ (w.heap.size + 1 + 1) rfl h2) rfl ⟨?_, hb⟩
    rw [hR.out, roundS, show (ng a != ng b) = false from HN.out, ← HQ.out, ← HR.out]
    simp [upS]
  · by_cases hr0 : r = 0
    · have HZ : Hid (decide (r ≠ 0) = false) := Lib.hid (by simpa using hr0)
      clear hr0
      apply wp_region_lit
      refine wl_k rfl (fun K hK => ?_); go_simp; refine hK _ ?_; clear hK K
      refine wl_k rfl (fun K hK => ?_); go_simp; refine hK _ ?_; clear hK K
      ((with_reducible apply wl_rowG); exact rfl; exact rfl; (first | exact rowL (by with_reducible assumption) | exact rowD (by with_reducible assumption) | exact rowR (by with_reducible assumption)))
      refine wl_wG rfl (ex_build 73 _ rfl (L := []) rfl built_zero) ?_
      simp only [put_lit, List.set_cons_zero, List.set_cons_succ]
      refine wl_wG rfl (by rw [ex_neq73 (a := r) (b := 0) _ _ _ rfl rfl rfl (by have := RB.out; have := BB.out; have h3 : (10 : Nat) ^ 63 * 10 = 10 ^ 64 := by decide
                                                                                omega) (by decide), HZ.out]) ?_
      simp only [put_lit, List.set_cons_zero, List.set_cons_succ]
      refine wl_k rfl (fun K hK => ?_); go_simp; refine hK _ ?_; clear hK K
      refine wl_k rfl (fun K hK => ?_); go_simp; refine hK _ ?_; clear hK K
      go_upto_region 14 with (fail)
      apply wp_region_lit
      ((with_reducible apply wl_rowG); exact rfl; exact rfl; (first | exact rowL (by with_reducible assumption) | exact rowD (by with_reducible assumption) | exact rowR (by with_reducible assumption)))
      refine wl_k rfl (fun K hK => ?_); go_simp; refine hK _ ?_; clear hK K
      refine wl_ck rfl (fun K hK => ?_); go_simp; refine ⟨_, _, ⟨rfl, rfl⟩, hK _ _ ⟨_, signed_any _ _ (by have := QB.out; omega) _, ?_⟩⟩; clear hK K; rintro e w7 ⟨rfl, hb1⟩; refine ⟨_, rfl, ?_⟩; simp only [put_lit, List.set_cons_zero, List.set_cons_succ]
      replace h2 := below_look hb1 h2; replace hb := hb.trans (hb1.mono hb.size); clear hb1
      ((with_reducible apply wl_put75); exact rfl; exact rfl; exact h2; intro w8 hbx hk hq; replace hb := hbx _ _ (by omega) hb; clear h2; have h2 := hq; clear hbx hk hq)
      go_wp2_with fail
      refine bodyPost_ret (res_long rfl _ _ (w.heap.size + 1 + 1) rfl h2) rfl ⟨?_, hb⟩
      rw [hR.out, roundS, show (ng a != ng b) = true from HN.out, ← HQ.out, ← HR.out]
      simp only [upS, if_true, HZ.out]
      simp
    · have HZ : Hid (decide (r ≠ 0) = true) := Lib.hid (by simpa using hr0)
      clear hr0
      apply wp_region_lit
      refine wl_k rfl (fun K hK => ?_); go_simp; refine hK _ ?_; clear hK K
      refine wl_k rfl (fun K hK => ?_); go_simp; refine hK _ ?_; clear hK K
      ((with_reducible apply wl_rowG); exact rfl; exact rfl; (first | exact rowL (by with_reducible assumption) | exact rowD (by with_reducible assumption) | exact rowR (by with_reducible assumption)))
      refine wl_wG rfl (ex_build 73 _ rfl (L := []) rfl built_zero) ?_
      simp only [put_lit, List.set_cons_zero, List.set_cons_succ]
      refine wl_wG rfl (by rw [ex_neq73 (a := r) (b := 0) _ _ _ rfl rfl rfl (by have := RB.out; have := BB.out; have h3 : (10 : Nat) ^ 63 * 10 = 10 ^ 64 := by decide
                                                                                omega) (by decide), HZ.out]) ?_
      simp only [put_lit, List.set_cons_zero, List.set_cons_succ]
      refine wl_k rfl (fun K hK => ?_); go_simp; refine hK _ ?_; clear hK K
      refine wl_k rfl (fun K hK => ?_); go_simp; refine hK _ ?_; clear hK K
      go_upto_region 13 with (fail)
      refine wp_region_below 4 mixed (by kernel_rfl) ?_; simp only [List.take_succ_cons, List.take_zero, List.drop_succ_cons, List.drop_zero]
      ((with_reducible apply wq_row); exact rfl; exact rfl; (intro w' hw'; first | exact rowL (below_look hw' (by with_reducible assumption)) | exact rowD (below_look hw' (by with_reducible assumption)) | exact rowR (below_look hw' (by with_reducible assumption))))
      refine wq_ck rfl (fun K hK => ?_); go_simp; refine ⟨_, _, ⟨rfl, rfl⟩, hK _ _ ⟨_, fun w' hw' => calls_class hw' (small_any _ (by decide) (by decide) w'), ?_⟩⟩; clear hK K; simp only [put_lit, List.set_cons_zero, List.set_cons_succ]
      refine wq_val rfl (fun w' _ => ex_fld _ rfl rfl w') ?_; simp only [put_lit, List.set_cons_zero, List.set_cons_succ]
      refine wq_ck rfl (fun K hK => ?_); go_simp; refine ⟨_, _, ⟨rfl, rfl⟩, hK _ _ ⟨_, fun w' hw' => calls_class hw' (addDigits_any _ _ w'), ?_⟩⟩; clear hK K; simp only [put_lit, List.set_cons_zero, List.set_cons_succ]
      intro w7 hb1
      replace h2 := below_look hb1 h2; replace hp2 := below_look hb1 hp2; replace hb := hb.trans (hb1.mono hb.size); clear hb1
      ((with_reducible apply wl_put73); exact rfl; exact rfl; exact hp2; intro w8 hbx hk hq; replace h2 := hk _ _ (by omega) h2; replace hb := hbx _ _ (by omega) hb; clear hp2; have hp2 := hq; clear hbx hk hq)
      go_upto_region 14 with (fail)
      apply wp_region_lit
      ((with_reducible apply wl_rowG); exact rfl; exact rfl; (first | exact rowL (by with_reducible assumption) | exact rowD (by with_reducible assumption) | exact rowR (by with_reducible assumption)))
      refine wl_k rfl (fun K hK => ?_); go_simp; refine hK _ ?_; clear hK K
      refine wl_ck rfl (fun K hK => ?_); go_simp; refine ⟨_, _, ⟨rfl, rfl⟩, hK _ _ ⟨_, signed_any _ _ (by have := QB.out; omega) _, ?_⟩⟩; clear hK K; rintro e w7 ⟨rfl, hb1⟩; refine ⟨_, rfl, ?_⟩; simp only [put_lit, List.set_cons_zero, List.set_cons_succ]
      replace h2 := below_look hb1 h2; replace hb := hb.trans (hb1.mono hb.size); clear hb1
      ((with_reducible apply wl_put75); exact rfl; exact rfl; exact h2; intro w8 hbx hk hq; replace hb := hbx _ _ (by omega) hb; clear h2; have h2 := hq; clear hbx hk hq)
      go_wp2_with fail
      refine bodyPost_ret (res_long rfl _ _ (w.heap.size + 1 + 1) rfl h2) rfl ⟨?_, hb⟩
      rw [hR.out, roundS, show (ng a != ng b) = true from HN.out, ← HQ.out, ← HR.out]
      simp only [upS, if_true, HZ.out]
      simp
set_option maxHeartbeats 1000000 in
theorem rounded_half (a b : Int) (m : ByteArray) (hm : m.data.toList = [104, 97, 108, 102]) (BA : Hid (a.natAbs < 10 ^ 64)) (BB0 : Hid (0 < b.natAbs)) (BB : Hid (b.natAbs < 10 ^ 63)) (BQ : Hid (a.natAbs < 10 ^ 63)) (R : Int) (hR : Hid (R = roundS [104, 97, 108, 102] a b)) (w : World) :
    Calls Try.prog 76 #[.agg (lv a), .agg (lv b), .string m] w fun e w' => e = .returned (.agg (lv R)) ∧ Below w.heap.size w w' := by
  have l1 := lit_eq hm (l := [102, 108, 111, 111, 114]) rfl
  have l2 := lit_eq hm (l := [104, 97, 108, 102]) rfl
  have l3 := lit_eq hm (l := [101, 118, 101, 110]) rfl
  clear hm
  go_enter Try.func76, Try.ntmps76
  go_upto_region 1 with (fail)
  refine wp_world (fun W => W.heap[w.heap.size]? = some (.cells (lv a) 75 (0, 0)) ∧ W.heap[w.heap.size + 1]? = some (.cells (lv b) 75 (0, 0)) ∧ W.heap[w.heap.size + 1 + 1]? = some (.cells (lv 0) 75 (0, 0)) ∧ Below w.heap.size w W) ⟨ha_old (ha_old (ha_new rfl)), ha_old (ha_new (by simp)), by rw [← zero_long]; exact ha_new (by simp), (((Below.refl _ _).alloc (Nat.le_refl _) _).alloc (by simp) _).alloc (by simp; omega) _⟩ ?_
  rintro W ⟨h0, h1, h2, hb⟩
  apply wp_region_lit
  refine wl_k rfl (fun K hK => ?_); go_simp; refine hK _ ?_; clear hK K
  ((with_reducible apply wl_rowG); exact rfl; exact rfl; (first | exact rowL (by with_reducible assumption) | exact rowD (by with_reducible assumption) | exact rowR (by with_reducible assumption)))
  refine wl_k rfl (fun K hK => ?_); go_simp; refine hK _ ?_; clear hK K
  ((with_reducible apply wl_rowG); exact rfl; exact rfl; (first | exact rowL (by with_reducible assumption) | exact rowD (by with_reducible assumption) | exact rowR (by with_reducible assumption)))
  refine wl_ck rfl (fun K hK => ?_); go_simp; refine ⟨_, _, ⟨rfl, rfl⟩, hK _ _ ⟨_, divDigits_any _ _ BA.out BB0.out BB.out _, ?_⟩⟩; clear hK K; rintro e w1 ⟨rfl, hb1⟩; refine ⟨_, rfl, ?_⟩; simp only [put_lit, List.set_cons_zero, List.set_cons_succ]
  replace h0 := below_look hb1 h0; replace h1 := below_look hb1 h1; replace h2 := below_look hb1 h2; replace hb := hb.trans (hb1.mono hb.size); clear hb1
  refine wl_k rfl (fun K hK => ?_); go_simp; refine hK _ ?_; clear hK K
  refine wl_k rfl (fun K hK => ?_); go_simp; refine hK _ ?_; clear hK K
  refine wl_k rfl (fun K hK => ?_); go_simp; refine hK _ ?_; clear hK K
  (have lth0p2 := heap_lt h0; have lth1p2 := heap_lt h1; have lth2p2 := heap_lt h2; have lsp2 := hb.size; (with_reducible apply wl_new73); intro w2 p2 hbn hlp2 hp2; replace h0 := below_look hbn h0; replace h1 := below_look hbn h1; replace h2 := below_look hbn h2; replace hb := hb.trans (hbn.mono hb.size); clear hbn)
  (have lth0p3 := heap_lt h0; have lth1p3 := heap_lt h1; have lth2p3 := heap_lt h2; have lthp2p3 := heap_lt hp2; have lsp3 := hb.size; (with_reducible apply wl_new73); intro w3 p3 hbn hlp3 hp3; replace h0 := below_look hbn h0; replace h1 := below_look hbn h1; replace h2 := below_look hbn h2; replace hp2 := below_look hbn hp2; replace hb := hb.trans (hbn.mono hb.size); clear hbn)
  ((with_reducible apply wl_put73); exact rfl; exact rfl; exact hp2; intro w4 hbx hk hq; replace h0 := hk _ _ (by omega) h0; replace h1 := hk _ _ (by omega) h1; replace h2 := hk _ _ (by omega) h2; replace hp3 := hk _ _ (by omega) hp3; replace hb := hbx _ _ (by omega) hb; clear hp2; have hp2 := hq; clear hbx hk hq)
  ((with_reducible apply wl_put73); exact rfl; exact rfl; exact hp3; intro w5 hbx hk hq; replace h0 := hk _ _ (by omega) h0; replace h1 := hk _ _ (by omega) h1; replace h2 := hk _ _ (by omega) h2; replace hp2 := hk _ _ (by omega) hp2; replace hb := hbx _ _ (by omega) hb; clear hp3; have hp3 := hq; clear hbx hk hq)
  have n0 : w5.cell? ⟨w.heap.size, 0, none⟩ = some (.bool (ng a)) := by rw [cell_of_row _ _ _ _ _ _ h0]; exact lv_neg a
  have n1 : w5.cell? ⟨w.heap.size + 1, 0, none⟩ = some (.bool (ng b)) := by rw [cell_of_row _ _ _ _ _ _ h1]; exact lv_neg b
  obtain ⟨q, hq⟩ : ∃ q, q = a.natAbs / b.natAbs := ⟨_, rfl⟩
  obtain ⟨r, hr⟩ : ∃ r, r = a.natAbs % b.natAbs := ⟨_, rfl⟩
  rw [← hq] at hp2
  rw [← hr] at hp3
  have QB : Hid (q + 1 < 10 ^ 64) := Lib.hid (by
    have h1 := Nat.div_le_self a.natAbs b.natAbs
    have h2 := BA.out
    have h3 : (10 : Nat) ^ 64 = 10000000000000000000000000000000000000000000000000000000000000000 := by decide
    have h4 := BQ.out
    omega)
  have RB : Hid (r < b.natAbs) := Lib.hid (by rw [hr]; exact Nat.mod_lt _ BB0.out)
  have HQ := Lib.hid hq
  have HR := Lib.hid hr
  clear hq hr
  go_upto_region 3 with (fail)
  refine wp_region_belowAll mixed (by kernel_rfl) ?_
  ((with_reducible apply wq_row); exact rfl; exact rfl; (intro w' hw'; first | exact rowL (below_look hw' (by with_reducible assumption)) | exact rowD (below_look hw' (by with_reducible assumption)) | exact rowR (below_look hw' (by with_reducible assumption))))
  ((with_reducible apply wq_row); exact rfl; exact rfl; (intro w' hw'; first | exact rowL (below_look hw' (by with_reducible assumption)) | exact rowD (below_look hw' (by with_reducible assumption)) | exact rowR (below_look hw' (by with_reducible assumption))))
  refine wq_ck rfl (fun K hK => ?_); go_simp; refine ⟨_, _, ⟨rfl, rfl⟩, hK _ _ ⟨_, fun w' hw' => calls_class hw' (addDigits_any _ _ w'), ?_⟩⟩; clear hK K; simp only [put_lit, List.set_cons_zero, List.set_cons_succ]
  refine wq_k rfl (fun K hK => ?_); go_simp; refine hK _ ?_; clear hK K
  ((with_reducible apply wq_row); exact rfl; exact rfl; (intro w' hw'; first | exact rowL (below_look hw' (by with_reducible assumption)) | exact rowD (below_look hw' (by with_reducible assumption)) | exact rowR (below_look hw' (by with_reducible assumption))))
  refine wq_ck rfl (fun K hK => ?_); go_simp; refine ⟨_, _, ⟨rfl, rfl⟩, hK _ _ ⟨_, fun w' hw' => calls_class hw' (compareDigits_any _ _ w'), ?_⟩⟩; clear hK K; simp only [put_lit, List.set_cons_zero, List.set_cons_succ]
  refine wq_k rfl (fun K hK => ?_); go_simp; refine hK _ ?_; clear hK K
  intro w6 hb1
  replace h0 := below_look hb1 h0; replace h1 := below_look hb1 h1; replace h2 := below_look hb1 h2; replace hp2 := below_look hb1 hp2; replace hp3 := below_look hb1 hp3; replace hb := hb.trans (hb1.mono hb.size); clear hb1
  have HT := cmpD_spec (a := r + r) (b := b.natAbs) (by have := RB.out; have := BB.out; have h3 : (10 : Nat) ^ 63 * 10 = 10 ^ 64 := by decide
                                                        omega) (Nat.lt_trans BB.out (by decide))
  generalize hTT : cmpD (r + r) b.natAbs = T at HT
  generalize hNN : (!(ng a == ng b)) = N
  clear n0 n1 hTT
  have HN := Lib.hid hNN
  clear hNN
  have HTT := Lib.hid HT
  clear HT
  by_cases hT : 0 ≤ T
  · go_upto_region 13 with (fail)
    refine wp_region_below 4 mixed (by kernel_rfl) ?_; simp only [List.take_succ_cons, List.take_zero, List.drop_succ_cons, List.drop_zero]
    ((with_reducible apply wq_row); exact rfl; exact rfl; (intro w' hw'; first | exact rowL (below_look hw' (by with_reducible assumption)) | exact rowD (below_look hw' (by with_reducible assumption)) | exact rowR (below_look hw' (by with_reducible assumption))))
    refine wq_ck rfl (fun K hK => ?_); go_simp; refine ⟨_, _, ⟨rfl, rfl⟩, hK _ _ ⟨_, fun w' hw' => calls_class hw' (small_any _ (by decide) (by decide) w'), ?_⟩⟩; clear hK K; simp only [put_lit, List.set_cons_zero, List.set_cons_succ]
    refine wq_val rfl (fun w' _ => ex_fld _ rfl rfl w') ?_; simp only [put_lit, List.set_cons_zero, List.set_cons_succ]
    refine wq_ck rfl (fun K hK => ?_); go_simp; refine ⟨_, _, ⟨rfl, rfl⟩, hK _ _ ⟨_, fun w' hw' => calls_class hw' (addDigits_any _ _ w'), ?_⟩⟩; clear hK K; simp only [put_lit, List.set_cons_zero, List.set_cons_succ]
    intro w7 hb1
    replace h2 := below_look hb1 h2; replace hp2 := below_look hb1 hp2; replace hb := hb.trans (hb1.mono hb.size); clear hb1
    ((with_reducible apply wl_put73); exact rfl; exact rfl; exact hp2; intro w8 hbx hk hq; replace h2 := hk _ _ (by omega) h2; replace hb := hbx _ _ (by omega) hb; clear hp2; have hp2 := hq; clear hbx hk hq)
    go_upto_region 14 with (fail)
    apply wp_region_lit
    ((with_reducible apply wl_rowG); exact rfl; exact rfl; (first | exact rowL (by with_reducible assumption) | exact rowD (by with_reducible assumption) | exact rowR (by with_reducible assumption)))
    refine wl_k rfl (fun K hK => ?_); go_simp; refine hK _ ?_; clear hK K
    refine wl_ck rfl (fun K hK => ?_); go_simp; refine ⟨_, _, ⟨rfl, rfl⟩, hK _ _ ⟨_, signed_any _ _ (by have := QB.out; omega) _, ?_⟩⟩; clear hK K; rintro e w7 ⟨rfl, hb1⟩; refine ⟨_, rfl, ?_⟩; simp only [put_lit, List.set_cons_zero, List.set_cons_succ]
    replace h2 := below_look hb1 h2; replace hb := hb.trans (hb1.mono hb.size); clear hb1
    ((with_reducible apply wl_put75); exact rfl; exact rfl; exact h2; intro w8 hbx hk hq; replace hb := hbx _ _ (by omega) hb; clear h2; have h2 := hq; clear hbx hk hq)
    go_wp2_with fail
    refine bodyPost_ret (res_long rfl _ _ (w.heap.size + 1 + 1) rfl h2) rfl ⟨?_, hb⟩
    rw [hR.out, roundS, show (ng a != ng b) = N from HN.out, ← HQ.out, ← HR.out]
    have hu : upS [104, 97, 108, 102] N q r b.natAbs = true := by
      have := HTT.out
      simp only [upS]
      simp
      omega
    rw [hu]
    rfl
  · go_upto_region 14 with (fail)
    apply wp_region_lit
    ((with_reducible apply wl_rowG); exact rfl; exact rfl; (first | exact rowL (by with_reducible assumption) | exact rowD (by with_reducible assumption) | exact rowR (by with_reducible assumption)))
    refine wl_k rfl (fun K hK => ?_); go_simp; refine hK _ ?_; clear hK K
    refine wl_ck rfl (fun K hK => ?_); go_simp; refine ⟨_, _, ⟨rfl, rfl⟩, hK _ _ ⟨_, signed_any _ _ (by have := QB.out; omega) _, ?_⟩⟩; clear hK K; rintro e w7 ⟨rfl, hb1⟩; refine ⟨_, rfl, ?_⟩; simp only [put_lit, List.set_cons_zero, List.set_cons_succ]
    replace h2 := below_look hb1 h2; replace hb := hb.trans (hb1.mono hb.size); clear hb1
    ((with_reducible apply wl_put75); exact rfl; exact rfl; exact h2; intro w8 hbx hk hq; replace hb := hbx _ _ (by omega) hb; clear h2; have h2 := hq; clear hbx hk hq)
    go_wp2_with fail
    refine bodyPost_ret (res_long rfl _ _ (w.heap.size + 1 + 1) rfl h2) rfl ⟨?_, hb⟩
    rw [hR.out, roundS, show (ng a != ng b) = N from HN.out, ← HQ.out, ← HR.out]
    have hu : upS [104, 97, 108, 102] N q r b.natAbs = false := by
      have := HTT.out
      simp only [upS]
      simp
      omega
    rw [hu]
    rfl
set_option maxHeartbeats 1000000 in
theorem rounded_even (a b : Int) (m : ByteArray) (hm : m.data.toList = [101, 118, 101, 110]) (BA : Hid (a.natAbs < 10 ^ 64)) (BB0 : Hid (0 < b.natAbs)) (BB : Hid (b.natAbs < 10 ^ 63)) (BQ : Hid (a.natAbs < 10 ^ 63)) (R : Int) (hR : Hid (R = roundS [101, 118, 101, 110] a b)) (w : World) :
    Calls Try.prog 76 #[.agg (lv a), .agg (lv b), .string m] w fun e w' => e = .returned (.agg (lv R)) ∧ Below w.heap.size w w' := by
  have l1 := lit_eq hm (l := [102, 108, 111, 111, 114]) rfl
  have l2 := lit_eq hm (l := [104, 97, 108, 102]) rfl
  have l3 := lit_eq hm (l := [101, 118, 101, 110]) rfl
  clear hm
  go_enter Try.func76, Try.ntmps76
  go_upto_region 1 with (fail)
  refine wp_world (fun W => W.heap[w.heap.size]? = some (.cells (lv a) 75 (0, 0)) ∧ W.heap[w.heap.size + 1]? = some (.cells (lv b) 75 (0, 0)) ∧ W.heap[w.heap.size + 1 + 1]? = some (.cells (lv 0) 75 (0, 0)) ∧ Below w.heap.size w W) ⟨ha_old (ha_old (ha_new rfl)), ha_old (ha_new (by simp)), by rw [← zero_long]; exact ha_new (by simp), (((Below.refl _ _).alloc (Nat.le_refl _) _).alloc (by simp) _).alloc (by simp; omega) _⟩ ?_
  rintro W ⟨h0, h1, h2, hb⟩
  apply wp_region_lit
  refine wl_k rfl (fun K hK => ?_); go_simp; refine hK _ ?_; clear hK K
  ((with_reducible apply wl_rowG); exact rfl; exact rfl; (first | exact rowL (by with_reducible assumption) | exact rowD (by with_reducible assumption) | exact rowR (by with_reducible assumption)))
  refine wl_k rfl (fun K hK => ?_); go_simp; refine hK _ ?_; clear hK K
  ((with_reducible apply wl_rowG); exact rfl; exact rfl; (first | exact rowL (by with_reducible assumption) | exact rowD (by with_reducible assumption) | exact rowR (by with_reducible assumption)))
  refine wl_ck rfl (fun K hK => ?_); go_simp; refine ⟨_, _, ⟨rfl, rfl⟩, hK _ _ ⟨_, divDigits_any _ _ BA.out BB0.out BB.out _, ?_⟩⟩; clear hK K; rintro e w1 ⟨rfl, hb1⟩; refine ⟨_, rfl, ?_⟩; simp only [put_lit, List.set_cons_zero, List.set_cons_succ]
  replace h0 := below_look hb1 h0; replace h1 := below_look hb1 h1; replace h2 := below_look hb1 h2; replace hb := hb.trans (hb1.mono hb.size); clear hb1
  refine wl_k rfl (fun K hK => ?_); go_simp; refine hK _ ?_; clear hK K
  refine wl_k rfl (fun K hK => ?_); go_simp; refine hK _ ?_; clear hK K
  refine wl_k rfl (fun K hK => ?_); go_simp; refine hK _ ?_; clear hK K
  (have lth0p2 := heap_lt h0; have lth1p2 := heap_lt h1; have lth2p2 := heap_lt h2; have lsp2 := hb.size; (with_reducible apply wl_new73); intro w2 p2 hbn hlp2 hp2; replace h0 := below_look hbn h0; replace h1 := below_look hbn h1; replace h2 := below_look hbn h2; replace hb := hb.trans (hbn.mono hb.size); clear hbn)
  (have lth0p3 := heap_lt h0; have lth1p3 := heap_lt h1; have lth2p3 := heap_lt h2; have lthp2p3 := heap_lt hp2; have lsp3 := hb.size; (with_reducible apply wl_new73); intro w3 p3 hbn hlp3 hp3; replace h0 := below_look hbn h0; replace h1 := below_look hbn h1; replace h2 := below_look hbn h2; replace hp2 := below_look hbn hp2; replace hb := hb.trans (hbn.mono hb.size); clear hbn)
  ((with_reducible apply wl_put73); exact rfl; exact rfl; exact hp2; intro w4 hbx hk hq; replace h0 := hk _ _ (by omega) h0; replace h1 := hk _ _ (by omega) h1; replace h2 := hk _ _ (by omega) h2; replace hp3 := hk _ _ (by omega) hp3; replace hb := hbx _ _ (by omega) hb; clear hp2; have hp2 := hq; clear hbx hk hq)
  ((with_reducible apply wl_put73); exact rfl; exact rfl; exact hp3; intro w5 hbx hk hq; replace h0 := hk _ _ (by omega) h0; replace h1 := hk _ _ (by omega) h1; replace h2 := hk _ _ (by omega) h2; replace hp2 := hk _ _ (by omega) hp2; replace hb := hbx _ _ (by omega) hb; clear hp3; have hp3 := hq; clear hbx hk hq)
  have n0 : w5.cell? ⟨w.heap.size, 0, none⟩ = some (.bool (ng a)) := by rw [cell_of_row _ _ _ _ _ _ h0]; exact lv_neg a
  have n1 : w5.cell? ⟨w.heap.size + 1, 0, none⟩ = some (.bool (ng b)) := by rw [cell_of_row _ _ _ _ _ _ h1]; exact lv_neg b
  obtain ⟨q, hq⟩ : ∃ q, q = a.natAbs / b.natAbs := ⟨_, rfl⟩
  obtain ⟨r, hr⟩ : ∃ r, r = a.natAbs % b.natAbs := ⟨_, rfl⟩
  rw [← hq] at hp2
  rw [← hr] at hp3
  have QB : Hid (q + 1 < 10 ^ 64) := Lib.hid (by
    have h1 := Nat.div_le_self a.natAbs b.natAbs
    have h2 := BA.out
    have h3 : (10 : Nat) ^ 64 = 10000000000000000000000000000000000000000000000000000000000000000 := by decide
    have h4 := BQ.out
    omega)
  have RB : Hid (r < b.natAbs) := Lib.hid (by rw [hr]; exact Nat.mod_lt _ BB0.out)
  have HQ := Lib.hid hq
  have HR := Lib.hid hr
  clear hq hr
  go_upto_region 3 with (fail)
  refine wp_region_belowAll mixed (by kernel_rfl) ?_
  ((with_reducible apply wq_row); exact rfl; exact rfl; (intro w' hw'; first | exact rowL (below_look hw' (by with_reducible assumption)) | exact rowD (below_look hw' (by with_reducible assumption)) | exact rowR (below_look hw' (by with_reducible assumption))))
  ((with_reducible apply wq_row); exact rfl; exact rfl; (intro w' hw'; first | exact rowL (below_look hw' (by with_reducible assumption)) | exact rowD (below_look hw' (by with_reducible assumption)) | exact rowR (below_look hw' (by with_reducible assumption))))
  refine wq_ck rfl (fun K hK => ?_); go_simp; refine ⟨_, _, ⟨rfl, rfl⟩, hK _ _ ⟨_, fun w' hw' => calls_class hw' (addDigits_any _ _ w'), ?_⟩⟩; clear hK K; simp only [put_lit, List.set_cons_zero, List.set_cons_succ]
  refine wq_k rfl (fun K hK => ?_); go_simp; refine hK _ ?_; clear hK K
  ((with_reducible apply wq_row); exact rfl; exact rfl; (intro w' hw'; first | exact rowL (below_look hw' (by with_reducible assumption)) | exact rowD (below_look hw' (by with_reducible assumption)) | exact rowR (below_look hw' (by with_reducible assumption))))
  refine wq_ck rfl (fun K hK => ?_); go_simp; refine ⟨_, _, ⟨rfl, rfl⟩, hK _ _ ⟨_, fun w' hw' => calls_class hw' (compareDigits_any _ _ w'), ?_⟩⟩; clear hK K; simp only [put_lit, List.set_cons_zero, List.set_cons_succ]
  refine wq_k rfl (fun K hK => ?_); go_simp; refine hK _ ?_; clear hK K
  intro w6 hb1
  replace h0 := below_look hb1 h0; replace h1 := below_look hb1 h1; replace h2 := below_look hb1 h2; replace hp2 := below_look hb1 hp2; replace hp3 := below_look hb1 hp3; replace hb := hb.trans (hb1.mono hb.size); clear hb1
  have HT := cmpD_spec (a := r + r) (b := b.natAbs) (by have := RB.out; have := BB.out; have h3 : (10 : Nat) ^ 63 * 10 = 10 ^ 64 := by decide
                                                        omega) (Nat.lt_trans BB.out (by decide))
  generalize hTT : cmpD (r + r) b.natAbs = T at HT
  generalize hNN : (!(ng a == ng b)) = N
  clear n0 n1 hTT
  have HN := Lib.hid hNN
  clear hNN
  have HTT := Lib.hid HT
  clear HT
  have cq : w6.cell? ⟨p2, 0, none⟩ = some (.int .u8 (dg q 0)) := by rw [cell_of_row _ _ _ _ _ _ hp2, dv, row_get _ _ (by omega)]
  have hq0 : (dg q 0 : Int) = (q : Int) % 10 := by unfold dg; omega
  rw [hq0] at cq
  clear hq0
  rcases Int.lt_trichotomy T 0 with hT | hT | hT
  · go_upto_region 14 with (fail)
    apply wp_region_lit
    ((with_reducible apply wl_rowG); exact rfl; exact rfl; (first | exact rowL (by with_reducible assumption) | exact rowD (by with_reducible assumption) | exact rowR (by with_reducible assumption)))
    refine wl_k rfl (fun K hK => ?_); go_simp; refine hK _ ?_; clear hK K
    refine wl_ck rfl (fun K hK => ?_); go_simp; refine ⟨_, _, ⟨rfl, rfl⟩, hK _ _ ⟨_, signed_any _ _ (by have := QB.out; omega) _, ?_⟩⟩; clear hK K; rintro e w7 ⟨rfl, hb1⟩; refine ⟨_, rfl, ?_⟩; simp only [put_lit, List.set_cons_zero, List.set_cons_succ]
    replace h2 := below_look hb1 h2; replace hb := hb.trans (hb1.mono hb.size); clear hb1
    ((with_reducible apply wl_put75); exact rfl; exact rfl; exact h2; intro w8 hbx hk hq; replace hb := hbx _ _ (by omega) hb; clear h2; have h2 := hq; clear hbx hk hq)
    go_wp2_with fail
    refine bodyPost_ret (res_long rfl _ _ (w.heap.size + 1 + 1) rfl h2) rfl ⟨?_, hb⟩
    rw [hR.out, roundS, show (ng a != ng b) = N from HN.out, ← HQ.out, ← HR.out]
    have hu : upS [101, 118, 101, 110] N q r b.natAbs = false := by
      have := HTT.out
      (try have := HO.out)
      simp only [upS]
      simp
      omega
    rw [hu]
    rfl
  · subst hT
    by_cases ho : q % 2 = 1
    · have ho2 : ((q : Int) % 10) % 2 = 1 := by omega
      have HO := Lib.hid ho
      clear ho
      go_upto_region 13 with (fail)
      refine wp_region_below 4 mixed (by kernel_rfl) ?_; simp only [List.take_succ_cons, List.take_zero, List.drop_succ_cons, List.drop_zero]
      ((with_reducible apply wq_row); exact rfl; exact rfl; (intro w' hw'; first | exact rowL (below_look hw' (by with_reducible assumption)) | exact rowD (below_look hw' (by with_reducible assumption)) | exact rowR (below_look hw' (by with_reducible assumption))))
      refine wq_ck rfl (fun K hK => ?_); go_simp; refine ⟨_, _, ⟨rfl, rfl⟩, hK _ _ ⟨_, fun w' hw' => calls_class hw' (small_any _ (by decide) (by decide) w'), ?_⟩⟩; clear hK K; simp only [put_lit, List.set_cons_zero, List.set_cons_succ]
      refine wq_val rfl (fun w' _ => ex_fld _ rfl rfl w') ?_; simp only [put_lit, List.set_cons_zero, List.set_cons_succ]
      refine wq_ck rfl (fun K hK => ?_); go_simp; refine ⟨_, _, ⟨rfl, rfl⟩, hK _ _ ⟨_, fun w' hw' => calls_class hw' (addDigits_any _ _ w'), ?_⟩⟩; clear hK K; simp only [put_lit, List.set_cons_zero, List.set_cons_succ]
      intro w7 hb1
      replace h2 := below_look hb1 h2; replace hp2 := below_look hb1 hp2; replace hb := hb.trans (hb1.mono hb.size); clear hb1
      ((with_reducible apply wl_put73); exact rfl; exact rfl; exact hp2; intro w8 hbx hk hq; replace h2 := hk _ _ (by omega) h2; replace hb := hbx _ _ (by omega) hb; clear hp2; have hp2 := hq; clear hbx hk hq)
      go_upto_region 14 with (fail)
      apply wp_region_lit
      ((with_reducible apply wl_rowG); exact rfl; exact rfl; (first | exact rowL (by with_reducible assumption) | exact rowD (by with_reducible assumption) | exact rowR (by with_reducible assumption)))
      refine wl_k rfl (fun K hK => ?_); go_simp; refine hK _ ?_; clear hK K
      refine wl_ck rfl (fun K hK => ?_); go_simp; refine ⟨_, _, ⟨rfl, rfl⟩, hK _ _ ⟨_, signed_any _ _ (by have := QB.out; omega) _, ?_⟩⟩; clear hK K; rintro e w7 ⟨rfl, hb1⟩; refine ⟨_, rfl, ?_⟩; simp only [put_lit, List.set_cons_zero, List.set_cons_succ]
      replace h2 := below_look hb1 h2; replace hb := hb.trans (hb1.mono hb.size); clear hb1
      ((with_reducible apply wl_put75); exact rfl; exact rfl; exact h2; intro w8 hbx hk hq; replace hb := hbx _ _ (by omega) hb; clear h2; have h2 := hq; clear hbx hk hq)
      go_wp2_with fail
      refine bodyPost_ret (res_long rfl _ _ (w.heap.size + 1 + 1) rfl h2) rfl ⟨?_, hb⟩
      rw [hR.out, roundS, show (ng a != ng b) = N from HN.out, ← HQ.out, ← HR.out]
      have hu : upS [101, 118, 101, 110] N q r b.natAbs = true := by
        have := HTT.out
        (try have := HO.out)
        simp only [upS]
        simp
        omega
      rw [hu]
      rfl
    · have ho2 : ((q : Int) % 10) % 2 = 0 := by omega
      have HO := Lib.hid ho
      clear ho
      go_upto_region 14 with (fail)
      apply wp_region_lit
      ((with_reducible apply wl_rowG); exact rfl; exact rfl; (first | exact rowL (by with_reducible assumption) | exact rowD (by with_reducible assumption) | exact rowR (by with_reducible assumption)))
      refine wl_k rfl (fun K hK => ?_); go_simp; refine hK _ ?_; clear hK K
      refine wl_ck rfl (fun K hK => ?_); go_simp; refine ⟨_, _, ⟨rfl, rfl⟩, hK _ _ ⟨_, signed_any _ _ (by have := QB.out; omega) _, ?_⟩⟩; clear hK K; rintro e w7 ⟨rfl, hb1⟩; refine ⟨_, rfl, ?_⟩; simp only [put_lit, List.set_cons_zero, List.set_cons_succ]
      replace h2 := below_look hb1 h2; replace hb := hb.trans (hb1.mono hb.size); clear hb1
      ((with_reducible apply wl_put75); exact rfl; exact rfl; exact h2; intro w8 hbx hk hq; replace hb := hbx _ _ (by omega) hb; clear h2; have h2 := hq; clear hbx hk hq)
      go_wp2_with fail
      refine bodyPost_ret (res_long rfl _ _ (w.heap.size + 1 + 1) rfl h2) rfl ⟨?_, hb⟩
      rw [hR.out, roundS, show (ng a != ng b) = N from HN.out, ← HQ.out, ← HR.out]
      have hu : upS [101, 118, 101, 110] N q r b.natAbs = false := by
        have := HTT.out
        (try have := HO.out)
        simp only [upS]
        simp
        omega
      rw [hu]
      rfl
  · go_upto_region 13 with (fail)
    refine wp_region_below 4 mixed (by kernel_rfl) ?_; simp only [List.take_succ_cons, List.take_zero, List.drop_succ_cons, List.drop_zero]
    ((with_reducible apply wq_row); exact rfl; exact rfl; (intro w' hw'; first | exact rowL (below_look hw' (by with_reducible assumption)) | exact rowD (below_look hw' (by with_reducible assumption)) | exact rowR (below_look hw' (by with_reducible assumption))))
    refine wq_ck rfl (fun K hK => ?_); go_simp; refine ⟨_, _, ⟨rfl, rfl⟩, hK _ _ ⟨_, fun w' hw' => calls_class hw' (small_any _ (by decide) (by decide) w'), ?_⟩⟩; clear hK K; simp only [put_lit, List.set_cons_zero, List.set_cons_succ]
    refine wq_val rfl (fun w' _ => ex_fld _ rfl rfl w') ?_; simp only [put_lit, List.set_cons_zero, List.set_cons_succ]
    refine wq_ck rfl (fun K hK => ?_); go_simp; refine ⟨_, _, ⟨rfl, rfl⟩, hK _ _ ⟨_, fun w' hw' => calls_class hw' (addDigits_any _ _ w'), ?_⟩⟩; clear hK K; simp only [put_lit, List.set_cons_zero, List.set_cons_succ]
    intro w7 hb1
    replace h2 := below_look hb1 h2; replace hp2 := below_look hb1 hp2; replace hb := hb.trans (hb1.mono hb.size); clear hb1
    ((with_reducible apply wl_put73); exact rfl; exact rfl; exact hp2; intro w8 hbx hk hq; replace h2 := hk _ _ (by omega) h2; replace hb := hbx _ _ (by omega) hb; clear hp2; have hp2 := hq; clear hbx hk hq)
    go_upto_region 14 with (fail)
    apply wp_region_lit
    ((with_reducible apply wl_rowG); exact rfl; exact rfl; (first | exact rowL (by with_reducible assumption) | exact rowD (by with_reducible assumption) | exact rowR (by with_reducible assumption)))
    refine wl_k rfl (fun K hK => ?_); go_simp; refine hK _ ?_; clear hK K
    refine wl_ck rfl (fun K hK => ?_); go_simp; refine ⟨_, _, ⟨rfl, rfl⟩, hK _ _ ⟨_, signed_any _ _ (by have := QB.out; omega) _, ?_⟩⟩; clear hK K; rintro e w7 ⟨rfl, hb1⟩; refine ⟨_, rfl, ?_⟩; simp only [put_lit, List.set_cons_zero, List.set_cons_succ]
    replace h2 := below_look hb1 h2; replace hb := hb.trans (hb1.mono hb.size); clear hb1
    ((with_reducible apply wl_put75); exact rfl; exact rfl; exact h2; intro w8 hbx hk hq; replace hb := hbx _ _ (by omega) hb; clear h2; have h2 := hq; clear hbx hk hq)
    go_wp2_with fail
    refine bodyPost_ret (res_long rfl _ _ (w.heap.size + 1 + 1) rfl h2) rfl ⟨?_, hb⟩
    rw [hR.out, roundS, show (ng a != ng b) = N from HN.out, ← HQ.out, ← HR.out]
    have hu : upS [101, 118, 101, 110] N q r b.natAbs = true := by
      have := HTT.out
      (try have := HO.out)
      simp only [upS]
      simp
      omega
    rw [hu]
    rfl
theorem roundS_down (a b : Int) : roundS [100, 111, 119, 110] a b = sg (ng a != ng b) (a.natAbs / b.natAbs) := by simp [roundS, upS]
theorem rounded_any (a b : Int) (m : ByteArray) (hm : isRoundL m.data.toList = true) (hb0 : 0 < b.natAbs) (hb1 : b.natAbs < 10 ^ 63) (ha : a.natAbs < 10 ^ 63) (w : World) :
    Calls Try.prog 76 #[.agg (lv a), .agg (lv b), .string m] w fun e w' => e = .returned (.agg (lv (roundS m.data.toList a b))) ∧ Below w.heap.size w w' := by
  have ha2 : a.natAbs < 10 ^ 64 := Nat.lt_trans ha (by decide)
  unfold isRoundL at hm
  simp only [Bool.or_eq_true, beq_iff_eq] at hm
  rcases hm with ((h | h) | h) | h
  · have := rounded_down a b m h (Lib.hid ha2) (Lib.hid hb0) (Lib.hid hb1) (Lib.hid ha) w
    rw [h, roundS_down]; exact this
  · rw [h]; exact rounded_floor a b m h (Lib.hid ha2) (Lib.hid hb0) (Lib.hid hb1) (Lib.hid ha) _ (Lib.hid rfl) w
  · rw [h]; exact rounded_half a b m h (Lib.hid ha2) (Lib.hid hb0) (Lib.hid hb1) (Lib.hid ha) _ (Lib.hid rfl) w
  · rw [h]; exact rounded_even a b m h (Lib.hid ha2) (Lib.hid hb0) (Lib.hid hb1) (Lib.hid ha) _ (Lib.hid rfl) w
end Go.Proofs.Ytclainfdeghgnaa
