/- The exact result of an operation. -/
import Derived.Test.YtclainfdeghgnaaW19
import Derived.Outline
namespace Go.Proofs.Ytclainfdeghgnaa
open Go.RowKit Go.Proofs.Ytclainfdeghgnaa.Nm

theorem lit_eq {m : ByteArray} {L : List UInt8} (h : m.data.toList = L) {l : List UInt8} {b : Bool} (hb : (L == l) = b) : (m.toList == l) = b := by
  rw [ByteArray.toList_eq, h]; exact hb
set_option maxHeartbeats 400000 in
theorem exact_add (op : ByteArray) (bits : Int) (s : Bool) (x y : Int) (hop : op.data.toList = [43]) (hz : Hid (x.natAbs + y.natAbs < 10 ^ 64)) (w : World) :
    Calls Try.prog 60 #[.agg (wi bits s), .string op, .agg (lv x), .agg (lv y)] w fun e w' => e = .returned (.agg (lv (x + y))) ∧ Below w.heap.size w w' := by
  have l1 := lit_eq hop (l := [43]) rfl
  clear hop
  go_enter Try.func60, Try.ntmps60
  go_upto_region 1 with (fail)
  refine wp_world (fun W => W.heap[w.heap.size]? = some (.cells (wi bits s) 68 (0, 0)) ∧ W.heap[w.heap.size + 1]? = some (.cells (lv x) 75 (0, 0)) ∧ W.heap[w.heap.size + 1 + 1]? = some (.cells (lv y) 75 (0, 0)) ∧ W.heap[w.heap.size + 1 + 1 + 1]? = some (.cells (lv 0) 75 (0, 0)) ∧ Below w.heap.size w W) ⟨ha_old (ha_old (ha_old (ha_new rfl))), ha_old (ha_old (ha_new (by simp))), ha_old (ha_new (by simp)), by rw [← zero_long]; exact ha_new (by simp), ((((Below.refl _ _).alloc (Nat.le_refl _) _).alloc (by simp) _).alloc (by simp; omega) _).alloc (by simp; omega) _⟩ ?_
  rintro W ⟨h0, h1, h2, h3, hb⟩
  go_upto_region 3 with (fail)
  apply wp_region_lit
  ((with_reducible apply wl_rowG); exact rfl; exact rfl; (first | exact rowL (by with_reducible assumption) | exact rowD (by with_reducible assumption) | exact rowR (by with_reducible assumption)))
  ((with_reducible apply wl_rowG); exact rfl; exact rfl; (first | exact rowL (by with_reducible assumption) | exact rowD (by with_reducible assumption) | exact rowR (by with_reducible assumption)))
  refine wl_ck rfl (fun K hK => ?_); go_simp; refine ⟨_, _, ⟨rfl, rfl⟩, hK _ _ ⟨_, add_any _ _ hz.out _, ?_⟩⟩; clear hK K; rintro e w1 ⟨rfl, hb1⟩; refine ⟨_, rfl, ?_⟩; simp only [put_lit, List.set_cons_zero, List.set_cons_succ]
  replace h3 := below_look hb1 h3; replace hb := hb.trans (hb1.mono hb.size); clear hb1
  ((with_reducible apply wl_put75); exact rfl; exact rfl; exact h3; intro w12 hbx hk hq; replace hb := hbx _ _ (by omega) hb; clear h3; have h3 := hq; clear hbx hk hq)
  go_wp2_with fail
  exact bodyPost_ret (res_long rfl _ _ (w.heap.size + 1 + 1 + 1) rfl h3) rfl ⟨rfl, hb⟩
set_option maxHeartbeats 400000 in
theorem exact_sub (op : ByteArray) (bits : Int) (s : Bool) (x y : Int) (hop : op.data.toList = [45]) (hy : Hid (y.natAbs < 10 ^ 64)) (hz : Hid (x.natAbs + (-y).natAbs < 10 ^ 64)) (w : World) :
    Calls Try.prog 60 #[.agg (wi bits s), .string op, .agg (lv x), .agg (lv y)] w fun e w' => e = .returned (.agg (lv (x - y))) ∧ Below w.heap.size w w' := by
  have l1 := lit_eq hop (l := [43]) rfl
  have l2 := lit_eq hop (l := [45]) rfl
  rw [Int.sub_eq_add_neg]
  clear hop
  go_enter Try.func60, Try.ntmps60
  go_upto_region 1 with (fail)
  refine wp_world (fun W => W.heap[w.heap.size]? = some (.cells (wi bits s) 68 (0, 0)) ∧ W.heap[w.heap.size + 1]? = some (.cells (lv x) 75 (0, 0)) ∧ W.heap[w.heap.size + 1 + 1]? = some (.cells (lv y) 75 (0, 0)) ∧ W.heap[w.heap.size + 1 + 1 + 1]? = some (.cells (lv 0) 75 (0, 0)) ∧ Below w.heap.size w W) ⟨ha_old (ha_old (ha_old (ha_new rfl))), ha_old (ha_old (ha_new (by simp))), ha_old (ha_new (by simp)), by rw [← zero_long]; exact ha_new (by simp), ((((Below.refl _ _).alloc (Nat.le_refl _) _).alloc (by simp) _).alloc (by simp; omega) _).alloc (by simp; omega) _⟩ ?_
  rintro W ⟨h0, h1, h2, h3, hb⟩
  go_upto_region 5 with (fail)
  refine wp_region_below 4 mixed (by kernel_rfl) ?_; simp only [List.take_succ_cons, List.take_zero, List.drop_succ_cons, List.drop_zero]
  ((with_reducible apply wq_row); exact rfl; exact rfl; (intro w' hw'; first | exact rowL (below_look hw' (by with_reducible assumption)) | exact rowD (below_look hw' (by with_reducible assumption)) | exact rowR (below_look hw' (by with_reducible assumption))))
  ((with_reducible apply wq_row); exact rfl; exact rfl; (intro w' hw'; first | exact rowL (below_look hw' (by with_reducible assumption)) | exact rowD (below_look hw' (by with_reducible assumption)) | exact rowR (below_look hw' (by with_reducible assumption))))
  refine wq_ck rfl (fun K hK => ?_); go_simp; refine ⟨_, _, ⟨rfl, rfl⟩, hK _ _ ⟨_, fun w' hw' => calls_class hw' (minus_any _ hy.out w'), ?_⟩⟩; clear hK K; simp only [put_lit, List.set_cons_zero, List.set_cons_succ]
  refine wq_ck rfl (fun K hK => ?_); go_simp; refine ⟨_, _, ⟨rfl, rfl⟩, hK _ _ ⟨_, fun w' hw' => calls_class hw' (add_any _ _ hz.out w'), ?_⟩⟩; clear hK K; simp only [put_lit, List.set_cons_zero, List.set_cons_succ]
  intro w1 hb1
  replace h3 := below_look hb1 h3; replace hb := hb.trans (hb1.mono hb.size); clear hb1
  ((with_reducible apply wl_put75); exact rfl; exact rfl; exact h3; intro w12 hbx hk hq; replace hb := hbx _ _ (by omega) hb; clear h3; have h3 := hq; clear hbx hk hq)
  go_wp2_with fail
  exact bodyPost_ret (res_long rfl _ _ (w.heap.size + 1 + 1 + 1) rfl h3) rfl ⟨rfl, hb⟩
set_option maxHeartbeats 400000 in
theorem exact_mul (op : ByteArray) (bits : Int) (s : Bool) (x y : Int) (hop : op.data.toList = [42]) (hz : Hid (x.natAbs * y.natAbs < 10 ^ 64)) (w : World) :
    Calls Try.prog 60 #[.agg (wi bits s), .string op, .agg (lv x), .agg (lv y)] w fun e w' => e = .returned (.agg (lv (x * y))) ∧ Below w.heap.size w w' := by
  have l1 := lit_eq hop (l := [43]) rfl
  have l2 := lit_eq hop (l := [45]) rfl
  have l3 := lit_eq hop (l := [42]) rfl
  clear hop
  go_enter Try.func60, Try.ntmps60
  go_upto_region 1 with (fail)
  refine wp_world (fun W => W.heap[w.heap.size]? = some (.cells (wi bits s) 68 (0, 0)) ∧ W.heap[w.heap.size + 1]? = some (.cells (lv x) 75 (0, 0)) ∧ W.heap[w.heap.size + 1 + 1]? = some (.cells (lv y) 75 (0, 0)) ∧ W.heap[w.heap.size + 1 + 1 + 1]? = some (.cells (lv 0) 75 (0, 0)) ∧ Below w.heap.size w W) ⟨ha_old (ha_old (ha_old (ha_new rfl))), ha_old (ha_old (ha_new (by simp))), ha_old (ha_new (by simp)), by rw [← zero_long]; exact ha_new (by simp), ((((Below.refl _ _).alloc (Nat.le_refl _) _).alloc (by simp) _).alloc (by simp; omega) _).alloc (by simp; omega) _⟩ ?_
  rintro W ⟨h0, h1, h2, h3, hb⟩
  go_upto_region 7 with (fail)
  apply wp_region_lit
  ((with_reducible apply wl_rowG); exact rfl; exact rfl; (first | exact rowL (by with_reducible assumption) | exact rowD (by with_reducible assumption) | exact rowR (by with_reducible assumption)))
  ((with_reducible apply wl_rowG); exact rfl; exact rfl; (first | exact rowL (by with_reducible assumption) | exact rowD (by with_reducible assumption) | exact rowR (by with_reducible assumption)))
  refine wl_ck rfl (fun K hK => ?_); go_simp; refine ⟨_, _, ⟨rfl, rfl⟩, hK _ _ ⟨_, mul_any _ _ hz.out _, ?_⟩⟩; clear hK K; rintro e w1 ⟨rfl, hb1⟩; refine ⟨_, rfl, ?_⟩; simp only [put_lit, List.set_cons_zero, List.set_cons_succ]
  replace h3 := below_look hb1 h3; replace hb := hb.trans (hb1.mono hb.size); clear hb1
  ((with_reducible apply wl_put75); exact rfl; exact rfl; exact h3; intro w12 hbx hk hq; replace hb := hbx _ _ (by omega) hb; clear h3; have h3 := hq; clear hbx hk hq)
  go_wp2_with fail
  exact bodyPost_ret (res_long rfl _ _ (w.heap.size + 1 + 1 + 1) rfl h3) rfl ⟨rfl, hb⟩
set_option maxHeartbeats 400000 in
theorem exact_div (op : ByteArray) (bits : Int) (s : Bool) (x y : Int) (hop : op.data.toList = [47]) (HX : Hid (x.natAbs < 10 ^ 64)) (hy : Hid (y ≠ 0)) (HY : Hid (y.natAbs < 10 ^ 63)) (w : World) :
    Calls Try.prog 60 #[.agg (wi bits s), .string op, .agg (lv x), .agg (lv y)] w fun e w' => e = .returned (.agg (lv (Int.tdiv x y))) ∧ Below w.heap.size w w' := by
  have l1 := lit_eq hop (l := [43]) rfl
  have l2 := lit_eq hop (l := [45]) rfl
  have l3 := lit_eq hop (l := [42]) rfl
  have l4 := lit_eq hop (l := [47]) rfl
  clear hop
  go_enter Try.func60, Try.ntmps60
  go_upto_region 1 with (fail)
  refine wp_world (fun W => W.heap[w.heap.size]? = some (.cells (wi bits s) 68 (0, 0)) ∧ W.heap[w.heap.size + 1]? = some (.cells (lv x) 75 (0, 0)) ∧ W.heap[w.heap.size + 1 + 1]? = some (.cells (lv y) 75 (0, 0)) ∧ W.heap[w.heap.size + 1 + 1 + 1]? = some (.cells (lv 0) 75 (0, 0)) ∧ Below w.heap.size w W) ⟨ha_old (ha_old (ha_old (ha_new rfl))), ha_old (ha_old (ha_new (by simp))), ha_old (ha_new (by simp)), by rw [← zero_long]; exact ha_new (by simp), ((((Below.refl _ _).alloc (Nat.le_refl _) _).alloc (by simp) _).alloc (by simp; omega) _).alloc (by simp; omega) _⟩ ?_
  rintro W ⟨h0, h1, h2, h3, hb⟩
  go_upto_region 9 with (fail)
  apply wp_region_lit
  ((with_reducible apply wl_rowG); exact rfl; exact rfl; (first | exact rowL (by with_reducible assumption) | exact rowD (by with_reducible assumption) | exact rowR (by with_reducible assumption)))
  ((with_reducible apply wl_rowG); exact rfl; exact rfl; (first | exact rowL (by with_reducible assumption) | exact rowD (by with_reducible assumption) | exact rowR (by with_reducible assumption)))
  refine wl_ck rfl (fun K hK => ?_); go_simp; refine ⟨_, _, ⟨rfl, rfl⟩, hK _ _ ⟨_, div_any _ _ HX.out (Int.natAbs_pos.2 hy.out) HY.out _, ?_⟩⟩; clear hK K; rintro e w1 ⟨rfl, hb1⟩; refine ⟨_, rfl, ?_⟩; simp only [put_lit, List.set_cons_zero, List.set_cons_succ]
  replace h3 := below_look hb1 h3; replace hb := hb.trans (hb1.mono hb.size); clear hb1
  refine wl_k rfl (fun K hK => ?_); go_simp; refine hK _ ?_; clear hK K
  refine wl_k rfl (fun K hK => ?_); go_simp; refine hK _ ?_; clear hK K
  refine wl_k rfl (fun K hK => ?_); go_simp; refine hK _ ?_; clear hK K
  (have lth3p2 := heap_lt h3; have lsp2 := hb.size; (with_reducible apply wl_new75); intro w2 p2 hbn hlp2 hp2; replace h3 := below_look hbn h3; replace hb := hb.trans (hbn.mono hb.size); clear hbn)
  (have lth3p3 := heap_lt h3; have lthp2p3 := heap_lt hp2; have lsp3 := hb.size; (with_reducible apply wl_new75); intro w3 p3 hbn hlp3 hp3; replace h3 := below_look hbn h3; replace hp2 := below_look hbn hp2; replace hb := hb.trans (hbn.mono hb.size); clear hbn)
  ((with_reducible apply wl_put75); exact rfl; exact rfl; exact hp2; intro w4 hbx hk hq; replace hp3 := hk _ _ (by omega) hp3; replace h3 := hk _ _ (by omega) h3; replace hb := hbx _ _ (by omega) hb; clear hp2; have hp2 := hq; clear hbx hk hq)
  ((with_reducible apply wl_put75); exact rfl; exact rfl; exact hp3; intro w5 hbx hk hq; replace hp2 := hk _ _ (by omega) hp2; replace h3 := hk _ _ (by omega) h3; replace hb := hbx _ _ (by omega) hb; clear hp3; have hp3 := hq; clear hbx hk hq)
  go_upto_region 10 with (fail)
  apply wp_region_lit
  ((with_reducible apply wl_rowG); exact rfl; exact rfl; (first | exact rowL (by with_reducible assumption) | exact rowD (by with_reducible assumption) | exact rowR (by with_reducible assumption)))
  ((with_reducible apply wl_put75); exact rfl; exact rfl; exact h3; intro w12 hbx hk hq; replace hb := hbx _ _ (by omega) hb; clear h3; have h3 := hq; clear hbx hk hq)
  go_wp2_with fail
  exact bodyPost_ret (res_long rfl _ _ (w.heap.size + 1 + 1 + 1) rfl h3) rfl ⟨rfl, hb⟩
set_option maxHeartbeats 400000 in
theorem exact_mod (op : ByteArray) (bits : Int) (s : Bool) (x y : Int) (hop : op.data.toList = [37]) (HX : Hid (x.natAbs < 10 ^ 64)) (hy : Hid (y ≠ 0)) (HY : Hid (y.natAbs < 10 ^ 63)) (w : World) :
    Calls Try.prog 60 #[.agg (wi bits s), .string op, .agg (lv x), .agg (lv y)] w fun e w' => e = .returned (.agg (lv (Int.tmod x y))) ∧ Below w.heap.size w w' := by
  have l1 := lit_eq hop (l := [43]) rfl
  have l2 := lit_eq hop (l := [45]) rfl
  have l3 := lit_eq hop (l := [42]) rfl
  have l4 := lit_eq hop (l := [47]) rfl
  have l5 := lit_eq hop (l := [37]) rfl
  clear hop
  go_enter Try.func60, Try.ntmps60
  go_upto_region 1 with (fail)
  refine wp_world (fun W => W.heap[w.heap.size]? = some (.cells (wi bits s) 68 (0, 0)) ∧ W.heap[w.heap.size + 1]? = some (.cells (lv x) 75 (0, 0)) ∧ W.heap[w.heap.size + 1 + 1]? = some (.cells (lv y) 75 (0, 0)) ∧ W.heap[w.heap.size + 1 + 1 + 1]? = some (.cells (lv 0) 75 (0, 0)) ∧ Below w.heap.size w W) ⟨ha_old (ha_old (ha_old (ha_new rfl))), ha_old (ha_old (ha_new (by simp))), ha_old (ha_new (by simp)), by rw [← zero_long]; exact ha_new (by simp), ((((Below.refl _ _).alloc (Nat.le_refl _) _).alloc (by simp) _).alloc (by simp; omega) _).alloc (by simp; omega) _⟩ ?_
  rintro W ⟨h0, h1, h2, h3, hb⟩
  go_upto_region 12 with (fail)
  apply wp_region_lit
  ((with_reducible apply wl_rowG); exact rfl; exact rfl; (first | exact rowL (by with_reducible assumption) | exact rowD (by with_reducible assumption) | exact rowR (by with_reducible assumption)))
  ((with_reducible apply wl_rowG); exact rfl; exact rfl; (first | exact rowL (by with_reducible assumption) | exact rowD (by with_reducible assumption) | exact rowR (by with_reducible assumption)))
  refine wl_ck rfl (fun K hK => ?_); go_simp; refine ⟨_, _, ⟨rfl, rfl⟩, hK _ _ ⟨_, div_any _ _ HX.out (Int.natAbs_pos.2 hy.out) HY.out _, ?_⟩⟩; clear hK K; rintro e w1 ⟨rfl, hb1⟩; refine ⟨_, rfl, ?_⟩; simp only [put_lit, List.set_cons_zero, List.set_cons_succ]
  replace h3 := below_look hb1 h3; replace hb := hb.trans (hb1.mono hb.size); clear hb1
  refine wl_k rfl (fun K hK => ?_); go_simp; refine hK _ ?_; clear hK K
  refine wl_k rfl (fun K hK => ?_); go_simp; refine hK _ ?_; clear hK K
  refine wl_k rfl (fun K hK => ?_); go_simp; refine hK _ ?_; clear hK K
  (have lth3p2 := heap_lt h3; have lsp2 := hb.size; (with_reducible apply wl_new75); intro w2 p2 hbn hlp2 hp2; replace h3 := below_look hbn h3; replace hb := hb.trans (hbn.mono hb.size); clear hbn)
  (have lth3p3 := heap_lt h3; have lthp2p3 := heap_lt hp2; have lsp3 := hb.size; (with_reducible apply wl_new75); intro w3 p3 hbn hlp3 hp3; replace h3 := below_look hbn h3; replace hp2 := below_look hbn hp2; replace hb := hb.trans (hbn.mono hb.size); clear hbn)
  ((with_reducible apply wl_put75); exact rfl; exact rfl; exact hp2; intro w4 hbx hk hq; replace hp3 := hk _ _ (by omega) hp3; replace h3 := hk _ _ (by omega) h3; replace hb := hbx _ _ (by omega) hb; clear hp2; have hp2 := hq; clear hbx hk hq)
  ((with_reducible apply wl_put75); exact rfl; exact rfl; exact hp3; intro w5 hbx hk hq; replace hp2 := hk _ _ (by omega) hp2; replace h3 := hk _ _ (by omega) h3; replace hb := hbx _ _ (by omega) hb; clear hp3; have hp3 := hq; clear hbx hk hq)
  go_upto_region 13 with (fail)
  apply wp_region_lit
  ((with_reducible apply wl_rowG); exact rfl; exact rfl; (first | exact rowL (by with_reducible assumption) | exact rowD (by with_reducible assumption) | exact rowR (by with_reducible assumption)))
  ((with_reducible apply wl_put75); exact rfl; exact rfl; exact h3; intro w12 hbx hk hq; replace hb := hbx _ _ (by omega) hb; clear h3; have h3 := hq; clear hbx hk hq)
  go_wp2_with fail
  exact bodyPost_ret (res_long rfl _ _ (w.heap.size + 1 + 1 + 1) rfl h3) rfl ⟨rfl, hb⟩
/-- The bounds of a shift. -/
structure ShBd (x y : Int) : Prop where
  y0 : 0 ≤ y
  y1 : y ≤ 64
  xb : x.natAbs + 1 < 10 ^ 64
  i : y.natAbs ≤ 9223372036854775807
  k : y ≤ 9223372036854775806
  p : 2 ^ y.toNat < 10 ^ 64
  m : x.natAbs * ((2 ^ y.toNat : Nat) : Int).natAbs < 10 ^ 64
  f0 : 0 < ((2 ^ y.toNat : Nat) : Int)
  f1 : ((2 ^ y.toNat : Nat) : Int).natAbs < 10 ^ 63
theorem shBd {x y : Int} (h0 : 0 ≤ y) (h1 : y ≤ 64) (hx : x.natAbs ≤ 18446744073709551616) : ShBd x y := by
  have hy : y.toNat ≤ 64 := by omega
  have h2 := two_le hy
  have h3 := two_pos y.toNat
  have h4 : ((2 ^ y.toNat : Nat) : Int).natAbs = 2 ^ y.toNat := Int.natAbs_natCast _
  have h8 : (10 : Nat) ^ 63 = 1000000000000000000000000000000000000000000000000000000000000000 := by decide
  refine ⟨h0, h1, small64 (by omega), by omega, by omega, pow2_lt hy, ?_, by omega, by rw [h4]; omega⟩
  rw [h4]
  have h5 := Nat.mul_le_mul hx h2
  have h6 : (18446744073709551616 * 18446744073709551616 : Nat) < 10 ^ 64 := by decide
  omega
set_option maxHeartbeats 400000 in
theorem exact_shl (op : ByteArray) (bits : Int) (s : Bool) (x y : Int) (hop : op.data.toList = [60, 60]) (HB : Hid (ShBd x y)) (w : World) :
    Calls Try.prog 60 #[.agg (wi bits s), .string op, .agg (lv x), .agg (lv y)] w fun e w' => e = .returned (.agg (lv (x * ((2 ^ y.toNat : Nat) : Int)))) ∧ Below w.heap.size w w' := by
  have l1 := lit_eq hop (l := [43]) rfl
  have l2 := lit_eq hop (l := [45]) rfl
  have l3 := lit_eq hop (l := [42]) rfl
  have l4 := lit_eq hop (l := [47]) rfl
  have l5 := lit_eq hop (l := [37]) rfl
  have l6 := lit_eq hop (l := [38]) rfl
  have l7 := lit_eq hop (l := [124]) rfl
  have l8 := lit_eq hop (l := [94]) rfl
  have l9 := lit_eq hop (l := [60, 60]) rfl
  clear hop
  go_enter Try.func60, Try.ntmps60
  go_upto_region 1 with (fail)
  refine wp_world (fun W => W.heap[w.heap.size]? = some (.cells (wi bits s) 68 (0, 0)) ∧ W.heap[w.heap.size + 1]? = some (.cells (lv x) 75 (0, 0)) ∧ W.heap[w.heap.size + 1 + 1]? = some (.cells (lv y) 75 (0, 0)) ∧ W.heap[w.heap.size + 1 + 1 + 1]? = some (.cells (lv 0) 75 (0, 0)) ∧ Below w.heap.size w W) ⟨ha_old (ha_old (ha_old (ha_new rfl))), ha_old (ha_old (ha_new (by simp))), ha_old (ha_new (by simp)), by rw [← zero_long]; exact ha_new (by simp), ((((Below.refl _ _).alloc (Nat.le_refl _) _).alloc (by simp) _).alloc (by simp; omega) _).alloc (by simp; omega) _⟩ ?_
  rintro W ⟨h0, h1, h2, h3, hb⟩
  go_upto_region 21 with (fail)
  refine wp_region_below 5 mixed (by kernel_rfl) ?_; simp only [List.take_succ_cons, List.take_zero, List.drop_succ_cons, List.drop_zero]
  ((with_reducible apply wq_row); exact rfl; exact rfl; (intro w' hw'; first | exact rowL (below_look hw' (by with_reducible assumption)) | exact rowD (below_look hw' (by with_reducible assumption)) | exact rowR (below_look hw' (by with_reducible assumption))))
  ((with_reducible apply wq_row); exact rfl; exact rfl; (intro w' hw'; first | exact rowL (below_look hw' (by with_reducible assumption)) | exact rowD (below_look hw' (by with_reducible assumption)) | exact rowR (below_look hw' (by with_reducible assumption))))
  refine wq_ck rfl (fun K hK => ?_); go_simp; refine ⟨_, _, ⟨rfl, rfl⟩, hK _ _ ⟨_, fun w' hw' => calls_class hw' (toInt_any _ HB.out.i w'), ?_⟩⟩; clear hK K; simp only [put_lit, List.set_cons_zero, List.set_cons_succ]
  refine wq_ck rfl (fun K hK => ?_); go_simp; refine ⟨_, _, ⟨rfl, rfl⟩, hK _ _ ⟨_, fun w' hw' => calls_class hw' (pow2_any _ HB.out.p HB.out.y0 HB.out.k w'), ?_⟩⟩; clear hK K; simp only [put_lit, List.set_cons_zero, List.set_cons_succ]
  refine wq_ck rfl (fun K hK => ?_); go_simp; refine ⟨_, _, ⟨rfl, rfl⟩, hK _ _ ⟨_, fun w' hw' => calls_class hw' (mul_any _ _ HB.out.m w'), ?_⟩⟩; clear hK K; simp only [put_lit, List.set_cons_zero, List.set_cons_succ]
  intro w1 hb1
  replace h3 := below_look hb1 h3; replace hb := hb.trans (hb1.mono hb.size); clear hb1
  ((with_reducible apply wl_put75); exact rfl; exact rfl; exact h3; intro w12 hbx hk hq; replace hb := hbx _ _ (by omega) hb; clear h3; have h3 := hq; clear hbx hk hq)
  go_wp2_with fail
  exact bodyPost_ret (res_long rfl _ _ (w.heap.size + 1 + 1 + 1) rfl h3) rfl ⟨rfl, hb⟩
set_option maxHeartbeats 400000 in
theorem exact_shr (op : ByteArray) (bits : Int) (s : Bool) (x y : Int) (hop : op.data.toList = [62, 62]) (HB : Hid (ShBd x y)) (w : World) :
    Calls Try.prog 60 #[.agg (wi bits s), .string op, .agg (lv x), .agg (lv y)] w fun e w' => e = .returned (.agg (lv (x / ((2 ^ y.toNat : Nat) : Int)))) ∧ Below w.heap.size w w' := by
  have l1 := lit_eq hop (l := [43]) rfl
  have l2 := lit_eq hop (l := [45]) rfl
  have l3 := lit_eq hop (l := [42]) rfl
  have l4 := lit_eq hop (l := [47]) rfl
  have l5 := lit_eq hop (l := [37]) rfl
  have l6 := lit_eq hop (l := [38]) rfl
  have l7 := lit_eq hop (l := [124]) rfl
  have l8 := lit_eq hop (l := [94]) rfl
  have l9 := lit_eq hop (l := [60, 60]) rfl
  clear hop
  go_enter Try.func60, Try.ntmps60
  go_upto_region 1 with (fail)
  refine wp_world (fun W => W.heap[w.heap.size]? = some (.cells (wi bits s) 68 (0, 0)) ∧ W.heap[w.heap.size + 1]? = some (.cells (lv x) 75 (0, 0)) ∧ W.heap[w.heap.size + 1 + 1]? = some (.cells (lv y) 75 (0, 0)) ∧ W.heap[w.heap.size + 1 + 1 + 1]? = some (.cells (lv 0) 75 (0, 0)) ∧ Below w.heap.size w W) ⟨ha_old (ha_old (ha_old (ha_new rfl))), ha_old (ha_old (ha_new (by simp))), ha_old (ha_new (by simp)), by rw [← zero_long]; exact ha_new (by simp), ((((Below.refl _ _).alloc (Nat.le_refl _) _).alloc (by simp) _).alloc (by simp; omega) _).alloc (by simp; omega) _⟩ ?_
  rintro W ⟨h0, h1, h2, h3, hb⟩
  go_upto_region 22 with (fail)
  refine wp_region_below 5 mixed (by kernel_rfl) ?_; simp only [List.take_succ_cons, List.take_zero, List.drop_succ_cons, List.drop_zero]
  ((with_reducible apply wq_row); exact rfl; exact rfl; (intro w' hw'; first | exact rowL (below_look hw' (by with_reducible assumption)) | exact rowD (below_look hw' (by with_reducible assumption)) | exact rowR (below_look hw' (by with_reducible assumption))))
  ((with_reducible apply wq_row); exact rfl; exact rfl; (intro w' hw'; first | exact rowL (below_look hw' (by with_reducible assumption)) | exact rowD (below_look hw' (by with_reducible assumption)) | exact rowR (below_look hw' (by with_reducible assumption))))
  refine wq_ck rfl (fun K hK => ?_); go_simp; refine ⟨_, _, ⟨rfl, rfl⟩, hK _ _ ⟨_, fun w' hw' => calls_class hw' (toInt_any _ HB.out.i w'), ?_⟩⟩; clear hK K; simp only [put_lit, List.set_cons_zero, List.set_cons_succ]
  refine wq_ck rfl (fun K hK => ?_); go_simp; refine ⟨_, _, ⟨rfl, rfl⟩, hK _ _ ⟨_, fun w' hw' => calls_class hw' (pow2_any _ HB.out.p HB.out.y0 HB.out.k w'), ?_⟩⟩; clear hK K; simp only [put_lit, List.set_cons_zero, List.set_cons_succ]
  refine wq_ck rfl (fun K hK => ?_); go_simp; refine ⟨_, _, ⟨rfl, rfl⟩, hK _ _ ⟨_, fun w' hw' => calls_class hw' (floor_any _ _ HB.out.xb HB.out.f0 HB.out.f1 w'), ?_⟩⟩; clear hK K; simp only [put_lit, List.set_cons_zero, List.set_cons_succ]
  intro w1 hb1
  replace h3 := below_look hb1 h3; replace hb := hb.trans (hb1.mono hb.size); clear hb1
  ((with_reducible apply wl_put75); exact rfl; exact rfl; exact h3; intro w12 hbx hk hq; replace hb := hbx _ _ (by omega) hb; clear h3; have h3 := hq; clear hbx hk hq)
  go_wp2_with fail
  exact bodyPost_ret (res_long rfl _ _ (w.heap.size + 1 + 1 + 1) rfl h3) rfl ⟨rfl, hb⟩
end Go.Proofs.Ytclainfdeghgnaa
