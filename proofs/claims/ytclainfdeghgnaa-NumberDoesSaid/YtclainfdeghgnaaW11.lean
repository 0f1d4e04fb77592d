/- A width's ends; whether a number is a value of it; back to an int. -/
import Derived.Test.YtclainfdeghgnaaW10
import Derived.Test.YtclainfdeghgnaaM3
import Derived.Outline
namespace Go.Proofs.Ytclainfdeghgnaa
open Go.RowKit Nm

theorem pow2_any (n : Int) (hbn : 2 ^ n.toNat < 10 ^ 64) (hn0 : 0 ≤ n) (hn : n ≤ 9223372036854775806) (w : World) :
    Calls Try.prog 74 #[.int .i64 2, .int .i64 n] w fun e w' => e = .returned (.agg (lv ((2 ^ n.toNat : Nat) : Int))) ∧ Below w.heap.size w w' := by
  obtain ⟨n, rfl⟩ := Int.eq_ofNat_of_zero_le hn0
  rw [Int.toNat_natCast] at *
  exact power_any 2 n (by omega) hbn (by omega) (by omega) w
theorem pow10_any (n : Int) (hbn : 10 ^ n.toNat < 10 ^ 64) (hn0 : 0 ≤ n) (hn : n ≤ 9223372036854775806) (w : World) :
    Calls Try.prog 74 #[.int .i64 10, .int .i64 n] w fun e w' => e = .returned (.agg (lv ((10 ^ n.toNat : Nat) : Int))) ∧ Below w.heap.size w w' := by
  obtain ⟨n, rfl⟩ := Int.eq_ofNat_of_zero_le hn0
  rw [Int.toNat_natCast] at *
  exact power_any 10 n (by omega) hbn (by omega) (by omega) w

/-- A width by value. -/
def wv (bits : Nat) (s : Bool) : Array Value := #[.int .i64 bits, .bool s]
theorem info68 : (Try.prog.info? 68).map (·.size) = some 2 := by kernel_rfl
theorem u68 : Try.prog.underlying 68 = some (.struct (Try.prog.fieldsOf 68)) := by kernel_rfl
theorem rowW {w : World} {b : Nat} {n : Nat} {s : Bool} {t : TypeId} {fr : Nat × Nat} (hb : w.heap[b]? = some (.cells (wv n s) t fr)) : RowAt w 68 ⟨b, 0, none⟩ (wv n s) := row_mid hb (D := wv n s) (n := 2) rfl u68 rfl rfl info68
theorem wv0 {w : World} {b : Nat} {n : Nat} {s : Bool} {t : TypeId} {fr : Nat × Nat} (hb : w.heap[b]? = some (.cells (wv n s) t fr)) : w.cell? ⟨b, 0, none⟩ = some (.int .i64 n) := by rw [cell_of_row _ _ _ _ _ _ hb]; rfl
theorem wv1 {w : World} {b : Nat} {n : Nat} {s : Bool} {t : TypeId} {fr : Nat × Nat} (hb : w.heap[b]? = some (.cells (wv n s) t fr)) : w.cell? ⟨b, 1, none⟩ = some (.bool s) := by rw [cell_of_row _ _ _ _ _ _ hb]; rfl

theorem pow2_lt {n : Nat} (h : n ≤ 64) : 2 ^ n < 10 ^ 64 := by
  have := two_le h
  have h2 : (18446744073709551616 : Nat) < 10 ^ 64 := by decide
  omega
theorem small64 {n : Nat} (h : n ≤ 100000000000000000000) : n < 10 ^ 64 := by
  have h2 : (100000000000000000000 : Nat) < 10 ^ 64 := by decide
  omega

theorem pow2_m1 {n : Nat} (h : n ≤ 64) : ((2 ^ n : Nat) : Int).natAbs + (-1 : Int).natAbs < 10 ^ 64 := by
  have h1 := two_le h
  have h2 : (-1 : Int).natAbs = 1 := rfl
  rw [Int.natAbs_natCast, h2]
  exact small64 (by omega)

set_option maxHeartbeats 400000 in
theorem ends_any (bits : Nat) (s : Bool) (h1 : 1 ≤ bits) (h2 : bits ≤ 64) (w : World) :
    Calls Try.prog 99 #[.agg (wv bits s)] w fun e w' => e = .returned (.tuple #[.agg (lv (loW bits s)), .agg (lv (hiW bits s))]) ∧ Below w.heap.size w w' := by
  cases s
  · have HP := Lib.hid (pow2_lt h2)
    have HS := Lib.hid (pow2_m1 h2)
    go_enter Try.func99, Try.ntmps99
    go_upto_region 1 with (fail)
    refine wp_world (fun W => W.heap[w.heap.size]? = some (.cells (wv bits false) 68 (0, 0)) ∧ W.heap[w.heap.size + 1]? = some (.cells (lv 0) 75 (0, 0)) ∧ W.heap[w.heap.size + 1 + 1]? = some (.cells (lv 0) 75 (0, 0)) ∧ Below w.heap.size w W)
      ⟨ha_old (ha_old (ha_new rfl)), by rw [← zero_long]; exact ha_old (ha_new (by simp)), by rw [← zero_long]; exact ha_new (by simp), (((Below.refl _ _).alloc (Nat.le_refl _) _).alloc (by simp) _).alloc (by simp; omega) _⟩ ?_
    rintro W ⟨h0, h3, h4, hb⟩
    have c0 := wv0 h0
    have c1 := wv1 h0
    go_upto_region 4 with (fail)
    refine wp_region_below 6 mixed (by kernel_rfl) ?_; simp only [List.take_succ_cons, List.take_zero, List.drop_succ_cons, List.drop_zero]
    refine wq_ck rfl (fun K hK => ?_); go_simp; refine ⟨_, _, ⟨rfl, rfl⟩, hK _ _ ⟨_, fun w' hw' => calls_class hw' (small_any 0 (by omega) (by omega) w'), ?_⟩⟩; clear hK K; simp only [put_lit, List.set_cons_zero, List.set_cons_succ]
    refine wq_k rfl (fun K hK => ?_); go_simp; refine hK _ ?_; clear hK K
    ((with_reducible apply wq_one); exact rfl; exact rfl; (intro w' hw'; exact one_of u3 rfl (below_cell hw' (by with_reducible assumption))))
    refine wq_ck rfl (fun K hK => ?_); go_simp; refine ⟨_, _, ⟨rfl, rfl⟩, hK _ _ ⟨_, fun w' hw' => calls_class hw' (pow2_any bits HP.out (by omega) (by omega) w'), ?_⟩⟩; clear hK K; simp only [put_lit, List.set_cons_zero, List.set_cons_succ]
    refine wq_ck rfl (fun K hK => ?_); go_simp; refine ⟨_, _, ⟨rfl, rfl⟩, hK _ _ ⟨_, fun w' hw' => calls_class hw' (small_any (-1) (by omega) (by omega) w'), ?_⟩⟩; clear hK K; simp only [put_lit, List.set_cons_zero, List.set_cons_succ]
    refine wq_ck rfl (fun K hK => ?_); go_simp; refine ⟨_, _, ⟨rfl, rfl⟩, hK _ _ ⟨_, fun w' hw' => calls_class hw' (add_any _ _ HS.out w'), ?_⟩⟩; clear hK K; simp only [put_lit, List.set_cons_zero, List.set_cons_succ]
    intro w6 hb1
    have l4 := heap_lt h4
    replace h3 := below_look hb1 h3; replace h4 := below_look hb1 h4; replace hb := hb.trans (hb1.mono hb.size); clear hb1
    ((with_reducible apply wl_put75); exact rfl; exact rfl; exact h3; intro w7 hbx hk hq; replace h4 := hk _ _ (by omega) h4; replace hb := hbx _ _ (by omega) hb; clear h3; have h3 := hq; clear hbx hk hq)
    ((with_reducible apply wl_put75); exact rfl; exact rfl; exact h4; intro w8 hbx hk hq; replace h3 := hk _ _ (by omega) h3; replace hb := hbx _ _ (by omega) hb; clear h4; have h4 := hq; clear hbx hk hq)
    go_wp2_with fail
    refine bodyPost_ret (res_long2 rfl _ _ (w.heap.size + 1) (w.heap.size + 1 + 1) rfl rfl h3 h4) rfl ⟨?_, hb⟩
    simp [loW, hiW, Int.sub_eq_add_neg]
  · have HP := Lib.hid (pow2_lt (show bits - 1 ≤ 64 by omega))
    have HS := Lib.hid (pow2_m1 (show bits - 1 ≤ 64 by omega))
    have HN := Lib.hid (show ((2 ^ (bits - 1) : Nat) : Int).natAbs < 10 ^ 64 from by rw [Int.natAbs_natCast]; exact HP.out)
    go_enter Try.func99, Try.ntmps99
    go_upto_region 1 with (fail)
    refine wp_world (fun W => W.heap[w.heap.size]? = some (.cells (wv bits true) 68 (0, 0)) ∧ W.heap[w.heap.size + 1]? = some (.cells (lv 0) 75 (0, 0)) ∧ W.heap[w.heap.size + 1 + 1]? = some (.cells (lv 0) 75 (0, 0)) ∧ Below w.heap.size w W)
      ⟨ha_old (ha_old (ha_new rfl)), by rw [← zero_long]; exact ha_old (ha_new (by simp)), by rw [← zero_long]; exact ha_new (by simp), (((Below.refl _ _).alloc (Nat.le_refl _) _).alloc (by simp) _).alloc (by simp; omega) _⟩ ?_
    rintro W ⟨h0, h3, h4, hb⟩
    have c0 := wv0 h0
    have c1 := wv1 h0
    have et : ((bits : Int) - 1).toNat = bits - 1 := by omega
    have ew : IntKind.i64.wrap ((bits : Int) - 1) = (bits : Int) - 1 := IntWalk.i64_in _ (by omega)
    go_upto_region 2 with (fail)
    apply wp_region_lit
    refine wl_k rfl (fun K hK => ?_); go_simp; refine hK _ ?_; clear hK K
    refine wl_k rfl (fun K hK => ?_); go_simp; refine hK _ ?_; clear hK K
    refine wl_k rfl (fun K hK => ?_); go_simp; refine hK _ ?_; clear hK K
    refine wl_ck rfl (fun K hK => ?_); go_simp; refine ⟨_, _, ⟨rfl, rfl⟩, hK _ _ ⟨_, pow2_any ((bits : Int) - 1) (by rw [et]; exact HP.out) (by omega) (by omega) _, ?_⟩⟩; clear hK K; rintro e w1 ⟨rfl, hb1⟩; refine ⟨_, rfl, ?_⟩; simp only [put_lit, List.set_cons_zero, List.set_cons_succ]
    rw [et]
    replace h0 := below_look hb1 h0; replace h3 := below_look hb1 h3; replace h4 := below_look hb1 h4; replace hb := hb.trans (hb1.mono hb.size); clear hb1
    have l4 := heap_lt h4
    ((with_reducible apply wl_new75); intro w2 p2 hbn hlp2 hp2; replace h0 := below_look hbn h0; replace h3 := below_look hbn h3; replace h4 := below_look hbn h4; replace hb := hb.trans (hbn.mono hb.size); clear hbn)
    ((with_reducible apply wl_put75); exact rfl; exact rfl; exact hp2; intro w3 hbx hk hq; replace h0 := hk _ _ (by omega) h0; replace h3 := hk _ _ (by omega) h3; replace h4 := hk _ _ (by omega) h4; replace hb := hbx _ _ (by omega) hb; clear hp2; have hp2 := hq; clear hbx hk hq)
    go_upto_region 3 with (fail)
    refine wp_region_below 5 mixed (by kernel_rfl) ?_; simp only [List.take_succ_cons, List.take_zero, List.drop_succ_cons, List.drop_zero]
    ((with_reducible apply wq_row); exact rfl; exact rfl; (intro w' hw'; first | exact rowL (below_look hw' (by with_reducible assumption)) | exact rowD (below_look hw' (by with_reducible assumption)) | exact rowR (below_look hw' (by with_reducible assumption))))
    refine wq_ck rfl (fun K hK => ?_); go_simp; refine ⟨_, _, ⟨rfl, rfl⟩, hK _ _ ⟨_, fun w' hw' => calls_class hw' (minus_any _ HN.out w'), ?_⟩⟩; clear hK K; simp only [put_lit, List.set_cons_zero, List.set_cons_succ]
    ((with_reducible apply wq_row); exact rfl; exact rfl; (intro w' hw'; first | exact rowL (below_look hw' (by with_reducible assumption)) | exact rowD (below_look hw' (by with_reducible assumption)) | exact rowR (below_look hw' (by with_reducible assumption))))
    refine wq_ck rfl (fun K hK => ?_); go_simp; refine ⟨_, _, ⟨rfl, rfl⟩, hK _ _ ⟨_, fun w' hw' => calls_class hw' (small_any (-1) (by omega) (by omega) w'), ?_⟩⟩; clear hK K; simp only [put_lit, List.set_cons_zero, List.set_cons_succ]
    refine wq_ck rfl (fun K hK => ?_); go_simp; refine ⟨_, _, ⟨rfl, rfl⟩, hK _ _ ⟨_, fun w' hw' => calls_class hw' (add_any _ _ HS.out w'), ?_⟩⟩; clear hK K; simp only [put_lit, List.set_cons_zero, List.set_cons_succ]
    intro w6 hb1
    have l4 := heap_lt h4
    replace h3 := below_look hb1 h3; replace h4 := below_look hb1 h4; replace hb := hb.trans (hb1.mono hb.size); clear hb1
    ((with_reducible apply wl_put75); exact rfl; exact rfl; exact h3; intro w7 hbx hk hq; replace h4 := hk _ _ (by omega) h4; replace hb := hbx _ _ (by omega) hb; clear h3; have h3 := hq; clear hbx hk hq)
    ((with_reducible apply wl_put75); exact rfl; exact rfl; exact h4; intro w8 hbx hk hq; replace h3 := hk _ _ (by omega) h3; replace hb := hbx _ _ (by omega) hb; clear h4; have h4 := hq; clear hbx hk hq)
    go_wp2_with fail
    refine bodyPost_ret (res_long2 rfl _ _ (w.heap.size + 1) (w.heap.size + 1 + 1) rfl rfl h3 h4) rfl ⟨?_, hb⟩
    simp [loW, hiW, Int.sub_eq_add_neg]
end Go.Proofs.Ytclainfdeghgnaa
