/- Long numbers divided and rounded down; powers; back to an int. What integers of a width are: their ends, and how a number is brought into it. A width's ends; whether a number is a value of it; back to an int. Whether a number is a value of a width; the value that differs from it by a multiple of the width's power. A number brought into a width by a mode. A builder's writing of one byte, over this program. -/
import Derived.Outline
import Derived.Lib.Builder
import Derived.Test.YtclainfdeghgnaaGreatDoorPZ2
import Derived.Test.YtclainfdeghgnaaGreatDoorPZ1
import Derived.Test.YtclainfdeghgnaaGreatDoorShelf
namespace Go.Proofs.YtclainfdeghgnaaGreatDoor
open Go.RowKit Go.Proofs.YtclainfdeghgnaaGreatDoor.Nm

theorem floor_eq {a b : Int} (hb : 0 < b) : a / b = if a.tmod b < 0 then a.tdiv b + -1 else a.tdiv b := by
  have h1 := Int.mul_tdiv_add_tmod a b
  have h2 := Int.tmod_lt_of_pos a hb
  have h3 := Int.lt_tmod_of_pos a hb
  generalize a.tdiv b = q at *
  generalize a.tmod b = r at *
  split
  · rw [← h1, show b * q + r = (r + b) + b * (q + -1) by rw [Int.mul_add]; omega, Int.add_mul_ediv_left _ _ (by omega), Int.ediv_eq_zero_of_lt (by omega) (by omega)]; omega
  · rw [← h1, Int.add_comm, Int.add_mul_ediv_left _ _ (by omega), Int.ediv_eq_zero_of_lt (by omega) (by omega)]; omega

set_option maxHeartbeats 400000 in
theorem floor_any (a b : Int) (ha : a.natAbs + 1 < 10 ^ 64) (hb0 : 0 < b) (hb1 : b.natAbs < 10 ^ 63) (w : World) :
    Calls Tryz.prog 58 #[.agg (lv a), .agg (lv b)] w fun e w' => e = .returned (.agg (lv (a / b))) ∧ Below w.heap.size w w' := by
  have HA := Lib.hid (show a.natAbs < 10 ^ 64 by omega)
  have HB0 := Lib.hid (show 0 < b.natAbs by omega)
  have HB1 := Lib.hid hb1
  have HF := Lib.hid (floor_eq (a := a) hb0)
  have HQ := Lib.hid (show (a.tdiv b).natAbs + (-1 : Int).natAbs < 10 ^ 64 by
    have h1 : (a.tdiv b).natAbs ≤ a.natAbs := by rw [Int.natAbs_tdiv]; exact Nat.div_le_self _ _
    have h2 : (-1 : Int).natAbs = 1 := rfl
    rw [h2]; omega)
  clear ha hb0 hb1
  go_enter Tryz.func58, Tryz.ntmps58
  go_upto_region 1 with (fail)
  refine wp_world (fun W => W.heap[w.heap.size]? = some (.cells (lv a) 57 (0, 0)) ∧ W.heap[w.heap.size + 1]? = some (.cells (lv b) 57 (0, 0)) ∧ W.heap[w.heap.size + 1 + 1]? = some (.cells (lv 0) 57 (0, 0)) ∧ Below w.heap.size w W)
    ⟨ha_old (ha_old (ha_new rfl)), ha_old (ha_new (by simp)), by rw [← zero_long]; exact ha_new (by simp), (((Below.refl _ _).alloc (Nat.le_refl _) _).alloc (by simp) _).alloc (by simp; omega) _⟩ ?_
  rintro W ⟨h0, h1, h2, hb⟩
  apply wp_region_lit
  ((with_reducible apply wl_rowG); exact rfl; exact rfl; (first | exact rowL (by with_reducible assumption) | exact rowD (by with_reducible assumption) | exact rowR (by with_reducible assumption)))
  ((with_reducible apply wl_rowG); exact rfl; exact rfl; (first | exact rowL (by with_reducible assumption) | exact rowD (by with_reducible assumption) | exact rowR (by with_reducible assumption)))
  refine wl_ck rfl (fun K hK => ?_); go_simp; refine ⟨_, _, ⟨rfl, rfl⟩, hK _ _ ⟨_, div_any _ _ HA.out HB0.out HB1.out _, ?_⟩⟩; clear hK K; rintro e w1 ⟨rfl, hb1⟩; refine ⟨_, rfl, ?_⟩; simp only [put_lit, List.set_cons_zero, List.set_cons_succ]
  replace h0 := below_look hb1 h0; replace h1 := below_look hb1 h1; replace h2 := below_look hb1 h2; replace hb := hb.trans (hb1.mono hb.size); clear hb1
  refine wl_k rfl (fun K hK => ?_); go_simp; refine hK _ ?_; clear hK K
  refine wl_k rfl (fun K hK => ?_); go_simp; refine hK _ ?_; clear hK K
  refine wl_k rfl (fun K hK => ?_); go_simp; refine hK _ ?_; clear hK K
  have l2 := heap_lt h2
  ((with_reducible apply wl_new75); intro w2 p2 hbn hlp2 hp2; replace h2 := below_look hbn h2; replace hb := hb.trans (hbn.mono hb.size); clear hbn)
  have lp2 := heap_lt hp2
  ((with_reducible apply wl_new75); intro w3 p3 hbn hlp3 hp3; replace h2 := below_look hbn h2; replace hp2 := below_look hbn hp2; replace hb := hb.trans (hbn.mono hb.size); clear hbn)
  ((with_reducible apply wl_put75); exact rfl; exact rfl; exact hp2; intro w4 hbx hk hq; replace h2 := hk _ _ (by omega) h2; replace hp3 := hk _ _ (by omega) hp3; replace hb := hbx _ _ (by omega) hb; clear hp2; have hp2 := hq; clear hbx hk hq)
  ((with_reducible apply wl_put75); exact rfl; exact rfl; exact hp3; intro w5 hbx hk hq; replace h2 := hk _ _ (by omega) h2; replace hp2 := hk _ _ (by omega) hp2; replace hb := hbx _ _ (by omega) hb; clear hp3; have hp3 := hq; clear hbx hk hq)
  by_cases hr : ng (a.tmod b) = true
  · have c3 : w5.cell? ⟨p3, 0, none⟩ = some (.bool true) := by rw [cell_of_row _ _ _ _ _ _ hp3, lv_neg, hr]
    go_upto_region 3 with (fail)
    refine wp_region_below 3 mixed (by kernel_rfl) ?_; simp only [List.take_succ_cons, List.take_zero, List.drop_succ_cons, List.drop_zero]
    ((with_reducible apply wq_row); exact rfl; exact rfl; (intro w' hw'; first | exact rowL (below_look hw' (by with_reducible assumption)) | exact rowD (below_look hw' (by with_reducible assumption)) | exact rowR (below_look hw' (by with_reducible assumption))))
    refine wq_ck rfl (fun K hK => ?_); go_simp; refine ⟨_, _, ⟨rfl, rfl⟩, hK _ _ ⟨_, fun w' hw' => calls_class hw' (small_any (-1) (by omega) (by omega) w'), ?_⟩⟩; clear hK K; simp only [put_lit, List.set_cons_zero, List.set_cons_succ]
    refine wq_ck rfl (fun K hK => ?_); go_simp; refine ⟨_, _, ⟨rfl, rfl⟩, hK _ _ ⟨_, fun w' hw' => calls_class hw' (add_any _ _ HQ.out w'), ?_⟩⟩; clear hK K; simp only [put_lit, List.set_cons_zero, List.set_cons_succ]
    intro w6 hb1
    replace h2 := below_look hb1 h2; replace hb := hb.trans (hb1.mono hb.size); clear hb1
    ((with_reducible apply wl_put75); exact rfl; exact rfl; exact h2; intro w7 hbx hk hq; replace hb := hbx _ _ (by omega) hb; clear h2; have h2 := hq; clear hbx hk hq)
    go_wp2_with fail
    refine bodyPost_ret (res_long rfl _ _ (w.heap.size + 1 + 1) rfl h2) rfl ⟨?_, hb⟩
    rw [HF.out, if_pos (by rw [ng_def] at hr; simpa using hr)]
  · have c3 : w5.cell? ⟨p3, 0, none⟩ = some (.bool false) := by rw [cell_of_row _ _ _ _ _ _ hp3, lv_neg, Bool.eq_false_iff.2 hr]
    go_upto_region 4 with (fail)
    apply wp_region_lit
    ((with_reducible apply wl_rowG); exact rfl; exact rfl; (first | exact rowL (by with_reducible assumption) | exact rowD (by with_reducible assumption) | exact rowR (by with_reducible assumption)))
    ((with_reducible apply wl_put75); exact rfl; exact rfl; exact h2; intro w7 hbx hk hq; replace hb := hbx _ _ (by omega) hb; clear h2; have h2 := hq; clear hbx hk hq)
    go_wp2_with fail
    refine bodyPost_ret (res_long rfl _ _ (w.heap.size + 1 + 1) rfl h2) rfl ⟨?_, hb⟩
    rw [HF.out, if_neg (by rw [ng_def] at hr; simpa using hr)]

set_option maxHeartbeats 400000 in
theorem power_any (b n : Nat) (hb1 : 1 ≤ b) (hbn : b ^ n < 10 ^ 64) (hbm : b ≤ 9223372036854775807) (hn : n ≤ 9223372036854775806) (w : World) :
    Calls Tryz.prog 29 #[.int .i64 b, .int .i64 n] w fun e w' => e = .returned (.agg (lv ((b ^ n : Nat) : Int))) ∧ Below w.heap.size w w' := by
  have HBN := Lib.hid hbn
  clear hbn
  go_enter Tryz.func29, Tryz.ntmps29
  go_upto_region 1 with (fail)
  refine wp_world (fun W => W.heap[w.heap.size]? = some (.cells (lv 0) 57 (0, 0)) ∧ Below w.heap.size w W)
    ⟨by rw [← zero_long]; exact ha_new rfl, (Below.refl _ _).alloc (Nat.le_refl _) _⟩ ?_
  rintro W ⟨h0, hb⟩
  apply wp_region_lit
  refine wl_ck rfl (fun K hK => ?_); go_simp; refine ⟨_, _, ⟨rfl, rfl⟩, hK _ _ ⟨_, small_any 1 (by omega) (by omega) _, ?_⟩⟩; clear hK K; rintro e w1 ⟨rfl, hb1⟩; refine ⟨_, rfl, ?_⟩; simp only [put_lit, List.set_cons_zero, List.set_cons_succ]
  replace h0 := below_look hb1 h0; replace hb := hb.trans (hb1.mono hb.size); clear hb1
  refine wl_k rfl (fun K hK => ?_); go_simp; refine hK _ ?_; clear hK K
  refine wl_ck rfl (fun K hK => ?_); go_simp; refine ⟨_, _, ⟨rfl, rfl⟩, hK _ _ ⟨_, small_any b (by omega) (by omega) _, ?_⟩⟩; clear hK K; rintro e w2 ⟨rfl, hb1⟩; refine ⟨_, rfl, ?_⟩; simp only [put_lit, List.set_cons_zero, List.set_cons_succ]
  replace h0 := below_look hb1 h0; replace hb := hb.trans (hb1.mono hb.size); clear hb1
  have l2 := heap_lt h0
  ((with_reducible apply wl_new75); intro w3 p2 hbn hlp2 hp2; replace h0 := below_look hbn h0; replace hb := hb.trans (hbn.mono hb.size); clear hbn)
  have lp2 := heap_lt hp2
  ((with_reducible apply wl_new75); intro w4 p3 hbn hlp3 hp3; replace h0 := below_look hbn h0; replace hp2 := below_look hbn hp2; replace hb := hb.trans (hbn.mono hb.size); clear hbn)
  ((with_reducible apply wl_put75); exact rfl; exact rfl; exact hp2; intro w5 hbx hk hq; replace h0 := hk _ _ (by omega) h0; replace hp3 := hk _ _ (by omega) hp3; replace hb := hbx _ _ (by omega) hb; clear hp2; have hp2 := hq; clear hbx hk hq)
  ((with_reducible apply wl_put75); exact rfl; exact rfl; exact hp3; intro w6 hbx hk hq; replace h0 := hk _ _ (by omega) h0; replace hp2 := hk _ _ (by omega) hp2; replace hb := hbx _ _ (by omega) hb; clear hp3; have hp3 := hq; clear hbx hk hq)
  go_wp2_with fail
  go_loopw [11] (fun i wr => ∃ k : Nat, k ≤ n ∧ i = .int .i64 k ∧ wr.heap[w.heap.size]? = some (.cells (lv 0) 57 (0, 0)) ∧ wr.heap[p2]? = some (.cells (lv ((b ^ k : Nat) : Int)) 57 (0, 0)) ∧ wr.heap[p3]? = some (.cells (lv b) 57 (0, 0)) ∧ Below w.heap.size w wr) (fun i _ => n - (intOf i).toNat)
  case atStart => exact ⟨0, by omega, rfl, h0, hp2, hp3, hb⟩
  case round =>
    clear h0 hp2 hp3 hb
    obtain ⟨k, hk, rfl, h0, hp2, hp3, hb⟩ := hrel
    by_cases hlt : k < n
    · have HK := Lib.hid (show ((b ^ k : Nat) : Int).natAbs * ((b : Int)).natAbs < 10 ^ 64 by
        rw [Int.natAbs_natCast, Int.natAbs_natCast, ← Nat.pow_succ]
        exact Nat.lt_of_le_of_lt (Nat.pow_le_pow_right hb1 hlt) HBN.out)
      go_upto_region 4 with (fail)
      apply wp_region_lit
      ((with_reducible apply wl_rowG); exact rfl; exact rfl; (first | exact rowL (by with_reducible assumption) | exact rowD (by with_reducible assumption) | exact rowR (by with_reducible assumption)))
      ((with_reducible apply wl_rowG); exact rfl; exact rfl; (first | exact rowL (by with_reducible assumption) | exact rowD (by with_reducible assumption) | exact rowR (by with_reducible assumption)))
      refine wl_ck rfl (fun K hK => ?_); go_simp; refine ⟨_, _, ⟨rfl, rfl⟩, hK _ _ ⟨_, mul_any _ _ HK.out _, ?_⟩⟩; clear hK K; rintro e w7 ⟨rfl, hb1⟩; refine ⟨_, rfl, ?_⟩; simp only [put_lit, List.set_cons_zero, List.set_cons_succ]
      replace h0 := below_look hb1 h0; replace hp2 := below_look hb1 hp2; replace hp3 := below_look hb1 hp3; replace hb := hb.trans (hb1.mono hb.size); clear hb1
      ((with_reducible apply wl_put75); exact rfl; exact rfl; exact hp2; intro w8 hbx hk hq; replace h0 := hk _ _ (by omega) h0; replace hp3 := hk _ _ (by omega) hp3; replace hb := hbx _ _ (by omega) hb; clear hp2; have hp2 := hq; clear hbx hk hq)
      go_wp2_with fail
      go_roundw
      case rel => exact ⟨k + 1, hlt, by go_num, h0, by rw [Nat.pow_succ, Int.natCast_mul]; exact hp2, hp3, hb⟩
      case measure => simp [intOf]; omega
    · obtain rfl : k = n := by omega
      go_upto_region 6 with (fail)
      apply wp_region_lit
      ((with_reducible apply wl_rowG); exact rfl; exact rfl; (first | exact rowL (by with_reducible assumption) | exact rowD (by with_reducible assumption) | exact rowR (by with_reducible assumption)))
      ((with_reducible apply wl_put75); exact rfl; exact rfl; exact h0; intro w7 hbx hk hq; replace hb := hbx _ _ (by omega) hb; clear h0; have h0 := hq; clear hbx hk hq)
      go_wp2_with fail
      exact bodyPost_ret (res_long rfl _ _ w.heap.size rfl h0) rfl ⟨rfl, hb⟩
end Go.Proofs.YtclainfdeghgnaaGreatDoor
namespace Go.Proofs.YtclainfdeghgnaaGreatDoor.Nm

/-- The least and the greatest value of a width. -/
def loW (bits : Nat) (s : Bool) : Int := if s then -((2 ^ (bits - 1) : Nat) : Int) else 0
def hiW (bits : Nat) (s : Bool) : Int := if s then ((2 ^ (bits - 1) : Nat) : Int) - 1 else ((2 ^ bits : Nat) : Int) - 1
def hasW (bits : Nat) (s : Bool) (x : Int) : Bool := decide (loW bits s ≤ x ∧ x ≤ hiW bits s)
def wrapW (bits : Nat) (s : Bool) (x : Int) : Int := loW bits s + (x - loW bits s) % ((2 ^ bits : Nat) : Int)

theorem two_le {bits : Nat} (h : bits ≤ 64) : 2 ^ bits ≤ 18446744073709551616 := by
  have := Nat.pow_le_pow_right (n := 2) (by decide) h
  simpa using this
theorem two_pos (bits : Nat) : 0 < 2 ^ bits := Nat.pow_pos (by decide)
theorem two_half {bits : Nat} (h : 1 ≤ bits) : 2 ^ bits = 2 * 2 ^ (bits - 1) := by
  obtain ⟨n, rfl⟩ : ∃ n, bits = n + 1 := ⟨bits - 1, by omega⟩
  rw [Nat.pow_succ, Nat.add_sub_cancel, Nat.mul_comm]
theorem hi_lo {bits : Nat} (h : 1 ≤ bits) (s : Bool) : hiW bits s = loW bits s + ((2 ^ bits : Nat) : Int) - 1 := by
  have := two_half h
  unfold hiW loW
  cases s <;> simp only [Bool.false_eq_true, if_true, if_false] <;> omega
theorem lo_bd {bits : Nat} (h : bits ≤ 64) (s : Bool) : -9223372036854775808 ≤ loW bits s ∧ loW bits s ≤ 0 := by
  unfold loW
  have h1 : 2 ^ (bits - 1) ≤ 9223372036854775808 := by
    have := Nat.pow_le_pow_right (n := 2) (by decide) (show bits - 1 ≤ 63 by omega)
    simpa using this
  have h2 := two_pos (bits - 1)
  cases s <;> simp only [Bool.false_eq_true, if_true, if_false] <;> omega
theorem hi_bd {bits : Nat} (h0 : 1 ≤ bits) (h : bits ≤ 64) (s : Bool) : 0 ≤ hiW bits s ∧ hiW bits s ≤ 18446744073709551615 := by
  have := hi_lo h0 s
  have h1 := two_le h
  have h2 := lo_bd h s
  have h3 := two_pos (bits - 1)
  have h4 := two_half h0
  unfold hiW loW at *
  cases s <;> simp only [Bool.false_eq_true, if_true, if_false] at * <;> omega
/-- The floor's multiple is not far. -/
theorem floor_mul (y : Int) (m : Nat) (hm : 0 < m) : (y / (m : Int) * m).natAbs ≤ y.natAbs + m ∧ (y / (m : Int)).natAbs ≤ y.natAbs + m := by
  have h1 := Int.emod_nonneg y (b := (m : Int)) (by omega)
  have h2 := Int.emod_lt_of_pos y (b := (m : Int)) (by omega)
  have h3 := Int.emod_add_mul_ediv y m
  have h4 : y / (m : Int) * m = y - y % m := by rw [Int.mul_comm]; omega
  refine ⟨by rw [h4]; omega, ?_⟩
  have h5 : (y / (m : Int)).natAbs ≤ (y / (m : Int) * m).natAbs := by rw [Int.natAbs_mul, Int.natAbs_natCast]; exact Nat.le_mul_of_pos_right _ hm
  rw [h4] at h5
  omega
theorem wrap_eq (bits : Nat) (s : Bool) (x : Int) : x + -((x + -loW bits s) / ((2 ^ bits : Nat) : Int) * ((2 ^ bits : Nat) : Int)) = wrapW bits s x := by
  unfold wrapW
  have h3 := Int.emod_add_mul_ediv (x - loW bits s) ((2 ^ bits : Nat) : Int)
  rw [show x + -loW bits s = x - loW bits s from rfl, Int.mul_comm]
  omega

/-- How a number is brought into a width by a mode: the number, and the error. -/
def isWrap (m : List UInt8) : Bool := m == [119, 114, 97, 112]
def isTrap (m : List UInt8) : Bool := m == [116, 114, 97, 112]
def bringW (bits : Nat) (s : Bool) (m : List UInt8) (x : Int) : Int × Int :=
  if hasW bits s x then (x, 0) else if isWrap m then (wrapW bits s x, 0) else if isTrap m then (0, 1) else if x < loW bits s then (loW bits s, 0) else (hiW bits s, 0)
end Go.Proofs.YtclainfdeghgnaaGreatDoor.Nm
namespace Go.Proofs.YtclainfdeghgnaaGreatDoor
open Go.RowKit Go.Proofs.YtclainfdeghgnaaGreatDoor.Nm

theorem pow2_any (n : Int) (hbn : 2 ^ n.toNat < 10 ^ 64) (hn0 : 0 ≤ n) (hn : n ≤ 9223372036854775806) (w : World) :
    Calls Tryz.prog 29 #[.int .i64 2, .int .i64 n] w fun e w' => e = .returned (.agg (lv ((2 ^ n.toNat : Nat) : Int))) ∧ Below w.heap.size w w' := by
  obtain ⟨n, rfl⟩ := Int.eq_ofNat_of_zero_le hn0
  rw [Int.toNat_natCast] at *
  exact power_any 2 n (by omega) hbn (by omega) (by omega) w
theorem pow10_any (n : Int) (hbn : 10 ^ n.toNat < 10 ^ 64) (hn0 : 0 ≤ n) (hn : n ≤ 9223372036854775806) (w : World) :
    Calls Tryz.prog 29 #[.int .i64 10, .int .i64 n] w fun e w' => e = .returned (.agg (lv ((10 ^ n.toNat : Nat) : Int))) ∧ Below w.heap.size w w' := by
  obtain ⟨n, rfl⟩ := Int.eq_ofNat_of_zero_le hn0
  rw [Int.toNat_natCast] at *
  exact power_any 10 n (by omega) hbn (by omega) (by omega) w

/-- A width by value. -/
def wv (bits : Nat) (s : Bool) : Array Value := #[.int .i64 bits, .bool s]
theorem info68 : (Tryz.prog.info? 50).map (·.size) = some 2 := by kernel_rfl
theorem u68 : Tryz.prog.underlying 50 = some (.struct (Tryz.prog.fieldsOf 50)) := by kernel_rfl
theorem rowW {w : World} {b : Nat} {n : Nat} {s : Bool} {t : TypeId} {fr : Nat × Nat} (hb : w.heap[b]? = some (.cells (wv n s) t fr)) : RowAt w 50 ⟨b, 0, none⟩ (wv n s) := row_mid hb (D := wv n s) (n := 2) rfl u68 rfl rfl info68
theorem wv0 {w : World} {b : Nat} {n : Nat} {s : Bool} {t : TypeId} {fr : Nat × Nat} (hb : w.heap[b]? = some (.cells (wv n s) t fr)) : w.cell? ⟨b, 0, none⟩ = some (.int .i64 n) := by rw [cell_of_row _ _ _ _ _ _ hb]; rfl
theorem wv1 {w : World} {b : Nat} {n : Nat} {s : Bool} {t : TypeId} {fr : Nat × Nat} (hb : w.heap[b]? = some (.cells (wv n s) t fr)) : w.cell? ⟨b, 1, none⟩ = some (.bool s) := by rw [cell_of_row _ _ _ _ _ _ hb]; rfl

theorem pow2_lt {n : Nat} (h : n ≤ 64) : 2 ^ n < 10 ^ 64 := by
  have := two_le h
  have h2 : (18446744073709551616 : Nat) < 10 ^ 64 := by decide
  omega
theorem small64 {n : Nat} (h : n ≤ 100000000000000000000) : n < 10 ^ 64 := by
  have h2 : (100000000000000000000 : Nat) < 10 ^ 64 := by decide
  omega

theorem pow2_m1 {n : Nat} (h : n ≤ 64) : ((2 ^ n : Nat) : Int).natAbs + (-1 : Int).natAbs < 10 ^ 64 := by
  have h1 := two_le h
  have h2 : (-1 : Int).natAbs = 1 := rfl
  rw [Int.natAbs_natCast, h2]
  exact small64 (by omega)

set_option maxHeartbeats 400000 in
theorem ends_any (bits : Nat) (s : Bool) (h1 : 1 ≤ bits) (h2 : bits ≤ 64) (w : World) :
    Calls Tryz.prog 46 #[.agg (wv bits s)] w fun e w' => e = .returned (.tuple #[.agg (lv (loW bits s)), .agg (lv (hiW bits s))]) ∧ Below w.heap.size w w' := by
  cases s
  · have HP := Lib.hid (pow2_lt h2)
    have HS := Lib.hid (pow2_m1 h2)
    go_enter Tryz.func46, Tryz.ntmps46
    go_upto_region 1 with (fail)
    refine wp_world (fun W => W.heap[w.heap.size]? = some (.cells (wv bits false) 50 (0, 0)) ∧ W.heap[w.heap.size + 1]? = some (.cells (lv 0) 57 (0, 0)) ∧ W.heap[w.heap.size + 1 + 1]? = some (.cells (lv 0) 57 (0, 0)) ∧ Below w.heap.size w W)
      ⟨ha_old (ha_old (ha_new rfl)), by rw [← zero_long]; exact ha_old (ha_new (by simp)), by rw [← zero_long]; exact ha_new (by simp), (((Below.refl _ _).alloc (Nat.le_refl _) _).alloc (by simp) _).alloc (by simp; omega) _⟩ ?_
    rintro W ⟨h0, h3, h4, hb⟩
    have c0 := wv0 h0
    have c1 := wv1 h0
    go_upto_region 4 with (fail)
    refine wp_region_below 6 mixed (by kernel_rfl) ?_; simp only [List.take_succ_cons, List.take_zero, List.drop_succ_cons, List.drop_zero]
    refine wq_ck rfl (fun K hK => ?_); go_simp; refine ⟨_, _, ⟨rfl, rfl⟩, hK _ _ ⟨_, fun w' hw' => calls_class hw' (small_any 0 (by omega) (by omega) w'), ?_⟩⟩; clear hK K; simp only [put_lit, List.set_cons_zero, List.set_cons_succ]
    refine wq_k rfl (fun K hK => ?_); go_simp; refine hK _ ?_; clear hK K
    ((with_reducible apply wq_one); exact rfl; exact rfl; (intro w' hw'; exact one_of u3 rfl (below_cell hw' (by with_reducible assumption))))
    refine wq_ck rfl (fun K hK => ?_); go_simp; refine ⟨_, _, ⟨rfl, rfl⟩, hK _ _ ⟨_, fun w' hw' => calls_class hw' (pow2_any bits HP.out (by omega) (by omega) w'), ?_⟩⟩; clear hK K; simp only [put_lit, List.set_cons_zero, List.set_cons_succ]
    refine wq_ck rfl (fun K hK => ?_); go_simp; refine ⟨_, _, ⟨rfl, rfl⟩, hK _ _ ⟨_, fun w' hw' => calls_class hw' (small_any (-1) (by omega) (by omega) w'), ?_⟩⟩; clear hK K; simp only [put_lit, List.set_cons_zero, List.set_cons_succ]
    refine wq_ck rfl (fun K hK => ?_); go_simp; refine ⟨_, _, ⟨rfl, rfl⟩, hK _ _ ⟨_, fun w' hw' => calls_class hw' (add_any _ _ HS.out w'), ?_⟩⟩; clear hK K; simp only [put_lit, List.set_cons_zero, List.set_cons_succ]
    intro w6 hb1
    have l4 := heap_lt h4
    replace h3 := below_look hb1 h3; replace h4 := below_look hb1 h4; replace hb := hb.trans (hb1.mono hb.size); clear hb1
    ((with_reducible apply wl_put75); exact rfl; exact rfl; exact h3; intro w7 hbx hk hq; replace h4 := hk _ _ (by omega) h4; replace hb := hbx _ _ (by omega) hb; clear h3; have h3 := hq; clear hbx hk hq)
    ((with_reducible apply wl_put75); exact rfl; exact rfl; exact h4; intro w8 hbx hk hq; replace h3 := hk _ _ (by omega) h3; replace hb := hbx _ _ (by omega) hb; clear h4; have h4 := hq; clear hbx hk hq)
    go_wp2_with fail
    refine bodyPost_ret (res_long2 rfl _ _ (w.heap.size + 1) (w.heap.size + 1 + 1) rfl rfl h3 h4) rfl ⟨?_, hb⟩
    simp [loW, hiW, Int.sub_eq_add_neg]
  · have HP := Lib.hid (pow2_lt (show bits - 1 ≤ 64 by omega))
    have HS := Lib.hid (pow2_m1 (show bits - 1 ≤ 64 by omega))
    have HN := Lib.hid (show ((2 ^ (bits - 1) : Nat) : Int).natAbs < 10 ^ 64 from by rw [Int.natAbs_natCast]; exact HP.out)
    go_enter Tryz.func46, Tryz.ntmps46
    go_upto_region 1 with (fail)
    refine wp_world (fun W => W.heap[w.heap.size]? = some (.cells (wv bits true) 50 (0, 0)) ∧ W.heap[w.heap.size + 1]? = some (.cells (lv 0) 57 (0, 0)) ∧ W.heap[w.heap.size + 1 + 1]? = some (.cells (lv 0) 57 (0, 0)) ∧ Below w.heap.size w W)
      ⟨ha_old (ha_old (ha_new rfl)), by rw [← zero_long]; exact ha_old (ha_new (by simp)), by rw [← zero_long]; exact ha_new (by simp), (((Below.refl _ _).alloc (Nat.le_refl _) _).alloc (by simp) _).alloc (by simp; omega) _⟩ ?_
    rintro W ⟨h0, h3, h4, hb⟩
    have c0 := wv0 h0
    have c1 := wv1 h0
    have et : ((bits : Int) - 1).toNat = bits - 1 := by omega
    have ew : IntKind.i64.wrap ((bits : Int) - 1) = (bits : Int) - 1 := IntWalk.i64_in _ (by omega)
    go_upto_region 2 with (fail)
    apply wp_region_lit
    refine wl_k rfl (fun K hK => ?_); go_simp; refine hK _ ?_; clear hK K
    refine wl_k rfl (fun K hK => ?_); go_simp; refine hK _ ?_; clear hK K
    refine wl_k rfl (fun K hK => ?_); go_simp; refine hK _ ?_; clear hK K
    refine wl_ck rfl (fun K hK => ?_); go_simp; refine ⟨_, _, ⟨rfl, rfl⟩, hK _ _ ⟨_, pow2_any ((bits : Int) - 1) (by rw [et]; exact HP.out) (by omega) (by omega) _, ?_⟩⟩; clear hK K; rintro e w1 ⟨rfl, hb1⟩; refine ⟨_, rfl, ?_⟩; simp only [put_lit, List.set_cons_zero, List.set_cons_succ]
    rw [et]
    replace h0 := below_look hb1 h0; replace h3 := below_look hb1 h3; replace h4 := below_look hb1 h4; replace hb := hb.trans (hb1.mono hb.size); clear hb1
    have l4 := heap_lt h4
    ((with_reducible apply wl_new75); intro w2 p2 hbn hlp2 hp2; replace h0 := below_look hbn h0; replace h3 := below_look hbn h3; replace h4 := below_look hbn h4; replace hb := hb.trans (hbn.mono hb.size); clear hbn)
    ((with_reducible apply wl_put75); exact rfl; exact rfl; exact hp2; intro w3 hbx hk hq; replace h0 := hk _ _ (by omega) h0; replace h3 := hk _ _ (by omega) h3; replace h4 := hk _ _ (by omega) h4; replace hb := hbx _ _ (by omega) hb; clear hp2; have hp2 := hq; clear hbx hk hq)
    go_upto_region 3 with (fail)
    refine wp_region_below 5 mixed (by kernel_rfl) ?_; simp only [List.take_succ_cons, List.take_zero, List.drop_succ_cons, List.drop_zero]
    ((with_reducible apply wq_row); exact rfl; exact rfl; (intro w' hw'; first | exact rowL (below_look hw' (by with_reducible assumption)) | exact rowD (below_look hw' (by with_reducible assumption)) | exact rowR (below_look hw' (by with_reducible assumption))))
    refine wq_ck rfl (fun K hK => ?_); go_simp; refine ⟨_, _, ⟨rfl, rfl⟩, hK _ _ ⟨_, fun w' hw' => calls_class hw' (minus_any _ HN.out w'), ?_⟩⟩; clear hK K; simp only [put_lit, List.set_cons_zero, List.set_cons_succ]
    ((with_reducible apply wq_row); exact rfl; exact rfl; (intro w' hw'; first | exact rowL (below_look hw' (by with_reducible assumption)) | exact rowD (below_look hw' (by with_reducible assumption)) | exact rowR (below_look hw' (by with_reducible assumption))))
    refine wq_ck rfl (fun K hK => ?_); go_simp; refine ⟨_, _, ⟨rfl, rfl⟩, hK _ _ ⟨_, fun w' hw' => calls_class hw' (small_any (-1) (by omega) (by omega) w'), ?_⟩⟩; clear hK K; simp only [put_lit, List.set_cons_zero, List.set_cons_succ]
    refine wq_ck rfl (fun K hK => ?_); go_simp; refine ⟨_, _, ⟨rfl, rfl⟩, hK _ _ ⟨_, fun w' hw' => calls_class hw' (add_any _ _ HS.out w'), ?_⟩⟩; clear hK K; simp only [put_lit, List.set_cons_zero, List.set_cons_succ]
    intro w6 hb1
    have l4 := heap_lt h4
    replace h3 := below_look hb1 h3; replace h4 := below_look hb1 h4; replace hb := hb.trans (hb1.mono hb.size); clear hb1
    ((with_reducible apply wl_put75); exact rfl; exact rfl; exact h3; intro w7 hbx hk hq; replace h4 := hk _ _ (by omega) h4; replace hb := hbx _ _ (by omega) hb; clear h3; have h3 := hq; clear hbx hk hq)
    ((with_reducible apply wl_put75); exact rfl; exact rfl; exact h4; intro w8 hbx hk hq; replace h3 := hk _ _ (by omega) h3; replace hb := hbx _ _ (by omega) hb; clear h4; have h4 := hq; clear hbx hk hq)
    go_wp2_with fail
    refine bodyPost_ret (res_long2 rfl _ _ (w.heap.size + 1) (w.heap.size + 1 + 1) rfl rfl h3 h4) rfl ⟨?_, hb⟩
    simp [loW, hiW, Int.sub_eq_add_neg]
end Go.Proofs.YtclainfdeghgnaaGreatDoor
namespace Go.Proofs.YtclainfdeghgnaaGreatDoor
open Go.RowKit Go.Proofs.YtclainfdeghgnaaGreatDoor.Nm

theorem nat64 {x : Int} (h : -18446744073709551616 ≤ x ∧ x ≤ 18446744073709551616) : x.natAbs < 10 ^ 64 := small64 (by omega)
theorem lo64 {bits : Nat} (h : bits ≤ 64) (s : Bool) : (loW bits s).natAbs < 10 ^ 64 := nat64 (by have := lo_bd h s; omega)
theorem hi64 {bits : Nat} (h0 : 1 ≤ bits) (h : bits ≤ 64) (s : Bool) : (hiW bits s).natAbs < 10 ^ 64 := nat64 (by have := hi_bd h0 h s; omega)
theorem cz_le {a b : Int} : cz a b ≤ 0 ↔ a ≤ b := by rw [cz_def]; split <;> (try split) <;> omega
theorem cz_lt {a b : Int} : cz a b < 0 ↔ a < b := by rw [cz_def]; split <;> (try split) <;> omega
set_option maxHeartbeats 400000 in
theorem has_any (bits : Nat) (s : Bool) (x : Int) (h1 : 1 ≤ bits) (h2 : bits ≤ 64) (hx : x.natAbs < 10 ^ 64) (w : World) :
    Calls Tryz.prog 21 #[.agg (wv bits s), .agg (lv x)] w fun e w' => e = .returned (.bool (hasW bits s x)) ∧ Below w.heap.size w w' := by
  have HX := Lib.hid hx
  have HL := Lib.hid (lo64 h2 s)
  have HH := Lib.hid (hi64 h1 h2 s)
  obtain ⟨lo, hlo⟩ : ∃ l, l = loW bits s := ⟨_, rfl⟩
  obtain ⟨hi, hhi⟩ : ∃ l, l = hiW bits s := ⟨_, rfl⟩
  have HW : Hid (hasW bits s x = decide (lo ≤ x ∧ x ≤ hi)) := Lib.hid (by rw [hlo, hhi]; rfl)
  have HE : Hid (∀ w, Calls Tryz.prog 46 #[.agg (wv bits s)] w fun e w' => e = .returned (.tuple #[.agg (lv lo), .agg (lv hi)]) ∧ Below w.heap.size w w') := Lib.hid (by rw [hlo, hhi]; exact ends_any bits s h1 h2)
  rw [← hlo] at HL
  rw [← hhi] at HH
  clear hx hlo hhi
  by_cases hc : lo ≤ x
  · have hcz : cz lo x ≤ 0 := cz_le.2 hc
    go_enter Tryz.func21, Tryz.ntmps21
    go_upto_region 1 with (fail)
    refine wp_world (fun W => W.heap[w.heap.size]? = some (.cells (wv bits s) 50 (0, 0)) ∧ W.heap[w.heap.size + 1]? = some (.cells (lv x) 57 (0, 0)) ∧ Below w.heap.size w W) ⟨ha_old (ha_new rfl), ha_new (by simp), ((Below.refl _ _).alloc (Nat.le_refl _) _).alloc (by simp) _⟩ ?_
    rintro W ⟨h0, h3, hb⟩
    apply wp_region_lit
    ((with_reducible apply wl_rowG); exact rfl; exact rfl; exact rowW (by with_reducible assumption))
    refine wl_ck rfl (fun K hK => ?_); go_simp; refine ⟨_, _, ⟨rfl, rfl⟩, hK _ _ ⟨_, HE.out _, ?_⟩⟩; clear hK K; rintro e w1 ⟨rfl, hb1⟩; refine ⟨_, rfl, ?_⟩; simp only [put_lit, List.set_cons_zero, List.set_cons_succ]
    replace h0 := below_look hb1 h0; replace h3 := below_look hb1 h3; replace hb := hb.trans (hb1.mono hb.size); clear hb1
    refine wl_k rfl (fun K hK => ?_); go_simp; refine hK _ ?_; clear hK K
    refine wl_k rfl (fun K hK => ?_); go_simp; refine hK _ ?_; clear hK K
    refine wl_k rfl (fun K hK => ?_); go_simp; refine hK _ ?_; clear hK K
    (have lth0p2 := heap_lt h0; have lth3p2 := heap_lt h3; have lsp2 := hb.size; (with_reducible apply wl_new75); intro w2 p2 hbn hlp2 hp2; replace h0 := below_look hbn h0; replace h3 := below_look hbn h3; replace hb := hb.trans (hbn.mono hb.size); clear hbn)
    (have lth0p3 := heap_lt h0; have lth3p3 := heap_lt h3; have lthp2p3 := heap_lt hp2; have lsp3 := hb.size; (with_reducible apply wl_new75); intro w3 p3 hbn hlp3 hp3; replace h0 := below_look hbn h0; replace h3 := below_look hbn h3; replace hp2 := below_look hbn hp2; replace hb := hb.trans (hbn.mono hb.size); clear hbn)
    ((with_reducible apply wl_put75); exact rfl; exact rfl; exact hp2; intro w4 hbx hk hq; replace hp3 := hk _ _ (by omega) hp3; replace h3 := hk _ _ (by omega) h3; replace hb := hbx _ _ (by omega) hb; clear hp2; have hp2 := hq; clear hbx hk hq)
    ((with_reducible apply wl_put75); exact rfl; exact rfl; exact hp3; intro w5 hbx hk hq; replace hp2 := hk _ _ (by omega) hp2; replace h3 := hk _ _ (by omega) h3; replace hb := hbx _ _ (by omega) hb; clear hp3; have hp3 := hq; clear hbx hk hq)
    go_upto_region 2 with (fail)
    apply wp_region_lit
    ((with_reducible apply wl_rowG); exact rfl; exact rfl; (first | exact rowL (by with_reducible assumption) | exact rowD (by with_reducible assumption) | exact rowR (by with_reducible assumption)))
    ((with_reducible apply wl_rowG); exact rfl; exact rfl; (first | exact rowL (by with_reducible assumption) | exact rowD (by with_reducible assumption) | exact rowR (by with_reducible assumption)))
    refine wl_ck rfl (fun K hK => ?_); go_simp; refine ⟨_, _, ⟨rfl, rfl⟩, hK _ _ ⟨_, compare_any _ _ HL.out HX.out _, ?_⟩⟩; clear hK K; rintro e w6 ⟨rfl, hb1⟩; refine ⟨_, rfl, ?_⟩; simp only [put_lit, List.set_cons_zero, List.set_cons_succ]
    replace hp2 := below_look hb1 hp2; replace hp3 := below_look hb1 hp3; replace h3 := below_look hb1 h3; replace hb := hb.trans (hb1.mono hb.size); clear hb1
    refine wl_k rfl (fun K hK => ?_); go_simp; refine hK _ ?_; clear hK K
    refine wl_k rfl (fun K hK => ?_); go_simp; refine hK _ ?_; clear hK K
    ((with_reducible apply wl_rowG); exact rfl; exact rfl; (first | exact rowL (by with_reducible assumption) | exact rowD (by with_reducible assumption) | exact rowR (by with_reducible assumption)))
    ((with_reducible apply wl_rowG); exact rfl; exact rfl; (first | exact rowL (by with_reducible assumption) | exact rowD (by with_reducible assumption) | exact rowR (by with_reducible assumption)))
    refine wl_ck rfl (fun K hK => ?_); go_simp; refine ⟨_, _, ⟨rfl, rfl⟩, hK _ _ ⟨_, compare_any _ _ HX.out HH.out _, ?_⟩⟩; clear hK K; rintro e w7 ⟨rfl, hb1⟩; refine ⟨_, rfl, ?_⟩; simp only [put_lit, List.set_cons_zero, List.set_cons_succ]
    refine wl_k rfl (fun K hK => ?_); go_simp; refine hK _ ?_; clear hK K
    refine wl_k rfl (fun K hK => ?_); go_simp; refine hK _ ?_; clear hK K
    go_wp2_with fail
    go_ret
    refine ⟨?_, hb.trans (hb1.mono hb.size)⟩
    rw [HW.out]
    simp [cz_le, hc]
  · have hcz : ¬ cz lo x ≤ 0 := fun h => hc (cz_le.1 h)
    go_enter Tryz.func21, Tryz.ntmps21
    go_upto_region 1 with (fail)
    refine wp_world (fun W => W.heap[w.heap.size]? = some (.cells (wv bits s) 50 (0, 0)) ∧ W.heap[w.heap.size + 1]? = some (.cells (lv x) 57 (0, 0)) ∧ Below w.heap.size w W) ⟨ha_old (ha_new rfl), ha_new (by simp), ((Below.refl _ _).alloc (Nat.le_refl _) _).alloc (by simp) _⟩ ?_
    rintro W ⟨h0, h3, hb⟩
    apply wp_region_lit
    ((with_reducible apply wl_rowG); exact rfl; exact rfl; exact rowW (by with_reducible assumption))
    refine wl_ck rfl (fun K hK => ?_); go_simp; refine ⟨_, _, ⟨rfl, rfl⟩, hK _ _ ⟨_, HE.out _, ?_⟩⟩; clear hK K; rintro e w1 ⟨rfl, hb1⟩; refine ⟨_, rfl, ?_⟩; simp only [put_lit, List.set_cons_zero, List.set_cons_succ]
    replace h0 := below_look hb1 h0; replace h3 := below_look hb1 h3; replace hb := hb.trans (hb1.mono hb.size); clear hb1
    refine wl_k rfl (fun K hK => ?_); go_simp; refine hK _ ?_; clear hK K
    refine wl_k rfl (fun K hK => ?_); go_simp; refine hK _ ?_; clear hK K
    refine wl_k rfl (fun K hK => ?_); go_simp; refine hK _ ?_; clear hK K
    (have lth0p2 := heap_lt h0; have lth3p2 := heap_lt h3; have lsp2 := hb.size; (with_reducible apply wl_new75); intro w2 p2 hbn hlp2 hp2; replace h0 := below_look hbn h0; replace h3 := below_look hbn h3; replace hb := hb.trans (hbn.mono hb.size); clear hbn)
    (have lth0p3 := heap_lt h0; have lth3p3 := heap_lt h3; have lthp2p3 := heap_lt hp2; have lsp3 := hb.size; (with_reducible apply wl_new75); intro w3 p3 hbn hlp3 hp3; replace h0 := below_look hbn h0; replace h3 := below_look hbn h3; replace hp2 := below_look hbn hp2; replace hb := hb.trans (hbn.mono hb.size); clear hbn)
    ((with_reducible apply wl_put75); exact rfl; exact rfl; exact hp2; intro w4 hbx hk hq; replace hp3 := hk _ _ (by omega) hp3; replace h3 := hk _ _ (by omega) h3; replace hb := hbx _ _ (by omega) hb; clear hp2; have hp2 := hq; clear hbx hk hq)
    ((with_reducible apply wl_put75); exact rfl; exact rfl; exact hp3; intro w5 hbx hk hq; replace hp2 := hk _ _ (by omega) hp2; replace h3 := hk _ _ (by omega) h3; replace hb := hbx _ _ (by omega) hb; clear hp3; have hp3 := hq; clear hbx hk hq)
    go_upto_region 2 with (fail)
    apply wp_region_lit
    ((with_reducible apply wl_rowG); exact rfl; exact rfl; (first | exact rowL (by with_reducible assumption) | exact rowD (by with_reducible assumption) | exact rowR (by with_reducible assumption)))
    ((with_reducible apply wl_rowG); exact rfl; exact rfl; (first | exact rowL (by with_reducible assumption) | exact rowD (by with_reducible assumption) | exact rowR (by with_reducible assumption)))
    refine wl_ck rfl (fun K hK => ?_); go_simp; refine ⟨_, _, ⟨rfl, rfl⟩, hK _ _ ⟨_, compare_any _ _ HL.out HX.out _, ?_⟩⟩; clear hK K; rintro e w6 ⟨rfl, hb1⟩; refine ⟨_, rfl, ?_⟩; simp only [put_lit, List.set_cons_zero, List.set_cons_succ]
    replace hp2 := below_look hb1 hp2; replace hp3 := below_look hb1 hp3; replace h3 := below_look hb1 h3; replace hb := hb.trans (hb1.mono hb.size); clear hb1
    refine wl_k rfl (fun K hK => ?_); go_simp; refine hK _ ?_; clear hK K
    refine wl_k rfl (fun K hK => ?_); go_simp; refine hK _ ?_; clear hK K
    refine wl_skip rfl ?_
    refine wl_skip rfl ?_
    refine wl_skip rfl ?_
    refine wl_skip rfl ?_
    refine wl_k rfl (fun K hK => ?_); go_simp; refine hK _ ?_; clear hK K
    go_wp2_with fail
    go_ret
    refine ⟨?_, hb⟩
    rw [HW.out, decide_eq_false (by omega)]
    rfl

theorem big64 {n : Nat} (h : n ≤ 1000000000000000000000000000000000000000000000000000000000000000) : n < 10 ^ 64 := by
  have h2 : (1000000000000000000000000000000000000000000000000000000000000000 : Nat) < 10 ^ 64 := by decide
  omega

structure WrapBd (bits : Nat) (s : Bool) (x : Int) : Prop where
  a : x.natAbs < 10 ^ 64
  l : (loW bits s).natAbs < 10 ^ 64
  d : x.natAbs + (-loW bits s).natAbs < 10 ^ 64
  f : (x + -loW bits s).natAbs + 1 < 10 ^ 64
  p : 2 ^ bits < 10 ^ 64
  p0 : 0 < ((2 ^ bits : Nat) : Int)
  p1 : ((2 ^ bits : Nat) : Int).natAbs < 10 ^ 63
  m : ((x + -loW bits s) / ((2 ^ bits : Nat) : Int)).natAbs * ((2 ^ bits : Nat) : Int).natAbs < 10 ^ 64
  n : ((x + -loW bits s) / ((2 ^ bits : Nat) : Int) * ((2 ^ bits : Nat) : Int)).natAbs < 10 ^ 64
  e : x.natAbs + (-((x + -loW bits s) / ((2 ^ bits : Nat) : Int) * ((2 ^ bits : Nat) : Int))).natAbs < 10 ^ 64
theorem wrapBd {bits : Nat} (s : Bool) {x : Int} (h2 : bits ≤ 64) (hx : x.natAbs ≤ 100000000000000000000000000000000000000000000000000000000000) : WrapBd bits s x := by
  have h3 := lo_bd h2 s
  have h4 := two_le h2
  have h5 := two_pos bits
  have h6 := (floor_mul (x + -loW bits s) (2 ^ bits) h5).1
  have h7 : ((x + -loW bits s) / ((2 ^ bits : Nat) : Int)).natAbs * ((2 ^ bits : Nat) : Int).natAbs = ((x + -loW bits s) / ((2 ^ bits : Nat) : Int) * ((2 ^ bits : Nat) : Int)).natAbs := (Int.natAbs_mul _ _).symm
  have h8 : (10 : Nat) ^ 63 = 1000000000000000000000000000000000000000000000000000000000000000 := by decide
  refine ⟨big64 (by omega), big64 (by omega), big64 (by omega), ?_, pow2_lt h2, by omega, by rw [Int.natAbs_natCast]; omega, by rw [h7]; exact big64 (by omega), big64 (by omega), ?_⟩
  · have := big64 (n := (x + -loW bits s).natAbs + 1) (by omega); exact this
  · rw [Int.natAbs_neg]; exact big64 (by omega)

set_option maxHeartbeats 400000 in
theorem wrap_any (bits : Nat) (s : Bool) (x : Int) (h1 : 1 ≤ bits) (h2 : bits ≤ 64) (hx : x.natAbs ≤ 100000000000000000000000000000000000000000000000000000000000) (w : World) :
    Calls Tryz.prog 49 #[.agg (wv bits s), .agg (lv x)] w fun e w' => e = .returned (.agg (lv (wrapW bits s x))) ∧ Below w.heap.size w w' := by
  have HB := Lib.hid (wrapBd s h2 hx)
  clear hx
  go_enter Tryz.func49, Tryz.ntmps49
  go_upto_region 1 with (fail)
  refine wp_world (fun W => W.heap[w.heap.size]? = some (.cells (wv bits s) 50 (0, 0)) ∧ W.heap[w.heap.size + 1]? = some (.cells (lv x) 57 (0, 0)) ∧ W.heap[w.heap.size + 1 + 1]? = some (.cells (lv 0) 57 (0, 0)) ∧ Below w.heap.size w W) ⟨ha_old (ha_old (ha_new rfl)), ha_old (ha_new (by simp)), by rw [← zero_long]; exact ha_new (by simp), (((Below.refl _ _).alloc (Nat.le_refl _) _).alloc (by simp) _).alloc (by simp; omega) _⟩ ?_
  rintro W ⟨h0, h3, h4, hb⟩
  have c0 := wv0 h0
  apply wp_region_lit
  refine wl_k rfl (fun K hK => ?_); go_simp; refine hK _ ?_; clear hK K
  refine wl_k rfl (fun K hK => ?_); go_simp; refine hK _ ?_; clear hK K
  refine wl_ck rfl (fun K hK => ?_); go_simp; refine ⟨_, _, ⟨rfl, rfl⟩, hK _ _ ⟨_, pow2_any bits HB.out.p (by omega) (by omega) _, ?_⟩⟩; clear hK K; rintro e w1 ⟨rfl, hb1⟩; refine ⟨_, rfl, ?_⟩; simp only [put_lit, List.set_cons_zero, List.set_cons_succ]
  rw [Int.toNat_natCast]
  replace h0 := below_look hb1 h0; replace h3 := below_look hb1 h3; replace h4 := below_look hb1 h4; replace hb := hb.trans (hb1.mono hb.size); clear hb1
  (have lth0p2 := heap_lt h0; have lth3p2 := heap_lt h3; have lth4p2 := heap_lt h4; have lsp2 := hb.size; (with_reducible apply wl_new75); intro w2 p2 hbn hlp2 hp2; replace h0 := below_look hbn h0; replace h3 := below_look hbn h3; replace h4 := below_look hbn h4; replace hb := hb.trans (hbn.mono hb.size); clear hbn)
  ((with_reducible apply wl_put75); exact rfl; exact rfl; exact hp2; intro w3 hbx hk hq; replace h0 := hk _ _ (by omega) h0; replace h3 := hk _ _ (by omega) h3; replace h4 := hk _ _ (by omega) h4; replace hb := hbx _ _ (by omega) hb; clear hp2; have hp2 := hq; clear hbx hk hq)
  go_upto_region 2 with (fail)
  apply wp_region_lit
  ((with_reducible apply wl_rowG); exact rfl; exact rfl; exact rowW (by with_reducible assumption))
  refine wl_ck rfl (fun K hK => ?_); go_simp; refine ⟨_, _, ⟨rfl, rfl⟩, hK _ _ ⟨_, ends_any bits s h1 h2 _, ?_⟩⟩; clear hK K; rintro e w4 ⟨rfl, hb1⟩; refine ⟨_, rfl, ?_⟩; simp only [put_lit, List.set_cons_zero, List.set_cons_succ]
  replace h0 := below_look hb1 h0; replace h3 := below_look hb1 h3; replace h4 := below_look hb1 h4; replace hp2 := below_look hb1 hp2; replace hb := hb.trans (hb1.mono hb.size); clear hb1
  refine wl_k rfl (fun K hK => ?_); go_simp; refine hK _ ?_; clear hK K
  refine wl_k rfl (fun K hK => ?_); go_simp; refine hK _ ?_; clear hK K
  refine wl_k rfl (fun K hK => ?_); go_simp; refine hK _ ?_; clear hK K
  (have lth0p3 := heap_lt h0; have lth3p3 := heap_lt h3; have lth4p3 := heap_lt h4; have lthp2p3 := heap_lt hp2; have lsp3 := hb.size; (with_reducible apply wl_new75); intro w5 p3 hbn hlp3 hp3; replace h0 := below_look hbn h0; replace h3 := below_look hbn h3; replace h4 := below_look hbn h4; replace hp2 := below_look hbn hp2; replace hb := hb.trans (hbn.mono hb.size); clear hbn)
  (have lth0p4 := heap_lt h0; have lth3p4 := heap_lt h3; have lth4p4 := heap_lt h4; have lthp2p4 := heap_lt hp2; have lthp3p4 := heap_lt hp3; have lsp4 := hb.size; (with_reducible apply wl_new75); intro w6 p4 hbn hlp4 hp4; replace h0 := below_look hbn h0; replace h3 := below_look hbn h3; replace h4 := below_look hbn h4; replace hp2 := below_look hbn hp2; replace hp3 := below_look hbn hp3; replace hb := hb.trans (hbn.mono hb.size); clear hbn)
  ((with_reducible apply wl_put75); exact rfl; exact rfl; exact hp3; intro w7 hbx hk hq; replace h0 := hk _ _ (by omega) h0; replace h3 := hk _ _ (by omega) h3; replace h4 := hk _ _ (by omega) h4; replace hp2 := hk _ _ (by omega) hp2; replace hp4 := hk _ _ (by omega) hp4; replace hb := hbx _ _ (by omega) hb; clear hp3; have hp3 := hq; clear hbx hk hq)
  ((with_reducible apply wl_put75); exact rfl; exact rfl; exact hp4; intro w8 hbx hk hq; replace h0 := hk _ _ (by omega) h0; replace h3 := hk _ _ (by omega) h3; replace h4 := hk _ _ (by omega) h4; replace hp2 := hk _ _ (by omega) hp2; replace hp3 := hk _ _ (by omega) hp3; replace hb := hbx _ _ (by omega) hb; clear hp4; have hp4 := hq; clear hbx hk hq)
  go_upto_region 3 with (fail)
  refine wp_region_float 6 8 (lv 0) 57 mixed (by kernel_rfl) ⟨_, rfl, rfl, rfl, ex_alloc75 rfl⟩ ?_; simp only [List.take_succ_cons, List.take_zero, List.drop_succ_cons, List.drop_zero]
  ((with_reducible apply ws_row); exact rfl; exact rfl; (intro w' hw'; first | exact rowL (below_look hw' (by with_reducible assumption)) | exact rowD (below_look hw' (by with_reducible assumption)) | exact rowR (below_look hw' (by with_reducible assumption))))
  ((with_reducible apply ws_row); exact rfl; exact rfl; (intro w' hw'; first | exact rowL (below_look hw' (by with_reducible assumption)) | exact rowD (below_look hw' (by with_reducible assumption)) | exact rowR (below_look hw' (by with_reducible assumption))))
  refine ws_ck rfl (fun K hK => ?_); go_simp; refine ⟨_, _, ⟨rfl, rfl⟩, hK _ _ ⟨_, fun w' hw' => (minus_any _ HB.out.l w'), ?_⟩⟩; clear hK K; simp only [put_lit, List.set_cons_zero, List.set_cons_succ]
  refine ws_ck rfl (fun K hK => ?_); go_simp; refine ⟨_, _, ⟨rfl, rfl⟩, hK _ _ ⟨_, fun w' hw' => (add_any _ _ HB.out.d w'), ?_⟩⟩; clear hK K; simp only [put_lit, List.set_cons_zero, List.set_cons_succ]
  ((with_reducible apply ws_row); exact rfl; exact rfl; (intro w' hw'; first | exact rowL (below_look hw' (by with_reducible assumption)) | exact rowD (below_look hw' (by with_reducible assumption)) | exact rowR (below_look hw' (by with_reducible assumption))))
  refine ws_ck rfl (fun K hK => ?_); go_simp; refine ⟨_, _, ⟨rfl, rfl⟩, hK _ _ ⟨_, fun w' hw' => (floor_any _ _ HB.out.f HB.out.p0 HB.out.p1 w'), ?_⟩⟩; clear hK K; simp only [put_lit, List.set_cons_zero, List.set_cons_succ]
  rintro p5 w9 ⟨hb1, hl5, hp5⟩
  have lt4 := heap_lt h4
  have lt2 := heap_lt hp2
  replace h0 := below_look hb1 h0; replace h3 := below_look hb1 h3; replace h4 := below_look hb1 h4; replace hp2 := below_look hb1 hp2; replace hp3 := below_look hb1 hp3; replace hb := hb.trans (hb1.mono hb.size); clear hb1
  simp only [put_lit, List.set_cons_zero, List.set_cons_succ]
  ((with_reducible apply wl_put75); exact rfl; exact rfl; exact hp5; intro w10 hbx hk hq; replace h3 := hk _ _ (by omega) h3; replace h4 := hk _ _ (by omega) h4; replace hp2 := hk _ _ (by omega) hp2; replace hb := hbx _ _ (by omega) hb; clear hp5; have hp5 := hq; clear hbx hk hq)
  go_upto_region 4 with (fail)
  refine wp_region_below 6 mixed (by kernel_rfl) ?_; simp only [List.take_succ_cons, List.take_zero, List.drop_succ_cons, List.drop_zero]
  ((with_reducible apply wq_row); exact rfl; exact rfl; (intro w' hw'; first | exact rowL (below_look hw' (by with_reducible assumption)) | exact rowD (below_look hw' (by with_reducible assumption)) | exact rowR (below_look hw' (by with_reducible assumption))))
  ((with_reducible apply wq_row); exact rfl; exact rfl; (intro w' hw'; first | exact rowL (below_look hw' (by with_reducible assumption)) | exact rowD (below_look hw' (by with_reducible assumption)) | exact rowR (below_look hw' (by with_reducible assumption))))
  ((with_reducible apply wq_row); exact rfl; exact rfl; (intro w' hw'; first | exact rowL (below_look hw' (by with_reducible assumption)) | exact rowD (below_look hw' (by with_reducible assumption)) | exact rowR (below_look hw' (by with_reducible assumption))))
  refine wq_ck rfl (fun K hK => ?_); go_simp; refine ⟨_, _, ⟨rfl, rfl⟩, hK _ _ ⟨_, fun w' hw' => calls_class hw' (mul_any _ _ HB.out.m w'), ?_⟩⟩; clear hK K; simp only [put_lit, List.set_cons_zero, List.set_cons_succ]
  refine wq_ck rfl (fun K hK => ?_); go_simp; refine ⟨_, _, ⟨rfl, rfl⟩, hK _ _ ⟨_, fun w' hw' => calls_class hw' (minus_any _ HB.out.n w'), ?_⟩⟩; clear hK K; simp only [put_lit, List.set_cons_zero, List.set_cons_succ]
  refine wq_ck rfl (fun K hK => ?_); go_simp; refine ⟨_, _, ⟨rfl, rfl⟩, hK _ _ ⟨_, fun w' hw' => calls_class hw' (add_any _ _ HB.out.e w'), ?_⟩⟩; clear hK K; simp only [put_lit, List.set_cons_zero, List.set_cons_succ]
  intro w11 hb1
  replace h4 := below_look hb1 h4; replace hb := hb.trans (hb1.mono hb.size); clear hb1
  ((with_reducible apply wl_put75); exact rfl; exact rfl; exact h4; intro w12 hbx hk hq; replace hb := hbx _ _ (by omega) hb; clear h4; have h4 := hq; clear hbx hk hq)
  go_wp2_with fail
  refine bodyPost_ret (res_long rfl _ _ (w.heap.size + 1 + 1) rfl h4) rfl ⟨?_, hb⟩
  rw [wrap_eq]
end Go.Proofs.YtclainfdeghgnaaGreatDoor
namespace Go.Proofs.YtclainfdeghgnaaGreatDoor
open Go.RowKit Go.Proofs.YtclainfdeghgnaaGreatDoor.Nm

theorem res_longErr {fn : Func} {p q : Tmp} (h : fn.results = #[.cell p 57, .tmp q]) (tmps : Array Value) (w : World) (g : Nat) (hp : tmps.getD p undef = .pointer (some ⟨g, 0, none⟩)) {x : Int}
    (hg : w.heap[g]? = some (.cells (lv x) 57 (0, 0))) : (results fn tmps).run Tryz.prog w = .ok (.tuple #[.agg (lv x), tmps.getD q undef]) w := by
  have hp' : tmps[p]?.getD undef = .pointer (some ⟨g, 0, none⟩) := by simpa using hp
  have l1 : (loadVar 57 ⟨g, 0, none⟩).run Tryz.prog w = .ok (.agg (lv x)) w := by have := rowL hg; unfold RowAt at this; exact this
  rw [results_cell_tmp h]
  simp [hp', asAddr, l1, Result.andThen]

set_option maxHeartbeats 400000 in
theorem bring_has (bits : Nat) (s : Bool) (x : Int) (m : ByteArray) (h1 : 1 ≤ bits) (h2 : bits ≤ 64) (hx : x.natAbs ≤ 100000000000000000000000000000000000000000000000000000000000) (hh : hasW bits s x = true) (w : World) :
    Calls Tryz.prog 24 #[.agg (wv bits s), .agg (lv x), .string m] w fun e w' => e = .returned (.tuple #[.agg (lv x), .int .i64 0]) ∧ Below w.heap.size w w' := by
  have HB := Lib.hid (wrapBd s h2 hx)
  clear hx
  go_enter Tryz.func24, Tryz.ntmps24
  go_upto_region 1 with (fail)
  refine wp_world (fun W => W.heap[w.heap.size]? = some (.cells (wv bits s) 50 (0, 0)) ∧ W.heap[w.heap.size + 1]? = some (.cells (lv x) 57 (0, 0)) ∧ W.heap[w.heap.size + 1 + 1]? = some (.cells (lv 0) 57 (0, 0)) ∧ Below w.heap.size w W) ⟨ha_old (ha_old (ha_new rfl)), ha_old (ha_new (by simp)), by rw [← zero_long]; exact ha_new (by simp), (((Below.refl _ _).alloc (Nat.le_refl _) _).alloc (by simp) _).alloc (by simp; omega) _⟩ ?_
  rintro W ⟨h0, h3, h4, hb⟩
  apply wp_region_lit
  ((with_reducible apply wl_rowG); exact rfl; exact rfl; exact rowW (by with_reducible assumption))
  refine wl_ck rfl (fun K hK => ?_); go_simp; refine ⟨_, _, ⟨rfl, rfl⟩, hK _ _ ⟨_, ends_any bits s h1 h2 _, ?_⟩⟩; clear hK K; rintro e w1 ⟨rfl, hb1⟩; refine ⟨_, rfl, ?_⟩; simp only [put_lit, List.set_cons_zero, List.set_cons_succ]
  replace h0 := below_look hb1 h0; replace h3 := below_look hb1 h3; replace h4 := below_look hb1 h4; replace hb := hb.trans (hb1.mono hb.size); clear hb1
  refine wl_k rfl (fun K hK => ?_); go_simp; refine hK _ ?_; clear hK K
  refine wl_k rfl (fun K hK => ?_); go_simp; refine hK _ ?_; clear hK K
  refine wl_k rfl (fun K hK => ?_); go_simp; refine hK _ ?_; clear hK K
  (have lth0p2 := heap_lt h0; have lth3p2 := heap_lt h3; have lth4p2 := heap_lt h4; have lsp2 := hb.size; (with_reducible apply wl_new75); intro w2 p2 hbn hlp2 hp2; replace h0 := below_look hbn h0; replace h3 := below_look hbn h3; replace h4 := below_look hbn h4; replace hb := hb.trans (hbn.mono hb.size); clear hbn)
  (have lth0p3 := heap_lt h0; have lth3p3 := heap_lt h3; have lth4p3 := heap_lt h4; have lthp2p3 := heap_lt hp2; have lsp3 := hb.size; (with_reducible apply wl_new75); intro w3 p3 hbn hlp3 hp3; replace h0 := below_look hbn h0; replace h3 := below_look hbn h3; replace h4 := below_look hbn h4; replace hp2 := below_look hbn hp2; replace hb := hb.trans (hbn.mono hb.size); clear hbn)
  ((with_reducible apply wl_put75); exact rfl; exact rfl; exact hp2; intro w4 hbx hk hq; replace h0 := hk _ _ (by omega) h0; replace h3 := hk _ _ (by omega) h3; replace h4 := hk _ _ (by omega) h4; replace hp3 := hk _ _ (by omega) hp3; replace hb := hbx _ _ (by omega) hb; clear hp2; have hp2 := hq; clear hbx hk hq)
  ((with_reducible apply wl_put75); exact rfl; exact rfl; exact hp3; intro w5 hbx hk hq; replace h0 := hk _ _ (by omega) h0; replace h3 := hk _ _ (by omega) h3; replace h4 := hk _ _ (by omega) h4; replace hp2 := hk _ _ (by omega) hp2; replace hb := hbx _ _ (by omega) hb; clear hp3; have hp3 := hq; clear hbx hk hq)
  go_upto_region 2 with (fail)
  apply wp_region_lit
  ((with_reducible apply wl_rowG); exact rfl; exact rfl; exact rowW (by with_reducible assumption))
  ((with_reducible apply wl_rowG); exact rfl; exact rfl; (first | exact rowL (by with_reducible assumption) | exact rowD (by with_reducible assumption) | exact rowR (by with_reducible assumption)))
  refine wl_ck rfl (fun K hK => ?_); go_simp; refine ⟨_, _, ⟨rfl, rfl⟩, hK _ _ ⟨_, has_any bits s x h1 h2 HB.out.a _, ?_⟩⟩; clear hK K; rintro e w6 ⟨rfl, hb1⟩; refine ⟨_, rfl, ?_⟩; simp only [put_lit, List.set_cons_zero, List.set_cons_succ]
  replace h0 := below_look hb1 h0; replace h3 := below_look hb1 h3; replace h4 := below_look hb1 h4; replace hp2 := below_look hb1 hp2; replace hp3 := below_look hb1 hp3; replace hb := hb.trans (hb1.mono hb.size); clear hb1
  refine wl_k rfl (fun K hK => ?_); go_simp; refine hK _ ?_; clear hK K
  go_upto_region 3 with (fail)
  apply wp_region_lit
  ((with_reducible apply wl_rowG); exact rfl; exact rfl; (first | exact rowL (by with_reducible assumption) | exact rowD (by with_reducible assumption) | exact rowR (by with_reducible assumption)))
  ((with_reducible apply wl_put75); exact rfl; exact rfl; exact h4; intro w7 hbx hk hq; replace hb := hbx _ _ (by omega) hb; clear h4; have h4 := hq; clear hbx hk hq)
  go_wp2_with fail
  exact bodyPost_ret (res_longErr rfl _ _ (w.heap.size + 1 + 1) rfl h4) rfl ⟨rfl, hb⟩

set_option maxHeartbeats 400000 in
theorem bring_wrap (bits : Nat) (s : Bool) (x : Int) (m : ByteArray) (h1 : 1 ≤ bits) (h2 : bits ≤ 64) (hx : x.natAbs ≤ 100000000000000000000000000000000000000000000000000000000000) (hh : hasW bits s x = false) (hw : (m.toList == [119, 114, 97, 112]) = true) (w : World) :
    Calls Tryz.prog 24 #[.agg (wv bits s), .agg (lv x), .string m] w fun e w' => e = .returned (.tuple #[.agg (lv (wrapW bits s x)), .int .i64 0]) ∧ Below w.heap.size w w' := by
  have HB := Lib.hid (wrapBd s h2 hx)
  have HX := Lib.hid hx
  clear hx
  go_enter Tryz.func24, Tryz.ntmps24
  go_upto_region 1 with (fail)
  refine wp_world (fun W => W.heap[w.heap.size]? = some (.cells (wv bits s) 50 (0, 0)) ∧ W.heap[w.heap.size + 1]? = some (.cells (lv x) 57 (0, 0)) ∧ W.heap[w.heap.size + 1 + 1]? = some (.cells (lv 0) 57 (0, 0)) ∧ Below w.heap.size w W) ⟨ha_old (ha_old (ha_new rfl)), ha_old (ha_new (by simp)), by rw [← zero_long]; exact ha_new (by simp), (((Below.refl _ _).alloc (Nat.le_refl _) _).alloc (by simp) _).alloc (by simp; omega) _⟩ ?_
  rintro W ⟨h0, h3, h4, hb⟩
  apply wp_region_lit
  ((with_reducible apply wl_rowG); exact rfl; exact rfl; exact rowW (by with_reducible assumption))
  refine wl_ck rfl (fun K hK => ?_); go_simp; refine ⟨_, _, ⟨rfl, rfl⟩, hK _ _ ⟨_, ends_any bits s h1 h2 _, ?_⟩⟩; clear hK K; rintro e w1 ⟨rfl, hb1⟩; refine ⟨_, rfl, ?_⟩; simp only [put_lit, List.set_cons_zero, List.set_cons_succ]
  replace h0 := below_look hb1 h0; replace h3 := below_look hb1 h3; replace h4 := below_look hb1 h4; replace hb := hb.trans (hb1.mono hb.size); clear hb1
  refine wl_k rfl (fun K hK => ?_); go_simp; refine hK _ ?_; clear hK K
  refine wl_k rfl (fun K hK => ?_); go_simp; refine hK _ ?_; clear hK K
  refine wl_k rfl (fun K hK => ?_); go_simp; refine hK _ ?_; clear hK K
  (have lth0p2 := heap_lt h0; have lth3p2 := heap_lt h3; have lth4p2 := heap_lt h4; have lsp2 := hb.size; (with_reducible apply wl_new75); intro w2 p2 hbn hlp2 hp2; replace h0 := below_look hbn h0; replace h3 := below_look hbn h3; replace h4 := below_look hbn h4; replace hb := hb.trans (hbn.mono hb.size); clear hbn)
  (have lth0p3 := heap_lt h0; have lth3p3 := heap_lt h3; have lth4p3 := heap_lt h4; have lthp2p3 := heap_lt hp2; have lsp3 := hb.size; (with_reducible apply wl_new75); intro w3 p3 hbn hlp3 hp3; replace h0 := below_look hbn h0; replace h3 := below_look hbn h3; replace h4 := below_look hbn h4; replace hp2 := below_look hbn hp2; replace hb := hb.trans (hbn.mono hb.size); clear hbn)
  ((with_reducible apply wl_put75); exact rfl; exact rfl; exact hp2; intro w4 hbx hk hq; replace h0 := hk _ _ (by omega) h0; replace h3 := hk _ _ (by omega) h3; replace h4 := hk _ _ (by omega) h4; replace hp3 := hk _ _ (by omega) hp3; replace hb := hbx _ _ (by omega) hb; clear hp2; have hp2 := hq; clear hbx hk hq)
  ((with_reducible apply wl_put75); exact rfl; exact rfl; exact hp3; intro w5 hbx hk hq; replace h0 := hk _ _ (by omega) h0; replace h3 := hk _ _ (by omega) h3; replace h4 := hk _ _ (by omega) h4; replace hp2 := hk _ _ (by omega) hp2; replace hb := hbx _ _ (by omega) hb; clear hp3; have hp3 := hq; clear hbx hk hq)
  go_upto_region 2 with (fail)
  apply wp_region_lit
  ((with_reducible apply wl_rowG); exact rfl; exact rfl; exact rowW (by with_reducible assumption))
  ((with_reducible apply wl_rowG); exact rfl; exact rfl; (first | exact rowL (by with_reducible assumption) | exact rowD (by with_reducible assumption) | exact rowR (by with_reducible assumption)))
  refine wl_ck rfl (fun K hK => ?_); go_simp; refine ⟨_, _, ⟨rfl, rfl⟩, hK _ _ ⟨_, has_any bits s x h1 h2 HB.out.a _, ?_⟩⟩; clear hK K; rintro e w6 ⟨rfl, hb1⟩; refine ⟨_, rfl, ?_⟩; simp only [put_lit, List.set_cons_zero, List.set_cons_succ]
  replace h0 := below_look hb1 h0; replace h3 := below_look hb1 h3; replace h4 := below_look hb1 h4; replace hp2 := below_look hb1 hp2; replace hp3 := below_look hb1 hp3; replace hb := hb.trans (hb1.mono hb.size); clear hb1
  refine wl_k rfl (fun K hK => ?_); go_simp; refine hK _ ?_; clear hK K
  go_upto_region 5 with (fail)
  apply wp_region_lit
  ((with_reducible apply wl_rowG); exact rfl; exact rfl; exact rowW (by with_reducible assumption))
  ((with_reducible apply wl_rowG); exact rfl; exact rfl; (first | exact rowL (by with_reducible assumption) | exact rowD (by with_reducible assumption) | exact rowR (by with_reducible assumption)))
  refine wl_ck rfl (fun K hK => ?_); go_simp; refine ⟨_, _, ⟨rfl, rfl⟩, hK _ _ ⟨_, wrap_any bits s x h1 h2 HX.out _, ?_⟩⟩; clear hK K; rintro e w7 ⟨rfl, hb1⟩; refine ⟨_, rfl, ?_⟩; simp only [put_lit, List.set_cons_zero, List.set_cons_succ]
  replace h4 := below_look hb1 h4; replace hb := hb.trans (hb1.mono hb.size); clear hb1
  ((with_reducible apply wl_put75); exact rfl; exact rfl; exact h4; intro w8 hbx hk hq; replace hb := hbx _ _ (by omega) hb; clear h4; have h4 := hq; clear hbx hk hq)
  go_wp2_with fail
  exact bodyPost_ret (res_longErr rfl _ _ (w.heap.size + 1 + 1) rfl h4) rfl ⟨rfl, hb⟩

set_option maxHeartbeats 400000 in
theorem bring_trap (bits : Nat) (s : Bool) (x : Int) (m : ByteArray) (h1 : 1 ≤ bits) (h2 : bits ≤ 64) (hx : x.natAbs ≤ 100000000000000000000000000000000000000000000000000000000000) (hh : hasW bits s x = false) (hw : (m.toList == [119, 114, 97, 112]) = false) (ht : (m.toList == [116, 114, 97, 112]) = true) (w : World) :
    Calls Tryz.prog 24 #[.agg (wv bits s), .agg (lv x), .string m] w fun e w' => e = .returned (.tuple #[.agg (lv 0), .int .i64 1]) ∧ Below w.heap.size w w' := by
  have HB := Lib.hid (wrapBd s h2 hx)
  clear hx
  go_enter Tryz.func24, Tryz.ntmps24
  go_upto_region 1 with (fail)
  refine wp_world (fun W => W.heap[w.heap.size]? = some (.cells (wv bits s) 50 (0, 0)) ∧ W.heap[w.heap.size + 1]? = some (.cells (lv x) 57 (0, 0)) ∧ W.heap[w.heap.size + 1 + 1]? = some (.cells (lv 0) 57 (0, 0)) ∧ Below w.heap.size w W) ⟨ha_old (ha_old (ha_new rfl)), ha_old (ha_new (by simp)), by rw [← zero_long]; exact ha_new (by simp), (((Below.refl _ _).alloc (Nat.le_refl _) _).alloc (by simp) _).alloc (by simp; omega) _⟩ ?_
  rintro W ⟨h0, h3, h4, hb⟩
  apply wp_region_lit
  ((with_reducible apply wl_rowG); exact rfl; exact rfl; exact rowW (by with_reducible assumption))
  refine wl_ck rfl (fun K hK => ?_); go_simp; refine ⟨_, _, ⟨rfl, rfl⟩, hK _ _ ⟨_, ends_any bits s h1 h2 _, ?_⟩⟩; clear hK K; rintro e w1 ⟨rfl, hb1⟩; refine ⟨_, rfl, ?_⟩; simp only [put_lit, List.set_cons_zero, List.set_cons_succ]
  replace h0 := below_look hb1 h0; replace h3 := below_look hb1 h3; replace h4 := below_look hb1 h4; replace hb := hb.trans (hb1.mono hb.size); clear hb1
  refine wl_k rfl (fun K hK => ?_); go_simp; refine hK _ ?_; clear hK K
  refine wl_k rfl (fun K hK => ?_); go_simp; refine hK _ ?_; clear hK K
  refine wl_k rfl (fun K hK => ?_); go_simp; refine hK _ ?_; clear hK K
  (have lth0p2 := heap_lt h0; have lth3p2 := heap_lt h3; have lth4p2 := heap_lt h4; have lsp2 := hb.size; (with_reducible apply wl_new75); intro w2 p2 hbn hlp2 hp2; replace h0 := below_look hbn h0; replace h3 := below_look hbn h3; replace h4 := below_look hbn h4; replace hb := hb.trans (hbn.mono hb.size); clear hbn)
  (have lth0p3 := heap_lt h0; have lth3p3 := heap_lt h3; have lth4p3 := heap_lt h4; have lthp2p3 := heap_lt hp2; have lsp3 := hb.size; (with_reducible apply wl_new75); intro w3 p3 hbn hlp3 hp3; replace h0 := below_look hbn h0; replace h3 := below_look hbn h3; replace h4 := below_look hbn h4; replace hp2 := below_look hbn hp2; replace hb := hb.trans (hbn.mono hb.size); clear hbn)
  ((with_reducible apply wl_put75); exact rfl; exact rfl; exact hp2; intro w4 hbx hk hq; replace h0 := hk _ _ (by omega) h0; replace h3 := hk _ _ (by omega) h3; replace h4 := hk _ _ (by omega) h4; replace hp3 := hk _ _ (by omega) hp3; replace hb := hbx _ _ (by omega) hb; clear hp2; have hp2 := hq; clear hbx hk hq)
  ((with_reducible apply wl_put75); exact rfl; exact rfl; exact hp3; intro w5 hbx hk hq; replace h0 := hk _ _ (by omega) h0; replace h3 := hk _ _ (by omega) h3; replace h4 := hk _ _ (by omega) h4; replace hp2 := hk _ _ (by omega) hp2; replace hb := hbx _ _ (by omega) hb; clear hp3; have hp3 := hq; clear hbx hk hq)
  go_upto_region 2 with (fail)
  apply wp_region_lit
  ((with_reducible apply wl_rowG); exact rfl; exact rfl; exact rowW (by with_reducible assumption))
  ((with_reducible apply wl_rowG); exact rfl; exact rfl; (first | exact rowL (by with_reducible assumption) | exact rowD (by with_reducible assumption) | exact rowR (by with_reducible assumption)))
  refine wl_ck rfl (fun K hK => ?_); go_simp; refine ⟨_, _, ⟨rfl, rfl⟩, hK _ _ ⟨_, has_any bits s x h1 h2 HB.out.a _, ?_⟩⟩; clear hK K; rintro e w6 ⟨rfl, hb1⟩; refine ⟨_, rfl, ?_⟩; simp only [put_lit, List.set_cons_zero, List.set_cons_succ]
  replace h0 := below_look hb1 h0; replace h3 := below_look hb1 h3; replace h4 := below_look hb1 h4; replace hp2 := below_look hb1 hp2; replace hp3 := below_look hb1 hp3; replace hb := hb.trans (hb1.mono hb.size); clear hb1
  refine wl_k rfl (fun K hK => ?_); go_simp; refine hK _ ?_; clear hK K
  go_upto_region 7 with (fail)
  apply wp_region_lit
  refine wl_val rfl (ex_build 57 _ rfl (L := []) rfl built_lzero) ?_
  ((with_reducible apply wl_put75); exact rfl; exact rfl; exact h4; intro w8 hbx hk hq; replace hb := hbx _ _ (by omega) hb; clear h4; have h4 := hq; clear hbx hk hq)
  go_wp2_with fail
  exact bodyPost_ret (res_longErr rfl _ _ (w.heap.size + 1 + 1) rfl h4) rfl ⟨rfl, hb⟩

set_option maxHeartbeats 400000 in
theorem bring_low (bits : Nat) (s : Bool) (x : Int) (m : ByteArray) (h1 : 1 ≤ bits) (h2 : bits ≤ 64) (hx : x.natAbs ≤ 100000000000000000000000000000000000000000000000000000000000) (hh : hasW bits s x = false) (hw : (m.toList == [119, 114, 97, 112]) = false) (ht : (m.toList == [116, 114, 97, 112]) = false) (hc : x < loW bits s) (w : World) :
    Calls Tryz.prog 24 #[.agg (wv bits s), .agg (lv x), .string m] w fun e w' => e = .returned (.tuple #[.agg (lv (loW bits s)), .int .i64 0]) ∧ Below w.heap.size w w' := by
  have HB := Lib.hid (wrapBd s h2 hx)
  have hcz : cz x (loW bits s) < 0 := cz_lt.2 hc
  clear hx hc
  go_enter Tryz.func24, Tryz.ntmps24
  go_upto_region 1 with (fail)
  refine wp_world (fun W => W.heap[w.heap.size]? = some (.cells (wv bits s) 50 (0, 0)) ∧ W.heap[w.heap.size + 1]? = some (.cells (lv x) 57 (0, 0)) ∧ W.heap[w.heap.size + 1 + 1]? = some (.cells (lv 0) 57 (0, 0)) ∧ Below w.heap.size w W) ⟨ha_old (ha_old (ha_new rfl)), ha_old (ha_new (by simp)), by rw [← zero_long]; exact ha_new (by simp), (((Below.refl _ _).alloc (Nat.le_refl _) _).alloc (by simp) _).alloc (by simp; omega) _⟩ ?_
  rintro W ⟨h0, h3, h4, hb⟩
  apply wp_region_lit
  ((with_reducible apply wl_rowG); exact rfl; exact rfl; exact rowW (by with_reducible assumption))
  refine wl_ck rfl (fun K hK => ?_); go_simp; refine ⟨_, _, ⟨rfl, rfl⟩, hK _ _ ⟨_, ends_any bits s h1 h2 _, ?_⟩⟩; clear hK K; rintro e w1 ⟨rfl, hb1⟩; refine ⟨_, rfl, ?_⟩; simp only [put_lit, List.set_cons_zero, List.set_cons_succ]
  replace h0 := below_look hb1 h0; replace h3 := below_look hb1 h3; replace h4 := below_look hb1 h4; replace hb := hb.trans (hb1.mono hb.size); clear hb1
  refine wl_k rfl (fun K hK => ?_); go_simp; refine hK _ ?_; clear hK K
  refine wl_k rfl (fun K hK => ?_); go_simp; refine hK _ ?_; clear hK K
  refine wl_k rfl (fun K hK => ?_); go_simp; refine hK _ ?_; clear hK K
  (have lth0p2 := heap_lt h0; have lth3p2 := heap_lt h3; have lth4p2 := heap_lt h4; have lsp2 := hb.size; (with_reducible apply wl_new75); intro w2 p2 hbn hlp2 hp2; replace h0 := below_look hbn h0; replace h3 := below_look hbn h3; replace h4 := below_look hbn h4; replace hb := hb.trans (hbn.mono hb.size); clear hbn)
  (have lth0p3 := heap_lt h0; have lth3p3 := heap_lt h3; have lth4p3 := heap_lt h4; have lthp2p3 := heap_lt hp2; have lsp3 := hb.size; (with_reducible apply wl_new75); intro w3 p3 hbn hlp3 hp3; replace h0 := below_look hbn h0; replace h3 := below_look hbn h3; replace h4 := below_look hbn h4; replace hp2 := below_look hbn hp2; replace hb := hb.trans (hbn.mono hb.size); clear hbn)
  ((with_reducible apply wl_put75); exact rfl; exact rfl; exact hp2; intro w4 hbx hk hq; replace h0 := hk _ _ (by omega) h0; replace h3 := hk _ _ (by omega) h3; replace h4 := hk _ _ (by omega) h4; replace hp3 := hk _ _ (by omega) hp3; replace hb := hbx _ _ (by omega) hb; clear hp2; have hp2 := hq; clear hbx hk hq)
  ((with_reducible apply wl_put75); exact rfl; exact rfl; exact hp3; intro w5 hbx hk hq; replace h0 := hk _ _ (by omega) h0; replace h3 := hk _ _ (by omega) h3; replace h4 := hk _ _ (by omega) h4; replace hp2 := hk _ _ (by omega) hp2; replace hb := hbx _ _ (by omega) hb; clear hp3; have hp3 := hq; clear hbx hk hq)
  go_upto_region 2 with (fail)
  apply wp_region_lit
  ((with_reducible apply wl_rowG); exact rfl; exact rfl; exact rowW (by with_reducible assumption))
  ((with_reducible apply wl_rowG); exact rfl; exact rfl; (first | exact rowL (by with_reducible assumption) | exact rowD (by with_reducible assumption) | exact rowR (by with_reducible assumption)))
  refine wl_ck rfl (fun K hK => ?_); go_simp; refine ⟨_, _, ⟨rfl, rfl⟩, hK _ _ ⟨_, has_any bits s x h1 h2 HB.out.a _, ?_⟩⟩; clear hK K; rintro e w6 ⟨rfl, hb1⟩; refine ⟨_, rfl, ?_⟩; simp only [put_lit, List.set_cons_zero, List.set_cons_succ]
  replace h0 := below_look hb1 h0; replace h3 := below_look hb1 h3; replace h4 := below_look hb1 h4; replace hp2 := below_look hb1 hp2; replace hp3 := below_look hb1 hp3; replace hb := hb.trans (hb1.mono hb.size); clear hb1
  refine wl_k rfl (fun K hK => ?_); go_simp; refine hK _ ?_; clear hK K
  go_upto_region 8 with (fail)
  apply wp_region_lit
  ((with_reducible apply wl_rowG); exact rfl; exact rfl; (first | exact rowL (by with_reducible assumption) | exact rowD (by with_reducible assumption) | exact rowR (by with_reducible assumption)))
  ((with_reducible apply wl_rowG); exact rfl; exact rfl; (first | exact rowL (by with_reducible assumption) | exact rowD (by with_reducible assumption) | exact rowR (by with_reducible assumption)))
  refine wl_ck rfl (fun K hK => ?_); go_simp; refine ⟨_, _, ⟨rfl, rfl⟩, hK _ _ ⟨_, compare_any _ _ HB.out.a HB.out.l _, ?_⟩⟩; clear hK K; rintro e w7 ⟨rfl, hb1⟩; refine ⟨_, rfl, ?_⟩; simp only [put_lit, List.set_cons_zero, List.set_cons_succ]
  replace h0 := below_look hb1 h0; replace h3 := below_look hb1 h3; replace h4 := below_look hb1 h4; replace hp2 := below_look hb1 hp2; replace hp3 := below_look hb1 hp3; replace hb := hb.trans (hb1.mono hb.size); clear hb1
  refine wl_k rfl (fun K hK => ?_); go_simp; refine hK _ ?_; clear hK K
  refine wl_k rfl (fun K hK => ?_); go_simp; refine hK _ ?_; clear hK K
  go_upto_region 9 with (fail)
  apply wp_region_lit
  ((with_reducible apply wl_rowG); exact rfl; exact rfl; (first | exact rowL (by with_reducible assumption) | exact rowD (by with_reducible assumption) | exact rowR (by with_reducible assumption)))
  ((with_reducible apply wl_put75); exact rfl; exact rfl; exact h4; intro w8 hbx hk hq; replace hb := hbx _ _ (by omega) hb; clear h4; have h4 := hq; clear hbx hk hq)
  go_wp2_with fail
  exact bodyPost_ret (res_longErr rfl _ _ (w.heap.size + 1 + 1) rfl h4) rfl ⟨rfl, hb⟩

set_option maxHeartbeats 400000 in
theorem bring_high (bits : Nat) (s : Bool) (x : Int) (m : ByteArray) (h1 : 1 ≤ bits) (h2 : bits ≤ 64) (hx : x.natAbs ≤ 100000000000000000000000000000000000000000000000000000000000) (hh : hasW bits s x = false) (hw : (m.toList == [119, 114, 97, 112]) = false) (ht : (m.toList == [116, 114, 97, 112]) = false) (hc : loW bits s ≤ x) (w : World) :
    Calls Tryz.prog 24 #[.agg (wv bits s), .agg (lv x), .string m] w fun e w' => e = .returned (.tuple #[.agg (lv (hiW bits s)), .int .i64 0]) ∧ Below w.heap.size w w' := by
  have HB := Lib.hid (wrapBd s h2 hx)
  have hcz : 0 ≤ cz x (loW bits s) := by have := cz_lt (a := x) (b := loW bits s); omega
  clear hx hc
  go_enter Tryz.func24, Tryz.ntmps24
  go_upto_region 1 with (fail)
  refine wp_world (fun W => W.heap[w.heap.size]? = some (.cells (wv bits s) 50 (0, 0)) ∧ W.heap[w.heap.size + 1]? = some (.cells (lv x) 57 (0, 0)) ∧ W.heap[w.heap.size + 1 + 1]? = some (.cells (lv 0) 57 (0, 0)) ∧ Below w.heap.size w W) ⟨ha_old (ha_old (ha_new rfl)), ha_old (ha_new (by simp)), by rw [← zero_long]; exact ha_new (by simp), (((Below.refl _ _).alloc (Nat.le_refl _) _).alloc (by simp) _).alloc (by simp; omega) _⟩ ?_
  rintro W ⟨h0, h3, h4, hb⟩
  apply wp_region_lit
  ((with_reducible apply wl_rowG); exact rfl; exact rfl; exact rowW (by with_reducible assumption))
  refine wl_ck rfl (fun K hK => ?_); go_simp; refine ⟨_, _, ⟨rfl, rfl⟩, hK _ _ ⟨_, ends_any bits s h1 h2 _, ?_⟩⟩; clear hK K; rintro e w1 ⟨rfl, hb1⟩; refine ⟨_, rfl, ?_⟩; simp only [put_lit, List.set_cons_zero, List.set_cons_succ]
  replace h0 := below_look hb1 h0; replace h3 := below_look hb1 h3; replace h4 := below_look hb1 h4; replace hb := hb.trans (hb1.mono hb.size); clear hb1
  refine wl_k rfl (fun K hK => ?_); go_simp; refine hK _ ?_; clear hK K
  refine wl_k rfl (fun K hK => ?_); go_simp; refine hK _ ?_; clear hK K
  refine wl_k rfl (fun K hK => ?_); go_simp; refine hK _ ?_; clear hK K
  (have lth0p2 := heap_lt h0; have lth3p2 := heap_lt h3; have lth4p2 := heap_lt h4; have lsp2 := hb.size; (with_reducible apply wl_new75); intro w2 p2 hbn hlp2 hp2; replace h0 := below_look hbn h0; replace h3 := below_look hbn h3; replace h4 := below_look hbn h4; replace hb := hb.trans (hbn.mono hb.size); clear hbn)
  (have lth0p3 := heap_lt h0; have lth3p3 := heap_lt h3; have lth4p3 := heap_lt h4; have lthp2p3 := heap_lt hp2; have lsp3 := hb.size; (with_reducible apply wl_new75); intro w3 p3 hbn hlp3 hp3; replace h0 := below_look hbn h0; replace h3 := below_look hbn h3; replace h4 := below_look hbn h4; replace hp2 := below_look hbn hp2; replace hb := hb.trans (hbn.mono hb.size); clear hbn)
  ((with_reducible apply wl_put75); exact rfl; exact rfl; exact hp2; intro w4 hbx hk hq; replace h0 := hk _ _ (by omega) h0; replace h3 := hk _ _ (by omega) h3; replace h4 := hk _ _ (by omega) h4; replace hp3 := hk _ _ (by omega) hp3; replace hb := hbx _ _ (by omega) hb; clear hp2; have hp2 := hq; clear hbx hk hq)
  ((with_reducible apply wl_put75); exact rfl; exact rfl; exact hp3; intro w5 hbx hk hq; replace h0 := hk _ _ (by omega) h0; replace h3 := hk _ _ (by omega) h3; replace h4 := hk _ _ (by omega) h4; replace hp2 := hk _ _ (by omega) hp2; replace hb := hbx _ _ (by omega) hb; clear hp3; have hp3 := hq; clear hbx hk hq)
  go_upto_region 2 with (fail)
  apply wp_region_lit
  ((with_reducible apply wl_rowG); exact rfl; exact rfl; exact rowW (by with_reducible assumption))
  ((with_reducible apply wl_rowG); exact rfl; exact rfl; (first | exact rowL (by with_reducible assumption) | exact rowD (by with_reducible assumption) | exact rowR (by with_reducible assumption)))
  refine wl_ck rfl (fun K hK => ?_); go_simp; refine ⟨_, _, ⟨rfl, rfl⟩, hK _ _ ⟨_, has_any bits s x h1 h2 HB.out.a _, ?_⟩⟩; clear hK K; rintro e w6 ⟨rfl, hb1⟩; refine ⟨_, rfl, ?_⟩; simp only [put_lit, List.set_cons_zero, List.set_cons_succ]
  replace h0 := below_look hb1 h0; replace h3 := below_look hb1 h3; replace h4 := below_look hb1 h4; replace hp2 := below_look hb1 hp2; replace hp3 := below_look hb1 hp3; replace hb := hb.trans (hb1.mono hb.size); clear hb1
  refine wl_k rfl (fun K hK => ?_); go_simp; refine hK _ ?_; clear hK K
  go_upto_region 8 with (fail)
  apply wp_region_lit
  ((with_reducible apply wl_rowG); exact rfl; exact rfl; (first | exact rowL (by with_reducible assumption) | exact rowD (by with_reducible assumption) | exact rowR (by with_reducible assumption)))
  ((with_reducible apply wl_rowG); exact rfl; exact rfl; (first | exact rowL (by with_reducible assumption) | exact rowD (by with_reducible assumption) | exact rowR (by with_reducible assumption)))
  refine wl_ck rfl (fun K hK => ?_); go_simp; refine ⟨_, _, ⟨rfl, rfl⟩, hK _ _ ⟨_, compare_any _ _ HB.out.a HB.out.l _, ?_⟩⟩; clear hK K; rintro e w7 ⟨rfl, hb1⟩; refine ⟨_, rfl, ?_⟩; simp only [put_lit, List.set_cons_zero, List.set_cons_succ]
  replace h0 := below_look hb1 h0; replace h3 := below_look hb1 h3; replace h4 := below_look hb1 h4; replace hp2 := below_look hb1 hp2; replace hp3 := below_look hb1 hp3; replace hb := hb.trans (hb1.mono hb.size); clear hb1
  refine wl_k rfl (fun K hK => ?_); go_simp; refine hK _ ?_; clear hK K
  refine wl_k rfl (fun K hK => ?_); go_simp; refine hK _ ?_; clear hK K
  go_upto_region 10 with (fail)
  apply wp_region_lit
  ((with_reducible apply wl_rowG); exact rfl; exact rfl; (first | exact rowL (by with_reducible assumption) | exact rowD (by with_reducible assumption) | exact rowR (by with_reducible assumption)))
  ((with_reducible apply wl_put75); exact rfl; exact rfl; exact h4; intro w8 hbx hk hq; replace hb := hbx _ _ (by omega) hb; clear h4; have h4 := hq; clear hbx hk hq)
  go_wp2_with fail
  exact bodyPost_ret (res_longErr rfl _ _ (w.heap.size + 1 + 1) rfl h4) rfl ⟨rfl, hb⟩

theorem bring_any (bits : Nat) (s : Bool) (x : Int) (m : ByteArray) (h1 : 1 ≤ bits) (h2 : bits ≤ 64) (hx : x.natAbs ≤ 100000000000000000000000000000000000000000000000000000000000) (w : World) :
    Calls Tryz.prog 24 #[.agg (wv bits s), .agg (lv x), .string m] w fun e w' => e = .returned (.tuple #[.agg (lv (bringW bits s m.toList x).1), .int .i64 (bringW bits s m.toList x).2]) ∧ Below w.heap.size w w' := by
  unfold bringW isWrap isTrap
  cases hh : hasW bits s x
  · cases hw : (m.toList == [119, 114, 97, 112])
    · cases ht : (m.toList == [116, 114, 97, 112])
      · by_cases hc : x < loW bits s
        · simpa [hc] using bring_low bits s x m h1 h2 hx hh hw ht hc w
        · simpa [hc] using bring_high bits s x m h1 h2 hx hh hw ht (by omega) w
      · simpa using bring_trap bits s x m h1 h2 hx hh hw ht w
    · simpa using bring_wrap bits s x m h1 h2 hx hh hw w
  · simpa using bring_has bits s x m h1 h2 hx hh w
end Go.Proofs.YtclainfdeghgnaaGreatDoor
namespace Go.Proofs.YtclainfdeghgnaaGreatDoor
open Go.RowKit Go.Proofs.YtclainfdeghgnaaGreatDoor.Nm

theorem u113 : Tryz.prog.underlying 93 = some (.pointer 96) := by kernel_rfl
theorem u158 : Tryz.prog.underlying 134 = some .unsafePointer := by kernel_rfl
theorem infoBuilder : (Tryz.prog.info? 96).map (·.size) = some 2 := by kernel_rfl
theorem infoByte : (Tryz.prog.info? 5).map (fun i => (i.zero, i.size, i.bytes)) = some (some (.int .u8 0), 1, 1) := by kernel_rfl
theorem liesBuilder : liesAt Tryz.prog Tryz.prog.depth 96 (2 / Tryz.prog.cellsOf 96) 0 96 1 = true := by kernel_rfl

set_option maxHeartbeats 1000000 in
set_option maxRecDepth 100000 in
theorem copyCheck_used (b : Nat) (w : World) (h0 : w.cell? ⟨b, 0, none⟩ = some (.pointer (some ⟨b, 0, none⟩))) :
    Calls Tryz.prog 84 #[.pointer (some ⟨b, 0, none⟩)] w fun e w' => e = .returned (.tuple #[]) ∧ w' = w := by
  obtain ⟨j, hj, hjs⟩ := info_of infoBuilder
  go_enter Tryz.func84, Tryz.ntmps84
  go_wp2
  rw [Lib.run_neq_ptr_same w _ u113 hj]
  go_wp2
  go_end0
  exact ⟨rfl, rfl⟩

set_option maxHeartbeats 1000000 in
set_option maxRecDepth 100000 in
theorem copyCheck_fresh (b : Nat) (w : World) (h0 : w.cell? ⟨b, 0, none⟩ = some (.pointer none)) (hsh : w.shape? b = some (96, 2)) (hfz : w.frozen? ⟨b, 0, none⟩ = false) :
    Calls Tryz.prog 84 #[.pointer (some ⟨b, 0, none⟩)] w fun e w' => e = .returned (.tuple #[]) ∧ w' = w.setCell ⟨b, 0, none⟩ (.pointer (some ⟨b, 0, none⟩)) := by
  obtain ⟨j, hj, hjs⟩ := info_of infoBuilder
  go_enter Tryz.func84, Tryz.ntmps84
  go_wp2
  rw [Lib.run_to_unsafe w ⟨b, 0, none⟩ u113 u158 hj (by rw [hjs]; decide) hsh (Nat.zero_lt_succ 1)]
  simp only [Result.andThen]
  rw [Oper.upon_value]
  go_wp2
  rw [run_callFunc_extern Tryz.func96 (by kernel_rfl) (by kernel_rfl) (by kernel_rfl) (e := Extern.AbiNoEscape.same) (by kernel_rfl)]
  rw [Lib.run_noEscape]
  simp only [Result.andThen]
  rw [Oper.upon_value]
  go_wp2
  rw [Lib.run_from_unsafe w ⟨b, 0, none⟩ u158 u113 hj hsh liesBuilder]
  simp only [Result.andThen]
  rw [Oper.upon_value]
  go_wp2
  go_end0
  exact ⟨rfl, rfl⟩

theorem copyCheck_any (B b : Nat) (bs : List Value) (w : World) (h : Lib.IsBuilder 96 5 B b bs w) :
    Calls Tryz.prog 84 #[.pointer (some ⟨b, 0, none⟩)] w fun e w' => e = .returned (.tuple #[]) ∧ (Lib.BuilderAt 96 5 B b (.pointer (some ⟨b, 0, none⟩)) bs w' ∧ Below B w w') := by
  rcases h with h | h
  · refine (copyCheck_fresh b w h.cell0 h.shape h.frozen0).mono ?_
    rintro e w' ⟨rfl, rfl⟩
    exact ⟨rfl, h.used _, (Below.refl B w).setCell (p := ⟨b, 0, none⟩) h.1 _⟩
  · refine (copyCheck_used b w h.cell0).mono ?_
    rintro e w' ⟨rfl, rfl⟩
    exact ⟨rfl, h, Below.refl B _⟩

set_option maxHeartbeats 2000000 in
set_option maxRecDepth 100000 in
theorem writeByte_any (B b : Nat) (bs : List Value) (c : Int) (w : World) (h : Lib.IsBuilder 96 5 B b bs w) (hlen : bs.length + 1 ≤ 140737488355328) (hBw : B ≤ w.heap.size) :
    Calls Tryz.prog 59 #[.pointer (some ⟨b, 0, none⟩), .int .u8 c] w fun e w' => e = .returned .nilIface ∧ (Lib.BuilderAt 96 5 B b (.pointer (some ⟨b, 0, none⟩)) (bs ++ [.int .u8 c]) w' ∧ Below B w w') := by
  obtain ⟨i0, hi, hz0, hz1, hz2⟩ := info_parts infoByte
  go_enter Tryz.func59, Tryz.ntmps59
  go_wp2_with (go_at_call 84; refine (copyCheck_any B b bs _ h).mono ?_)
  rintro e w1 ⟨rfl, h1, hb1⟩
  obtain ⟨hB, v, hbk, hown, hne⟩ := h1
  have c0 : w1.cell? ⟨b, 0, none⟩ = some (.pointer (some ⟨b, 0, none⟩)) := by rw [Lib.cell_of_heap hbk]; rfl
  have c1 : w1.cell? ⟨b, 1, none⟩ = some v := by rw [Lib.cell_of_heap hbk]; rfl
  go_wp2_with (at_builtin; refine wpList_append_own _ rfl _ _ 94 rfl B 5 i0 (.int .u8 0) 1 1 u114 hi hz0 hz1 hz2 rfl (by decide) _ _ _ rfl (hown.alloc _) ⟨w1.heap.size, 0, none⟩ 1 1 [.int .u8 c] rfl rfl ?c1 ?c2 ?c3 ?c4 ?c5 ?_)
  case c1 =>
    intro j u hj
    match j, hj with
    | 0, hj => simp at hj; subst hj; simp [Addr.add]
  case c2 => intro u hu; simp at hu; subst hu; rfl
  case c3 => unfold maxLen; omega
  case c4 => omega
  case c5 => have := hb1.size; simp; omega
  intro v' w2 hown' hgrow _
  have hlt : b < w1.heap.size := heap_lt hbk
  have hb2 : w2.heap[b]? = some (.cells #[.pointer (some ⟨b, 0, none⟩), v] 96 (0, 0)) := by
    rw [hgrow.block b (by simp; omega) (fun e => hne e.symm), Lib.alloc_old w1 _ b hlt]
    exact hbk
  have d0 : w2.cell? ⟨b, 0, none⟩ = some (.pointer (some ⟨b, 0, none⟩)) := by rw [Lib.cell_of_heap hb2]; rfl
  have d1 : w2.cell? ⟨b, 1, none⟩ = some v := by rw [Lib.cell_of_heap hb2]; rfl
  have d2 : w2.frozen? ⟨b, 1, none⟩ = false := Lib.frozen_of_heap hb2 1
  have hlen' : (bs ++ [Value.int IntKind.u8 c]).length = bs.length + 1 := by simp
  obtain ⟨g, cap, rfl⟩ : ∃ g cap, v' = .slice (some ⟨g, 0, none⟩) (bs.length + 1) cap := by
    rcases hown'.2 with ⟨_, h0⟩ | ⟨g, cap, cur, hv, _⟩
    · omega
    · exact ⟨g, cap, hv⟩
  go_wp2
  go_ret
  refine ⟨rfl, ?_, ?_⟩
  · exact Lib.BuilderAt.put (T := 96) (e := 5) hB hb2 (bs' := bs ++ [.int .u8 c]) (by simpa using hown') (by decide)
  · exact ((hb1.alloc (by have := hb1.size; omega) _).grown hgrow (by have := hb1.size; simp; omega) (fun k hk => (hown.lt k hk).1)).setCell (p := ⟨b, 1, none⟩) hB _
end Go.Proofs.YtclainfdeghgnaaGreatDoor
