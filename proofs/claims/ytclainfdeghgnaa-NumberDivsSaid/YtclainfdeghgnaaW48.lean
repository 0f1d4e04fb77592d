/- Sums and differences of decimals; which one is greater. -/
import Derived.Test.YtclainfdeghgnaaW30
import Derived.Test.YtclainfdeghgnaaK9
import Derived.Outline
namespace Go.Proofs.Ytclainfdeghgnaa
open Go.RowKit Go.Proofs.Ytclainfdeghgnaa.Nm
theorem one3 {w : World} {ad : Addr} {v : Value} (h : w.cell? ad = some v) : OneAt w 3 ad v := one_of u3 rfl h
def t10 (n : Int) : Int := ((10 ^ n.toNat : Nat) : Int)
theorem p10_le {n k : Nat} (h : n ≤ k) : 10 ^ n ≤ 10 ^ k := Nat.pow_le_pow_right (by decide) h
theorem t10_abs (n : Int) : (t10 n).natAbs = 10 ^ n.toNat := Int.natAbs_natCast _
theorem t10_pos (n : Int) : 0 < t10 n := by unfold t10; have := Nat.pow_pos (n := n.toNat) (show 0 < 10 by decide); omega
structure UBd (u k scale : Int) : Prop where
  u1 : -100000000000000000 ≤ u
  u2 : u ≤ 100000000000000000
  k0 : 0 ≤ k
  ks : k ≤ scale
  s9 : scale ≤ 9
theorem UBd.m {u k scale : Int} (h : UBd u k scale) : (u * t10 (scale - k)).natAbs ≤ 100000000000000000000000000 := by
  obtain ⟨h1, h2, h3, h4, h5⟩ := h
  rw [Int.natAbs_mul, t10_abs]
  have a1 : u.natAbs ≤ 100000000000000000 := by omega
  have a2 : 10 ^ (scale - k).toNat ≤ 10 ^ 9 := p10_le (by omega)
  exact Nat.le_trans (Nat.mul_le_mul a1 a2) (by decide)
theorem UBd.m64 {u k scale : Int} (h : UBd u k scale) : u.natAbs * (t10 (scale - k)).natAbs < 10 ^ 64 := by
  have := h.m
  rw [Int.natAbs_mul] at this
  exact Nat.lt_of_le_of_lt this (by decide)
set_option maxHeartbeats 1000000 in
theorem units_any (u k scale : Int) (HU : Hid (UBd u k scale)) (w : World) :
    Calls Try.prog 85 #[.agg (dc u k), .int .i64 scale] w fun e w' => e = .returned (.agg (lv (u * t10 (scale - k)))) ∧ Below w.heap.size w w' := by
  have i1 : IntKind.i64.wrap (scale - k) = scale - k := IntWalk.i64_in _ (by obtain ⟨_, _, _, _, _⟩ := HU.out; omega)
  go_enter Try.func85, Try.ntmps85
  go_upto_region 1 with (fail)
  refine wp_world (fun W => W.heap[w.heap.size]? = some (.cells (dc u k) 33 (0, 0)) ∧ W.heap[w.heap.size + 1]? = some (.cells (lv 0) 75 (0, 0)) ∧ Below w.heap.size w W) ⟨ha_old (ha_new rfl), by rw [← zero_long]; exact ha_new (by simp), ((Below.refl _ _).alloc (Nat.le_refl _) _).alloc (by simp) _⟩ ?_
  rintro W ⟨h0, h1, hb⟩
  have a0 := dc0 h0
  have a1 := dc1 h0
  replace hb := hb.drew
  refine wp_region_held_drew (S := Kept [w.heap.size + 1] W) mixed (Kept.drew [w.heap.size + 1] W) (fun hS => ?_)
  refine ha_k (i := 0) rfl (by kernel_rfl) (by kernel_rfl) (by kernel_rfl) (fun _ _ _ _ h => h) hS rfl (fun K hK => ?_); go_simp; refine hK _ ?_; clear hK K; try simp only [put_lit, List.set_cons_zero, List.set_cons_succ]
  refine ha_val (i := 1) rfl (by kernel_rfl) (by kernel_rfl) (by kernel_rfl) (fun _ _ _ h => h) hS rfl (fun w' hw' => ex_one rfl (one3 (hw'.cell a0 (by simp <;> omega)))) ?_; try simp only [put_lit, List.set_cons_zero, List.set_cons_succ]
  refine ha_k (i := 3) rfl (by kernel_rfl) (by kernel_rfl) (by kernel_rfl) (fun _ _ _ _ h => h) hS rfl (fun K hK => ?_); go_simp; refine hK _ ?_; clear hK K; try simp only [put_lit, List.set_cons_zero, List.set_cons_succ]
  refine ha_k (i := 4) rfl (by kernel_rfl) (by kernel_rfl) (by kernel_rfl) (fun _ _ _ _ h => h) hS rfl (fun K hK => ?_); go_simp; refine hK _ ?_; clear hK K; try simp only [put_lit, List.set_cons_zero, List.set_cons_succ]
  refine ha_val (i := 5) rfl (by kernel_rfl) (by kernel_rfl) (by kernel_rfl) (fun _ _ _ h => h) hS rfl (fun w' hw' => ex_one rfl (one3 (hw'.cell a1 (by simp <;> omega)))) ?_; try simp only [put_lit, List.set_cons_zero, List.set_cons_succ]
  refine ha_k (i := 6) rfl (by kernel_rfl) (by kernel_rfl) (by kernel_rfl) (fun _ _ _ _ h => h) hS rfl (fun K hK => ?_); go_simp; refine hK _ ?_; clear hK K; try simp only [put_lit, List.set_cons_zero, List.set_cons_succ]
  try rw [i1]
  refine ha_call (i := 2) (by kernel_rfl) rfl rfl (fun K hK => ?_); go_simp; refine ⟨_, _, ⟨rfl, rfl⟩, hK _ _ ⟨_, small_any u (by have := HU.out.u1; omega) (by have := HU.out.u2; omega) _, ?_⟩⟩; clear hK K; rintro e w1 ⟨rfl, hb1⟩; refine ⟨_, rfl, hS.below hb1, ?_⟩; replace hS := hS.below hb1; replace h1 := below_look hb1 h1; replace hb := hb.trans (hb1.mono hb.size); clear hb1; try simp only [put_lit, List.set_cons_zero, List.set_cons_succ]
  refine ha_call (i := 7) (by kernel_rfl) rfl rfl (fun K hK => ?_); go_simp; refine ⟨_, _, ⟨rfl, rfl⟩, hK _ _ ⟨_, pow10_any (scale - k) (Nat.lt_of_le_of_lt (p10_le (show (scale - k).toNat ≤ 9 by have := HU.out; have := this.k0; have := HU.out.s9; omega)) (by decide)) (by have := HU.out.ks; omega) (by have := HU.out.s9; have := HU.out.k0; omega) _, ?_⟩⟩; clear hK K; rintro e w2 ⟨rfl, hb1⟩; refine ⟨_, rfl, hS.below hb1, ?_⟩; replace hS := hS.below hb1; replace h1 := below_look hb1 h1; replace hb := hb.trans (hb1.mono hb.size); clear hb1; try simp only [put_lit, List.set_cons_zero, List.set_cons_succ]
  refine ha_call (i := 8) (by kernel_rfl) rfl rfl (fun K hK => ?_); go_simp; refine ⟨_, _, ⟨rfl, rfl⟩, hK _ _ ⟨_, mul_any u (t10 (scale - k)) HU.out.m64 _, ?_⟩⟩; clear hK K; rintro e w3 ⟨rfl, hb1⟩; refine ⟨_, rfl, hS.below hb1, ?_⟩; replace hS := hS.below hb1; replace h1 := below_look hb1 h1; replace hb := hb.trans (hb1.mono hb.size); clear hb1; try simp only [put_lit, List.set_cons_zero, List.set_cons_succ]
  refine ha_store (i := 9) (by kernel_rfl) rfl rfl 75 _ _ rfl _ (lv (u * t10 (scale - k))) rfl rfl 75 _ h1 (by rw [info75, lv_size]) (by rw [lv_size, lv_size]) (lv_one _) (hS.setRow (by simp) _) (fun hS => ?_); try simp only [put_lit, List.set_cons_zero, List.set_cons_succ]
  refine wpAnyH_done (by kernel_rfl) ?_ _
  go_wp2_with fail
  exact bodyPost_ret (res_long rfl _ _ (w.heap.size + 1) rfl (hr_new h1)) rfl ⟨rfl, below_setRow hb (by omega) _⟩
/-- What a sum of decimals is: its units, its scale, its error. -/
def sumS (u1 k1 u2 k2 : Int) (f : Int → Int → Int) : Int × Int × Int :=
  if allD [(u1, k1), (u2, k2)] then (madeU (f (u1 * t10 (max k1 k2 - k1)) (u2 * t10 (max k1 k2 - k2))), madeK (f (u1 * t10 (max k1 k2 - k1)) (u2 * t10 (max k1 k2 - k2))) (max k1 k2), madeE (f (u1 * t10 (max k1 k2 - k1)) (u2 * t10 (max k1 k2 - k2)))) else (0, 0, 4)
def addS (u1 k1 u2 k2 : Int) : Int × Int × Int := sumS u1 k1 u2 k2 (· + ·)
def subS (u1 k1 u2 k2 : Int) : Int × Int × Int := sumS u1 k1 u2 k2 (· - ·)
def cmpDS (u1 k1 u2 k2 : Int) : Int × Int := if allD [(u1, k1), (u2, k2)] then (cz (u1 * t10 (9 - k1)) (u2 * t10 (9 - k2)), 0) else (0, 4)
theorem allD2 {u1 k1 u2 k2 : Int} (h : allD [(u1, k1), (u2, k2)] = true) : (-100000000000000000 ≤ u1 ∧ u1 ≤ 100000000000000000 ∧ 0 ≤ k1 ∧ k1 ≤ 9) ∧ (-100000000000000000 ≤ u2 ∧ u2 ≤ 100000000000000000 ∧ 0 ≤ k2 ∧ k2 ≤ 9) := by
  unfold allD at h
  simp only [List.all_cons, List.all_nil, Bool.and_true, Bool.and_eq_true] at h
  exact ⟨validD_iff.1 h.1, validD_iff.1 h.2⟩
theorem ubd1 {u1 k1 u2 k2 : Int} (h : allD [(u1, k1), (u2, k2)] = true) : UBd u1 k1 (max k1 k2) := by
  obtain ⟨⟨a, b, c, d⟩, e, f, g, i⟩ := allD2 h
  exact ⟨a, b, c, by omega, by omega⟩
theorem ubd2 {u1 k1 u2 k2 : Int} (h : allD [(u1, k1), (u2, k2)] = true) : UBd u2 k2 (max k1 k2) := by
  obtain ⟨⟨a, b, c, d⟩, e, f, g, i⟩ := allD2 h
  exact ⟨e, f, g, by omega, by omega⟩
theorem ubd1' {u1 k1 u2 k2 : Int} (h : allD [(u1, k1), (u2, k2)] = true) : UBd u1 k1 9 := by
  obtain ⟨⟨a, b, c, d⟩, e, f, g, i⟩ := allD2 h
  exact ⟨a, b, c, by omega, by omega⟩
theorem ubd2' {u1 k1 u2 k2 : Int} (h : allD [(u1, k1), (u2, k2)] = true) : UBd u2 k2 9 := by
  obtain ⟨⟨a, b, c, d⟩, e, f, g, i⟩ := allD2 h
  exact ⟨e, f, g, by omega, by omega⟩
set_option maxHeartbeats 1000000 in
theorem Add_bad (u1 k1 u2 k2 : Int) (HV : Hid (allD [(u1, k1), (u2, k2)] = false)) (w : World) :
    Calls Try.prog 42 #[.agg (dc u1 k1), .agg (dc u2 k2)] w fun e' w' => e' = .returned (.tuple #[.agg (dc 0 0), .int .i64 4]) ∧ Below w.heap.size w w' := by
  go_enter Try.func42, Try.ntmps42
  go_upto_region 1 with (fail)
  refine wp_world (fun W => W.heap[w.heap.size]? = some (.cells (dc u1 k1) 33 (0, 0)) ∧ W.heap[w.heap.size + 1]? = some (.cells (dc u2 k2) 33 (0, 0)) ∧ W.heap[w.heap.size + 1 + 1]? = some (.cells (dc 0 0) 33 (0, 0)) ∧ Below w.heap.size w W) ⟨ha_old (ha_old (ha_new rfl)), ha_old (ha_new (by simp)), ha_new (by simp), (((Below.refl _ _).alloc (Nat.le_refl _) _).alloc (by simp) _).alloc (by simp; omega) _⟩ ?_
  rintro W ⟨h0, h1, h2, hb⟩
  have a0 := dc0 h0
  have a1 := dc1 h0
  have b0 := dc0 h1
  have b1 := dc1 h1
  go_wp2_with (go_at_call 83; refine (valid_any W.heap.size 2 [(u1, k1), (u2, k2)] (by simp) false (Lib.hid HV.out.symm) _ (ha_new rfl)).mono ?_; rintro e w1 ⟨rfl, hb1⟩; replace hb1 := ((Below.refl W.heap.size W).alloc (Nat.le_refl _) _).trans (hb1.mono (by simp)); clear a0 a1 b0 b1; replace h0 := below_look hb1 h0; replace h1 := below_look hb1 h1; replace h2 := below_look hb1 h2; replace hb := hb.trans (hb1.mono hb.size); clear hb1; have c0 := dc0 h2; have c1 := dc1 h2; have f0 : w1.frozen? ⟨w.heap.size + 1 + 1, 0, none⟩ = false := frozen_of_row _ _ _ _ _ h2; have f1 : w1.frozen? ⟨w.heap.size + 1 + 1, 1, none⟩ = false := frozen_of_row _ _ _ _ _ h2)
  exact bodyPost_ret (res_decErr rfl _ _ (w.heap.size + 1 + 1) rfl ((hs_new (hs_new h2)).trans rfl)) rfl ⟨rfl, (hb.setCell (by simp; omega) _).setCell (by simp; omega) _⟩
set_option maxHeartbeats 1000000 in
theorem Sub_bad (u1 k1 u2 k2 : Int) (HV : Hid (allD [(u1, k1), (u2, k2)] = false)) (w : World) :
    Calls Try.prog 44 #[.agg (dc u1 k1), .agg (dc u2 k2)] w fun e' w' => e' = .returned (.tuple #[.agg (dc 0 0), .int .i64 4]) ∧ Below w.heap.size w w' := by
  go_enter Try.func44, Try.ntmps44
  go_upto_region 1 with (fail)
  refine wp_world (fun W => W.heap[w.heap.size]? = some (.cells (dc u1 k1) 33 (0, 0)) ∧ W.heap[w.heap.size + 1]? = some (.cells (dc u2 k2) 33 (0, 0)) ∧ W.heap[w.heap.size + 1 + 1]? = some (.cells (dc 0 0) 33 (0, 0)) ∧ Below w.heap.size w W) ⟨ha_old (ha_old (ha_new rfl)), ha_old (ha_new (by simp)), ha_new (by simp), (((Below.refl _ _).alloc (Nat.le_refl _) _).alloc (by simp) _).alloc (by simp; omega) _⟩ ?_
  rintro W ⟨h0, h1, h2, hb⟩
  have a0 := dc0 h0
  have a1 := dc1 h0
  have b0 := dc0 h1
  have b1 := dc1 h1
  go_wp2_with (go_at_call 83; refine (valid_any W.heap.size 2 [(u1, k1), (u2, k2)] (by simp) false (Lib.hid HV.out.symm) _ (ha_new rfl)).mono ?_; rintro e w1 ⟨rfl, hb1⟩; replace hb1 := ((Below.refl W.heap.size W).alloc (Nat.le_refl _) _).trans (hb1.mono (by simp)); clear a0 a1 b0 b1; replace h0 := below_look hb1 h0; replace h1 := below_look hb1 h1; replace h2 := below_look hb1 h2; replace hb := hb.trans (hb1.mono hb.size); clear hb1; have c0 := dc0 h2; have c1 := dc1 h2; have f0 : w1.frozen? ⟨w.heap.size + 1 + 1, 0, none⟩ = false := frozen_of_row _ _ _ _ _ h2; have f1 : w1.frozen? ⟨w.heap.size + 1 + 1, 1, none⟩ = false := frozen_of_row _ _ _ _ _ h2)
  exact bodyPost_ret (res_decErr rfl _ _ (w.heap.size + 1 + 1) rfl ((hs_new (hs_new h2)).trans rfl)) rfl ⟨rfl, (hb.setCell (by simp; omega) _).setCell (by simp; omega) _⟩
theorem addB {a b : Int} (ha : a.natAbs ≤ 100000000000000000000000000) (hb : b.natAbs ≤ 100000000000000000000000000) : a.natAbs + b.natAbs < 10 ^ 64 ∧ (a + b).natAbs < 10 ^ 64 ∧ b.natAbs < 10 ^ 64 ∧ a.natAbs + (-b).natAbs < 10 ^ 64 ∧ (a - b).natAbs < 10 ^ 64 := by
  have h : (10 : Nat) ^ 64 = 10000000000000000000000000000000000000000000000000000000000000000 := by decide
  omega
set_option maxHeartbeats 1000000 in
theorem Add_good (u1 k1 u2 k2 : Int) (HV : Hid (allD [(u1, k1), (u2, k2)] = true)) (x y s : Int) (hs : Hid (s = max k1 k2)) (HX : Hid (x = u1 * t10 (s - k1))) (HY : Hid (y = u2 * t10 (s - k2))) (u k e : Int) (hu : Hid (u = madeU (x + y))) (hk : Hid (k = madeK (x + y) s)) (he : Hid (e = madeE (x + y))) (w : World) :
    Calls Try.prog 42 #[.agg (dc u1 k1), .agg (dc u2 k2)] w fun e' w' => e' = .returned (.tuple #[.agg (dc u k), .int .i64 e]) ∧ Below w.heap.size w w' := by
  have B1 := Lib.hid (ubd1 HV.out)
  have B2 := Lib.hid (ubd2 HV.out)
  have AB := Lib.hid (addB (a := x) (b := y) (by rw [HX.out, hs.out]; exact B1.out.m) (by rw [HY.out, hs.out]; exact B2.out.m))
  go_enter Try.func42, Try.ntmps42
  go_upto_region 1 with (fail)
  refine wp_world (fun W => W.heap[w.heap.size]? = some (.cells (dc u1 k1) 33 (0, 0)) ∧ W.heap[w.heap.size + 1]? = some (.cells (dc u2 k2) 33 (0, 0)) ∧ W.heap[w.heap.size + 1 + 1]? = some (.cells (dc 0 0) 33 (0, 0)) ∧ Below w.heap.size w W) ⟨ha_old (ha_old (ha_new rfl)), ha_old (ha_new (by simp)), ha_new (by simp), (((Below.refl _ _).alloc (Nat.le_refl _) _).alloc (by simp) _).alloc (by simp; omega) _⟩ ?_
  rintro W ⟨h0, h1, h2, hb⟩
  have a0 := dc0 h0
  have a1 := dc1 h0
  have b0 := dc0 h1
  have b1 := dc1 h1
  go_upto_region 4 with (go_at_call 83; refine (valid_any W.heap.size 2 [(u1, k1), (u2, k2)] (by simp) true (Lib.hid HV.out.symm) _ (ha_new rfl)).mono ?_; rintro e w1 ⟨rfl, hb1⟩; replace hb1 := ((Below.refl W.heap.size W).alloc (Nat.le_refl _) _).trans (hb1.mono (by simp)); clear a0 a1 b0 b1; replace h0 := below_look hb1 h0; replace h1 := below_look hb1 h1; replace h2 := below_look hb1 h2; replace hb := hb.trans (hb1.mono hb.size); clear hb1; have a1 := dc1 h0; have b1 := dc1 h1)
  clear a1 b1
  replace hb := hb.drew
  rw [← hs.out]
  refine wp_region_held_drew (S := Kept [w.heap.size + 1 + 1] w1) mixed (Kept.drew [w.heap.size + 1 + 1] w1) (fun hS => ?_)
  refine ha_val (i := 0) rfl (by kernel_rfl) (by kernel_rfl) (by kernel_rfl) (fun _ _ _ h => h) hS rfl (fun w' hw' => ex_row rfl (rowDc (hw'.look h0 (by simp <;> omega)))) ?_; try simp only [put_lit, List.set_cons_zero, List.set_cons_succ]
  refine ha_k (i := 1) rfl (by kernel_rfl) (by kernel_rfl) (by kernel_rfl) (fun _ _ _ _ h => h) hS rfl (fun K hK => ?_); go_simp; refine hK _ ?_; clear hK K; try simp only [put_lit, List.set_cons_zero, List.set_cons_succ]
  refine ha_val (i := 3) rfl (by kernel_rfl) (by kernel_rfl) (by kernel_rfl) (fun _ _ _ h => h) hS rfl (fun w' hw' => ex_row rfl (rowDc (hw'.look h1 (by simp <;> omega)))) ?_; try simp only [put_lit, List.set_cons_zero, List.set_cons_succ]
  refine ha_k (i := 4) rfl (by kernel_rfl) (by kernel_rfl) (by kernel_rfl) (fun _ _ _ _ h => h) hS rfl (fun K hK => ?_); go_simp; refine hK _ ?_; clear hK K; try simp only [put_lit, List.set_cons_zero, List.set_cons_succ]
  refine ha_k (i := 7) rfl (by kernel_rfl) (by kernel_rfl) (by kernel_rfl) (fun _ _ _ _ h => h) hS rfl (fun K hK => ?_); go_simp; refine hK _ ?_; clear hK K; try simp only [put_lit, List.set_cons_zero, List.set_cons_succ]
  refine ha_call (i := 2) (by kernel_rfl) rfl rfl (fun K hK => ?_); go_simp; refine ⟨_, _, ⟨rfl, rfl⟩, hK _ _ ⟨_, units_any u1 k1 s (Lib.hid (hs.out ▸ B1.out)) _, ?_⟩⟩; clear hK K; rintro e w2 ⟨rfl, hb1⟩; refine ⟨_, rfl, hS.below hb1, ?_⟩; replace hS := hS.below hb1; replace h2 := below_look hb1 h2; replace hb := hb.trans (hb1.mono hb.size); clear hb1; rw [← HX.out]; try simp only [put_lit, List.set_cons_zero, List.set_cons_succ]
  refine ha_call (i := 5) (by kernel_rfl) rfl rfl (fun K hK => ?_); go_simp; refine ⟨_, _, ⟨rfl, rfl⟩, hK _ _ ⟨_, units_any u2 k2 s (Lib.hid (hs.out ▸ B2.out)) _, ?_⟩⟩; clear hK K; rintro e w3 ⟨rfl, hb1⟩; refine ⟨_, rfl, hS.below hb1, ?_⟩; replace hS := hS.below hb1; replace h2 := below_look hb1 h2; replace hb := hb.trans (hb1.mono hb.size); clear hb1; rw [← HY.out]; try simp only [put_lit, List.set_cons_zero, List.set_cons_succ]
  refine ha_call (i := 6) (by kernel_rfl) rfl rfl (fun K hK => ?_); go_simp; refine ⟨_, _, ⟨rfl, rfl⟩, hK _ _ ⟨_, add_any x y AB.out.1 _, ?_⟩⟩; clear hK K; rintro e w4 ⟨rfl, hb1⟩; refine ⟨_, rfl, hS.below hb1, ?_⟩; replace hS := hS.below hb1; replace h2 := below_look hb1 h2; replace hb := hb.trans (hb1.mono hb.size); clear hb1; try simp only [put_lit, List.set_cons_zero, List.set_cons_succ]
  refine ha_call (i := 8) (by kernel_rfl) rfl rfl (fun K hK => ?_); go_simp; refine ⟨_, _, ⟨rfl, rfl⟩, hK _ _ ⟨_, made_any (x + y) s AB.out.2.1 u k e hu hk he _, ?_⟩⟩; clear hK K; rintro e w5 ⟨rfl, hb1⟩; refine ⟨_, rfl, hS.below hb1, ?_⟩; replace hS := hS.below hb1; replace h2 := below_look hb1 h2; replace hb := hb.trans (hb1.mono hb.size); clear hb1; try simp only [put_lit, List.set_cons_zero, List.set_cons_succ]
  refine ha_k (i := 9) rfl (by kernel_rfl) (by kernel_rfl) (by kernel_rfl) (fun _ _ _ _ h => h) hS rfl (fun K hK => ?_); go_simp; refine hK _ ?_; clear hK K; try simp only [put_lit, List.set_cons_zero, List.set_cons_succ]
  refine ha_k (i := 10) rfl (by kernel_rfl) (by kernel_rfl) (by kernel_rfl) (fun _ _ _ _ h => h) hS rfl (fun K hK => ?_); go_simp; refine hK _ ?_; clear hK K; try simp only [put_lit, List.set_cons_zero, List.set_cons_succ]
  refine ha_store (i := 11) (by kernel_rfl) rfl rfl 33 _ _ rfl _ (dc (u) (k)) rfl rfl 33 _ h2 info33 rfl (by simp [dc, Value.oneCell']) (hS.setRow (by simp) _) (fun hS => ?_); try simp only [put_lit, List.set_cons_zero, List.set_cons_succ]
  refine ha_k (i := 12) rfl (by kernel_rfl) (by kernel_rfl) (by kernel_rfl) (fun _ _ _ _ h => h) hS rfl (fun K hK => ?_); go_simp; refine hK _ ?_; clear hK K; try simp only [put_lit, List.set_cons_zero, List.set_cons_succ]
  refine wpAnyH_done (by kernel_rfl) ?_ _
  go_wp2_with fail
  exact bodyPost_ret (res_decErr rfl _ _ (w.heap.size + 1 + 1) rfl (hr_new h2)) rfl ⟨rfl, below_setRow hb (by omega) _⟩
set_option maxHeartbeats 1000000 in
theorem Sub_good (u1 k1 u2 k2 : Int) (HV : Hid (allD [(u1, k1), (u2, k2)] = true)) (x y s : Int) (hs : Hid (s = max k1 k2)) (HX : Hid (x = u1 * t10 (s - k1))) (HY : Hid (y = u2 * t10 (s - k2))) (u k e : Int) (hu : Hid (u = madeU (x - y))) (hk : Hid (k = madeK (x - y) s)) (he : Hid (e = madeE (x - y))) (w : World) :
    Calls Try.prog 44 #[.agg (dc u1 k1), .agg (dc u2 k2)] w fun e' w' => e' = .returned (.tuple #[.agg (dc u k), .int .i64 e]) ∧ Below w.heap.size w w' := by
  have B1 := Lib.hid (ubd1 HV.out)
  have B2 := Lib.hid (ubd2 HV.out)
  have AB := Lib.hid (addB (a := x) (b := y) (by rw [HX.out, hs.out]; exact B1.out.m) (by rw [HY.out, hs.out]; exact B2.out.m))
  rw [Int.sub_eq_add_neg] at hu hk he AB
  go_enter Try.func44, Try.ntmps44
  go_upto_region 1 with (fail)
  refine wp_world (fun W => W.heap[w.heap.size]? = some (.cells (dc u1 k1) 33 (0, 0)) ∧ W.heap[w.heap.size + 1]? = some (.cells (dc u2 k2) 33 (0, 0)) ∧ W.heap[w.heap.size + 1 + 1]? = some (.cells (dc 0 0) 33 (0, 0)) ∧ Below w.heap.size w W) ⟨ha_old (ha_old (ha_new rfl)), ha_old (ha_new (by simp)), ha_new (by simp), (((Below.refl _ _).alloc (Nat.le_refl _) _).alloc (by simp) _).alloc (by simp; omega) _⟩ ?_
  rintro W ⟨h0, h1, h2, hb⟩
  have a0 := dc0 h0
  have a1 := dc1 h0
  have b0 := dc0 h1
  have b1 := dc1 h1
  go_upto_region 4 with (go_at_call 83; refine (valid_any W.heap.size 2 [(u1, k1), (u2, k2)] (by simp) true (Lib.hid HV.out.symm) _ (ha_new rfl)).mono ?_; rintro e w1 ⟨rfl, hb1⟩; replace hb1 := ((Below.refl W.heap.size W).alloc (Nat.le_refl _) _).trans (hb1.mono (by simp)); clear a0 a1 b0 b1; replace h0 := below_look hb1 h0; replace h1 := below_look hb1 h1; replace h2 := below_look hb1 h2; replace hb := hb.trans (hb1.mono hb.size); clear hb1; have a1 := dc1 h0; have b1 := dc1 h1)
  clear a1 b1
  replace hb := hb.drew
  rw [← hs.out]
  refine wp_region_held_drew (S := Kept [w.heap.size + 1 + 1] w1) mixed (Kept.drew [w.heap.size + 1 + 1] w1) (fun hS => ?_)
  refine ha_val (i := 0) rfl (by kernel_rfl) (by kernel_rfl) (by kernel_rfl) (fun _ _ _ h => h) hS rfl (fun w' hw' => ex_row rfl (rowDc (hw'.look h0 (by simp <;> omega)))) ?_; try simp only [put_lit, List.set_cons_zero, List.set_cons_succ]
  refine ha_k (i := 1) rfl (by kernel_rfl) (by kernel_rfl) (by kernel_rfl) (fun _ _ _ _ h => h) hS rfl (fun K hK => ?_); go_simp; refine hK _ ?_; clear hK K; try simp only [put_lit, List.set_cons_zero, List.set_cons_succ]
  refine ha_val (i := 3) rfl (by kernel_rfl) (by kernel_rfl) (by kernel_rfl) (fun _ _ _ h => h) hS rfl (fun w' hw' => ex_row rfl (rowDc (hw'.look h1 (by simp <;> omega)))) ?_; try simp only [put_lit, List.set_cons_zero, List.set_cons_succ]
  refine ha_k (i := 4) rfl (by kernel_rfl) (by kernel_rfl) (by kernel_rfl) (fun _ _ _ _ h => h) hS rfl (fun K hK => ?_); go_simp; refine hK _ ?_; clear hK K; try simp only [put_lit, List.set_cons_zero, List.set_cons_succ]
  refine ha_k (i := 8) rfl (by kernel_rfl) (by kernel_rfl) (by kernel_rfl) (fun _ _ _ _ h => h) hS rfl (fun K hK => ?_); go_simp; refine hK _ ?_; clear hK K; try simp only [put_lit, List.set_cons_zero, List.set_cons_succ]
  refine ha_call (i := 2) (by kernel_rfl) rfl rfl (fun K hK => ?_); go_simp; refine ⟨_, _, ⟨rfl, rfl⟩, hK _ _ ⟨_, units_any u1 k1 s (Lib.hid (hs.out ▸ B1.out)) _, ?_⟩⟩; clear hK K; rintro e w2 ⟨rfl, hb1⟩; refine ⟨_, rfl, hS.below hb1, ?_⟩; replace hS := hS.below hb1; replace h2 := below_look hb1 h2; replace hb := hb.trans (hb1.mono hb.size); clear hb1; rw [← HX.out]; try simp only [put_lit, List.set_cons_zero, List.set_cons_succ]
  refine ha_call (i := 5) (by kernel_rfl) rfl rfl (fun K hK => ?_); go_simp; refine ⟨_, _, ⟨rfl, rfl⟩, hK _ _ ⟨_, units_any u2 k2 s (Lib.hid (hs.out ▸ B2.out)) _, ?_⟩⟩; clear hK K; rintro e w3 ⟨rfl, hb1⟩; refine ⟨_, rfl, hS.below hb1, ?_⟩; replace hS := hS.below hb1; replace h2 := below_look hb1 h2; replace hb := hb.trans (hb1.mono hb.size); clear hb1; rw [← HY.out]; try simp only [put_lit, List.set_cons_zero, List.set_cons_succ]
  refine ha_call (i := 6) (by kernel_rfl) rfl rfl (fun K hK => ?_); go_simp; refine ⟨_, _, ⟨rfl, rfl⟩, hK _ _ ⟨_, minus_any y AB.out.2.2.1 _, ?_⟩⟩; clear hK K; rintro e w4 ⟨rfl, hb1⟩; refine ⟨_, rfl, hS.below hb1, ?_⟩; replace hS := hS.below hb1; replace h2 := below_look hb1 h2; replace hb := hb.trans (hb1.mono hb.size); clear hb1; try simp only [put_lit, List.set_cons_zero, List.set_cons_succ]
  refine ha_call (i := 7) (by kernel_rfl) rfl rfl (fun K hK => ?_); go_simp; refine ⟨_, _, ⟨rfl, rfl⟩, hK _ _ ⟨_, add_any x (-y) AB.out.2.2.2.1 _, ?_⟩⟩; clear hK K; rintro e w5 ⟨rfl, hb1⟩; refine ⟨_, rfl, hS.below hb1, ?_⟩; replace hS := hS.below hb1; replace h2 := below_look hb1 h2; replace hb := hb.trans (hb1.mono hb.size); clear hb1; try simp only [put_lit, List.set_cons_zero, List.set_cons_succ]
  refine ha_call (i := 9) (by kernel_rfl) rfl rfl (fun K hK => ?_); go_simp; refine ⟨_, _, ⟨rfl, rfl⟩, hK _ _ ⟨_, made_any (x + -y) s AB.out.2.2.2.2 u k e hu hk he _, ?_⟩⟩; clear hK K; rintro e w6 ⟨rfl, hb1⟩; refine ⟨_, rfl, hS.below hb1, ?_⟩; replace hS := hS.below hb1; replace h2 := below_look hb1 h2; replace hb := hb.trans (hb1.mono hb.size); clear hb1; try simp only [put_lit, List.set_cons_zero, List.set_cons_succ]
  refine ha_k (i := 10) rfl (by kernel_rfl) (by kernel_rfl) (by kernel_rfl) (fun _ _ _ _ h => h) hS rfl (fun K hK => ?_); go_simp; refine hK _ ?_; clear hK K; try simp only [put_lit, List.set_cons_zero, List.set_cons_succ]
  refine ha_k (i := 11) rfl (by kernel_rfl) (by kernel_rfl) (by kernel_rfl) (fun _ _ _ _ h => h) hS rfl (fun K hK => ?_); go_simp; refine hK _ ?_; clear hK K; try simp only [put_lit, List.set_cons_zero, List.set_cons_succ]
  refine ha_store (i := 12) (by kernel_rfl) rfl rfl 33 _ _ rfl _ (dc (u) (k)) rfl rfl 33 _ h2 info33 rfl (by simp [dc, Value.oneCell']) (hS.setRow (by simp) _) (fun hS => ?_); try simp only [put_lit, List.set_cons_zero, List.set_cons_succ]
  refine ha_k (i := 13) rfl (by kernel_rfl) (by kernel_rfl) (by kernel_rfl) (fun _ _ _ _ h => h) hS rfl (fun K hK => ?_); go_simp; refine hK _ ?_; clear hK K; try simp only [put_lit, List.set_cons_zero, List.set_cons_succ]
  refine wpAnyH_done (by kernel_rfl) ?_ _
  go_wp2_with fail
  exact bodyPost_ret (res_decErr rfl _ _ (w.heap.size + 1 + 1) rfl (hr_new h2)) rfl ⟨rfl, below_setRow hb (by omega) _⟩
theorem Add_any (u1 k1 u2 k2 u k e : Int) (h : Hid (addS u1 k1 u2 k2 = (u, k, e))) (w : World) :
    Calls Try.prog 42 #[.agg (dc u1 k1), .agg (dc u2 k2)] w fun e' w' => e' = .returned (.tuple #[.agg (dc u k), .int .i64 e]) ∧ Below w.heap.size w w' := by
  have h := h.out
  unfold addS sumS at h
  cases hv : allD [(u1, k1), (u2, k2)]
  · rw [hv, if_neg (by decide)] at h
    simp only [Prod.mk.injEq] at h
    obtain ⟨rfl, rfl, rfl⟩ := h
    exact Add_bad u1 k1 u2 k2 (Lib.hid hv) w
  · rw [hv, if_pos rfl] at h
    simp only [Prod.mk.injEq] at h
    obtain ⟨rfl, rfl, rfl⟩ := h
    exact Add_good u1 k1 u2 k2 (Lib.hid hv) _ _ _ (Lib.hid rfl) (Lib.hid rfl) (Lib.hid rfl) _ _ _ (Lib.hid rfl) (Lib.hid rfl) (Lib.hid rfl) w
theorem Sub_any (u1 k1 u2 k2 u k e : Int) (h : Hid (subS u1 k1 u2 k2 = (u, k, e))) (w : World) :
    Calls Try.prog 44 #[.agg (dc u1 k1), .agg (dc u2 k2)] w fun e' w' => e' = .returned (.tuple #[.agg (dc u k), .int .i64 e]) ∧ Below w.heap.size w w' := by
  have h := h.out
  unfold subS sumS at h
  cases hv : allD [(u1, k1), (u2, k2)]
  · rw [hv, if_neg (by decide)] at h
    simp only [Prod.mk.injEq] at h
    obtain ⟨rfl, rfl, rfl⟩ := h
    exact Sub_bad u1 k1 u2 k2 (Lib.hid hv) w
  · rw [hv, if_pos rfl] at h
    simp only [Prod.mk.injEq] at h
    obtain ⟨rfl, rfl, rfl⟩ := h
    exact Sub_good u1 k1 u2 k2 (Lib.hid hv) _ _ _ (Lib.hid rfl) (Lib.hid rfl) (Lib.hid rfl) _ _ _ (Lib.hid rfl) (Lib.hid rfl) (Lib.hid rfl) w
theorem m64 {n : Nat} (h : n ≤ 100000000000000000000000000) : n < 10 ^ 64 := Nat.lt_of_le_of_lt h (by decide)
set_option maxHeartbeats 1000000 in
theorem CompareDecimal_any (u1 k1 u2 k2 r e : Int) (h : Hid (cmpDS u1 k1 u2 k2 = (r, e))) (w : World) :
    Calls Try.prog 46 #[.agg (dc u1 k1), .agg (dc u2 k2)] w fun e' w' => e' = .returned (.tuple #[.int .i64 r, .int .i64 e]) ∧ Below w.heap.size w w' := by
  have h := h.out
  unfold cmpDS at h
  cases hv : allD [(u1, k1), (u2, k2)]
  · rw [hv, if_neg (by decide)] at h
    simp only [Prod.mk.injEq] at h
    obtain ⟨rfl, rfl⟩ := h
    have HV := Lib.hid hv
    clear hv
    go_enter Try.func46, Try.ntmps46
    go_upto_region 1 with (fail)
    refine wp_world (fun W => W.heap[w.heap.size]? = some (.cells (dc u1 k1) 33 (0, 0)) ∧ W.heap[w.heap.size + 1]? = some (.cells (dc u2 k2) 33 (0, 0)) ∧ Below w.heap.size w W) ⟨ha_old (ha_new rfl), ha_new (by simp), ((Below.refl _ _).alloc (Nat.le_refl _) _).alloc (by simp) _⟩ ?_
    rintro W ⟨h0, h1, hb⟩
    have a0 := dc0 h0
    have a1 := dc1 h0
    have b0 := dc0 h1
    have b1 := dc1 h1
    go_wp2_with (go_at_call 83; refine (valid_any W.heap.size 2 [(u1, k1), (u2, k2)] (by simp) false (Lib.hid HV.out.symm) _ (ha_new rfl)).mono ?_; rintro e w1 ⟨rfl, hb1⟩; replace hb1 := ((Below.refl W.heap.size W).alloc (Nat.le_refl _) _).trans (hb1.mono (by simp)); clear a0 a1 b0 b1; replace h0 := below_look hb1 h0; replace h1 := below_look hb1 h1; replace hb := hb.trans (hb1.mono hb.size); clear hb1)
    exact bodyPost_ret (results_tmp2 rfl _ _ _) rfl ⟨rfl, hb⟩
  · rw [hv, if_pos rfl] at h
    simp only [Prod.mk.injEq] at h
    obtain ⟨hr, rfl⟩ := h
    have HV := Lib.hid hv
    have HR := Lib.hid hr
    clear hv hr
    have B1 := Lib.hid (ubd1' HV.out)
    have B2 := Lib.hid (ubd2' HV.out)
    go_enter Try.func46, Try.ntmps46
    go_upto_region 1 with (fail)
    refine wp_world (fun W => W.heap[w.heap.size]? = some (.cells (dc u1 k1) 33 (0, 0)) ∧ W.heap[w.heap.size + 1]? = some (.cells (dc u2 k2) 33 (0, 0)) ∧ Below w.heap.size w W) ⟨ha_old (ha_new rfl), ha_new (by simp), ((Below.refl _ _).alloc (Nat.le_refl _) _).alloc (by simp) _⟩ ?_
    rintro W ⟨h0, h1, hb⟩
    have a0 := dc0 h0
    have a1 := dc1 h0
    have b0 := dc0 h1
    have b1 := dc1 h1
    go_upto_region 3 with (go_at_call 83; refine (valid_any W.heap.size 2 [(u1, k1), (u2, k2)] (by simp) true (Lib.hid HV.out.symm) _ (ha_new rfl)).mono ?_; rintro e w1 ⟨rfl, hb1⟩; replace hb1 := ((Below.refl W.heap.size W).alloc (Nat.le_refl _) _).trans (hb1.mono (by simp)); clear a0 a1 b0 b1; replace h0 := below_look hb1 h0; replace h1 := below_look hb1 h1; replace hb := hb.trans (hb1.mono hb.size); clear hb1)
    replace hb := hb.drew
    refine wp_region_held_drew (S := Kept [] w1) mixed (Kept.drew [] w1) (fun hS => ?_)
    refine ha_val (i := 0) rfl (by kernel_rfl) (by kernel_rfl) (by kernel_rfl) (fun _ _ _ h => h) hS rfl (fun w' hw' => ex_row rfl (rowDc (hw'.look h0 (by simp <;> omega)))) ?_; try simp only [put_lit, List.set_cons_zero, List.set_cons_succ]
    refine ha_val (i := 2) rfl (by kernel_rfl) (by kernel_rfl) (by kernel_rfl) (fun _ _ _ h => h) hS rfl (fun w' hw' => ex_row rfl (rowDc (hw'.look h1 (by simp <;> omega)))) ?_; try simp only [put_lit, List.set_cons_zero, List.set_cons_succ]
    refine ha_call (i := 1) (by kernel_rfl) rfl rfl (fun K hK => ?_); go_simp; refine ⟨_, _, ⟨rfl, rfl⟩, hK _ _ ⟨_, units_any u1 k1 9 B1 _, ?_⟩⟩; clear hK K; rintro e w2 ⟨rfl, hb1⟩; refine ⟨_, rfl, hS.below hb1, ?_⟩; replace hS := hS.below hb1; replace hb := hb.trans (hb1.mono hb.size); clear hb1; try simp only [put_lit, List.set_cons_zero, List.set_cons_succ]
    refine ha_call (i := 3) (by kernel_rfl) rfl rfl (fun K hK => ?_); go_simp; refine ⟨_, _, ⟨rfl, rfl⟩, hK _ _ ⟨_, units_any u2 k2 9 B2 _, ?_⟩⟩; clear hK K; rintro e w3 ⟨rfl, hb1⟩; refine ⟨_, rfl, hS.below hb1, ?_⟩; replace hS := hS.below hb1; replace hb := hb.trans (hb1.mono hb.size); clear hb1; try simp only [put_lit, List.set_cons_zero, List.set_cons_succ]
    refine ha_call (i := 4) (by kernel_rfl) rfl rfl (fun K hK => ?_); go_simp; refine ⟨_, _, ⟨rfl, rfl⟩, hK _ _ ⟨_, compare_any _ _ (m64 B1.out.m) (m64 B2.out.m) _, ?_⟩⟩; clear hK K; rintro e w4 ⟨rfl, hb1⟩; refine ⟨_, rfl, hS.below hb1, ?_⟩; replace hS := hS.below hb1; replace hb := hb.trans (hb1.mono hb.size); clear hb1; try simp only [put_lit, List.set_cons_zero, List.set_cons_succ]
    rw [HR.out]
    refine ha_k (i := 5) rfl (by kernel_rfl) (by kernel_rfl) (by kernel_rfl) (fun _ _ _ _ h => h) hS rfl (fun K hK => ?_); go_simp; refine hK _ ?_; clear hK K; try simp only [put_lit, List.set_cons_zero, List.set_cons_succ]
    refine ha_k (i := 6) rfl (by kernel_rfl) (by kernel_rfl) (by kernel_rfl) (fun _ _ _ _ h => h) hS rfl (fun K hK => ?_); go_simp; refine hK _ ?_; clear hK K; try simp only [put_lit, List.set_cons_zero, List.set_cons_succ]
    refine wpAnyH_done (by kernel_rfl) ?_ _
    go_wp2_with fail
    exact bodyPost_ret (results_tmp2 rfl _ _ _) rfl ⟨rfl, hb⟩
end Go.Proofs.Ytclainfdeghgnaa
