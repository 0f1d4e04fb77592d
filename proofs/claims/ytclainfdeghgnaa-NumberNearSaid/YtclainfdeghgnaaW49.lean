/- Decimals rounded. -/
import Derived.Test.YtclainfdeghgnaaM9
import Derived.Test.YtclainfdeghgnaaM8
import Derived.Outline
namespace Go.Proofs.Ytclainfdeghgnaa
open Go.RowKit Go.Proofs.Ytclainfdeghgnaa.Nm
theorem roundS_bd (L : List UInt8) (a b : Int) : (roundS L a b).natAbs ≤ a.natAbs + 1 := by
  unfold roundS
  rw [sg_bd]
  have := Nat.div_le_self a.natAbs b.natAbs
  split <;> omega
/-- What a rounded decimal is. -/
def roundDS (u k scale : Int) (m : List UInt8) : Int × Int × Int :=
  if refusedS [(u, k)] scale m = 0 then (madeU (roundS m (u * t10 scale) (t10 k)), madeK (roundS m (u * t10 scale) (t10 k)) scale, madeE (roundS m (u * t10 scale) (t10 k))) else (0, 0, refusedS [(u, k)] scale m)
theorem refused0 {ds : List (Int × Int)} {scale : Int} {m : List UInt8} (h : refusedS ds scale m = 0) : allD ds = true ∧ isRoundL m = true ∧ 0 ≤ scale ∧ scale ≤ 9 := by
  unfold refusedS at h
  split at h
  · cases h
  · rename_i h1
    split at h
    · cases h
    · rename_i h2
      split at h
      · cases h
      · rename_i h3
        exact ⟨by simpa using h1, by simpa using h2, by omega, by omega⟩
set_option maxHeartbeats 1000000 in
theorem Round_bad (u k scale : Int) (m : ByteArray) (E : Int) (HE : Hid (E = refusedS [(u, k)] scale m.data.toList)) (hE : ¬ E = 0) (w : World) :
    Calls Try.prog 31 #[.agg (dc u k), .int .i64 scale, .string m] w fun e' w' => e' = .returned (.tuple #[.agg (dc 0 0), .int .i64 E]) ∧ Below w.heap.size w w' := by
  go_enter Try.func31, Try.ntmps31
  go_upto_region 1 with (fail)
  refine wp_world (fun W => W.heap[w.heap.size]? = some (.cells (dc u k) 33 (0, 0)) ∧ W.heap[w.heap.size + 1]? = some (.cells (dc 0 0) 33 (0, 0)) ∧ Below w.heap.size w W) ⟨ha_old (ha_new rfl), ha_new (by simp), ((Below.refl _ _).alloc (Nat.le_refl _) _).alloc (by simp) _⟩ ?_
  rintro W ⟨h0, h1, hb⟩
  have a0 := dc0 h0
  have a1 := dc1 h0
  go_upto_region 2 with (go_at_call 72; refine (refused_any W.heap.size 1 [(u, k)] (by simp) scale m E HE _ (ha_new rfl)).mono ?_; rintro e w1 ⟨rfl, hb1⟩; replace hb1 := ((Below.refl W.heap.size W).alloc (Nat.le_refl _) _).trans (hb1.mono (by simp)); clear a0 a1; replace h0 := below_look hb1 h0; replace h1 := below_look hb1 h1; replace hb := hb.trans (hb1.mono hb.size); clear hb1)
  have c0 := dc0 h1
  have c1 := dc1 h1
  have f0 : w1.frozen? ⟨w.heap.size + 1, 0, none⟩ = false := frozen_of_row _ _ _ _ _ h1
  have f1 : w1.frozen? ⟨w.heap.size + 1, 1, none⟩ = false := frozen_of_row _ _ _ _ _ h1
  go_wp2_with fail
  exact bodyPost_ret (res_decErr rfl _ _ (w.heap.size + 1) rfl ((hs_new (hs_new h1)).trans rfl)) rfl ⟨rfl, (hb.setCell (by simp) _).setCell (by simp) _⟩
structure RDBd (u k scale : Int) : Prop where
  u1 : -9223372036854775808 ≤ u
  u2 : u ≤ 9223372036854775807
  s0 : 0 ≤ scale
  s9 : scale ≤ 9223372036854775806
  k0 : 0 ≤ k
  k9 : k ≤ 9223372036854775806
  p1 : 10 ^ scale.toNat < 10 ^ 64
  p2 : 10 ^ k.toNat < 10 ^ 64
  m1 : u.natAbs * (t10 scale).natAbs < 10 ^ 64
  ra : (u * t10 scale).natAbs < 10 ^ 63
  rb0 : 0 < (t10 k).natAbs
  rb1 : (t10 k).natAbs < 10 ^ 63
theorem rdBd {u k scale : Int} {m : List UInt8} (h : refusedS [(u, k)] scale m = 0) : RDBd u k scale := by
  obtain ⟨h1, h2, h3, h4⟩ := refused0 h
  have hv : validD u k = true := by unfold allD at h1; simpa using h1
  obtain ⟨v1, v2, v3, v4⟩ := validD_iff.1 hv
  have a2 : 10 ^ scale.toNat ≤ 10 ^ 9 := p10_le (by omega)
  have a3 : 10 ^ k.toNat ≤ 10 ^ 9 := p10_le (by omega)
  have a1 : u.natAbs ≤ 100000000000000000 := by omega
  have a4 : u.natAbs * (t10 scale).natAbs ≤ 100000000000000000 * 10 ^ 9 := by rw [t10_abs]; exact Nat.mul_le_mul a1 a2
  have a5 := t10_pos k
  exact ⟨by omega, by omega, h3, by omega, v3, by omega, Nat.lt_of_le_of_lt a2 (by decide), Nat.lt_of_le_of_lt a3 (by decide), Nat.lt_of_le_of_lt a4 (by decide), by rw [Int.natAbs_mul]; exact Nat.lt_of_le_of_lt a4 (by decide), by omega, by rw [t10_abs]; exact Nat.lt_of_le_of_lt a3 (by decide)⟩
set_option maxHeartbeats 1000000 in
theorem Round_good (u k scale : Int) (m : ByteArray) (E : Int) (HE : Hid (E = refusedS [(u, k)] scale m.data.toList)) (hE : E = 0) (HRM : Hid (isRoundL m.data.toList = true)) (DB : Hid (RDBd u k scale)) (z : Int) (Hz : Hid (z = roundS m.data.toList (u * t10 scale) (t10 k))) (hzb : Hid (z.natAbs < 10 ^ 64)) (u' k' e : Int) (hu : Hid (u' = madeU z)) (hk : Hid (k' = madeK z scale)) (he : Hid (e = madeE z)) (w : World) :
    Calls Try.prog 31 #[.agg (dc u k), .int .i64 scale, .string m] w fun e' w' => e' = .returned (.tuple #[.agg (dc u' k'), .int .i64 e]) ∧ Below w.heap.size w w' := by
  go_enter Try.func31, Try.ntmps31
  go_upto_region 1 with (fail)
  refine wp_world (fun W => W.heap[w.heap.size]? = some (.cells (dc u k) 33 (0, 0)) ∧ W.heap[w.heap.size + 1]? = some (.cells (dc 0 0) 33 (0, 0)) ∧ Below w.heap.size w W) ⟨ha_old (ha_new rfl), ha_new (by simp), ((Below.refl _ _).alloc (Nat.le_refl _) _).alloc (by simp) _⟩ ?_
  rintro W ⟨h0, h1, hb⟩
  have a0 := dc0 h0
  have a1 := dc1 h0
  go_upto_region 2 with (go_at_call 72; refine (refused_any W.heap.size 1 [(u, k)] (by simp) scale m E HE _ (ha_new rfl)).mono ?_; rintro e w1 ⟨rfl, hb1⟩; replace hb1 := ((Below.refl W.heap.size W).alloc (Nat.le_refl _) _).trans (hb1.mono (by simp)); clear a0 a1; replace h0 := below_look hb1 h0; replace h1 := below_look hb1 h1; replace hb := hb.trans (hb1.mono hb.size); clear hb1)
  go_upto_region 4 with (fail)
  clear hE
  have a0 := dc0 h0
  apply wp_region_lit
  refine wl_k rfl (fun K hK => ?_); go_simp; refine hK _ ?_; clear hK K
  ((with_reducible apply wl_oneG); exact rfl; exact rfl; exact one3 (by with_reducible assumption))
  clear a0
  refine wl_ck rfl (fun K hK => ?_); go_simp; refine ⟨_, _, ⟨rfl, rfl⟩, hK _ _ ⟨_, small_any u DB.out.u1 DB.out.u2 _, ?_⟩⟩; clear hK K; rintro e w2 ⟨rfl, hb1⟩; refine ⟨_, rfl, ?_⟩; simp only [put_lit, List.set_cons_zero, List.set_cons_succ]
  replace h0 := below_look hb1 h0; replace h1 := below_look hb1 h1; replace hb := hb.trans (hb1.mono hb.size); clear hb1
  refine wl_k rfl (fun K hK => ?_); go_simp; refine hK _ ?_; clear hK K
  refine wl_ck rfl (fun K hK => ?_); go_simp; refine ⟨_, _, ⟨rfl, rfl⟩, hK _ _ ⟨_, pow10_any scale DB.out.p1 DB.out.s0 DB.out.s9 _, ?_⟩⟩; clear hK K; rintro e w3 ⟨rfl, hb1⟩; refine ⟨_, rfl, ?_⟩; simp only [put_lit, List.set_cons_zero, List.set_cons_succ]
  replace h0 := below_look hb1 h0; replace h1 := below_look hb1 h1; replace hb := hb.trans (hb1.mono hb.size); clear hb1
  refine wl_ck rfl (fun K hK => ?_); go_simp; refine ⟨_, _, ⟨rfl, rfl⟩, hK _ _ ⟨_, mul_any u (t10 scale) DB.out.m1 _, ?_⟩⟩; clear hK K; rintro e w4 ⟨rfl, hb1⟩; refine ⟨_, rfl, ?_⟩; simp only [put_lit, List.set_cons_zero, List.set_cons_succ]
  replace h0 := below_look hb1 h0; replace h1 := below_look hb1 h1; replace hb := hb.trans (hb1.mono hb.size); clear hb1
  (have lth0p9 := heap_lt h0; have lth1p9 := heap_lt h1; have lsp9 := hb.size; (with_reducible apply wl_new75); intro w5 p9 hbn hlp9 hp9; replace h0 := below_look hbn h0; replace h1 := below_look hbn h1; replace hb := hb.trans (hbn.mono hb.size); clear hbn)
  ((with_reducible apply wl_put75); exact rfl; exact rfl; exact hp9; intro w6 hbx hk hq; replace h0 := hk _ _ (by omega) h0; replace h1 := hk _ _ (by omega) h1; replace hb := hbx _ _ (by omega) hb; clear hp9; have hp9 := hq; clear hbx hk hq)
  go_upto_region 5 with (fail)
  have a1 := dc1 h0
  replace hb := hb.drew
  refine wp_region_held_drew (S := Kept [w.heap.size + 1] w6) mixed (Kept.drew [w.heap.size + 1] w6) (fun hS => ?_)
  refine ha_val (i := 0) rfl (by kernel_rfl) (by kernel_rfl) (by kernel_rfl) (fun _ _ _ h => h) hS rfl (fun w' hw' => ex_row rfl (rowL (hw'.look hp9 (by simp <;> omega)))) ?_; try simp only [put_lit, List.set_cons_zero, List.set_cons_succ]
  refine ha_k (i := 1) rfl (by kernel_rfl) (by kernel_rfl) (by kernel_rfl) (fun _ _ _ _ h => h) hS rfl (fun K hK => ?_); go_simp; refine hK _ ?_; clear hK K; try simp only [put_lit, List.set_cons_zero, List.set_cons_succ]
  refine ha_val (i := 2) rfl (by kernel_rfl) (by kernel_rfl) (by kernel_rfl) (fun _ _ _ h => h) hS rfl (fun w' hw' => ex_one rfl (one3 (hw'.cell a1 (by simp <;> omega)))) ?_; try simp only [put_lit, List.set_cons_zero, List.set_cons_succ]
  refine ha_k (i := 4) rfl (by kernel_rfl) (by kernel_rfl) (by kernel_rfl) (fun _ _ _ _ h => h) hS rfl (fun K hK => ?_); go_simp; refine hK _ ?_; clear hK K; try simp only [put_lit, List.set_cons_zero, List.set_cons_succ]
  refine ha_k (i := 6) rfl (by kernel_rfl) (by kernel_rfl) (by kernel_rfl) (fun _ _ _ _ h => h) hS rfl (fun K hK => ?_); go_simp; refine hK _ ?_; clear hK K; try simp only [put_lit, List.set_cons_zero, List.set_cons_succ]
  refine ha_call (i := 3) (by kernel_rfl) rfl rfl (fun K hK => ?_); go_simp; refine ⟨_, _, ⟨rfl, rfl⟩, hK _ _ ⟨_, pow10_any k DB.out.p2 DB.out.k0 DB.out.k9 _, ?_⟩⟩; clear hK K; rintro e w7 ⟨rfl, hb1⟩; refine ⟨_, rfl, hS.below hb1, ?_⟩; replace hS := hS.below hb1; replace h1 := below_look hb1 h1; replace hb := hb.trans (hb1.mono hb.size); clear hb1; try simp only [put_lit, List.set_cons_zero, List.set_cons_succ]
  refine ha_call (i := 5) (by kernel_rfl) rfl rfl (fun K hK => ?_); go_simp; refine ⟨_, _, ⟨rfl, rfl⟩, hK _ _ ⟨_, rounded_any (u * t10 scale) (t10 k) m HRM.out DB.out.rb0 DB.out.rb1 DB.out.ra _, ?_⟩⟩; clear hK K; rintro e w8 ⟨rfl, hb1⟩; refine ⟨_, rfl, hS.below hb1, ?_⟩; replace hS := hS.below hb1; replace h1 := below_look hb1 h1; replace hb := hb.trans (hb1.mono hb.size); clear hb1; rw [← Hz.out]; try simp only [put_lit, List.set_cons_zero, List.set_cons_succ]
  refine ha_call (i := 7) (by kernel_rfl) rfl rfl (fun K hK => ?_); go_simp; refine ⟨_, _, ⟨rfl, rfl⟩, hK _ _ ⟨_, made_any z scale hzb.out u' k' e hu hk he _, ?_⟩⟩; clear hK K; rintro e w9 ⟨rfl, hb1⟩; refine ⟨_, rfl, hS.below hb1, ?_⟩; replace hS := hS.below hb1; replace h1 := below_look hb1 h1; replace hb := hb.trans (hb1.mono hb.size); clear hb1; try simp only [put_lit, List.set_cons_zero, List.set_cons_succ]
  refine ha_k (i := 8) rfl (by kernel_rfl) (by kernel_rfl) (by kernel_rfl) (fun _ _ _ _ h => h) hS rfl (fun K hK => ?_); go_simp; refine hK _ ?_; clear hK K; try simp only [put_lit, List.set_cons_zero, List.set_cons_succ]
  refine ha_k (i := 9) rfl (by kernel_rfl) (by kernel_rfl) (by kernel_rfl) (fun _ _ _ _ h => h) hS rfl (fun K hK => ?_); go_simp; refine hK _ ?_; clear hK K; try simp only [put_lit, List.set_cons_zero, List.set_cons_succ]
  refine ha_store (i := 10) (by kernel_rfl) rfl rfl 33 _ _ rfl _ (dc (u') (k')) rfl rfl 33 _ h1 info33 rfl (by simp [dc, Value.oneCell']) (hS.setRow (by simp) _) (fun hS => ?_); try simp only [put_lit, List.set_cons_zero, List.set_cons_succ]
  refine ha_k (i := 11) rfl (by kernel_rfl) (by kernel_rfl) (by kernel_rfl) (fun _ _ _ _ h => h) hS rfl (fun K hK => ?_); go_simp; refine hK _ ?_; clear hK K; try simp only [put_lit, List.set_cons_zero, List.set_cons_succ]
  refine wpAnyH_done (by kernel_rfl) ?_ _
  clear a1
  go_wp2_with fail
  exact bodyPost_ret (res_decErr rfl _ _ (w.heap.size + 1) rfl (hr_new h1)) rfl ⟨rfl, below_setRow hb (by omega) _⟩
theorem Round_any (u k scale : Int) (m : ByteArray) (u' k' e : Int) (h : Hid (roundDS u k scale m.data.toList = (u', k', e))) (w : World) :
    Calls Try.prog 31 #[.agg (dc u k), .int .i64 scale, .string m] w fun e' w' => e' = .returned (.tuple #[.agg (dc u' k'), .int .i64 e]) ∧ Below w.heap.size w w' := by
  have h := h.out
  unfold roundDS at h
  by_cases hv : refusedS [(u, k)] scale m.data.toList = 0
  · rw [if_pos hv] at h
    simp only [Prod.mk.injEq] at h
    obtain ⟨rfl, rfl, rfl⟩ := h
    obtain ⟨_, hm, _, _⟩ := refused0 hv
    have B := rdBd hv
    refine Round_good u k scale m 0 (Lib.hid hv.symm) rfl (Lib.hid hm) (Lib.hid B) _ (Lib.hid rfl) (Lib.hid ?_) _ _ _ (Lib.hid rfl) (Lib.hid rfl) (Lib.hid rfl) w
    have h1 := roundS_bd m.data.toList (u * t10 scale) (t10 k)
    have h2 := B.ra
    have h3 : (10 : Nat) ^ 63 + 1 < 10 ^ 64 := by decide
    omega
  · rw [if_neg hv] at h
    simp only [Prod.mk.injEq] at h
    obtain ⟨rfl, rfl, rfl⟩ := h
    exact Round_bad u k scale m _ (Lib.hid rfl) hv w
end Go.Proofs.Ytclainfdeghgnaa
