/- A quotient of decimals. -/
import Derived.Test.YtclainfdeghgnaaW29
import Derived.Test.YtclainfdeghgnaaK8
import Derived.Outline
namespace Go.Proofs.Ytclainfdeghgnaa
open Go.RowKit Go.Proofs.Ytclainfdeghgnaa.Nm

/-- What a made decimal is: its units, its scale, its error. -/
def madeU (z : Int) : Int := if 100000000000000000 < z.natAbs then 0 else z
def madeK (z scale : Int) : Int := if 100000000000000000 < z.natAbs then 0 else scale
def madeE (z : Int) : Int := if 100000000000000000 < z.natAbs then 2 else 0
theorem made_any (z : Int) (scale : Int) (hz : z.natAbs < 10 ^ 64) (u k e : Int) (hu : Hid (u = madeU z)) (hk : Hid (k = madeK z scale)) (he : Hid (e = madeE z)) (w : World) :
    Calls Try.prog 75 #[.agg (lv z), .int .i64 scale] w fun e' w' => e' = .returned (.tuple #[.agg (dc u k), .int .i64 e]) ∧ Below w.heap.size w w' := by
  rw [hu.out, hk.out, he.out]
  unfold madeU madeK madeE
  by_cases h : 100000000000000000 < z.natAbs
  · simp only [if_pos h]; exact made_over z scale (Lib.hid hz) (Lib.hid h) w
  · simp only [if_neg h]; exact made_ok z scale (Lib.hid hz) (Lib.hid (by omega)) w

structure DivBd (u1 k1 u2 k2 scale : Int) : Prop where
  a1 : -9223372036854775808 ≤ u1
  a2 : u1 ≤ 9223372036854775807
  b1 : -9223372036854775808 ≤ u2
  b2 : u2 ≤ 9223372036854775807
  s0 : 0 ≤ k2 + scale
  s1 : k2 + scale ≤ 9223372036854775806
  t0 : 0 ≤ k1
  t1 : k1 ≤ 9223372036854775806
  p1 : 10 ^ (k2 + scale).toNat < 10 ^ 64
  p2 : 10 ^ k1.toNat < 10 ^ 64
  m1 : u1.natAbs * ((10 ^ (k2 + scale).toNat : Nat) : Int).natAbs < 10 ^ 64
  m2 : u2.natAbs * ((10 ^ k1.toNat : Nat) : Int).natAbs < 10 ^ 64
  ra : (u1 * ((10 ^ (k2 + scale).toNat : Nat) : Int)).natAbs < 10 ^ 63
  rb0 : 0 < (u2 * ((10 ^ k1.toNat : Nat) : Int)).natAbs
  rb1 : (u2 * ((10 ^ k1.toNat : Nat) : Int)).natAbs < 10 ^ 63
/-- A decimal stored: behind it the world under a name. -/
theorem wl_put33 {ops : Array Oper} {rest : List Oper} {ty' : TypeId} {x y : Operand} {pos : String} {after : Array Edge} {a : Act} {w : World} {Q : Exit → Act → World → Prop} {b : Nat} {u k u0 k0 : Int} (hx : a.eval x = .pointer (some ⟨b, 0, none⟩)) (hy : a.eval y = .agg (dc u k)) (hb : w.heap[b]? = some (.cells (dc u0 k0) 33 (0, 0)))
    (h : ∀ W, (∀ B w0, B ≤ b → Below B w0 w → Below B w0 W) → (∀ k o, k ≠ b → w.heap[k]? = some o → W.heap[k]? = some o) → W.heap[b]? = some (.cells (dc u k) 33 (0, 0)) → wpList Try.prog ops Q rest a W) : wpList Try.prog ops Q (⟨none, .store 33 x y, ty', pos, after, none⟩ :: rest) a w :=
  wpList_store_row rfl 33 x y rfl b (dc u k) hx hy 33 (dc u0 k0) hb (by rw [info33]; rfl) rfl (by simp [dc, Value.oneCell']) (h _ (fun _ _ hB h0 => below_setRow h0 hB _) (fun _ _ hne h0 => hr_old h0 hne) (hr_new hb))
set_option maxHeartbeats 1000000 in
theorem Div_ok (u1 k1 u2 k2 scale : Int) (m : ByteArray) (E : Int) (HE : Hid (E = refusedS [(u1, k1), (u2, k2)] scale m.data.toList)) (hE : E = 0) (h20 : ¬ u2 = 0) (DB : Hid (DivBd u1 k1 u2 k2 scale)) (hsc : 0 ≤ scale) (hsc2 : scale ≤ 9) (hk2 : 0 ≤ k2) (hk22 : k2 ≤ 9)
    (HRM : Hid (isRoundL m.data.toList = true)) (u k e : Int) (z : Int) (Hz : Hid (z = roundS m.data.toList (u1 * ((10 ^ (k2 + scale).toNat : Nat) : Int)) (u2 * ((10 ^ k1.toNat : Nat) : Int)))) (hzb : Hid (z.natAbs < 10 ^ 64)) (hu : Hid (u = madeU z)) (hk : Hid (k = madeK z scale)) (he : Hid (e = madeE z)) (w : World) :
    Calls Try.prog 24 #[.agg (dc u1 k1), .agg (dc u2 k2), .int .i64 scale, .string m] w fun e' w' => e' = .returned (.tuple #[.agg (dc u k), .int .i64 e]) ∧ Below w.heap.size w w' := by
  have i1 : IntKind.i64.wrap (k2 + scale) = k2 + scale := IntWalk.i64_in _ (by omega)
  go_enter Try.func24, Try.ntmps24
  go_upto_region 1 with (fail)
  refine wp_world (fun W => W.heap[w.heap.size]? = some (.cells (dc u1 k1) 33 (0, 0)) ∧ W.heap[w.heap.size + 1]? = some (.cells (dc u2 k2) 33 (0, 0)) ∧ W.heap[w.heap.size + 1 + 1]? = some (.cells (dc 0 0) 33 (0, 0)) ∧ Below w.heap.size w W) ⟨ha_old (ha_old (ha_new rfl)), ha_old (ha_new (by simp)), ha_new (by simp), (((Below.refl _ _).alloc (Nat.le_refl _) _).alloc (by simp) _).alloc (by simp; omega) _⟩ ?_
  rintro W ⟨h0, h1, h2, hb⟩
  have a0 := dc0 h0
  have a1 := dc1 h0
  have b0 := dc0 h1
  have b1 := dc1 h1
  go_wp2_with (go_at_call 72; refine (refused_any W.heap.size 2 [(u1, k1), (u2, k2)] (by simp) scale m E HE _ (ha_new rfl)).mono ?_)
  rintro e w1 ⟨rfl, hb1⟩
  replace hb1 := ((Below.refl W.heap.size W).alloc (Nat.le_refl _) _).trans (hb1.mono (by simp))
  clear a0 a1 b0 b1
  replace h0 := below_look hb1 h0; replace h1 := below_look hb1 h1; replace h2 := below_look hb1 h2; replace hb := hb.trans (hb1.mono hb.size); clear hb1
  have a0 := dc0 h0
  have a1 := dc1 h0
  have b0 := dc0 h1
  have b1 := dc1 h1
  go_upto_region 6 with (fail)
  clear h20 hE
  refine wp_region_float 9 11 (lv 0) 75 mixed (by kernel_rfl) ⟨_, rfl, rfl, rfl, ex_alloc75 rfl⟩ ?_; simp only [List.take_succ_cons, List.take_zero, List.drop_succ_cons, List.drop_zero]
  refine ws_k rfl (fun K hK => ?_); go_simp; refine hK _ ?_; clear hK K
  ((with_reducible apply ws_one); exact rfl; exact rfl; (intro w' hw'; exact one_of u3 rfl (below_cell hw' (by with_reducible assumption))))
  simp only [put_lit, List.set_cons_zero, List.set_cons_succ]
  refine ws_ck rfl (fun K hK => ?_); go_simp; refine ⟨_, _, ⟨rfl, rfl⟩, hK _ _ ⟨_, fun w' hw' => (small_any _ DB.out.a1 DB.out.a2 w'), ?_⟩⟩; clear hK K; simp only [put_lit, List.set_cons_zero, List.set_cons_succ]
  refine ws_k rfl (fun K hK => ?_); go_simp; refine hK _ ?_; clear hK K
  ((with_reducible apply ws_one); exact rfl; exact rfl; (intro w' hw'; exact one_of u3 rfl (below_cell hw' (by with_reducible assumption))))
  simp only [put_lit, List.set_cons_zero, List.set_cons_succ]
  refine ws_k rfl (fun K hK => ?_); go_simp; refine hK _ ?_; clear hK K
  refine ws_k rfl (fun K hK => ?_); go_simp; refine hK _ ?_; clear hK K
  refine ws_ck rfl (fun K hK => ?_); go_simp; refine ⟨_, _, ⟨rfl, rfl⟩, hK _ _ ⟨_, fun w' hw' => (pow10_any _ DB.out.p1 DB.out.s0 DB.out.s1 w'), ?_⟩⟩; clear hK K; simp only [put_lit, List.set_cons_zero, List.set_cons_succ]
  refine ws_ck rfl (fun K hK => ?_); go_simp; refine ⟨_, _, ⟨rfl, rfl⟩, hK _ _ ⟨_, fun w' hw' => (mul_any _ _ DB.out.m1 w'), ?_⟩⟩; clear hK K; simp only [put_lit, List.set_cons_zero, List.set_cons_succ]
  rintro p5 w9 ⟨hb1, hl5, hp5⟩
  have lt2 := heap_lt h2
  clear a0 a1 b0 b1
  replace h0 := below_look hb1 h0; replace h1 := below_look hb1 h1; replace h2 := below_look hb1 h2; replace hb := hb.trans (hb1.mono hb.size); clear hb1
  simp only [put_lit, List.set_cons_zero, List.set_cons_succ]
  ((with_reducible apply wl_put75); exact rfl; exact rfl; exact hp5; intro w10 hbx hk hq; replace h0 := hk _ _ (by omega) h0; replace h1 := hk _ _ (by omega) h1; replace h2 := hk _ _ (by omega) h2; replace hb := hbx _ _ (by omega) hb; clear hp5; have hp5 := hq; clear hbx hk hq)
  have a0 := dc0 h0
  have a1 := dc1 h0
  have b0 := dc0 h1
  have b1 := dc1 h1
  go_upto_region 7 with (fail)
  refine wp_region_tail_late 14 13 mixed (by kernel_rfl) (by kernel_rfl) ?_
  simp only [List.take_succ_cons, List.take_zero, List.drop_succ_cons, List.drop_zero]
  ((with_reducible apply wq_row); exact rfl; exact rfl; (intro w' hw'; first | exact rowL (below_look hw' (by with_reducible assumption)) | exact rowD (below_look hw' (by with_reducible assumption)) | exact rowR (below_look hw' (by with_reducible assumption))))
  refine wq_k rfl (fun K hK => ?_); go_simp; refine hK _ ?_; clear hK K
  ((with_reducible apply wq_one); exact rfl; exact rfl; (intro w' hw'; exact one_of u3 rfl (below_cell hw' (by with_reducible assumption))))
  refine wq_ck rfl (fun K hK => ?_); go_simp; refine ⟨_, _, ⟨rfl, rfl⟩, hK _ _ ⟨_, fun w' hw' => calls_class hw' (small_any _ DB.out.b1 DB.out.b2 w'), ?_⟩⟩; clear hK K; simp only [put_lit, List.set_cons_zero, List.set_cons_succ]
  refine wq_k rfl (fun K hK => ?_); go_simp; refine hK _ ?_; clear hK K
  ((with_reducible apply wq_one); exact rfl; exact rfl; (intro w' hw'; exact one_of u3 rfl (below_cell hw' (by with_reducible assumption))))
  refine wq_ck rfl (fun K hK => ?_); go_simp; refine ⟨_, _, ⟨rfl, rfl⟩, hK _ _ ⟨_, fun w' hw' => calls_class hw' (pow10_any _ DB.out.p2 DB.out.t0 DB.out.t1 w'), ?_⟩⟩; clear hK K; simp only [put_lit, List.set_cons_zero, List.set_cons_succ]
  refine wq_ck rfl (fun K hK => ?_); go_simp; refine ⟨_, _, ⟨rfl, rfl⟩, hK _ _ ⟨_, fun w' hw' => calls_class hw' (mul_any _ _ DB.out.m2 w'), ?_⟩⟩; clear hK K; simp only [put_lit, List.set_cons_zero, List.set_cons_succ]
  refine wq_k rfl (fun K hK => ?_); go_simp; refine hK _ ?_; clear hK K
  refine wq_ck rfl (fun K hK => ?_); go_simp; refine ⟨_, _, ⟨rfl, rfl⟩, hK _ _ ⟨_, fun w' hw' => calls_class hw' (rounded_any _ _ _ HRM.out DB.out.rb0 DB.out.rb1 DB.out.ra w'), ?_⟩⟩; clear hK K; simp only [put_lit, List.set_cons_zero, List.set_cons_succ]
  rw [← Hz.out]
  refine wq_k rfl (fun K hK => ?_); go_simp; refine hK _ ?_; clear hK K
  refine wq_ck rfl (fun K hK => ?_); go_simp; refine ⟨_, _, ⟨rfl, rfl⟩, hK _ _ ⟨_, fun w' hw' => calls_class hw' (made_any _ _ hzb.out _ _ _ hu hk he w'), ?_⟩⟩; clear hK K; simp only [put_lit, List.set_cons_zero, List.set_cons_succ]
  refine wq_k rfl (fun K hK => ?_); go_simp; refine hK _ ?_; clear hK K
  refine wq_k rfl (fun K hK => ?_); go_simp; refine hK _ ?_; clear hK K
  intro w11 hb1
  clear a0 a1 b0 b1
  replace h2 := below_look hb1 h2; replace hb := hb.trans (hb1.mono hb.size); clear hb1
  ((with_reducible apply wl_put33); exact rfl; exact rfl; exact h2; intro w12 hbx hk hq; replace hb := hbx _ _ (by omega) hb; clear h2; have h2 := hq; clear hbx hk hq)
  refine wl_k rfl (fun K hK => ?_); go_simp; refine hK _ ?_; clear hK K
  refine onlyN_nil ?_
  go_wp2_with fail
  exact bodyPost_ret (res_decErr rfl _ _ (w.heap.size + 1 + 1) rfl h2) rfl ⟨rfl, hb⟩
set_option maxHeartbeats 1000000 in
theorem Div_refused (u1 k1 u2 k2 scale : Int) (m : ByteArray) (E : Int) (HE : Hid (E = refusedS [(u1, k1), (u2, k2)] scale m.data.toList)) (hE : ¬ E = 0) (w : World) :
    Calls Try.prog 24 #[.agg (dc u1 k1), .agg (dc u2 k2), .int .i64 scale, .string m] w fun e' w' => e' = .returned (.tuple #[.agg (dc 0 0), .int .i64 E]) ∧ Below w.heap.size w w' := by
  go_enter Try.func24, Try.ntmps24
  go_upto_region 1 with (fail)
  refine wp_world (fun W => W.heap[w.heap.size]? = some (.cells (dc u1 k1) 33 (0, 0)) ∧ W.heap[w.heap.size + 1]? = some (.cells (dc u2 k2) 33 (0, 0)) ∧ W.heap[w.heap.size + 1 + 1]? = some (.cells (dc 0 0) 33 (0, 0)) ∧ Below w.heap.size w W) ⟨ha_old (ha_old (ha_new rfl)), ha_old (ha_new (by simp)), ha_new (by simp), (((Below.refl _ _).alloc (Nat.le_refl _) _).alloc (by simp) _).alloc (by simp; omega) _⟩ ?_
  rintro W ⟨h0, h1, h2, hb⟩
  have a0 := dc0 h0
  have a1 := dc1 h0
  have b0 := dc0 h1
  have b1 := dc1 h1
  go_wp2_with (go_at_call 72; refine (refused_any W.heap.size 2 [(u1, k1), (u2, k2)] (by simp) scale m E HE _ (ha_new rfl)).mono ?_)
  rintro e w1 ⟨rfl, hb1⟩
  replace hb1 := ((Below.refl W.heap.size W).alloc (Nat.le_refl _) _).trans (hb1.mono (by simp))
  clear a0 a1 b0 b1
  replace h0 := below_look hb1 h0; replace h1 := below_look hb1 h1; replace h2 := below_look hb1 h2; replace hb := hb.trans (hb1.mono hb.size); clear hb1
  have a0 := dc0 h0
  have a1 := dc1 h0
  have b0 := dc0 h1
  have b1 := dc1 h1
  have c0 := dc0 h2
  have c1 := dc1 h2
  have f0 : w1.frozen? ⟨w.heap.size + 1 + 1, 0, none⟩ = false := frozen_of_row _ _ _ _ _ h2
  have f1 : w1.frozen? ⟨w.heap.size + 1 + 1, 1, none⟩ = false := frozen_of_row _ _ _ _ _ h2
  go_wp2_with fail
  exact bodyPost_ret (res_decErr rfl _ _ (w.heap.size + 1 + 1) rfl ((hs_new (hs_new h2)).trans rfl)) rfl ⟨rfl, (hb.setCell (by simp; omega) _).setCell (by simp; omega) _⟩
set_option maxHeartbeats 1000000 in
theorem Div_zero (u1 k1 u2 k2 scale : Int) (m : ByteArray) (E : Int) (HE : Hid (E = refusedS [(u1, k1), (u2, k2)] scale m.data.toList)) (hE : E = 0) (H20 : Hid (u2 = 0)) (w : World) :
    Calls Try.prog 24 #[.agg (dc u1 k1), .agg (dc u2 k2), .int .i64 scale, .string m] w fun e' w' => e' = .returned (.tuple #[.agg (dc 0 0), .int .i64 70]) ∧ Below w.heap.size w w' := by
  go_enter Try.func24, Try.ntmps24
  go_upto_region 1 with (fail)
  refine wp_world (fun W => W.heap[w.heap.size]? = some (.cells (dc u1 k1) 33 (0, 0)) ∧ W.heap[w.heap.size + 1]? = some (.cells (dc u2 k2) 33 (0, 0)) ∧ W.heap[w.heap.size + 1 + 1]? = some (.cells (dc 0 0) 33 (0, 0)) ∧ Below w.heap.size w W) ⟨ha_old (ha_old (ha_new rfl)), ha_old (ha_new (by simp)), ha_new (by simp), (((Below.refl _ _).alloc (Nat.le_refl _) _).alloc (by simp) _).alloc (by simp; omega) _⟩ ?_
  rintro W ⟨h0, h1, h2, hb⟩
  have a0 := dc0 h0
  have a1 := dc1 h0
  have b0 := dc0 h1
  have b1 := dc1 h1
  go_wp2_with (go_at_call 72; refine (refused_any W.heap.size 2 [(u1, k1), (u2, k2)] (by simp) scale m E HE _ (ha_new rfl)).mono ?_)
  rintro e w1 ⟨rfl, hb1⟩
  replace hb1 := ((Below.refl W.heap.size W).alloc (Nat.le_refl _) _).trans (hb1.mono (by simp))
  clear a0 a1 b0 b1
  replace h0 := below_look hb1 h0; replace h1 := below_look hb1 h1; replace h2 := below_look hb1 h2; replace hb := hb.trans (hb1.mono hb.size); clear hb1
  have a0 := dc0 h0
  have a1 := dc1 h0
  have b0 := dc0 h1
  have b1 := dc1 h1
  have h20 := H20.out
  have c0 := dc0 h2
  have c1 := dc1 h2
  have f0 : w1.frozen? ⟨w.heap.size + 1 + 1, 0, none⟩ = false := frozen_of_row _ _ _ _ _ h2
  have f1 : w1.frozen? ⟨w.heap.size + 1 + 1, 1, none⟩ = false := frozen_of_row _ _ _ _ _ h2
  go_wp2_with fail
  exact bodyPost_ret (res_decErr rfl _ _ (w.heap.size + 1 + 1) rfl ((hs_new (hs_new h2)).trans rfl)) rfl ⟨rfl, (hb.setCell (by simp; omega) _).setCell (by simp; omega) _⟩
end Go.Proofs.Ytclainfdeghgnaa
