/- A new variable that may be made at any time of a drawn region: it is taken where it comes up. Products of decimals, the program's. Products of decimals, the document's; the law. The law of the products of decimals. -/
import Derived.Test.YtclainfdeghgnaaK9
import Derived.Test.YtclainfdeghgnaaV8
import Derived.Outline
namespace Go.Proofs.Ytclainfdeghgnaa.Nm
open Go.RowKit
theorem Kept.setNew {D : List Nat} {p : Nat} {W w : World} (h : Kept D W w) (hm : W.heap.size ≤ p) (cs : Array Value) : Kept D W (w.setRow p cs) :=
  ⟨by simpa using h.1, fun k hk hp => by rw [setRow_other w p k cs (fun e => by omega)]; exact h.2 k hk hp⟩
section
variable {P : Program} {ops : Array Oper} {Q : Exit → Act → World → Prop} {md : Region.Mode} {D : List Nat} {W : World} {i : Nat} {oi : Oper} {fuel : Nat} {listed : Array Bool} {a : Act} {w : World} {z : Array Value} {ty : TypeId}
theorem ha_mk (hr : Region.ready md ops listed = [i]) (ho : ops[i]? = some oi) (hg : Region.wanted oi (yielded ops a.tmps) = true)
    (hal : ∀ ev w, (execOp ev oi).run P w = .ok (.value (.pointer (some ⟨w.heap.size, 0, none⟩))) (w.alloc (.cells z ty))) (hS : Kept D W w)
    (h : ∀ w' p, Below w.heap.size w w' → W.heap.size ≤ p → w.heap.size ≤ p → w'.heap[p]? = some (.cells z ty) → Kept D W w' → wpAnyH P md ops Q (Kept D W) fuel (listed.setIfInBounds i true) (a.put oi.dst (.pointer (some ⟨p, 0, none⟩))) w') :
    wpAnyH P md ops Q (Kept D W) (fuel + 1) listed a w := by
  have hb : Below w.heap.size w (w.alloc (.cells z ty)) := (Below.refl _ _).alloc (Nat.le_refl _) _
  refine ha_do hr ho hg (hal a.eval w) (hS.below hb) ?_
  exact h _ _ hb hS.1 (Nat.le_refl _) (ha_new rfl) (hS.below hb)
theorem sh_mk (ho : ops[i]? = some oi) (hg : Region.wanted oi (yielded ops a.tmps) = true)
    (hal : ∀ ev w, (execOp ev oi).run P w = .ok (.value (.pointer (some ⟨w.heap.size, 0, none⟩))) (w.alloc (.cells z ty))) (hS : Kept D W w)
    (h : ∀ w' p, Below w.heap.size w w' → W.heap.size ≤ p → w.heap.size ≤ p → w'.heap[p]? = some (.cells z ty) → Kept D W w' → wpAnyH P md ops Q (Kept D W) fuel (listed.setIfInBounds i true) (a.put oi.dst (.pointer (some ⟨p, 0, none⟩))) w') :
    StepH P md ops Q (Kept D W) fuel listed a w i := by
  have hb : Below w.heap.size w (w.alloc (.cells z ty)) := (Below.refl _ _).alloc (Nat.le_refl _) _
  unfold StepH wpOp
  simp only [ho]
  rw [if_pos hg]
  refine .inl ?_
  unfold Oper.wp
  rw [hal]
  exact ⟨hS.below hb, h _ _ hb hS.1 (Nat.le_refl _) (ha_new rfl) (hS.below hb)⟩
end
end Go.Proofs.Ytclainfdeghgnaa.Nm

namespace Go.Proofs.Ytclainfdeghgnaa
open Go.RowKit Go.Proofs.Ytclainfdeghgnaa.Nm
structure MulBd (u1 k1 u2 k2 scale : Int) : Prop where
  a1 : -9223372036854775808 ≤ u1
  a2 : u1 ≤ 9223372036854775807
  b1 : -9223372036854775808 ≤ u2
  b2 : u2 ≤ 9223372036854775807
  s0 : 0 ≤ scale
  s1 : scale ≤ 9223372036854775806
  t0 : 0 ≤ k1 + k2
  t1 : k1 + k2 ≤ 9223372036854775806
  p1 : 10 ^ scale.toNat < 10 ^ 64
  p2 : 10 ^ (k1 + k2).toNat < 10 ^ 64
  m0 : u1.natAbs * u2.natAbs < 10 ^ 64
  m1 : (u1 * u2).natAbs * (t10 scale).natAbs < 10 ^ 64
  ra : (u1 * u2 * t10 scale).natAbs < 10 ^ 63
  rb0 : 0 < (t10 (k1 + k2)).natAbs
  rb1 : (t10 (k1 + k2)).natAbs < 10 ^ 63
  s9 : scale ≤ 9
  k9 : k1 ≤ 9 ∧ k2 ≤ 9 ∧ 0 ≤ k1 ∧ 0 ≤ k2
theorem mulBd {u1 k1 u2 k2 scale : Int} {m : List UInt8} (h : refusedS [(u1, k1), (u2, k2)] scale m = 0) : MulBd u1 k1 u2 k2 scale := by
  obtain ⟨h1, h2, h3, h4⟩ := refused0 h
  obtain ⟨⟨v1, v2, v3, v4⟩, x1, x2, x3, x4⟩ := allD2 h1
  have a2 : 10 ^ scale.toNat ≤ 10 ^ 9 := p10_le (by omega)
  have a3 : 10 ^ (k1 + k2).toNat ≤ 10 ^ 18 := p10_le (by omega)
  have c1 : u1.natAbs ≤ 100000000000000000 := by omega
  have c2 : u2.natAbs ≤ 100000000000000000 := by omega
  have c3 : u1.natAbs * u2.natAbs ≤ 100000000000000000 * 100000000000000000 := Nat.mul_le_mul c1 c2
  have a4 : u1.natAbs * u2.natAbs * (t10 scale).natAbs ≤ 100000000000000000 * 100000000000000000 * 10 ^ 9 := by rw [t10_abs]; exact Nat.mul_le_mul c3 a2
  have a5 := t10_pos (k1 + k2)
  exact ⟨by omega, by omega, by omega, by omega, h3, by omega, by omega, by omega, Nat.lt_of_le_of_lt a2 (by decide), Nat.lt_of_le_of_lt a3 (by decide), Nat.lt_of_le_of_lt c3 (by decide), by rw [Int.natAbs_mul]; exact Nat.lt_of_le_of_lt a4 (by decide), by rw [Int.natAbs_mul, Int.natAbs_mul]; exact Nat.lt_of_le_of_lt a4 (by decide), by omega, by rw [t10_abs]; exact Nat.lt_of_le_of_lt a3 (by decide), h4, ⟨v4, x4, v3, x3⟩⟩
set_option maxHeartbeats 1000000 in
theorem Mul_ok (u1 k1 u2 k2 scale : Int) (m : ByteArray) (E : Int) (HE : Hid (E = refusedS [(u1, k1), (u2, k2)] scale m.data.toList)) (hE : E = 0) (DB : Hid (MulBd u1 k1 u2 k2 scale))
    (HRM : Hid (isRoundL m.data.toList = true)) (u k e : Int) (z : Int) (Hz : Hid (z = roundS m.data.toList (u1 * u2 * t10 scale) (t10 (k1 + k2)))) (hzb : Hid (z.natAbs < 10 ^ 64)) (hu : Hid (u = madeU z)) (hk : Hid (k = madeK z scale)) (he : Hid (e = madeE z)) (w : World) :
    Calls Try.prog 29 #[.agg (dc u1 k1), .agg (dc u2 k2), .int .i64 scale, .string m] w fun e' w' => e' = .returned (.tuple #[.agg (dc u k), .int .i64 e]) ∧ Below w.heap.size w w' := by
  have i1 : IntKind.i64.wrap (k1 + k2) = k1 + k2 := IntWalk.i64_in _ (by have := DB.out.k9; omega)
  go_enter Try.func29, Try.ntmps29
  go_upto_region 1 with (fail)
  refine wp_world (fun W => W.heap[w.heap.size]? = some (.cells (dc u1 k1) 33 (0, 0)) ∧ W.heap[w.heap.size + 1]? = some (.cells (dc u2 k2) 33 (0, 0)) ∧ W.heap[w.heap.size + 1 + 1]? = some (.cells (dc 0 0) 33 (0, 0)) ∧ Below w.heap.size w W) ⟨ha_old (ha_old (ha_new rfl)), ha_old (ha_new (by simp)), ha_new (by simp), (((Below.refl _ _).alloc (Nat.le_refl _) _).alloc (by simp) _).alloc (by simp; omega) _⟩ ?_
  rintro W ⟨h0, h1, h2, hb⟩
  have a0 := dc0 h0
  have a1 := dc1 h0
  have b0 := dc0 h1
  have b1 := dc1 h1
  go_wp2_with (go_at_call 72; refine (refused_any W.heap.size 2 [(u1, k1), (u2, k2)] (by simp) scale m E HE _ (ha_new rfl)).mono ?_)
  rintro e w1 ⟨rfl, hb1⟩
  replace hb1 := ((Below.refl W.heap.size W).alloc (Nat.le_refl _) _).trans (hb1.mono (by simp))
  clear a0 a1 b0 b1
  replace h0 := below_look hb1 h0; replace h1 := below_look hb1 h1; replace h2 := below_look hb1 h2; replace hb := hb.trans (hb1.mono hb.size); clear hb1
  have a0 := dc0 h0
  have a1 := dc1 h0
  have b0 := dc0 h1
  have b1 := dc1 h1
  go_upto_region 4 with (fail)
  clear hE
  refine wp_region_float 10 11 (lv 0) 75 mixed (by kernel_rfl) ⟨_, rfl, rfl, rfl, ex_alloc75 rfl⟩ ?_; simp only [List.take_succ_cons, List.take_zero, List.drop_succ_cons, List.drop_zero]
  refine ws_k rfl (fun K hK => ?_); go_simp; refine hK _ ?_; clear hK K
  ((with_reducible apply ws_one); exact rfl; exact rfl; (intro w' hw'; exact one_of u3 rfl (below_cell hw' (by with_reducible assumption))))
  simp only [put_lit, List.set_cons_zero, List.set_cons_succ]
  refine ws_ck rfl (fun K hK => ?_); go_simp; refine ⟨_, _, ⟨rfl, rfl⟩, hK _ _ ⟨_, fun w' hw' => (small_any _ DB.out.a1 DB.out.a2 w'), ?_⟩⟩; clear hK K; simp only [put_lit, List.set_cons_zero, List.set_cons_succ]
  refine ws_k rfl (fun K hK => ?_); go_simp; refine hK _ ?_; clear hK K
  ((with_reducible apply ws_one); exact rfl; exact rfl; (intro w' hw'; exact one_of u3 rfl (below_cell hw' (by with_reducible assumption))))
  simp only [put_lit, List.set_cons_zero, List.set_cons_succ]
  refine ws_ck rfl (fun K hK => ?_); go_simp; refine ⟨_, _, ⟨rfl, rfl⟩, hK _ _ ⟨_, fun w' hw' => (small_any _ DB.out.b1 DB.out.b2 w'), ?_⟩⟩; clear hK K; simp only [put_lit, List.set_cons_zero, List.set_cons_succ]
  refine ws_ck rfl (fun K hK => ?_); go_simp; refine ⟨_, _, ⟨rfl, rfl⟩, hK _ _ ⟨_, fun w' hw' => (mul_any _ _ DB.out.m0 w'), ?_⟩⟩; clear hK K; simp only [put_lit, List.set_cons_zero, List.set_cons_succ]
  refine ws_k rfl (fun K hK => ?_); go_simp; refine hK _ ?_; clear hK K
  refine ws_ck rfl (fun K hK => ?_); go_simp; refine ⟨_, _, ⟨rfl, rfl⟩, hK _ _ ⟨_, fun w' hw' => (pow10_any scale DB.out.p1 DB.out.s0 DB.out.s1 w'), ?_⟩⟩; clear hK K; simp only [put_lit, List.set_cons_zero, List.set_cons_succ]
  refine ws_ck rfl (fun K hK => ?_); go_simp; refine ⟨_, _, ⟨rfl, rfl⟩, hK _ _ ⟨_, fun w' hw' => (mul_any _ _ DB.out.m1 w'), ?_⟩⟩; clear hK K; simp only [put_lit, List.set_cons_zero, List.set_cons_succ]
  rintro p5 w9 ⟨hb1, hl5, hp5⟩
  have lt2 := heap_lt h2
  clear a0 a1 b0 b1
  replace h0 := below_look hb1 h0; replace h1 := below_look hb1 h1; replace h2 := below_look hb1 h2; replace hb := hb.trans (hb1.mono hb.size); clear hb1
  simp only [put_lit, List.set_cons_zero, List.set_cons_succ]
  ((with_reducible apply wl_put75); exact rfl; exact rfl; exact hp5; intro w10 hbx hk hq; replace h0 := hk _ _ (by omega) h0; replace h1 := hk _ _ (by omega) h1; replace h2 := hk _ _ (by omega) h2; replace hb := hbx _ _ (by omega) hb; clear hp5; have hp5 := hq; clear hbx hk hq)
  have a0 := dc0 h0
  have a1 := dc1 h0
  have b0 := dc0 h1
  have b1 := dc1 h1
  go_upto_region 5 with (fail)
  refine wp_region_tail_late 13 12 mixed (by kernel_rfl) (by kernel_rfl) ?_
  simp only [List.take_succ_cons, List.take_zero, List.drop_succ_cons, List.drop_zero]
  ((with_reducible apply wq_row); exact rfl; exact rfl; (intro w' hw'; first | exact rowL (below_look hw' (by with_reducible assumption)) | exact rowD (below_look hw' (by with_reducible assumption)) | exact rowR (below_look hw' (by with_reducible assumption))))
  refine wq_k rfl (fun K hK => ?_); go_simp; refine hK _ ?_; clear hK K
  ((with_reducible apply wq_one); exact rfl; exact rfl; (intro w' hw'; exact one_of u3 rfl (below_cell hw' (by with_reducible assumption))))
  refine wq_k rfl (fun K hK => ?_); go_simp; refine hK _ ?_; clear hK K
  ((with_reducible apply wq_one); exact rfl; exact rfl; (intro w' hw'; exact one_of u3 rfl (below_cell hw' (by with_reducible assumption))))
  refine wq_k rfl (fun K hK => ?_); go_simp; refine hK _ ?_; clear hK K
  refine wq_ck rfl (fun K hK => ?_); go_simp; refine ⟨_, _, ⟨rfl, rfl⟩, hK _ _ ⟨_, fun w' hw' => calls_class hw' (pow10_any (k1 + k2) DB.out.p2 DB.out.t0 DB.out.t1 w'), ?_⟩⟩; clear hK K; simp only [put_lit, List.set_cons_zero, List.set_cons_succ]
  refine wq_k rfl (fun K hK => ?_); go_simp; refine hK _ ?_; clear hK K
  refine wq_ck rfl (fun K hK => ?_); go_simp; refine ⟨_, _, ⟨rfl, rfl⟩, hK _ _ ⟨_, fun w' hw' => calls_class hw' (rounded_any (u1 * u2 * t10 scale) (t10 (k1 + k2)) _ HRM.out DB.out.rb0 DB.out.rb1 DB.out.ra w'), ?_⟩⟩; clear hK K; simp only [put_lit, List.set_cons_zero, List.set_cons_succ]
  rw [← Hz.out]
  refine wq_k rfl (fun K hK => ?_); go_simp; refine hK _ ?_; clear hK K
  refine wq_ck rfl (fun K hK => ?_); go_simp; refine ⟨_, _, ⟨rfl, rfl⟩, hK _ _ ⟨_, fun w' hw' => calls_class hw' (made_any _ _ hzb.out _ _ _ hu hk he w'), ?_⟩⟩; clear hK K; simp only [put_lit, List.set_cons_zero, List.set_cons_succ]
  refine wq_k rfl (fun K hK => ?_); go_simp; refine hK _ ?_; clear hK K
  refine wq_k rfl (fun K hK => ?_); go_simp; refine hK _ ?_; clear hK K
  intro w11 hb1
  clear a0 a1 b0 b1
  replace h2 := below_look hb1 h2; replace hb := hb.trans (hb1.mono hb.size); clear hb1
  ((with_reducible apply wl_put33); exact rfl; exact rfl; exact h2; intro w12 hbx hk hq; replace hb := hbx _ _ (by omega) hb; clear h2; have h2 := hq; clear hbx hk hq)
  refine wl_k rfl (fun K hK => ?_); go_simp; refine hK _ ?_; clear hK K
  refine onlyN_nil ?_
  go_wp2_with fail
  exact bodyPost_ret (res_decErr rfl _ _ (w.heap.size + 1 + 1) rfl h2) rfl ⟨rfl, hb⟩
set_option maxHeartbeats 1000000 in
theorem Mul_refused (u1 k1 u2 k2 scale : Int) (m : ByteArray) (E : Int) (HE : Hid (E = refusedS [(u1, k1), (u2, k2)] scale m.data.toList)) (hE : ¬ E = 0) (w : World) :
    Calls Try.prog 29 #[.agg (dc u1 k1), .agg (dc u2 k2), .int .i64 scale, .string m] w fun e' w' => e' = .returned (.tuple #[.agg (dc 0 0), .int .i64 E]) ∧ Below w.heap.size w w' := by
  go_enter Try.func29, Try.ntmps29
  go_upto_region 1 with (fail)
  refine wp_world (fun W => W.heap[w.heap.size]? = some (.cells (dc u1 k1) 33 (0, 0)) ∧ W.heap[w.heap.size + 1]? = some (.cells (dc u2 k2) 33 (0, 0)) ∧ W.heap[w.heap.size + 1 + 1]? = some (.cells (dc 0 0) 33 (0, 0)) ∧ Below w.heap.size w W) ⟨ha_old (ha_old (ha_new rfl)), ha_old (ha_new (by simp)), ha_new (by simp), (((Below.refl _ _).alloc (Nat.le_refl _) _).alloc (by simp) _).alloc (by simp; omega) _⟩ ?_
  rintro W ⟨h0, h1, h2, hb⟩
  have a0 := dc0 h0
  have a1 := dc1 h0
  have b0 := dc0 h1
  have b1 := dc1 h1
  go_wp2_with (go_at_call 72; refine (refused_any W.heap.size 2 [(u1, k1), (u2, k2)] (by simp) scale m E HE _ (ha_new rfl)).mono ?_)
  rintro e w1 ⟨rfl, hb1⟩
  replace hb1 := ((Below.refl W.heap.size W).alloc (Nat.le_refl _) _).trans (hb1.mono (by simp))
  clear a0 a1 b0 b1
  replace h0 := below_look hb1 h0; replace h1 := below_look hb1 h1; replace h2 := below_look hb1 h2; replace hb := hb.trans (hb1.mono hb.size); clear hb1
  have a0 := dc0 h0
  have a1 := dc1 h0
  have b0 := dc0 h1
  have b1 := dc1 h1
  have c0 := dc0 h2
  have c1 := dc1 h2
  have f0 : w1.frozen? ⟨w.heap.size + 1 + 1, 0, none⟩ = false := frozen_of_row _ _ _ _ _ h2
  have f1 : w1.frozen? ⟨w.heap.size + 1 + 1, 1, none⟩ = false := frozen_of_row _ _ _ _ _ h2
  go_wp2_with fail
  exact bodyPost_ret (res_decErr rfl _ _ (w.heap.size + 1 + 1) rfl ((hs_new (hs_new h2)).trans rfl)) rfl ⟨rfl, (hb.setCell (by simp; omega) _).setCell (by simp; omega) _⟩
def mulDS (u1 k1 u2 k2 scale : Int) (m : List UInt8) : Int × Int × Int :=
  if refusedS [(u1, k1), (u2, k2)] scale m = 0 then (madeU (roundS m (u1 * u2 * t10 scale) (t10 (k1 + k2))), madeK (roundS m (u1 * u2 * t10 scale) (t10 (k1 + k2))) scale, madeE (roundS m (u1 * u2 * t10 scale) (t10 (k1 + k2)))) else (0, 0, refusedS [(u1, k1), (u2, k2)] scale m)
theorem Mul_any (u1 k1 u2 k2 scale : Int) (m : ByteArray) (u' k' e : Int) (h : Hid (mulDS u1 k1 u2 k2 scale m.data.toList = (u', k', e))) (w : World) :
    Calls Try.prog 29 #[.agg (dc u1 k1), .agg (dc u2 k2), .int .i64 scale, .string m] w fun e' w' => e' = .returned (.tuple #[.agg (dc u' k'), .int .i64 e]) ∧ Below w.heap.size w w' := by
  have h := h.out
  unfold mulDS at h
  by_cases hv : refusedS [(u1, k1), (u2, k2)] scale m.data.toList = 0
  · rw [if_pos hv] at h
    simp only [Prod.mk.injEq] at h
    obtain ⟨rfl, rfl, rfl⟩ := h
    obtain ⟨_, hm, _, _⟩ := refused0 hv
    have B := mulBd hv
    refine Mul_ok u1 k1 u2 k2 scale m 0 (Lib.hid hv.symm) rfl (Lib.hid B) (Lib.hid hm) _ _ _ _ (Lib.hid rfl) (Lib.hid ?_) (Lib.hid rfl) (Lib.hid rfl) (Lib.hid rfl) w
    have h1 := roundS_bd m.data.toList (u1 * u2 * t10 scale) (t10 (k1 + k2))
    have h2 := B.ra
    have h3 : (10 : Nat) ^ 63 + 1 < 10 ^ 64 := by decide
    omega
  · rw [if_neg hv] at h
    simp only [Prod.mk.injEq] at h
    obtain ⟨rfl, rfl, rfl⟩ := h
    exact Mul_refused u1 k1 u2 k2 scale m _ (Lib.hid rfl) hv w
end Go.Proofs.Ytclainfdeghgnaa

namespace Go.Proofs.Ytclainfdeghgnaa
open Go.RowKit Go.Proofs.Ytclainfdeghgnaa.Nm Go.Proofs.Ytclainfdeghgnaa.Lm
theorem ex_alloc84i {o : Oper} (ho : o.op = .alloc 84) (ev : Operand → Value) (w : World) : (execOp ev o).run Try.prog w = .ok (.value (.pointer (some ⟨w.heap.size, 0, none⟩))) (w.alloc (.cells (iv 0 none 0) 84)) := by
  rw [iv_zero]
  unfold execOp
  simp only [ho]
  kernel_rfl
set_option maxHeartbeats 1000000 in
theorem MulI_bad (u1 k1 u2 k2 scale : Int) (m : ByteArray) (E : Int) (HE : Hid (E = refusedS [(u1, k1), (u2, k2)] scale m.data.toList)) (hE : E ≠ 0) (w : World) :
    Calls Try.prog 30 #[.agg (dc u1 k1), .agg (dc u2 k2), .int .i64 scale, .string m] w fun e' w' => e' = .returned (.tuple #[.agg (dc 0 0), .int .i64 E]) ∧ Below w.heap.size w w' := by
  go_enter Try.func30, Try.ntmps30
  go_upto_region 1 with (fail)
  refine wp_world (fun W => W.heap[w.heap.size]? = some (.cells (dc u1 k1) 33 (0, 0)) ∧ W.heap[w.heap.size + 1]? = some (.cells (dc u2 k2) 33 (0, 0)) ∧ W.heap[w.heap.size + 1 + 1]? = some (.cells (dc 0 0) 33 (0, 0)) ∧ Below w.heap.size w W) ⟨ha_old (ha_old (ha_new rfl)), ha_old (ha_new (by simp)), ha_new (by simp), (((Below.refl _ _).alloc (Nat.le_refl _) _).alloc (by simp) _).alloc (by simp; omega) _⟩ ?_
  rintro W ⟨h0, h1, h2, hb⟩
  apply wp_region_lit
  ((with_reducible apply wl_rowG); exact rfl; exact rfl; exact rowDc h0)
  ((with_reducible apply wl_rowG); exact rfl; exact rfl; exact rowDc h1)
  refine wl_k rfl (fun K hK => ?_); go_simp; refine hK _ ?_; clear hK K
  refine wl_k rfl (fun K hK => ?_); go_simp; refine hK _ ?_; clear hK K
  refine wl_ck rfl (fun K hK => ?_); go_simp; refine ⟨_, _, ⟨rfl, rfl⟩, hK _ _ ⟨_, askedI_any u1 k1 u2 k2 scale m E HE _, ?_⟩⟩; clear hK K; rintro e w1 ⟨rfl, hb1⟩; refine ⟨_, rfl, ?_⟩; simp only [put_lit, List.set_cons_zero, List.set_cons_succ]
  replace h0 := below_look hb1 h0; replace h1 := below_look hb1 h1; replace h2 := below_look hb1 h2; replace hb := hb.trans (hb1.mono hb.size); clear hb1
  have c0 := dc0 h2
  have c1 := dc1 h2
  have f0 : w1.frozen? ⟨w.heap.size + 1 + 1, 0, none⟩ = false := frozen_of_row _ _ _ _ _ h2
  have f1 : w1.frozen? ⟨w.heap.size + 1 + 1, 1, none⟩ = false := frozen_of_row _ _ _ _ _ h2
  go_wp2_with fail
  exact bodyPost_ret (res_decErr rfl _ _ (w.heap.size + 1 + 1) rfl ((hs_new (hs_new h2)).trans rfl)) rfl ⟨rfl, (hb.setCell (by simp; omega) _).setCell (by simp; omega) _⟩
set_option maxHeartbeats 40000000 in
set_option maxRecDepth 100000 in
theorem MulI_good (u1 k1 u2 k2 scale : Int) (m : ByteArray) (E : Int) (HE : Hid (E = refusedS [(u1, k1), (u2, k2)] scale m.data.toList)) (hE : E = 0) (HM : Hid (isRoundL m.data.toList = true)) (DB : Hid (MulBd u1 k1 u2 k2 scale))
    (x y z : Int) (HX : Hid (x = u1 * u2 * t10 scale)) (HY : Hid (y = t10 (k1 + k2))) (HZ : Hid (z = roundS m.data.toList x y)) (u' k' e : Int) (hu : Hid (u' = madeU z)) (hk : Hid (k' = madeK z scale)) (he : Hid (e = madeE z)) (w : World) :
    Calls Try.prog 30 #[.agg (dc u1 k1), .agg (dc u2 k2), .int .i64 scale, .string m] w fun e' w' => e' = .returned (.tuple #[.agg (dc u' k'), .int .i64 e]) ∧ Below w.heap.size w w' := by
  have NX : Hid (nl x.natAbs ≤ 7) := Lib.hid (nl_63 (by rw [HX.out]; exact Nat.le_of_lt DB.out.ra))
  have NY : Hid (nl y.natAbs ≤ 7) := Lib.hid (nl_63 (by rw [HY.out]; exact Nat.le_of_lt DB.out.rb1))
  have NZ : Hid (nl z.natAbs ≤ 7) := Lib.hid (nl_63 (by
    have h1 := roundS_bd m.data.toList x y
    have h2 := DB.out.ra
    rw [HX.out] at h1
    rw [HZ.out, HX.out]
    omega))
  have N12 : Hid (nl (u1 * u2).natAbs ≤ 7) := Lib.hid (nl_le _ _ (Nat.lt_trans (by rw [Int.natAbs_mul]; exact DB.out.m0) (by rw [B_eq]; decide)))
  have YP : Hid (0 < y) := Lib.hid (by rw [HY.out]; exact t10_pos _)
  have i1 : IntKind.i64.wrap (k1 + k2) = k1 + k2 := IntWalk.i64_in _ (by have := DB.out.k9; omega)
  go_enter Try.func30, Try.ntmps30
  go_upto_region 1 with (fail)
  refine wp_world (fun W => W.heap[w.heap.size]? = some (.cells (dc u1 k1) 33 (0, 0)) ∧ W.heap[w.heap.size + 1]? = some (.cells (dc u2 k2) 33 (0, 0)) ∧ W.heap[w.heap.size + 1 + 1]? = some (.cells (dc 0 0) 33 (0, 0)) ∧ Below w.heap.size w W) ⟨ha_old (ha_old (ha_new rfl)), ha_old (ha_new (by simp)), ha_new (by simp), (((Below.refl _ _).alloc (Nat.le_refl _) _).alloc (by simp) _).alloc (by simp; omega) _⟩ ?_
  rintro W ⟨h0, h1, h2, hb⟩
  apply wp_region_lit
  ((with_reducible apply wl_rowG); exact rfl; exact rfl; exact rowDc h0)
  ((with_reducible apply wl_rowG); exact rfl; exact rfl; exact rowDc h1)
  refine wl_k rfl (fun K hK => ?_); go_simp; refine hK _ ?_; clear hK K
  refine wl_k rfl (fun K hK => ?_); go_simp; refine hK _ ?_; clear hK K
  refine wl_ck rfl (fun K hK => ?_); go_simp; refine ⟨_, _, ⟨rfl, rfl⟩, hK _ _ ⟨_, askedI_any u1 k1 u2 k2 scale m E HE _, ?_⟩⟩; clear hK K; rintro e w1 ⟨rfl, hb1⟩; refine ⟨_, rfl, ?_⟩; simp only [put_lit, List.set_cons_zero, List.set_cons_succ]
  replace h0 := below_look hb1 h0; replace h1 := below_look hb1 h1; replace h2 := below_look hb1 h2; replace hb := hb.trans (hb1.mono hb.size); clear hb1
  subst hE
  have a0 := dc0 h0
  have b0 := dc0 h1
  go_upto_region 4 with (fail)
  have L0 := heap_lt h0
  have L1 := heap_lt h1
  have L2 := heap_lt h2
  have L3 := hb.size
  rename_i K hK
  have tail : ∀ (p11 : Nat) (A : Option Addr) (c : Nat) (t23 t26 t27 t29 t30 : Value) (wz : World), w.heap.size + 1 + 1 < p11 → wz.heap[w.heap.size]? = some (.cells (dc u1 k1) 33 (0, 0)) → wz.heap[w.heap.size + 1]? = some (.cells (dc u2 k2) 33 (0, 0)) → wz.heap[w.heap.size + 1 + 1]? = some (.cells (dc 0 0) 33 (0, 0)) → wz.heap[p11]? = some (.cells (iv x A c) 84 (0, 0)) → IvAt wz x A c → Below w.heap.size w wz →
      K ⟨#[.agg (dc u1 k1), .agg (dc u2 k2), .int .i64 scale, .string m, .pointer (some ⟨w.heap.size, 0, none⟩), .pointer (some ⟨w.heap.size + 1, 0, none⟩), undef, undef, .pointer (some ⟨w.heap.size + 1 + 1, 0, none⟩), .int .i64 0, .int .i64 0, .pointer (some ⟨p11, 0, none⟩), .agg (dc u1 k1), .agg (dc u2 k2), .int .i64 scale, .string m, .int .i64 0, .int .i64 0, .bool false, undef, undef, .pointer (some ⟨w.heap.size, 0, none⟩), .int .i64 u1, t23, .pointer (some ⟨w.heap.size + 1, 0, none⟩), .int .i64 u2, t26, t27, .int .i64 scale, t29, t30, undef, undef, undef, undef, undef, undef, undef, undef, undef, undef, undef, undef, undef], []⟩ wz := by
    intro p11 A c t23 t26 t27 t29 t30 wz hlt h0 h1 h2 hp11 j5 hb
    apply hK
    clear hK a0 b0 L0 L1 L2 L3
    have a1 := dc1 h0
    have b1 := dc1 h1
    go_upto_region 5 with (fail)
    replace j5 := j5.below (Below.refl _ _).drew
    replace hb := hb.drew
    refine wp_region_held_drew (S := Kept [w.heap.size + 1 + 1] wz) mixed (Kept.drew [w.heap.size + 1 + 1] wz) (fun hS => ?_)
    refine ha_val (i := 0) rfl (by kernel_rfl) (by kernel_rfl) (by kernel_rfl) (fun _ _ _ h => h) hS rfl (fun w' hw' => ex_row rfl (rowIv (hw'.look hp11 (by simp <;> omega)))) ?_
    refine ha_k (i := 1) rfl (by kernel_rfl) (by kernel_rfl) (by kernel_rfl) (fun _ _ _ _ h => h) hS rfl (fun K hK => ?_); go_simp; refine hK _ ?_; clear hK K; try simp only [put_lit, List.set_cons_zero, List.set_cons_succ]
    refine ha_val (i := 2) rfl (by kernel_rfl) (by kernel_rfl) (by kernel_rfl) (fun _ _ _ h => h) hS rfl (fun w' hw' => ex_one rfl (one3 (hw'.cell a1 (by simp <;> omega)))) ?_; try simp only [put_lit, List.set_cons_zero, List.set_cons_succ]
    refine ha_k (i := 3) rfl (by kernel_rfl) (by kernel_rfl) (by kernel_rfl) (fun _ _ _ _ h => h) hS rfl (fun K hK => ?_); go_simp; refine hK _ ?_; clear hK K; try simp only [put_lit, List.set_cons_zero, List.set_cons_succ]
    refine ha_val (i := 4) rfl (by kernel_rfl) (by kernel_rfl) (by kernel_rfl) (fun _ _ _ h => h) hS rfl (fun w' hw' => ex_one rfl (one3 (hw'.cell b1 (by simp <;> omega)))) ?_; try simp only [put_lit, List.set_cons_zero, List.set_cons_succ]
    refine ha_k (i := 5) rfl (by kernel_rfl) (by kernel_rfl) (by kernel_rfl) (fun _ _ _ _ h => h) hS rfl (fun K hK => ?_); go_simp; refine hK _ ?_; clear hK K; try simp only [put_lit, List.set_cons_zero, List.set_cons_succ]
    refine ha_k (i := 7) rfl (by kernel_rfl) (by kernel_rfl) (by kernel_rfl) (fun _ _ _ _ h => h) hS rfl (fun K hK => ?_); go_simp; refine hK _ ?_; clear hK K; try simp only [put_lit, List.set_cons_zero, List.set_cons_succ]
    refine ha_k (i := 9) rfl (by kernel_rfl) (by kernel_rfl) (by kernel_rfl) (fun _ _ _ _ h => h) hS rfl (fun K hK => ?_); go_simp; refine hK _ ?_; clear hK K; try simp only [put_lit, List.set_cons_zero, List.set_cons_succ]
    refine ha_call (i := 6) (by kernel_rfl) rfl rfl (fun K hK => ?_); go_simp; refine ⟨_, _, ⟨rfl, rfl⟩, hK _ _ ⟨_, TensT_any (k1 + k2) DB.out.t0 (by have := DB.out.k9; omega) _, ?_⟩⟩; clear hK K; rintro e v1 ⟨B1, d1, rfl, j6, hb1⟩; refine ⟨_, rfl, hS.below hb1, ?_⟩; replace hS := hS.below hb1; replace h2 := below_look hb1 h2; replace j5 := j5.below hb1; replace hb := hb.trans (hb1.mono hb.size); clear hb1; rw [← HY.out] at j6 ⊢; try simp only [put_lit, List.set_cons_zero, List.set_cons_succ]
    refine ha_call (i := 8) (by kernel_rfl) rfl rfl (fun K hK => ?_); go_simp; refine ⟨_, _, ⟨rfl, rfl⟩, hK _ _ ⟨_, roundedI_pos x y _ _ _ _ m _ j5 j6 (by have := NX.out; omega) (by have := NY.out; omega) YP.out HM z HZ, ?_⟩⟩; clear hK K; rintro e v2 ⟨B2, d2, rfl, j7, hb1⟩; refine ⟨_, rfl, hS.below hb1, ?_⟩; replace hS := hS.below hb1; replace h2 := below_look hb1 h2; replace hb := hb.trans (hb1.mono hb.size); clear hb1; try simp only [put_lit, List.set_cons_zero, List.set_cons_succ]
    refine ha_call (i := 10) (by kernel_rfl) rfl rfl (fun K hK => ?_); go_simp; refine ⟨_, _, ⟨rfl, rfl⟩, hK _ _ ⟨_, decimal_any z scale _ _ _ j7 (by have := NZ.out; omega) u' k' e hu hk he, ?_⟩⟩; clear hK K; rintro e v3 ⟨rfl, hb1⟩; refine ⟨_, rfl, hS.below hb1, ?_⟩; replace hS := hS.below hb1; replace h2 := below_look hb1 h2; replace hb := hb.trans (hb1.mono hb.size); clear hb1; try simp only [put_lit, List.set_cons_zero, List.set_cons_succ]
    refine ha_k (i := 11) rfl (by kernel_rfl) (by kernel_rfl) (by kernel_rfl) (fun _ _ _ _ h => h) hS rfl (fun K hK => ?_); go_simp; refine hK _ ?_; clear hK K; try simp only [put_lit, List.set_cons_zero, List.set_cons_succ]
    refine ha_k (i := 12) rfl (by kernel_rfl) (by kernel_rfl) (by kernel_rfl) (fun _ _ _ _ h => h) hS rfl (fun K hK => ?_); go_simp; refine hK _ ?_; clear hK K; try simp only [put_lit, List.set_cons_zero, List.set_cons_succ]
    refine ha_store (i := 13) (by kernel_rfl) rfl rfl 33 _ _ rfl _ (dc (u') (k')) rfl rfl 33 _ h2 info33 rfl (by simp [dc, Value.oneCell']) (hS.setRow (by simp) _) (fun hS => ?_); try simp only [put_lit, List.set_cons_zero, List.set_cons_succ]
    refine ha_k (i := 14) rfl (by kernel_rfl) (by kernel_rfl) (by kernel_rfl) (fun _ _ _ _ h => h) hS rfl (fun K hK => ?_); go_simp; refine hK _ ?_; clear hK K; try simp only [put_lit, List.set_cons_zero, List.set_cons_succ]
    refine wpAnyH_done (by kernel_rfl) ?_ _
    clear a1 b1
    go_wp2_with fail
    exact bodyPost_ret (res_decErr rfl _ _ (w.heap.size + 1 + 1) rfl (hr_new h2)) rfl ⟨rfl, below_setRow hb (by omega) _⟩
  clear hK
  replace hb := hb.drew
  refine wp_region_held_drew (S := Kept [] w1) mixed (Kept.drew [] w1) (fun hS => ?_)
  refine ha_k (i := 0) rfl (by kernel_rfl) (by kernel_rfl) (by kernel_rfl) (fun _ _ _ _ h => h) hS rfl (fun K hK => ?_); go_simp; refine hK _ ?_; clear hK K; try simp only [put_lit, List.set_cons_zero, List.set_cons_succ]
  refine ha_val (i := 1) rfl (by kernel_rfl) (by kernel_rfl) (by kernel_rfl) (fun _ _ _ h => h) hS rfl (fun w' hw' => ex_one rfl (one3 (hw'.cell a0 (by simp <;> omega)))) ?_; try simp only [put_lit, List.set_cons_zero, List.set_cons_succ]
  refine ha_k (i := 3) rfl (by kernel_rfl) (by kernel_rfl) (by kernel_rfl) (fun _ _ _ _ h => h) hS rfl (fun K hK => ?_); go_simp; refine hK _ ?_; clear hK K; try simp only [put_lit, List.set_cons_zero, List.set_cons_succ]
  refine ha_val (i := 4) rfl (by kernel_rfl) (by kernel_rfl) (by kernel_rfl) (fun _ _ _ h => h) hS rfl (fun w' hw' => ex_one rfl (one3 (hw'.cell b0 (by simp <;> omega)))) ?_; try simp only [put_lit, List.set_cons_zero, List.set_cons_succ]
  refine ha_k (i := 7) rfl (by kernel_rfl) (by kernel_rfl) (by kernel_rfl) (fun _ _ _ _ h => h) hS rfl (fun K hK => ?_); go_simp; refine hK _ ?_; clear hK K; try simp only [put_lit, List.set_cons_zero, List.set_cons_succ]
  refine ha_two (i := 2) (j := 10) (by kernel_rfl) ?_ ?_
  · refine sh_call (i := 2) rfl rfl (fun K hK => ?_); go_simp; refine ⟨_, _, ⟨rfl, rfl⟩, hK _ _ ⟨_, Of_any u1 DB.out.a1 DB.out.a2 _, ?_⟩⟩; clear hK K; rintro e w2 ⟨A2, c2, rfl, j1, hb1⟩; refine ⟨_, rfl, hS.below hb1, ?_⟩; replace hS := hS.below hb1; replace h0 := below_look hb1 h0; replace h1 := below_look hb1 h1; replace h2 := below_look hb1 h2; replace hb := hb.trans (hb1.mono hb.size); clear hb1; try simp only [put_lit, List.set_cons_zero, List.set_cons_succ]
    refine ha_two (i := 5) (j := 10) (by kernel_rfl) ?_ ?_
    · refine sh_call (i := 5) rfl rfl (fun K hK => ?_); go_simp; refine ⟨_, _, ⟨rfl, rfl⟩, hK _ _ ⟨_, Of_any u2 DB.out.b1 DB.out.b2 _, ?_⟩⟩; clear hK K; rintro e w3 ⟨A3, c3, rfl, j2, hb1⟩; refine ⟨_, rfl, hS.below hb1, ?_⟩; replace hS := hS.below hb1; replace h0 := below_look hb1 h0; replace h1 := below_look hb1 h1; replace h2 := below_look hb1 h2; replace j1 := j1.below hb1; replace hb := hb.trans (hb1.mono hb.size); clear hb1; try simp only [put_lit, List.set_cons_zero, List.set_cons_succ]
      refine ha_two (i := 6) (j := 10) (by kernel_rfl) ?_ ?_
      · refine sh_call (i := 6) rfl rfl (fun K hK => ?_); go_simp; refine ⟨_, _, ⟨rfl, rfl⟩, hK _ _ ⟨_, TimesI_any _ _ _ _ _ _ _ j1 j2 (by have := nl_i64 DB.out.a1 DB.out.a2; omega) (by have := nl_i64 DB.out.b1 DB.out.b2; omega), ?_⟩⟩; clear hK K; rintro e w4 ⟨A4, c4, rfl, j3, hb1⟩; refine ⟨_, rfl, hS.below hb1, ?_⟩; replace hS := hS.below hb1; replace h0 := below_look hb1 h0; replace h1 := below_look hb1 h1; replace h2 := below_look hb1 h2; replace hb := hb.trans (hb1.mono hb.size); clear hb1; try simp only [put_lit, List.set_cons_zero, List.set_cons_succ]
        refine ha_two (i := 8) (j := 10) (by kernel_rfl) ?_ ?_
        · refine sh_call (i := 8) rfl rfl (fun K hK => ?_); go_simp; refine ⟨_, _, ⟨rfl, rfl⟩, hK _ _ ⟨_, TensT_any scale DB.out.s0 (by have := DB.out.s9; omega) _, ?_⟩⟩; clear hK K; rintro e w5 ⟨A5, c5, rfl, j4, hb1⟩; refine ⟨_, rfl, hS.below hb1, ?_⟩; replace hS := hS.below hb1; replace h0 := below_look hb1 h0; replace h1 := below_look hb1 h1; replace h2 := below_look hb1 h2; replace j3 := j3.below hb1; replace hb := hb.trans (hb1.mono hb.size); clear hb1; try simp only [put_lit, List.set_cons_zero, List.set_cons_succ]
          refine ha_two (i := 9) (j := 10) (by kernel_rfl) ?_ ?_
          · refine sh_call (i := 9) rfl rfl (fun K hK => ?_); go_simp; refine ⟨_, _, ⟨rfl, rfl⟩, hK _ _ ⟨_, TimesI_any _ _ _ _ _ _ _ j3 j4 (by have := N12.out; omega) (by have := nl_t10 (x := scale) (by have := DB.out.s9; omega); omega), ?_⟩⟩; clear hK K; rintro e w6 ⟨A6, c6, rfl, j5, hb1⟩; refine ⟨_, rfl, hS.below hb1, ?_⟩; replace hS := hS.below hb1; replace h0 := below_look hb1 h0; replace h1 := below_look hb1 h1; replace h2 := below_look hb1 h2; replace hb := hb.trans (hb1.mono hb.size); clear hb1; rw [← HX.out] at j5 ⊢; try simp only [put_lit, List.set_cons_zero, List.set_cons_succ]
            refine ha_mk (i := 10) (by kernel_rfl) rfl rfl (fun ev w' => ex_alloc84i rfl ev w') hS (fun w7 p11 hb1 hLp11 hlp11 hp11 hS => ?_); replace h0 := below_look hb1 h0; replace h1 := below_look hb1 h1; replace h2 := below_look hb1 h2; replace j5 := j5.below hb1; replace hb := hb.trans (hb1.mono hb.size); clear hb1; try simp only [put_lit, List.set_cons_zero, List.set_cons_succ]
            refine ha_store (i := 11) (by kernel_rfl) rfl rfl 84 _ _ rfl _ (iv x A6 c6) rfl rfl 84 _ hp11 info84 rfl (iv_one _ _ _) (hS.setNew (by omega) _) (fun hS => ?_); try simp only [put_lit, List.set_cons_zero, List.set_cons_succ]
            refine wpAnyH_done (by kernel_rfl) ?_ _
            replace h0 := hr_old (g := p11) (cs := iv x A6 c6) h0 (by omega)
            replace h1 := hr_old (g := p11) (cs := iv x A6 c6) h1 (by omega)
            replace h2 := hr_old (g := p11) (cs := iv x A6 c6) h2 (by omega)
            replace hb := below_setRow hb (g := p11) (by omega) (iv x A6 c6)
            replace j5 := j5.put hp11 (iv x A6 c6)
            replace hp11 := hr_new (cs := iv x A6 c6) hp11
            exact tail p11 A6 c6 _ _ _ _ _ _ (by omega) h0 h1 h2 hp11 j5 hb
          · refine sh_mk (i := 10) rfl rfl (fun ev w' => ex_alloc84i rfl ev w') hS (fun w6 p11 hb1 hLp11 hlp11 hp11 hS => ?_); replace h0 := below_look hb1 h0; replace h1 := below_look hb1 h1; replace h2 := below_look hb1 h2; replace j3 := j3.below hb1; replace j4 := j4.below hb1; replace hb := hb.trans (hb1.mono hb.size); clear hb1; try simp only [put_lit, List.set_cons_zero, List.set_cons_succ]
            refine ha_call (i := 9) (by kernel_rfl) rfl rfl (fun K hK => ?_); go_simp; refine ⟨_, _, ⟨rfl, rfl⟩, hK _ _ ⟨_, TimesI_any _ _ _ _ _ _ _ j3 j4 (by have := N12.out; omega) (by have := nl_t10 (x := scale) (by have := DB.out.s9; omega); omega), ?_⟩⟩; clear hK K; rintro e w7 ⟨A7, c7, rfl, j5, hb1⟩; refine ⟨_, rfl, hS.below hb1, ?_⟩; replace hS := hS.below hb1; replace h0 := below_look hb1 h0; replace h1 := below_look hb1 h1; replace h2 := below_look hb1 h2; replace hp11 := below_look hb1 hp11; replace hb := hb.trans (hb1.mono hb.size); clear hb1; rw [← HX.out] at j5 ⊢; try simp only [put_lit, List.set_cons_zero, List.set_cons_succ]
            refine ha_store (i := 11) (by kernel_rfl) rfl rfl 84 _ _ rfl _ (iv x A7 c7) rfl rfl 84 _ hp11 info84 rfl (iv_one _ _ _) (hS.setNew (by omega) _) (fun hS => ?_); try simp only [put_lit, List.set_cons_zero, List.set_cons_succ]
            refine wpAnyH_done (by kernel_rfl) ?_ _
            replace h0 := hr_old (g := p11) (cs := iv x A7 c7) h0 (by omega)
            replace h1 := hr_old (g := p11) (cs := iv x A7 c7) h1 (by omega)
            replace h2 := hr_old (g := p11) (cs := iv x A7 c7) h2 (by omega)
            replace hb := below_setRow hb (g := p11) (by omega) (iv x A7 c7)
            replace j5 := j5.put hp11 (iv x A7 c7)
            replace hp11 := hr_new (cs := iv x A7 c7) hp11
            exact tail p11 A7 c7 _ _ _ _ _ _ (by omega) h0 h1 h2 hp11 j5 hb
        · refine sh_mk (i := 10) rfl rfl (fun ev w' => ex_alloc84i rfl ev w') hS (fun w5 p11 hb1 hLp11 hlp11 hp11 hS => ?_); replace h0 := below_look hb1 h0; replace h1 := below_look hb1 h1; replace h2 := below_look hb1 h2; replace j3 := j3.below hb1; replace hb := hb.trans (hb1.mono hb.size); clear hb1; try simp only [put_lit, List.set_cons_zero, List.set_cons_succ]
          refine ha_call (i := 8) (by kernel_rfl) rfl rfl (fun K hK => ?_); go_simp; refine ⟨_, _, ⟨rfl, rfl⟩, hK _ _ ⟨_, TensT_any scale DB.out.s0 (by have := DB.out.s9; omega) _, ?_⟩⟩; clear hK K; rintro e w6 ⟨A6, c6, rfl, j4, hb1⟩; refine ⟨_, rfl, hS.below hb1, ?_⟩; replace hS := hS.below hb1; replace h0 := below_look hb1 h0; replace h1 := below_look hb1 h1; replace h2 := below_look hb1 h2; replace hp11 := below_look hb1 hp11; replace j3 := j3.below hb1; replace hb := hb.trans (hb1.mono hb.size); clear hb1; try simp only [put_lit, List.set_cons_zero, List.set_cons_succ]
          refine ha_call (i := 9) (by kernel_rfl) rfl rfl (fun K hK => ?_); go_simp; refine ⟨_, _, ⟨rfl, rfl⟩, hK _ _ ⟨_, TimesI_any _ _ _ _ _ _ _ j3 j4 (by have := N12.out; omega) (by have := nl_t10 (x := scale) (by have := DB.out.s9; omega); omega), ?_⟩⟩; clear hK K; rintro e w7 ⟨A7, c7, rfl, j5, hb1⟩; refine ⟨_, rfl, hS.below hb1, ?_⟩; replace hS := hS.below hb1; replace h0 := below_look hb1 h0; replace h1 := below_look hb1 h1; replace h2 := below_look hb1 h2; replace hp11 := below_look hb1 hp11; replace hb := hb.trans (hb1.mono hb.size); clear hb1; rw [← HX.out] at j5 ⊢; try simp only [put_lit, List.set_cons_zero, List.set_cons_succ]
          refine ha_store (i := 11) (by kernel_rfl) rfl rfl 84 _ _ rfl _ (iv x A7 c7) rfl rfl 84 _ hp11 info84 rfl (iv_one _ _ _) (hS.setNew (by omega) _) (fun hS => ?_); try simp only [put_lit, List.set_cons_zero, List.set_cons_succ]
          refine wpAnyH_done (by kernel_rfl) ?_ _
          replace h0 := hr_old (g := p11) (cs := iv x A7 c7) h0 (by omega)
          replace h1 := hr_old (g := p11) (cs := iv x A7 c7) h1 (by omega)
          replace h2 := hr_old (g := p11) (cs := iv x A7 c7) h2 (by omega)
          replace hb := below_setRow hb (g := p11) (by omega) (iv x A7 c7)
          replace j5 := j5.put hp11 (iv x A7 c7)
          replace hp11 := hr_new (cs := iv x A7 c7) hp11
          exact tail p11 A7 c7 _ _ _ _ _ _ (by omega) h0 h1 h2 hp11 j5 hb
      · refine sh_mk (i := 10) rfl rfl (fun ev w' => ex_alloc84i rfl ev w') hS (fun w4 p11 hb1 hLp11 hlp11 hp11 hS => ?_); replace h0 := below_look hb1 h0; replace h1 := below_look hb1 h1; replace h2 := below_look hb1 h2; replace j1 := j1.below hb1; replace j2 := j2.below hb1; replace hb := hb.trans (hb1.mono hb.size); clear hb1; try simp only [put_lit, List.set_cons_zero, List.set_cons_succ]
        refine ha_call (i := 6) (by kernel_rfl) rfl rfl (fun K hK => ?_); go_simp; refine ⟨_, _, ⟨rfl, rfl⟩, hK _ _ ⟨_, TimesI_any _ _ _ _ _ _ _ j1 j2 (by have := nl_i64 DB.out.a1 DB.out.a2; omega) (by have := nl_i64 DB.out.b1 DB.out.b2; omega), ?_⟩⟩; clear hK K; rintro e w5 ⟨A5, c5, rfl, j3, hb1⟩; refine ⟨_, rfl, hS.below hb1, ?_⟩; replace hS := hS.below hb1; replace h0 := below_look hb1 h0; replace h1 := below_look hb1 h1; replace h2 := below_look hb1 h2; replace hp11 := below_look hb1 hp11; replace hb := hb.trans (hb1.mono hb.size); clear hb1; try simp only [put_lit, List.set_cons_zero, List.set_cons_succ]
        refine ha_call (i := 8) (by kernel_rfl) rfl rfl (fun K hK => ?_); go_simp; refine ⟨_, _, ⟨rfl, rfl⟩, hK _ _ ⟨_, TensT_any scale DB.out.s0 (by have := DB.out.s9; omega) _, ?_⟩⟩; clear hK K; rintro e w6 ⟨A6, c6, rfl, j4, hb1⟩; refine ⟨_, rfl, hS.below hb1, ?_⟩; replace hS := hS.below hb1; replace h0 := below_look hb1 h0; replace h1 := below_look hb1 h1; replace h2 := below_look hb1 h2; replace hp11 := below_look hb1 hp11; replace j3 := j3.below hb1; replace hb := hb.trans (hb1.mono hb.size); clear hb1; try simp only [put_lit, List.set_cons_zero, List.set_cons_succ]
        refine ha_call (i := 9) (by kernel_rfl) rfl rfl (fun K hK => ?_); go_simp; refine ⟨_, _, ⟨rfl, rfl⟩, hK _ _ ⟨_, TimesI_any _ _ _ _ _ _ _ j3 j4 (by have := N12.out; omega) (by have := nl_t10 (x := scale) (by have := DB.out.s9; omega); omega), ?_⟩⟩; clear hK K; rintro e w7 ⟨A7, c7, rfl, j5, hb1⟩; refine ⟨_, rfl, hS.below hb1, ?_⟩; replace hS := hS.below hb1; replace h0 := below_look hb1 h0; replace h1 := below_look hb1 h1; replace h2 := below_look hb1 h2; replace hp11 := below_look hb1 hp11; replace hb := hb.trans (hb1.mono hb.size); clear hb1; rw [← HX.out] at j5 ⊢; try simp only [put_lit, List.set_cons_zero, List.set_cons_succ]
        refine ha_store (i := 11) (by kernel_rfl) rfl rfl 84 _ _ rfl _ (iv x A7 c7) rfl rfl 84 _ hp11 info84 rfl (iv_one _ _ _) (hS.setNew (by omega) _) (fun hS => ?_); try simp only [put_lit, List.set_cons_zero, List.set_cons_succ]
        refine wpAnyH_done (by kernel_rfl) ?_ _
        replace h0 := hr_old (g := p11) (cs := iv x A7 c7) h0 (by omega)
        replace h1 := hr_old (g := p11) (cs := iv x A7 c7) h1 (by omega)
        replace h2 := hr_old (g := p11) (cs := iv x A7 c7) h2 (by omega)
        replace hb := below_setRow hb (g := p11) (by omega) (iv x A7 c7)
        replace j5 := j5.put hp11 (iv x A7 c7)
        replace hp11 := hr_new (cs := iv x A7 c7) hp11
        exact tail p11 A7 c7 _ _ _ _ _ _ (by omega) h0 h1 h2 hp11 j5 hb
    · refine sh_mk (i := 10) rfl rfl (fun ev w' => ex_alloc84i rfl ev w') hS (fun w3 p11 hb1 hLp11 hlp11 hp11 hS => ?_); replace h0 := below_look hb1 h0; replace h1 := below_look hb1 h1; replace h2 := below_look hb1 h2; replace j1 := j1.below hb1; replace hb := hb.trans (hb1.mono hb.size); clear hb1; try simp only [put_lit, List.set_cons_zero, List.set_cons_succ]
      refine ha_call (i := 5) (by kernel_rfl) rfl rfl (fun K hK => ?_); go_simp; refine ⟨_, _, ⟨rfl, rfl⟩, hK _ _ ⟨_, Of_any u2 DB.out.b1 DB.out.b2 _, ?_⟩⟩; clear hK K; rintro e w4 ⟨A4, c4, rfl, j2, hb1⟩; refine ⟨_, rfl, hS.below hb1, ?_⟩; replace hS := hS.below hb1; replace h0 := below_look hb1 h0; replace h1 := below_look hb1 h1; replace h2 := below_look hb1 h2; replace hp11 := below_look hb1 hp11; replace j1 := j1.below hb1; replace hb := hb.trans (hb1.mono hb.size); clear hb1; try simp only [put_lit, List.set_cons_zero, List.set_cons_succ]
      refine ha_call (i := 6) (by kernel_rfl) rfl rfl (fun K hK => ?_); go_simp; refine ⟨_, _, ⟨rfl, rfl⟩, hK _ _ ⟨_, TimesI_any _ _ _ _ _ _ _ j1 j2 (by have := nl_i64 DB.out.a1 DB.out.a2; omega) (by have := nl_i64 DB.out.b1 DB.out.b2; omega), ?_⟩⟩; clear hK K; rintro e w5 ⟨A5, c5, rfl, j3, hb1⟩; refine ⟨_, rfl, hS.below hb1, ?_⟩; replace hS := hS.below hb1; replace h0 := below_look hb1 h0; replace h1 := below_look hb1 h1; replace h2 := below_look hb1 h2; replace hp11 := below_look hb1 hp11; replace hb := hb.trans (hb1.mono hb.size); clear hb1; try simp only [put_lit, List.set_cons_zero, List.set_cons_succ]
      refine ha_call (i := 8) (by kernel_rfl) rfl rfl (fun K hK => ?_); go_simp; refine ⟨_, _, ⟨rfl, rfl⟩, hK _ _ ⟨_, TensT_any scale DB.out.s0 (by have := DB.out.s9; omega) _, ?_⟩⟩; clear hK K; rintro e w6 ⟨A6, c6, rfl, j4, hb1⟩; refine ⟨_, rfl, hS.below hb1, ?_⟩; replace hS := hS.below hb1; replace h0 := below_look hb1 h0; replace h1 := below_look hb1 h1; replace h2 := below_look hb1 h2; replace hp11 := below_look hb1 hp11; replace j3 := j3.below hb1; replace hb := hb.trans (hb1.mono hb.size); clear hb1; try simp only [put_lit, List.set_cons_zero, List.set_cons_succ]
      refine ha_call (i := 9) (by kernel_rfl) rfl rfl (fun K hK => ?_); go_simp; refine ⟨_, _, ⟨rfl, rfl⟩, hK _ _ ⟨_, TimesI_any _ _ _ _ _ _ _ j3 j4 (by have := N12.out; omega) (by have := nl_t10 (x := scale) (by have := DB.out.s9; omega); omega), ?_⟩⟩; clear hK K; rintro e w7 ⟨A7, c7, rfl, j5, hb1⟩; refine ⟨_, rfl, hS.below hb1, ?_⟩; replace hS := hS.below hb1; replace h0 := below_look hb1 h0; replace h1 := below_look hb1 h1; replace h2 := below_look hb1 h2; replace hp11 := below_look hb1 hp11; replace hb := hb.trans (hb1.mono hb.size); clear hb1; rw [← HX.out] at j5 ⊢; try simp only [put_lit, List.set_cons_zero, List.set_cons_succ]
      refine ha_store (i := 11) (by kernel_rfl) rfl rfl 84 _ _ rfl _ (iv x A7 c7) rfl rfl 84 _ hp11 info84 rfl (iv_one _ _ _) (hS.setNew (by omega) _) (fun hS => ?_); try simp only [put_lit, List.set_cons_zero, List.set_cons_succ]
      refine wpAnyH_done (by kernel_rfl) ?_ _
      replace h0 := hr_old (g := p11) (cs := iv x A7 c7) h0 (by omega)
      replace h1 := hr_old (g := p11) (cs := iv x A7 c7) h1 (by omega)
      replace h2 := hr_old (g := p11) (cs := iv x A7 c7) h2 (by omega)
      replace hb := below_setRow hb (g := p11) (by omega) (iv x A7 c7)
      replace j5 := j5.put hp11 (iv x A7 c7)
      replace hp11 := hr_new (cs := iv x A7 c7) hp11
      exact tail p11 A7 c7 _ _ _ _ _ _ (by omega) h0 h1 h2 hp11 j5 hb
  · refine sh_mk (i := 10) rfl rfl (fun ev w' => ex_alloc84i rfl ev w') hS (fun w2 p11 hb1 hLp11 hlp11 hp11 hS => ?_); replace h0 := below_look hb1 h0; replace h1 := below_look hb1 h1; replace h2 := below_look hb1 h2; replace hb := hb.trans (hb1.mono hb.size); clear hb1; try simp only [put_lit, List.set_cons_zero, List.set_cons_succ]
    refine ha_call (i := 2) (by kernel_rfl) rfl rfl (fun K hK => ?_); go_simp; refine ⟨_, _, ⟨rfl, rfl⟩, hK _ _ ⟨_, Of_any u1 DB.out.a1 DB.out.a2 _, ?_⟩⟩; clear hK K; rintro e w3 ⟨A3, c3, rfl, j1, hb1⟩; refine ⟨_, rfl, hS.below hb1, ?_⟩; replace hS := hS.below hb1; replace h0 := below_look hb1 h0; replace h1 := below_look hb1 h1; replace h2 := below_look hb1 h2; replace hp11 := below_look hb1 hp11; replace hb := hb.trans (hb1.mono hb.size); clear hb1; try simp only [put_lit, List.set_cons_zero, List.set_cons_succ]
    refine ha_call (i := 5) (by kernel_rfl) rfl rfl (fun K hK => ?_); go_simp; refine ⟨_, _, ⟨rfl, rfl⟩, hK _ _ ⟨_, Of_any u2 DB.out.b1 DB.out.b2 _, ?_⟩⟩; clear hK K; rintro e w4 ⟨A4, c4, rfl, j2, hb1⟩; refine ⟨_, rfl, hS.below hb1, ?_⟩; replace hS := hS.below hb1; replace h0 := below_look hb1 h0; replace h1 := below_look hb1 h1; replace h2 := below_look hb1 h2; replace hp11 := below_look hb1 hp11; replace j1 := j1.below hb1; replace hb := hb.trans (hb1.mono hb.size); clear hb1; try simp only [put_lit, List.set_cons_zero, List.set_cons_succ]
    refine ha_call (i := 6) (by kernel_rfl) rfl rfl (fun K hK => ?_); go_simp; refine ⟨_, _, ⟨rfl, rfl⟩, hK _ _ ⟨_, TimesI_any _ _ _ _ _ _ _ j1 j2 (by have := nl_i64 DB.out.a1 DB.out.a2; omega) (by have := nl_i64 DB.out.b1 DB.out.b2; omega), ?_⟩⟩; clear hK K; rintro e w5 ⟨A5, c5, rfl, j3, hb1⟩; refine ⟨_, rfl, hS.below hb1, ?_⟩; replace hS := hS.below hb1; replace h0 := below_look hb1 h0; replace h1 := below_look hb1 h1; replace h2 := below_look hb1 h2; replace hp11 := below_look hb1 hp11; replace hb := hb.trans (hb1.mono hb.size); clear hb1; try simp only [put_lit, List.set_cons_zero, List.set_cons_succ]
    refine ha_call (i := 8) (by kernel_rfl) rfl rfl (fun K hK => ?_); go_simp; refine ⟨_, _, ⟨rfl, rfl⟩, hK _ _ ⟨_, TensT_any scale DB.out.s0 (by have := DB.out.s9; omega) _, ?_⟩⟩; clear hK K; rintro e w6 ⟨A6, c6, rfl, j4, hb1⟩; refine ⟨_, rfl, hS.below hb1, ?_⟩; replace hS := hS.below hb1; replace h0 := below_look hb1 h0; replace h1 := below_look hb1 h1; replace h2 := below_look hb1 h2; replace hp11 := below_look hb1 hp11; replace j3 := j3.below hb1; replace hb := hb.trans (hb1.mono hb.size); clear hb1; try simp only [put_lit, List.set_cons_zero, List.set_cons_succ]
    refine ha_call (i := 9) (by kernel_rfl) rfl rfl (fun K hK => ?_); go_simp; refine ⟨_, _, ⟨rfl, rfl⟩, hK _ _ ⟨_, TimesI_any _ _ _ _ _ _ _ j3 j4 (by have := N12.out; omega) (by have := nl_t10 (x := scale) (by have := DB.out.s9; omega); omega), ?_⟩⟩; clear hK K; rintro e w7 ⟨A7, c7, rfl, j5, hb1⟩; refine ⟨_, rfl, hS.below hb1, ?_⟩; replace hS := hS.below hb1; replace h0 := below_look hb1 h0; replace h1 := below_look hb1 h1; replace h2 := below_look hb1 h2; replace hp11 := below_look hb1 hp11; replace hb := hb.trans (hb1.mono hb.size); clear hb1; rw [← HX.out] at j5 ⊢; try simp only [put_lit, List.set_cons_zero, List.set_cons_succ]
    refine ha_store (i := 11) (by kernel_rfl) rfl rfl 84 _ _ rfl _ (iv x A7 c7) rfl rfl 84 _ hp11 info84 rfl (iv_one _ _ _) (hS.setNew (by omega) _) (fun hS => ?_); try simp only [put_lit, List.set_cons_zero, List.set_cons_succ]
    refine wpAnyH_done (by kernel_rfl) ?_ _
    replace h0 := hr_old (g := p11) (cs := iv x A7 c7) h0 (by omega)
    replace h1 := hr_old (g := p11) (cs := iv x A7 c7) h1 (by omega)
    replace h2 := hr_old (g := p11) (cs := iv x A7 c7) h2 (by omega)
    replace hb := below_setRow hb (g := p11) (by omega) (iv x A7 c7)
    replace j5 := j5.put hp11 (iv x A7 c7)
    replace hp11 := hr_new (cs := iv x A7 c7) hp11
    exact tail p11 A7 c7 _ _ _ _ _ _ (by omega) h0 h1 h2 hp11 j5 hb
theorem MulI_any (u1 k1 u2 k2 scale : Int) (m : ByteArray) (u' k' e : Int) (h : Hid (mulDS u1 k1 u2 k2 scale m.data.toList = (u', k', e))) (w : World) :
    Calls Try.prog 30 #[.agg (dc u1 k1), .agg (dc u2 k2), .int .i64 scale, .string m] w fun e' w' => e' = .returned (.tuple #[.agg (dc u' k'), .int .i64 e]) ∧ Below w.heap.size w w' := by
  have h := h.out
  unfold mulDS at h
  by_cases hv : refusedS [(u1, k1), (u2, k2)] scale m.data.toList = 0
  · rw [if_pos hv] at h
    simp only [Prod.mk.injEq] at h
    obtain ⟨rfl, rfl, rfl⟩ := h
    obtain ⟨_, hm, _, _⟩ := refused0 hv
    exact MulI_good u1 k1 u2 k2 scale m 0 (Lib.hid hv.symm) rfl (Lib.hid hm) (Lib.hid (mulBd hv)) _ _ _ (Lib.hid rfl) (Lib.hid rfl) (Lib.hid rfl) _ _ _ (Lib.hid rfl) (Lib.hid rfl) (Lib.hid rfl) w
  · rw [if_neg hv] at h
    simp only [Prod.mk.injEq] at h
    obtain ⟨rfl, rfl, rfl⟩ := h
    exact MulI_bad u1 k1 u2 k2 scale m _ (Lib.hid rfl) hv w
end Go.Proofs.Ytclainfdeghgnaa

namespace Go.Proofs.Ytclainfdeghgnaa
open Go.RowKit Go.Proofs.Ytclainfdeghgnaa.Nm
set_option maxHeartbeats 2000000 in
set_option maxRecDepth 100000 in
theorem NumberMuls_any (u1 k1 u2 k2 scale : Int) (m : ByteArray) (w : World) :
    Calls Try.prog 7 #[.agg (dc u1 k1), .agg (dc u2 k2), .agg #[.int .i64 scale, .string m]] w fun e w' => e = .returned (.bool true) ∧ Below w.heap.size w w' := by
  rcases hr : mulDS u1 k1 u2 k2 scale m.data.toList with ⟨u', k', e⟩
  have HR := Lib.hid hr
  clear hr
  go_enter Try.func7, Try.ntmps7
  go_upto_region 1 with (fail)
  refine wp_world (fun W => W.heap[w.heap.size]? = some (.cells (dc u1 k1) 33 (0, 0)) ∧ W.heap[w.heap.size + 1]? = some (.cells (dc u2 k2) 33 (0, 0)) ∧ W.heap[w.heap.size + 1 + 1]? = some (.cells (#[.int .i64 scale, .string m]) 35 (0, 0)) ∧ Below w.heap.size w W) ⟨ha_old (ha_old (ha_new rfl)), ha_old (ha_new (by simp)), ha_new (by simp), (((Below.refl _ _).alloc (Nat.le_refl _) _).alloc (by simp) _).alloc (by simp; omega) _⟩ ?_
  rintro W ⟨h0, h1, h2, hb⟩
  apply wp_region_lit
  ((with_reducible apply wl_rowG); exact rfl; exact rfl; exact rowDc h0)
  ((with_reducible apply wl_rowG); exact rfl; exact rfl; exact rowDc h1)
  refine wl_k rfl (fun K hK => ?_); go_simp; refine hK _ ?_; clear hK K
  ((with_reducible apply wl_oneG); exact rfl; exact rfl; exact one_of u3 rfl (to0 h2))
  refine wl_k rfl (fun K hK => ?_); go_simp; refine hK _ ?_; clear hK K
  ((with_reducible apply wl_oneG); exact rfl; exact rfl; exact one_of u9s rfl (to1 h2))
  refine wl_ck rfl (fun K hK => ?_); go_simp; refine ⟨_, _, ⟨rfl, rfl⟩, hK _ _ ⟨_, Mul_any _ _ _ _ _ _ _ _ _ HR _, ?_⟩⟩; clear hK K; rintro e w1 ⟨rfl, hb1⟩; refine ⟨_, rfl, ?_⟩; simp only [put_lit, List.set_cons_zero, List.set_cons_succ]
  replace h0 := below_look hb1 h0; replace h1 := below_look hb1 h1; replace h2 := below_look hb1 h2; replace hb := hb.trans (hb1.mono hb.size); clear hb1
  refine wl_k rfl (fun K hK => ?_); go_simp; refine hK _ ?_; clear hK K
  refine wl_k rfl (fun K hK => ?_); go_simp; refine hK _ ?_; clear hK K
  refine wl_k rfl (fun K hK => ?_); go_simp; refine hK _ ?_; clear hK K
  (have lth0pa := heap_lt h0; have lth1pa := heap_lt h1; have lth2pa := heap_lt h2; have lspa := hb.size; (with_reducible apply wl_new33); intro w2 pa hbn hlpa hpa; replace h0 := below_look hbn h0; replace h1 := below_look hbn h1; replace h2 := below_look hbn h2; replace hb := hb.trans (hbn.mono hb.size); clear hbn)
  ((with_reducible apply wl_put33); exact rfl; exact rfl; exact hpa; intro w3 hbx hk hq; replace h0 := hk _ _ (by omega) h0; replace h1 := hk _ _ (by omega) h1; replace h2 := hk _ _ (by omega) h2; replace hb := hbx _ _ (by omega) hb; clear hpa; have hpa := hq; clear hbx hk hq)
  go_upto_region 2 with (fail)
  apply wp_region_lit
  ((with_reducible apply wl_rowG); exact rfl; exact rfl; exact rowDc h0)
  ((with_reducible apply wl_rowG); exact rfl; exact rfl; exact rowDc h1)
  refine wl_k rfl (fun K hK => ?_); go_simp; refine hK _ ?_; clear hK K
  ((with_reducible apply wl_oneG); exact rfl; exact rfl; exact one_of u3 rfl (to0 h2))
  refine wl_k rfl (fun K hK => ?_); go_simp; refine hK _ ?_; clear hK K
  ((with_reducible apply wl_oneG); exact rfl; exact rfl; exact one_of u9s rfl (to1 h2))
  refine wl_ck rfl (fun K hK => ?_); go_simp; refine ⟨_, _, ⟨rfl, rfl⟩, hK _ _ ⟨_, MulI_any _ _ _ _ _ _ _ _ _ HR _, ?_⟩⟩; clear hK K; rintro e w4 ⟨rfl, hb1⟩; refine ⟨_, rfl, ?_⟩; simp only [put_lit, List.set_cons_zero, List.set_cons_succ]
  replace h0 := below_look hb1 h0; replace h1 := below_look hb1 h1; replace h2 := below_look hb1 h2; replace hpa := below_look hb1 hpa; replace hb := hb.trans (hb1.mono hb.size); clear hb1
  refine wl_k rfl (fun K hK => ?_); go_simp; refine hK _ ?_; clear hK K
  refine wl_k rfl (fun K hK => ?_); go_simp; refine hK _ ?_; clear hK K
  refine wl_k rfl (fun K hK => ?_); go_simp; refine hK _ ?_; clear hK K
  (have lth0pb := heap_lt h0; have lth1pb := heap_lt h1; have lth2pb := heap_lt h2; have lthpapb := heap_lt hpa; have lspb := hb.size; (with_reducible apply wl_new33); intro w5 pb hbn hlpb hpb; replace h0 := below_look hbn h0; replace h1 := below_look hbn h1; replace h2 := below_look hbn h2; replace hpa := below_look hbn hpa; replace hb := hb.trans (hbn.mono hb.size); clear hbn)
  ((with_reducible apply wl_put33); exact rfl; exact rfl; exact hpb; intro w6 hbx hk hq; replace h0 := hk _ _ (by omega) h0; replace h1 := hk _ _ (by omega) h1; replace h2 := hk _ _ (by omega) h2; replace hpa := hk _ _ (by omega) hpa; replace hb := hbx _ _ (by omega) hb; clear hpb; have hpb := hq; clear hbx hk hq)
  go_upto_region 3 with (fail)
  apply wp_region_lit
  ((with_reducible apply wl_rowG); exact rfl; exact rfl; exact rowDc hpa)
  ((with_reducible apply wl_rowG); exact rfl; exact rfl; exact rowDc hpb)
  simp only [dc]
  go_wp2_with (go_at_call 21; refine (awake_any _).mono ?_; rintro e w9 ⟨rfl, hb1⟩; replace hb := hb.trans (hb1.mono hb.size); clear hb1)
  go_ret
  exact ⟨rfl, hb⟩
end Go.Proofs.Ytclainfdeghgnaa
