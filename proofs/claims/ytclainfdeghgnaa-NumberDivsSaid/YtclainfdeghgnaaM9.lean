/- Plain facts on sums of decimals: they may be ordered, grouped and undone. -/
import Derived.Test.YtclainfdeghgnaaW48
namespace Go.Proofs.Ytclainfdeghgnaa
open Go.RowKit Go.Proofs.Ytclainfdeghgnaa.Nm
theorem t10_add {a b : Int} (ha : 0 ≤ a) (hb : 0 ≤ b) : t10 a * t10 b = t10 (a + b) := by
  unfold t10
  rw [show (a + b).toNat = a.toNat + b.toNat by omega, Nat.pow_add]; simp
theorem t10_zero : t10 0 = 1 := rfl
theorem allD_comm (u1 k1 u2 k2 : Int) : allD [(u1, k1), (u2, k2)] = allD [(u2, k2), (u1, k1)] := by
  unfold allD; simp [Bool.and_comm]
theorem addS_comm (u1 k1 u2 k2 : Int) : addS u1 k1 u2 k2 = addS u2 k2 u1 k1 := by
  unfold addS sumS
  rw [allD_comm, Int.max_comm k1 k2]
  dsimp only
  rw [Int.add_comm (u1 * _)]
theorem sum_ok {u1 k1 u2 k2 u k e : Int} {f : Int → Int → Int} (h : sumS u1 k1 u2 k2 f = (u, k, e)) (he : e = 0) :
    allD [(u1, k1), (u2, k2)] = true ∧ u.natAbs ≤ 100000000000000000 ∧ u = f (u1 * t10 (max k1 k2 - k1)) (u2 * t10 (max k1 k2 - k2)) ∧ k = max k1 k2 := by
  subst he
  unfold sumS at h
  split at h
  · rename_i hv
    simp only [Prod.mk.injEq] at h
    obtain ⟨h1, h2, h3⟩ := h
    unfold madeE at h3
    split at h3
    · cases h3
    · rename_i hz
      unfold madeU at h1
      unfold madeK at h2
      rw [if_neg hz] at h1 h2
      subst h1 h2
      exact ⟨hv, by omega, rfl, rfl⟩
  · simp only [Prod.mk.injEq] at h
    obtain ⟨_, _, h3⟩ := h
    cases h3
theorem valid_of {u k : Int} (h : u.natAbs ≤ 100000000000000000) (h0 : 0 ≤ k) (h9 : k ≤ 9) : validD u k = true := validD_iff.2 ⟨by omega, by omega, h0, h9⟩
theorem valid1_of {u1 k1 u2 k2 : Int} (h : allD [(u1, k1), (u2, k2)] = true) : validD u1 k1 = true ∧ validD u2 k2 = true := by
  unfold allD at h; simpa using h
theorem all_of {u1 k1 u2 k2 : Int} (h1 : validD u1 k1 = true) (h2 : validD u2 k2 = true) : allD [(u1, k1), (u2, k2)] = true := by
  unfold allD; simp [h1, h2]
theorem undo1 {u1 k1 u2 k2 ua ka uc kc : Int} (h1 : addS u1 k1 u2 k2 = (ua, ka, 0)) (h2 : subS ua ka u2 k2 = (uc, kc, 0)) : cmpDS uc kc u1 k1 = (0, 0) := by
  obtain ⟨v1, _, e1, e2⟩ := sum_ok h1 rfl
  obtain ⟨v2, b2, e3, e4⟩ := sum_ok h2 rfl
  obtain ⟨⟨_, _, k10, k19⟩, _, _, k20, k29⟩ := allD2 v1
  have em : max ka k2 = ka := by omega
  rw [em] at e3 e4
  have ec : uc = u1 * t10 (ka - k1) := by
    rw [e3, e1, ← e2, Int.sub_self, t10_zero, Int.mul_one]; omega
  unfold cmpDS
  rw [if_pos (all_of (valid_of b2 (by omega) (by omega)) (valid1_of v1).1)]
  have : uc * t10 (9 - kc) = u1 * t10 (9 - k1) := by
    rw [ec, Int.mul_assoc, e4, t10_add (by omega) (by omega)]
    congr 2; omega
  rw [this, cz_eq.2 rfl]
theorem undo2 {u1 k1 u2 k2 u3 k3 ua ka up kp uq kq us ks : Int} (h1 : addS u1 k1 u2 k2 = (ua, ka, 0)) (h2 : addS ua ka u3 k3 = (up, kp, 0)) (h3 : addS u2 k2 u3 k3 = (uq, kq, 0)) (h4 : addS u1 k1 uq kq = (us, ks, 0)) : us = up ∧ ks = kp := by
  obtain ⟨v1, _, e1, e2⟩ := sum_ok h1 rfl
  obtain ⟨v2, _, e3, e4⟩ := sum_ok h2 rfl
  obtain ⟨v3, _, e5, e6⟩ := sum_ok h3 rfl
  obtain ⟨v4, _, e7, e8⟩ := sum_ok h4 rfl
  have hk : ks = kp := by omega
  refine ⟨?_, hk⟩
  rw [← e2] at e1
  rw [← e4] at e3
  rw [← e6] at e5
  rw [← e8, hk] at e7
  rw [e7, e3, e1, e5, Int.add_mul, Int.add_mul, Int.mul_assoc, Int.mul_assoc, Int.mul_assoc, Int.mul_assoc]
  rw [t10_add (by omega) (by omega), t10_add (by omega) (by omega), t10_add (by omega) (by omega), t10_add (by omega) (by omega)]
  rw [show ka - k1 + (kp - ka) = kp - k1 by omega, show ka - k2 + (kp - ka) = kp - k2 by omega, show kq - k2 + (kp - kq) = kp - k2 by omega, show kq - k3 + (kp - kq) = kp - k3 by omega, Int.add_assoc]
end Go.Proofs.Ytclainfdeghgnaa
