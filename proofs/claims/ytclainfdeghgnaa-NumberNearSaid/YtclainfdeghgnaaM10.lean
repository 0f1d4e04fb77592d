/- Plain facts on rounded decimals. -/
import Derived.Test.YtclainfdeghgnaaW49
namespace Go.Proofs.Ytclainfdeghgnaa
open Go.RowKit Go.Proofs.Ytclainfdeghgnaa.Nm
theorem lt_scale {a b c : Int} (hc : 0 < c) : a * c < b * c ↔ a < b :=
  ⟨fun h => Int.not_le.1 fun hle => by have := Int.mul_le_mul_of_nonneg_right hle (Int.le_of_lt hc); omega, fun h => Int.mul_lt_mul_of_pos_right h hc⟩
theorem scale9 {z s k : Int} (hs0 : 0 ≤ s) (hs : s ≤ 9) (hk0 : 0 ≤ k) : z * t10 (9 - s) * t10 (s + k) = z * t10 k * t10 9 := by
  rw [Int.mul_assoc, Int.mul_assoc, t10_add (by omega) (by omega), t10_add hk0 (by omega)]
  congr 2; omega
theorem scale_lt {z u s k : Int} (hs0 : 0 ≤ s) (hs : s ≤ 9) (hk0 : 0 ≤ k) (hk : k ≤ 9) : z * t10 (9 - s) < u * t10 (9 - k) ↔ z * t10 k < u * t10 s := by
  rw [← lt_scale (t10_pos (s + k)), scale9 hs0 hs hk0, Int.add_comm s k, scale9 hk0 hk hs0, lt_scale (t10_pos 9)]
theorem scale_gt {z u s k : Int} (hs0 : 0 ≤ s) (hs : s ≤ 9) (hk0 : 0 ≤ k) (hk : k ≤ 9) : u * t10 (9 - k) < z * t10 (9 - s) ↔ u * t10 s < z * t10 k := scale_lt hk0 hk hs0 hs
theorem cz_one {a b : Int} (h : b < a) : cz a b = 1 := by rw [cz_def, if_neg (by omega), if_neg (by omega)]
theorem cz_neg {a b : Int} (h : a < b) : cz a b = -1 := by rw [cz_def, if_pos h]
theorem cz_ge {a b : Int} : 0 ≤ cz a b ↔ b ≤ a := by rw [cz_def]; split <;> (try split) <;> omega
/-- A decimal rounded without an error. -/
structure Rounds (u k s : Int) (m : List UInt8) (a ka : Int) : Prop where
  v : validD u k = true
  ml : isRoundL m = true
  s0 : 0 ≤ s
  s9 : s ≤ 9
  ea : a = roundS m (u * t10 s) (t10 k)
  ek : ka = s
  b : a.natAbs ≤ 100000000000000000
theorem rounds_of {u k s a ka e : Int} {m : List UInt8} (h : roundDS u k s m = (a, ka, e)) (he : e = 0) : Rounds u k s m a ka := by
  subst he
  unfold roundDS at h
  split at h
  · rename_i hr
    obtain ⟨h1, h2, h3, h4⟩ := refused0 hr
    simp only [Prod.mk.injEq] at h
    obtain ⟨e1, e2, e3⟩ := h
    unfold madeE at e3
    split at e3
    · cases e3
    · rename_i hz
      unfold madeU at e1
      unfold madeK at e2
      rw [if_neg hz] at e1 e2
      exact ⟨by unfold allD at h1; simpa using h1, h2, h3, h4, e1.symm, e2.symm, by rw [← e1]; omega⟩
  · rename_i hr
    simp only [Prod.mk.injEq] at h
    exact absurd h.2.2 hr
theorem of_rounds {u k s : Int} {m : List UInt8} (hv : validD u k = true) (hm : isRoundL m = true) (s0 : 0 ≤ s) (s9 : s ≤ 9) (hb : (roundS m (u * t10 s) (t10 k)).natAbs ≤ 100000000000000000) : roundDS u k s m = (roundS m (u * t10 s) (t10 k), s, 0) := by
  have hr : refusedS [(u, k)] s m = 0 := by
    unfold refusedS
    have : allD [(u, k)] = true := by unfold allD; simpa using hv
    rw [this, hm, if_neg (by decide), if_neg (by decide), if_neg (by omega)]
  unfold roundDS
  rw [if_pos hr]
  unfold madeU madeK madeE
  rw [if_neg (by omega), if_neg (by omega), if_neg (by omega)]
theorem t10_nat (n : Int) : t10 n = ((10 ^ n.toNat : Nat) : Int) := rfl
theorem p10_pos (n : Int) : 0 < 10 ^ n.toNat := Nat.pow_pos (by decide)
theorem near_own {u k s a ka : Int} {m : List UInt8} (h : Rounds u k s m a ka) : roundDS u k k m = (u, k, 0) := by
  obtain ⟨v1, v2, v3, v4⟩ := validD_iff.1 h.v
  have e : roundS m (u * t10 k) (t10 k) = u := roundS_own m u (p10_pos k)
  have := of_rounds h.v h.ml v3 v4 (by rw [e]; omega)
  rw [e] at this
  exact this
theorem Rounds.valid {u k s a ka : Int} {m : List UInt8} (h : Rounds u k s m a ka) : validD a ka = true := valid_of h.b (by have := h.ek; have := h.s0; omega) (by have := h.ek; have := h.s9; omega)
theorem cmp_of {a ka u k : Int} (h1 : validD a ka = true) (h2 : validD u k = true) : cmpDS a ka u k = (cz (a * t10 (9 - ka)) (u * t10 (9 - k)), 0) := by
  unfold cmpDS; rw [if_pos (all_of h1 h2)]
theorem near_floor {u k s a ka : Int} (h : Rounds u k s [102, 108, 111, 111, 114] a ka) : ∃ n, cmpDS a ka u k = (n, 0) ∧ n ≤ 0 := by
  refine ⟨_, cmp_of h.valid h.v, ?_⟩
  obtain ⟨v1, v2, v3, v4⟩ := validD_iff.1 h.v
  have hk := h.ek
  subst hk
  rw [cz_le, ← Int.not_lt, scale_gt h.s0 h.s9 v3 v4, h.ea]
  have := roundS_floor (u * t10 ka) (p10_pos k)
  rw [← t10_nat] at this
  omega
theorem near_up {u k s a ka up kup : Int} {m : List UInt8} (h : Rounds u k s m a ka) (h2 : addS a ka 1 s = (up, kup, 0)) : cmpDS up kup u k = (1, 0) := by
  obtain ⟨v, b, e1, e2⟩ := sum_ok h2 rfl
  obtain ⟨v1, v2, v3, v4⟩ := validD_iff.1 h.v
  have hk := h.ek
  subst hk
  have em : max ka ka = ka := by omega
  rw [em] at e1 e2
  rw [Int.sub_self, t10_zero, Int.mul_one] at e1
  have s0 := h.s0
  have s9 := h.s9
  rw [cmp_of (valid_of b (by omega) (by omega)) h.v, cz_one]
  rw [e2, scale_gt s0 s9 v3 v4]
  have := (roundS_near m (u * t10 ka) (p10_pos k)).1
  rw [← t10_nat, ← h.ea] at this
  rw [e1]
  simpa using this
theorem near_low {u k s a ka up kup : Int} {m : List UInt8} (h : Rounds u k s m a ka) (h2 : subS a ka 1 s = (up, kup, 0)) : cmpDS up kup u k = (-1, 0) := by
  obtain ⟨v, b, e1, e2⟩ := sum_ok h2 rfl
  obtain ⟨v1, v2, v3, v4⟩ := validD_iff.1 h.v
  have hk := h.ek
  subst hk
  have em : max ka ka = ka := by omega
  rw [em] at e1 e2
  rw [Int.sub_self, t10_zero, Int.mul_one] at e1
  have s0 := h.s0
  have s9 := h.s9
  rw [cmp_of (valid_of b (by omega) (by omega)) h.v, cz_neg]
  rw [e2, scale_lt s0 s9 v3 v4]
  have := (roundS_near m (u * t10 ka) (p10_pos k)).2
  rw [← t10_nat, ← h.ea] at this
  rw [e1]
  simpa using this
theorem near_mono {u1 k1 u2 k2 s a ka b kb : Int} {m : List UInt8} (h1 : Rounds u1 k1 s m a ka) (h2 : Rounds u2 k2 s m b kb) (hle : u1 * t10 (9 - k1) ≤ u2 * t10 (9 - k2)) : a * t10 (9 - ka) ≤ b * t10 (9 - kb) := by
  obtain ⟨_, _, a3, a4⟩ := validD_iff.1 h1.v
  obtain ⟨_, _, b3, b4⟩ := validD_iff.1 h2.v
  have e1 := h1.ek
  have e2 := h2.ek
  obtain rfl : ka = kb := e1.trans e2.symm
  subst e1
  refine Int.mul_le_mul_of_nonneg_right ?_ (Int.le_of_lt (t10_pos _))
  rw [h1.ea, h2.ea]
  refine roundS_mono m (p10_pos k1) (p10_pos k2) ?_
  rw [← t10_nat, ← t10_nat]
  have h := Int.not_lt.2 hle
  rw [scale_lt b3 b4 a3 a4] at h
  have h' := Int.mul_le_mul_of_nonneg_right (Int.not_lt.1 h) (Int.le_of_lt (t10_pos ka))
  have e1 : u1 * t10 k2 * t10 ka = u1 * t10 ka * t10 k2 := by rw [Int.mul_assoc, Int.mul_comm (t10 k2), ← Int.mul_assoc]
  have e2 : u2 * t10 k1 * t10 ka = u2 * t10 ka * t10 k1 := by rw [Int.mul_assoc, Int.mul_comm (t10 k1), ← Int.mul_assoc]
  rw [e1, e2] at h'
  exact h'
theorem near_order {u1 k1 u2 k2 s a ka b kb : Int} {m : List UInt8} (h1 : Rounds u1 k1 s m a ka) (h2 : Rounds u2 k2 s m b kb) : ∃ cu cv, cmpDS u1 k1 u2 k2 = (cu, 0) ∧ cmpDS a ka b kb = (cv, 0) ∧ (cu ≤ 0 → cv ≤ 0) ∧ (0 ≤ cu → 0 ≤ cv) := by
  refine ⟨_, _, cmp_of h1.v h2.v, cmp_of h1.valid h2.valid, fun h => ?_, fun h => ?_⟩
  · rw [cz_le] at h ⊢; exact near_mono h1 h2 h
  · rw [cz_ge] at h ⊢; exact near_mono h2 h1 h
end Go.Proofs.Ytclainfdeghgnaa
