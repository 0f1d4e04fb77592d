/- Plain facts on rounding: it keeps whole numbers, is never off by one unit, and goes along with the order. -/
import Derived.Test.YtclainfdeghgnaaW29
namespace Go.Proofs.Ytclainfdeghgnaa
open Go.RowKit Go.Proofs.Ytclainfdeghgnaa.Nm

def roundN (L : List UInt8) (neg : Bool) (n d : Nat) : Nat := n / d + if upS L neg (n / d) (n % d) d then 1 else 0
theorem roundS_pos (L : List UInt8) (a : Int) {d : Nat} : roundS L a (d : Int) = sg (ng a) (roundN L (ng a) a.natAbs d) := by
  unfold roundS roundN
  have h1 : ng (d : Int) = false := by rw [ng_def]; simp
  have h2 : (d : Int).natAbs = d := Int.natAbs_natCast _
  rw [h1, h2]
  simp
theorem up_zero (L : List UInt8) (neg : Bool) (q d : Nat) (hd : 0 < d) : upS L neg q 0 d = false := by
  unfold upS
  split
  · simp
  · split
    · simp; omega
    · split
      · simp; omega
      · rfl
theorem roundN_own (L : List UInt8) (neg : Bool) (n : Nat) {d : Nat} (hd : 0 < d) : roundN L neg (n * d) d = n := by
  unfold roundN
  rw [Nat.mul_mod_left, Nat.mul_div_cancel _ hd, up_zero L neg n d hd]; rfl
theorem ng_mul (a : Int) {d : Nat} (hd : 0 < d) : ng (a * (d : Int)) = ng a := by
  rw [ng_def, ng_def, decide_eq_decide]
  have hd' : (0 : Int) < d := by omega
  constructor
  · intro h
    rcases Int.lt_or_le a 0 with h1 | h1
    · exact h1
    · have := Int.mul_nonneg h1 (Int.le_of_lt hd'); omega
  · intro h; exact Int.mul_neg_of_neg_of_pos h hd'
theorem sg_ng (a : Int) : sg (ng a) a.natAbs = a := by rw [ng_def]; unfold sg; by_cases h : a < 0 <;> simp [h] <;> omega
theorem roundS_own (L : List UInt8) (u : Int) {d : Nat} (hd : 0 < d) : roundS L (u * (d : Int)) (d : Int) = u := by
  rw [roundS_pos, ng_mul u hd, Int.natAbs_mul, Int.natAbs_natCast, roundN_own L _ _ hd, sg_ng]

/-- The order of two fractions, their whole parts, and what is left. -/
theorem frac_le {n1 d1 n2 d2 : Nat} (h1 : 0 < d1) (h2 : 0 < d2) (h : n1 * d2 ≤ n2 * d1) : n1 / d1 ≤ n2 / d2 ∧ (n1 / d1 = n2 / d2 → n1 % d1 * d2 ≤ n2 % d2 * d1) := by
  have e1 := Nat.div_add_mod n1 d1
  have e2 := Nat.div_add_mod n2 d2
  have m2 := Nat.mod_lt n2 h2
  generalize n1 / d1 = q1 at *
  generalize n1 % d1 = r1 at *
  generalize n2 / d2 = q2 at *
  generalize n2 % d2 = r2 at *
  subst e1 e2
  have h' : q1 * (d1 * d2) + r1 * d2 ≤ q2 * (d1 * d2) + r2 * d1 := by
    have a1 : (d1 * q1 + r1) * d2 = q1 * (d1 * d2) + r1 * d2 := by grind
    have a2 : (d2 * q2 + r2) * d1 = q2 * (d1 * d2) + r2 * d1 := by grind
    omega
  have hr : r2 * d1 < d1 * d2 := by rw [Nat.mul_comm d1]; exact Nat.mul_lt_mul_of_pos_right m2 h1
  refine ⟨Nat.le_of_not_lt fun hlt => ?_, fun e => by subst e; omega⟩
  have := Nat.mul_le_mul_right (d1 * d2) (show q2 + 1 ≤ q1 from hlt)
  rw [Nat.add_mul] at this
  omega
theorem up_mono (L : List UInt8) (neg : Bool) (q : Nat) {r1 d1 r2 d2 : Nat} (h1 : 0 < d1) (h2 : 0 < d2) (h : r1 * d2 ≤ r2 * d1) (hu : upS L neg q r1 d1 = true) : upS L neg q r2 d2 = true := by
  have up : d1 ≤ r1 + r1 → d2 ≤ r2 + r2 := fun hx => Nat.le_of_not_lt fun hlt => by
    have a1 : d1 * d2 ≤ (r1 + r1) * d2 := Nat.mul_le_mul_right _ hx
    have a2 : (r2 + r2) * d1 < d2 * d1 := Nat.mul_lt_mul_of_pos_right hlt h1
    rw [Nat.add_mul] at a1 a2
    rw [Nat.mul_comm d2] at a2
    omega
  have up2 : d1 < r1 + r1 → d2 < r2 + r2 := fun hx => Nat.lt_of_not_le fun hle => by
    have a1 : d1 * d2 < (r1 + r1) * d2 := Nat.mul_lt_mul_of_pos_right hx h2
    have a2 : (r2 + r2) * d1 ≤ d2 * d1 := Nat.mul_le_mul_right _ hle
    rw [Nat.add_mul] at a1 a2
    rw [Nat.mul_comm d2] at a2
    omega
  unfold upS at hu ⊢
  split
  · rename_i hL
    rw [if_pos hL] at hu
    simp only [Bool.and_eq_true, decide_eq_true_eq] at hu ⊢
    refine ⟨hu.1, fun h0 => ?_⟩
    subst h0
    have : 0 < r1 * d2 := Nat.mul_pos (by omega) h2
    omega
  · rename_i hL
    rw [if_neg hL] at hu
    split
    · rename_i hL2
      rw [if_pos hL2] at hu
      simp only [decide_eq_true_eq] at hu ⊢
      exact up hu
    · rename_i hL2
      rw [if_neg hL2] at hu
      split
      · rename_i hL3
        rw [if_pos hL3] at hu
        simp only [Bool.or_eq_true, Bool.and_eq_true, decide_eq_true_eq] at hu ⊢
        rcases hu with hu | ⟨hu, hq⟩
        · exact Or.inl (up2 hu)
        · have := up (by omega)
          rcases Nat.lt_or_ge d2 (r2 + r2) with h3 | h3
          · exact Or.inl h3
          · exact Or.inr ⟨by omega, hq⟩
      · rename_i hL3
        rw [if_neg hL3] at hu
        cases hu
theorem roundN_mono (L : List UInt8) (neg : Bool) {n1 d1 n2 d2 : Nat} (h1 : 0 < d1) (h2 : 0 < d2) (h : n1 * d2 ≤ n2 * d1) : roundN L neg n1 d1 ≤ roundN L neg n2 d2 := by
  obtain ⟨hq, hr⟩ := frac_le h1 h2 h
  unfold roundN
  rcases Nat.lt_or_ge (n1 / d1) (n2 / d2) with hlt | hge
  · split <;> omega
  · have e : n1 / d1 = n2 / d2 := by omega
    have hr := hr e
    rw [e]
    cases hu : upS L neg (n2 / d2) (n1 % d1) d1
    · simp
    · rw [up_mono L neg _ h1 h2 hr hu]; simp
theorem roundS_mono (L : List UInt8) {a1 a2 : Int} {d1 d2 : Nat} (h1 : 0 < d1) (h2 : 0 < d2) (h : a1 * (d2 : Int) ≤ a2 * (d1 : Int)) : roundS L a1 (d1 : Int) ≤ roundS L a2 (d2 : Int) := by
  rw [roundS_pos, roundS_pos]
  rcases Int.lt_or_le a1 0 with n1 | n1
  · have g1 : ng a1 = true := by rw [ng_def]; simpa using n1
    rcases Int.lt_or_le a2 0 with n2 | n2
    · have g2 : ng a2 = true := by rw [ng_def]; simpa using n2
      rw [g1, g2]
      have hm : a2.natAbs * d1 ≤ a1.natAbs * d2 := by
        have e1 : (a1.natAbs : Int) = -a1 := by omega
        have e2 : (a2.natAbs : Int) = -a2 := by omega
        have : ((a2.natAbs * d1 : Nat) : Int) ≤ ((a1.natAbs * d2 : Nat) : Int) := by
          rw [Int.natCast_mul, Int.natCast_mul, e1, e2, Int.neg_mul, Int.neg_mul]; omega
        exact Int.ofNat_le.1 this
      have := roundN_mono L true h2 h1 hm
      unfold sg; simp; omega
    · have g2 : ng a2 = false := by rw [ng_def]; simpa using n2
      rw [g1, g2]; unfold sg; simp only [if_true, if_false, Bool.false_eq_true]; omega
  · have g1 : ng a1 = false := by rw [ng_def]; simpa using n1
    have n2 : 0 ≤ a2 := Int.not_lt.1 fun hlt => by
      have x1 : a2 * (d1 : Int) < 0 := Int.mul_neg_of_neg_of_pos hlt (by omega)
      have x2 : 0 ≤ a1 * (d2 : Int) := Int.mul_nonneg n1 (by omega)
      omega
    have g2 : ng a2 = false := by rw [ng_def]; simpa using n2
    rw [g1, g2]
    have hm : a1.natAbs * d2 ≤ a2.natAbs * d1 := by
      have e1 : (a1.natAbs : Int) = a1 := by omega
      have e2 : (a2.natAbs : Int) = a2 := by omega
      have : ((a1.natAbs * d2 : Nat) : Int) ≤ ((a2.natAbs * d1 : Nat) : Int) := by
        rw [Int.natCast_mul, Int.natCast_mul, e1, e2]; exact h
      exact Int.ofNat_le.1 this
    have := roundN_mono L false h1 h2 hm
    unfold sg; simp; omega
theorem roundN_near (L : List UInt8) (neg : Bool) (n : Nat) {d : Nat} (hd : 0 < d) : n < (roundN L neg n d + 1) * d ∧ roundN L neg n d * d < n + d := by
  unfold roundN
  have e := Nat.div_add_mod n d
  have m := Nat.mod_lt n hd
  have z := up_zero L neg (n / d) d hd
  generalize n / d = q at *
  rw [Nat.mul_comm] at e
  by_cases h0 : n % d = 0
  · rw [h0, z]; rw [h0] at e; simp [Nat.add_mul]; omega
  · split
    · simp only [Nat.add_mul]; omega
    · simp only [Nat.add_mul]; omega
theorem roundS_near (L : List UInt8) (a : Int) {d : Nat} (hd : 0 < d) : a < (roundS L a (d : Int) + 1) * (d : Int) ∧ (roundS L a (d : Int) - 1) * (d : Int) < a := by
  rw [roundS_pos]
  obtain ⟨h1, h2⟩ := roundN_near L (ng a) a.natAbs hd
  generalize roundN L (ng a) a.natAbs d = z at *
  have h1' : ((a.natAbs : Nat) : Int) < ((z : Int) + 1) * d := by have := Int.ofNat_lt.2 h1; simpa using this
  have h2' : (z : Int) * d < (a.natAbs : Int) + d := by have := Int.ofNat_lt.2 h2; simpa using this
  rw [Int.add_mul] at h1'
  rw [ng_def]
  unfold sg
  rcases Int.lt_or_le a 0 with n1 | n1
  · have e1 : (a.natAbs : Int) = -a := by omega
    simp only [n1, decide_true, if_true]
    rw [Int.add_mul, Int.sub_mul, Int.neg_mul]
    omega
  · have e1 : (a.natAbs : Int) = a := by omega
    have : ¬ a < 0 := by omega
    simp only [this, decide_false, Bool.false_eq_true, if_false]
    rw [Int.add_mul, Int.sub_mul]
    omega
theorem roundS_floor (a : Int) {d : Nat} (hd : 0 < d) : roundS [102, 108, 111, 111, 114] a (d : Int) * (d : Int) ≤ a := by
  rw [roundS_pos, ng_def]
  unfold roundN upS sg
  rw [if_pos rfl]
  have e := Nat.div_add_mod a.natAbs d
  have m := Nat.mod_lt a.natAbs hd
  rcases Int.lt_or_le a 0 with n1 | n1
  · have e1 : (a.natAbs : Int) = -a := by omega
    simp only [n1, decide_true, if_true, Bool.true_and, decide_eq_true_eq]
    generalize a.natAbs / d = q at *
    generalize a.natAbs % d = r at *
    have e' : (d : Int) * q + r = -a := by rw [← e1]; exact_mod_cast e
    split
    · rw [Int.neg_mul, Int.natCast_add, Int.add_mul, Int.mul_comm (q : Int)]; omega
    · rename_i h0
      have h0 : r = 0 := by omega
      subst h0
      rw [Int.neg_mul, Int.natCast_add, Int.add_mul, Int.mul_comm (q : Int)]; omega
  · have e1 : (a.natAbs : Int) = a := by omega
    have : ¬ a < 0 := by omega
    simp only [this, decide_false, Bool.false_eq_true, if_false, Bool.false_and, Nat.add_zero]
    generalize a.natAbs / d = q at *
    generalize a.natAbs % d = r at *
    have e' : (d : Int) * q + r = a := by rw [← e1]; exact_mod_cast e
    rw [Int.mul_comm]; omega
end Go.Proofs.Ytclainfdeghgnaa
