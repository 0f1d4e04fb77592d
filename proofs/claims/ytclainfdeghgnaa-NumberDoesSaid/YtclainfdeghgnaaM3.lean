/- What integers of a width are: their ends, and how a number is brought into it. -/
import Derived.Test.YtclainfdeghgnaaM1
namespace Go.Proofs.Ytclainfdeghgnaa.Nm

/-- The least and the greatest value of a width. -/
def loW (bits : Nat) (s : Bool) : Int := if s then -((2 ^ (bits - 1) : Nat) : Int) else 0
def hiW (bits : Nat) (s : Bool) : Int := if s then ((2 ^ (bits - 1) : Nat) : Int) - 1 else ((2 ^ bits : Nat) : Int) - 1
def hasW (bits : Nat) (s : Bool) (x : Int) : Bool := decide (loW bits s ≤ x ∧ x ≤ hiW bits s)
def wrapW (bits : Nat) (s : Bool) (x : Int) : Int := loW bits s + (x - loW bits s) % ((2 ^ bits : Nat) : Int)

theorem two_le {bits : Nat} (h : bits ≤ 64) : 2 ^ bits ≤ 18446744073709551616 := by
  have := Nat.pow_le_pow_right (n := 2) (by decide) h
  simpa using this
theorem two_pos (bits : Nat) : 0 < 2 ^ bits := Nat.pow_pos (by decide)
theorem two_half {bits : Nat} (h : 1 ≤ bits) : 2 ^ bits = 2 * 2 ^ (bits - 1) := by
  obtain ⟨n, rfl⟩ : ∃ n, bits = n + 1 := ⟨bits - 1, by omega⟩
  rw [Nat.pow_succ, Nat.add_sub_cancel, Nat.mul_comm]
theorem hi_lo {bits : Nat} (h : 1 ≤ bits) (s : Bool) : hiW bits s = loW bits s + ((2 ^ bits : Nat) : Int) - 1 := by
  have := two_half h
  unfold hiW loW
  cases s <;> simp only [Bool.false_eq_true, if_true, if_false] <;> omega
theorem lo_bd {bits : Nat} (h : bits ≤ 64) (s : Bool) : -9223372036854775808 ≤ loW bits s ∧ loW bits s ≤ 0 := by
  unfold loW
  have h1 : 2 ^ (bits - 1) ≤ 9223372036854775808 := by
    have := Nat.pow_le_pow_right (n := 2) (by decide) (show bits - 1 ≤ 63 by omega)
    simpa using this
  have h2 := two_pos (bits - 1)
  cases s <;> simp only [Bool.false_eq_true, if_true, if_false] <;> omega
theorem hi_bd {bits : Nat} (h0 : 1 ≤ bits) (h : bits ≤ 64) (s : Bool) : 0 ≤ hiW bits s ∧ hiW bits s ≤ 18446744073709551615 := by
  have := hi_lo h0 s
  have h1 := two_le h
  have h2 := lo_bd h s
  have h3 := two_pos (bits - 1)
  have h4 := two_half h0
  unfold hiW loW at *
  cases s <;> simp only [Bool.false_eq_true, if_true, if_false] at * <;> omega
theorem wrap_has {bits : Nat} (h : 1 ≤ bits) (s : Bool) (x : Int) : hasW bits s (wrapW bits s x) = true := by
  unfold hasW wrapW
  rw [hi_lo h s]
  have h1 := Int.emod_nonneg (x - loW bits s) (b := ((2 ^ bits : Nat) : Int)) (by have := two_pos bits; omega)
  have h2 := Int.emod_lt_of_pos (x - loW bits s) (b := ((2 ^ bits : Nat) : Int)) (by have := two_pos bits; omega)
  simp only [decide_eq_true_eq]
  omega
theorem wrap_of_has {bits : Nat} (h : 1 ≤ bits) {s : Bool} {x : Int} (hx : hasW bits s x = true) : wrapW bits s x = x := by
  unfold hasW at hx
  unfold wrapW
  rw [hi_lo h s] at hx
  simp only [decide_eq_true_eq] at hx
  rw [Int.emod_eq_of_lt (by omega) (by omega)]
  omega
theorem has_bd {bits : Nat} (h0 : 1 ≤ bits) (h : bits ≤ 64) {s : Bool} {x : Int} (hx : hasW bits s x = true) : -9223372036854775808 ≤ x ∧ x ≤ 18446744073709551615 := by
  have h1 := lo_bd h s
  have h2 := hi_bd h0 h s
  unfold hasW at hx
  simp only [decide_eq_true_eq] at hx
  omega

/-- The floor's multiple is not far. -/
theorem floor_mul (y : Int) (m : Nat) (hm : 0 < m) : (y / (m : Int) * m).natAbs ≤ y.natAbs + m ∧ (y / (m : Int)).natAbs ≤ y.natAbs + m := by
  have h1 := Int.emod_nonneg y (b := (m : Int)) (by omega)
  have h2 := Int.emod_lt_of_pos y (b := (m : Int)) (by omega)
  have h3 := Int.emod_add_mul_ediv y m
  have h4 : y / (m : Int) * m = y - y % m := by rw [Int.mul_comm]; omega
  refine ⟨by rw [h4]; omega, ?_⟩
  have h5 : (y / (m : Int)).natAbs ≤ (y / (m : Int) * m).natAbs := by rw [Int.natAbs_mul, Int.natAbs_natCast]; exact Nat.le_mul_of_pos_right _ hm
  rw [h4] at h5
  omega
theorem wrap_eq (bits : Nat) (s : Bool) (x : Int) : x + -((x + -loW bits s) / ((2 ^ bits : Nat) : Int) * ((2 ^ bits : Nat) : Int)) = wrapW bits s x := by
  unfold wrapW
  have h3 := Int.emod_add_mul_ediv (x - loW bits s) ((2 ^ bits : Nat) : Int)
  rw [show x + -loW bits s = x - loW bits s from rfl, Int.mul_comm]
  omega

/-- How a number is brought into a width by a mode: the number, and the error. -/
def isWrap (m : List UInt8) : Bool := m == [119, 114, 97, 112]
def isTrap (m : List UInt8) : Bool := m == [116, 114, 97, 112]
def bringW (bits : Nat) (s : Bool) (m : List UInt8) (x : Int) : Int × Int :=
  if hasW bits s x then (x, 0) else if isWrap m then (wrapW bits s x, 0) else if isTrap m then (0, 1) else if x < loW bits s then (loW bits s, 0) else (hiW bits s, 0)
end Go.Proofs.Ytclainfdeghgnaa.Nm
