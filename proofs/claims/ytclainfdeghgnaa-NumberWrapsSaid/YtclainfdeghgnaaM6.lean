/- Numbers wrapped into a width: sums and products may be grouped in any way. -/
import Derived.Test.YtclainfdeghgnaaM3
namespace Go.Proofs.Ytclainfdeghgnaa.Nm

theorem wrap_add_mul (n : Nat) (s : Bool) (x k : Int) : wrapW n s (x + k * ((2 ^ n : Nat) : Int)) = wrapW n s x := by
  have hM : ((2 ^ n : Nat) : Int) ≠ 0 := by have := two_pos n; omega
  rw [← wrap_eq, ← wrap_eq]
  have e : x + k * ((2 ^ n : Nat) : Int) + -loW n s = (x + -loW n s) + k * ((2 ^ n : Nat) : Int) := by omega
  rw [e, Int.add_mul_ediv_right _ _ hM, Int.add_mul]
  omega
theorem wrap_step (n : Nat) (s : Bool) (x : Int) : ∃ k, wrapW n s x = x + k * ((2 ^ n : Nat) : Int) :=
  ⟨-((x + -loW n s) / ((2 ^ n : Nat) : Int)), by rw [← wrap_eq, Int.neg_mul]⟩
theorem wrap_to {n : Nat} {s : Bool} {x y : Int} (k : Int) (h : x = y + k * ((2 ^ n : Nat) : Int)) : wrapW n s x = wrapW n s y := by rw [h, wrap_add_mul]
theorem wrap_add_l (n : Nat) (s : Bool) (x y : Int) : wrapW n s (wrapW n s x + y) = wrapW n s (x + y) := by
  obtain ⟨k, hk⟩ := wrap_step n s x
  exact wrap_to k (by rw [hk]; omega)
theorem wrap_add_r (n : Nat) (s : Bool) (x y : Int) : wrapW n s (x + wrapW n s y) = wrapW n s (x + y) := by
  rw [Int.add_comm, wrap_add_l, Int.add_comm]
theorem wrap_sub_l (n : Nat) (s : Bool) (x y : Int) : wrapW n s (wrapW n s x - y) = wrapW n s (x - y) := by
  obtain ⟨k, hk⟩ := wrap_step n s x
  exact wrap_to k (by rw [hk]; omega)
theorem wrap_mul_l (n : Nat) (s : Bool) (x y : Int) : wrapW n s (wrapW n s x * y) = wrapW n s (x * y) := by
  obtain ⟨k, hk⟩ := wrap_step n s x
  exact wrap_to (k * y) (by rw [hk, Int.add_mul, Int.mul_assoc, Int.mul_assoc, Int.mul_comm ((2 ^ n : Nat) : Int) y])
theorem wrap_mul_r (n : Nat) (s : Bool) (x y : Int) : wrapW n s (x * wrapW n s y) = wrapW n s (x * y) := by
  rw [Int.mul_comm, wrap_mul_l, Int.mul_comm]
theorem wraps_add (n : Nat) (s : Bool) (x y z : Int) : wrapW n s (wrapW n s (x + y) + z) = wrapW n s (x + wrapW n s (y + z)) := by rw [wrap_add_l, wrap_add_r, Int.add_assoc]
theorem wraps_mul (n : Nat) (s : Bool) (x y z : Int) : wrapW n s (wrapW n s (x * y) * z) = wrapW n s (x * wrapW n s (y * z)) := by rw [wrap_mul_l, wrap_mul_r, Int.mul_assoc]
theorem wraps_over (n : Nat) (s : Bool) (x y z : Int) : wrapW n s (x * wrapW n s (y + z)) = wrapW n s (wrapW n s (x * y) + wrapW n s (x * z)) := by rw [wrap_mul_r, wrap_add_l, wrap_add_r, Int.mul_add]
theorem wraps_back {n : Nat} (h : 1 ≤ n) {s : Bool} {x : Int} (y : Int) (hx : hasW n s x = true) : wrapW n s (wrapW n s (x + y) - y) = x := by
  rw [wrap_sub_l, show x + y - y = x by omega, wrap_of_has h hx]
end Go.Proofs.Ytclainfdeghgnaa.Nm
