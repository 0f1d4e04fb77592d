/- Plain facts on a product of rows of digits: the columns' sums, and their carries. -/
import Derived.Test.YtclainfdeghgnaaM1
namespace Go.Proofs.Ytclainfdeghgnaa.Nm

/-- The columns behind row 'k' of the product, 'j' digits of it done. -/
structure MulInv (a b k j : Nat) (s : Nat → Nat) : Prop where
  bd : ∀ m, m < 64 → s m ≤ 81 * k + (if k ≤ m ∧ m < k + j then 81 else 0)
  eq : val s 64 % 10 ^ 64 = ((a % 10 ^ k) * b + dg a k * 10 ^ k * (b % 10 ^ j)) % 10 ^ 64

theorem MulInv.start (a b : Nat) : MulInv a b 0 0 (fun _ => 0) := ⟨fun m _ => by simp, by
  have : val (fun _ => 0) 64 = 0 := by
    have h : ∀ m, val (fun _ => 0) m = 0 := fun m => by induction m with | zero => rfl | succ m ih => rw [val, ih]; simp
    exact h 64
  rw [this]; simp [Nat.mod_one]⟩

def upd (s : Nat → Nat) (p x : Nat) : Nat → Nat := fun i => if i = p then s i + x else s i

theorem MulInv.step {a b k j : Nat} {s : Nat → Nat} (h : MulInv a b k j s) (hkj : k + j < 64) : MulInv a b k (j + 1) (upd s (k + j) (dg a k * dg b j)) := by
  have hx : dg a k * dg b j ≤ 81 := Nat.mul_le_mul (show dg a k ≤ 9 by have := dg_lt a k; omega) (show dg b j ≤ 9 by have := dg_lt b j; omega)
  refine ⟨fun m hm => ?_, ?_⟩
  · have := h.bd m hm
    unfold upd
    split
    · subst_vars
      rw [if_neg (by omega)] at this
      rw [if_pos (by omega)]; omega
    · split at this
      · rw [if_pos (by omega)]; omega
      · split <;> omega
  · rw [val_add (f := s) (g := upd s (k + j) (dg a k * dg b j)) (x := dg a k * dg b j) hkj (fun i _ => rfl), Nat.add_mod, h.eq, ← Nat.add_mod]
    congr 1
    rw [mod_succ b j, Nat.mul_add, ← Nat.add_assoc]
    congr 1
    rw [Nat.pow_add]
    generalize dg a k = x; generalize dg b j = y; generalize 10 ^ k = p; generalize 10 ^ j = q
    grind

theorem MulInv.next {a b k j : Nat} {s : Nat → Nat} (h : MulInv a b k j s) (hj : dg a k = 0 ∧ j = 0 ∨ k + j = 64) : MulInv a b (k + 1) 0 s := by
  refine ⟨fun m hm => ?_, ?_⟩
  · have := h.bd m hm
    have e : ¬ (k + 1 ≤ m ∧ m < k + 1 + 0) := by omega
    rw [if_neg e]
    split at this <;> omega
  · rw [h.eq]
    rcases hj with ⟨hd, rfl⟩ | hj
    · rw [mod_succ a k, hd]; simp [Nat.mod_one]
    · have := mul_row a b k 64 (by omega)
      rw [show 64 - k = j from by omega] at this
      rw [this]; simp [Nat.mod_one]

theorem MulInv.dig {a b : Nat} {s : Nat → Nat} (h : MulInv a b 64 0 s) (k : Nat) (hk : k < 64) : dg (a * b) k = (s k + cs s k) % 10 := by
  rw [← cs_dg s 64 k hk, ← dg_mod (val s 64) 64 k hk, h.eq, ← dg_mod (a * b) 64 k hk]
  congr 1
  simp only [Nat.pow_zero, Nat.mod_one, Nat.mul_zero, Nat.add_zero]
  rw [Nat.mul_mod (a % 10 ^ 64) b, Nat.mod_mod, ← Nat.mul_mod]
theorem MulInv.le {a b k j : Nat} {s : Nat → Nat} (h : MulInv a b k j s) (hk : k ≤ 63) (m : Nat) (hm : m < 64) : s m ≤ 5184 := by
  have := h.bd m hm
  split at this <;> omega
theorem MulInv.le' {a b : Nat} {s : Nat → Nat} (h : MulInv a b 64 0 s) (m : Nat) (hm : m < 64) : s m ≤ 5184 := by
  have := h.bd m hm
  rw [if_neg (by omega)] at this
  omega
end Go.Proofs.Ytclainfdeghgnaa.Nm
