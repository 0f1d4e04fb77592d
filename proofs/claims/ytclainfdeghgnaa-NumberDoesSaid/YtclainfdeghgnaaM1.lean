/- Plain facts about decimal digits, carries, products and long division. No program in sight. -/
import Init
namespace Go.Proofs.Ytclainfdeghgnaa.Nm
-- digits
def dg (n i : Nat) : Nat := n / 10 ^ i % 10

theorem dg_lt (n i : Nat) : dg n i < 10 := Nat.mod_lt _ (by decide)

theorem p10 (k : Nat) : 0 < 10 ^ k := Nat.pow_pos (by decide)

theorem mod_succ (n k : Nat) : n % 10 ^ (k + 1) = n % 10 ^ k + 10 ^ k * dg n k := by
  rw [Nat.pow_succ]; exact Nat.mod_mul

theorem div_add_p (a b p : Nat) (hp : 0 < p) : (a + b) / p = a / p + b / p + (a % p + b % p) / p := by
  have ha := Nat.div_add_mod a p
  have hb := Nat.div_add_mod b p
  have : a + b = (a % p + b % p) + p * (a / p + b / p) := by rw [Nat.mul_add]; omega
  rw [this, Nat.add_mul_div_left _ _ hp]
  have h1 : (a % p + b % p) / p = (a % p + b % p) / p := rfl
  omega

theorem carry_succ (a b k : Nat) : (a % 10 ^ (k + 1) + b % 10 ^ (k + 1)) / 10 ^ (k + 1) = ((a % 10 ^ k + b % 10 ^ k) / 10 ^ k + dg a k + dg b k) / 10 := by
  rw [mod_succ, mod_succ, Nat.pow_succ, ← Nat.div_div_eq_div_mul]
  have : a % 10 ^ k + 10 ^ k * dg a k + (b % 10 ^ k + 10 ^ k * dg b k) = (a % 10 ^ k + b % 10 ^ k) + 10 ^ k * (dg a k + dg b k) := by
    rw [Nat.mul_add]; omega
  rw [this, Nat.add_mul_div_left _ _ (p10 k), Nat.add_assoc]

theorem dg_add (a b k : Nat) : dg (a + b) k = ((a % 10 ^ k + b % 10 ^ k) / 10 ^ k + dg a k + dg b k) % 10 := by
  unfold dg; rw [div_add_p a b _ (p10 k)]; omega

def cy (a b k : Nat) : Nat := (a % 10 ^ k + b % 10 ^ k) / 10 ^ k
theorem cy_zero (a b : Nat) : cy a b 0 = 0 := by simp [cy, Nat.mod_one]
theorem cy_le (a b k : Nat) : cy a b k ≤ 1 := by
  unfold cy
  have h1 := Nat.mod_lt a (p10 k)
  have h2 := Nat.mod_lt b (p10 k)
  have : (a % 10 ^ k + b % 10 ^ k) / 10 ^ k < 2 := by rw [Nat.div_lt_iff_lt_mul (p10 k)]; omega
  omega
theorem add_mod10 (a b k : Nat) : (dg a k + dg b k + cy a b k) % 10 = dg (a + b) k := by
  rw [dg_add]; unfold cy; omega
theorem add_div10 (a b k : Nat) : (dg a k + dg b k + cy a b k) / 10 = cy a b (k + 1) := by
  unfold cy; rw [carry_succ]; omega

-- subtraction
def bw (a b k : Nat) : Nat := if a % 10 ^ k < b % 10 ^ k then 1 else 0
theorem bw_le (a b k : Nat) : bw a b k ≤ 1 := by unfold bw; split <;> omega
theorem bw_zero (a b : Nat) : bw a b 0 = 0 := by simp [bw, Nat.mod_one]
theorem bw_succ (a b k : Nat) : bw a b (k + 1) = 1 - (dg a k + 10 - dg b k - bw a b k) / 10 := by
  have ha := dg_lt a k
  have hb := dg_lt b k
  unfold bw
  rw [mod_succ, mod_succ]
  have h1 := Nat.mod_lt a (p10 k)
  have h2 := Nat.mod_lt b (p10 k)
  generalize a % 10 ^ k = ra at *
  generalize b % 10 ^ k = rb at *
  generalize 10 ^ k = p at *
  rcases Nat.lt_trichotomy (dg a k) (dg b k) with h | h | h
  · have : p * dg a k + p ≤ p * dg b k := by
      have := Nat.mul_le_mul_left p (show dg a k + 1 ≤ dg b k from h); rw [Nat.mul_add] at this; omega
    rw [if_pos (by omega)]; split <;> omega
  · rw [h]
    by_cases hr : ra < rb
    · rw [if_pos (by omega), if_pos hr]; omega
    · rw [if_neg (by omega), if_neg hr]; omega
  · have : p * dg b k + p ≤ p * dg a k := by
      have := Nat.mul_le_mul_left p (show dg b k + 1 ≤ dg a k from h); rw [Nat.mul_add] at this; omega
    rw [if_neg (by omega)]; split <;> omega
theorem dg_sub (a b k : Nat) (h : b ≤ a) : dg (a - b) k = (dg a k + 10 - dg b k - bw a b k) % 10 := by
  have e := add_mod10 (a - b) b k
  rw [show a - b + b = a from by omega] at e
  have hb : bw a b k = cy (a - b) b k := by
    unfold bw cy
    have hp := p10 k
    have h1 := Nat.mod_lt (a - b) hp
    have h2 := Nat.mod_lt b hp
    have h3 : a % 10 ^ k = ((a - b) % 10 ^ k + b % 10 ^ k) % 10 ^ k := by rw [← Nat.add_mod, show a - b + b = a from by omega]
    generalize (a - b) % 10 ^ k = x at *
    generalize b % 10 ^ k = y at *
    generalize 10 ^ k = p at *
    by_cases hx : x + y < p
    · rw [Nat.mod_eq_of_lt hx] at h3
      rw [Nat.div_eq_of_lt hx, if_neg (by omega)]
    · have h4 : (x + y) % p = x + y - p := by rw [Nat.mod_eq_sub_mod (by omega), Nat.mod_eq_of_lt (by omega)]
      rw [h4] at h3
      have h5 : (x + y) / p = 1 := by rw [Nat.div_eq_iff hp]; omega
      rw [h5, if_pos (by omega)]
  rw [hb]
  have := dg_lt (a - b) k
  have := dg_lt b k
  have := cy_le (a - b) b k
  omega

-- comparison: the digits above are equal, the digit at i parts them
theorem div_split (n i : Nat) : n / 10 ^ i = 10 * (n / 10 ^ (i + 1)) + dg n i := by
  rw [Nat.pow_succ, ← Nat.div_div_eq_div_mul]; unfold dg; omega
theorem lt_of_dg {a b i : Nat} (he : a / 10 ^ (i + 1) = b / 10 ^ (i + 1)) (h : dg a i < dg b i) : a < b := by
  have h1 := div_split a i
  have h2 := div_split b i
  have : a / 10 ^ i < b / 10 ^ i := by omega
  exact Nat.lt_of_not_le fun hle => by have := Nat.div_le_div_right (c := 10 ^ i) hle; omega
theorem high_eq {a b i : Nat} (he : a / 10 ^ (i + 1) = b / 10 ^ (i + 1)) (h : dg a i = dg b i) : a / 10 ^ i = b / 10 ^ i := by
  rw [div_split a i, div_split b i, he, h]

-- a row of digits as a number
def val (f : Nat → Nat) : Nat → Nat
  | 0 => 0
  | k + 1 => val f k + 10 ^ k * f k

theorem val_dg (n m : Nat) : val (dg n) m = n % 10 ^ m := by
  induction m with
  | zero => simp [val, Nat.mod_one]
  | succ m ih => rw [val, ih, mod_succ]

theorem val_congr {f g : Nat → Nat} {m : Nat} (h : ∀ i, i < m → f i = g i) : val f m = val g m := by
  induction m with
  | zero => rfl
  | succ m ih => rw [val, val, ih (fun i hi => h i (by omega)), h m (by omega)]

theorem val_add {f g : Nat → Nat} {m j x : Nat} (hj : j < m) (h : ∀ i, i < m → g i = if i = j then f i + x else f i) : val g m = val f m + 10 ^ j * x := by
  induction m with
  | zero => omega
  | succ m ih =>
    rw [val, val]
    by_cases hjm : j = m
    · subst hjm
      rw [val_congr (f := g) (g := f) (fun i hi => by rw [h i (by omega), if_neg (by omega)]), h j (by omega), if_pos rfl, Nat.mul_add]
      omega
    · rw [ih (by omega) (fun i hi => h i (by omega)), h m (by omega), if_neg (by omega)]
      omega

theorem val_lt {f : Nat → Nat} {m : Nat} (h : ∀ i, i < m → f i < 10) : val f m < 10 ^ m := by
  induction m with
  | zero => simp [val]
  | succ m ih =>
    have h1 := ih (fun i hi => h i (by omega))
    have h2 := Nat.mul_le_mul_left (10 ^ m) (show f m + 1 ≤ 10 from h m (by omega))
    rw [val, Nat.pow_succ]
    rw [Nat.mul_add] at h2
    omega

theorem dg_low (x y m k : Nat) (h : k < m) : dg (x + 10 ^ m * y) k = dg x k := by
  unfold dg
  obtain ⟨d, rfl⟩ := Nat.exists_eq_add_of_lt h
  have : 10 ^ (k + d + 1) * y = 10 ^ k * (10 * (10 ^ d * y)) := by
    rw [show k + d + 1 = k + (1 + d) from by omega, Nat.pow_add, Nat.pow_add, Nat.mul_assoc, Nat.mul_assoc]
  rw [this, Nat.add_mul_div_left _ _ (p10 k), Nat.add_mul_mod_self_left]

theorem dg_mod (n m k : Nat) (h : k < m) : dg (n % 10 ^ m) k = dg n k := by
  have := dg_low (n % 10 ^ m) (n / 10 ^ m) m k h
  rw [Nat.mod_add_div] at this
  exact this.symm

theorem dg_val {f : Nat → Nat} {m : Nat} (h : ∀ i, i < m → f i < 10) {k : Nat} (hk : k < m) : dg (val f m) k = f k := by
  induction m with
  | zero => omega
  | succ m ih =>
    have h1 := val_lt (fun i (hi : i < m) => h i (by omega))
    rw [val]
    by_cases e : k = m
    · subst e
      unfold dg
      rw [Nat.add_mul_div_left _ _ (p10 k), Nat.div_eq_of_lt h1]
      have := h k (by omega)
      omega
    · rw [dg_low _ _ _ _ (by omega), ih (fun i hi => h i (by omega)) (by omega)]

theorem eq_of_dg {a b m : Nat} (ha : a < 10 ^ m) (hb : b < 10 ^ m) (h : ∀ k, k < m → dg a k = dg b k) : a = b := by
  have h1 := val_dg a m
  have h2 := val_dg b m
  rw [Nat.mod_eq_of_lt ha] at h1
  rw [Nat.mod_eq_of_lt hb] at h2
  rw [← h1, ← h2]
  exact val_congr h

-- carrying
def cs (s : Nat → Nat) : Nat → Nat
  | 0 => 0
  | k + 1 => (s k + cs s k) / 10

theorem cs_val (s : Nat → Nat) (m : Nat) : val s m = val (fun k => (s k + cs s k) % 10) m + 10 ^ m * cs s m := by
  induction m with
  | zero => simp [val, cs]
  | succ m ih =>
    rw [val, val, ih, cs, Nat.pow_succ]
    have h := Nat.div_add_mod (s m + cs s m) 10
    have e : 10 ^ m * (s m + cs s m) = 10 ^ m * ((s m + cs s m) % 10) + 10 ^ m * 10 * ((s m + cs s m) / 10) := by
      rw [Nat.mul_assoc, ← Nat.mul_add]; congr 1; omega
    rw [Nat.mul_add] at e
    omega

theorem cs_dg (s : Nat → Nat) (m k : Nat) (hk : k < m) : dg (val s m) k = (s k + cs s k) % 10 := by
  rw [cs_val, dg_low _ _ _ _ hk]
  exact dg_val (f := fun k => (s k + cs s k) % 10) (fun i _ => Nat.mod_lt _ (by decide)) hk

theorem cs_le (s : Nat → Nat) (m : Nat) (h : ∀ i, i < m → s i ≤ 5184) (k : Nat) (hk : k ≤ m) : cs s k ≤ 576 := by
  induction k with
  | zero => simp [cs]
  | succ k ih => rw [cs]; have := ih (by omega); have := h k (by omega); omega

-- a product, row by row
theorem mul_row (a b i m : Nat) (hi : i ≤ m) : ((a % 10 ^ i) * b + dg a i * 10 ^ i * (b % 10 ^ (m - i))) % 10 ^ m = ((a % 10 ^ (i + 1)) * b) % 10 ^ m := by
  have e : 10 ^ i * (b % 10 ^ (m - i)) = (10 ^ i * b) % 10 ^ m := by
    have := Nat.mul_mod_mul_left (10 ^ i) b (10 ^ (m - i))
    rw [← Nat.pow_add, show i + (m - i) = m from by omega] at this
    exact this.symm
  rw [mod_succ, Nat.add_mul, Nat.mul_assoc (dg a i), e]
  rw [show 10 ^ i * dg a i * b = dg a i * (10 ^ i * b) from by rw [Nat.mul_comm (10 ^ i), Nat.mul_assoc]]
  rw [Nat.add_mod, Nat.mul_mod (dg a i) ((10 ^ i * b) % 10 ^ m), Nat.mod_mod, ← Nat.mul_mod, ← Nat.add_mod]

-- long division
theorem div_digit (a b i : Nat) (hb : 0 < b) : (a / 10 ^ i) / b = 10 * (a / 10 ^ (i + 1) / b) + (10 * (a / 10 ^ (i + 1) % b) + dg a i) / b := by
  rw [div_split a i]
  have h := Nat.div_add_mod (a / 10 ^ (i + 1)) b
  generalize a / 10 ^ (i + 1) / b = q at *
  generalize a / 10 ^ (i + 1) % b = r at *
  rw [← h, show 10 * (b * q + r) + dg a i = (10 * r + dg a i) + b * (10 * q) from by rw [Nat.mul_add, ← Nat.mul_assoc, Nat.mul_comm 10 b, Nat.mul_assoc]; omega]
  rw [Nat.add_mul_div_left _ _ hb]; omega
theorem rest_digit (a b i : Nat) : (10 * (a / 10 ^ (i + 1) % b) + dg a i) % b = (a / 10 ^ i) % b := by
  rw [div_split a i, Nat.add_mod, Nat.mul_mod, Nat.mod_mod, ← Nat.mul_mod, ← Nat.add_mod]
theorem quo_dg (a b i : Nat) (hb : 0 < b) : dg (a / b) i = (10 * (a / 10 ^ (i + 1) % b) + dg a i) / b := by
  have h := div_digit a b i hb
  have hlt : (10 * (a / 10 ^ (i + 1) % b) + dg a i) / b < 10 := by
    have := Nat.mod_lt (a / 10 ^ (i + 1)) hb
    have := dg_lt a i
    rw [Nat.div_lt_iff_lt_mul hb]; omega
  have e : dg (a / b) i = (a / 10 ^ i / b) % 10 := by unfold dg; rw [Nat.div_div_eq_div_mul, Nat.div_div_eq_div_mul, Nat.mul_comm]
  rw [e, h]
  generalize (10 * (a / 10 ^ (i + 1) % b) + dg a i) / b = y at *
  generalize a / 10 ^ (i + 1) / b = x at *
  clear h e
  omega
end Go.Proofs.Ytclainfdeghgnaa.Nm
