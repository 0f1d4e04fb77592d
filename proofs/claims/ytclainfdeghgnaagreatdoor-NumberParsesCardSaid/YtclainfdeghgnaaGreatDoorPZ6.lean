/- Plain facts about limbs of 32 bits: carries, borrows, products, quotients bit by bit. No program in sight. The document's magnitudes: a slice of limbs, trimmed. The document's sums of magnitudes. The document's differences of magnitudes, and which of two is the greater one. The document's products of magnitudes. The document's bits of a magnitude, and its quotients bit by bit. A region that draws its order, walked in the order of the text: what reads is taken first; calls may make memory and hand back whatever their contracts say; one block may be stored to. A quotient of decimals. The examples of the chapter hold. -/
import Init
import Derived.Outline
import Derived.Deep.RegionHeld
import Derived.Test.YtclainfdeghgnaaGreatDoorPZ4
import Derived.Test.YtclainfdeghgnaaGreatDoorPZ2
import Derived.Test.YtclainfdeghgnaaGreatDoorPZ5
namespace Go.Proofs.YtclainfdeghgnaaGreatDoor.Lm
/-- One more than the greatest limb. -/
def B : Nat := 4294967296
theorem B_eq : B = 4294967296 := rfl
theorem B_two : B = 2 ^ 32 := rfl
theorem B_pos : 0 < B := by decide
/-- A limb. -/
def lm (n i : Nat) : Nat := n / B ^ i % B
theorem lm_lt (n i : Nat) : lm n i < B := Nat.mod_lt _ B_pos
theorem lm_32 (n i : Nat) : lm n i < 4294967296 := lm_lt n i
theorem pB (k : Nat) : 0 < B ^ k := Nat.pow_pos B_pos
theorem lm_zero (i : Nat) : lm 0 i = 0 := by simp [lm]
theorem lm_of_lt {n i : Nat} (h : n < B ^ i) : lm n i = 0 := by unfold lm; rw [Nat.div_eq_of_lt h]; rfl
theorem lm_of_le {n i k : Nat} (h : n < B ^ k) (hk : k ≤ i) : lm n i = 0 := lm_of_lt (Nat.lt_of_lt_of_le h (Nat.pow_le_pow_right B_pos hk))
theorem mod_succ (n k : Nat) : n % B ^ (k + 1) = n % B ^ k + B ^ k * lm n k := by
  rw [Nat.pow_succ]; exact Nat.mod_mul
theorem div_split (n i : Nat) : n / B ^ i = B * (n / B ^ (i + 1)) + lm n i := by
  rw [Nat.pow_succ, ← Nat.div_div_eq_div_mul]; unfold lm
  have := Nat.div_add_mod (n / B ^ i) B
  omega
theorem lt_of_top {n k : Nat} (h : n < B ^ (k + 1)) (h0 : lm n k = 0) : n < B ^ k := by
  have h1 := mod_succ n k
  rw [Nat.mod_eq_of_lt h, h0] at h1
  have := Nat.mod_lt n (pB k)
  omega

-- how many limbs
def nl (n : Nat) : Nat := if h : n = 0 then 0 else nl (n / B) + 1
termination_by n
decreasing_by exact Nat.div_lt_self (by omega) (by decide)
theorem nl_zero : nl 0 = 0 := by unfold nl; simp
theorem nl_pos {n : Nat} (h : n ≠ 0) : nl n = nl (n / B) + 1 := by rw [nl]; simp [h]
theorem nl_spec (n : Nat) : n < B ^ nl n := by
  induction n using Nat.strongRecOn with
  | _ n ih =>
    by_cases h : n = 0
    · subst h; exact pB _
    · rw [nl_pos h, Nat.pow_succ]
      have h1 := ih (n / B) (Nat.div_lt_self (by omega) (by decide))
      exact (Nat.div_lt_iff_lt_mul B_pos).1 h1
theorem nl_le (n : Nat) : ∀ k, n < B ^ k → nl n ≤ k := by
  induction n using Nat.strongRecOn with
  | _ n ih =>
    intro k hk
    by_cases h : n = 0
    · subst h; rw [nl_zero]; omega
    · rw [nl_pos h]
      cases k with
      | zero => simp at hk; omega
      | succ k =>
        have := ih (n / B) (Nat.div_lt_self (by omega) (by decide)) k (by rw [Nat.div_lt_iff_lt_mul B_pos, ← Nat.pow_succ]; exact hk)
        omega
theorem nl_top {n : Nat} (h : n ≠ 0) : lm n (nl n - 1) ≠ 0 := by
  intro h0
  have h1 : nl n = (nl n - 1) + 1 := by have := nl_pos h; omega
  have h2 := nl_spec n
  rw [h1] at h2
  have h3 := nl_le n _ (lt_of_top h2 h0)
  omega
theorem nl_eq_zero {n : Nat} : nl n = 0 ↔ n = 0 := by
  constructor
  · intro h; have := nl_spec n; rw [h] at this; simpa using this
  · rintro rfl; exact nl_zero
theorem nl_eq {n k : Nat} (h : n < B ^ k) (h0 : k = 0 ∨ lm n (k - 1) ≠ 0) : k = nl n := by
  have h1 := nl_le n k h
  rcases Nat.lt_or_ge (nl n) k with h2 | h2
  · have h3 := nl_spec n
    rcases h0 with h0 | h0
    · omega
    · exact absurd (lm_of_le h3 (by omega)) h0
  · omega
theorem nl_mono {a b : Nat} (h : a ≤ b) : nl a ≤ nl b := nl_le a _ (Nat.lt_of_le_of_lt h (nl_spec b))
theorem lt_of_nl {a b : Nat} (h : nl a < nl b) : a < b := Nat.lt_of_not_le fun hle => by have := nl_mono hle; omega

-- sums
def cyL (a b k : Nat) : Nat := (a % B ^ k + b % B ^ k) / B ^ k
theorem cyL_zero (a b : Nat) : cyL a b 0 = 0 := by simp [cyL, Nat.mod_one]
theorem cyL_le (a b k : Nat) : cyL a b k ≤ 1 := by
  unfold cyL
  have h1 := Nat.mod_lt a (pB k)
  have h2 := Nat.mod_lt b (pB k)
  have : (a % B ^ k + b % B ^ k) / B ^ k < 2 := by rw [Nat.div_lt_iff_lt_mul (pB k)]; omega
  omega
theorem cyL_eq (a b k : Nat) : a % B ^ k + b % B ^ k = (a + b) % B ^ k + B ^ k * cyL a b k := by
  unfold cyL
  have h := Nat.div_add_mod (a % B ^ k + b % B ^ k) (B ^ k)
  rw [← Nat.add_mod] at h
  omega
theorem add_step (a b k : Nat) : lm a k + lm b k + cyL a b k = lm (a + b) k + B * cyL a b (k + 1) := by
  have h0 := cyL_eq a b k
  have h1 := cyL_eq a b (k + 1)
  rw [mod_succ, mod_succ, mod_succ, Nat.pow_succ] at h1
  have hp := pB k
  generalize B ^ k = p at *
  have h2 : p * (lm a k + lm b k + cyL a b k) = p * (lm (a + b) k + B * cyL a b (k + 1)) := by
    rw [Nat.mul_add, Nat.mul_add, Nat.mul_add, ← Nat.mul_assoc]; omega
  exact Nat.eq_of_mul_eq_mul_left hp h2
theorem add_modB (a b k : Nat) : (lm a k + lm b k + cyL a b k) % B = lm (a + b) k := by
  rw [add_step, Nat.add_mul_mod_self_left, Nat.mod_eq_of_lt (lm_lt _ _)]
theorem add_divB (a b k : Nat) : (lm a k + lm b k + cyL a b k) / B = cyL a b (k + 1) := by
  rw [add_step, Nat.add_mul_div_left _ _ B_pos, Nat.div_eq_of_lt (lm_lt _ _), Nat.zero_add]
theorem cyL_top {a b k : Nat} (ha : a < B ^ k) (hb : b < B ^ k) : cyL a b k = lm (a + b) k ∧ a + b < B ^ (k + 1) := by
  have h : a + b < B ^ (k + 1) := by
    rw [Nat.pow_succ]
    have h1 : B ^ k * 2 ≤ B ^ k * B := Nat.mul_le_mul_left _ (by decide)
    omega
  refine ⟨?_, h⟩
  have h2 := add_step a b k
  rw [lm_of_lt ha, lm_of_lt hb] at h2
  have h3 : cyL a b (k + 1) = 0 := by
    unfold cyL
    rw [Nat.mod_eq_of_lt (Nat.lt_of_lt_of_le ha (Nat.pow_le_pow_right B_pos (by omega))), Nat.mod_eq_of_lt (Nat.lt_of_lt_of_le hb (Nat.pow_le_pow_right B_pos (by omega)))]
    exact Nat.div_eq_of_lt h
  rw [h3] at h2
  omega

-- differences
def bwL (a b k : Nat) : Nat := if a % B ^ k < b % B ^ k then 1 else 0
theorem bwL_le (a b k : Nat) : bwL a b k ≤ 1 := by unfold bwL; split <;> omega
theorem bwL_zero (a b : Nat) : bwL a b 0 = 0 := by simp [bwL, Nat.mod_one]
theorem bwL_eq {a b : Nat} (h : b ≤ a) (k : Nat) : (a - b) % B ^ k + b % B ^ k = a % B ^ k + B ^ k * bwL a b k := by
  have e := cyL_eq (a - b) b k
  rw [show a - b + b = a from by omega] at e
  rw [e]
  congr 2
  have h1 := Nat.mod_lt (a - b) (pB k)
  have h2 := Nat.mod_lt a (pB k)
  have h3 := cyL_le (a - b) b k
  unfold bwL
  generalize (a - b) % B ^ k = x at *
  generalize b % B ^ k = y at *
  generalize a % B ^ k = z at *
  generalize cyL (a - b) b k = c at *
  generalize B ^ k = p at *
  rcases Nat.lt_or_ge c 1 with h4 | h4
  · have h5 : c = 0 := by omega
    subst h5
    rw [if_neg (by omega)]
  · have h5 : c = 1 := by omega
    subst h5
    rw [if_pos (by omega)]
theorem sub_step {a b : Nat} (h : b ≤ a) (k : Nat) : lm (a - b) k + lm b k + bwL a b k = lm a k + B * bwL a b (k + 1) := by
  have h0 := bwL_eq h k
  have h1 := bwL_eq h (k + 1)
  rw [mod_succ, mod_succ, mod_succ, Nat.pow_succ] at h1
  have hp := pB k
  generalize B ^ k = p at *
  have h2 : p * (lm (a - b) k + lm b k + bwL a b k) = p * (lm a k + B * bwL a b (k + 1)) := by
    rw [Nat.mul_add, Nat.mul_add, Nat.mul_add, ← Nat.mul_assoc]; omega
  exact Nat.eq_of_mul_eq_mul_left hp h2
theorem sub_lo {a b : Nat} (h : b ≤ a) (k : Nat) (hlt : lm a k < bwL a b k + lm b k) : bwL a b (k + 1) = 1 ∧ lm (a - b) k = lm a k + B - (bwL a b k + lm b k) := by
  have h1 := sub_step h k
  have h2 := bwL_le a b (k + 1)
  have h3 := lm_lt (a - b) k
  have : bwL a b (k + 1) = 1 := by
    rcases Nat.lt_or_ge (bwL a b (k + 1)) 1 with h4 | h4
    · have h5 : bwL a b (k + 1) = 0 := by omega
      rw [h5] at h1; omega
    · omega
  rw [this] at h1
  exact ⟨this, by omega⟩
theorem sub_hi {a b : Nat} (h : b ≤ a) (k : Nat) (hge : bwL a b k + lm b k ≤ lm a k) : bwL a b (k + 1) = 0 ∧ lm (a - b) k = lm a k - (bwL a b k + lm b k) := by
  have h1 := sub_step h k
  have h2 := bwL_le a b (k + 1)
  have h3 := lm_lt (a - b) k
  have : bwL a b (k + 1) = 0 := by
    rcases Nat.lt_or_ge (bwL a b (k + 1)) 1 with h4 | h4
    · omega
    · have h5 : bwL a b (k + 1) = 1 := by omega
      rw [h5] at h1; omega
  rw [this] at h1
  exact ⟨this, by omega⟩

-- comparison
def cmpN (a b : Nat) : Int := if a < b then -1 else if b < a then 1 else 0
theorem lt_of_lm {a b i : Nat} (he : a / B ^ (i + 1) = b / B ^ (i + 1)) (h : lm a i < lm b i) : a < b := by
  have h1 := div_split a i
  have h2 := div_split b i
  have : a / B ^ i < b / B ^ i := by rw [h1, h2, he]; omega
  exact Nat.lt_of_not_le fun hle => by have := Nat.div_le_div_right (c := B ^ i) hle; omega
theorem high_eq {a b i : Nat} (he : a / B ^ (i + 1) = b / B ^ (i + 1)) (h : lm a i = lm b i) : a / B ^ i = b / B ^ i := by
  rw [div_split a i, div_split b i, he, h]

-- one limb put in the place of another one
def setL (n p d : Nat) : Nat := n % B ^ p + B ^ p * (d + B * (n / B ^ (p + 1)))
theorem set_eq (n p d : Nat) : setL n p d + B ^ p * lm n p = n + B ^ p * d := by
  unfold setL
  have h1 := Nat.div_add_mod n (B ^ p)
  rw [div_split n p] at h1
  rw [Nat.mul_add] at h1 ⊢
  omega
theorem lm_low (x y m k : Nat) (h : k < m) : lm (x + B ^ m * y) k = lm x k := by
  unfold lm
  obtain ⟨d, rfl⟩ := Nat.exists_eq_add_of_lt h
  have : B ^ (k + d + 1) * y = B ^ k * (B * (B ^ d * y)) := by
    rw [show k + d + 1 = k + (1 + d) from by omega, Nat.pow_add, Nat.pow_add, Nat.mul_assoc, Nat.mul_assoc, Nat.pow_one]
  rw [this, Nat.add_mul_div_left _ _ (pB k), Nat.add_mul_mod_self_left]
theorem lm_mod (n m k : Nat) (h : k < m) : lm (n % B ^ m) k = lm n k := by
  have := lm_low (n % B ^ m) (n / B ^ m) m k h
  rw [Nat.mod_add_div] at this
  exact this.symm
theorem div_high (n i j : Nat) : lm (n / B ^ i) j = lm n (i + j) := by
  unfold lm; rw [Nat.div_div_eq_div_mul, ← Nat.pow_add]
theorem lm_setL (n p : Nat) {d : Nat} (hd : d < B) (j : Nat) : lm (setL n p d) j = if j = p then d else lm n j := by
  unfold setL
  rcases Nat.lt_trichotomy j p with h | h | h
  · rw [if_neg (by omega), lm_low _ _ _ _ h, lm_mod _ _ _ h]
  · subst h
    rw [if_pos rfl]
    unfold lm
    rw [Nat.add_mul_div_left _ _ (pB j), Nat.div_eq_of_lt (Nat.mod_lt _ (pB j)), Nat.zero_add, Nat.add_mul_mod_self_left, Nat.mod_eq_of_lt hd]
  · rw [if_neg (by omega)]
    obtain ⟨e, rfl⟩ := Nat.exists_eq_add_of_lt h
    have h1 : (n % B ^ p + B ^ p * (d + B * (n / B ^ (p + 1)))) / B ^ (p + 1) = n / B ^ (p + 1) := by
      rw [Nat.pow_succ, ← Nat.div_div_eq_div_mul, Nat.add_mul_div_left _ _ (pB p), Nat.div_eq_of_lt (Nat.mod_lt _ (pB p)), Nat.zero_add, Nat.add_mul_div_left _ _ B_pos, Nat.div_eq_of_lt hd, Nat.zero_add]
    have h2 := div_high (n % B ^ p + B ^ p * (d + B * (n / B ^ (p + 1)))) (p + 1) e
    have h3 := div_high n (p + 1) e
    rw [h1] at h2
    rw [show p + e + 1 = p + 1 + e from by omega, ← h2, h3]
theorem setL_lt {n p d m : Nat} (hn : n < B ^ m) (hp : p < m) (hd : d < B) : setL n p d < B ^ m := by
  unfold setL
  obtain ⟨e, rfl⟩ := Nat.exists_eq_add_of_lt hp
  have h1 : n / B ^ (p + 1) < B ^ e := by
    rw [Nat.div_lt_iff_lt_mul (pB _), ← Nat.pow_add]; rw [show e + (p + 1) = p + e + 1 from by omega]; exact hn
  have h2 := Nat.mod_lt n (pB p)
  have h3 : B * (n / B ^ (p + 1)) + B ≤ B * B ^ e := by
    have := Nat.mul_le_mul_left B (show n / B ^ (p + 1) + 1 ≤ B ^ e from h1)
    rw [Nat.mul_add] at this; omega
  have h4 : B ^ p * (d + B * (n / B ^ (p + 1)) + 1) ≤ B ^ p * (B * B ^ e) := Nat.mul_le_mul_left _ (by omega)
  have h5 : B ^ p * (B * B ^ e) = B ^ (p + e + 1) := by
    rw [Nat.mul_comm B, ← Nat.mul_assoc, ← Nat.pow_add, ← Nat.pow_succ]
  rw [Nat.mul_add] at h4
  omega

-- products
/-- Behind k limbs of the second factor in row i: the sum so far, and what is carried. -/
structure TInv (a b i k n c : Nat) : Prop where
  eq : n + c * B ^ (i + k) = (a % B ^ i) * b + lm a i * B ^ i * (b % B ^ k)
  c : c < B
theorem TInv.start {a b i n : Nat} (h : n = (a % B ^ i) * b) : TInv a b i 0 n 0 := ⟨by rw [h]; simp [Nat.mod_one], B_pos⟩
theorem TInv.xlt {a b i k n c : Nat} (h : TInv a b i k n c) (p q : Nat) : lm n p + c + lm a i * lm b q < B * B := by
  have h1 := lm_lt n p
  have h2 := h.c
  have h3 := lm_lt a i
  have h4 := lm_lt b q
  have h5 : lm a i * lm b q ≤ (B - 1) * (B - 1) := Nat.mul_le_mul (by omega) (by omega)
  have h6 : (B - 1) * (B - 1) + B + B - 1 = B * B := by decide
  omega
theorem TInv.step {a b i k n c : Nat} (h : TInv a b i k n c) : TInv a b i (k + 1) (setL n (i + k) ((lm n (i + k) + c + lm a i * lm b k) % B)) ((lm n (i + k) + c + lm a i * lm b k) / B) := by
  refine ⟨?_, by rw [Nat.div_lt_iff_lt_mul B_pos]; exact h.xlt _ _⟩
  have e := h.eq
  have s := set_eq n (i + k) ((lm n (i + k) + c + lm a i * lm b k) % B)
  have d := Nat.div_add_mod (lm n (i + k) + c + lm a i * lm b k) B
  rw [mod_succ b k, Nat.mul_add (lm a i * B ^ i), ← Nat.add_assoc (a % B ^ i * b)]
  generalize (lm n (i + k) + c + lm a i * lm b k) % B = r at *
  generalize (lm n (i + k) + c + lm a i * lm b k) / B = q at *
  generalize setL n (i + k) r = N at *
  have hp : B ^ (i + (k + 1)) = B ^ (i + k) * B := by rw [show i + (k + 1) = i + k + 1 from rfl, Nat.pow_succ]
  have hq : lm a i * B ^ i * (B ^ k * lm b k) = B ^ (i + k) * (lm a i * lm b k) := by rw [Nat.pow_add]; generalize B ^ i = x; generalize B ^ k = y; grind
  rw [← e, hp, hq]
  generalize B ^ (i + k) = p at *
  have m1 : p * (B * q + r) = p * (lm n (i + k) + c + lm a i * lm b k) := by rw [d]
  rw [Nat.mul_add, Nat.mul_add, Nat.mul_add] at m1
  have m2 : q * (p * B) = p * (B * q) := by grind
  rw [m2]
  have m3 : c * p = p * c := Nat.mul_comm _ _
  rw [m3]
  omega
theorem TInv.next {a b i k n : Nat} (h : TInv a b i k n 0) (hb : b < B ^ k) : n = (a % B ^ (i + 1)) * b := by
  have := h.eq
  rw [Nat.mod_eq_of_lt hb, Nat.zero_mul, Nat.add_zero] at this
  rw [this, mod_succ, Nat.add_mul, Nat.mul_comm (lm a i)]
theorem TInv.carry0 {a b i k l n c : Nat} (h : TInv a b i k n c) (hb : b < B ^ l) (hk : l < k) : c = 0 := by
  have e := h.eq
  rw [Nat.mod_eq_of_lt (Nat.lt_of_lt_of_le hb (Nat.pow_le_pow_right B_pos (by omega)))] at e
  have e2 : (a % B ^ i) * b + lm a i * B ^ i * b = (a % B ^ (i + 1)) * b := by rw [mod_succ, Nat.add_mul, Nat.mul_comm (lm a i)]
  rw [e2] at e
  rcases Nat.eq_zero_or_pos c with h0 | h0
  · exact h0
  · exfalso
    have h1 : B ^ (i + k) ≤ c * B ^ (i + k) := Nat.le_mul_of_pos_left _ h0
    have h2 : (a % B ^ (i + 1)) * b ≤ B ^ (i + 1) * b := Nat.mul_le_mul_right _ (Nat.le_of_lt (Nat.mod_lt _ (pB _)))
    have h3 : B ^ (i + 1) * b < B ^ (i + 1) * B ^ l := Nat.mul_lt_mul_of_pos_left hb (pB _)
    rw [← Nat.pow_add] at h3
    have h4 : B ^ (i + 1 + l) ≤ B ^ (i + k) := Nat.pow_le_pow_right B_pos (by omega)
    omega
theorem mul_lt_pow {a b k l : Nat} (ha : a < B ^ k) (hb : b < B ^ l) : a * b < B ^ (k + l + 1) := by
  rw [Nat.pow_succ, Nat.pow_add]
  have h1 : a * b ≤ B ^ k * B ^ l := Nat.mul_le_mul (Nat.le_of_lt ha) (Nat.le_of_lt hb)
  have h2 : B ^ k * B ^ l * 2 ≤ B ^ k * B ^ l * B := Nat.mul_le_mul_left _ (by decide)
  have h3 : 0 < B ^ k * B ^ l := Nat.mul_pos (pB _) (pB _)
  omega

-- bits
def bt (n i : Nat) : Nat := n / 2 ^ i % 2
theorem bt_le (n i : Nat) : bt n i ≤ 1 := by unfold bt; omega
theorem pow_bit (i : Nat) : B ^ (i / 32) * 2 ^ (i % 32) = 2 ^ i := by
  rw [B_two, ← Nat.pow_mul, ← Nat.pow_add, Nat.div_add_mod]
theorem bt_lm (n i : Nat) : lm n (i / 32) / 2 ^ (i % 32) % 2 = bt n i := by
  unfold bt lm
  rw [← pow_bit i, ← Nat.div_div_eq_div_mul]
  generalize n / B ^ (i / 32) = x
  have hr : i % 32 < 32 := Nat.mod_lt _ (by decide)
  generalize i % 32 = r at *
  have h := Nat.testBit_mod_two_pow x 32 r
  rw [Nat.testBit_eq_decide_div_mod_eq, Nat.testBit_eq_decide_div_mod_eq, ← B_two] at h
  simp only [hr, decide_true, Bool.true_and] at h
  have := decide_eq_decide.1 h
  omega
theorem bt_step (n i : Nat) : n / 2 ^ i = 2 * (n / 2 ^ (i + 1)) + bt n i := by
  unfold bt
  rw [Nat.pow_succ, ← Nat.div_div_eq_div_mul]; omega

-- quotients, bit by bit
def qn (a b i : Nat) : Nat := a / 2 ^ i / b * 2 ^ i
def rn (a b i : Nat) : Nat := a / 2 ^ i % b
theorem two_div_yes {x b t : Nat} (h : b ≤ 2 * (x % b) + t) (ht : t ≤ 1) (hb : 0 < b) : (2 * x + t) / b = 2 * (x / b) + 1 ∧ (2 * x + t) % b = 2 * (x % b) + t - b := by
  have h1 := Nat.div_add_mod x b
  have h2 := Nat.mod_lt x hb
  generalize x / b = q at *
  generalize x % b = r at *
  have e : 2 * x + t = (2 * r + t - b) + b * (2 * q + 1) := by
    rw [Nat.mul_add, Nat.mul_one, ← h1, show b * (2 * q) = 2 * (b * q) from by rw [Nat.mul_left_comm]]; omega
  rw [e, Nat.add_mul_div_left _ _ hb, Nat.add_mul_mod_self_left, Nat.div_eq_of_lt (by omega), Nat.mod_eq_of_lt (by omega)]
  exact ⟨by omega, rfl⟩
theorem two_div_no {x b t : Nat} (h : 2 * (x % b) + t < b) : (2 * x + t) / b = 2 * (x / b) ∧ (2 * x + t) % b = 2 * (x % b) + t := by
  have h1 := Nat.div_add_mod x b
  have hb : 0 < b := by omega
  generalize x / b = q at *
  generalize x % b = r at *
  have e : 2 * x + t = (2 * r + t) + b * (2 * q) := by
    rw [← h1, show b * (2 * q) = 2 * (b * q) from by rw [Nat.mul_left_comm]]; omega
  rw [e, Nat.add_mul_div_left _ _ hb, Nat.add_mul_mod_self_left, Nat.div_eq_of_lt h, Nat.mod_eq_of_lt h]
  exact ⟨by omega, rfl⟩
theorem q_yes {a b i : Nat} (h : b ≤ 2 * rn a b (i + 1) + bt a i) (hb : 0 < b) : qn a b i = qn a b (i + 1) + 2 ^ i ∧ rn a b i = 2 * rn a b (i + 1) + bt a i - b := by
  unfold qn rn at *
  obtain ⟨h1, h2⟩ := two_div_yes (x := a / 2 ^ (i + 1)) (t := bt a i) h (bt_le a i) hb
  rw [bt_step a i, h1, h2]
  refine ⟨?_, rfl⟩
  rw [Nat.pow_succ]
  generalize a / (2 ^ i * 2) / b = q
  generalize 2 ^ i = p
  grind
theorem q_no {a b i : Nat} (h : 2 * rn a b (i + 1) + bt a i < b) : qn a b i = qn a b (i + 1) ∧ rn a b i = 2 * rn a b (i + 1) + bt a i := by
  unfold qn rn at *
  obtain ⟨h1, h2⟩ := two_div_no (x := a / 2 ^ (i + 1)) (t := bt a i) h
  rw [bt_step a i, h1, h2]
  refine ⟨?_, rfl⟩
  rw [Nat.pow_succ]
  generalize a / (2 ^ i * 2) / b = q
  generalize 2 ^ i = p
  grind
theorem q_start {a b l : Nat} (h : a < B ^ l) : qn a b (32 * l) = 0 ∧ rn a b (32 * l) = 0 := by
  unfold qn rn
  have : 2 ^ (32 * l) = B ^ l := by rw [B_two, ← Nat.pow_mul]
  rw [this, Nat.div_eq_of_lt h]; simp
theorem q_end (a b : Nat) : qn a b 0 = a / b ∧ rn a b 0 = a % b := by unfold qn rn; simp
/-- A bit that is not there, put in. -/
theorem or_bit (a b i : Nat) : lm (qn a b (i + 1)) (i / 32) ||| 2 ^ (i % 32) = lm (qn a b (i + 1)) (i / 32) + 2 ^ (i % 32) := by
  have hr : i % 32 < 32 := Nat.mod_lt _ (by decide)
  have hdiv : ∃ y, lm (qn a b (i + 1)) (i / 32) = 2 ^ (i % 32 + 1) * y := by
    unfold qn lm
    have e : 2 ^ (i + 1) = 2 ^ (i % 32 + 1) * B ^ (i / 32) := by rw [Nat.pow_succ, ← pow_bit i, Nat.pow_succ]; generalize B ^ (i / 32) = x; generalize 2 ^ (i % 32) = y; grind
    rw [e, ← Nat.mul_assoc, Nat.mul_div_cancel _ (pB _)]
    generalize a / (2 ^ (i % 32 + 1) * B ^ (i / 32)) / b = q
    generalize i % 32 = r at *
    have e2 : B = 2 ^ (r + 1) * 2 ^ (31 - r) := by rw [B_two, ← Nat.pow_add]; congr 1; omega
    rw [e2, Nat.mul_comm q, Nat.mul_mod_mul_left]
    exact ⟨_, rfl⟩
  obtain ⟨y, hy⟩ := hdiv
  rw [hy]
  exact (Nat.two_pow_add_eq_or_of_lt (Nat.pow_lt_pow_right (by decide) (by omega)) y).symm
theorem or_lt (a b i : Nat) : lm (qn a b (i + 1)) (i / 32) ||| 2 ^ (i % 32) < B := by
  rw [B_two]
  exact Nat.or_lt_two_pow (lm_lt _ _) (Nat.pow_lt_pow_right (by decide) (Nat.mod_lt _ (by decide)))
theorem set_bit {a b i : Nat} (h : b ≤ 2 * rn a b (i + 1) + bt a i) (hb : 0 < b) : setL (qn a b (i + 1)) (i / 32) (lm (qn a b (i + 1)) (i / 32) ||| 2 ^ (i % 32)) = qn a b i := by
  have s := set_eq (qn a b (i + 1)) (i / 32) (lm (qn a b (i + 1)) (i / 32) ||| 2 ^ (i % 32))
  rw [or_bit, Nat.mul_add, pow_bit] at s
  rw [or_bit, (q_yes h hb).1]
  omega
end Go.Proofs.YtclainfdeghgnaaGreatDoor.Lm

namespace Go.Proofs.YtclainfdeghgnaaGreatDoor
open Go.RowKit Go.Proofs.YtclainfdeghgnaaGreatDoor.Nm Go.Proofs.YtclainfdeghgnaaGreatDoor.Lm

/-- The first n cells behind A are the limbs of N. -/
def Lr (w : World) (A : Option Addr) (n N : Nat) : Prop := 0 < n → ∃ g, A = some ⟨g, 0, none⟩ ∧ g < w.heap.size ∧ ∀ j, j < n → w.cell? ⟨g, j, none⟩ = some (.int .u32 (lm N j))
theorem Lr.below {w w' : World} {A : Option Addr} {n N : Nat} (h : Lr w A n N) (hb : Below w.heap.size w w') : Lr w' A n N := fun hn => by
  obtain ⟨g, h1, h2, h3⟩ := h hn
  refine ⟨g, h1, Nat.lt_of_lt_of_le h2 hb.size, fun j hj => ?_⟩
  rw [hb.cell (p := ⟨g, j, none⟩) h2]; exact h3 j hj
theorem Lr.le {w : World} {A : Option Addr} {n m N : Nat} (h : Lr w A n N) (hm : m ≤ n) : Lr w A m N := fun hn => by
  obtain ⟨g, h1, h2, h3⟩ := h (by omega)
  exact ⟨g, h1, h2, fun j hj => h3 j (by omega)⟩
theorem Lr.at_ {w : World} {A : Option Addr} {n N k : Nat} (h : Lr w A n N) (hk : k < n) : ∃ g, A = some ⟨g, 0, none⟩ ∧ g < w.heap.size ∧ w.cell? ⟨g, k, none⟩ = some (.int .u32 (lm N k)) := by
  obtain ⟨g, h1, h2, h3⟩ := h (by omega)
  exact ⟨g, h1, h2, h3 k hk⟩
/-- .. and lie in no block below B0. -/
def LrB (B0 : Nat) (w : World) (A : Option Addr) (n N : Nat) : Prop := 0 < n → ∃ g, A = some ⟨g, 0, none⟩ ∧ B0 ≤ g ∧ g < w.heap.size ∧ ∀ j, j < n → w.cell? ⟨g, j, none⟩ = some (.int .u32 (lm N j))
theorem LrB.lr {B0 : Nat} {w : World} {A : Option Addr} {n N : Nat} (h : LrB B0 w A n N) : Lr w A n N := fun hn => by
  obtain ⟨g, h1, _, h2, h3⟩ := h hn
  exact ⟨g, h1, h2, h3⟩
theorem LrB.le {B0 : Nat} {w : World} {A : Option Addr} {n m N : Nat} (h : LrB B0 w A n N) (hm : m ≤ n) : LrB B0 w A m N := fun hn => by
  obtain ⟨g, h1, h0, h2, h3⟩ := h (by omega)
  exact ⟨g, h1, h0, h2, fun j hj => h3 j (by omega)⟩
theorem LrB.low {B0 B1 : Nat} {w : World} {A : Option Addr} {n N : Nat} (h : LrB B0 w A n N) (hm : B1 ≤ B0) : LrB B1 w A n N := fun hn => by
  obtain ⟨g, h1, h0, h2, h3⟩ := h hn
  exact ⟨g, h1, by omega, h2, h3⟩
theorem LrB.below {B0 : Nat} {w w' : World} {A : Option Addr} {n N : Nat} (h : LrB B0 w A n N) (hb : Below w.heap.size w w') : LrB B0 w' A n N := fun hn => by
  obtain ⟨g, h1, h0, h2, h3⟩ := h hn
  refine ⟨g, h1, h0, Nat.lt_of_lt_of_le h2 hb.size, fun j hj => ?_⟩
  rw [hb.cell (p := ⟨g, j, none⟩) h2]; exact h3 j hj
theorem LrB.setCell {B0 : Nat} {w : World} {A : Option Addr} {n N : Nat} (h : LrB B0 w A n N) {p : Addr} (hp : p.block < B0) (v : Value) : LrB B0 (w.setCell p v) A n N := fun hn => by
  obtain ⟨g, h1, h0, h2, h3⟩ := h hn
  refine ⟨g, h1, h0, by simpa using h2, fun j hj => ?_⟩
  rw [World.cell?_setCell_other w p ⟨g, j, none⟩ v (fun e => by subst e; simp at hp; omega)]; exact h3 j hj
theorem u82 : Tryz.prog.underlying 39 = some (.slice 113) := by kernel_rfl
theorem info121 : (Tryz.prog.info? 113).map (fun i => (i.zero, i.size, i.bytes)) = some (some (.int .u32 0), 1, 4) := by kernel_rfl
set_option maxHeartbeats 400000 in
theorem trim_any (A : Option Addr) (n c N : Nat) (w : World) (h : Lr w A n N) (hN : N < B ^ n) (hc : n ≤ c) (hn : n ≤ 1000) :
    Calls Tryz.prog 78 #[.slice A n c] w fun e w' => e = .returned (.slice A (nl N) c) ∧ w = w' := by
  have hle := nl_le N n hN
  have HN := Lib.hid hN
  have HL := Lib.hid h
  clear hN h
  go_enter Tryz.func78, Tryz.ntmps78
  go_wp2
  go_loop [0] (fun v => ∃ k : Nat, nl N ≤ k ∧ k ≤ n ∧ v = .slice A k c) (fun v => match v with | .slice _ k _ => k | _ => 0)
  case atStart => exact ⟨n, hle, Nat.le_refl _, rfl⟩
  case round =>
    obtain ⟨k, hk1, hk2, rfl⟩ := hrel
    rcases k with _ | j
    · have e0 : nl N = 0 := by omega
      have E0 := Lib.hid e0
      clear e0
      go_wp2
      go_ret
      rw [E0.out]
      exact ⟨rfl, rfl⟩
    · obtain ⟨g, rfl, hg, hcell⟩ := HL.out.at_ (k := j) (by omega)
      by_cases h0 : lm N j = 0
      · have hlt : nl N ≤ j := by
          rcases Nat.lt_or_ge j (nl N) with h1 | h1
          · exfalso
            have h2 : nl N = j + 1 := by omega
            have h3 := nl_top (n := N) (by intro e; rw [e, nl_zero] at h2; omega)
            rw [h2] at h3
            exact h3 h0
          · exact h1
        rw [h0] at hcell
        go_wp2
        go_round
        case rel => exact ⟨j, hlt, by omega, rfl⟩
        case measure => simp
      · have e0 : nl N = j + 1 := (nl_eq (k := j + 1) (by
            have := nl_spec N
            exact Nat.lt_of_lt_of_le this (Nat.pow_le_pow_right B_pos hk1)) (Or.inr h0)).symm
        have E0 := Lib.hid e0
        clear e0
        have h0' : ¬ ((lm N j : Int) = 0) := by omega
        go_wp2
        go_ret
        rw [E0.out]
        exact ⟨rfl, rfl⟩
end Go.Proofs.YtclainfdeghgnaaGreatDoor

namespace Go.Proofs.YtclainfdeghgnaaGreatDoor
open Go.RowKit Go.Proofs.YtclainfdeghgnaaGreatDoor.Nm Go.Proofs.YtclainfdeghgnaaGreatDoor.Lm

/-- Limbs as cells. -/
def lrow (N n : Nat) : List Value := (List.range n).map fun i => .int .u32 (lm N i)
theorem lrow_succ (N n : Nat) : lrow N n ++ [.int .u32 (lm N n)] = lrow N (n + 1) := by unfold lrow; rw [List.range_succ]; simp
theorem wrap32 (t : Nat) : IntKind.u32.wrap (t : Int) = ((t % B : Nat) : Int) := by
  rw [B_eq]; unfold IntKind.wrap; simp [IntKind.signed, IntKind.bits]
theorem run_bs82 (w : World) (z : Int) : (Instr.buildSlice 39 1 #[(0, .int .u32 z)]).run Tryz.prog w = .ok (.slice (some ⟨w.heap.size, 0, none⟩) 1 1) (w.alloc (.cells #[.int .u32 z] 113)) := by kernel_rfl
theorem ex_bs82 {ev : Operand → Value} {o : Oper} {w : World} (x : Operand) (ho : o.op = .buildSlice 39 1 #[(0, x)]) {z : Int} (hx : ev x = .int .u32 z) :
    (execOp ev o).run Tryz.prog w = .ok (.value (.slice (some ⟨w.heap.size, 0, none⟩) 1 1)) (w.alloc (.cells #[.int .u32 z] 113)) := by
  unfold execOp
  have := run_bs82 w z
  simp [ho, hx, this, Result.andThen]
/-- One more limb behind a row of the call's own. -/
theorem wl_push {ops : Array Oper} {rest : List Oper} {a : Act} {w w0 : World} {Q : Exit → Act → World → Prop} {d1 d2 : Option Tmp} {ty1 ty2 : TypeId} {p1 p2 : String} {f1 f2 : Array Edge} {x s t : Operand} {v : Value} {N k : Nat}
    (hx : a.eval x = .int .u32 (lm N k)) (hown : w.ownsRow w0.heap.size 113 1 v k (lrow N k)) (hb : Below w0.heap.size w0 w) (hk : k ≤ 4000) (hs : ∀ u, (a.put d1 u).eval s = v) (ht : ∀ u, (a.put d1 u).eval t = u)
    (h : ∀ v' w', w'.ownsRow w0.heap.size 113 1 v' (k + 1) (lrow N (k + 1)) → Below w0.heap.size w0 w' → wpList Tryz.prog ops Q rest ((a.put d1 (.slice (some ⟨w.heap.size, 0, none⟩) 1 1)).put d2 v') w') :
    wpList Tryz.prog ops Q (⟨d1, .buildSlice 39 1 #[(0, x)], ty1, p1, f1, none⟩ :: ⟨d2, .call { callee := .builtin .append, args := #[s, t], argTypes := #[39, 39] }, ty2, p2, f2, none⟩ :: rest) a w := by
  obtain ⟨i0, hi, hz0, hz1, hz2⟩ := info_parts info121
  refine wl_w rfl (ex_bs82 _ rfl hx) ?_
  refine wpList_append_own _ rfl s t 39 rfl w0.heap.size 113 i0 _ 1 4 u82 hi hz0 hz1 hz2 rfl (by decide) v k (lrow N k) (hs _) (hown.alloc _) ⟨w.heap.size, 0, none⟩ 1 1 [.int .u32 (lm N k)] (ht _) rfl ?_ ?_ ?_ ?_ ?_ ?_
  · intro j u hj
    rw [show (Addr.add ⟨w.heap.size, 0, none⟩ j) = ⟨w.heap.size, j, none⟩ by simp [Addr.add]; exact fun h => h.symm, cell_of_row _ _ _ _ _ _ (ha_new rfl)]
    simpa using hj
  · intro u hu
    simp at hu; subst hu; rfl
  · unfold maxLen; omega
  · omega
  · have := hb.size; simp; omega
  · intro v' w4 hown' hgrow _
    rw [lrow_succ] at hown'
    exact h v' w4 hown' ((hb.alloc hb.size _).grown hgrow (by have := hb.size; simp; omega) (fun k hk => (hown.lt k hk).1))
theorem own_lr {w : World} {B0 k N : Nat} {v : Value} (h : w.ownsRow B0 113 1 v k (lrow N k)) (hk : 0 < k) : ∃ g cap, v = .slice (some ⟨g, 0, none⟩) k cap ∧ LrB B0 w (some ⟨g, 0, none⟩) k N ∧ k ≤ cap := by
  rcases h.2 with ⟨_, h0⟩ | ⟨g, cap, cur, hv, hB, hg, h1, _, h3, h4⟩
  · omega
  · refine ⟨g, cap, hv, fun _ => ⟨g, rfl, hB, heap_lt hg, fun j hj => ?_⟩, h1⟩
    rw [cell_of_row _ _ _ _ _ _ hg]
    have : (lrow N k)[j]? = some (.int .u32 (lm N j)) := by unfold lrow; simp [hj]
    rw [← h4, Nat.mul_one, List.getElem?_take_of_lt hj] at this
    simpa using this
set_option maxHeartbeats 2000000 in
set_option maxRecDepth 100000 in
theorem plus_any (A A' : Option Addr) (n n' c c' a b : Nat) (w : World) (ha : Lr w A n a) (hb : Lr w A' n' b) (la : a < B ^ n) (lb : b < B ^ n') (hn : n ≤ 900) (hn' : n' ≤ 900) :
    Calls Tryz.prog 74 #[.slice A n c, .slice A' n' c'] w fun e w' => ∃ A2 c2, e = .returned (.slice A2 (nl (a + b)) c2) ∧ nl (a + b) ≤ c2 ∧ LrB w.heap.size w' A2 (nl (a + b)) (a + b) ∧ Below w.heap.size w w' := by
  obtain ⟨i0, hi, hz0, hz1, hz2⟩ := info_parts info121
  have HA := Lib.hid ha
  have HB := Lib.hid hb
  have LA := Lib.hid la
  have LB := Lib.hid lb
  clear ha hb la lb
  go_enter Tryz.func74, Tryz.ntmps74
  go_wp2_with fail
  go_loopw [5, 6, 7] (fun v cr i wr => ∃ k : Nat, k ≤ n + n' ∧ (k = 0 ∨ k ≤ n ∨ k ≤ n') ∧ i = .int .i64 (k : Int) ∧ cr = .int .u64 ((cyL a b k : Nat) : Int) ∧ wr.ownsRow w.heap.size 113 1 v k (lrow (a + b) k) ∧ Below w.heap.size w wr) (fun _ _ i _ => (n + n' - intOf i).toNat)
  case atStart => exact ⟨0, by omega, Or.inl rfl, rfl, by rw [cyL_zero]; rfl, ⟨rfl, Or.inl ⟨rfl, rfl⟩⟩, Below.refl _ _⟩
  case round =>
    obtain ⟨k, hk1, hk2, rfl, rfl, hown, hbl⟩ := hrel
    obtain ⟨cr, hcr⟩ : ∃ cr, cr = cyL a b k := ⟨_, rfl⟩
    have hc1 : cr ≤ 1 := by rw [hcr]; exact cyL_le a b k
    rw [← hcr]
    by_cases ka : k < n
    · obtain ⟨g, rfl, hg, ca⟩ := HA.out.at_ ka
      have ca' := (hbl.cell (p := ⟨g, k, none⟩) hg).trans ca
      have hx := lm_32 a k
      obtain ⟨x, ex⟩ : ∃ x, x = lm a k := ⟨_, rfl⟩
      rw [← ex] at ca' hx
      by_cases kb : k < n'
      · obtain ⟨g', rfl, hg', cb⟩ := HB.out.at_ kb
        have cb' := (hbl.cell (p := ⟨g', k, none⟩) hg').trans cb
        clear ca cb
        have hy := lm_32 b k
        obtain ⟨y, ey⟩ : ∃ y, y = lm b k := ⟨_, rfl⟩
        rw [← ey] at cb' hy
        have HE := Lib.hid (And.intro hcr (And.intro ex ey))
        clear hcr ex ey
        have HO := Lib.hid hown
        have HBL := Lib.hid hbl
        clear hown hbl
        go_upto_region 10 with (fail)
        apply wp_region_lit
        refine wl_k rfl (fun K hK => ?_); go_simp; refine hK _ ?_; clear hK K
        refine wl_k rfl (fun K hK => ?_); go_simp; refine hK _ ?_; clear hK K
        refine wl_k rfl (fun K hK => ?_); go_simp; refine hK _ ?_; clear hK K
        refine wl_push (N := a + b) (k := k) ?_ HO.out HBL.out (by omega) (fun _ => rfl) (fun _ => rfl) ?_
        · show Value.int IntKind.u32 (IntKind.u32.wrap _) = _
          rw [← add_modB, ← HE.out.1, ← HE.out.2.1, ← HE.out.2.2, ← wrap32]; congr 2; omega
        intro v' w2 hown2 hb2
        clear HO HBL
        have HO := Lib.hid hown2
        have HBL := Lib.hid hb2
        clear hown2 hb2
        simp only [put_lit, List.set_cons_zero, List.set_cons_succ]
        go_wp2_with fail
        go_roundw
        case rel =>
          refine ⟨k + 1, by omega, by omega, by go_num, ?_, HO.out, HBL.out⟩
          rw [← add_divB, ← HE.out.1, ← HE.out.2.1, ← HE.out.2.2, B_eq]
          congr 1
          omega
        case measure => simp [intOf]; omega
      · have HE := Lib.hid (And.intro hcr (And.intro ex (lm_of_le LB.out (Nat.le_of_not_lt kb))))
        clear hcr ex ca
        have HO := Lib.hid hown
        have HBL := Lib.hid hbl
        clear hown hbl
        go_upto_region 10 with (fail)
        apply wp_region_lit
        refine wl_k rfl (fun K hK => ?_); go_simp; refine hK _ ?_; clear hK K
        refine wl_k rfl (fun K hK => ?_); go_simp; refine hK _ ?_; clear hK K
        refine wl_k rfl (fun K hK => ?_); go_simp; refine hK _ ?_; clear hK K
        refine wl_push (N := a + b) (k := k) ?_ HO.out HBL.out (by omega) (fun _ => rfl) (fun _ => rfl) ?_
        · show Value.int IntKind.u32 (IntKind.u32.wrap _) = _
          rw [← add_modB, ← HE.out.1, ← HE.out.2.1, HE.out.2.2, ← wrap32]; congr 2; omega
        intro v' w2 hown2 hb2
        clear HO HBL
        have HO := Lib.hid hown2
        have HBL := Lib.hid hb2
        clear hown2 hb2
        simp only [put_lit, List.set_cons_zero, List.set_cons_succ]
        go_wp2_with fail
        go_roundw
        case rel =>
          refine ⟨k + 1, by omega, by omega, by go_num, ?_, HO.out, HBL.out⟩
          rw [← add_divB, ← HE.out.1, ← HE.out.2.1, HE.out.2.2, B_eq]
          congr 1
          omega
        case measure => simp [intOf]; omega
    · by_cases kb : k < n'
      · obtain ⟨g', rfl, hg', cb⟩ := HB.out.at_ kb
        have cb' := (hbl.cell (p := ⟨g', k, none⟩) hg').trans cb
        clear cb
        have hy := lm_32 b k
        obtain ⟨y, ey⟩ : ∃ y, y = lm b k := ⟨_, rfl⟩
        rw [← ey] at cb' hy
        have HE := Lib.hid (And.intro hcr (And.intro ey (lm_of_le LA.out (Nat.le_of_not_lt ka))))
        clear hcr ey
        have HO := Lib.hid hown
        have HBL := Lib.hid hbl
        clear hown hbl
        go_upto_region 10 with (fail)
        apply wp_region_lit
        refine wl_k rfl (fun K hK => ?_); go_simp; refine hK _ ?_; clear hK K
        refine wl_k rfl (fun K hK => ?_); go_simp; refine hK _ ?_; clear hK K
        refine wl_k rfl (fun K hK => ?_); go_simp; refine hK _ ?_; clear hK K
        refine wl_push (N := a + b) (k := k) ?_ HO.out HBL.out (by omega) (fun _ => rfl) (fun _ => rfl) ?_
        · show Value.int IntKind.u32 (IntKind.u32.wrap _) = _
          rw [← add_modB, ← HE.out.1, ← HE.out.2.1, HE.out.2.2, ← wrap32]; congr 2; omega
        intro v' w2 hown2 hb2
        clear HO HBL
        have HO := Lib.hid hown2
        have HBL := Lib.hid hb2
        clear hown2 hb2
        simp only [put_lit, List.set_cons_zero, List.set_cons_succ]
        go_wp2_with fail
        go_roundw
        case rel =>
          refine ⟨k + 1, by omega, by omega, by go_num, ?_, HO.out, HBL.out⟩
          rw [← add_divB, ← HE.out.1, ← HE.out.2.1, HE.out.2.2, B_eq]
          congr 1
          omega
        case measure => simp [intOf]; omega
      · have hct := cyL_top (Nat.lt_of_lt_of_le LA.out (Nat.pow_le_pow_right B_pos (Nat.le_of_not_lt ka))) (Nat.lt_of_lt_of_le LB.out (Nat.pow_le_pow_right B_pos (Nat.le_of_not_lt kb)))
        rw [← hcr] at hct
        have HE := Lib.hid hct
        clear hct hcr
        have HO := Lib.hid hown
        have HBL := Lib.hid hbl
        clear hown hbl
        go_upto_region 12 with (fail)
        apply wp_region_lit
        refine wl_k rfl (fun K hK => ?_); go_simp; refine hK _ ?_; clear hK K
        refine wl_k rfl (fun K hK => ?_); go_simp; refine hK _ ?_; clear hK K
        refine wl_k rfl (fun K hK => ?_); go_simp; refine hK _ ?_; clear hK K
        refine wl_push (N := a + b) (k := k) ?_ HO.out HBL.out (by omega) (fun _ => rfl) (fun _ => rfl) ?_
        · show Value.int IntKind.u32 (IntKind.u32.wrap _) = _
          rw [← HE.out.1, wrap32, Nat.mod_eq_of_lt (by rw [B_eq]; omega)]
        intro v' w2 hown2 hb2
        clear HO HBL
        obtain ⟨g2, c2, rfl, hl2, hc2⟩ := own_lr hown2 (by omega)
        clear hown2
        have HL := Lib.hid hl2
        have HBL := Lib.hid hb2
        clear hl2 hb2
        simp only [put_lit, List.set_cons_zero, List.set_cons_succ]
        refine wl_ck rfl (fun K hK => ?_); go_simp; refine ⟨_, _, ⟨rfl, rfl⟩, hK _ _ ⟨_, trim_any _ (k + 1) c2 (a + b) _ HL.out.lr HE.out.2 hc2 (by omega), ?_⟩⟩; clear hK K; rintro e w3 ⟨rfl, rfl⟩; refine ⟨_, rfl, ?_⟩; simp only [put_lit, List.set_cons_zero, List.set_cons_succ]
        go_wp2_with fail
        go_ret
        have hle := nl_le _ _ HE.out.2
        exact ⟨_, _, rfl, by omega, HL.out.le hle, HBL.out⟩
end Go.Proofs.YtclainfdeghgnaaGreatDoor

namespace Go.Proofs.YtclainfdeghgnaaGreatDoor
open Go.RowKit Go.Proofs.YtclainfdeghgnaaGreatDoor.Nm Go.Proofs.YtclainfdeghgnaaGreatDoor.Lm

theorem wrap_nat {z : Int} {t : Nat} (h : z = t) (ht : t < B) : IntKind.u32.wrap z = (t : Int) := by rw [h, wrap32, Nat.mod_eq_of_lt ht]
theorem u64_in {z : Int} (h0 : 0 ≤ z) (h1 : z < 18446744073709551616) : IntKind.u64.wrap z = z := by
  unfold IntKind.wrap; simp [IntKind.signed, IntKind.bits]; omega
theorem own_lr0 {w : World} {B0 k N : Nat} {v : Value} (h : w.ownsRow B0 113 1 v k (lrow N k)) : ∃ A cap, v = .slice A k cap ∧ LrB B0 w A k N ∧ k ≤ cap := by
  rcases Nat.eq_zero_or_pos k with h0 | h0
  · subst h0
    rcases h.2 with ⟨hv, _⟩ | ⟨g, cap, _, hv, _⟩
    · exact ⟨none, 0, hv, fun h => absurd h (by omega), by omega⟩
    · exact ⟨_, cap, hv, fun h => absurd h (by omega), by omega⟩
  · obtain ⟨g, cap, hv, hl, hc⟩ := own_lr h h0
    exact ⟨_, cap, hv, hl, hc⟩
set_option maxHeartbeats 2000000 in
set_option maxRecDepth 100000 in
theorem less_any (A A' : Option Addr) (n n' c c' a b : Nat) (w : World) (ha : Lr w A n a) (hb : Lr w A' n' b) (la : a < B ^ n) (lb : b < B ^ n') (hn : n ≤ 900) (hab : b ≤ a) :
    Calls Tryz.prog 76 #[.slice A n c, .slice A' n' c'] w fun e w' => ∃ A2 c2, e = .returned (.slice A2 (nl (a - b)) c2) ∧ nl (a - b) ≤ c2 ∧ LrB w.heap.size w' A2 (nl (a - b)) (a - b) ∧ Below w.heap.size w w' := by
  have HA := Lib.hid ha
  have HB := Lib.hid hb
  have LA := Lib.hid la
  have LB := Lib.hid lb
  have HAB := Lib.hid hab
  clear ha hb la lb hab
  go_enter Tryz.func76, Tryz.ntmps76
  go_wp2_with fail
  go_loopw [5, 6, 7] (fun v cr i wr => ∃ k : Nat, k ≤ n ∧ i = .int .i64 (k : Int) ∧ cr = .int .u64 ((bwL a b k : Nat) : Int) ∧ wr.ownsRow w.heap.size 113 1 v k (lrow (a - b) k) ∧ Below w.heap.size w wr) (fun _ _ i _ => (n - intOf i).toNat)
  case atStart => exact ⟨0, by omega, rfl, by rw [bwL_zero]; rfl, ⟨rfl, Or.inl ⟨rfl, rfl⟩⟩, Below.refl _ _⟩
  case round =>
    obtain ⟨k, hk1, rfl, rfl, hown, hbl⟩ := hrel
    obtain ⟨cr, hcr⟩ : ∃ cr, cr = bwL a b k := ⟨_, rfl⟩
    have hc1 : cr ≤ 1 := by rw [hcr]; exact bwL_le a b k
    rw [← hcr]
    by_cases ka : k < n
    · obtain ⟨g, rfl, hg, ca⟩ := HA.out.at_ ka
      have ca' := (hbl.cell (p := ⟨g, k, none⟩) hg).trans ca
      clear ca
      have slo := sub_lo HAB.out k
      have shi := sub_hi HAB.out k
      rw [← hcr] at slo shi
      have hx := lm_32 a k
      obtain ⟨x, ex⟩ : ∃ x, x = lm a k := ⟨_, rfl⟩
      rw [← ex] at ca' hx slo shi
      have HO := Lib.hid hown
      have HBL := Lib.hid hbl
      clear hown hcr ex
      by_cases kb : k < n'
      · obtain ⟨g', rfl, hg', cb⟩ := HB.out.at_ kb
        have cb' := (hbl.cell (p := ⟨g', k, none⟩) hg').trans cb
        clear cb hbl
        have hy := lm_32 b k
        obtain ⟨y, ey⟩ : ∃ y, y = lm b k := ⟨_, rfl⟩
        rw [← ey] at cb' hy slo shi
        clear ey
        by_cases hlt : x < cr + y
        · have HQ := Lib.hid (slo hlt)
          clear slo shi
          have hlt' : (x : Int) < (cr : Int) + (y : Int) := by omega
          clear hlt
          go_upto_region 14 with (fail)
          apply wp_region_lit
          refine wl_k rfl (fun K hK => ?_); go_simp; refine hK _ ?_; clear hK K
          refine wl_k rfl (fun K hK => ?_); go_simp; refine hK _ ?_; clear hK K
          refine wl_k rfl (fun K hK => ?_); go_simp; refine hK _ ?_; clear hK K
          refine wl_k rfl (fun K hK => ?_); go_simp; refine hK _ ?_; clear hK K
          refine wl_k rfl (fun K hK => ?_); go_simp; refine hK _ ?_; clear hK K
          refine wl_push (N := a - b) (k := k) ?_ HO.out HBL.out (by omega) (fun _ => rfl) (fun _ => rfl) ?_
          · show Value.int IntKind.u32 (IntKind.u32.wrap _) = _
            rw [HQ.out.2]
            exact congrArg _ (wrap_nat (by have hB := B_eq; first | omega | (rw [u64_in (by omega) (by omega)]; omega)) (by rw [← HQ.out.2]; exact lm_lt _ _))
          intro v' w2 hown2 hb2
          clear HO HBL
          have HO := Lib.hid hown2
          have HBL := Lib.hid hb2
          clear hown2 hb2
          simp only [put_lit, List.set_cons_zero, List.set_cons_succ]
          go_wp2_with fail
          go_roundw
          case rel =>
            refine ⟨k + 1, by omega, by go_num, ?_, HO.out, HBL.out⟩
            rw [HQ.out.1]
            rfl
          case measure => simp [intOf]; omega
        · have HQ := Lib.hid (shi (by omega))
          clear slo shi
          have hlt' : ¬ (x : Int) < (cr : Int) + (y : Int) := by omega
          clear hlt
          go_upto_region 14 with (fail)
          apply wp_region_lit
          refine wl_k rfl (fun K hK => ?_); go_simp; refine hK _ ?_; clear hK K
          refine wl_k rfl (fun K hK => ?_); go_simp; refine hK _ ?_; clear hK K
          refine wl_k rfl (fun K hK => ?_); go_simp; refine hK _ ?_; clear hK K
          refine wl_k rfl (fun K hK => ?_); go_simp; refine hK _ ?_; clear hK K
          refine wl_k rfl (fun K hK => ?_); go_simp; refine hK _ ?_; clear hK K
          refine wl_push (N := a - b) (k := k) ?_ HO.out HBL.out (by omega) (fun _ => rfl) (fun _ => rfl) ?_
          · show Value.int IntKind.u32 (IntKind.u32.wrap _) = _
            rw [HQ.out.2]
            exact congrArg _ (wrap_nat (by have hB := B_eq; first | omega | (rw [u64_in (by omega) (by omega)]; omega)) (by rw [← HQ.out.2]; exact lm_lt _ _))
          intro v' w2 hown2 hb2
          clear HO HBL
          have HO := Lib.hid hown2
          have HBL := Lib.hid hb2
          clear hown2 hb2
          simp only [put_lit, List.set_cons_zero, List.set_cons_succ]
          go_wp2_with fail
          go_roundw
          case rel =>
            refine ⟨k + 1, by omega, by go_num, ?_, HO.out, HBL.out⟩
            rw [HQ.out.1]
            rfl
          case measure => simp [intOf]; omega
      · have ey := lm_of_le LB.out (Nat.le_of_not_lt kb)
        rw [ey] at slo shi
        clear ey hbl
        by_cases hlt : x < cr
        · have HQ := Lib.hid (slo (by omega))
          clear slo shi
          go_upto_region 14 with (fail)
          apply wp_region_lit
          refine wl_k rfl (fun K hK => ?_); go_simp; refine hK _ ?_; clear hK K
          refine wl_k rfl (fun K hK => ?_); go_simp; refine hK _ ?_; clear hK K
          refine wl_k rfl (fun K hK => ?_); go_simp; refine hK _ ?_; clear hK K
          refine wl_k rfl (fun K hK => ?_); go_simp; refine hK _ ?_; clear hK K
          refine wl_k rfl (fun K hK => ?_); go_simp; refine hK _ ?_; clear hK K
          refine wl_push (N := a - b) (k := k) ?_ HO.out HBL.out (by omega) (fun _ => rfl) (fun _ => rfl) ?_
          · show Value.int IntKind.u32 (IntKind.u32.wrap _) = _
            rw [HQ.out.2]
            exact congrArg _ (wrap_nat (by have hB := B_eq; first | omega | (rw [u64_in (by omega) (by omega)]; omega)) (by rw [← HQ.out.2]; exact lm_lt _ _))
          intro v' w2 hown2 hb2
          clear HO HBL
          have HO := Lib.hid hown2
          have HBL := Lib.hid hb2
          clear hown2 hb2
          simp only [put_lit, List.set_cons_zero, List.set_cons_succ]
          go_wp2_with fail
          go_roundw
          case rel =>
            refine ⟨k + 1, by omega, by go_num, ?_, HO.out, HBL.out⟩
            rw [HQ.out.1]
            rfl
          case measure => simp [intOf]; omega
        · have HQ := Lib.hid (shi (by omega))
          clear slo shi
          go_upto_region 14 with (fail)
          apply wp_region_lit
          refine wl_k rfl (fun K hK => ?_); go_simp; refine hK _ ?_; clear hK K
          refine wl_k rfl (fun K hK => ?_); go_simp; refine hK _ ?_; clear hK K
          refine wl_k rfl (fun K hK => ?_); go_simp; refine hK _ ?_; clear hK K
          refine wl_k rfl (fun K hK => ?_); go_simp; refine hK _ ?_; clear hK K
          refine wl_k rfl (fun K hK => ?_); go_simp; refine hK _ ?_; clear hK K
          refine wl_push (N := a - b) (k := k) ?_ HO.out HBL.out (by omega) (fun _ => rfl) (fun _ => rfl) ?_
          · show Value.int IntKind.u32 (IntKind.u32.wrap _) = _
            rw [HQ.out.2]
            exact congrArg _ (wrap_nat (by have hB := B_eq; first | omega | (rw [u64_in (by omega) (by omega)]; omega)) (by rw [← HQ.out.2]; exact lm_lt _ _))
          intro v' w2 hown2 hb2
          clear HO HBL
          have HO := Lib.hid hown2
          have HBL := Lib.hid hb2
          clear hown2 hb2
          simp only [put_lit, List.set_cons_zero, List.set_cons_succ]
          go_wp2_with fail
          go_roundw
          case rel =>
            refine ⟨k + 1, by omega, by go_num, ?_, HO.out, HBL.out⟩
            rw [HQ.out.1]
            rfl
          case measure => simp [intOf]; omega
    · obtain rfl : k = n := by omega
      obtain ⟨A2, c2, rfl, hl2, hc2⟩ := own_lr0 hown
      have HL := Lib.hid hl2
      have HBL := Lib.hid hbl
      have hlt : a - b < B ^ k := Nat.lt_of_le_of_lt (Nat.sub_le _ _) LA.out
      have HLT := Lib.hid hlt
      clear hl2 hown hbl hlt hcr
      go_wp2_with (go_at_call 78; refine (trim_any _ k c2 (a - b) _ HL.out.lr HLT.out hc2 (by omega)).mono ?_)
      rintro e w3 ⟨rfl, rfl⟩
      go_wp2_with fail
      go_ret
      have hle := nl_le _ _ HLT.out
      exact ⟨_, _, rfl, by omega, HL.out.le hle, HBL.out⟩

theorem cmpN_lt {a b : Nat} (h : a < b) : cmpN a b = -1 := by unfold cmpN; rw [if_pos h]
theorem cmpN_gt {a b : Nat} (h : b < a) : cmpN a b = 1 := by unfold cmpN; rw [if_neg (by omega), if_pos h]
theorem cmpN_eq (a : Nat) : cmpN a a = 0 := by unfold cmpN; rw [if_neg (by omega), if_neg (by omega)]
theorem div_top {a n : Nat} (h : a < B ^ n) : a / B ^ n = 0 := Nat.div_eq_of_lt h
set_option maxHeartbeats 2000000 in
set_option maxRecDepth 100000 in
theorem compare_ne (A A' : Option Addr) (c c' a b : Nat) (w : World) (hne : ¬ nl a = nl b) (R : Int) (HR : Hid (cmpN a b = R)) :
    Calls Tryz.prog 75 #[.slice A (nl a) c, .slice A' (nl b) c'] w fun e w' => e = .returned (.int .i64 R) ∧ Below w.heap.size w w' := by
  obtain ⟨n, hn⟩ : ∃ n, n = nl a := ⟨_, rfl⟩
  obtain ⟨n', hn'⟩ : ∃ n', n' = nl b := ⟨_, rfl⟩
  rw [← hn] at hne ⊢
  rw [← hn'] at hne ⊢
  by_cases hlt : n < n'
  · have e := cmpN_lt (lt_of_nl (a := a) (b := b) (by omega))
    rw [HR.out] at e
    subst e
    clear hn hn'
    go_enter Tryz.func75, Tryz.ntmps75
    go_wp2_with fail
    go_ret
    exact ⟨rfl, Below.refl _ _⟩
  · have e := cmpN_gt (lt_of_nl (a := b) (b := a) (by omega))
    rw [HR.out] at e
    subst e
    clear hn hn'
    go_enter Tryz.func75, Tryz.ntmps75
    go_wp2_with fail
    go_ret
    exact ⟨rfl, Below.refl _ _⟩
set_option maxHeartbeats 2000000 in
set_option maxRecDepth 100000 in
theorem compare_same (A A' : Option Addr) (n c c' a b : Nat) (w : World) (ha : Lr w A n a) (hb : Lr w A' n b) (la : a < B ^ n) (lb : b < B ^ n) (hn : n ≤ 900) (R : Int) (HR : Hid (cmpN a b = R)) :
    Calls Tryz.prog 75 #[.slice A n c, .slice A' n c'] w fun e w' => e = .returned (.int .i64 R) ∧ Below w.heap.size w w' := by
  have HA := Lib.hid ha
  have HB := Lib.hid hb
  have HT := Lib.hid ((div_top la).trans (div_top lb).symm)
  clear ha hb la lb
  go_enter Tryz.func75, Tryz.ntmps75
  go_wp2_with fail
  go_loopw [5] (fun i wr => ∃ k : Nat, k ≤ n ∧ i = .int .i64 ((k : Int) - 1) ∧ Hid (a / B ^ k = b / B ^ k) ∧ Below w.heap.size w wr) (fun i _ => (intOf i + 1).toNat)
  case atStart => exact ⟨n, by omega, rfl, HT, Below.refl _ _⟩
  case round =>
    obtain ⟨k, hk1, rfl, HE, hbl⟩ := hrel
    rcases k with _ | j
    · have e : a = b := by have := HE.out; simpa using this
      subst e
      have e := cmpN_eq a
      rw [HR.out] at e
      subst e
      go_wp2_with fail
      go_ret
      exact ⟨rfl, hbl⟩
    · obtain ⟨g, rfl, hg, ca⟩ := HA.out.at_ (k := j) (by omega)
      obtain ⟨g', rfl, hg', cb⟩ := HB.out.at_ (k := j) (by omega)
      have ca' := (hbl.cell (p := ⟨g, j, none⟩) hg).trans ca
      have cb' := (hbl.cell (p := ⟨g', j, none⟩) hg').trans cb
      rw [show ((j + 1 : Nat) : Int) - 1 = (j : Int) by omega]
      have jl : j < n := by omega
      have h1 := lt_of_lm HE.out
      have h2 := lt_of_lm HE.out.symm
      have h3 := high_eq HE.out
      obtain ⟨x, ex⟩ : ∃ x, x = lm a j := ⟨_, rfl⟩
      obtain ⟨y, ey⟩ : ∃ y, y = lm b j := ⟨_, rfl⟩
      rw [← ex] at ca' h1 h2 h3
      rw [← ey] at cb' h1 h2 h3
      clear ca cb ex ey HT HE
      by_cases hlt : x < y
      · have e := cmpN_lt (h1 hlt)
        rw [HR.out] at e
        subst e
        clear h1 h2 h3
        have hlt' : (x : Int) < (y : Int) := by omega
        go_wp2_with fail
        go_quiet (fail)
        go_wp2_with fail
        go_ret
        exact ⟨rfl, hbl.trans ⟨rfl, rfl, rfl, Nat.le_refl _, fun _ _ => rfl⟩⟩
      · by_cases hgt : y < x
        · have e := cmpN_gt (h2 hgt)
          rw [HR.out] at e
          subst e
          clear h1 h2 h3
          have hlt' : ¬ (x : Int) < (y : Int) := by omega
          have hgt' : (y : Int) < (x : Int) := by omega
          go_wp2_with fail
          go_quiet (fail)
          go_wp2_with fail
          go_quiet (fail)
          go_wp2_with fail
          go_ret
          exact ⟨rfl, hbl.trans ⟨rfl, rfl, rfl, Nat.le_refl _, fun _ _ => rfl⟩⟩
        · obtain rfl : x = y := by omega
          have HE := Lib.hid (h3 rfl)
          clear h1 h2 h3 hlt hgt
          have hlt' : ¬ (x : Int) < (x : Int) := by omega
          go_wp2_with fail
          go_quiet (fail)
          go_wp2_with fail
          go_quiet (fail)
          go_wp2_with fail
          go_roundw
          case rel => exact ⟨j, by omega, rfl, HE, hbl.trans ⟨rfl, rfl, rfl, Nat.le_refl _, fun _ _ => rfl⟩⟩
          case measure => simp [intOf]
theorem compareN_any (A A' : Option Addr) (c c' a b : Nat) (w : World) (ha : Lr w A (nl a) a) (hb : Lr w A' (nl b) b) (hna : nl a ≤ 900) :
    Calls Tryz.prog 75 #[.slice A (nl a) c, .slice A' (nl b) c'] w fun e w' => e = .returned (.int .i64 (cmpN a b)) ∧ Below w.heap.size w w' := by
  by_cases h : nl a = nl b
  · have lb := nl_spec b
    rw [← h] at hb lb ⊢
    exact compare_same A A' (nl a) c c' a b w ha hb (nl_spec a) lb hna _ (Lib.hid rfl)
  · exact compare_ne A A' c c' a b w h _ (Lib.hid rfl)
end Go.Proofs.YtclainfdeghgnaaGreatDoor

namespace Go.Proofs.YtclainfdeghgnaaGreatDoor
open Go.RowKit Go.Proofs.YtclainfdeghgnaaGreatDoor.Nm Go.Proofs.YtclainfdeghgnaaGreatDoor.Lm

def lcells (N m : Nat) : Array Value := (lrow N m).toArray
theorem lcells_size (N m : Nat) : (lcells N m).size = m := by simp [lcells, lrow]
theorem lcells_get {N m j : Nat} (h : j < m) : (lcells N m)[j]? = some (.int .u32 (lm N j)) := by simp [lcells, lrow, h]
theorem lcells_set {N m p d : Nat} (hp : p < m) (hd : d < B) : (lcells N m).setIfInBounds p (.int .u32 d) = lcells (setL N p d) m := by
  apply Array.ext_getElem?
  intro j
  by_cases hj : j < m
  · rw [lcells_get hj, Array.getElem?_setIfInBounds, lm_setL N p hd]
    by_cases hk : p = j
    · subst hk; simp [lcells_size, hp]
    · rw [if_neg hk, lcells_get hj, if_neg (Ne.symm hk)]
  · rw [Array.getElem?_eq_none (by simp [lcells_size]; omega), Array.getElem?_eq_none (by simp [lcells_size]; omega)]
theorem lcells_zero (m : Nat) : lcells 0 m = Array.replicate m (.int .u32 0) := by
  apply Array.ext_getElem?
  intro j
  by_cases hj : j < m
  · rw [lcells_get hj, lm_zero]; simp [hj]
  · rw [Array.getElem?_eq_none (by simp [lcells_size]; omega), Array.getElem?_eq_none (by simp; omega)]
theorem lcells_lr {w : World} {B0 g m N : Nat} {t : TypeId} (h : w.heap[g]? = some (.cells (lcells N m) t (0, 0))) (hB : B0 ≤ g) : LrB B0 w (some ⟨g, 0, none⟩) m N := fun _ =>
  ⟨g, rfl, hB, heap_lt h, fun j hj => by rw [cell_of_row _ _ _ _ _ _ h]; exact lcells_get hj⟩
theorem made_lcells (m : Nat) : madeCells (Value.int IntKind.u32 0).cells (m * 1) = lcells 0 m := by
  apply Array.ext_getElem?
  intro j
  rw [lcells_zero]
  by_cases hj : j < m
  · simp [madeCells, Value.cells, hj, Nat.mod_one]
  · simp [madeCells, Value.cells, hj]
theorem ex_mk82 {ev : Operand → Value} {o : Oper} {w : World} (x : Operand) (ho : o.op = .makeSlice 39 x x) {z : Int} (m : Nat) (hx : ev x = .int .i64 z) (hz : z = (m : Int)) (hm : m ≤ 10000) :
    (execOp ev o).run Tryz.prog w = .ok (.value (.slice (some ⟨w.heap.size, 0, none⟩) m m)) (w.alloc (.cells (lcells 0 m) 113)) := by
  obtain ⟨i0, hi, hz0, hz1, hz2⟩ := info_parts info121
  have h := run_make (P := Tryz.prog) w 39 113 i0 _ u82 hi hz0 .i64 .i64 m m (by omega) (Int.le_refl _) (by rw [hz2]; omega) (by omega)
  rw [Int.toNat_natCast, hz1, made_lcells] at h
  unfold execOp
  simp [ho, hx, hz, h, Result.andThen]
set_option maxHeartbeats 2000000 in
set_option maxRecDepth 100000 in
theorem times_any (A A' : Option Addr) (n n' c c' a b : Nat) (w : World) (ha : Lr w A n a) (hb : Lr w A' n' b) (la : a < B ^ n) (lb : b < B ^ n') (hn : n ≤ 450) (hn' : n' ≤ 450) :
    Calls Tryz.prog 77 #[.slice A n c, .slice A' n' c'] w fun e w' => ∃ A2 c2, e = .returned (.slice A2 (nl (a * b)) c2) ∧ nl (a * b) ≤ c2 ∧ LrB w.heap.size w' A2 (nl (a * b)) (a * b) ∧ Below w.heap.size w w' := by
  have HA := Lib.hid ha
  have HB := Lib.hid hb
  have LA := Lib.hid la
  have LB := Lib.hid lb
  clear ha hb la lb
  go_enter Tryz.func77, Tryz.ntmps77
  go_upto_region 1 with (fail)
  apply wp_region_lit
  refine wl_k rfl (fun K hK => ?_); go_simp; refine hK _ ?_; clear hK K
  refine wl_k rfl (fun K hK => ?_); go_simp; refine hK _ ?_; clear hK K
  refine wl_k rfl (fun K hK => ?_); go_simp; refine hK _ ?_; clear hK K
  refine wl_k rfl (fun K hK => ?_); go_simp; refine hK _ ?_; clear hK K
  refine wl_k rfl (fun K hK => ?_); go_simp; refine hK _ ?_; clear hK K
  refine wl_k rfl (fun K hK => ?_); go_simp; refine hK _ ?_; clear hK K
  refine wl_w rfl (ex_mk82 _ rfl (n + n' + 1) rfl (by rw [IntWalk.i64_in _ (by rw [IntWalk.i64_in _ (by omega)]; omega), IntWalk.i64_in _ (by omega)]; omega) (by omega)) ?_
  simp only [put_lit, List.set_cons_zero, List.set_cons_succ]
  refine wl_world (fun W => W.heap[w.heap.size]? = some (.cells (lcells 0 (n + n' + 1)) 113 (0, 0)) ∧ Below w.heap.size w W) ⟨ha_new rfl, (Below.refl _ _).alloc (Nat.le_refl _) _⟩ ?_
  obtain ⟨p, hp⟩ : ∃ p, p = w.heap.size := ⟨_, rfl⟩
  have hpl : w.heap.size ≤ p := by omega
  rw [← hp]
  rw [hp]
  rintro W ⟨h0, hb⟩
  rw [← hp] at h0 ⊢
  clear hp
  go_wp2_with fail
  go_loopw [6] (fun i wr => ∃ k : Nat, k ≤ n ∧ i = .int .i64 (k : Int) ∧ wr.heap[p]? = some (.cells (lcells ((a % B ^ k) * b) (n + n' + 1)) 113 (0, 0)) ∧ Below w.heap.size w wr) (fun i _ => (n - intOf i).toNat)
  case atStart => exact ⟨0, by omega, rfl, by rw [Nat.pow_zero, Nat.mod_one, Nat.zero_mul]; exact h0, hb⟩
  case round =>
    clear h0 hb
    obtain ⟨i, hi1, rfl, h0, hb⟩ := hrel
    obtain ⟨wo, rfl⟩ : ∃ wo : World, wo = wr := ⟨_, rfl⟩
    by_cases ka : i < n
    · obtain ⟨g, rfl, hg, ca⟩ := HA.out.at_ ka
      have hx := lm_32 a i
      go_wp2_with fail
      go_loopw [7, 8] (fun c8 k8 wr => ∃ (k cc N : Nat), k ≤ n' + 1 ∧ c8 = .int .u64 (cc : Int) ∧ k8 = .int .i64 (k : Int) ∧ Hid (TInv a b i k N cc) ∧ Hid (N < B ^ (n + n' + 1)) ∧ wr.heap[p]? = some (.cells (lcells N (n + n' + 1)) 113 (0, 0)) ∧ Below w.heap.size w wr) (fun _ k8 _ => (n' + 2 - intOf k8).toNat)
      case atStart =>
        refine ⟨0, 0, _, by omega, rfl, rfl, Lib.hid (TInv.start rfl), Lib.hid ?_, h0, hb⟩
        have h1 : a % B ^ i * b ≤ a * b := Nat.mul_le_mul_right _ (Nat.mod_le _ _)
        exact Nat.lt_of_le_of_lt h1 (mul_lt_pow LA.out LB.out)
      case round =>
        clear h0 hb
        obtain ⟨k, cc, N, hk, rfl, rfl, HT, HN, h0, hb⟩ := hrel
        have ca' := (hb.cell (p := ⟨g, i, none⟩) hg).trans ca
        have hcc : cc < 4294967296 := HT.out.c
        by_cases kb : k < n'
        · obtain ⟨g', rfl, hg', cb⟩ := HB.out.at_ kb
          have cb' := (hb.cell (p := ⟨g', k, none⟩) hg').trans cb
          have cn : wr.cell? ⟨p, i + k, none⟩ = some (.int .u32 (lm N (i + k))) := by rw [cell_of_row _ _ _ _ _ _ h0]; exact lcells_get (by omega)
          have fn : wr.frozen? ⟨p, i + k, none⟩ = false := frozen_of_row _ _ _ _ _ h0
          have hl := lm_32 N (i + k)
          have hy := lm_32 b k
          have hmul : lm a i * lm b k ≤ 18446744065119617025 := Nat.mul_le_mul (show lm a i ≤ 4294967295 by omega) (show lm b k ≤ 4294967295 by omega)
          have HS := Lib.hid HT.out.step
          have HX := Lib.hid (HT.out.xlt (i + k) k)
          obtain ⟨x, ex⟩ : ∃ x, x = lm a i := ⟨_, rfl⟩
          obtain ⟨y, ey⟩ : ∃ y, y = lm b k := ⟨_, rfl⟩
          obtain ⟨z, ez⟩ : ∃ z, z = lm N (i + k) := ⟨_, rfl⟩
          rw [← ex] at ca' hx hmul HS HX
          rw [← ey] at cb' hy hmul HS HX
          rw [← ez] at cn hl HS HX
          have e1 : (x : Int) * (y : Int) = ((x * y : Nat) : Int) := by simp
          obtain ⟨q, hq⟩ : ∃ q, q = x * y := ⟨_, rfl⟩
          rw [← hq] at e1 hmul HS HX
          have HQ := Lib.hid hq
          clear hq ex ey ez ca cb
          have H0 := Lib.hid h0
          have HBL := Lib.hid hb
          have hq2 : (q : Int) ≤ 18446744065119617025 := by omega
          have w1 : IntKind.u64.wrap (q : Int) = (q : Int) := IntWalk.u64_in _ (by omega)
          have w2 : IntKind.u64.wrap ((z : Int) + (cc : Int) + (q : Int)) = (z : Int) + (cc : Int) + (q : Int) := IntWalk.u64_in _ (by omega)
          clear h0 hb hmul
          go_upto_region 11 with (fail)
          go_quiet (fail)
          go_wp2_with fail
          go_roundw
          case rel =>
            refine ⟨k + 1, (z + cc + q) / B, _, by omega, ?_, by go_num, HS, Lib.hid (setL_lt HN.out (by omega) (Nat.mod_lt _ B_pos)), (hs_new H0.out).trans ?_, (below_drewN HBL.out _).setCell hpl _⟩
            · rw [B_eq]; congr 1
            · rw [show ((z : Int) + (cc : Int) + (q : Int)) % 4294967296 = (((z + cc + q) % B : Nat) : Int) by rw [B_eq]; omega, lcells_set (by omega) (Nat.mod_lt _ B_pos)]
          case measure => simp [intOf]; omega
        · by_cases h0c : cc = 0
          · subst h0c
            have HQ := Lib.hid (HT.out.next (Nat.lt_of_lt_of_le LB.out (Nat.pow_le_pow_right B_pos (Nat.le_of_not_lt kb))))
            have H0 := Lib.hid h0
            have HBL := Lib.hid hb
            clear h0 hb
            go_wp2_with fail
            go_roundw
            case rel => exact ⟨i + 1, by omega, by go_num, by rw [← HQ.out]; exact H0.out, HBL.out⟩
            case measure => simp [intOf]; omega
          · have hk2 : k ≤ n' := by
              rcases Nat.lt_or_ge n' k with h1 | h1
              · exact absurd (HT.out.carry0 LB.out h1) h0c
              · omega
            have cn : wr.cell? ⟨p, i + k, none⟩ = some (.int .u32 (lm N (i + k))) := by rw [cell_of_row _ _ _ _ _ _ h0]; exact lcells_get (by omega)
            have fn : wr.frozen? ⟨p, i + k, none⟩ = false := frozen_of_row _ _ _ _ _ h0
            have hl := lm_32 N (i + k)
            have hs := HT.out.step
            rw [lm_of_le LB.out (Nat.le_of_not_lt kb)] at hs
            simp only [Nat.mul_zero, Nat.add_zero] at hs
            obtain ⟨z, ez⟩ : ∃ z, z = lm N (i + k) := ⟨_, rfl⟩
            rw [← ez] at cn hl hs
            have HS := Lib.hid hs
            clear hs ez ca
            have H0 := Lib.hid h0
            have HBL := Lib.hid hb
            have hpos : 0 < cc := by omega
            have hpos2 : (0 : Int) < (cc : Int) := by omega
            clear h0 hb h0c
            go_wp2_with fail
            go_roundw
            case rel =>
              refine ⟨k + 1, (z + cc) / B, _, by omega, ?_, by go_num, HS, Lib.hid (setL_lt HN.out (by omega) (Nat.mod_lt _ B_pos)), (hs_new H0.out).trans ?_, HBL.out.setCell hpl _⟩
              · rw [B_eq]; congr 1
              · rw [show ((z : Int) + (cc : Int)) % 4294967296 = (((z + cc) % B : Nat) : Int) by rw [B_eq]; omega, lcells_set (by omega) (Nat.mod_lt _ B_pos)]
            case measure => simp [intOf]; omega
    · obtain rfl : i = n := by omega
      rw [Nat.mod_eq_of_lt LA.out] at h0
      have HL := Lib.hid (lcells_lr h0 hpl)
      have HBL := Lib.hid hb
      have HLT := Lib.hid (mul_lt_pow LA.out LB.out)
      clear h0 hb
      go_wp2_with (go_at_call 78; refine (trim_any _ (i + n' + 1) _ (a * b) _ HL.out.lr HLT.out (Nat.le_refl _) (by omega)).mono ?_)
      rintro e w3 ⟨rfl, rfl⟩
      go_wp2_with fail
      go_ret
      have hle := nl_le _ _ HLT.out
      exact ⟨_, _, rfl, by omega, HL.out.le hle, HBL.out⟩
end Go.Proofs.YtclainfdeghgnaaGreatDoor

namespace Go.Proofs.YtclainfdeghgnaaGreatDoor
open Go.RowKit Go.Proofs.YtclainfdeghgnaaGreatDoor.Nm Go.Proofs.YtclainfdeghgnaaGreatDoor.Lm

theorem bt_high {a n i : Nat} (h : a < B ^ n) (hi : n ≤ i / 32) : bt a i = 0 := by
  unfold bt
  rw [Nat.div_eq_of_lt]
  refine Nat.lt_of_lt_of_le h ?_
  rw [B_two, ← Nat.pow_mul]
  exact Nat.pow_le_pow_right (by decide) (by omega)
theorem and1 (x : Nat) (h : x < 4294967296) : bits .and .u32 (x : Int) 1 = ((x % 2 : Nat) : Int) := by
  have := (bits_nat .u32 32 (by decide) (fun n h0 h1 => IntWalk.u32_in n ⟨h0, by omega⟩) x 1 (by omega) (by decide)).1
  rw [Nat.and_one_is_mod] at this
  exact this
theorem or32 (x y : Nat) (h : x < B) (h2 : y < B) : bits .or .u32 (x : Int) (y : Int) = ((x ||| y : Nat) : Int) :=
  (bits_nat .u32 32 (by decide) (fun n h0 h1 => IntWalk.u32_in n ⟨h0, by omega⟩) x y h h2).2
set_option maxHeartbeats 400000 in
set_option maxRecDepth 100000 in
theorem bit_any (A : Option Addr) (n c a i : Nat) (w : World) (ha : Lr w A n a) (la : a < B ^ n) (hn : n ≤ 900) (hi : i ≤ 100000) :
    Calls Tryz.prog 94 #[.slice A n c, .int .i64 (i : Int)] w fun e w' => e = .returned (.int .u32 ((bt a i : Nat) : Int)) ∧ w = w' := by
  have HA := Lib.hid ha
  have LA := Lib.hid la
  clear ha la
  obtain ⟨q, hq⟩ : ∃ q, q = i / 32 := ⟨_, rfl⟩
  obtain ⟨r, hr⟩ : ∃ r, r = i % 32 := ⟨_, rfl⟩
  have hr32 : r < 32 := by omega
  have e1 : (i : Int) / 32 = (q : Int) := by omega
  have e2 : (i : Int) % 32 = (r : Int) := by omega
  have e3 : (i : Int).tdiv 32 = (q : Int) := by rw [Int.tdiv_eq_ediv_of_nonneg (by omega)]; omega
  have e4 : (i : Int).tmod 32 = (r : Int) := by rw [Int.tmod_eq_emod_of_nonneg (by omega)]; omega
  by_cases hk : q < n
  · obtain ⟨g, rfl, hg, ca⟩ := HA.out.at_ hk
    have hb := bt_lm a i
    rw [← hq, ← hr] at hb
    have HB := Lib.hid hb
    clear hb hq hr
    have hx := lm_32 a q
    go_enter Tryz.func94, Tryz.ntmps94
    go_wp2_with fail
    go_ret
    refine ⟨?_, rfl⟩
    rw [show ((lm a q : Nat) : Int) / 2 ^ r = ((lm a q / 2 ^ r : Nat) : Int) by simp, and1 _ (Nat.lt_of_le_of_lt (Nat.div_le_self _ _) hx), HB.out]
    rfl
  · have hb := bt_high LA.out (show n ≤ i / 32 by omega)
    rw [hb]
    clear hq hr
    go_enter Tryz.func94, Tryz.ntmps94
    go_wp2_with fail
    go_ret
    exact ⟨rfl, rfl⟩
theorem lm_one : lm 1 0 = 1 := by decide
theorem nl_dbl {r b : Nat} (h : r < b) : nl (r + r) ≤ nl b + 1 ∧ nl (r + r + 1) ≤ nl b + 1 := by
  have h1 := nl_spec b
  have h2 : B ^ nl b * 2 ≤ B ^ (nl b + 1) := by rw [Nat.pow_succ]; exact Nat.mul_le_mul_left _ (by decide)
  exact ⟨nl_le _ _ (by omega), nl_le _ _ (by omega)⟩
theorem rn_lt {a b i : Nat} (hb : 0 < b) : rn a b i < b := Nat.mod_lt _ hb
theorem cmpN_ge {a b : Nat} : (0 ≤ cmpN a b) ↔ b ≤ a := by
  unfold cmpN; split
  · omega
  · split <;> omega
theorem pow2_mod {r : Nat} (h : r < 32) : ((2 : Int) ^ r) % 4294967296 = ((2 ^ r : Nat) : Int) := by
  have h2 : 2 ^ r < 2 ^ 32 := Nat.pow_lt_pow_right (by decide) h
  have e : ((2 : Int) ^ r) = ((2 ^ r : Nat) : Int) := by simp
  rw [e]
  generalize 2 ^ r = x at *
  omega
set_option maxHeartbeats 2000000 in
set_option maxRecDepth 100000 in
theorem parted_any (A A' : Option Addr) (n c c' a b : Nat) (w : World) (ha : Lr w A n a) (hb : Lr w A' (nl b) b) (la : a < B ^ n) (hn : n ≤ 400) (hn' : nl b ≤ 400) (hb0 : 0 < b) :
    Calls Tryz.prog 79 #[.slice A n c, .slice A' (nl b) c'] w fun e w' => ∃ A2 c2 A3 c3, e = .returned (.tuple #[.slice A2 (nl (a / b)) c2, .slice A3 (nl (a % b)) c3]) ∧ nl (a / b) ≤ c2 ∧ nl (a % b) ≤ c3 ∧
      LrB w.heap.size w' A2 (nl (a / b)) (a / b) ∧ LrB w.heap.size w' A3 (nl (a % b)) (a % b) ∧ Below w.heap.size w w' := by
  have HA := Lib.hid ha
  have HB := Lib.hid hb
  have LA := Lib.hid la
  have HB0 := Lib.hid hb0
  clear ha hb la hb0
  go_enter Tryz.func79, Tryz.ntmps79
  go_upto_region 1 with (fail)
  apply wp_region_lit
  refine wl_k rfl (fun K hK => ?_); go_simp; refine hK _ ?_; clear hK K
  refine wl_k rfl (fun K hK => ?_); go_simp; refine hK _ ?_; clear hK K
  refine wl_w rfl (ex_mk82 _ rfl n rfl rfl (by omega)) ?_
  simp only [put_lit, List.set_cons_zero, List.set_cons_succ]
  refine wl_world (fun W => W.heap[w.heap.size]? = some (.cells (lcells 0 n) 113 (0, 0)) ∧ Below w.heap.size w W) ⟨ha_new rfl, (Below.refl _ _).alloc (Nat.le_refl _) _⟩ ?_
  obtain ⟨p, hp⟩ : ∃ p, p = w.heap.size := ⟨_, rfl⟩
  have hpl : w.heap.size ≤ p := by omega
  rw [← hp]
  rw [hp]
  rintro W ⟨h0, hb⟩
  rw [← hp] at h0 ⊢
  clear hp
  go_wp2_with fail
  go_loopw [7, 8] (fun r7 i wr => ∃ (k : Nat) (A2 : Option Addr) (c2 : Nat), k ≤ 32 * n ∧ i = .int .i64 ((k : Int) - 1) ∧ r7 = .slice A2 (nl (rn a b k)) c2 ∧ nl (rn a b k) ≤ c2 ∧ Hid (LrB (p + 1) wr A2 (nl (rn a b k)) (rn a b k)) ∧ wr.heap[p]? = some (.cells (lcells (qn a b k) n) 113 (0, 0)) ∧ Below w.heap.size w wr) (fun _ i _ => (intOf i + 1).toNat)
  case atStart =>
    obtain ⟨e1, e2⟩ := q_start (b := b) LA.out
    refine ⟨32 * n, none, 0, by omega, ?_, by rw [e2, nl_zero], by rw [e2, nl_zero]; omega, Lib.hid fun h => ?_, by rw [e1]; exact h0, hb⟩
    · go_num
    · rw [e2, nl_zero] at h; omega
  case round =>
    clear h0 hb
    obtain ⟨k, A2, c2, hk, rfl, rfl, hc2, HL, h0, hb⟩ := hrel
    rcases k with _ | j
    · obtain ⟨e1, e2⟩ := q_end a b
      rw [e2] at hc2 HL ⊢
      rw [e1] at h0
      have HQ := Lib.hid (lcells_lr h0 hpl)
      have HLT := Lib.hid (Nat.lt_of_le_of_lt (Nat.div_le_self a b) LA.out)
      have HBL := Lib.hid hb
      clear e1 e2 h0 hb
      go_wp2_with (go_at_call 78; refine (trim_any _ n _ (a / b) _ HQ.out.lr HLT.out (Nat.le_refl _) (by omega)).mono ?_)
      rintro e w3 ⟨rfl, rfl⟩
      go_wp2_with fail
      have hle := nl_le _ _ HLT.out
      refine bodyPost_ret (results_tmp2 rfl _ _ _) rfl ⟨_, _, _, _, rfl, by omega, hc2, HQ.out.le hle, HL.out.low (by omega), HBL.out⟩
    · rw [show ((j + 1 : Nat) : Int) - 1 = (j : Int) by omega]
      have hbt := bt_le a j
      have HPB := Lib.hid h0
      have HBL := Lib.hid (And.intro hb h0)
      clear h0 hb
      obtain ⟨R, hR⟩ : ∃ R, R = rn a b (j + 1) := ⟨_, rfl⟩
      have nR : nl R ≤ 400 := by rw [hR]; exact Nat.le_trans (nl_mono (Nat.le_of_lt (rn_lt HB0.out))) hn'
      rw [← hR] at HL hc2 ⊢
      have HR := Lib.hid hR
      clear hR hc2
      go_wp2_with (go_at_call 74; refine (plus_any _ _ (nl R) (nl R) _ _ R R _ HL.out.lr HL.out.lr (nl_spec _) (nl_spec _) (by omega) (by omega)).mono ?_)
      rintro e w2 ⟨A3, c3, rfl, hc3, hl3, hb1⟩
      replace HBL := Lib.hid (And.intro (HBL.out.1.trans (hb1.mono HBL.out.1.size)) (below_look hb1 HBL.out.2))
      clear HL hb1
      have HL := Lib.hid (hl3.low (B1 := p + 1) (heap_lt HPB.out))
      clear hl3
      go_upto_region 7 with (fail)
      rcases Nat.lt_or_ge (bt a j) 1 with ht | ht
      · have ht0 : bt a j = 0 := by omega
        have HT := Lib.hid ht0
        clear ht ht0 hbt
        go_wp2_with (go_at_call 94; refine (bit_any _ n _ a j _ (HA.out.below HBL.out.1) LA.out (by omega) (by omega)).mono ?_)
        rintro e w3 ⟨rfl, rfl⟩
        rw [HT.out]
        go_upto_region 9 with (fail)
        have hcase : ∀ X : Nat, X = R + R + bt a j → (b ≤ X → qn a b j = qn a b (j + 1) + 2 ^ j ∧ rn a b j = X - b ∧ setL (qn a b (j + 1)) (j / 32) (lm (qn a b (j + 1)) (j / 32) ||| 2 ^ (j % 32)) = qn a b j) ∧ (X < b → qn a b j = qn a b (j + 1) ∧ rn a b j = X) := fun X hX => by
          have e := HR.out
          have e2 : X = 2 * rn a b (j + 1) + bt a j := by rw [hX, e]; omega
          refine ⟨fun h => ?_, fun h => ?_⟩
          · rw [e2] at h ⊢
            obtain ⟨h1, h2⟩ := q_yes h HB0.out
            exact ⟨h1, h2, set_bit h HB0.out⟩
          · rw [e2] at h ⊢
            exact q_no h
        obtain ⟨X, hX⟩ : ∃ X, X = R + R := ⟨_, rfl⟩
        obtain ⟨hyes, hno⟩ := hcase X (by have := HT.out; omega)
        rw [← hX] at HL hc3 ⊢
        have nX : nl X ≤ 801 := by rw [hX]; have := nl_dbl (b := b) (r := R) (by rw [HR.out]; exact rn_lt HB0.out); omega
        clear hX hcase
        by_cases hge : b ≤ X
        · have hc0 : 0 ≤ cmpN X b := cmpN_ge.2 hge
          obtain ⟨cc, hcc⟩ : ∃ cc, cc = cmpN X b := ⟨_, rfl⟩
          rw [← hcc] at hc0
          have HCC := Lib.hid hcc
          have HY := Lib.hid (hyes hge)
          have HGE := Lib.hid hge
          clear hge hcc hyes hno
          go_wp2_with (go_at_call 75; refine (compareN_any _ _ _ _ X b _ HL.out.lr (HB.out.below HBL.out.1) (by omega)).mono ?_)
          rintro e w5 ⟨rfl, hb1⟩
          rw [← HCC.out]
          replace HL := Lib.hid (HL.out.below hb1)
          replace HBL := Lib.hid (And.intro (HBL.out.1.trans (hb1.mono HBL.out.1.size)) (below_look hb1 HBL.out.2))
          have ltp := heap_lt HBL.out.2
          clear hb1
          go_wp2_with (go_at_call 76; refine (less_any _ _ (nl X) (nl b) _ _ X b _ HL.out.lr (HB.out.below HBL.out.1) (nl_spec _) (nl_spec _) (by omega) HGE.out).mono ?_)
          rintro e w6 ⟨A6, c6, rfl, hc6, hl6, hb1⟩
          have HPB := Lib.hid (below_look hb1 HBL.out.2)
          replace HBL := Lib.hid (HBL.out.1.trans (hb1.mono HBL.out.1.size))
          clear HL hb1
          have HL := Lib.hid (hl6.low (B1 := p + 1) ltp)
          clear hl6 ltp
          obtain ⟨q, hq⟩ : ∃ q, q = j / 32 := ⟨_, rfl⟩
          obtain ⟨r, hr⟩ : ∃ r, r = j % 32 := ⟨_, rfl⟩
          have hr32 : r < 32 := by omega
          have hqn : q < n := by omega
          have e1 : (j : Int) / 32 = (q : Int) := by omega
          have e2 : (j : Int) % 32 = (r : Int) := by omega
          have e3 : (j : Int).tdiv 32 = (q : Int) := by rw [Int.tdiv_eq_ediv_of_nonneg (by omega)]; omega
          have e4 : (j : Int).tmod 32 = (r : Int) := by rw [Int.tmod_eq_emod_of_nonneg (by omega)]; omega
          have cn : w6.cell? ⟨p, q, none⟩ = some (.int .u32 (lm (qn a b (j + 1)) q)) := by rw [cell_of_row _ _ _ _ _ _ HPB.out]; exact lcells_get hqn
          have fn : w6.frozen? ⟨p, q, none⟩ = false := frozen_of_row _ _ _ _ _ HPB.out
          have HQ := Lib.hid (And.intro hq hr)
          clear hq hr
          go_upto_region 11 with (fail)
          go_wp2_with fail
          go_roundw
          case rel =>
            obtain ⟨y1, y2, y3⟩ := HY.out
            obtain ⟨hq, hr⟩ := HQ.out
            have hlt := or_lt a b j
            rw [← hq, ← hr] at y3 hlt
            refine ⟨j, A6, c6, by omega, rfl, by rw [y2], by rw [y2]; exact hc6, Lib.hid (by rw [y2]; exact HL.out.setCell (by simp) _), (hs_new HPB.out).trans ?_, HBL.out.setCell hpl _⟩
            have hp2 : 2 ^ r < B := by rw [B_two]; exact Nat.pow_lt_pow_right (by decide) hr32
            rw [pow2_mod hr32, or32 _ _ (lm_lt _ _) hp2, lcells_set hqn hlt, y3]
          case measure => simp [intOf]
        · have hlt : X < b := by omega
          have hc0 : cmpN X b < 0 := by rw [cmpN_lt hlt]; decide
          obtain ⟨cc, hcc⟩ : ∃ cc, cc = cmpN X b := ⟨_, rfl⟩
          rw [← hcc] at hc0
          have HCC := Lib.hid hcc
          have HY := Lib.hid (hno hlt)
          clear hge hlt hcc hyes hno
          have hc1 : ¬ 0 ≤ cc := by omega
          go_wp2_with (go_at_call 75; refine (compareN_any _ _ _ _ X b _ HL.out.lr (HB.out.below HBL.out.1) (by omega)).mono ?_; rintro e w5 ⟨rfl, hb1⟩; rw [← HCC.out]; replace HL := Lib.hid (HL.out.below hb1); replace HBL := Lib.hid (And.intro (HBL.out.1.trans (hb1.mono HBL.out.1.size)) (below_look hb1 HBL.out.2)); clear hb1)
          go_roundw
          case rel =>
            obtain ⟨y1, y2⟩ := HY.out
            exact ⟨j, A3, c3, by omega, rfl, by rw [y2], by rw [y2]; exact hc3, Lib.hid (by rw [y2]; exact HL.out), by rw [y1]; exact HBL.out.2, HBL.out.1⟩
          case measure => simp [intOf]
      · have ht0 : bt a j = 1 := by omega
        have HT := Lib.hid ht0
        clear ht ht0 hbt
        go_wp2_with (go_at_call 94; refine (bit_any _ n _ a j _ (HA.out.below HBL.out.1) LA.out (by omega) (by omega)).mono ?_)
        rintro e w3 ⟨rfl, rfl⟩
        rw [HT.out]
        go_upto_region 8 with (fail)
        apply wp_region_lit
        refine wl_k rfl (fun K hK => ?_); go_simp; refine hK _ ?_; clear hK K
        refine wl_w rfl (ex_bs82 _ rfl rfl) ?_
        simp only [put_lit, List.set_cons_zero, List.set_cons_succ]
        refine wl_world (fun W => LrB (p + 1) W A3 (nl (R + R)) (R + R) ∧ Lr W (some ⟨w2.heap.size, 0, none⟩) 1 1 ∧ (Below w.heap.size w W ∧ W.heap[p]? = some (.cells (lcells (qn a b (j + 1)) n) 113 (0, 0)))) ⟨HL.out.below ((Below.refl _ _).alloc (Nat.le_refl _) _), fun _ => ⟨_, rfl, by simp, fun i hi => ?_⟩, HBL.out.1.alloc HBL.out.1.size _, ha_old HBL.out.2⟩ ?_
        · obtain rfl : i = 0 := by omega
          rw [cell_of_row _ _ _ _ _ _ (ha_new rfl), lm_one]; rfl
        clear HL HBL
        rintro w3 ⟨hl3, hl1, hbl⟩
        have HBL := Lib.hid hbl
        have ltp := heap_lt hbl.2
        clear hbl
        refine wl_ck rfl (fun K hK => ?_); go_simp; refine ⟨_, _, ⟨rfl, rfl⟩, hK _ _ ⟨_, plus_any A3 _ (nl (R + R)) 1 c3 1 (R + R) 1 _ hl3.lr hl1 (nl_spec _) (by decide) (by have := nl_dbl (b := b) (r := R) (by rw [HR.out]; exact rn_lt HB0.out); omega) (by omega), ?_⟩⟩; clear hK K; rintro e w4 ⟨A3', c3', rfl, hc3', hl4, hb1⟩; refine ⟨_, rfl, ?_⟩; simp only [put_lit, List.set_cons_zero, List.set_cons_succ]
        have HPB := Lib.hid (below_look hb1 HBL.out.2)
        replace HBL := Lib.hid (And.intro (HBL.out.1.trans (hb1.mono HBL.out.1.size)) (below_look hb1 HBL.out.2))
        clear hb1 hl1 hl3
        have HL := Lib.hid (hl4.low (B1 := p + 1) ltp)
        clear hl4 ltp
        go_upto_region 9 with (fail)
        have hcase : ∀ X : Nat, X = R + R + bt a j → (b ≤ X → qn a b j = qn a b (j + 1) + 2 ^ j ∧ rn a b j = X - b ∧ setL (qn a b (j + 1)) (j / 32) (lm (qn a b (j + 1)) (j / 32) ||| 2 ^ (j % 32)) = qn a b j) ∧ (X < b → qn a b j = qn a b (j + 1) ∧ rn a b j = X) := fun X hX => by
          have e := HR.out
          have e2 : X = 2 * rn a b (j + 1) + bt a j := by rw [hX, e]; omega
          refine ⟨fun h => ?_, fun h => ?_⟩
          · rw [e2] at h ⊢
            obtain ⟨h1, h2⟩ := q_yes h HB0.out
            exact ⟨h1, h2, set_bit h HB0.out⟩
          · rw [e2] at h ⊢
            exact q_no h
        obtain ⟨X, hX⟩ : ∃ X, X = R + R + 1 := ⟨_, rfl⟩
        obtain ⟨hyes, hno⟩ := hcase X (by have := HT.out; omega)
        rw [← hX] at HL hc3' ⊢
        have nX : nl X ≤ 801 := by rw [hX]; have := nl_dbl (b := b) (r := R) (by rw [HR.out]; exact rn_lt HB0.out); omega
        clear hX hcase
        by_cases hge : b ≤ X
        · have hc0 : 0 ≤ cmpN X b := cmpN_ge.2 hge
          obtain ⟨cc, hcc⟩ : ∃ cc, cc = cmpN X b := ⟨_, rfl⟩
          rw [← hcc] at hc0
          have HCC := Lib.hid hcc
          have HY := Lib.hid (hyes hge)
          have HGE := Lib.hid hge
          clear hge hcc hyes hno
          go_wp2_with (go_at_call 75; refine (compareN_any _ _ _ _ X b _ HL.out.lr (HB.out.below HBL.out.1) (by omega)).mono ?_)
          rintro e w5 ⟨rfl, hb1⟩
          rw [← HCC.out]
          replace HL := Lib.hid (HL.out.below hb1)
          replace HBL := Lib.hid (And.intro (HBL.out.1.trans (hb1.mono HBL.out.1.size)) (below_look hb1 HBL.out.2))
          have ltp := heap_lt HBL.out.2
          clear hb1
          go_wp2_with (go_at_call 76; refine (less_any _ _ (nl X) (nl b) _ _ X b _ HL.out.lr (HB.out.below HBL.out.1) (nl_spec _) (nl_spec _) (by omega) HGE.out).mono ?_)
          rintro e w6 ⟨A6, c6, rfl, hc6, hl6, hb1⟩
          have HPB := Lib.hid (below_look hb1 HBL.out.2)
          replace HBL := Lib.hid (HBL.out.1.trans (hb1.mono HBL.out.1.size))
          clear HL hb1
          have HL := Lib.hid (hl6.low (B1 := p + 1) ltp)
          clear hl6 ltp
          obtain ⟨q, hq⟩ : ∃ q, q = j / 32 := ⟨_, rfl⟩
          obtain ⟨r, hr⟩ : ∃ r, r = j % 32 := ⟨_, rfl⟩
          have hr32 : r < 32 := by omega
          have hqn : q < n := by omega
          have e1 : (j : Int) / 32 = (q : Int) := by omega
          have e2 : (j : Int) % 32 = (r : Int) := by omega
          have e3 : (j : Int).tdiv 32 = (q : Int) := by rw [Int.tdiv_eq_ediv_of_nonneg (by omega)]; omega
          have e4 : (j : Int).tmod 32 = (r : Int) := by rw [Int.tmod_eq_emod_of_nonneg (by omega)]; omega
          have cn : w6.cell? ⟨p, q, none⟩ = some (.int .u32 (lm (qn a b (j + 1)) q)) := by rw [cell_of_row _ _ _ _ _ _ HPB.out]; exact lcells_get hqn
          have fn : w6.frozen? ⟨p, q, none⟩ = false := frozen_of_row _ _ _ _ _ HPB.out
          have HQ := Lib.hid (And.intro hq hr)
          clear hq hr
          go_upto_region 11 with (fail)
          go_wp2_with fail
          go_roundw
          case rel =>
            obtain ⟨y1, y2, y3⟩ := HY.out
            obtain ⟨hq, hr⟩ := HQ.out
            have hlt := or_lt a b j
            rw [← hq, ← hr] at y3 hlt
            refine ⟨j, A6, c6, by omega, rfl, by rw [y2], by rw [y2]; exact hc6, Lib.hid (by rw [y2]; exact HL.out.setCell (by simp) _), (hs_new HPB.out).trans ?_, HBL.out.setCell hpl _⟩
            have hp2 : 2 ^ r < B := by rw [B_two]; exact Nat.pow_lt_pow_right (by decide) hr32
            rw [pow2_mod hr32, or32 _ _ (lm_lt _ _) hp2, lcells_set hqn hlt, y3]
          case measure => simp [intOf]
        · have hlt : X < b := by omega
          have hc0 : cmpN X b < 0 := by rw [cmpN_lt hlt]; decide
          obtain ⟨cc, hcc⟩ : ∃ cc, cc = cmpN X b := ⟨_, rfl⟩
          rw [← hcc] at hc0
          have HCC := Lib.hid hcc
          have HY := Lib.hid (hno hlt)
          clear hge hlt hcc hyes hno
          have hc1 : ¬ 0 ≤ cc := by omega
          go_wp2_with (go_at_call 75; refine (compareN_any _ _ _ _ X b _ HL.out.lr (HB.out.below HBL.out.1) (by omega)).mono ?_; rintro e w5 ⟨rfl, hb1⟩; rw [← HCC.out]; replace HL := Lib.hid (HL.out.below hb1); replace HBL := Lib.hid (And.intro (HBL.out.1.trans (hb1.mono HBL.out.1.size)) (below_look hb1 HBL.out.2)); clear hb1)
          go_roundw
          case rel =>
            obtain ⟨y1, y2⟩ := HY.out
            exact ⟨j, A3', c3', by omega, rfl, by rw [y2], by rw [y2]; exact hc3', Lib.hid (by rw [y2]; exact HL.out), by rw [y1]; exact HBL.out.2, HBL.out.1⟩
          case measure => simp [intOf]
end Go.Proofs.YtclainfdeghgnaaGreatDoor
namespace Go.Proofs.YtclainfdeghgnaaGreatDoor.Nm
open Go.RowKit

/-- Every block of W but those of D is as it was. -/
def Kept (D : List Nat) (W w' : World) : Prop := W.heap.size ≤ w'.heap.size ∧ ∀ k, k < W.heap.size → k ∉ D → w'.heap[k]? = W.heap[k]?
theorem Kept.drew (D : List Nat) (W : World) : Kept D W W.drew := ⟨Nat.le_refl _, fun _ _ _ => rfl⟩
theorem Kept.below {D : List Nat} {W w w' : World} (h : Kept D W w) (hb : Below w.heap.size w w') : Kept D W w' :=
  ⟨Nat.le_trans h.1 hb.size, fun k hk hp => by rw [hb.block k (by have := h.1; omega)]; exact h.2 k hk hp⟩
theorem Kept.setRow {D : List Nat} {p : Nat} {W w : World} (h : Kept D W w) (hm : p ∈ D) (cs : Array Value) : Kept D W (w.setRow p cs) :=
  ⟨by simpa using h.1, fun k hk hp => by rw [setRow_other w p k cs (fun e => hp (e ▸ hm))]; exact h.2 k hk hp⟩
theorem Kept.setCell {D : List Nat} {p : Nat} {W w : World} (h : Kept D W w) (hm : p ∈ D) (i : Nat) (v : Value) : Kept D W (w.setCell ⟨p, i, none⟩ v) :=
  ⟨by simpa using h.1, fun k hk hp => by rw [heap_setCell_other _ _ _ _ (fun e => hp (by simp at e; exact e ▸ hm))]; exact h.2 k hk hp⟩
theorem Kept.cell {D : List Nat} {W w' : World} (h : Kept D W w') {g i : Nat} {v : Value} (hc : W.cell? ⟨g, i, none⟩ = some v) (hp : g ∉ D) : w'.cell? ⟨g, i, none⟩ = some v := by
  have hg : g < W.heap.size := block_lt_of_cell hc
  rw [← hc]
  exact World.cell?_of_block (h.2 g hg hp)

section
variable {P : Program} {ops : Array Oper} {Q : Exit → Act → World → Prop} {md : Region.Mode} {S : World → Prop} {i : Nat} {oi : Oper} {fuel : Nat} {listed : Array Bool} {a : Act} {w : World}

/-- An operation that yields one value in every world of the class. -/
theorem ha_val {v : Value} (hi : ops[i]? = some oi) (hs : Region.noSelect ops = true) (hf : Region.free md ops listed i = true) (hr : (Region.ready md ops listed).contains i = true)
    (hQ : ∀ c a w, Q (.panic c) (a.put oi.dst v) w → Q (.panic c) a w) (hS : S w) (hg : Region.wanted oi (yielded ops a.tmps) = true) (hv : ∀ w, S w → (execOp a.eval oi).run P w = .ok (.value v) w)
    (h : wpAnyH P md ops Q S fuel (listed.setIfInBounds i true) (a.put oi.dst v) w) : wpAnyH P md ops Q S (fuel + 1) listed a w :=
  wpAnyH_take hi hs hf hr hQ (.inl ⟨hg, hv⟩) hS h
/-- An operation that only reckons. -/
theorem ha_k (hi : ops[i]? = some oi) (hs : Region.noSelect ops = true) (hf : Region.free md ops listed i = true) (hr : (Region.ready md ops listed).contains i = true)
    (hQ : ∀ v c a w, Q (.panic c) (a.put oi.dst v) w → Q (.panic c) a w) (hS : S w) (hg : Region.wanted oi (yielded ops a.tmps) = true)
    (h : ∀ K : Act → Prop, (∀ a', wpAnyH P md ops Q S fuel (listed.setIfInBounds i true) a' w → K a') → ∃ v, (∀ w, (execOp a.eval oi).run P w = .ok (.value v) w) ∧ K (a.put oi.dst v)) : wpAnyH P md ops Q S (fuel + 1) listed a w := by
  obtain ⟨v, hv, hk⟩ := h _ (fun _ h => h)
  exact wpAnyH_take hi hs hf hr (hQ v) (.inl ⟨hg, fun w _ => hv w⟩) hS hk
/-- A call: whatever its contract says of the result. -/
theorem ha_call (hr : Region.ready md ops listed = [i]) (ho : ops[i]? = some oi) (hg : Region.wanted oi (yielded ops a.tmps) = true)
    (h : ∀ K : FuncId → Array Value → Prop, (∀ f args, (∃ F, Calls P f args w F ∧ ∀ e w', F e w' → ∃ v, e = .returned v ∧ S w' ∧ wpAnyH P md ops Q S fuel (listed.setIfInBounds i true) (a.put oi.dst v) w') → K f args) → ∃ f args, (∀ w, (execOp a.eval oi).run P w = .ok (.enter f args) w) ∧ K f args) :
    wpAnyH P md ops Q S (fuel + 1) listed a w := by
  obtain ⟨f, args, hv, F, hc, hk⟩ := h _ (fun _ _ h => h)
  refine wpAnyH_ready (rs := [i]) hr (by simp) (AllReadyH.cons ho (fun K hK => ?_) AllReadyH.nil)
  rw [if_pos hg]
  unfold Oper.wp
  rw [hv w]
  simp only [Oper.upon]
  refine hc.mono fun e w' hF => ?_
  obtain ⟨v, rfl, hSv, hw⟩ := hk e w' hF
  exact hK.out _ _ hSv (fun _ => hw)
/-- An operation that is carried out now, with what it does to the world. -/
theorem ha_do {v : Value} {w2 : World} (hr : Region.ready md ops listed = [i]) (ho : ops[i]? = some oi) (hg : Region.wanted oi (yielded ops a.tmps) = true) (hx : (execOp a.eval oi).run P w = .ok (.value v) w2) (hS : S w2)
    (h : wpAnyH P md ops Q S fuel (listed.setIfInBounds i true) (a.put oi.dst v) w2) : wpAnyH P md ops Q S (fuel + 1) listed a w := by
  refine wpAnyH_ready (rs := [i]) hr (by simp) (AllReadyH.cons ho (fun K hK => ?_) AllReadyH.nil)
  rw [if_pos hg]
  unfold Oper.wp
  rw [hx]
  exact hK.out _ _ hS (fun _ => h)
/-- A struct stored over a block that is known. -/
theorem ha_store (hr : Region.ready md ops listed = [i]) (ho : ops[i]? = some oi) (hg : Region.wanted oi (yielded ops a.tmps) = true) (ty : TypeId) (x y : Operand) (hop : oi.op = .store ty x y) (g : Nat) (cells : Array Value) (hx : a.eval x = .pointer (some ⟨g, 0, none⟩)) (hy : a.eval y = .agg cells)
    (t : TypeId) (old : Array Value) (hb : w.heap[g]? = some (.cells old t (0, 0))) (hin : (P.info? ty).map (·.size) = some cells.size) (hold : old.size = cells.size) (h1 : cells.all (·.oneCell') = true) (hS : S (w.setRow g cells))
    (h : S (w.setRow g cells) → wpAnyH P md ops Q S fuel (listed.setIfInBounds i true) (a.put oi.dst undef) (w.setRow g cells)) : wpAnyH P md ops Q S (fuel + 1) listed a w := by
  refine wpAnyH_ready (rs := [i]) hr (by simp) (AllReadyH.cons ho (fun K hK => ?_) AllReadyH.nil)
  rw [if_pos hg]
  exact wp_store_row ty x y hop g cells hx hy t old hb hin hold h1 (hK.out _ _ hS h)
/-- One operation carried out now. -/
def StepH (P : Program) (md : Region.Mode) (ops : Array Oper) (Q : Exit → Act → World → Prop) (S : World → Prop) (fuel : Nat) (listed : Array Bool) (a : Act) (w : World) (i : Nat) : Prop :=
  wpOp P ops Q i (fun a' w' => S w' ∧ wpAnyH P md ops Q S fuel (listed.setIfInBounds i true) a' w') a w
/-- Two operations may come up. -/
theorem ha_two {j : Nat} (hr : Region.ready md ops listed = [i, j]) (hi : StepH P md ops Q S fuel listed a w i) (hj : StepH P md ops Q S fuel listed a w j) : wpAnyH P md ops Q S (fuel + 1) listed a w :=
  wpAnyH_all hr (by simp) fun k hk => by
    rcases List.mem_cons.1 hk with rfl | hk
    · exact hi
    · rcases List.mem_cons.1 hk with rfl | hk
      · exact hj
      · cases hk
theorem sh_val {v : Value} (ho : ops[i]? = some oi) (hg : Region.wanted oi (yielded ops a.tmps) = true) (hv : (execOp a.eval oi).run P w = .ok (.value v) w) (hS : S w) (h : wpAnyH P md ops Q S fuel (listed.setIfInBounds i true) (a.put oi.dst v) w) : StepH P md ops Q S fuel listed a w i := by
  unfold StepH wpOp
  simp only [ho]
  rw [if_pos hg]
  refine .inl ?_
  unfold Oper.wp
  rw [hv]
  exact ⟨hS, h⟩
theorem sh_call (ho : ops[i]? = some oi) (hg : Region.wanted oi (yielded ops a.tmps) = true)
    (h : ∀ K : FuncId → Array Value → Prop, (∀ f args, (∃ F, Calls P f args w F ∧ ∀ e w', F e w' → ∃ v, e = .returned v ∧ S w' ∧ wpAnyH P md ops Q S fuel (listed.setIfInBounds i true) (a.put oi.dst v) w') → K f args) → ∃ f args, (∀ w, (execOp a.eval oi).run P w = .ok (.enter f args) w) ∧ K f args) :
    StepH P md ops Q S fuel listed a w i := by
  obtain ⟨f, args, hv, F, hc, hk⟩ := h _ (fun _ _ h => h)
  unfold StepH wpOp
  simp only [ho]
  rw [if_pos hg]
  refine .inl ?_
  unfold Oper.wp
  rw [hv w]
  simp only [Oper.upon]
  refine hc.mono fun e w' hF => ?_
  obtain ⟨v, rfl, hSv, hw⟩ := hk e w' hF
  exact ⟨hSv, hw⟩
end
end Go.Proofs.YtclainfdeghgnaaGreatDoor.Nm
namespace Go.Proofs.YtclainfdeghgnaaGreatDoor
open Go.RowKit Go.Proofs.YtclainfdeghgnaaGreatDoor.Nm

/-- What a made decimal is: its units, its scale, its error. -/
def madeU (z : Int) : Int := if 100000000000000000 < z.natAbs then 0 else z
def madeK (z scale : Int) : Int := if 100000000000000000 < z.natAbs then 0 else scale
def madeE (z : Int) : Int := if 100000000000000000 < z.natAbs then 2 else 0
theorem made_any (z : Int) (scale : Int) (hz : z.natAbs < 10 ^ 64) (u k e : Int) (hu : Hid (u = madeU z)) (hk : Hid (k = madeK z scale)) (he : Hid (e = madeE z)) (w : World) :
    Calls Tryz.prog 30 #[.agg (lv z), .int .i64 scale] w fun e' w' => e' = .returned (.tuple #[.agg (dc u k), .int .i64 e]) ∧ Below w.heap.size w w' := by
  rw [hu.out, hk.out, he.out]
  unfold madeU madeK madeE
  by_cases h : 100000000000000000 < z.natAbs
  · simp only [if_pos h]; exact made_over z scale (Lib.hid hz) (Lib.hid h) w
  · simp only [if_neg h]; exact made_ok z scale (Lib.hid hz) (Lib.hid (by omega)) w

structure DivBd (u1 k1 u2 k2 scale : Int) : Prop where
  a1 : -9223372036854775808 ≤ u1
  a2 : u1 ≤ 9223372036854775807
  b1 : -9223372036854775808 ≤ u2
  b2 : u2 ≤ 9223372036854775807
  s0 : 0 ≤ k2 + scale
  s1 : k2 + scale ≤ 9223372036854775806
  t0 : 0 ≤ k1
  t1 : k1 ≤ 9223372036854775806
  p1 : 10 ^ (k2 + scale).toNat < 10 ^ 64
  p2 : 10 ^ k1.toNat < 10 ^ 64
  m1 : u1.natAbs * ((10 ^ (k2 + scale).toNat : Nat) : Int).natAbs < 10 ^ 64
  m2 : u2.natAbs * ((10 ^ k1.toNat : Nat) : Int).natAbs < 10 ^ 64
  ra : (u1 * ((10 ^ (k2 + scale).toNat : Nat) : Int)).natAbs < 10 ^ 63
  rb0 : 0 < (u2 * ((10 ^ k1.toNat : Nat) : Int)).natAbs
  rb1 : (u2 * ((10 ^ k1.toNat : Nat) : Int)).natAbs < 10 ^ 63
/-- A decimal stored: behind it the world under a name. -/
theorem wl_put33 {ops : Array Oper} {rest : List Oper} {ty' : TypeId} {x y : Operand} {pos : String} {after : Array Edge} {a : Act} {w : World} {Q : Exit → Act → World → Prop} {b : Nat} {u k u0 k0 : Int} (hx : a.eval x = .pointer (some ⟨b, 0, none⟩)) (hy : a.eval y = .agg (dc u k)) (hb : w.heap[b]? = some (.cells (dc u0 k0) 25 (0, 0)))
    (h : ∀ W, (∀ B w0, B ≤ b → Below B w0 w → Below B w0 W) → (∀ k o, k ≠ b → w.heap[k]? = some o → W.heap[k]? = some o) → W.heap[b]? = some (.cells (dc u k) 25 (0, 0)) → wpList Tryz.prog ops Q rest a W) : wpList Tryz.prog ops Q (⟨none, .store 25 x y, ty', pos, after, none⟩ :: rest) a w :=
  wpList_store_row rfl 25 x y rfl b (dc u k) hx hy 25 (dc u0 k0) hb (by rw [info33]; rfl) rfl (by simp [dc, Value.oneCell']) (h _ (fun _ _ hB h0 => below_setRow h0 hB _) (fun _ _ hne h0 => hr_old h0 hne) (hr_new hb))
set_option maxHeartbeats 1000000 in
theorem Div_ok (u1 k1 u2 k2 scale : Int) (m : ByteArray) (E : Int) (HE : Hid (E = refusedS [(u1, k1), (u2, k2)] scale m.data.toList)) (hE : E = 0) (h20 : ¬ u2 = 0) (DB : Hid (DivBd u1 k1 u2 k2 scale)) (hsc : 0 ≤ scale) (hsc2 : scale ≤ 9) (hk2 : 0 ≤ k2) (hk22 : k2 ≤ 9)
    (HRM : Hid (isRoundL m.data.toList = true)) (u k e : Int) (z : Int) (Hz : Hid (z = roundS m.data.toList (u1 * ((10 ^ (k2 + scale).toNat : Nat) : Int)) (u2 * ((10 ^ k1.toNat : Nat) : Int)))) (hzb : Hid (z.natAbs < 10 ^ 64)) (hu : Hid (u = madeU z)) (hk : Hid (k = madeK z scale)) (he : Hid (e = madeE z)) (w : World) :
    Calls Tryz.prog 9 #[.agg (dc u1 k1), .agg (dc u2 k2), .int .i64 scale, .string m] w fun e' w' => e' = .returned (.tuple #[.agg (dc u k), .int .i64 e]) ∧ Below w.heap.size w w' := by
  have i1 : IntKind.i64.wrap (k2 + scale) = k2 + scale := IntWalk.i64_in _ (by omega)
  go_enter Tryz.func9, Tryz.ntmps9
  go_upto_region 1 with (fail)
  refine wp_world (fun W => W.heap[w.heap.size]? = some (.cells (dc u1 k1) 25 (0, 0)) ∧ W.heap[w.heap.size + 1]? = some (.cells (dc u2 k2) 25 (0, 0)) ∧ W.heap[w.heap.size + 1 + 1]? = some (.cells (dc 0 0) 25 (0, 0)) ∧ Below w.heap.size w W) ⟨ha_old (ha_old (ha_new rfl)), ha_old (ha_new (by simp)), ha_new (by simp), (((Below.refl _ _).alloc (Nat.le_refl _) _).alloc (by simp) _).alloc (by simp; omega) _⟩ ?_
  rintro W ⟨h0, h1, h2, hb⟩
  have a0 := dc0 h0
  have a1 := dc1 h0
  have b0 := dc0 h1
  have b1 := dc1 h1
  go_wp2_with (go_at_call 27; refine (refused_any W.heap.size 2 [(u1, k1), (u2, k2)] (by simp) scale m E HE _ (ha_new rfl)).mono ?_)
  rintro e w1 ⟨rfl, hb1⟩
  replace hb1 := ((Below.refl W.heap.size W).alloc (Nat.le_refl _) _).trans (hb1.mono (by simp))
  clear a0 a1 b0 b1
  replace h0 := below_look hb1 h0; replace h1 := below_look hb1 h1; replace h2 := below_look hb1 h2; replace hb := hb.trans (hb1.mono hb.size); clear hb1
  have a0 := dc0 h0
  have a1 := dc1 h0
  have b0 := dc0 h1
  have b1 := dc1 h1
  go_upto_region 6 with (fail)
  clear h20 hE
  refine wp_region_float 9 11 (lv 0) 57 mixed (by kernel_rfl) ⟨_, rfl, rfl, rfl, ex_alloc75 rfl⟩ ?_; simp only [List.take_succ_cons, List.take_zero, List.drop_succ_cons, List.drop_zero]
  refine ws_k rfl (fun K hK => ?_); go_simp; refine hK _ ?_; clear hK K
  ((with_reducible apply ws_one); exact rfl; exact rfl; (intro w' hw'; exact one_of u3 rfl (below_cell hw' (by with_reducible assumption))))
  simp only [put_lit, List.set_cons_zero, List.set_cons_succ]
  refine ws_ck rfl (fun K hK => ?_); go_simp; refine ⟨_, _, ⟨rfl, rfl⟩, hK _ _ ⟨_, fun w' hw' => (small_any _ DB.out.a1 DB.out.a2 w'), ?_⟩⟩; clear hK K; simp only [put_lit, List.set_cons_zero, List.set_cons_succ]
  refine ws_k rfl (fun K hK => ?_); go_simp; refine hK _ ?_; clear hK K
  ((with_reducible apply ws_one); exact rfl; exact rfl; (intro w' hw'; exact one_of u3 rfl (below_cell hw' (by with_reducible assumption))))
  simp only [put_lit, List.set_cons_zero, List.set_cons_succ]
  refine ws_k rfl (fun K hK => ?_); go_simp; refine hK _ ?_; clear hK K
  refine ws_k rfl (fun K hK => ?_); go_simp; refine hK _ ?_; clear hK K
  refine ws_ck rfl (fun K hK => ?_); go_simp; refine ⟨_, _, ⟨rfl, rfl⟩, hK _ _ ⟨_, fun w' hw' => (pow10_any _ DB.out.p1 DB.out.s0 DB.out.s1 w'), ?_⟩⟩; clear hK K; simp only [put_lit, List.set_cons_zero, List.set_cons_succ]
  refine ws_ck rfl (fun K hK => ?_); go_simp; refine ⟨_, _, ⟨rfl, rfl⟩, hK _ _ ⟨_, fun w' hw' => (mul_any _ _ DB.out.m1 w'), ?_⟩⟩; clear hK K; simp only [put_lit, List.set_cons_zero, List.set_cons_succ]
  rintro p5 w9 ⟨hb1, hl5, hp5⟩
  have lt2 := heap_lt h2
  clear a0 a1 b0 b1
  replace h0 := below_look hb1 h0; replace h1 := below_look hb1 h1; replace h2 := below_look hb1 h2; replace hb := hb.trans (hb1.mono hb.size); clear hb1
  simp only [put_lit, List.set_cons_zero, List.set_cons_succ]
  ((with_reducible apply wl_put75); exact rfl; exact rfl; exact hp5; intro w10 hbx hk hq; replace h0 := hk _ _ (by omega) h0; replace h1 := hk _ _ (by omega) h1; replace h2 := hk _ _ (by omega) h2; replace hb := hbx _ _ (by omega) hb; clear hp5; have hp5 := hq; clear hbx hk hq)
  have a0 := dc0 h0
  have a1 := dc1 h0
  have b0 := dc0 h1
  have b1 := dc1 h1
  go_upto_region 7 with (fail)
  refine wp_region_tail_late 14 13 mixed (by kernel_rfl) (by kernel_rfl) ?_
  simp only [List.take_succ_cons, List.take_zero, List.drop_succ_cons, List.drop_zero]
  ((with_reducible apply wq_row); exact rfl; exact rfl; (intro w' hw'; first | exact rowL (below_look hw' (by with_reducible assumption)) | exact rowD (below_look hw' (by with_reducible assumption)) | exact rowR (below_look hw' (by with_reducible assumption))))
  refine wq_k rfl (fun K hK => ?_); go_simp; refine hK _ ?_; clear hK K
  ((with_reducible apply wq_one); exact rfl; exact rfl; (intro w' hw'; exact one_of u3 rfl (below_cell hw' (by with_reducible assumption))))
  refine wq_ck rfl (fun K hK => ?_); go_simp; refine ⟨_, _, ⟨rfl, rfl⟩, hK _ _ ⟨_, fun w' hw' => calls_class hw' (small_any _ DB.out.b1 DB.out.b2 w'), ?_⟩⟩; clear hK K; simp only [put_lit, List.set_cons_zero, List.set_cons_succ]
  refine wq_k rfl (fun K hK => ?_); go_simp; refine hK _ ?_; clear hK K
  ((with_reducible apply wq_one); exact rfl; exact rfl; (intro w' hw'; exact one_of u3 rfl (below_cell hw' (by with_reducible assumption))))
  refine wq_ck rfl (fun K hK => ?_); go_simp; refine ⟨_, _, ⟨rfl, rfl⟩, hK _ _ ⟨_, fun w' hw' => calls_class hw' (pow10_any _ DB.out.p2 DB.out.t0 DB.out.t1 w'), ?_⟩⟩; clear hK K; simp only [put_lit, List.set_cons_zero, List.set_cons_succ]
  refine wq_ck rfl (fun K hK => ?_); go_simp; refine ⟨_, _, ⟨rfl, rfl⟩, hK _ _ ⟨_, fun w' hw' => calls_class hw' (mul_any _ _ DB.out.m2 w'), ?_⟩⟩; clear hK K; simp only [put_lit, List.set_cons_zero, List.set_cons_succ]
  refine wq_k rfl (fun K hK => ?_); go_simp; refine hK _ ?_; clear hK K
  refine wq_ck rfl (fun K hK => ?_); go_simp; refine ⟨_, _, ⟨rfl, rfl⟩, hK _ _ ⟨_, fun w' hw' => calls_class hw' (rounded_any _ _ _ HRM.out DB.out.rb0 DB.out.rb1 DB.out.ra w'), ?_⟩⟩; clear hK K; simp only [put_lit, List.set_cons_zero, List.set_cons_succ]
  rw [← Hz.out]
  refine wq_k rfl (fun K hK => ?_); go_simp; refine hK _ ?_; clear hK K
  refine wq_ck rfl (fun K hK => ?_); go_simp; refine ⟨_, _, ⟨rfl, rfl⟩, hK _ _ ⟨_, fun w' hw' => calls_class hw' (made_any _ _ hzb.out _ _ _ hu hk he w'), ?_⟩⟩; clear hK K; simp only [put_lit, List.set_cons_zero, List.set_cons_succ]
  refine wq_k rfl (fun K hK => ?_); go_simp; refine hK _ ?_; clear hK K
  refine wq_k rfl (fun K hK => ?_); go_simp; refine hK _ ?_; clear hK K
  intro w11 hb1
  clear a0 a1 b0 b1
  replace h2 := below_look hb1 h2; replace hb := hb.trans (hb1.mono hb.size); clear hb1
  ((with_reducible apply wl_put33); exact rfl; exact rfl; exact h2; intro w12 hbx hk hq; replace hb := hbx _ _ (by omega) hb; clear h2; have h2 := hq; clear hbx hk hq)
  refine wl_k rfl (fun K hK => ?_); go_simp; refine hK _ ?_; clear hK K
  refine onlyN_nil ?_
  go_wp2_with fail
  exact bodyPost_ret (res_decErr rfl _ _ (w.heap.size + 1 + 1) rfl h2) rfl ⟨rfl, hb⟩
end Go.Proofs.YtclainfdeghgnaaGreatDoor
namespace Go.Proofs.YtclainfdeghgnaaGreatDoor
open Go.RowKit Go.Proofs.YtclainfdeghgnaaGreatDoor.Nm

theorem aw_rd1 : rdm ⟨#[49, 50, 55]⟩ = some 127 := by decide
theorem aw_rd2 : rdm ⟨#[49]⟩ = some 1 := by decide
theorem aw_bring (m : ByteArray) (hm : m.data.toList = [119, 114, 97, 112]) : bringW (8 : Int).toNat true m.toList (127 + 1) = (-128, 0) := by
  rw [ByteArray.toList_eq, hm]; decide
theorem aw_txt : txt (-128) = [45, 49, 50, 56] := by
  have h1 : dlen 128 = 3 := by rw [dlen_big (by decide), dlen_big (by decide), dlen_small (by decide)]
  unfold txt sgn
  rw [ng_def, show (-128 : Int).natAbs = 128 from rfl, h1]
  decide
theorem aw_Do (op a b md : ByteArray) (ho : op = ⟨#[43]⟩) (ha : a = ⟨#[49, 50, 55]⟩) (hb : b = ⟨#[49]⟩) (hmd : md = ⟨#[119, 114, 97, 112]⟩) (w : World) :
    Calls Tryz.prog 8 #[.string op, .string a, .string b, .int .i64 8, .bool true, .string md] w fun e w' => e = .returned (.tuple #[.string ⟨#[45, 49, 50, 56]⟩, .int .i64 0]) ∧ Below w.heap.size w w' := by
  have hol : op.data.toList = [43] := by rw [ho]
  have hml : md.data.toList = [119, 114, 97, 112] := by rw [hmd]
  have b64 : (127 : Int).natAbs + (1 : Int).natAbs < 10 ^ 64 := by decide
  refine Do_plain op a b md 8 true 127 1 (127 + 1) (-128) 0 (by rw [ha]; exact aw_rd1) (by rw [hb]; exact aw_rd2) (Lib.hid (by decide)) (Lib.hid (by rw [hml]; decide)) (Lib.hid (by rw [hol]; decide))
    (lit_eq hol rfl) (lit_eq hol rfl) (Lib.hid (by decide)) (Lib.hid (by decide)) (lit_eq hol rfl) (lit_eq hol rfl) (Lib.hid (exact_add op 8 true 127 1 hol (Lib.hid b64))) (Lib.hid (by decide)) (Lib.hid (aw_bring md hml)) (Lib.hid (by decide)) _ (Lib.hid fun _ => ?_) (Lib.hid fun h => absurd rfl h) w
  rw [aw_txt]
theorem aw_Div (m : ByteArray) (hm : m = ⟨#[104, 97, 108, 102]⟩) (w : World) :
    Calls Tryz.prog 9 #[.agg (dc 2 0), .agg (dc 3 0), .int .i64 2, .string m] w fun e' w' => e' = .returned (.tuple #[.agg (dc 67 2), .int .i64 0]) ∧ Below w.heap.size w w' := by
  have hml : m.data.toList = [104, 97, 108, 102] := by rw [hm]
  have db : DivBd 2 0 3 0 2 := ⟨by decide, by decide, by decide, by decide, by decide, by decide, by decide, by decide, by decide, by decide, by decide, by decide, by decide, by decide, by decide⟩
  have hz : (67 : Int) = roundS m.data.toList (2 * ((10 ^ ((0 : Int) + 2).toNat : Nat) : Int)) (3 * ((10 ^ (0 : Int).toNat : Nat) : Int)) := by
    rw [hml]; unfold roundS; rw [ng_def, ng_def]; decide
  exact Div_ok 2 0 3 0 2 m 0 (Lib.hid (by rw [hml]; decide)) rfl (by decide) (Lib.hid db) (by decide) (by decide) (by decide) (by decide) (Lib.hid (by rw [hml]; decide)) 67 2 0 67 (Lib.hid hz) (Lib.hid (by decide)) (Lib.hid (by decide)) (Lib.hid (by decide)) (Lib.hid (by decide)) w
theorem aw_Div2 (m : ByteArray) (hm : m = ⟨#[104, 97, 108, 102]⟩) (w : World) :
    Calls Tryz.prog 9 #[.agg #[.int .i64 2, .int .i64 0], .agg #[.int .i64 3, .int .i64 0], .int .i64 2, .string m] w fun e' w' => e' = .returned (.tuple #[.agg #[.int .i64 67, .int .i64 2], .int .i64 0]) ∧ Below w.heap.size w w' := aw_Div m hm w
set_option maxHeartbeats 400000 in
theorem awake_any (w : World) : Calls Tryz.prog 5 #[] w fun e w' => e = .returned (.bool true) ∧ Below w.heap.size w w' := by
  have l1 : ((ByteArray.mk #[45, 49, 50, 56]).toList == [45, 49, 50, 56]) = true := lit_eq (L := [45, 49, 50, 56]) rfl rfl
  go_enter Tryz.func5, Tryz.ntmps5
  go_upto_region 2 with (go_at_call 8; refine (aw_Do _ _ _ _ rfl rfl rfl rfl _).mono ?_; rintro e w1 ⟨rfl, hb⟩)
  go_upto_region 3 with (go_at_call 9; refine (aw_Div2 _ rfl _).mono ?_; rintro e w2 ⟨rfl, hb2⟩; replace hb := hb.trans (hb2.mono hb.size); clear hb2)
  go_wp2_with fail
  go_ret
  exact ⟨rfl, hb.alloc hb.size _⟩
end Go.Proofs.YtclainfdeghgnaaGreatDoor
