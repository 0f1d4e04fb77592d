/- Plain facts about decimal digits, carries, products and long division. No program in sight. Rows of 64 digits in memory: what a block of such cells reads as, behind a store, a draw, a new block. A region that draws its order, whose operations but for the last ones read, or call functions that hand back one value and keep the world in a class: one walk in the order of the text serves every order. The program's closed facts on digits and long numbers: their sizes, building, comparing, loading. The sum of two rows of digits. The difference of two rows of digits, and which one is greater. Long numbers: with a sign, out of an int, negated, compared, added, multiplied. Long numbers negated, added, multiplied. The sum of long numbers; which one is greater. Plain facts on a product of rows of digits: the columns' sums, and their carries. Rows of 64 ints; a digit out of a row by value. -/
import Init
import Derived.WalkKit
import Derived.WalkLawsBesides
import Derived.WalkSpells
import Derived.Deep.Quiet
import Derived.StillTail
import Derived.Deep.QuietTactic
import Derived.Deep.MidRow
import Derived.BigQuiet
import Derived.Lib.Hide
import Derived.Deep.Cut
import Derived.Test.YtclainfdeghgnaaGreatDoorRows
import Derived.ChangeKeysEq
import Derived.Laws.StructEq
import Derived.Outline
namespace Go.Proofs.YtclainfdeghgnaaGreatDoor.Nm
-- digits
def dg (n i : Nat) : Nat := n / 10 ^ i % 10

theorem dg_lt (n i : Nat) : dg n i < 10 := Nat.mod_lt _ (by decide)

theorem p10 (k : Nat) : 0 < 10 ^ k := Nat.pow_pos (by decide)

theorem mod_succ (n k : Nat) : n % 10 ^ (k + 1) = n % 10 ^ k + 10 ^ k * dg n k := by
  rw [Nat.pow_succ]; exact Nat.mod_mul

theorem div_add_p (a b p : Nat) (hp : 0 < p) : (a + b) / p = a / p + b / p + (a % p + b % p) / p := by
  have ha := Nat.div_add_mod a p
  have hb := Nat.div_add_mod b p
  have : a + b = (a % p + b % p) + p * (a / p + b / p) := by rw [Nat.mul_add]; omega
  rw [this, Nat.add_mul_div_left _ _ hp]
  have h1 : (a % p + b % p) / p = (a % p + b % p) / p := rfl
  omega

theorem carry_succ (a b k : Nat) : (a % 10 ^ (k + 1) + b % 10 ^ (k + 1)) / 10 ^ (k + 1) = ((a % 10 ^ k + b % 10 ^ k) / 10 ^ k + dg a k + dg b k) / 10 := by
  rw [mod_succ, mod_succ, Nat.pow_succ, ← Nat.div_div_eq_div_mul]
  have : a % 10 ^ k + 10 ^ k * dg a k + (b % 10 ^ k + 10 ^ k * dg b k) = (a % 10 ^ k + b % 10 ^ k) + 10 ^ k * (dg a k + dg b k) := by
    rw [Nat.mul_add]; omega
  rw [this, Nat.add_mul_div_left _ _ (p10 k), Nat.add_assoc]

theorem dg_add (a b k : Nat) : dg (a + b) k = ((a % 10 ^ k + b % 10 ^ k) / 10 ^ k + dg a k + dg b k) % 10 := by
  unfold dg; rw [div_add_p a b _ (p10 k)]; omega

def cy (a b k : Nat) : Nat := (a % 10 ^ k + b % 10 ^ k) / 10 ^ k
theorem cy_zero (a b : Nat) : cy a b 0 = 0 := by simp [cy, Nat.mod_one]
theorem cy_le (a b k : Nat) : cy a b k ≤ 1 := by
  unfold cy
  have h1 := Nat.mod_lt a (p10 k)
  have h2 := Nat.mod_lt b (p10 k)
  have : (a % 10 ^ k + b % 10 ^ k) / 10 ^ k < 2 := by rw [Nat.div_lt_iff_lt_mul (p10 k)]; omega
  omega
theorem add_mod10 (a b k : Nat) : (dg a k + dg b k + cy a b k) % 10 = dg (a + b) k := by
  rw [dg_add]; unfold cy; omega
theorem add_div10 (a b k : Nat) : (dg a k + dg b k + cy a b k) / 10 = cy a b (k + 1) := by
  unfold cy; rw [carry_succ]; omega

-- subtraction
def bw (a b k : Nat) : Nat := if a % 10 ^ k < b % 10 ^ k then 1 else 0
theorem bw_le (a b k : Nat) : bw a b k ≤ 1 := by unfold bw; split <;> omega
theorem bw_zero (a b : Nat) : bw a b 0 = 0 := by simp [bw, Nat.mod_one]
theorem bw_succ (a b k : Nat) : bw a b (k + 1) = 1 - (dg a k + 10 - dg b k - bw a b k) / 10 := by
  have ha := dg_lt a k
  have hb := dg_lt b k
  unfold bw
  rw [mod_succ, mod_succ]
  have h1 := Nat.mod_lt a (p10 k)
  have h2 := Nat.mod_lt b (p10 k)
  generalize a % 10 ^ k = ra at *
  generalize b % 10 ^ k = rb at *
  generalize 10 ^ k = p at *
  rcases Nat.lt_trichotomy (dg a k) (dg b k) with h | h | h
  · have : p * dg a k + p ≤ p * dg b k := by
      have := Nat.mul_le_mul_left p (show dg a k + 1 ≤ dg b k from h); rw [Nat.mul_add] at this; omega
    rw [if_pos (by omega)]; split <;> omega
  · rw [h]
    by_cases hr : ra < rb
    · rw [if_pos (by omega), if_pos hr]; omega
    · rw [if_neg (by omega), if_neg hr]; omega
  · have : p * dg b k + p ≤ p * dg a k := by
      have := Nat.mul_le_mul_left p (show dg b k + 1 ≤ dg a k from h); rw [Nat.mul_add] at this; omega
    rw [if_neg (by omega)]; split <;> omega
theorem dg_sub (a b k : Nat) (h : b ≤ a) : dg (a - b) k = (dg a k + 10 - dg b k - bw a b k) % 10 := by
  have e := add_mod10 (a - b) b k
  rw [show a - b + b = a from by omega] at e
  have hb : bw a b k = cy (a - b) b k := by
    unfold bw cy
    have hp := p10 k
    have h1 := Nat.mod_lt (a - b) hp
    have h2 := Nat.mod_lt b hp
    have h3 : a % 10 ^ k = ((a - b) % 10 ^ k + b % 10 ^ k) % 10 ^ k := by rw [← Nat.add_mod, show a - b + b = a from by omega]
    generalize (a - b) % 10 ^ k = x at *
    generalize b % 10 ^ k = y at *
    generalize 10 ^ k = p at *
    by_cases hx : x + y < p
    · rw [Nat.mod_eq_of_lt hx] at h3
      rw [Nat.div_eq_of_lt hx, if_neg (by omega)]
    · have h4 : (x + y) % p = x + y - p := by rw [Nat.mod_eq_sub_mod (by omega), Nat.mod_eq_of_lt (by omega)]
      rw [h4] at h3
      have h5 : (x + y) / p = 1 := by rw [Nat.div_eq_iff hp]; omega
      rw [h5, if_pos (by omega)]
  rw [hb]
  have := dg_lt (a - b) k
  have := dg_lt b k
  have := cy_le (a - b) b k
  omega

-- comparison: the digits above are equal, the digit at i parts them
theorem div_split (n i : Nat) : n / 10 ^ i = 10 * (n / 10 ^ (i + 1)) + dg n i := by
  rw [Nat.pow_succ, ← Nat.div_div_eq_div_mul]; unfold dg; omega
theorem high_eq {a b i : Nat} (he : a / 10 ^ (i + 1) = b / 10 ^ (i + 1)) (h : dg a i = dg b i) : a / 10 ^ i = b / 10 ^ i := by
  rw [div_split a i, div_split b i, he, h]

-- a row of digits as a number
def val (f : Nat → Nat) : Nat → Nat
  | 0 => 0
  | k + 1 => val f k + 10 ^ k * f k

theorem val_dg (n m : Nat) : val (dg n) m = n % 10 ^ m := by
  induction m with
  | zero => simp [val, Nat.mod_one]
  | succ m ih => rw [val, ih, mod_succ]

theorem val_congr {f g : Nat → Nat} {m : Nat} (h : ∀ i, i < m → f i = g i) : val f m = val g m := by
  induction m with
  | zero => rfl
  | succ m ih => rw [val, val, ih (fun i hi => h i (by omega)), h m (by omega)]

theorem val_add {f g : Nat → Nat} {m j x : Nat} (hj : j < m) (h : ∀ i, i < m → g i = if i = j then f i + x else f i) : val g m = val f m + 10 ^ j * x := by
  induction m with
  | zero => omega
  | succ m ih =>
    rw [val, val]
    by_cases hjm : j = m
    · subst hjm
      rw [val_congr (f := g) (g := f) (fun i hi => by rw [h i (by omega), if_neg (by omega)]), h j (by omega), if_pos rfl, Nat.mul_add]
      omega
    · rw [ih (by omega) (fun i hi => h i (by omega)), h m (by omega), if_neg (by omega)]
      omega

theorem val_lt {f : Nat → Nat} {m : Nat} (h : ∀ i, i < m → f i < 10) : val f m < 10 ^ m := by
  induction m with
  | zero => simp [val]
  | succ m ih =>
    have h1 := ih (fun i hi => h i (by omega))
    have h2 := Nat.mul_le_mul_left (10 ^ m) (show f m + 1 ≤ 10 from h m (by omega))
    rw [val, Nat.pow_succ]
    rw [Nat.mul_add] at h2
    omega

theorem dg_low (x y m k : Nat) (h : k < m) : dg (x + 10 ^ m * y) k = dg x k := by
  unfold dg
  obtain ⟨d, rfl⟩ := Nat.exists_eq_add_of_lt h
  have : 10 ^ (k + d + 1) * y = 10 ^ k * (10 * (10 ^ d * y)) := by
    rw [show k + d + 1 = k + (1 + d) from by omega, Nat.pow_add, Nat.pow_add, Nat.mul_assoc, Nat.mul_assoc]
  rw [this, Nat.add_mul_div_left _ _ (p10 k), Nat.add_mul_mod_self_left]

theorem dg_mod (n m k : Nat) (h : k < m) : dg (n % 10 ^ m) k = dg n k := by
  have := dg_low (n % 10 ^ m) (n / 10 ^ m) m k h
  rw [Nat.mod_add_div] at this
  exact this.symm

theorem dg_val {f : Nat → Nat} {m : Nat} (h : ∀ i, i < m → f i < 10) {k : Nat} (hk : k < m) : dg (val f m) k = f k := by
  induction m with
  | zero => omega
  | succ m ih =>
    have h1 := val_lt (fun i (hi : i < m) => h i (by omega))
    rw [val]
    by_cases e : k = m
    · subst e
      unfold dg
      rw [Nat.add_mul_div_left _ _ (p10 k), Nat.div_eq_of_lt h1]
      have := h k (by omega)
      omega
    · rw [dg_low _ _ _ _ (by omega), ih (fun i hi => h i (by omega)) (by omega)]

theorem eq_of_dg {a b m : Nat} (ha : a < 10 ^ m) (hb : b < 10 ^ m) (h : ∀ k, k < m → dg a k = dg b k) : a = b := by
  have h1 := val_dg a m
  have h2 := val_dg b m
  rw [Nat.mod_eq_of_lt ha] at h1
  rw [Nat.mod_eq_of_lt hb] at h2
  rw [← h1, ← h2]
  exact val_congr h

-- carrying
def cs (s : Nat → Nat) : Nat → Nat
  | 0 => 0
  | k + 1 => (s k + cs s k) / 10

theorem cs_val (s : Nat → Nat) (m : Nat) : val s m = val (fun k => (s k + cs s k) % 10) m + 10 ^ m * cs s m := by
  induction m with
  | zero => simp [val, cs]
  | succ m ih =>
    rw [val, val, ih, cs, Nat.pow_succ]
    have h := Nat.div_add_mod (s m + cs s m) 10
    have e : 10 ^ m * (s m + cs s m) = 10 ^ m * ((s m + cs s m) % 10) + 10 ^ m * 10 * ((s m + cs s m) / 10) := by
      rw [Nat.mul_assoc, ← Nat.mul_add]; congr 1; omega
    rw [Nat.mul_add] at e
    omega

theorem cs_dg (s : Nat → Nat) (m k : Nat) (hk : k < m) : dg (val s m) k = (s k + cs s k) % 10 := by
  rw [cs_val, dg_low _ _ _ _ hk]
  exact dg_val (f := fun k => (s k + cs s k) % 10) (fun i _ => Nat.mod_lt _ (by decide)) hk

theorem cs_le (s : Nat → Nat) (m : Nat) (h : ∀ i, i < m → s i ≤ 5184) (k : Nat) (hk : k ≤ m) : cs s k ≤ 576 := by
  induction k with
  | zero => simp [cs]
  | succ k ih => rw [cs]; have := ih (by omega); have := h k (by omega); omega

-- a product, row by row
theorem mul_row (a b i m : Nat) (hi : i ≤ m) : ((a % 10 ^ i) * b + dg a i * 10 ^ i * (b % 10 ^ (m - i))) % 10 ^ m = ((a % 10 ^ (i + 1)) * b) % 10 ^ m := by
  have e : 10 ^ i * (b % 10 ^ (m - i)) = (10 ^ i * b) % 10 ^ m := by
    have := Nat.mul_mod_mul_left (10 ^ i) b (10 ^ (m - i))
    rw [← Nat.pow_add, show i + (m - i) = m from by omega] at this
    exact this.symm
  rw [mod_succ, Nat.add_mul, Nat.mul_assoc (dg a i), e]
  rw [show 10 ^ i * dg a i * b = dg a i * (10 ^ i * b) from by rw [Nat.mul_comm (10 ^ i), Nat.mul_assoc]]
  rw [Nat.add_mod, Nat.mul_mod (dg a i) ((10 ^ i * b) % 10 ^ m), Nat.mod_mod, ← Nat.mul_mod, ← Nat.add_mod]

-- long division
theorem div_digit (a b i : Nat) (hb : 0 < b) : (a / 10 ^ i) / b = 10 * (a / 10 ^ (i + 1) / b) + (10 * (a / 10 ^ (i + 1) % b) + dg a i) / b := by
  rw [div_split a i]
  have h := Nat.div_add_mod (a / 10 ^ (i + 1)) b
  generalize a / 10 ^ (i + 1) / b = q at *
  generalize a / 10 ^ (i + 1) % b = r at *
  rw [← h, show 10 * (b * q + r) + dg a i = (10 * r + dg a i) + b * (10 * q) from by rw [Nat.mul_add, ← Nat.mul_assoc, Nat.mul_comm 10 b, Nat.mul_assoc]; omega]
  rw [Nat.add_mul_div_left _ _ hb]; omega
theorem rest_digit (a b i : Nat) : (10 * (a / 10 ^ (i + 1) % b) + dg a i) % b = (a / 10 ^ i) % b := by
  rw [div_split a i, Nat.add_mod, Nat.mul_mod, Nat.mod_mod, ← Nat.mul_mod, ← Nat.add_mod]
theorem quo_dg (a b i : Nat) (hb : 0 < b) : dg (a / b) i = (10 * (a / 10 ^ (i + 1) % b) + dg a i) / b := by
  have h := div_digit a b i hb
  have hlt : (10 * (a / 10 ^ (i + 1) % b) + dg a i) / b < 10 := by
    have := Nat.mod_lt (a / 10 ^ (i + 1)) hb
    have := dg_lt a i
    rw [Nat.div_lt_iff_lt_mul hb]; omega
  have e : dg (a / b) i = (a / 10 ^ i / b) % 10 := by unfold dg; rw [Nat.div_div_eq_div_mul, Nat.div_div_eq_div_mul, Nat.mul_comm]
  rw [e, h]
  generalize (10 * (a / 10 ^ (i + 1) % b) + dg a i) / b = y at *
  generalize a / 10 ^ (i + 1) / b = x at *
  clear h e
  omega
end Go.Proofs.YtclainfdeghgnaaGreatDoor.Nm
namespace Go.Proofs.YtclainfdeghgnaaGreatDoor.Nm
open Go.RowKit

/-- 64 cells of one byte each. -/
def row (f : Nat → Nat) : Array Value := ((List.range 64).map fun i => Value.int .u8 (f i : Int)).toArray
theorem row_size (f : Nat → Nat) : (row f).size = 64 := by simp [row]
theorem row_get (f : Nat → Nat) (i : Nat) (h : i < 64) : (row f)[i]? = some (.int .u8 (f i)) := by simp [row, h]
theorem row_set (f : Nat → Nat) (k x : Nat) (h : k < 64) : (row f).setIfInBounds k (.int .u8 x) = row (fun i => if i = k then x else f i) := by
  apply Array.ext_getElem?
  intro i
  by_cases hi : i < 64
  · rw [row_get _ _ hi, Array.getElem?_setIfInBounds]
    by_cases hk : k = i
    · subst hk; simp [row_size, h]
    · rw [if_neg hk, row_get _ _ hi, if_neg (Ne.symm hk)]
  · rw [Array.getElem?_eq_none (by simp [row_size]; omega), Array.getElem?_eq_none (by simp [row_size]; omega)]
theorem row_congr {f g : Nat → Nat} (h : ∀ i, i < 64 → f i = g i) : row f = row g := by
  unfold row; congr 1; apply List.map_congr_left; intro i hi; rw [h i (List.mem_range.1 hi)]
theorem row_one (f : Nat → Nat) : (row f).all (·.oneCell') = true := by simp [row, Value.oneCell']
/-- The digits of a number. -/
def dv (n : Nat) : Array Value := row (dg n)
theorem dv_size (n : Nat) : (dv n).size = 64 := row_size _
theorem dv_one (n : Nat) : (dv n).all (·.oneCell') = true := row_one _

theorem heap_lt {w : World} {g : Nat} {o : Obj} (h : w.heap[g]? = some o) : g < w.heap.size := (Array.getElem?_eq_some_iff.1 h).1

theorem below_cells {B : Nat} {w w' : World} (h : Below B w w') {g : Nat} (hg : g < B) {o : Obj} (ho : w.heap[g]? = some o) : w'.heap[g]? = some o := by rw [h.block g hg, ho]

theorem ha_new {w : World} {o : Obj} {k : Nat} (h : k = w.heap.size) : (w.alloc o).heap[k]? = some o := by subst h; exact heap_alloc_new w o
theorem ha_old {w : World} {o x : Obj} {k : Nat} (h : w.heap[k]? = some x) : (w.alloc o).heap[k]? = some x := by rw [heap_alloc_old w o (heap_lt h)]; exact h
theorem hs_old {w : World} {a : Addr} {v : Value} {x : Obj} {k : Nat} (h : w.heap[k]? = some x) (hne : k ≠ a.block) : (w.setCell a v).heap[k]? = some x := by rw [heap_setCell_other _ _ _ _ hne]; exact h
theorem hs_new {w : World} {g i : Nat} {cs : Array Value} {t : TypeId} {v : Value} (h : w.heap[g]? = some (.cells cs t (0, 0))) : (w.setCell ⟨g, i, none⟩ v).heap[g]? = some (.cells (cs.setIfInBounds i v) t (0, 0)) := heap_setCell_same w g i cs t v h
theorem hr_old {w : World} {g k : Nat} {cs : Array Value} {x : Obj} (h : w.heap[k]? = some x) (hne : k ≠ g) : (w.setRow g cs).heap[k]? = some x := by rw [setRow_other _ _ _ _ hne]; exact h
theorem hr_new {w : World} {g : Nat} {old cs : Array Value} {t : TypeId} (h : w.heap[g]? = some (.cells old t (0, 0))) : (w.setRow g cs).heap[g]? = some (.cells cs t (0, 0)) := setRow_heap w g old cs t (0, 0) h
theorem zero_row : (#[.int .u8 0, .int .u8 0, .int .u8 0, .int .u8 0, .int .u8 0, .int .u8 0, .int .u8 0, .int .u8 0, .int .u8 0, .int .u8 0, .int .u8 0, .int .u8 0, .int .u8 0, .int .u8 0, .int .u8 0, .int .u8 0, .int .u8 0, .int .u8 0, .int .u8 0, .int .u8 0, .int .u8 0, .int .u8 0, .int .u8 0, .int .u8 0, .int .u8 0, .int .u8 0, .int .u8 0, .int .u8 0, .int .u8 0, .int .u8 0, .int .u8 0, .int .u8 0, .int .u8 0, .int .u8 0, .int .u8 0, .int .u8 0, .int .u8 0, .int .u8 0, .int .u8 0, .int .u8 0, .int .u8 0, .int .u8 0, .int .u8 0, .int .u8 0, .int .u8 0, .int .u8 0, .int .u8 0, .int .u8 0, .int .u8 0, .int .u8 0, .int .u8 0, .int .u8 0, .int .u8 0, .int .u8 0, .int .u8 0, .int .u8 0, .int .u8 0, .int .u8 0, .int .u8 0, .int .u8 0, .int .u8 0, .int .u8 0, .int .u8 0, .int .u8 0] : Array Value) = row fun _ => 0 := rfl
theorem below_setRow {B : Nat} {a w : World} (h : Below B a w) {g : Nat} (hg : B ≤ g) (cs : Array Value) : Below B a (w.setRow g cs) :=
  h.trans ⟨by simp, rfl, rfl, by simp, fun k hk => setRow_other w g k cs (by omega)⟩
theorem below_drewN {B : Nat} {a w : World} (h : Below B a w) (n : Nat) : Below B a (w.drewN n) :=
  ⟨h.os, h.tape, h.output, h.size, h.block⟩
end Go.Proofs.YtclainfdeghgnaaGreatDoor.Nm
namespace Go.Proofs.YtclainfdeghgnaaGreatDoor.Nm
open Go.RowKit

section
variable {P : Program} {ops : Array Oper} {md : Region.Mode} {C : World → Prop}

def wpAnyK (P : Program) (md : Region.Mode) (ops : Array Oper) (C : World → Prop) (n : Nat) (L : Array Bool → Act → Prop) : Nat → Array Bool → Act → Prop
  | 0, listed, a => L listed a
  | f + 1, listed, a =>
    Region.ready md ops listed ≠ [] ∧ ∀ i ∈ Region.ready md ops listed, i < n ∧ qOp P ops C i (wpAnyK P md ops C n L f (listed.setIfInBounds i true)) a

theorem wpAny_of_headK {n g : Nat} {L : Array Bool → Act → Prop} {Q' : Exit → Act → World → Prop} (hL : ∀ listed a w, C w → L listed a → wpAny P md ops Q' g listed a w) :
    ∀ (f : Nat) (listed : Array Bool) (a : Act) (w : World), C w → wpAnyK P md ops C n L f listed a → wpAny P md ops Q' (f + g) listed a w
  | 0, listed, a, w, hw, h => by rw [Nat.zero_add]; exact hL _ _ _ hw h
  | f + 1, listed, a, w, hw, h => by
    rw [show f + 1 + g = (f + g) + 1 by omega]
    exact ⟨fun h0 => absurd h0 h.1, fun i hi => wpOp_of_qOp hw (fun a' w' hw' h' => wpAny_of_headK hL f _ a' w' hw' h') (h.2 i hi).2⟩

theorem wpAnyK_first {n i : Nat} {oi : Oper} {v : Value} {L : Array Bool → Act → Prop} (hi : ops[i]? = some oi) (hsel : ∀ (j : Nat) (o : Oper) cs b, ops[j]? = some o → o.op ≠ .select cs b)
    (hs : Region.sinkB md ops n = true) (hc : Region.chainB md ops n = true) (hn : n < ops.size) (hin : i < n)
    (hdone : ∀ listed a, L listed a → ∀ j ∈ Region.ready md ops listed, n ≤ j) :
    ∀ (f : Nat) (listed : Array Bool) (a : Act), HeadInv md ops n listed →
      (∀ j oj, ops[j]? = some oj → j ≠ i → listed.getD j true = false → (∀ e ∈ oj.after, Region.binds md e = true → e.on ≠ i) → oi.apart ops oj = true) →
      i ∈ Region.ready md ops listed → YieldsIn P ops C oi v a →
      wpAnyK P md ops C n L f (listed.setIfInBounds i true) (a.put oi.dst v) → wpAnyK P md ops C n L (f + 1) listed a := by
  intro f
  induction f with
  | zero =>
    intro listed a inv _ hr hy H
    have hun := (mem_ready.1 hr).1
    refine ⟨fun h => (by rw [h] at hr; cases hr), fun j hj => ?_⟩
    have hjn : j < n := by
      rcases Nat.lt_or_ge j n with h | h
      · exact h
      · exact absurd hj (tail_waits hs hc hn inv _ i rfl hin hun j h)
    refine ⟨hjn, ?_⟩
    by_cases hji : j = i
    · subst hji; exact hy.qOp hi H
    · have := hdone _ _ H j (ready_mono hj hji)
      omega
  | succ f ih =>
    intro listed a inv hfree hr hy H
    have hun := (mem_ready.1 hr).1
    refine ⟨fun h => (by rw [h] at hr; cases hr), fun j hj => ?_⟩
    have hjn : j < n := by
      rcases Nat.lt_or_ge j n with h | h
      · exact h
      · exact absurd hj (tail_waits hs hc hn inv _ i rfl hin hun j h)
    refine ⟨hjn, ?_⟩
    by_cases hji : j = i
    · subst hji; exact hy.qOp hi H
    · have h1 := (H.2 j (ready_mono hj hji)).2
      obtain ⟨hjun, oj, hoj, hall⟩ := mem_ready.1 hj
      have hnot : ∀ e ∈ oj.after, Region.binds md e = true → e.on ≠ i := fun e he hb heq => by
        have h1 := hall e he hb
        rw [heq, getD_both hun] at h1
        cases h1
      have h2 := qOp_put hoj (hfree j oj hoj hji hjun hnot) (fun cs b => hsel i oi cs b hi) (fun cs b => hsel j oj cs b hoj) hy h1
      have hfree' : ∀ k ok, ops[k]? = some ok → k ≠ i → (listed.setIfInBounds j true).getD k true = false →
          (∀ e ∈ ok.after, Region.binds md e = true → e.on ≠ i) → oi.apart ops ok = true := fun k ok hk hki hun hno => by
        refine hfree k ok hk hki ?_ hno
        by_cases hjk : j = k
        · subst hjk; exact hjun
        · rw [getD_set_ne true hjk] at hun; exact hun
      refine qOp_mono (fun a' h3 => ih (listed.setIfInBounds j true) a' (inv.set hj hjn) hfree' (ready_mono hr (Ne.symm hji)) h3.1 ?_) h2
      rw [Array.setIfInBounds_comm _ _ hji]
      exact h3.2

theorem wpAnyK_lex {n g : Nat} {Lq : Act → Prop} (hsel : Region.noSelect ops = true) (hs : Region.sinkB md ops n = true) (hc : Region.chainB md ops n = true) (hn : n < ops.size) :
    ∀ (l : List Oper) (k : Nat) (listed : Array Bool) (a : Act), (∀ j, j < l.length → l[j]? = ops[k + j]?) → k + l.length = n → HeadInv md ops n listed →
    Region.lexHead md ops g l.length k listed = true → wpQuiet P ops C Lq l a →
    wpAnyK P md ops C n (fun listed' a' => Region.seqB md ops g n listed' = true ∧ Lq a') l.length listed a
  | [], k, listed, a, _, hk, _, hB, h => by
    have : k = n := by simpa using hk
    subst this
    exact ⟨by simpa [Region.lexHead] using hB, h⟩
  | o :: l, k, listed, a, hl, hk, inv, hB, h => by
    have h0 : ops[k]? = some o := by simpa using (hl 0 (by simp)).symm
    simp only [List.length_cons, Region.lexHead, Bool.and_eq_true] at hB
    obtain ⟨⟨hr, hf⟩, hB'⟩ := hB
    have hkn : k < n := by simp only [List.length_cons] at hk; omega
    have hr' : k ∈ Region.ready md ops listed := by simpa using hr
    have hst : qOp P ops C k (wpQuiet P ops C Lq l) a := by unfold qOp; simp only [h0]; exact h
    obtain ⟨v, hy, hK⟩ := yieldsIn_of_qOp h0 hst
    exact wpAnyK_first h0 (Region.noSelect_spec hsel) hs hc hn hkn (fun listed' a' hL => seqB_ready hL.1) l.length listed a inv (Region.free_spec h0 hf) hr' hy
      (wpAnyK_lex hsel hs hc hn l (k + 1) _ _ (fun j hj => by have := hl (j + 1) (by simp; omega); simpa [Nat.add_assoc, Nat.add_comm 1 j] using this) (by simp only [List.length_cons] at hk; omega) (inv.set hr' hkn) hB' hK)

/-- The law. -/
theorem wp_region_tail {id : Nat} {Q : Exit → Act → World → Prop} {a : Act} {w : World} {l : List Oper} (C : World → Prop) (n : Nat) (hm : P.follows .mixedOrders = true) (hB : Region.lexTailB .any l.toArray n = true)
    (hC : C { w with drawn := w.drawn + 1 })
    (h : wpQuiet P l.toArray C (fun a' => ∀ w', C w' → wpList P l.toArray Q (l.drop n) a' w') (l.take n) a) : (Code.region id l.toArray true).wp P Q a w := by
  simp only [Region.lexTailB, Bool.and_eq_true, decide_eq_true_eq] at hB
  obtain ⟨⟨⟨⟨hsel, hn⟩, hs⟩, hc⟩, hlex⟩ := hB
  have hn' : n < l.length := by simpa using hn
  have htl : (l.take n).length = n := by simp; omega
  have hdl : (l.drop n).length = l.toArray.size - n := by simp
  have inv0 : HeadInv .any l.toArray n (Array.replicate l.toArray.size false) :=
    ⟨by simp, fun j oj _ hl => (by rw [getD_replicate_false] at hl; cases hl), fun t _ ht => getD_in (by simpa using ht) (getD_replicate_false _ _)⟩
  have H := wpAnyK_lex (C := C) (md := .any) (g := l.toArray.size - n) hsel hs hc hn (l.take n) 0 _ a (fun j hj => by
    have hj' : j < n := by rw [htl] at hj; exact hj
    simp [hj']) (by simpa using htl) inv0 (by rw [htl]; exact hlex) h
  refine wp_region_any hm ?_
  have := wpAny_of_headK (Q' := Q) (g := l.toArray.size - n) (fun listed a' w' hw' hL => by
    have := wpAny_of_seq (md := .any) (Q' := Q) (l.drop n) n listed a' w' (fun j => by simp [List.getElem?_drop]) (by rw [hdl]; exact hL.1) (hL.2 w' hw')
    rwa [hdl] at this) _ _ _ _ hC H
  rw [htl, show n + (l.toArray.size - n) = l.toArray.size by omega] at this
  exact this

/-- No tail: all operations quiet in the class. -/
theorem wp_region_class {id : Nat} {Q : Exit → Act → World → Prop} {a : Act} {w : World} {l : List Oper} (C : World → Prop) (hm : P.follows .mixedOrders = true) (hB : Region.lexB .any l.toArray = true) (hC : C { w with drawn := w.drawn + 1 })
    (h : wpQuiet P l.toArray C (fun a' => ∀ w', C w' → Q .normal a' w') l a) : (Code.region id l.toArray true).wp P Q a w :=
  wp_region_quiet (C := C) hm hB hC (by simpa using h)

/-- An operation that yields a value and leaves the world. -/
theorem wq_val {Q : Act → Prop} {a : Act} {o : Oper} {rest : List Oper} {v : Value} (hg : o.guard = none) (hv : ∀ w, C w → (execOp a.eval o).run P w = .ok (.value v) w)
    (h : wpQuiet P ops C Q rest (a.put o.dst v)) : wpQuiet P ops C Q (o :: rest) a := by
  unfold wpQuiet
  rw [if_pos (by simp [Region.wanted, hg])]
  exact ⟨v, fun w hw => by unfold Oper.quietAt; rw [hv w hw]; exact ⟨rfl, rfl⟩, h⟩
/-- A guarded operation, taken. -/
theorem wq_valG {Q : Act → Prop} {a : Act} {o : Oper} {rest : List Oper} {v : Value} (hg : Region.wanted o (yielded ops a.tmps) = true) (hv : ∀ w, C w → (execOp a.eval o).run P w = .ok (.value v) w)
    (h : wpQuiet P ops C Q rest (a.put o.dst v)) : wpQuiet P ops C Q (o :: rest) a := by
  unfold wpQuiet
  rw [if_pos hg]
  exact ⟨v, fun w hw => by unfold Oper.quietAt; rw [hv w hw]; exact ⟨rfl, rfl⟩, h⟩
theorem wq_callG {Q : Act → Prop} {a : Act} {o : Oper} {rest : List Oper} {v : Value} {f : FuncId} {args : Array Value} (hg : Region.wanted o (yielded ops a.tmps) = true) (hv : ∀ w, C w → (execOp a.eval o).run P w = .ok (.enter f args) w)
    (hc : ∀ w, C w → Calls P f args w fun e w' => e = .returned v ∧ C w')
    (h : wpQuiet P ops C Q rest (a.put o.dst v)) : wpQuiet P ops C Q (o :: rest) a := by
  unfold wpQuiet
  rw [if_pos hg]
  exact ⟨v, fun w hw => by unfold Oper.quietAt; rw [hv w hw]; exact ⟨rfl, hc w hw⟩, h⟩
/-- An operation that only reckons. -/
theorem wq_k {Q : Act → Prop} {a : Act} {o : Oper} {rest : List Oper} (hg : Region.wanted o (yielded ops a.tmps) = true)
    (h : ∀ K : Act → Prop, (∀ a', wpQuiet P ops C Q rest a' → K a') → ∃ v, (∀ w, (execOp a.eval o).run P w = .ok (.value v) w) ∧ K (a.put o.dst v)) : wpQuiet P ops C Q (o :: rest) a := by
  obtain ⟨v, hv, hk⟩ := h _ (fun _ h => h)
  exact wq_valG hg (fun w _ => hv w) hk
/-- A call, found by reckoning. -/
theorem wq_ck {Q : Act → Prop} {a : Act} {o : Oper} {rest : List Oper} (hg : Region.wanted o (yielded ops a.tmps) = true)
    (h : ∀ K : FuncId → Array Value → Prop, (∀ f args, (∃ v, (∀ w, C w → Calls P f args w fun e w' => e = .returned v ∧ C w') ∧ wpQuiet P ops C Q rest (a.put o.dst v)) → K f args) → ∃ f args, (∀ w, (execOp a.eval o).run P w = .ok (.enter f args) w) ∧ K f args) : wpQuiet P ops C Q (o :: rest) a := by
  obtain ⟨f, args, hv, v, hc, hk⟩ := h _ (fun _ _ h => h)
  exact wq_callG hg (fun w _ => hv w) hc hk
/-- A guarded operation, left out. -/
theorem wq_skip {Q : Act → Prop} {a : Act} {o : Oper} {rest : List Oper} (hg : Region.wanted o (yielded ops a.tmps) = false)
    (h : wpQuiet P ops C Q rest (a.put o.dst undef)) : wpQuiet P ops C Q (o :: rest) a := by
  unfold wpQuiet
  rw [if_neg (by simp [hg])]
  exact h
end

section
variable {P : Program}
/-- A whole row or struct, from an offset of a block that is known. -/
theorem ex_loadMid {ev : Operand → Value} {o : Oper} {w : World} (ty : TypeId) (x : Operand) (ho : o.op = .load ty x) (b off n : Nat) (hx : ev x = .pointer (some ⟨b, off, none⟩))
    {Cs : Array Value} {t : TypeId} {fr : Nat × Nat} (hb : w.heap[b]? = some (.cells Cs t fr)) {D : Array Value} (hD : Cs.extract off (off + n) = D) {d : TypeDesc}
    (hu : P.underlying ty = some d) (hd : d.isRow = true) (hn : D.size = n) (hi : (P.info? ty).map (·.size) = some n) :
    (execOp ev o).run P w = .ok (.value (.agg D)) w := by
  have h := World.rangeAt_of_block hb off n
  rw [hD] at h
  unfold execOp
  have := run_loadVar_mid (P := P) w b off ty D.toList d h hu hd (by rw [hi]; simp [hn])
  simp only [ho, hx, Instr.loadAt, Instr.sureAddr, Sem.run_bind, Sem.run_pure, Result.andThen_ok, this]
end

section
variable {P : Program}
/-- An operation of a plain region that yields a value and leaves the world. -/
theorem wl_val {ops : Array Oper} {rest : List Oper} {o : Oper} {a : Act} {w : World} {Q : Exit → Act → World → Prop} {v : Value} (hg : o.guard = none) (hv : (execOp a.eval o).run P w = .ok (.value v) w)
    (h : wpList P ops Q rest (a.put o.dst v) w) : wpList P ops Q (o :: rest) a w :=
  wpList_plain hg fun K hK => by unfold Oper.wp; rw [hv]; exact hK _ _ h
theorem wl_mid {ops : Array Oper} {rest : List Oper} {o : Oper} {a : Act} {w : World} {Q : Exit → Act → World → Prop} (hg : o.guard = none) (ty : TypeId) (x : Operand) (ho : o.op = .load ty x) (b off n : Nat) (hx : a.eval x = .pointer (some ⟨b, off, none⟩))
    {Cs : Array Value} {t : TypeId} {fr : Nat × Nat} (hb : w.heap[b]? = some (.cells Cs t fr)) {D : Array Value} (hD : Cs.extract off (off + n) = D) {d : TypeDesc}
    (hu : P.underlying ty = some d) (hd : d.isRow = true) (hn : D.size = n) (hi : (P.info? ty).map (·.size) = some n)
    (h : wpList P ops Q rest (a.put o.dst (.agg D)) w) : wpList P ops Q (o :: rest) a w :=
  wl_val hg (ex_loadMid ty x ho b off n hx hb hD hu hd hn hi) h
end

section
variable {P : Program}
/-- The world of a goal under a name, with what is known of it. -/
theorem wp_world {c : Code} {Q : Exit → Act → World → Prop} {a : Act} {w : World} (F : World → Prop) (hF : F w) (h : ∀ W, F W → c.wp P Q a W) : c.wp P Q a w := h w hF
theorem wl_world {ops : Array Oper} {l : List Oper} {Q : Exit → Act → World → Prop} {a : Act} {w : World} (F : World → Prop) (hF : F w) (h : ∀ W, F W → wpList P ops Q l a W) : wpList P ops Q l a w := h w hF
/-- A drawn region whose last operations stand behind all others, in the class of worlds in which nothing old has turned. -/
theorem wp_region_below {id : Nat} {Q : Exit → Act → World → Prop} {a : Act} {w : World} {l : List Oper} (n : Nat) (hm : P.follows .mixedOrders = true) (hB : Region.lexTailB .any l.toArray n = true)
    (h : wpQuiet P l.toArray (fun w' => Below w.heap.size w w') (fun a' => ∀ w', Below w.heap.size w w' → wpList P l.toArray Q (l.drop n) a' w') (l.take n) a) : (Code.region id l.toArray true).wp P Q a w :=
  wp_region_tail (fun w' => Below w.heap.size w w') n hm hB ((Below.refl _ w).drew) h
theorem wp_region_belowAll {id : Nat} {Q : Exit → Act → World → Prop} {a : Act} {w : World} {l : List Oper} (hm : P.follows .mixedOrders = true) (hB : Region.lexB .any l.toArray = true)
    (h : wpQuiet P l.toArray (fun w' => Below w.heap.size w w') (fun a' => ∀ w', Below w.heap.size w w' → Q .normal a' w') l a) : (Code.region id l.toArray true).wp P Q a w :=
  wp_region_class (fun w' => Below w.heap.size w w') hm hB ((Below.refl _ w).drew) h
theorem put_lit (l : List Value) (df : List Deferred) (d : Nat) (v : Value) : (Act.mk l.toArray df).put (some d) v = Act.mk (l.set d v).toArray df := by simp [Act.put]
theorem below_look {W w' : World} (h : Below W.heap.size W w') {g : Nat} {o : Obj} (ho : W.heap[g]? = some o) : w'.heap[g]? = some o := below_cells h (heap_lt ho) ho
theorem below_cell {W w' : World} (h : Below W.heap.size W w') {p : Addr} {v : Value} (hc : W.cell? p = some v) : w'.cell? p = some v := by rw [h.cell (block_lt_of_cell hc)]; exact hc
/-- A call in such a class: a contract that keeps what is old. -/
theorem calls_class {f : FuncId} {args : Array Value} {W w : World} {v : Value} (hw : Below W.heap.size W w) (h : Calls P f args w fun e w' => e = .returned v ∧ Below w.heap.size w w') :
    Calls P f args w fun e w' => e = .returned v ∧ Below W.heap.size W w' := h.mono fun _ _ ⟨he, hb⟩ => ⟨he, hw.trans (hb.mono hw.size)⟩
end

/-- Which of two rows of digits is the greater one: the difference of the first digits that part. -/
def cmpK (a b : Nat) : Nat → Int
  | 0 => 0
  | i + 1 => if dg a i = dg b i then cmpK a b i else (dg a i : Int) - dg b i
def cmpD (a b : Nat) : Int := cmpK a b 64
theorem cmpK_spec (a b : Nat) : ∀ k, (cmpK a b k < 0 → a % 10 ^ k < b % 10 ^ k) ∧ (cmpK a b k = 0 → a % 10 ^ k = b % 10 ^ k) ∧ (0 < cmpK a b k → b % 10 ^ k < a % 10 ^ k)
  | 0 => by simp [cmpK, Nat.mod_one]
  | k + 1 => by
    have ih := cmpK_spec a b k
    rw [mod_succ, mod_succ]
    have h1 := Nat.mod_lt a (p10 k)
    have h2 := Nat.mod_lt b (p10 k)
    unfold cmpK
    split
    · rename_i h; rw [h]
      exact ⟨fun x => by have := ih.1 x; omega, fun x => by have := ih.2.1 x; omega, fun x => by have := ih.2.2 x; omega⟩
    · rename_i h
      refine ⟨fun x => ?_, fun x => by omega, fun x => ?_⟩
      · have := Nat.mul_le_mul_left (10 ^ k) (show dg a k + 1 ≤ dg b k by omega); rw [Nat.mul_add] at this; omega
      · have := Nat.mul_le_mul_left (10 ^ k) (show dg b k + 1 ≤ dg a k by omega); rw [Nat.mul_add] at this; omega
theorem cmpD_spec {a b : Nat} (ha : a < 10 ^ 64) (hb : b < 10 ^ 64) : (cmpD a b < 0 ↔ a < b) ∧ (cmpD a b = 0 ↔ a = b) ∧ (0 < cmpD a b ↔ b < a) := by
  have h := cmpK_spec a b 64
  rw [Nat.mod_eq_of_lt ha, Nat.mod_eq_of_lt hb] at h
  unfold cmpD
  generalize cmpK a b 64 = c at *
  obtain ⟨h1, h2, h3⟩ := h
  rcases Int.lt_trichotomy c 0 with h | h | h
  · have := h1 h; omega
  · have := h2 h; omega
  · have := h3 h; omega
theorem cmpK_bd (a b : Nat) : ∀ k, -9 ≤ cmpK a b k ∧ cmpK a b k ≤ 9
  | 0 => by simp [cmpK]
  | k + 1 => by
    have := dg_lt a k; have := dg_lt b k
    unfold cmpK; split
    · exact cmpK_bd a b k
    · omega
theorem cmpD_bd (a b : Nat) : -9 ≤ cmpD a b ∧ cmpD a b ≤ 9 := cmpK_bd a b 64

/-- Below 0? -/
@[irreducible] def ng (z : Int) : Bool := decide (z < 0)
theorem ng_def (z : Int) : ng z = decide (z < 0) := by unfold ng; rfl
/-- A long number: its sign and its digits. -/
def lv (z : Int) : Array Value := #[.bool (ng z)] ++ dv z.natAbs
theorem lv_size (z : Int) : (lv z).size = 65 := by simp [lv, dv_size]
theorem lv_one (z : Int) : (lv z).all (·.oneCell') = true := by
  rw [Array.all_eq_true_iff_forall_mem]
  intro v hv
  simp only [lv, Array.mem_append] at hv
  rcases hv with hv | hv
  · simp at hv; subst hv; rfl
  · exact (Array.all_eq_true_iff_forall_mem.1 (dv_one z.natAbs)) v hv
theorem lv_neg (z : Int) : (lv z)[0]? = some (.bool (ng z)) := by unfold lv; rw [Array.getElem?_append_left (by simp)]; rfl
theorem lv_dig (z : Int) : (lv z).extract 1 (1 + 64) = dv z.natAbs := by
  unfold lv
  rw [Array.extract_append]
  simp [dv_size]
theorem dv_whole (n : Nat) : (dv n).extract 0 (0 + 64) = dv n := by rw [Array.extract_eq_self_of_le]; rw [dv_size]; omega
theorem lv_whole (z : Int) : (lv z).extract 0 (0 + 65) = lv z := by rw [Array.extract_eq_self_of_le]; rw [lv_size]; omega
/-- A number with a sign. -/
def sg (s : Bool) (n : Nat) : Int := if s then -(n : Int) else n
theorem lv_sg (s : Bool) (n : Nat) : lv (sg s n) = #[.bool (s && decide (n ≠ 0))] ++ dv n := by
  unfold lv sg
  simp only [ng_def]
  cases s
  · have : ¬ ((n : Int) < 0) := by omega
    simp [this]
  · have : (decide (-(n : Int) < 0)) = decide (n ≠ 0) := by rw [decide_eq_decide]; omega
    simp only [if_true, this, Int.natAbs_neg, Int.natAbs_natCast, Bool.true_and]
end Go.Proofs.YtclainfdeghgnaaGreatDoor.Nm
namespace Go.Proofs.YtclainfdeghgnaaGreatDoor
open Go.RowKit Go.Proofs.YtclainfdeghgnaaGreatDoor.Nm

theorem info73 : (Tryz.prog.info? 55).map (·.size) = some 64 := by kernel_rfl
theorem u73 : Tryz.prog.underlying 55 = some (.array 64 5) := by kernel_rfl
theorem info75 : (Tryz.prog.info? 57).map (·.size) = some 65 := by kernel_rfl
theorem u75 : Tryz.prog.underlying 57 = some (.struct (Tryz.prog.fieldsOf 57)) := by kernel_rfl
theorem info5 : (Tryz.prog.info? 5).map (·.size) = some 1 := by kernel_rfl
theorem info_of {P : Program} {t : TypeId} {n : Nat} (h : (P.info? t).map (·.size) = some n) : ∃ i, P.info? t = some i ∧ i.size = n := Option.map_eq_some_iff.1 h
theorem u5 : Tryz.prog.underlying 5 = some (.int .u8) := by kernel_rfl
theorem u4 : Tryz.prog.underlying 4 = some .bool := by kernel_rfl
theorem mixed : Tryz.prog.follows .mixedOrders = true := by kernel_rfl
theorem cells5 : Tryz.prog.cellsOf 5 = 1 := by kernel_rfl
theorem guard73 : Tryz.prog.eqGuardType Tryz.prog.depth 55 = false := by kernel_rfl
theorem built75 (b : Bool) (f : Nat → Nat) : Tryz.prog.built 57 [(0, .bool b), (1, .agg (row f))] = some (#[.bool b] ++ row f) := by kernel_rfl
theorem built73 : Tryz.prog.built 55 [] = some (row fun _ => 0) := by kernel_rfl
theorem built75n : Tryz.prog.built 57 [] = some (#[.bool false] ++ row fun _ => 0) := by kernel_rfl

theorem row_zero_dv : (row fun _ => 0) = dv 0 := row_congr fun i _ => by simp [dg]
theorem long_zero : (#[.bool false] ++ row fun _ => 0) = lv 0 := by rw [row_zero_dv]; unfold lv; rw [ng_def]; rfl

set_option maxRecDepth 10000 in
theorem zero_long : (#[.bool false, .int .u8 0, .int .u8 0, .int .u8 0, .int .u8 0, .int .u8 0, .int .u8 0, .int .u8 0, .int .u8 0, .int .u8 0, .int .u8 0, .int .u8 0, .int .u8 0, .int .u8 0, .int .u8 0, .int .u8 0, .int .u8 0, .int .u8 0, .int .u8 0, .int .u8 0, .int .u8 0, .int .u8 0, .int .u8 0, .int .u8 0, .int .u8 0, .int .u8 0, .int .u8 0, .int .u8 0, .int .u8 0, .int .u8 0, .int .u8 0, .int .u8 0, .int .u8 0, .int .u8 0, .int .u8 0, .int .u8 0, .int .u8 0, .int .u8 0, .int .u8 0, .int .u8 0, .int .u8 0, .int .u8 0, .int .u8 0, .int .u8 0, .int .u8 0, .int .u8 0, .int .u8 0, .int .u8 0, .int .u8 0, .int .u8 0, .int .u8 0, .int .u8 0, .int .u8 0, .int .u8 0, .int .u8 0, .int .u8 0, .int .u8 0, .int .u8 0, .int .u8 0, .int .u8 0, .int .u8 0, .int .u8 0, .int .u8 0, .int .u8 0, .int .u8 0] : Array Value) = lv 0 := by rw [← long_zero]; rfl

theorem eqItems_row (w : World) (d : Nat) (f g : Nat → Nat) : ∀ (is : List Nat), (∀ i ∈ is, i < 64) → (Op.eqItems (d + 1) 5 (Tryz.prog.cellsOf 5) (row f) (row g) is).run Tryz.prog w = .ok (is.all fun i => f i == g i) w
  | [], _ => by simp [Op.eqItems]
  | i :: is, h => by
    have hi := h i (by simp)
    have p1 : ∀ f : Nat → Nat, (part 5 (row f) (i * Tryz.prog.cellsOf 5)).run Tryz.prog w = .ok (.int .u8 (f i)) w := fun f =>
      run_part_plain w (by kernel_rfl) (by rw [cells5, Nat.mul_one]; exact row_get f i hi)
    simp only [Op.eqItems, Sem.run_bind, p1, Result.andThen_ok, run_equalIn_int w d 5 .u8 .u8 _ _ u5]
    by_cases e : f i = g i
    · simp [e, eqItems_row w d f g is (fun j hj => h j (by simp [hj]))]
    · have : ((f i : Int) == (g i : Int)) = false := by simp; omega
      simp [this, e]

theorem all_dg {a b : Nat} (ha : a < 10 ^ 64) (hb : b < 10 ^ 64) : ((List.range 64).all fun i => dg a i == dg b i) = decide (a = b) := by
  by_cases e : a = b
  · subst e; simp
  · rw [decide_eq_false e]
    cases h : (List.range 64).all fun i => dg a i == dg b i with
    | false => rfl
    | true =>
      exfalso; apply e
      refine eq_of_dg ha hb fun k hk => ?_
      have := List.all_eq_true.1 h k (List.mem_range.2 hk)
      simpa using this

theorem eq_digits (w : World) (d : Nat) {a b : Nat} (ha : a < 10 ^ 64) (hb : b < 10 ^ 64) : (Op.equalIn (d + 2) 55 (.agg (dv a)) (.agg (dv b))).run Tryz.prog w = .ok (decide (a = b)) w := by
  obtain ⟨i5, hi5, _⟩ := info_of info5
  rw [run_equalIn_array w (d + 1) _ _ u73 hi5, dv, dv, eqItems_row w d _ _ _ (fun i hi => List.mem_range.1 hi), all_dg ha hb]

theorem ex_neq73 {ev : Operand → Value} {o : Oper} {w : World} (x y : Operand) (yt : TypeId) (ho : o.op = .binOp .neq 55 x y yt) {a b : Nat} (hx : ev x = .agg (dv a)) (hy : ev y = .agg (dv b)) (ha : a < 10 ^ 64) (hb : b < 10 ^ 64) :
    (execOp ev o).run Tryz.prog w = .ok (.value (.bool (decide (a ≠ b)))) w := by
  unfold execOp
  simp only [ho, hx, hy, Sem.run_bind, run_eqGuard_agg w .neq 55 x y _ _ guard73, run_neq_struct, eq_digits w 9998 ha hb, Result.andThen_ok]
  simp

theorem ex_build {ev : Operand → Value} {o : Oper} {w : World} (t : TypeId) (parts : Array (Nat × Operand)) (ho : o.op = .build t parts) {D : Array Value} {L : List (Nat × Value)}
    (hL : parts.toList.map (fun ix => (ix.1, ev ix.2)) = L) (hb : Tryz.prog.built t L = some D) : (execOp ev o).run Tryz.prog w = .ok (.value (.agg D)) w := by
  unfold execOp
  have := run_build (P := Tryz.prog) w t (parts.map fun (i, x) => (i, ev x)) D (by rw [Array.toList_map]; exact (congrArg _ hL).trans hb)
  simp only [ho, Sem.run_bind, this, Result.andThen_ok]
  rfl

theorem built_sg (s : Bool) (n : Nat) : Tryz.prog.built 57 [(0, .bool (s && decide (n ≠ 0))), (1, .agg (dv n))] = some (lv (sg s n)) := by
  rw [lv_sg]; exact built75 _ (dg n)
theorem built_zero : Tryz.prog.built 55 [] = some (dv 0) := by rw [← row_zero_dv]; exact built73
theorem built_lzero : Tryz.prog.built 57 [] = some (lv 0) := by rw [← long_zero]; exact built75n
/-- A whole long number into a block of its size. -/
theorem wl_stLong {ops : Array Oper} {rest : List Oper} {o : Oper} {a : Act} {w : World} {Q : Exit → Act → World → Prop} (hg : o.guard = none) (x y : Operand) (ho : o.op = .store 57 x y) (b : Nat) (hx : a.eval x = .pointer (some ⟨b, 0, none⟩)) {z q : Int} (hy : a.eval y = .agg (lv z))
    (hb : w.heap[b]? = some (.cells (lv q) 57 (0, 0))) (h : wpList Tryz.prog ops Q rest (a.put o.dst undef) (w.setRow b (lv z))) : wpList Tryz.prog ops Q (o :: rest) a w :=
  wpList_store_row hg 57 x y ho b (lv z) hx hy 57 (lv q) hb (by rw [info75, lv_size]) (by rw [lv_size, lv_size]) (lv_one z) h
theorem wl_stDig {ops : Array Oper} {rest : List Oper} {o : Oper} {a : Act} {w : World} {Q : Exit → Act → World → Prop} (hg : o.guard = none) (x y : Operand) (ho : o.op = .store 55 x y) (b : Nat) (hx : a.eval x = .pointer (some ⟨b, 0, none⟩)) {z : Nat} {f : Nat → Nat} (hy : a.eval y = .agg (dv z))
    (hb : w.heap[b]? = some (.cells (row f) 55 (0, 0))) (h : wpList Tryz.prog ops Q rest (a.put o.dst undef) (w.setRow b (dv z))) : wpList Tryz.prog ops Q (o :: rest) a w :=
  wpList_store_row hg 55 x y ho b (dv z) hx hy 55 (row f) hb (by rw [info73, dv_size]) (by rw [dv_size, row_size]) (dv_one z) h
/-- A result that lies in a block. -/
theorem res_long {fn : Func} {p : Tmp} (h : fn.results = #[.cell p 57]) (tmps : Array Value) (w : World) (g : Nat) (hp : tmps.getD p undef = .pointer (some ⟨g, 0, none⟩)) {z : Int} (hg : w.heap[g]? = some (.cells (lv z) 57 (0, 0))) : (results fn tmps).run Tryz.prog w = .ok (.agg (lv z)) w :=
  results_cell_row h tmps w g 57 (lv z) (0, 0) _ hp hg u75 rfl (by rw [info75, lv_size])
theorem res_dig {fn : Func} {p : Tmp} (h : fn.results = #[.cell p 55]) (tmps : Array Value) (w : World) (g : Nat) (hp : tmps.getD p undef = .pointer (some ⟨g, 0, none⟩)) {z : Nat} (hg : w.heap[g]? = some (.cells (dv z) 55 (0, 0))) : (results fn tmps).run Tryz.prog w = .ok (.agg (dv z)) w :=
  results_cell_row h tmps w g 55 (dv z) (0, 0) _ hp hg u73 rfl (by rw [info73, dv_size])
theorem ld_row {ev : Operand → Value} {o : Oper} {w : World} (x : Operand) (ho : o.op = .load 55 x) (b : Nat) (hx : ev x = .pointer (some ⟨b, 0, none⟩)) {n : Nat} {t : TypeId} {fr : Nat × Nat} (hb : w.heap[b]? = some (.cells (dv n) t fr)) :
    (execOp ev o).run Tryz.prog w = .ok (.value (.agg (dv n))) w :=
  ex_loadMid 55 x ho b 0 64 hx hb (dv_whole n) u73 rfl (dv_size _) info73
/-- What a load of many cells hands back; of one. -/
@[irreducible] def RowAt (w : World) (ty : TypeId) (ad : Addr) (D : Array Value) : Prop := (loadVar ty ad).run Tryz.prog w = .ok (.agg D) w
@[irreducible] def OneAt (w : World) (ty : TypeId) (ad : Addr) (v : Value) : Prop := (loadVar ty ad).run Tryz.prog w = .ok v w
theorem ex_row {ev : Operand → Value} {dst : Option Tmp} {ty ty' : TypeId} {x : Operand} {pos : String} {after : Array Edge} {g : Option (Nat × Bool)} {w : World} {ad : Addr} {D : Array Value} (hx : ev x = .pointer (some ad)) (hr : RowAt w ty ad D) :
    (execOp ev ⟨dst, .load ty x, ty', pos, after, g⟩).run Tryz.prog w = .ok (.value (.agg D)) w := by
  unfold execOp
  simp only [hx, Instr.loadAt, Instr.sureAddr, Sem.run_bind, Sem.run_pure, Result.andThen_ok]
  unfold RowAt at hr
  rw [hr]
  rfl
theorem ex_one {ev : Operand → Value} {dst : Option Tmp} {ty ty' : TypeId} {x : Operand} {pos : String} {after : Array Edge} {g : Option (Nat × Bool)} {w : World} {ad : Addr} {v : Value} (hx : ev x = .pointer (some ad)) (hr : OneAt w ty ad v) :
    (execOp ev ⟨dst, .load ty x, ty', pos, after, g⟩).run Tryz.prog w = .ok (.value v) w := by
  unfold execOp
  simp only [hx, Instr.loadAt, Instr.sureAddr, Sem.run_bind, Sem.run_pure, Result.andThen_ok]
  unfold OneAt at hr
  rw [hr]
  rfl
section
variable {ops : Array Oper} {rest : List Oper} {dst : Option Tmp} {ty ty' : TypeId} {x : Operand} {pos : String} {after : Array Edge} {g : Option (Nat × Bool)} {a : Act} {w : World} {Q : Exit → Act → World → Prop} {q : Act → Prop} {C : World → Prop} {ad : Addr} {D : Array Value} {v : Value}
theorem wl_row (hx : a.eval x = .pointer (some ad)) (hr : RowAt w ty ad D) (h : wpList Tryz.prog ops Q rest (a.put dst (.agg D)) w) : wpList Tryz.prog ops Q (⟨dst, .load ty x, ty', pos, after, none⟩ :: rest) a w := wl_val rfl (ex_row hx hr) h
theorem wl_one (hx : a.eval x = .pointer (some ad)) (hr : OneAt w ty ad v) (h : wpList Tryz.prog ops Q rest (a.put dst v) w) : wpList Tryz.prog ops Q (⟨dst, .load ty x, ty', pos, after, none⟩ :: rest) a w := wl_val rfl (ex_one hx hr) h
theorem wq_row (hg : Region.wanted ⟨dst, .load ty x, ty', pos, after, g⟩ (yielded ops a.tmps) = true) (hx : a.eval x = .pointer (some ad)) (hr : ∀ w', C w' → RowAt w' ty ad D) (h : wpQuiet Tryz.prog ops C q rest (a.put dst (.agg D))) : wpQuiet Tryz.prog ops C q (⟨dst, .load ty x, ty', pos, after, g⟩ :: rest) a := wq_valG hg (fun w' hw' => ex_row hx (hr w' hw')) h
theorem wq_one (hg : Region.wanted ⟨dst, .load ty x, ty', pos, after, g⟩ (yielded ops a.tmps) = true) (hx : a.eval x = .pointer (some ad)) (hr : ∀ w', C w' → OneAt w' ty ad v) (h : wpQuiet Tryz.prog ops C q rest (a.put dst v)) : wpQuiet Tryz.prog ops C q (⟨dst, .load ty x, ty', pos, after, g⟩ :: rest) a := wq_valG hg (fun w' hw' => ex_one hx (hr w' hw')) h
end
theorem row_mid {w : World} {ty : TypeId} {b off n : Nat} {Cs : Array Value} {t : TypeId} {fr : Nat × Nat} (hb : w.heap[b]? = some (.cells Cs t fr)) {D : Array Value} (hD : Cs.extract off (off + n) = D) {d : TypeDesc}
    (hu : Tryz.prog.underlying ty = some d) (hd : d.isRow = true) (hn : D.size = n) (hi : (Tryz.prog.info? ty).map (·.size) = some n) : RowAt w ty ⟨b, off, none⟩ D := by
  have h := World.rangeAt_of_block hb off n
  rw [hD] at h
  have := run_loadVar_mid (P := Tryz.prog) w b off ty D.toList d h hu hd (by rw [hi]; simp [hn])
  unfold RowAt
  rw [this]
theorem rowL {w : World} {b : Nat} {z : Int} {t : TypeId} {fr : Nat × Nat} (hb : w.heap[b]? = some (.cells (lv z) t fr)) : RowAt w 57 ⟨b, 0, none⟩ (lv z) := row_mid hb (lv_whole z) u75 rfl (lv_size z) info75
theorem rowD {w : World} {b : Nat} {z : Int} {t : TypeId} {fr : Nat × Nat} (hb : w.heap[b]? = some (.cells (lv z) t fr)) : RowAt w 55 ⟨b, 1, none⟩ (dv z.natAbs) := row_mid hb (lv_dig z) u73 rfl (dv_size _) info73
theorem rowR {w : World} {b : Nat} {n : Nat} {t : TypeId} {fr : Nat × Nat} (hb : w.heap[b]? = some (.cells (dv n) t fr)) : RowAt w 55 ⟨b, 0, none⟩ (dv n) := row_mid hb (dv_whole n) u73 rfl (dv_size _) info73
theorem oneN {w : World} {b : Nat} {z : Int} {t : TypeId} {fr : Nat × Nat} (hb : w.heap[b]? = some (.cells (lv z) t fr)) : OneAt w 4 ⟨b, 0, none⟩ (.bool (ng z)) := by
  have hc : w.cell? ⟨b, 0, none⟩ = some (.bool (ng z)) := by rw [cell_of_row _ _ _ _ _ _ hb]; exact lv_neg z
  have hagg : (isAgg 4).run Tryz.prog w = .ok false w := by unfold isAgg; rw [Sem.run_bind, run_underlying u4 w]; simp
  unfold OneAt
  simp [loadVar, hagg, load, Sem.run, hc]
/-- Stores of many cells. -/
theorem wl_stL {ops : Array Oper} {rest : List Oper} {dst : Option Tmp} {ty' : TypeId} {x y : Operand} {pos : String} {after : Array Edge} {a : Act} {w : World} {Q : Exit → Act → World → Prop} {b : Nat} {z q : Int} (hx : a.eval x = .pointer (some ⟨b, 0, none⟩)) (hy : a.eval y = .agg (lv z))
    (hb : w.heap[b]? = some (.cells (lv q) 57 (0, 0))) (h : wpList Tryz.prog ops Q rest (a.put dst undef) (w.setRow b (lv z))) : wpList Tryz.prog ops Q (⟨dst, .store 57 x y, ty', pos, after, none⟩ :: rest) a w :=
  wl_stLong rfl x y rfl b hx hy hb h
theorem wl_stR {ops : Array Oper} {rest : List Oper} {dst : Option Tmp} {ty' : TypeId} {x y : Operand} {pos : String} {after : Array Edge} {a : Act} {w : World} {Q : Exit → Act → World → Prop} {b : Nat} {z n : Nat} (hx : a.eval x = .pointer (some ⟨b, 0, none⟩)) (hy : a.eval y = .agg (dv z))
    (hb : w.heap[b]? = some (.cells (dv n) 55 (0, 0))) (h : wpList Tryz.prog ops Q rest (a.put dst undef) (w.setRow b (dv z))) : wpList Tryz.prog ops Q (⟨dst, .store 55 x y, ty', pos, after, none⟩ :: rest) a w :=
  wl_stDig rfl x y rfl b hx hy hb h
end Go.Proofs.YtclainfdeghgnaaGreatDoor
namespace Go.Proofs.YtclainfdeghgnaaGreatDoor
open Go.RowKit Go.Proofs.YtclainfdeghgnaaGreatDoor.Nm


def ad (a b k i : Nat) : Nat := if i < k then dg (a + b) i else dg a i
theorem ad_step (a b k : Nat) (hk : k < 64) (v : Value) (hv : v = .int .u8 (dg (a + b) k)) : (row (ad a b k)).setIfInBounds k v = row (ad a b (k + 1)) := by
  subst hv; rw [row_set _ _ _ hk]; apply row_congr; intro i _; unfold ad; split
  · subst_vars; rw [if_pos (by omega)]
  · by_cases h : i < k
    · rw [if_pos h, if_pos (by omega)]
    · rw [if_neg h, if_neg (by omega)]
theorem ad_zero (a b : Nat) : row (ad a b 0) = dv a := row_congr fun i _ => by simp [ad]
theorem ad_end (a b : Nat) : row (ad a b 64) = dv (a + b) := row_congr fun i h => by simp [ad, h]

set_option maxHeartbeats 400000 in
theorem addDigits_any (a b : Nat) (w : World) :
    Calls Tryz.prog 63 #[.agg (dv a), .agg (dv b)] w fun e w' => e = .returned (.agg (dv (a + b))) ∧ Below w.heap.size w w' := by
  go_enter Tryz.func63, Tryz.ntmps63
  go_wp2
  go_loopw [5, 8] (fun c i wr => ∃ k : Nat, k ≤ 64 ∧ i = .int .i64 k ∧ c = .int .u8 (cy a b k) ∧ wr.heap[w.heap.size]? = some (.cells (row (ad a b k)) 55 (0, 0)) ∧ wr.heap[w.heap.size + 1]? = some (.cells (dv b) 55 (0, 0)) ∧ wr.heap[w.heap.size + 1 + 1]? = some (.cells (row fun _ => 0) 55 (0, 0)) ∧ Below w.heap.size w wr) (fun _ i _ => 64 - (intOf i).toNat)
  case atStart => 
    refine ⟨0, by omega, rfl, by rw [cy_zero]; rfl, ?_, ?_, ?_, ?_⟩
    · rw [ad_zero]; exact ha_old (ha_old (ha_new rfl))
    · exact ha_old (ha_new (by simp))
    · rw [← zero_row]; exact ha_new (by simp)
    · exact (((Below.refl _ _).alloc (Nat.le_refl _) _).alloc (by simp) _).alloc (by simp; omega) _
  case round =>
    obtain ⟨k, hk, rfl, rfl, hA, hB, hC, hb⟩ := hrel
    have cl := cy_le a b k
    by_cases hlt : k < 64
    · have ca : wr.cell? ⟨w.heap.size, k, none⟩ = some (.int .u8 (dg a k)) := by
        rw [cell_of_row _ _ _ _ _ _ hA, row_get _ _ hlt]; simp [ad]
      have cb : wr.cell? ⟨w.heap.size + 1, k, none⟩ = some (.int .u8 (dg b k)) := by
        rw [cell_of_row _ _ _ _ _ _ hB, dv, row_get _ _ hlt]
      have fa : wr.frozen? ⟨w.heap.size, k, none⟩ = false := frozen_of_row _ _ _ _ _ hA
      have da := dg_lt a k
      have db := dg_lt b k
      go_wp2
      go_quiet (fail)
      go_wp2
      go_roundw
      case rel =>
        have e1 := add_mod10 a b k
        have e2 := add_div10 a b k
        refine ⟨k + 1, hlt, by go_num, by rw [← e2]; go_num, ?_, ?_, ?_, ?_⟩
        · rw [heap_setCell_same (wr.drewN nq) _ _ _ _ _ hA, ad_step _ _ _ hlt _ (by rw [← e1]; go_num)]
        · rw [heap_setCell_other _ _ _ _ (by simp)]; exact hB
        · rw [heap_setCell_other _ _ _ _ (by simp; omega)]; exact hC
        · exact (below_drewN hb nq).setCell (Nat.le_refl _) _
      case measure => simp [intOf]; omega
    · obtain rfl : k = 64 := by omega
      rw [ad_end] at hA
      have hsz : wr.heap.size > w.heap.size + 1 + 1 := heap_lt hC
      go_wp2_with (first | (refine wpList_load_row rfl 55 _ rfl w.heap.size rfl 55 _ _ _ hA u73 rfl (by rw [info73, dv_size]) ?_) | (refine wpList_store_row rfl 55 _ _ rfl (w.heap.size + 1 + 1) _ rfl rfl 55 _ hC (by rw [info73, dv_size]) (by rw [row_size, dv_size]) (dv_one _) ?_))
      refine bodyPost_ret (v := .agg (dv (a + b))) (results_cell_row rfl _ _ (w.heap.size + 1 + 1) 55 _ (0, 0) _ rfl (setRow_heap _ _ _ _ _ _ hC) u73 rfl (by rw [info73, dv_size])) rfl ⟨rfl, ?_⟩
      exact below_setRow hb (by omega) _
end Go.Proofs.YtclainfdeghgnaaGreatDoor
namespace Go.Proofs.YtclainfdeghgnaaGreatDoor
open Go.RowKit Go.Proofs.YtclainfdeghgnaaGreatDoor.Nm

def sd (a b k i : Nat) : Nat := if i < k then dg (a - b) i else dg a i
theorem sd_step (a b k : Nat) (hk : k < 64) (v : Value) (hv : v = .int .u8 (dg (a - b) k)) : (row (sd a b k)).setIfInBounds k v = row (sd a b (k + 1)) := by
  subst hv; rw [row_set _ _ _ hk]; apply row_congr; intro i _; unfold sd; split
  · subst_vars; rw [if_pos (by omega)]
  · by_cases h : i < k
    · rw [if_pos h, if_pos (by omega)]
    · rw [if_neg h, if_neg (by omega)]
theorem sd_zero (a b : Nat) : row (sd a b 0) = dv a := row_congr fun i _ => by simp [sd]
theorem sd_end (a b : Nat) : row (sd a b 64) = dv (a - b) := row_congr fun i h => by simp [sd, h]

set_option maxHeartbeats 400000 in
theorem subDigits_any (a b : Nat) (hab : b ≤ a) (w : World) :
    Calls Tryz.prog 81 #[.agg (dv a), .agg (dv b)] w fun e w' => e = .returned (.agg (dv (a - b))) ∧ Below w.heap.size w w' := by
  have HAB := Lib.hid hab; clear hab
  go_enter Tryz.func81, Tryz.ntmps81
  go_wp2
  go_loopw [5, 8] (fun c i wr => ∃ k : Nat, k ≤ 64 ∧ i = .int .i64 k ∧ c = .int .u8 (bw a b k) ∧ wr.heap[w.heap.size]? = some (.cells (row (sd a b k)) 55 (0, 0)) ∧ wr.heap[w.heap.size + 1]? = some (.cells (dv b) 55 (0, 0)) ∧ wr.heap[w.heap.size + 1 + 1]? = some (.cells (row fun _ => 0) 55 (0, 0)) ∧ Below w.heap.size w wr) (fun _ i _ => 64 - (intOf i).toNat)
  case atStart => 
    refine ⟨0, by omega, rfl, by rw [bw_zero]; rfl, ?_, ?_, ?_, ?_⟩
    · rw [sd_zero]; exact ha_old (ha_old (ha_new rfl))
    · exact ha_old (ha_new (by simp))
    · rw [← zero_row]; exact ha_new (by simp)
    · exact (((Below.refl _ _).alloc (Nat.le_refl _) _).alloc (by simp) _).alloc (by simp; omega) _
  case round =>
    obtain ⟨k, hk, rfl, rfl, hA, hB, hC, hb⟩ := hrel
    have cl := bw_le a b k
    by_cases hlt : k < 64
    · have ca : wr.cell? ⟨w.heap.size, k, none⟩ = some (.int .u8 (dg a k)) := by
        rw [cell_of_row _ _ _ _ _ _ hA, row_get _ _ hlt]; simp [sd]
      have cb : wr.cell? ⟨w.heap.size + 1, k, none⟩ = some (.int .u8 (dg b k)) := by
        rw [cell_of_row _ _ _ _ _ _ hB, dv, row_get _ _ hlt]
      have fa : wr.frozen? ⟨w.heap.size, k, none⟩ = false := frozen_of_row _ _ _ _ _ hA
      have da := dg_lt a k
      have db := dg_lt b k
      go_wp2
      go_quiet (fail)
      go_wp2
      go_roundw
      case rel =>
        have e1 := dg_sub a b k HAB.out
        have e2 := bw_succ a b k
        refine ⟨k + 1, hlt, by go_num, by rw [e2]; congr 1; omega, ?_, ?_, ?_, ?_⟩
        · exact (hs_new (w := wr.drewN nq) hA).trans (by rw [sd_step _ _ _ hlt _ (by rw [e1]; congr 1; omega)])
        · exact hs_old (w := wr.drewN nq) hB (by simp)
        · exact hs_old (w := wr.drewN nq) hC (by simp; omega)
        · exact (below_drewN hb nq).setCell (Nat.le_refl _) _
      case measure => simp [intOf]; omega
    · obtain rfl : k = 64 := by omega
      rw [sd_end] at hA
      have hsz : wr.heap.size > w.heap.size + 1 + 1 := heap_lt hC
      go_wp2_with (first | (refine wl_mid rfl 55 _ rfl w.heap.size 0 64 rfl hA (dv_whole _) u73 rfl (dv_size _) info73 ?_) | (refine wpList_store_row rfl 55 _ _ rfl (w.heap.size + 1 + 1) _ rfl rfl 55 _ hC (by rw [info73, dv_size]) (by rw [row_size, dv_size]) (dv_one _) ?_))
      refine bodyPost_ret (v := .agg (dv (a - b))) (results_cell_row rfl _ _ (w.heap.size + 1 + 1) 55 _ (0, 0) _ rfl (hr_new hC) u73 rfl (by rw [info73, dv_size])) rfl ⟨rfl, ?_⟩
      exact below_setRow hb (by omega) _

set_option maxHeartbeats 400000 in
theorem compareDigits_any (a b : Nat) (w : World) :
    Calls Tryz.prog 47 #[.agg (dv a), .agg (dv b)] w fun e w' => e = .returned (.int .i64 (cmpD a b)) ∧ Below w.heap.size w w' := by
  go_enter Tryz.func47, Tryz.ntmps47
  go_wp2
  go_loopw [5] (fun i wr => ∃ k : Nat, k ≤ 64 ∧ i = .int .i64 ((k : Int) - 1) ∧ cmpD a b = cmpK a b k ∧ wr.heap[w.heap.size]? = some (.cells (dv a) 55 (0, 0)) ∧ wr.heap[w.heap.size + 1]? = some (.cells (dv b) 55 (0, 0)) ∧ Below w.heap.size w wr) (fun i _ => (intOf i + 1).toNat)
  case atStart => 
    refine ⟨64, by omega, rfl, rfl, ?_, ?_, ?_⟩
    · exact ha_old (ha_new rfl)
    · exact ha_new (by simp)
    · exact ((Below.refl _ _).alloc (Nat.le_refl _) _).alloc (by simp) _
  case round =>
    obtain ⟨k, hk, rfl, hc, hA, hB, hb⟩ := hrel
    by_cases hlt : 0 < k
    · obtain ⟨j, rfl⟩ : ∃ j, k = j + 1 := ⟨k - 1, by omega⟩
      have ej : ((j + 1 : Nat) : Int) - 1 = (j : Int) := by omega
      rw [ej]
      clear ej
      have ca : wr.cell? ⟨w.heap.size, j, none⟩ = some (.int .u8 (dg a j)) := by
        rw [cell_of_row _ _ _ _ _ _ hA, dv, row_get _ _ (by omega)]
      have cb : wr.cell? ⟨w.heap.size + 1, j, none⟩ = some (.int .u8 (dg b j)) := by
        rw [cell_of_row _ _ _ _ _ _ hB, dv, row_get _ _ (by omega)]
      have da := dg_lt a j
      have db := dg_lt b j
      have HC := Lib.hid hc
      clear hc
      by_cases he : dg a j = dg b j
      · have hne : ((dg b j : Int) != dg b j) = false := by simp
        rw [he] at ca
        go_wp2
        go_quiet (fail)
        go_wp2
        go_roundw
        case rel =>
          refine ⟨j, by omega, by go_num, ?_, hA, hB, below_drewN hb _⟩
          rw [HC.out, cmpK, if_pos he]
        case measure => simp [intOf]
      · have hne : ((dg a j : Int) != dg b j) = true := by simp; omega
        go_wp2
        go_quiet (fail)
        go_wp2
        go_quiet (fail)
        go_wp2
        go_ret
        refine ⟨?_, below_drewN (below_drewN hb _) _⟩
        rw [HC.out, cmpK, if_neg he]
        rfl
    · obtain rfl : k = 0 := by omega
      go_wp2
      go_ret
      refine ⟨?_, hb⟩
      rw [hc, cmpK]
      rfl
end Go.Proofs.YtclainfdeghgnaaGreatDoor
namespace Go.Proofs.YtclainfdeghgnaaGreatDoor
open Go.RowKit Go.Proofs.YtclainfdeghgnaaGreatDoor.Nm

set_option maxHeartbeats 400000 in
theorem signed_any (n : Nat) (s : Bool) (hn : n < 10 ^ 64) (w : World) :
    Calls Tryz.prog 48 #[.agg (dv n), .bool s] w fun e w' => e = .returned (.agg (lv (sg s n))) ∧ Below w.heap.size w w' := by
  have HN := Lib.hid hn; clear hn
  have hz : (0 : Nat) < 10 ^ 64 := p10 64
  have HZ := Lib.hid hz; clear hz
  have HS0 : Hid (Tryz.prog.built 57 [(0, .bool (s && decide (n ≠ 0))), (1, .agg (dv n))] = some (lv (sg s n))) := built_sg s n
  cases s
  all_goals
    go_enter Tryz.func48, Tryz.ntmps48
    go_wp2
    refine wp_world (fun W => W.heap[w.heap.size]? = some (.cells (dv n) 55 (0, 0)) ∧ W.heap[w.heap.size + 1]? = some (.cells (lv 0) 57 (0, 0)) ∧ Below w.heap.size w W)
      ⟨ha_old (ha_new rfl), by rw [← zero_long]; exact ha_new (by simp), ((Below.refl _ _).alloc (Nat.le_refl _) _).alloc (by simp) _⟩ ?_
    rintro W ⟨h0, h1, hb⟩
    refine wp_region_below 8 mixed (by kernel_rfl) ?_
    simp only [List.take_succ_cons, List.take_zero, List.drop_succ_cons, List.drop_zero]
    refine wq_k rfl (fun K hK => ?_); go_simp; refine hK _ ?_; clear hK K
    refine wq_k rfl (fun K hK => ?_); go_simp; refine hK _ ?_; clear hK K
  · refine wq_skip rfl ?_
    refine wq_skip rfl ?_
    refine wq_skip rfl ?_
    refine wq_k rfl (fun K hK => ?_); go_simp; refine hK _ ?_; clear hK K
    refine wq_val rfl (fun w' hw' => ld_row _ rfl _ rfl (below_cells hw' (heap_lt h0) h0)) ?_
    refine wq_val rfl (fun w' hw' => ex_build 57 _ rfl (L := [(0, .bool false), (1, .agg (dv n))]) rfl HS0.out) ?_
    intro w' hw'
    refine wl_stLong rfl _ _ rfl (w.heap.size + 1) rfl rfl (below_cells hw' (heap_lt h1) h1) ?_
    go_wp2
    refine bodyPost_ret (res_long rfl _ _ (w.heap.size + 1) rfl (hr_new (below_cells hw' (heap_lt h1) h1))) rfl ⟨rfl, ?_⟩
    exact below_setRow (hb.trans (hw'.mono hb.size)) (by omega) _
  · refine wq_valG rfl (fun w' hw' => ld_row _ rfl _ rfl (below_cells hw' (heap_lt h0) h0)) ?_
    refine wq_valG rfl (fun w' hw' => ex_build 55 _ rfl (L := []) rfl built_zero) ?_
    refine wq_valG rfl (fun w' hw' => ex_neq73 _ _ _ rfl rfl rfl HN.out HZ.out) ?_
    refine wq_k rfl (fun K hK => ?_); go_simp; refine hK _ ?_; clear hK K
    refine wq_val rfl (fun w' hw' => ld_row _ rfl _ rfl (below_cells hw' (heap_lt h0) h0)) ?_
    refine wq_val rfl (fun w' hw' => ex_build 57 _ rfl (L := [(0, .bool (!decide (n = 0))), (1, .agg (dv n))]) rfl (by have h := HS0.out; simpa using h)) ?_
    intro w' hw'
    refine wl_stLong rfl _ _ rfl (w.heap.size + 1) rfl rfl (below_cells hw' (heap_lt h1) h1) ?_
    go_wp2
    refine bodyPost_ret (res_long rfl _ _ (w.heap.size + 1) rfl (hr_new (below_cells hw' (heap_lt h1) h1))) rfl ⟨rfl, ?_⟩
    exact below_setRow (hb.trans (hw'.mono hb.size)) (by omega) _
end Go.Proofs.YtclainfdeghgnaaGreatDoor
namespace Go.Proofs.YtclainfdeghgnaaGreatDoor
open Go.RowKit Go.Proofs.YtclainfdeghgnaaGreatDoor.Nm

theorem sg_minus (z : Int) : sg (!ng z) z.natAbs = -z := by rw [ng_def]; unfold sg; by_cases h : z < 0 <;> simp [h] <;> omega

set_option maxHeartbeats 400000 in
theorem minus_any (z : Int) (hz : z.natAbs < 10 ^ 64) (w : World) :
    Calls Tryz.prog 51 #[.agg (lv z)] w fun e w' => e = .returned (.agg (lv (-z))) ∧ Below w.heap.size w w' := by
  have HZ := Lib.hid hz; clear hz
  go_enter Tryz.func51, Tryz.ntmps51
  go_upto_region 1 with (fail)
  refine wp_world (fun W => W.heap[w.heap.size]? = some (.cells (lv z) 57 (0, 0)) ∧ W.heap[w.heap.size + 1]? = some (.cells (lv 0) 57 (0, 0)) ∧ Below w.heap.size w W)
    ⟨ha_old (ha_new rfl), by rw [← zero_long]; exact ha_new (by simp), ((Below.refl _ _).alloc (Nat.le_refl _) _).alloc (by simp) _⟩ ?_
  rintro W ⟨h0, h1, hb⟩
  go_wp2_with (first | ((with_reducible apply wl_row); exact rfl; (first | exact rowL (by with_reducible assumption) | exact rowD (by with_reducible assumption) | exact rowR (by with_reducible assumption))) | ((with_reducible apply wl_one); exact rfl; exact oneN (by with_reducible assumption)) | ((with_reducible apply wl_stL); exact rfl; exact rfl; with_reducible assumption) | ((with_reducible apply wl_stR); exact rfl; exact rfl; with_reducible assumption) | (go_at_call 48; refine (signed_any _ _ HZ.out _).mono ?_; rintro e w1 ⟨rfl, hb1⟩; have h1' := below_look hb1 h1))
  refine bodyPost_ret (res_long rfl _ _ (w.heap.size + 1) rfl (hr_new h1')) rfl ⟨by rw [sg_minus], ?_⟩
  exact below_setRow (hb.trans (hb1.mono hb.size)) (by omega) _
end Go.Proofs.YtclainfdeghgnaaGreatDoor
namespace Go.Proofs.YtclainfdeghgnaaGreatDoor
open Go.RowKit Go.Proofs.YtclainfdeghgnaaGreatDoor.Nm

theorem add_same {a b : Int} (h : (ng a == ng b) = true) : sg (ng a) (a.natAbs + b.natAbs) = a + b := by
  rw [ng_def, ng_def] at h; rw [ng_def]; unfold sg
  have h' : (a < 0) ↔ (b < 0) := by simpa using h
  by_cases hx : a < 0 <;> simp [hx] <;> omega
theorem add_big {a b : Int} (h : (ng a == ng b) = false) (hl : b.natAbs ≤ a.natAbs) : sg (ng a) (a.natAbs - b.natAbs) = a + b := by
  rw [ng_def, ng_def] at h; rw [ng_def]; unfold sg
  have h' : ¬ ((a < 0) ↔ (b < 0)) := by simpa using h
  by_cases hx : a < 0 <;> simp [hx] <;> omega
theorem add_less {a b : Int} (h : (ng a == ng b) = false) (hl : a.natAbs ≤ b.natAbs) : sg (ng b) (b.natAbs - a.natAbs) = a + b := by
  rw [ng_def, ng_def] at h; rw [ng_def]; unfold sg
  have h' : ¬ ((a < 0) ↔ (b < 0)) := by simpa using h
  by_cases hx : b < 0 <;> simp [hx] <;> omega

set_option maxHeartbeats 400000 in
theorem add_any (a b : Int) (hz : a.natAbs + b.natAbs < 10 ^ 64) (w : World) :
    Calls Tryz.prog 50 #[.agg (lv a), .agg (lv b)] w fun e w' => e = .returned (.agg (lv (a + b))) ∧ Below w.heap.size w w' := by
  have HZ := Lib.hid hz
  have HA := Lib.hid (show a.natAbs < 10 ^ 64 from by omega)
  have HB := Lib.hid (show b.natAbs < 10 ^ 64 from by omega)
  clear hz
  by_cases hs : (ng a == ng b) = true
  · go_enter Tryz.func50, Tryz.ntmps50
    go_upto_region 1 with (fail)
    refine wp_world (fun W => W.heap[w.heap.size]? = some (.cells (lv a) 57 (0, 0)) ∧ W.heap[w.heap.size + 1]? = some (.cells (lv b) 57 (0, 0)) ∧ W.heap[w.heap.size + 1 + 1]? = some (.cells (lv 0) 57 (0, 0)) ∧ Below w.heap.size w W) ⟨ha_old (ha_old (ha_new rfl)), ha_old (ha_new (by simp)), by rw [← zero_long]; exact ha_new (by simp), (((Below.refl _ _).alloc (Nat.le_refl _) _).alloc (by simp) _).alloc (by simp; omega) _⟩ ?_
    rintro W ⟨h0, h1, h2, hb⟩
    go_upto_region 2 with (go_big_may; first | ((with_reducible apply wl_row); exact rfl; (first | exact rowL (by with_reducible assumption) | exact rowD (by with_reducible assumption) | exact rowR (by with_reducible assumption))) | ((with_reducible apply wl_one); exact rfl; exact oneN (by with_reducible assumption)) | ((with_reducible apply wl_stL); exact rfl; exact rfl; with_reducible assumption) | ((with_reducible apply wl_stR); exact rfl; exact rfl; with_reducible assumption))
    refine wp_region_below 8 mixed (by kernel_rfl) ?_; simp only [List.take_succ_cons, List.take_zero, List.drop_succ_cons, List.drop_zero]
    refine wq_k rfl (fun K hK => ?_); go_simp; refine hK _ ?_; clear hK K
    ((with_reducible apply wq_row); exact rfl; exact rfl; (intro w' hw'; first | exact rowL (below_look hw' (by with_reducible assumption)) | exact rowD (below_look hw' (by with_reducible assumption)) | exact rowR (below_look hw' (by with_reducible assumption))))
    refine wq_k rfl (fun K hK => ?_); go_simp; refine hK _ ?_; clear hK K
    ((with_reducible apply wq_row); exact rfl; exact rfl; (intro w' hw'; first | exact rowL (below_look hw' (by with_reducible assumption)) | exact rowD (below_look hw' (by with_reducible assumption)) | exact rowR (below_look hw' (by with_reducible assumption))))
    refine wq_ck rfl (fun K hK => ?_); go_simp; refine ⟨_, _, ⟨rfl, rfl⟩, hK _ _ ⟨_, fun w' hw' => calls_class hw' (addDigits_any _ _ w'), ?_⟩⟩; clear hK K; simp only [put_lit, List.set_cons_zero, List.set_cons_succ]
    refine wq_k rfl (fun K hK => ?_); go_simp; refine hK _ ?_; clear hK K
    ((with_reducible apply wq_one); exact rfl; exact rfl; (intro w' hw'; exact oneN (below_look hw' (by with_reducible assumption))))
    refine wq_ck rfl (fun K hK => ?_); go_simp; refine ⟨_, _, ⟨rfl, rfl⟩, hK _ _ ⟨_, fun w' hw' => calls_class hw' (signed_any _ _ HZ.out w'), ?_⟩⟩; clear hK K; simp only [put_lit, List.set_cons_zero, List.set_cons_succ]
    intro w' hw'
    have h2' := below_look hw' h2
    go_wp2_with (first | ((with_reducible apply wl_row); exact rfl; (first | exact rowL (by with_reducible assumption) | exact rowD (by with_reducible assumption) | exact rowR (by with_reducible assumption))) | ((with_reducible apply wl_one); exact rfl; exact oneN (by with_reducible assumption)) | ((with_reducible apply wl_stL); exact rfl; exact rfl; with_reducible assumption) | ((with_reducible apply wl_stR); exact rfl; exact rfl; with_reducible assumption))
    refine bodyPost_ret (res_long rfl _ _ (w.heap.size + 1 + 1) rfl (hr_new h2')) rfl ⟨by rw [add_same hs], ?_⟩
    exact below_setRow (hb.trans (hw'.mono hb.size)) (by omega) _
  · replace hs : (ng a == ng b) = false := by simpa using hs
    have hc := cmpD_spec HA.out HB.out
    have hcb := cmpD_bd a.natAbs b.natAbs
    by_cases hl : b.natAbs ≤ a.natAbs
    · have hge : 0 ≤ cmpD a.natAbs b.natAbs := by omega
      have HL := Lib.hid hl
      have HD := Lib.hid (show a.natAbs - b.natAbs < 10 ^ 64 from by have := HA.out; omega)
      clear hc hl
      go_enter Tryz.func50, Tryz.ntmps50
      go_upto_region 1 with (fail)
      refine wp_world (fun W => W.heap[w.heap.size]? = some (.cells (lv a) 57 (0, 0)) ∧ W.heap[w.heap.size + 1]? = some (.cells (lv b) 57 (0, 0)) ∧ W.heap[w.heap.size + 1 + 1]? = some (.cells (lv 0) 57 (0, 0)) ∧ Below w.heap.size w W) ⟨ha_old (ha_old (ha_new rfl)), ha_old (ha_new (by simp)), by rw [← zero_long]; exact ha_new (by simp), (((Below.refl _ _).alloc (Nat.le_refl _) _).alloc (by simp) _).alloc (by simp; omega) _⟩ ?_
      rintro W ⟨h0, h1, h2, hb⟩
      go_upto_region 4 with (go_big_may; first | ((with_reducible apply wl_row); exact rfl; (first | exact rowL (by with_reducible assumption) | exact rowD (by with_reducible assumption) | exact rowR (by with_reducible assumption))) | ((with_reducible apply wl_one); exact rfl; exact oneN (by with_reducible assumption)) | ((with_reducible apply wl_stL); exact rfl; exact rfl; with_reducible assumption) | ((with_reducible apply wl_stR); exact rfl; exact rfl; with_reducible assumption) | (go_at_call 47; refine (compareDigits_any _ _ _).mono ?_; rintro e w1 ⟨rfl, hb1⟩))
      have hbb := hb.trans (hb1.mono hb.size)
      replace h0 := below_look hb1 h0
      replace h1 := below_look hb1 h1
      replace h2 := below_look hb1 h2
      refine wp_region_below 8 mixed (by kernel_rfl) ?_; simp only [List.take_succ_cons, List.take_zero, List.drop_succ_cons, List.drop_zero]
      refine wq_k rfl (fun K hK => ?_); go_simp; refine hK _ ?_; clear hK K
      ((with_reducible apply wq_row); exact rfl; exact rfl; (intro w' hw'; first | exact rowL (below_look hw' (by with_reducible assumption)) | exact rowD (below_look hw' (by with_reducible assumption)) | exact rowR (below_look hw' (by with_reducible assumption))))
      refine wq_k rfl (fun K hK => ?_); go_simp; refine hK _ ?_; clear hK K
      ((with_reducible apply wq_row); exact rfl; exact rfl; (intro w' hw'; first | exact rowL (below_look hw' (by with_reducible assumption)) | exact rowD (below_look hw' (by with_reducible assumption)) | exact rowR (below_look hw' (by with_reducible assumption))))
      refine wq_ck rfl (fun K hK => ?_); go_simp; refine ⟨_, _, ⟨rfl, rfl⟩, hK _ _ ⟨_, fun w' hw' => calls_class hw' (subDigits_any _ _ HL.out w'), ?_⟩⟩; clear hK K; simp only [put_lit, List.set_cons_zero, List.set_cons_succ]
      refine wq_k rfl (fun K hK => ?_); go_simp; refine hK _ ?_; clear hK K
      ((with_reducible apply wq_one); exact rfl; exact rfl; (intro w' hw'; exact oneN (below_look hw' (by with_reducible assumption))))
      refine wq_ck rfl (fun K hK => ?_); go_simp; refine ⟨_, _, ⟨rfl, rfl⟩, hK _ _ ⟨_, fun w' hw' => calls_class hw' (signed_any _ _ HD.out w'), ?_⟩⟩; clear hK K; simp only [put_lit, List.set_cons_zero, List.set_cons_succ]
      intro w' hw'
      have h2' := below_look hw' h2
      go_wp2_with (first | ((with_reducible apply wl_row); exact rfl; (first | exact rowL (by with_reducible assumption) | exact rowD (by with_reducible assumption) | exact rowR (by with_reducible assumption))) | ((with_reducible apply wl_one); exact rfl; exact oneN (by with_reducible assumption)) | ((with_reducible apply wl_stL); exact rfl; exact rfl; with_reducible assumption) | ((with_reducible apply wl_stR); exact rfl; exact rfl; with_reducible assumption))
      refine bodyPost_ret (res_long rfl _ _ (w.heap.size + 1 + 1) rfl (hr_new h2')) rfl ⟨by rw [add_big hs HL.out], ?_⟩
      exact below_setRow (hbb.trans (hw'.mono hbb.size)) (by omega) _
    · have hge : cmpD a.natAbs b.natAbs < 0 := by omega
      have HL := Lib.hid (show a.natAbs ≤ b.natAbs from by omega)
      have HD := Lib.hid (show b.natAbs - a.natAbs < 10 ^ 64 from by have := HB.out; omega)
      clear hc hl
      go_enter Tryz.func50, Tryz.ntmps50
      go_upto_region 1 with (fail)
      refine wp_world (fun W => W.heap[w.heap.size]? = some (.cells (lv a) 57 (0, 0)) ∧ W.heap[w.heap.size + 1]? = some (.cells (lv b) 57 (0, 0)) ∧ W.heap[w.heap.size + 1 + 1]? = some (.cells (lv 0) 57 (0, 0)) ∧ Below w.heap.size w W) ⟨ha_old (ha_old (ha_new rfl)), ha_old (ha_new (by simp)), by rw [← zero_long]; exact ha_new (by simp), (((Below.refl _ _).alloc (Nat.le_refl _) _).alloc (by simp) _).alloc (by simp; omega) _⟩ ?_
      rintro W ⟨h0, h1, h2, hb⟩
      go_upto_region 5 with (go_big_may; first | ((with_reducible apply wl_row); exact rfl; (first | exact rowL (by with_reducible assumption) | exact rowD (by with_reducible assumption) | exact rowR (by with_reducible assumption))) | ((with_reducible apply wl_one); exact rfl; exact oneN (by with_reducible assumption)) | ((with_reducible apply wl_stL); exact rfl; exact rfl; with_reducible assumption) | ((with_reducible apply wl_stR); exact rfl; exact rfl; with_reducible assumption) | (go_at_call 47; refine (compareDigits_any _ _ _).mono ?_; rintro e w1 ⟨rfl, hb1⟩))
      have hbb := hb.trans (hb1.mono hb.size)
      replace h0 := below_look hb1 h0
      replace h1 := below_look hb1 h1
      replace h2 := below_look hb1 h2
      refine wp_region_below 8 mixed (by kernel_rfl) ?_; simp only [List.take_succ_cons, List.take_zero, List.drop_succ_cons, List.drop_zero]
      refine wq_k rfl (fun K hK => ?_); go_simp; refine hK _ ?_; clear hK K
      ((with_reducible apply wq_row); exact rfl; exact rfl; (intro w' hw'; first | exact rowL (below_look hw' (by with_reducible assumption)) | exact rowD (below_look hw' (by with_reducible assumption)) | exact rowR (below_look hw' (by with_reducible assumption))))
      refine wq_k rfl (fun K hK => ?_); go_simp; refine hK _ ?_; clear hK K
      ((with_reducible apply wq_row); exact rfl; exact rfl; (intro w' hw'; first | exact rowL (below_look hw' (by with_reducible assumption)) | exact rowD (below_look hw' (by with_reducible assumption)) | exact rowR (below_look hw' (by with_reducible assumption))))
      refine wq_ck rfl (fun K hK => ?_); go_simp; refine ⟨_, _, ⟨rfl, rfl⟩, hK _ _ ⟨_, fun w' hw' => calls_class hw' (subDigits_any _ _ HL.out w'), ?_⟩⟩; clear hK K; simp only [put_lit, List.set_cons_zero, List.set_cons_succ]
      refine wq_k rfl (fun K hK => ?_); go_simp; refine hK _ ?_; clear hK K
      ((with_reducible apply wq_one); exact rfl; exact rfl; (intro w' hw'; exact oneN (below_look hw' (by with_reducible assumption))))
      refine wq_ck rfl (fun K hK => ?_); go_simp; refine ⟨_, _, ⟨rfl, rfl⟩, hK _ _ ⟨_, fun w' hw' => calls_class hw' (signed_any _ _ HD.out w'), ?_⟩⟩; clear hK K; simp only [put_lit, List.set_cons_zero, List.set_cons_succ]
      intro w' hw'
      have h2' := below_look hw' h2
      go_wp2_with (first | ((with_reducible apply wl_row); exact rfl; (first | exact rowL (by with_reducible assumption) | exact rowD (by with_reducible assumption) | exact rowR (by with_reducible assumption))) | ((with_reducible apply wl_one); exact rfl; exact oneN (by with_reducible assumption)) | ((with_reducible apply wl_stL); exact rfl; exact rfl; with_reducible assumption) | ((with_reducible apply wl_stR); exact rfl; exact rfl; with_reducible assumption))
      refine bodyPost_ret (res_long rfl _ _ (w.heap.size + 1 + 1) rfl (hr_new h2')) rfl ⟨by rw [add_less hs HL.out], ?_⟩
      exact below_setRow (hbb.trans (hw'.mono hbb.size)) (by omega) _
end Go.Proofs.YtclainfdeghgnaaGreatDoor
namespace Go.Proofs.YtclainfdeghgnaaGreatDoor.Nm

/-- The columns behind row 'k' of the product, 'j' digits of it done. -/
structure MulInv (a b k j : Nat) (s : Nat → Nat) : Prop where
  bd : ∀ m, m < 64 → s m ≤ 81 * k + (if k ≤ m ∧ m < k + j then 81 else 0)
  eq : val s 64 % 10 ^ 64 = ((a % 10 ^ k) * b + dg a k * 10 ^ k * (b % 10 ^ j)) % 10 ^ 64

theorem MulInv.start (a b : Nat) : MulInv a b 0 0 (fun _ => 0) := ⟨fun m _ => by simp, by
  have : val (fun _ => 0) 64 = 0 := by
    have h : ∀ m, val (fun _ => 0) m = 0 := fun m => by induction m with | zero => rfl | succ m ih => rw [val, ih]; simp
    exact h 64
  rw [this]; simp [Nat.mod_one]⟩

def upd (s : Nat → Nat) (p x : Nat) : Nat → Nat := fun i => if i = p then s i + x else s i

theorem MulInv.step {a b k j : Nat} {s : Nat → Nat} (h : MulInv a b k j s) (hkj : k + j < 64) : MulInv a b k (j + 1) (upd s (k + j) (dg a k * dg b j)) := by
  have hx : dg a k * dg b j ≤ 81 := Nat.mul_le_mul (show dg a k ≤ 9 by have := dg_lt a k; omega) (show dg b j ≤ 9 by have := dg_lt b j; omega)
  refine ⟨fun m hm => ?_, ?_⟩
  · have := h.bd m hm
    unfold upd
    split
    · subst_vars
      rw [if_neg (by omega)] at this
      rw [if_pos (by omega)]; omega
    · split at this
      · rw [if_pos (by omega)]; omega
      · split <;> omega
  · rw [val_add (f := s) (g := upd s (k + j) (dg a k * dg b j)) (x := dg a k * dg b j) hkj (fun i _ => rfl), Nat.add_mod, h.eq, ← Nat.add_mod]
    congr 1
    rw [mod_succ b j, Nat.mul_add, ← Nat.add_assoc]
    congr 1
    rw [Nat.pow_add]
    generalize dg a k = x; generalize dg b j = y; generalize 10 ^ k = p; generalize 10 ^ j = q
    grind

theorem MulInv.next {a b k j : Nat} {s : Nat → Nat} (h : MulInv a b k j s) (hj : dg a k = 0 ∧ j = 0 ∨ k + j = 64) : MulInv a b (k + 1) 0 s := by
  refine ⟨fun m hm => ?_, ?_⟩
  · have := h.bd m hm
    have e : ¬ (k + 1 ≤ m ∧ m < k + 1 + 0) := by omega
    rw [if_neg e]
    split at this <;> omega
  · rw [h.eq]
    rcases hj with ⟨hd, rfl⟩ | hj
    · rw [mod_succ a k, hd]; simp [Nat.mod_one]
    · have := mul_row a b k 64 (by omega)
      rw [show 64 - k = j from by omega] at this
      rw [this]; simp [Nat.mod_one]

theorem MulInv.dig {a b : Nat} {s : Nat → Nat} (h : MulInv a b 64 0 s) (k : Nat) (hk : k < 64) : dg (a * b) k = (s k + cs s k) % 10 := by
  rw [← cs_dg s 64 k hk, ← dg_mod (val s 64) 64 k hk, h.eq, ← dg_mod (a * b) 64 k hk]
  congr 1
  simp only [Nat.pow_zero, Nat.mod_one, Nat.mul_zero, Nat.add_zero]
  rw [Nat.mul_mod (a % 10 ^ 64) b, Nat.mod_mod, ← Nat.mul_mod]
theorem MulInv.le {a b k j : Nat} {s : Nat → Nat} (h : MulInv a b k j s) (hk : k ≤ 63) (m : Nat) (hm : m < 64) : s m ≤ 5184 := by
  have := h.bd m hm
  split at this <;> omega
theorem MulInv.le' {a b : Nat} {s : Nat → Nat} (h : MulInv a b 64 0 s) (m : Nat) (hm : m < 64) : s m ≤ 5184 := by
  have := h.bd m hm
  rw [if_neg (by omega)] at this
  omega
end Go.Proofs.YtclainfdeghgnaaGreatDoor.Nm
namespace Go.Proofs.YtclainfdeghgnaaGreatDoor
open Go.RowKit Go.Proofs.YtclainfdeghgnaaGreatDoor.Nm

namespace Nm
def rowI (f : Nat → Nat) : Array Value := ((List.range 64).map fun i => Value.int .i64 (f i : Int)).toArray
theorem rowI_size (f : Nat → Nat) : (rowI f).size = 64 := by simp [rowI]
theorem rowI_get (f : Nat → Nat) (i : Nat) (h : i < 64) : (rowI f)[i]? = some (.int .i64 (f i)) := by simp [rowI, h]
theorem rowI_set (f : Nat → Nat) (k x : Nat) (h : k < 64) : (rowI f).setIfInBounds k (.int .i64 x) = rowI (fun i => if i = k then x else f i) := by
  apply Array.ext_getElem?
  intro i
  by_cases hi : i < 64
  · rw [rowI_get _ _ hi, Array.getElem?_setIfInBounds]
    by_cases hk : k = i
    · subst hk; simp [rowI_size, h]
    · rw [if_neg hk, rowI_get _ _ hi, if_neg (Ne.symm hk)]
  · rw [Array.getElem?_eq_none (by simp [rowI_size]; omega), Array.getElem?_eq_none (by simp [rowI_size]; omega)]
theorem rowI_congr {f g : Nat → Nat} (h : ∀ i, i < 64 → f i = g i) : rowI f = rowI g := by
  unfold rowI; congr 1; apply List.map_congr_left; intro i hi; rw [h i (List.mem_range.1 hi)]
theorem rowI_whole (f : Nat → Nat) : (rowI f).extract 0 (0 + 64) = rowI f := by rw [Array.extract_eq_self_of_le]; rw [rowI_size]; omega
set_option maxRecDepth 10000 in
theorem zero_rowI : (#[.int .i64 0, .int .i64 0, .int .i64 0, .int .i64 0, .int .i64 0, .int .i64 0, .int .i64 0, .int .i64 0, .int .i64 0, .int .i64 0, .int .i64 0, .int .i64 0, .int .i64 0, .int .i64 0, .int .i64 0, .int .i64 0, .int .i64 0, .int .i64 0, .int .i64 0, .int .i64 0, .int .i64 0, .int .i64 0, .int .i64 0, .int .i64 0, .int .i64 0, .int .i64 0, .int .i64 0, .int .i64 0, .int .i64 0, .int .i64 0, .int .i64 0, .int .i64 0, .int .i64 0, .int .i64 0, .int .i64 0, .int .i64 0, .int .i64 0, .int .i64 0, .int .i64 0, .int .i64 0, .int .i64 0, .int .i64 0, .int .i64 0, .int .i64 0, .int .i64 0, .int .i64 0, .int .i64 0, .int .i64 0, .int .i64 0, .int .i64 0, .int .i64 0, .int .i64 0, .int .i64 0, .int .i64 0, .int .i64 0, .int .i64 0, .int .i64 0, .int .i64 0, .int .i64 0, .int .i64 0, .int .i64 0, .int .i64 0, .int .i64 0, .int .i64 0] : Array Value) = rowI fun _ => 0 := rfl
theorem rowI_upd (s : Nat → Nat) (p x : Nat) (h : p < 64) (v : Value) (hv : v = .int .i64 ((s p + x : Nat) : Int)) : (rowI s).setIfInBounds p v = rowI (upd s p x) := by
  subst hv; rw [rowI_set _ _ _ h]; apply rowI_congr; intro i _; unfold upd; split <;> simp_all
end Nm

theorem info156 : (Tryz.prog.info? 122).map (·.size) = some 64 := by kernel_rfl
theorem u156 : Tryz.prog.underlying 122 = some (.array 64 3) := by kernel_rfl
theorem rowS {w : World} {b : Nat} {f : Nat → Nat} {t : TypeId} {fr : Nat × Nat} (hb : w.heap[b]? = some (.cells (rowI f) t fr)) : RowAt w 122 ⟨b, 0, none⟩ (rowI f) := row_mid hb (rowI_whole f) u156 rfl (rowI_size f) info156
theorem one_of {w : World} {ty : TypeId} {ad : Addr} {v : Value} {d : TypeDesc} (hu : Tryz.prog.underlying ty = some d) (hd : d.isRow = false) (hc : w.cell? ad = some v) : OneAt w ty ad v := by
  have hagg : (isAgg ty).run Tryz.prog w = .ok false w := by
    unfold isAgg
    rw [Sem.run_bind, run_underlying hu w]
    cases d <;> simp_all
  unfold OneAt
  simp [loadVar, hagg, load, Sem.run, hc]
theorem u3 : Tryz.prog.underlying 3 = some (.int .i64) := by kernel_rfl
section
variable {ops : Array Oper} {rest : List Oper} {dst : Option Tmp} {ty ty' : TypeId} {x ix : Operand} {pos : String} {after : Array Edge} {a : Act} {w : World} {Q : Exit → Act → World → Prop}
theorem run_index73 (w : World) (f : Nat → Nat) (k : Nat) (hk : k < 64) : (Instr.index 55 (.agg (row f)) (.int .i64 k)).run Tryz.prog w = .ok (.int .u8 (f k)) w := by
  obtain ⟨i, hi, hs⟩ := info_of info5
  have hp : (part 5 (row f) k).run Tryz.prog w = .ok (.int .u8 (f k)) w := run_part_plain w (by kernel_rfl) (row_get f k hk)
  simp [Instr.index, asIntOf, run_underlying u73, sizeOf, typeInfo, hi, hs, hp]
  omega
theorem run_index156 (w : World) (f : Nat → Nat) (k : Nat) (hk : k < 64) : (Instr.index 122 (.agg (rowI f)) (.int .i64 k)).run Tryz.prog w = .ok (.int .i64 (f k)) w := by
  obtain ⟨i, hi, hs⟩ := info_of (show (Tryz.prog.info? 3).map (·.size) = some 1 by kernel_rfl)
  have hp : (part 3 (rowI f) k).run Tryz.prog w = .ok (.int .i64 (f k)) w := run_part_plain w (by kernel_rfl) (rowI_get f k hk)
  simp [Instr.index, asIntOf, run_underlying u156, sizeOf, typeInfo, hi, hs, hp]
  omega
theorem wl_ix73 {f : Nat → Nat} {k : Nat} (hx : a.eval x = .agg (row f)) (hi : a.eval ix = .int .i64 k) (hk : k < 64) (h : wpList Tryz.prog ops Q rest (a.put dst (.int .u8 (f k))) w) : wpList Tryz.prog ops Q (⟨dst, .index 55 x ix, ty', pos, after, none⟩ :: rest) a w :=
  wl_val rfl (by unfold execOp; simp only [hx, hi, Sem.run_bind, run_index73 w f k hk, Result.andThen_ok]; rfl) h
theorem wl_ix156 {f : Nat → Nat} {k : Nat} (hx : a.eval x = .agg (rowI f)) (hi : a.eval ix = .int .i64 k) (hk : k < 64) (h : wpList Tryz.prog ops Q rest (a.put dst (.int .i64 (f k))) w) : wpList Tryz.prog ops Q (⟨dst, .index 122 x ix, ty', pos, after, none⟩ :: rest) a w :=
  wl_val rfl (by unfold execOp; simp only [hx, hi, Sem.run_bind, run_index156 w f k hk, Result.andThen_ok]; rfl) h
end
end Go.Proofs.YtclainfdeghgnaaGreatDoor
