/- Rows of 64 digits in memory: what a block of such cells reads as, behind a store, a draw, a new block. -/
import Derived.Test.YtclainfdeghgnaaM1
import Derived.WalkKit
import Derived.WalkLawsBesides
import Derived.WalkSpells
import Derived.Deep.Quiet
import Derived.StillTail
namespace Go.Proofs.Ytclainfdeghgnaa.Nm
open Go.RowKit

/-- 64 cells of one byte each. -/
def row (f : Nat → Nat) : Array Value := ((List.range 64).map fun i => Value.int .u8 (f i : Int)).toArray
theorem row_size (f : Nat → Nat) : (row f).size = 64 := by simp [row]
theorem row_get (f : Nat → Nat) (i : Nat) (h : i < 64) : (row f)[i]? = some (.int .u8 (f i)) := by simp [row, h]
theorem row_set (f : Nat → Nat) (k x : Nat) (h : k < 64) : (row f).setIfInBounds k (.int .u8 x) = row (fun i => if i = k then x else f i) := by
  apply Array.ext_getElem?
  intro i
  by_cases hi : i < 64
  · rw [row_get _ _ hi, Array.getElem?_setIfInBounds]
    by_cases hk : k = i
    · subst hk; simp [row_size, h]
    · rw [if_neg hk, row_get _ _ hi, if_neg (Ne.symm hk)]
  · rw [Array.getElem?_eq_none (by simp [row_size]; omega), Array.getElem?_eq_none (by simp [row_size]; omega)]
theorem row_congr {f g : Nat → Nat} (h : ∀ i, i < 64 → f i = g i) : row f = row g := by
  unfold row; congr 1; apply List.map_congr_left; intro i hi; rw [h i (List.mem_range.1 hi)]
theorem row_one (f : Nat → Nat) : (row f).all (·.oneCell') = true := by simp [row, Value.oneCell']
/-- The digits of a number. -/
def dv (n : Nat) : Array Value := row (dg n)
theorem dv_size (n : Nat) : (dv n).size = 64 := row_size _
theorem dv_one (n : Nat) : (dv n).all (·.oneCell') = true := row_one _

theorem heap_lt {w : World} {g : Nat} {o : Obj} (h : w.heap[g]? = some o) : g < w.heap.size := (Array.getElem?_eq_some_iff.1 h).1

theorem below_cells {B : Nat} {w w' : World} (h : Below B w w') {g : Nat} (hg : g < B) {o : Obj} (ho : w.heap[g]? = some o) : w'.heap[g]? = some o := by rw [h.block g hg, ho]

theorem ha_new {w : World} {o : Obj} {k : Nat} (h : k = w.heap.size) : (w.alloc o).heap[k]? = some o := by subst h; exact heap_alloc_new w o
theorem ha_old {w : World} {o x : Obj} {k : Nat} (h : w.heap[k]? = some x) : (w.alloc o).heap[k]? = some x := by rw [heap_alloc_old w o (heap_lt h)]; exact h
theorem hs_old {w : World} {a : Addr} {v : Value} {x : Obj} {k : Nat} (h : w.heap[k]? = some x) (hne : k ≠ a.block) : (w.setCell a v).heap[k]? = some x := by rw [heap_setCell_other _ _ _ _ hne]; exact h
theorem hs_new {w : World} {g i : Nat} {cs : Array Value} {t : TypeId} {v : Value} (h : w.heap[g]? = some (.cells cs t (0, 0))) : (w.setCell ⟨g, i, none⟩ v).heap[g]? = some (.cells (cs.setIfInBounds i v) t (0, 0)) := heap_setCell_same w g i cs t v h
theorem hr_old {w : World} {g k : Nat} {cs : Array Value} {x : Obj} (h : w.heap[k]? = some x) (hne : k ≠ g) : (w.setRow g cs).heap[k]? = some x := by rw [setRow_other _ _ _ _ hne]; exact h
theorem hr_new {w : World} {g : Nat} {old cs : Array Value} {t : TypeId} (h : w.heap[g]? = some (.cells old t (0, 0))) : (w.setRow g cs).heap[g]? = some (.cells cs t (0, 0)) := setRow_heap w g old cs t (0, 0) h
theorem zero_row : (#[.int .u8 0, .int .u8 0, .int .u8 0, .int .u8 0, .int .u8 0, .int .u8 0, .int .u8 0, .int .u8 0, .int .u8 0, .int .u8 0, .int .u8 0, .int .u8 0, .int .u8 0, .int .u8 0, .int .u8 0, .int .u8 0, .int .u8 0, .int .u8 0, .int .u8 0, .int .u8 0, .int .u8 0, .int .u8 0, .int .u8 0, .int .u8 0, .int .u8 0, .int .u8 0, .int .u8 0, .int .u8 0, .int .u8 0, .int .u8 0, .int .u8 0, .int .u8 0, .int .u8 0, .int .u8 0, .int .u8 0, .int .u8 0, .int .u8 0, .int .u8 0, .int .u8 0, .int .u8 0, .int .u8 0, .int .u8 0, .int .u8 0, .int .u8 0, .int .u8 0, .int .u8 0, .int .u8 0, .int .u8 0, .int .u8 0, .int .u8 0, .int .u8 0, .int .u8 0, .int .u8 0, .int .u8 0, .int .u8 0, .int .u8 0, .int .u8 0, .int .u8 0, .int .u8 0, .int .u8 0, .int .u8 0, .int .u8 0, .int .u8 0, .int .u8 0] : Array Value) = row fun _ => 0 := rfl
theorem heap_drewN (w : World) (n : Nat) : (w.drewN n).heap = w.heap := rfl
theorem below_setRow {B : Nat} {a w : World} (h : Below B a w) {g : Nat} (hg : B ≤ g) (cs : Array Value) : Below B a (w.setRow g cs) :=
  h.trans ⟨by simp, rfl, rfl, by simp, fun k hk => setRow_other w g k cs (by omega)⟩
theorem below_drewN {B : Nat} {a w : World} (h : Below B a w) (n : Nat) : Below B a (w.drewN n) :=
  ⟨h.os, h.tape, h.output, h.size, h.block⟩
end Go.Proofs.Ytclainfdeghgnaa.Nm
