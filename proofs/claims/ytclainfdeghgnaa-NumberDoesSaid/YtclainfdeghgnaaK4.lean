/- Rows of 64 ints; a digit out of a row by value. -/
import Derived.Test.YtclainfdeghgnaaK3
import Derived.Test.YtclainfdeghgnaaM2
namespace Go.Proofs.Ytclainfdeghgnaa
open Go.RowKit Nm

namespace Nm
def rowI (f : Nat → Nat) : Array Value := ((List.range 64).map fun i => Value.int .i64 (f i : Int)).toArray
theorem rowI_size (f : Nat → Nat) : (rowI f).size = 64 := by simp [rowI]
theorem rowI_get (f : Nat → Nat) (i : Nat) (h : i < 64) : (rowI f)[i]? = some (.int .i64 (f i)) := by simp [rowI, h]
theorem rowI_set (f : Nat → Nat) (k x : Nat) (h : k < 64) : (rowI f).setIfInBounds k (.int .i64 x) = rowI (fun i => if i = k then x else f i) := by
  apply Array.ext_getElem?
  intro i
  by_cases hi : i < 64
  · rw [rowI_get _ _ hi, Array.getElem?_setIfInBounds]
    by_cases hk : k = i
    · subst hk; simp [rowI_size, h]
    · rw [if_neg hk, rowI_get _ _ hi, if_neg (Ne.symm hk)]
  · rw [Array.getElem?_eq_none (by simp [rowI_size]; omega), Array.getElem?_eq_none (by simp [rowI_size]; omega)]
theorem rowI_congr {f g : Nat → Nat} (h : ∀ i, i < 64 → f i = g i) : rowI f = rowI g := by
  unfold rowI; congr 1; apply List.map_congr_left; intro i hi; rw [h i (List.mem_range.1 hi)]
theorem rowI_one (f : Nat → Nat) : (rowI f).all (·.oneCell') = true := by simp [rowI, Value.oneCell']
theorem rowI_whole (f : Nat → Nat) : (rowI f).extract 0 (0 + 64) = rowI f := by rw [Array.extract_eq_self_of_le]; rw [rowI_size]; omega
set_option maxRecDepth 10000 in
theorem zero_rowI : (#[.int .i64 0, .int .i64 0, .int .i64 0, .int .i64 0, .int .i64 0, .int .i64 0, .int .i64 0, .int .i64 0, .int .i64 0, .int .i64 0, .int .i64 0, .int .i64 0, .int .i64 0, .int .i64 0, .int .i64 0, .int .i64 0, .int .i64 0, .int .i64 0, .int .i64 0, .int .i64 0, .int .i64 0, .int .i64 0, .int .i64 0, .int .i64 0, .int .i64 0, .int .i64 0, .int .i64 0, .int .i64 0, .int .i64 0, .int .i64 0, .int .i64 0, .int .i64 0, .int .i64 0, .int .i64 0, .int .i64 0, .int .i64 0, .int .i64 0, .int .i64 0, .int .i64 0, .int .i64 0, .int .i64 0, .int .i64 0, .int .i64 0, .int .i64 0, .int .i64 0, .int .i64 0, .int .i64 0, .int .i64 0, .int .i64 0, .int .i64 0, .int .i64 0, .int .i64 0, .int .i64 0, .int .i64 0, .int .i64 0, .int .i64 0, .int .i64 0, .int .i64 0, .int .i64 0, .int .i64 0, .int .i64 0, .int .i64 0, .int .i64 0, .int .i64 0] : Array Value) = rowI fun _ => 0 := rfl
theorem rowI_upd (s : Nat → Nat) (p x : Nat) (h : p < 64) (v : Value) (hv : v = .int .i64 ((s p + x : Nat) : Int)) : (rowI s).setIfInBounds p v = rowI (upd s p x) := by
  subst hv; rw [rowI_set _ _ _ h]; apply rowI_congr; intro i _; unfold upd; split <;> simp_all
end Nm

theorem info156 : (Try.prog.info? 156).map (·.size) = some 64 := by kernel_rfl
theorem u156 : Try.prog.underlying 156 = some (.array 64 3) := by kernel_rfl
theorem rowS {w : World} {b : Nat} {f : Nat → Nat} {t : TypeId} {fr : Nat × Nat} (hb : w.heap[b]? = some (.cells (rowI f) t fr)) : RowAt w 156 ⟨b, 0, none⟩ (rowI f) := row_mid hb (rowI_whole f) u156 rfl (rowI_size f) info156
theorem rowF {w : World} {b : Nat} {f : Nat → Nat} {t : TypeId} {fr : Nat × Nat} (hb : w.heap[b]? = some (.cells (row f) t fr)) : RowAt w 73 ⟨b, 0, none⟩ (row f) := row_mid hb (row_whole f) u73 rfl (row_size f) info73

theorem one_of {w : World} {ty : TypeId} {ad : Addr} {v : Value} {d : TypeDesc} (hu : Try.prog.underlying ty = some d) (hd : d.isRow = false) (hc : w.cell? ad = some v) : OneAt w ty ad v := by
  have hagg : (isAgg ty).run Try.prog w = .ok false w := by
    unfold isAgg
    rw [Sem.run_bind, run_underlying hu w]
    cases d <;> simp_all
  unfold OneAt
  simp [loadVar, hagg, load, Sem.run, hc]
theorem u3 : Try.prog.underlying 3 = some (.int .i64) := by kernel_rfl
section
variable {ops : Array Oper} {rest : List Oper} {dst : Option Tmp} {ty ty' : TypeId} {x ix : Operand} {pos : String} {after : Array Edge} {a : Act} {w : World} {Q : Exit → Act → World → Prop}
theorem run_index73 (w : World) (f : Nat → Nat) (k : Nat) (hk : k < 64) : (Instr.index 73 (.agg (row f)) (.int .i64 k)).run Try.prog w = .ok (.int .u8 (f k)) w := by
  obtain ⟨i, hi, hs⟩ := info_of info5
  have hp : (part 5 (row f) k).run Try.prog w = .ok (.int .u8 (f k)) w := run_part_plain w (by kernel_rfl) (row_get f k hk)
  simp [Instr.index, asIntOf, run_underlying u73, sizeOf, typeInfo, hi, hs, hp]
  omega
theorem run_index156 (w : World) (f : Nat → Nat) (k : Nat) (hk : k < 64) : (Instr.index 156 (.agg (rowI f)) (.int .i64 k)).run Try.prog w = .ok (.int .i64 (f k)) w := by
  obtain ⟨i, hi, hs⟩ := info_of (show (Try.prog.info? 3).map (·.size) = some 1 by kernel_rfl)
  have hp : (part 3 (rowI f) k).run Try.prog w = .ok (.int .i64 (f k)) w := run_part_plain w (by kernel_rfl) (rowI_get f k hk)
  simp [Instr.index, asIntOf, run_underlying u156, sizeOf, typeInfo, hi, hs, hp]
  omega
theorem wl_ix73 {f : Nat → Nat} {k : Nat} (hx : a.eval x = .agg (row f)) (hi : a.eval ix = .int .i64 k) (hk : k < 64) (h : wpList Try.prog ops Q rest (a.put dst (.int .u8 (f k))) w) : wpList Try.prog ops Q (⟨dst, .index 73 x ix, ty', pos, after, none⟩ :: rest) a w :=
  wl_val rfl (by unfold execOp; simp only [hx, hi, Sem.run_bind, run_index73 w f k hk, Result.andThen_ok]; rfl) h
theorem wl_ix156 {f : Nat → Nat} {k : Nat} (hx : a.eval x = .agg (rowI f)) (hi : a.eval ix = .int .i64 k) (hk : k < 64) (h : wpList Try.prog ops Q rest (a.put dst (.int .i64 (f k))) w) : wpList Try.prog ops Q (⟨dst, .index 156 x ix, ty', pos, after, none⟩ :: rest) a w :=
  wl_val rfl (by unfold execOp; simp only [hx, hi, Sem.run_bind, run_index156 w f k hk, Result.andThen_ok]; rfl) h
end
end Go.Proofs.Ytclainfdeghgnaa
