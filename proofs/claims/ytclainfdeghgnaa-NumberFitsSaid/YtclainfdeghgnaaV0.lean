/- Whether a text is long; a kind by value. -/
import Derived.Test.YtclainfdeghgnaaK6
import Derived.Outline
namespace Go.Proofs.Ytclainfdeghgnaa
open Go.RowKit Go.Proofs.Ytclainfdeghgnaa.Nm

set_option maxHeartbeats 400000 in
theorem longB_any (m : ByteArray) (w : World) : Calls Try.prog 20 #[.string m] w fun e w' => e = .returned (.bool (decide (200 < m.size))) ∧ Below w.heap.size w w' := by
  go_enter Try.func20, Try.ntmps20
  go_wp2
  go_ret
  refine ⟨?_, Below.refl _ _⟩
  have : (decide (200 < (m.size : Int))) = decide (200 < m.size) := by
    by_cases h : 200 < m.size
    · rw [decide_eq_true h, decide_eq_true (by omega)]
    · rw [decide_eq_false h, decide_eq_false (by omega)]
  rw [← this]
  rfl
theorem infoB25 : (Try.prog.info? 25).map (·.size) = some 3 := by kernel_rfl
theorem uB25 : Try.prog.underlying 25 = some (.struct (Try.prog.fieldsOf 25)) := by kernel_rfl
/-- A kind by value. -/
def kvB (b : Int) (s : Bool) (m : ByteArray) : Array Value := #[.int .i64 b, .bool s, .string m]
theorem rowKvB {w : World} {b : Nat} {n : Int} {s : Bool} {m : ByteArray} {t : TypeId} {fr : Nat × Nat} (hb : w.heap[b]? = some (.cells (kvB n s m) t fr)) : RowAt w 25 ⟨b, 0, none⟩ (kvB n s m) := row_mid hb (D := kvB n s m) (n := 3) rfl uB25 rfl rfl infoB25
theorem longB_lit (m : ByteArray) (R : Bool) (HR : Hid (decide (200 < m.size) = R)) (w : World) : Calls Try.prog 20 #[.string m] w fun e w' => e = .returned (.bool R) ∧ Below w.heap.size w w' := by
  rw [← HR.out]; exact longB_any m w
end Go.Proofs.Ytclainfdeghgnaa
