/- The map of the four plain kinds, laid and looked into. -/
import Derived.Test.YtokmaehefenpmaaDoorX11
import Derived.Test.YtokmaehefenpmaaDoorV9
namespace Go.Proofs.YtokmaehefenpmaaDoor
open Go.RowKit Go.Proofs.YtokmaehefenpmaaDoor.Nm
set_option linter.unusedSimpArgs false
set_option maxRecDepth 10000
theorem u113 : Tryd.prog.underlying 113 = some (.map 9 3) := by kernel_rfl
theorem run_ins113 (r : Nat) (es : Array MapEntry) (clock : Nat) (k : ByteArray) (v : Value) (w : World) (hb : w.heap[r]? = some (.map es clock)) (hf : Instr.findNow .string (.string k) es.toList 0 = some none) :
    (Instr.mapUpdate 113 (.map (some r)) (.string k) v).run Tryd.prog w = .ok () { w with heap := w.heap.setIfInBounds r (.map (es.push { key := .string k, val := v, born := clock }) (clock + 1)) } := by
  unfold Instr.mapUpdate
  simp only [Sem.run_bind, run_underlying u113, Result.andThen, MapKept.run_getObj_map hb, MapKept.run_checkKey u9 (k := .string k) trivial false 9999, MapKept.run_findKey u9 hf, MapKept.run_setObj_map _ hb]
def kInt : ByteArray := ⟨#[73, 110, 116]⟩
def kBool : ByteArray := ⟨#[66, 111, 111, 108]⟩
def kText : ByteArray := ⟨#[84, 101, 120, 116]⟩
def kUnit : ByteArray := ⟨#[85, 110, 105, 116]⟩
def four : Array MapEntry := #[⟨.string kInt, .int .i64 1, 0⟩, ⟨.string kBool, .int .i64 2, 1⟩, ⟨.string kText, .int .i64 3, 2⟩, ⟨.string kUnit, .int .i64 4, 3⟩]
theorem run_hit113 {r : Nat} {es : Array MapEntry} {c : Nat} {k : ByteArray} {m : Nat} {v : Value} (w : World) (hb : w.heap[r]? = some (.map es c)) (hf : Instr.findNow .string (.string k) es.toList 0 = some (some (m, v))) : (Instr.lookup 113 (.map (some r)) (.string k) true).run Tryd.prog w = .ok (.tuple #[v, .bool true]) w := by
  unfold Instr.lookup
  simp [Sem.run_bind, run_underlying u113, Result.andThen, MapKept.run_getObj_map hb, MapKept.run_checkKey u9 (k := .string k) trivial _ 9999, MapKept.run_findKey u9 hf]
theorem run_miss113 {r : Nat} {es : Array MapEntry} {c : Nat} {k : ByteArray} (w : World) (hb : w.heap[r]? = some (.map es c)) (hf : Instr.findNow .string (.string k) es.toList 0 = some none) : (Instr.lookup 113 (.map (some r)) (.string k) true).run Tryd.prog w = .ok (.tuple #[.int .i64 0, .bool false]) w := by
  unfold Instr.lookup
  have := Tryd.zeroValue3
  simp [Sem.run_bind, run_underlying u113, Result.andThen, MapKept.run_getObj_map hb, MapKept.run_checkKey u9 (k := .string k) trivial _ 9999, MapKept.run_findKey u9 hf, this]
theorem ex_hit113 {ev : Operand → Value} {o : Oper} {w : World} (x y : Operand) (ho : o.op = .lookup 113 x y true) {r : Nat} {es : Array MapEntry} {c : Nat} {k : ByteArray} {m : Nat} {v : Value} (hx : ev x = .map (some r)) (hy : ev y = .string k) (hb : w.heap[r]? = some (.map es c)) (hf : Instr.findNow .string (.string k) es.toList 0 = some (some (m, v))) :
    (execOp ev o).run Tryd.prog w = .ok (.value (.tuple #[v, .bool true])) w := by
  unfold execOp
  simp [ho, hx, hy, run_hit113 w hb hf, Result.andThen]
theorem ex_miss113 {ev : Operand → Value} {o : Oper} {w : World} (x y : Operand) (ho : o.op = .lookup 113 x y true) {r : Nat} {es : Array MapEntry} {c : Nat} {k : ByteArray} (hx : ev x = .map (some r)) (hy : ev y = .string k) (hb : w.heap[r]? = some (.map es c)) (hf : Instr.findNow .string (.string k) es.toList 0 = some none) :
    (execOp ev o).run Tryd.prog w = .ok (.value (.tuple #[.int .i64 0, .bool false])) w := by
  unfold execOp
  simp [ho, hx, hy, run_miss113 w hb hf, Result.andThen]
theorem ba_ne {a b : ByteArray} (h : a ≠ b) : (a == b) = false := by
  cases a with | mk x => cases b with | mk y =>
  have h2 : x ≠ y := fun e => h (by rw [e])
  have : (x == y) = false := beq_eq_false_iff_ne.2 h2
  exact this
theorem four_miss {k : ByteArray} (h1 : k ≠ kInt) (h2 : k ≠ kBool) (h3 : k ≠ kText) (h4 : k ≠ kUnit) : Instr.findNow .string (.string k) four.toList 0 = some none := by
  simp [four, Instr.findNow, Instr.sameNow, ba_ne h1, ba_ne h2, ba_ne h3, ba_ne h4]
section
variable {ops : Array Oper} {rest : List Oper} {dst : Option Tmp} {ty' : TypeId} {x y z : Operand} {pos : String} {after : Array Edge} {a : Act} {w : World} {Q : Exit → Act → World → Prop}
theorem wl_mm113 (h : ∀ W p, Below w.heap.size w W → w.heap.size ≤ p → W.heap[p]? = some (.map #[] 0) → wpList Tryd.prog ops Q rest (a.put dst (.map (some p))) W) :
    wpList Tryd.prog ops Q (⟨dst, .makeMap 113 none, ty', pos, after, none⟩ :: rest) a w :=
  wl_w rfl (by unfold execOp; simp [run_makeMap, Result.andThen]) (h _ _ ((Below.refl _ w).alloc (Nat.le_refl _) _) (Nat.le_refl _) (ha_new rfl))
theorem wl_ins113 {r : Nat} {es : Array MapEntry} {c : Nat} {k : ByteArray} {v : Value} (hx : a.eval x = .map (some r)) (hy : a.eval y = .string k) (hz : a.eval z = v) (hb : w.heap[r]? = some (.map es c)) (hf : Instr.findNow .string (.string k) es.toList 0 = some none)
    (h : ∀ W, (∀ B w0, B ≤ r → Below B w0 w → Below B w0 W) → (∀ g, g ≠ r → W.heap[g]? = w.heap[g]?) → W.heap.size = w.heap.size → W.heap[r]? = some (.map (es.push { key := .string k, val := v, born := c }) (c + 1)) → wpList Tryd.prog ops Q rest (a.put none undef) W) :
    wpList Tryd.prog ops Q (⟨none, .insert 113 x y z, ty', pos, after, none⟩ :: rest) a w := by
  obtain ⟨g1, g2⟩ := MapKept.heap_set (o' := .map (es.push { key := .string k, val := v, born := c }) (c + 1)) hb
  refine wpList_plain rfl fun K hK => ?_
  unfold Oper.wp execOp
  simp only [hx, hy, hz, run_ins113 r es c k v w hb hf, Sem.run_bind, Sem.run_pure, Result.andThen_ok]
  exact hK _ _ (h _ (fun B w0 hB h0 => ⟨h0.os, h0.tape, h0.output, by simpa using h0.size, fun b hb2 => by rw [g2 b (by omega)]; exact h0.block b hb2⟩) g2 (by simp) g1)
end
end Go.Proofs.YtokmaehefenpmaaDoor
