/- Rows of texts cut and put together; two lists merged, a list sorted, by the program. -/
import Derived.Test.YtbhdgeoljlhmcaaS16
import Derived.Outline
import Derived.DataElems
namespace Go.Proofs.Ytbhdgeoljlhmcaa
open Go.RowKit Go.Proofs.Ytbhdgeoljlhmcaa.Nm Go.Proofs.Ytbhdgeoljlhmcaa.St
set_option linter.unusedSimpArgs false
def slLen : Value → Nat
  | .slice _ m _ => m
  | _ => 0
theorem el29 : Try.prog.elem 29 = 9 := by kernel_rfl
theorem u29e : Try.prog.underlying 29 = some (.slice (Try.prog.elem 29)) := by rw [el29]; exact u29
theorem sz9 (w : World) : (sizeOf 9).run Try.prog w = .ok 1 w := by kernel_rfl
theorem sz29 (w : World) : (sizeOf (Try.prog.elem 29)).run Try.prog w = .ok 1 w := by rw [el29]; exact sz9 w
theorem run_ixS (ad : Addr) (n cap j : Nat) (hj : j < n) (w : World) : (Instr.indexAt 29 (.slice (some ad) n cap) (.int .i64 (j : Int))).run Try.prog w = .ok (.pointer (some (ad.add j))) w := by
  unfold Instr.indexAt
  simp [asIntOf, run_underlying u29, Result.andThen, hj]
theorem ex_ixS {ev : Operand → Value} {op : Oper} {w : World} (x y : Operand) (ho : op.op = .indexAddr 29 x y) {ad : Addr} {n cap j : Nat} (hx : ev x = .slice (some ad) n cap) (hy : ev y = .int .i64 (j : Int)) (hj : j < n) :
    (execOp ev op).run Try.prog w = .ok (.value (.pointer (some (ad.add j)))) w := by
  unfold execOp
  simp [ho, hx, hy, run_ixS ad n cap j hj w, Result.andThen]
theorem ex_slL {ev : Operand → Value} {op : Oper} {w : World} (x y : Operand) (ho : op.op = .slice 29 x (some y) none none) {A : Option Addr} {n cap lo : Nat} (hx : ev x = .slice A n cap) (hy : ev y = .int .i64 (lo : Int)) (hl : lo ≤ n) :
    (execOp ev op).run Try.prog w = .ok (.value (sliced A lo n cap 1)) w := by
  have h := run_slice_l (P := Try.prog) w 29 A n cap u29e .i64 (lo : Int) (by omega) (by omega)
  unfold execOp
  rw [sz29] at h
  simp [ho, hx, hy, run_sliceAt_slice w 29 _ _ _ _ u29e, h, Result.andThen]
theorem ex_slH {ev : Operand → Value} {op : Oper} {w : World} (x y : Operand) (ho : op.op = .slice 29 x none (some y) none) {A : Option Addr} {n cap hi : Nat} (hx : ev x = .slice A n cap) (hy : ev y = .int .i64 (hi : Int)) (hl : hi ≤ cap) :
    (execOp ev op).run Try.prog w = .ok (.value (sliced A 0 hi cap 1)) w := by
  have h := run_slice_h (P := Try.prog) w 29 A n cap u29e .i64 (hi : Int) (by omega) (by omega)
  unfold execOp
  rw [sz29] at h
  simp [ho, hx, hy, run_sliceAt_slice w 29 _ _ _ _ u29e, h, Result.andThen]
theorem ex_slLH {ev : Operand → Value} {op : Oper} {w : World} (x y z : Operand) (ho : op.op = .slice 29 x (some y) (some z) none) {A : Option Addr} {n cap lo hi : Nat} (hx : ev x = .slice A n cap) (hy : ev y = .int .i64 (lo : Int)) (hz : ev z = .int .i64 (hi : Int)) (hl : lo ≤ hi) (hh : hi ≤ cap) :
    (execOp ev op).run Try.prog w = .ok (.value (sliced A lo hi cap 1)) w := by
  have h := run_slice_lh (P := Try.prog) w 29 A n cap u29e .i64 .i64 (lo : Int) (hi : Int) (by omega) (by omega) (by omega)
  unfold execOp
  rw [sz29] at h
  simp [ho, hx, hy, hz, run_sliceAt_slice w 29 _ _ _ _ u29e, h, Result.andThen]
theorem StrAt.cut {w : World} {A : Option Addr} {n cap lo hi : Nat} {l : List ByteArray} (h : StrAt w A n cap l) (hlo : lo ≤ hi) (hh : hi ≤ n) (hc : n ≤ cap) :
    ∃ A', sliced A lo hi cap 1 = .slice A' (hi - lo) (cap - lo) ∧ StrAt w A' (hi - lo) (cap - lo) ((l.take hi).drop lo) := by
  have hlen : ((l.take hi).drop lo).length = hi - lo := by rw [List.length_drop, List.length_take, h.1]; omega
  unfold sliced
  refine ⟨_, rfl, hlen, ?_⟩
  rcases h.2 with ⟨rfl, rfl, rfl⟩ | ⟨ad, rfl, hp⟩
  · left; exact ⟨by split <;> rfl, by omega, by omega⟩
  · right
    by_cases e : cap = lo
    · rw [if_pos e]
      refine ⟨ad, rfl, fun j u hj => ?_⟩
      have := (List.getElem?_eq_some_iff.1 hj).1
      rw [strs_length, hlen] at this; omega
    · rw [if_neg e]
      refine ⟨_, rfl, fun j u hj => ?_⟩
      have hl := (List.getElem?_eq_some_iff.1 hj).1
      rw [strs_length, hlen] at hl
      rw [Addr.add_add, Nat.mul_one]
      refine hp _ _ ?_
      unfold strs at hj ⊢
      rw [List.getElem?_map, List.getElem?_drop, List.getElem?_take_of_lt (by omega)] at hj
      rw [List.getElem?_map]; exact hj
theorem StrAt.cell {w : World} {A : Option Addr} {n cap : Nat} {l : List ByteArray} (h : StrAt w A n cap l) {j : Nat} {x : ByteArray} (hj : l[j]? = some x) : ∃ ad, A = some ad ∧ w.cell? (ad.add j) = some (.string x) := by
  have hl := (List.getElem?_eq_some_iff.1 hj).1
  rcases h.2 with ⟨rfl, rfl, rfl⟩ | ⟨ad, rfl, hp⟩
  · rw [h.1] at hl; omega
  · exact ⟨ad, rfl, hp j _ (by unfold strs; rw [List.getElem?_map, hj]; rfl)⟩
theorem run_bs29_1 (k : ByteArray) (w : World) : (Instr.buildSlice 29 1 #[(0, .string k)]).run Try.prog w = .ok (.slice (some ⟨w.heap.size, 0, none⟩) 1 1) (w.alloc (.cells #[.string k] 9)) := by kernel_rfl
theorem ex_bs29_1 {ev : Operand → Value} {o : Oper} {w : World} (x : Operand) (ho : o.op = .buildSlice 29 1 #[(0, x)]) {k : ByteArray} (hx : ev x = .string k) :
    (execOp ev o).run Try.prog w = .ok (.value (.slice (some ⟨w.heap.size, 0, none⟩) 1 1)) (w.alloc (.cells #[.string k] 9)) := by
  unfold execOp
  simp [ho, hx, run_bs29_1 k w, Result.andThen]
/-- texts appended to a row of the call's own -/
theorem run_app29 {w : World} {B n m c : Nat} {v : Value} {l l2 : List ByteArray} {A : Option Addr} (ty : TypeId) (ho : w.ownsRow B 9 1 v n (strs l)) (hs : StrAt w A m c l2) (hB : B ≤ w.heap.size) (h1 : n ≤ 1000000) (h2 : m ≤ 1000000) :
    ∃ v' w', (Builtin.append_ #[29, 29] ty #[v, .slice A m c]).run Try.prog w = .ok v' w' ∧ w'.ownsRow B 9 1 v' (n + m) (strs (l ++ l2)) ∧ w.grownBy w' v.ownBlock ∧ (v'.ownBlock = v.ownBlock ∨ v'.ownBlock = some w.heap.size) := by
  obtain ⟨i0, hi, hz0, hz1, hz2⟩ := info_parts info9
  obtain ⟨hl, hv⟩ := hs
  rcases hv with ⟨rfl, rfl, rfl⟩ | ⟨ad, rfl, hp⟩
  · obtain rfl := List.length_eq_zero_iff.1 hl
    exact ⟨v, w, run_append_owned_none w B 29 ty 9 i0 1 u29 hi v n _ ho, by simpa using ho, ⟨rfl, rfl, rfl, Nat.le_refl _, fun _ _ _ => rfl⟩, Or.inl rfl⟩
  · obtain ⟨v', w', hr, h3, h4, _, h5⟩ := run_append_own_at (P := Try.prog) w B 29 ty 9 i0 _ 1 16 u29 hi hz0 hz1 hz2 rfl (by decide) v n (strs l) ho ad m c (strs l2) (by rw [strs_length, hl, Nat.mul_one]) hp (strs_one _) (by unfold maxLen; omega) (by omega) hB
    exact ⟨v', w', hr, by unfold strs at *; rw [List.map_append]; exact h3, h4, h5⟩
theorem ex_app29 {ev : Operand → Value} {op : Oper} {w w' : World} {v v' s : Value} (x y : Operand) (ho : op.op = .call { callee := .builtin .append, args := #[x, y], argTypes := #[29, 29] }) (hx : ev x = v) (hy : ev y = s)
    (hr : (Builtin.append_ #[29, 29] op.type #[v, s]).run Try.prog w = .ok v' w') : (execOp ev op).run Try.prog w = .ok (.value v') w' := by
  unfold execOp
  simp only [ho, resolve, invoke, builtin, Sem.run_bind, Sem.run_pure, Result.andThen_ok, List.map_toArray, List.map_cons, List.map_nil, hx, hy, hr]
theorem strAt_one {w : World} {q : Nat} {k : ByteArray} (h : w.heap[q]? = some (.cells #[.string k] 9 (0, 0))) : StrAt w (some ⟨q, 0, none⟩) 1 1 [k] :=
  ⟨rfl, Or.inr ⟨_, rfl, fun j u hj => by
    rcases j with _ | j
    · simp [strs] at hj; subst hj
      rw [show ((⟨q, 0, none⟩ : Addr).add 0) = ⟨q, 0, none⟩ by rw [Addr.add_mid], cell_of_row _ _ _ _ _ _ h]; rfl
    · simp [strs] at hj⟩⟩
/-- one text pushed behind a row of the call's own: the new block of the text, then append -/
theorem run_push29 {w : World} {B n : Nat} {v : Value} {l : List ByteArray} (k : ByteArray) (ty : TypeId) (ho : w.ownsRow B 9 1 v n (strs l)) (hB : B ≤ w.heap.size) (h1 : n ≤ 1000000) :
    ∃ v' w', (Builtin.append_ #[29, 29] ty #[v, .slice (some ⟨w.heap.size, 0, none⟩) 1 1]).run Try.prog (w.alloc (.cells #[.string k] 9)) = .ok v' w' ∧ w'.ownsRow B 9 1 v' (n + 1) (strs (l ++ [k])) ∧ (w.alloc (.cells #[.string k] 9)).grownBy w' v.ownBlock ∧ (v'.ownBlock = v.ownBlock ∨ v'.ownBlock = some (w.heap.size + 1)) := by
  have hb := (Below.refl w.heap.size w).alloc (Nat.le_refl _) (.cells #[.string k] 9)
  obtain ⟨v', w', h2, h3, h4, h5⟩ := run_app29 ty (own_below ho hb) (strAt_one (ha_new rfl)) (by have := hb.size; omega) h1 (show 1 ≤ 1000000 by omega)
  refine ⟨v', w', h2, h3, h4, ?_⟩
  have e : (w.alloc (.cells #[.string k] 9)).heap.size = w.heap.size + 1 := by simp
  rwa [e] at h5
end Go.Proofs.Ytbhdgeoljlhmcaa
