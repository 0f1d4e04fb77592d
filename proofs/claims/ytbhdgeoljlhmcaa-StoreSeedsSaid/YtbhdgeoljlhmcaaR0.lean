/- What the rows of this seat share: scripts taken out of a row as values. -/
import Derived.Test.YtbhdgeoljlhmcaaS34
import Derived.ProofKit
import Derived.Lib.SmallJoins
import Derived.Deep.Strs
import Derived.Deep.SlicePairs
import Derived.Carry
import Derived.IntWalk
namespace Go.Proofs.Ytbhdgeoljlhmcaa
open Go.ChangeShapes Go.WideShapes Go.ChangeAt Go.RowKit
open Go.ChangeMaps (open_string shut_string)
theorem own0 : ownKnob Try.prog.godebug = none := by kernel_rfl
theorem row_u9 : Try.prog.underlying 9 = some .string := by kernel_rfl
theorem row_u3 : Try.prog.underlying 3 = some (.int .i64) := by kernel_rfl
theorem row_u4 : Try.prog.underlying 4 = some .bool := by kernel_rfl
theorem laidOut0 : laidOutB Try.prog = true := by kernel_rfl
theorem cells39 : Try.prog.cellsOf 39 = 6 := by kernel_rfl
theorem cells9 : Try.prog.cellsOf 9 = 1 := by kernel_rfl
theorem cells3 : Try.prog.cellsOf 3 = 1 := by kernel_rfl
theorem flds39 : (Try.prog.fieldsOf 39).toList.map (fun f => (f.type, f.offset)) = [(3, 0), (3, 1), (3, 2), (3, 3), (3, 4), (9, 5)] := by kernel_rfl
theorem fields6 {fs : Array Field} {a b c d e g : Nat × Nat} (h : fs.toList.map (fun f => (f.type, f.offset)) = [a, b, c, d, e, g]) : ∃ f0 f1 f2 f3 f4 f5, fs = #[f0, f1, f2, f3, f4, f5] ∧ (f0.type, f0.offset) = a ∧ (f1.type, f1.offset) = b ∧ (f2.type, f2.offset) = c ∧ (f3.type, f3.offset) = d ∧ (f4.type, f4.offset) = e ∧ (f5.type, f5.offset) = g := by
  obtain ⟨l⟩ := fs
  match l, h with
  | [f0, f1, f2, f3, f4, f5], h => simp at h; exact ⟨f0, f1, f2, f3, f4, f5, rfl, by simp [h.1], by simp [h.2.1], by simp [h.2.2.1], by simp [h.2.2.2.1], by simp [h.2.2.2.2.1], by simp [h.2.2.2.2.2]⟩
theorem six_row {w : World} {a : Addr} {i : Nat} {cs : List Value} (hl : cs.length = 6) (h : ∀ j, j < 6 → w.cell? (a.add (i * 6 + j)) = cs[j]?) (hs : a.spot = none) :
    ∃ Cs t fr, w.heap[a.block]? = some (.cells Cs t fr) ∧ Cs.extract (a.off + i * 6) (a.off + i * 6 + 6) = cs.toArray := by
  have e : ∀ n, a.add n = ⟨a.block, a.off + n, none⟩ := fun n => by
    obtain ⟨b, o, s⟩ := a
    unfold Addr.add
    split
    · rename_i h; subst h; simp at hs; simp [hs]
    · rfl
  have h0 := h 0 (by omega)
  rw [e] at h0
  unfold World.cell? at h0
  simp only [] at h0
  cases hc : w.heap[a.block]? with
  | none => rw [hc, List.getElem?_eq_getElem (show 0 < cs.length by omega)] at h0; cases h0
  | some o =>
    cases o with
    | cells Cs t fr =>
      refine ⟨Cs, t, fr, rfl, ?_⟩
      have hj : ∀ j, j < 6 → Cs[a.off + i * 6 + j]? = cs[j]? := fun j hj => by
        have := h j hj
        rw [e] at this
        unfold World.cell? at this
        rw [hc] at this
        simpa [Nat.add_assoc] using this
      have h5 := hj 5 (by omega)
      rw [List.getElem?_eq_getElem (show 5 < cs.length by omega)] at h5
      have hz := (Array.getElem?_eq_some_iff.1 h5).1
      apply Array.ext_getElem?
      intro j
      by_cases hlt : j < 6
      · rw [Array.getElem?_extract, if_pos (by omega), hj j hlt]; simp
      · rw [Array.getElem?_eq_none (by simp; omega), Array.getElem?_eq_none (by simp; omega)]
    | _ => rw [hc, List.getElem?_eq_getElem (show 0 < cs.length by omega)] at h0; cases h0
section
variable {H : Type} {enc : TypeId × Value → H} {w : World} {base b0 : Nat} {sp : Nat → Bool} {held : Bool} {r : Reach} {v : Value} {d : DataW H} {p : List MemPlace}
set_option maxRecDepth 100000 in
theorem op_of {n : Nat} {cs : List Value} {x : DataW H × List MemPlace} (hl : cs.length = 6) (h : DataW.trod enc Try.prog w base sp held n 39 cs = some x) : ∃ o : OpV, cs.toArray = o.cells := by
  obtain ⟨f0, f1, f2, f3, f4, f5, hfs, e0, e1, e2, e3, e4, e5⟩ := fields6 flds39
  simp only [Prod.mk.injEq] at e0 e1 e2 e3 e4 e5
  have hu := u39
  rw [hfs] at hu
  obtain ⟨xs, k, hk, hxy, _, hxl, hf⟩ := DataW.trod_struct hu h
  match cs, hl with
  | [v0, v1, v2, v3, v4, v5], _ =>
    match xs, hxl with
    | [y0, y1, y2, y3, y4, y5], _ =>
      have g0 := hf 0 f0 rfl
      have g1 := hf 1 f1 rfl
      have g2 := hf 2 f2 rfl
      have g3 := hf 3 f3 rfl
      have g4 := hf 4 f4 rfl
      have g5 := hf 5 f5 rfl
      simp [e0, e1, e2, e3, e4, e5, cells3, cells9] at g0 g1 g2 g3 g4 g5
      obtain ⟨n0, q0, _, _⟩ := DataW.trod_int row_u3 g0
      obtain ⟨n1, q1, _, _⟩ := DataW.trod_int row_u3 g1
      obtain ⟨n2, q2, _, _⟩ := DataW.trod_int row_u3 g2
      obtain ⟨n3, q3, _, _⟩ := DataW.trod_int row_u3 g3
      obtain ⟨n4, q4, _, _⟩ := DataW.trod_int row_u3 g4
      obtain ⟨k5, q5, _⟩ := DataW.trod_string row_u9 g5
      simp at q0 q1 q2 q3 q4 q5
      subst q0 q1 q2 q3 q4 q5
      exact ⟨⟨n0, n1, n2, n3, n4, k5⟩, rfl⟩
theorem choose_list {α : Type} {P : Nat → α → Prop} : ∀ (n : Nat), (∀ i, i < n → ∃ x, P i x) → ∃ l : List α, l.length = n ∧ ∀ (i : Nat) (x : α), l[i]? = some x → P i x
  | 0, _ => ⟨[], rfl, fun i x h => by simp at h⟩
  | n + 1, h => by
    obtain ⟨l, h1, h2⟩ := choose_list n (fun i hi => h i (by omega))
    obtain ⟨x, hx⟩ := h n (by omega)
    refine ⟨l ++ [x], by simp [h1], fun i y hy => ?_⟩
    by_cases e : i < n
    · rw [List.getElem?_append_left (by omega)] at hy; exact h2 i y hy
    · rw [List.getElem?_append_right (by omega)] at hy
      have hm := List.mem_of_getElem? hy
      simp at hm; subst hm
      have hl := (List.getElem?_eq_some_iff.1 hy).1
      simp at hl
      obtain rfl : i = n := by omega
      exact hx
set_option maxRecDepth 100000 in
theorem open_ops (hv : Value.okWide Try.prog w r b0 22 v) (h : DataW.Trod enc Try.prog w base sp held 22 v d p) :
    ∃ (A : Option Addr) (n c : Nat) (l : List OpV), v = .slice A n c ∧ OpsAt w A n l ∧ n ≤ c := by
  obtain ⟨A, n, c, rfl⟩ := okWide_slice u22 hv
  obtain ⟨fuel, hf⟩ := h
  rcases Deep.open_slice u22 hf with ⟨hc, _⟩ | ⟨a, len, cap, m, k, D, Pl, hc, _, hl, _, hmm, _, hall⟩
  · simp [Value.cells] at hc
    obtain ⟨rfl, rfl, rfl⟩ := hc
    exact ⟨_, _, _, [], rfl, ⟨rfl, fun i o hi => by simp at hi⟩, Nat.le_refl _⟩
  · simp [Value.cells] at hc
    obtain ⟨rfl, rfl, rfl⟩ := hc
    have hlm : n ≤ m := by rw [hmm]; split <;> omega
    have each : ∀ i, i < n → ∃ o : OpV, ∃ (b off : Nat) (Cs : Array Value) (t : TypeId) (fr : Nat × Nat), some a = some ⟨b, off, none⟩ ∧ w.heap[b]? = some (.cells Cs t fr) ∧ Cs.extract (off + i * 6) (off + i * 6 + 6) = o.cells := fun i hi => by
      obtain ⟨cs', h1, h2⟩ := hall i (by omega)
      rw [cells39] at h1
      obtain ⟨_, hlen, hcell⟩ := World.cells?_some h1
      obtain ⟨o, ho⟩ := op_of hlen h2
      have hs : a.spot = none := by
        obtain ⟨cs0, k1, _⟩ := hall 0 (by omega)
        rw [cells39] at k1
        obtain ⟨_, hlen0, hcell0⟩ := World.cells?_some k1
        have z0 := hcell0 0 (by omega)
        rw [List.getElem?_eq_getElem (show 0 < cs0.length by omega)] at z0
        unfold World.cell? at z0
        simp [Addr.add] at z0
        split at z0
        · split at z0
          · cases z0
          · rename_i h; simpa using h
        · cases z0
      obtain ⟨Cs, t, fr, q1, q2⟩ := six_row (w := w) (a := a) (i := i) hlen (fun j hj => by rw [← hcell j (by omega), Addr.add_add]) hs
      refine ⟨o, a.block, a.off, Cs, t, fr, ?_, q1, by rw [q2, ho]⟩
      obtain ⟨b, off, s⟩ := a
      simp at hs; simp [hs]
    obtain ⟨l, hln, hall2⟩ := choose_list n each
    exact ⟨_, _, _, l, rfl, ⟨hln, hall2⟩, hl⟩
end
end Go.Proofs.Ytbhdgeoljlhmcaa
