/- Lists of names of a call's own; a name put behind. -/
import Derived.Test.YtokmaehefenpmaaDoorW11
import Derived.Test.YtokmaehefenpmaaDoorA3
namespace Go.Proofs.YtokmaehefenpmaaDoor
open Go.RowKit Go.Proofs.YtokmaehefenpmaaDoor.Nm
set_option linter.unusedSimpArgs false
def OwnS (w : World) (B : Nat) (v : Value) (ns : List ByteArray) : Prop := w.ownsRow B 9 1 v ns.length (ns.map .string)
theorem OwnS.nil (w : World) (B : Nat) : OwnS w B (.slice none 0 0) [] := World.ownsRow_nil _ _ _ _
theorem OwnS.lt {w : World} {B : Nat} {v : Value} {ns : List ByteArray} (h : OwnS w B v ns) : ∀ b, v.ownBlock = some b → B ≤ b ∧ b < w.heap.size := World.ownsRow.lt h
theorem OwnS.old {w w' : World} {B : Nat} {v : Value} {ns : List ByteArray} (h : OwnS w B v ns) (hb : Below w.heap.size w w') : OwnS w' B v ns := own_same h fun q hq _ => hb.block q hq
theorem OwnS.tx {w : World} {B : Nat} {v : Value} {ns : List ByteArray} (h : OwnS w B v ns) : ∃ A l c, v = .slice A l c ∧ TxAt w ns A l c := by
  rcases h.2 with ⟨rfl, hn⟩ | ⟨g, cap, cur, rfl, hB, hg, hc, hm, hs, hcur⟩
  · have : ns = [] := by cases ns with | nil => rfl | cons => simp at hn
    subst this
    exact ⟨none, 0, 0, rfl, rfl, Nat.le_refl _, Nat.zero_le _, fun i s h => by simp at h⟩
  · refine ⟨_, _, _, rfl, rfl, hc, hm, fun i s hi => ⟨g, 0, rfl, ?_⟩⟩
    have hl : i < ns.length := (List.getElem?_eq_some_iff.1 hi).1
    rw [Nat.zero_add, cell_of_row _ _ _ _ _ _ hg]
    have h2 : (ns.map Value.string)[i]? = some (.string s) := by rw [List.getElem?_map, hi]; rfl
    rw [← hcur, List.getElem?_take_of_lt (by omega)] at h2
    simpa using h2
/-- What stands when a list of the call's own has grown. -/
structure Gro (v : Value) (w : World) (v' : Value) (w' : World) : Prop where
  keep : ∀ b, b < w.heap.size → v.ownBlock ≠ some b → w'.heap[b]? = w.heap[b]?
  own : ∀ b, v'.ownBlock = some b → v.ownBlock = some b ∨ w.heap.size ≤ b
  bel : ∀ B' w0, (∀ b, v.ownBlock = some b → B' ≤ b) → B' ≤ w.heap.size → Below B' w0 w → Below B' w0 w'
theorem Gro.size {v v' : Value} {w w' : World} (h : Gro v w v' w') : w.heap.size ≤ w'.heap.size := (h.bel 0 w (fun _ _ => Nat.zero_le _) (Nat.zero_le _) (Below.refl _ _)).size
theorem Gro.trans {v v1 v2 : Value} {w w1 w2 : World} (h : Gro v w v1 w1) (g : Gro v1 w1 v2 w2) : Gro v w v2 w2 where
  keep b hb hv := by
    have := h.size
    rw [g.keep b (by omega) (fun e => (h.own b e).elim hv (by omega)), h.keep b hb hv]
  own b e := by
    have := h.size
    rcases g.own b e with e | e
    · exact h.own b e
    · exact .inr (by omega)
  bel B' w0 h1 h2 h3 := by
    have := h.size
    exact g.bel B' w0 (fun b e => (h.own b e).elim (h1 b) (by omega)) (by omega) (h.bel B' w0 h1 h2 h3)
theorem Gro.of {v : Value} {w w' : World} (hb : Below w.heap.size w w') : Gro v w v w' := ⟨fun b h _ => hb.block b h, fun _ e => .inl e, fun _ _ _ h2 h3 => h3.trans (hb.mono h2)⟩
theorem info9b : (Tryd.prog.info? 9).map (fun i => (i.zero, i.size, i.bytes)) = some (some (.string ⟨#[]⟩), 1, 16) := by kernel_rfl
theorem run_pushS {w : World} {B : Nat} {v : Value} {ns : List ByteArray} {s : ByteArray} (oty : TypeId) (h : OwnS w B v ns) {q : Nat} {tq : TypeId} (hq : w.heap[q]? = some (.cells #[.string s] tq (0, 0))) (hn : ns.length ≤ 1000000) (hB : B ≤ w.heap.size) :
    ∃ A l c w', (Builtin.append_ #[25, 25] oty #[v, .slice (some ⟨q, 0, none⟩) 1 1]).run Tryd.prog w = .ok (.slice A l c) w' ∧ OwnS w' B (.slice A l c) (ns ++ [s]) ∧ Gro v w (.slice A l c) w' := by
  obtain ⟨i0, hi, hz0, hz1, hz2⟩ := info_parts info9b
  obtain ⟨v', w', hr, g2, g3, g4, g5⟩ := run_append_own_at (P := Tryd.prog) w B 25 oty 9 i0 _ 1 16 u25 hi hz0 hz1 hz2 rfl (by decide) v ns.length _ h ⟨q, 0, none⟩ 1 1 [.string s] rfl (fun j u hj => by
      rw [show (Addr.add ⟨q, 0, none⟩ j) = ⟨q, j, none⟩ by rw [Addr.add_mid]; simp, cell_of_row _ _ _ _ _ _ hq]
      simpa using hj) (fun u hu => by simp at hu; subst hu; rfl) (by unfold maxLen; omega) (by omega) hB
  have hO : OwnS w' B v' (ns ++ [s]) := by unfold OwnS; simpa using g2
  obtain ⟨A', l', c', rfl, -⟩ := hO.tx
  refine ⟨A', l', c', w', hr, hO, fun b hb hne => g3.block b hb (fun e => hne e.symm), fun b e => ?_, fun B' w0 hb1 hb2 hb => hb.grown g3 hb2 hb1⟩
  rcases g5 with e5 | e5
  · rw [e5] at e; exact .inl e
  · rw [e5] at e; simp at e; exact .inr (by omega)
theorem run_bsS (s : ByteArray) (w : World) : (Instr.buildSlice 25 1 #[(0, .string s)]).run Tryd.prog w = .ok (.slice (some ⟨w.heap.size, 0, none⟩) 1 1) (w.alloc (.cells #[.string s] 9)) := by kernel_rfl
section
variable {ops : Array Oper} {rest : List Oper} {o : Oper} {dst : Option Tmp} {ty' : TypeId} {x : Operand} {pos : String} {after : Array Edge} {a : Act} {w : World} {Q : Exit → Act → World → Prop}
theorem wl_bsS {s : ByteArray} (hx : a.eval x = .string s)
    (h : ∀ W p, Below w.heap.size w W → w.heap.size ≤ p → W.heap[p]? = some (.cells #[.string s] 9 (0, 0)) → wpList Tryd.prog ops Q rest (a.put dst (.slice (some ⟨p, 0, none⟩) 1 1)) W) :
    wpList Tryd.prog ops Q (⟨dst, .buildSlice 25 1 #[(0, x)], ty', pos, after, none⟩ :: rest) a w :=
  wl_w rfl (by unfold execOp; simp [hx, run_bsS s w, Result.andThen]) (h _ _ ((Below.refl _ w).alloc (Nat.le_refl _) _) (Nat.le_refl _) (ha_new rfl))
theorem wl_pushS (hg : o.guard = none) (s x : Operand) (ho : o.op = .call { callee := .builtin .append, args := #[s, x], argTypes := #[25, 25] }) {B : Nat} {v : Value} {ns : List ByteArray} {t : ByteArray} {q : Nat} {tq : TypeId}
    (hs : a.eval s = v) (hx : a.eval x = .slice (some ⟨q, 0, none⟩) 1 1) (h : OwnS w B v ns) (hq : w.heap[q]? = some (.cells #[.string t] tq (0, 0))) (hn : ns.length ≤ 1000000) (hB : B ≤ w.heap.size)
    (hK : ∀ A l c w', OwnS w' B (.slice A l c) (ns ++ [t]) → Gro v w (.slice A l c) w' → wpList Tryd.prog ops Q rest (a.put o.dst (.slice A l c)) w') : wpList Tryd.prog ops Q (o :: rest) a w := by
  obtain ⟨A, l, c, w', hr, h2, h3⟩ := run_pushS o.type h hq hn hB
  refine wl_w hg ?_ (hK A l c w' h2 h3)
  unfold execOp
  simp only [ho, resolve, invoke, builtin, Sem.run_bind, Sem.run_pure, Result.andThen_ok, List.map_toArray, List.map_cons, List.map_nil, hs, hx, hr]
end
/-- Names put in one after the other, none twice. -/
structure Adds (ns ns' l : List ByteArray) : Prop where
  mem : ∀ x, x ∈ ns' ↔ x ∈ ns ∨ x ∈ l
  nod : ns.Nodup → ns'.Nodup
theorem Adds.nil (ns : List ByteArray) : Adds ns ns [] := ⟨fun x => by simp, fun h => h⟩
theorem Adds.trans {ns n1 n2 l m : List ByteArray} (h : Adds ns n1 l) (g : Adds n1 n2 m) : Adds ns n2 (l ++ m) := ⟨fun x => by rw [g.mem, h.mem]; simp [or_assoc], fun hn => g.nod (h.nod hn)⟩
theorem Adds.new {ns : List ByteArray} {s : ByteArray} (h : s ∉ ns) : Adds ns (ns ++ [s]) [s] := ⟨fun x => by simp, fun hn => by
  rw [List.nodup_append]
  refine ⟨hn, by simp, fun a ha b hb => ?_⟩
  simp at hb; subst hb
  exact fun e => h (e ▸ ha)⟩
theorem Adds.had {ns : List ByteArray} {s : ByteArray} (h : s ∈ ns) : Adds ns ns [s] := ⟨fun x => ⟨fun hx => .inl hx, fun hx => hx.elim id fun e => by simp at e; subst e; exact h⟩, fun h => h⟩
theorem idxI_neg (ns : List ByteArray) (s : ByteArray) : idxI ns s < 0 ↔ s ∉ ns := by
  unfold idxI
  cases h : idx ns s with
  | none =>
    unfold idx at h
    rw [List.findIdx?_eq_none_iff] at h
    simp only [Int.reduceNeg, Int.reduceLT, true_iff]
    intro hm
    simpa using h s hm
  | some i =>
    unfold idx at h
    rw [List.findIdx?_eq_some_iff_getElem] at h
    obtain ⟨hl, he, -⟩ := h
    simp at he
    have : s ∈ ns := by rw [← he]; exact List.getElem_mem hl
    constructor
    · intro hh; exact absurd hh (by simp)
    · intro hh; exact absurd this hh
end Go.Proofs.YtokmaehefenpmaaDoor
