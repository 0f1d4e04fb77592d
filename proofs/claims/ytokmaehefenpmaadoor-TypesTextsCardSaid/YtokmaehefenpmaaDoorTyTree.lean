/- Trees of api.Type in memory: the relation TyAt, what keeps it, and a tree taken out of a row's input. For any program in which the type has its four fields (TyNums). -/
import Derived.ProofKit
import Derived.Lib.SmallJoins
import Derived.Deep.Strs
import Derived.Deep.Slices
import Derived.Carry
import Derived.IntWalk
namespace Go.Proofs.YtokmaehefenpmaaDoor
open Go.ChangeShapes Go.WideShapes Go.ChangeAt Go.RowKit
structure TyNums (P : Program) (T L S I : TypeId) : Prop where
  uT : P.underlying T = some (.struct (P.fieldsOf T))
  fl : (P.fieldsOf T).toList.map (fun f => (f.type, f.offset)) = [(I, 0), (S, 1), (I, 2), (L, 3)]
  uL : P.underlying L = some (.slice T)
  uS : P.underlying S = some .string
  uI : P.underlying I = some (.int .i64)
  cT : P.cellsOf T = 4
  cL : P.cellsOf L = 1
  cS : P.cellsOf S = 1
  cI : P.cellsOf I = 1
inductive Ty where
  | node (kind : Int) (name : ByteArray) (n : Int) (args : List Ty) : Ty
def cell4 (k : Int) (s : ByteArray) (n : Int) (A : Option Addr) (l c : Nat) : Array Value := #[.int .i64 k, .string s, .int .i64 n, .slice A l c]
def Four (w : World) (D : Nat → Prop) (A : Option Addr) (i : Nat) (row : Array Value) : Prop :=
  ∃ (b off : Nat) (Cs : Array Value) (t : TypeId) (fr : Nat × Nat), A = some ⟨b, off, none⟩ ∧ D b ∧ w.heap[b]? = some (.cells Cs t fr) ∧ Cs.extract (off + i * 4) (off + i * 4 + 4) = row
inductive TyAt (w : World) (D : Nat → Prop) : Ty → Array Value → Prop where
  | mk {k : Int} {s : ByteArray} {n : Int} {A : Option Addr} {len cap : Nat} {args : List Ty} (rows : Nat → Array Value)
      (hk : (Lit.int .i64 k).wf = true) (hn : (Lit.int .i64 n).wf = true) (hs : s.size ≤ maxLen) (hl : args.length = len) (hc : len ≤ cap) (hm : cap ≤ maxLen)
      (hf : ∀ i t, args[i]? = some t → Four w D A i (rows i)) (ht : ∀ i t, args[i]? = some t → TyAt w D t (rows i)) : TyAt w D (.node k s n args) (cell4 k s n A len cap)
theorem Four.mono {w w' : World} {D D' : Nat → Prop} {A : Option Addr} {i : Nat} {row : Array Value} (h : Four w D A i row) (hD : ∀ b, D b → D' b) (hw : ∀ b, D b → w'.heap[b]? = w.heap[b]?) : Four w' D' A i row := by
  obtain ⟨b, off, Cs, t, fr, h1, h2, h3, h4⟩ := h
  exact ⟨b, off, Cs, t, fr, h1, hD b h2, by rw [hw b h2, h3], h4⟩
theorem TyAt.mono {w w' : World} {D D' : Nat → Prop} {t : Ty} {row : Array Value} (h : TyAt w D t row) (hD : ∀ b, D b → D' b) (hw : ∀ b, D b → w'.heap[b]? = w.heap[b]?) : TyAt w' D' t row := by
  induction h with
  | mk rows hk hn hs hl hc hm hf _ ih => exact .mk rows hk hn hs hl hc hm (fun i t hi => (hf i t hi).mono hD hw) ih
theorem TyAt.size {w : World} {D : Nat → Prop} {t : Ty} {row : Array Value} (h : TyAt w D t row) : row.size = 4 := by
  cases h; rfl
theorem four_fields {fs : Array Field} {a b c d : Nat × Nat} (h : fs.toList.map (fun f => (f.type, f.offset)) = [a, b, c, d]) : ∃ f0 f1 f2 f3, fs = #[f0, f1, f2, f3] ∧ (f0.type, f0.offset) = a ∧ (f1.type, f1.offset) = b ∧ (f2.type, f2.offset) = c ∧ (f3.type, f3.offset) = d := by
  obtain ⟨l⟩ := fs
  match l, h with
  | [f0, f1, f2, f3], h => simp at h; exact ⟨f0, f1, f2, f3, rfl, by simp [h.1], by simp [h.2.1], by simp [h.2.2.1], by simp [h.2.2.2]⟩
theorem four_row {w : World} {a : Addr} {i : Nat} {cs : List Value} (hl : cs.length = 4) (h : ∀ j, j < 4 → w.cell? (a.add (i * 4 + j)) = cs[j]?) (hs : a.spot = none) :
    ∃ Cs t fr, w.heap[a.block]? = some (.cells Cs t fr) ∧ Cs.extract (a.off + i * 4) (a.off + i * 4 + 4) = cs.toArray := by
  have e : ∀ n, a.add n = ⟨a.block, a.off + n, none⟩ := fun n => by
    obtain ⟨b, o, s⟩ := a
    unfold Addr.add
    split
    · rename_i h; subst h; simp at hs; simp [hs]
    · rfl
  have h0 := h 0 (by omega)
  rw [e] at h0
  unfold World.cell? at h0
  simp only [] at h0
  cases hc : w.heap[a.block]? with
  | none => rw [hc, List.getElem?_eq_getElem (show 0 < cs.length by omega)] at h0; cases h0
  | some o =>
    cases o with
    | cells Cs t fr =>
      refine ⟨Cs, t, fr, rfl, ?_⟩
      have hj : ∀ j, j < 4 → Cs[a.off + i * 4 + j]? = cs[j]? := fun j hj => by
        have := h j hj
        rw [e] at this
        unfold World.cell? at this
        rw [hc] at this
        simpa [Nat.add_assoc] using this
      apply Array.ext_getElem?
      intro j
      have h3 := hj 3 (by omega)
      rw [List.getElem?_eq_getElem (show 3 < cs.length by omega)] at h3
      have hz := (Array.getElem?_eq_some_iff.1 h3).1
      by_cases hlt : j < 4
      · rw [Array.getElem?_extract, if_pos (by omega), hj j hlt]; simp
      · rw [Array.getElem?_eq_none (by simp; omega), Array.getElem?_eq_none (by simp; omega)]
    | _ => rw [hc, List.getElem?_eq_getElem (show 0 < cs.length by omega)] at h0; cases h0
theorem choose_list {α : Type} {Q : Nat → α → Prop} : ∀ (n : Nat), (∀ i, i < n → ∃ x, Q i x) → ∃ l : List α, l.length = n ∧ ∀ (i : Nat) (x : α), l[i]? = some x → Q i x
  | 0, _ => ⟨[], rfl, fun i x h => by simp at h⟩
  | n + 1, h => by
    obtain ⟨l, h1, h2⟩ := choose_list n (fun i hi => h i (by omega))
    obtain ⟨x, hx⟩ := h n (by omega)
    refine ⟨l ++ [x], by simp [h1], fun i y hy => ?_⟩
    by_cases e : i < n
    · rw [List.getElem?_append_left (by omega)] at hy; exact h2 i y hy
    · rw [List.getElem?_append_right (by omega)] at hy
      have hm := List.mem_of_getElem? hy
      simp at hm; subst hm
      have hl := (List.getElem?_eq_some_iff.1 hy).1
      simp at hl
      obtain rfl : i = n := by omega
      exact hx
section
variable {P : Program} {T L S I : TypeId} {H : Type} {enc : TypeId × Value → H} {w : World} {base : Nat} {sp : Nat → Bool} {held : Bool}
/-- The slice of a tree's arguments, once its elements are known to be trees. -/
theorem open_args (hN : TyNums P T L S I) {fuel : Nat} {cs : List Value} {x : DataW H × List MemPlace} (h : DataW.trod enc P w base sp held fuel L cs = some x)
    (sub : ∀ (m : Nat), m < fuel → ∀ cs x, DataW.trod enc P w base sp held m T cs = some x → ∃ t, TyAt w (fun b => base ≤ b) t cs.toArray) :
    ∃ (A : Option Addr) (len cap : Nat) (args : List Ty) (rows : Nat → Array Value), cs = [.slice A len cap] ∧ args.length = len ∧ len ≤ cap ∧ cap ≤ maxLen ∧ (∀ i t, args[i]? = some t → Four w (fun b => base ≤ b) A i (rows i)) ∧
      ∀ i t, args[i]? = some t → TyAt w (fun b => base ≤ b) t (rows i) := by
  rcases DataW.trod_slice hN.uL h with ⟨rfl, _⟩ | ⟨a, len, cap, elems, rest, k, hk, rfl, _, hb, hl, hm, hle, hall, _, _⟩
  · exact ⟨none, 0, 0, [], fun _ => #[], rfl, rfl, Nat.le_refl _, Nat.zero_le _, fun i t hi => by simp at hi, fun i t hi => by simp at hi⟩
  · have each : ∀ i, i < len → ∃ q : Ty × Array Value, Four w (fun b => base ≤ b) (some a) i q.2 ∧ TyAt w (fun b => base ≤ b) q.1 q.2 := fun i hi => by
      have hi2 := hall i hi
      rw [List.getElem?_eq_getElem (by omega), Option.bind_eq_some_iff] at hi2
      obtain ⟨cs', h1, h2⟩ := hi2
      rw [hN.cT] at h1
      obtain ⟨_, hlen, hcell⟩ := World.cells?_some h1
      obtain ⟨t, ht⟩ := sub k (by omega) _ _ h2
      have hs : a.spot = none := by
        have k0 := hall 0 (by omega)
        rw [List.getElem?_eq_getElem (by omega), Option.bind_eq_some_iff] at k0
        obtain ⟨cs0, k1, _⟩ := k0
        rw [hN.cT] at k1
        obtain ⟨_, hlen0, hcell0⟩ := World.cells?_some k1
        have z0 := hcell0 0 (by omega)
        rw [List.getElem?_eq_getElem (show 0 < cs0.length by omega)] at z0
        unfold World.cell? at z0
        simp [Addr.add] at z0
        split at z0
        · split at z0
          · cases z0
          · rename_i h; simpa using h
        · cases z0
      obtain ⟨Cs, t', fr, q1, q2⟩ := four_row (w := w) (a := a) (i := i) hlen (fun j hj => by rw [← hcell j (by omega), Addr.add_add]) hs
      refine ⟨(t, cs'.toArray), ⟨a.block, a.off, Cs, t', fr, ?_, hb, q1, q2⟩, ht⟩
      obtain ⟨b, off, s⟩ := a
      simp at hs; simp [hs]
    obtain ⟨l, hln, hall2⟩ := choose_list len each
    refine ⟨some a, len, cap, l.map (·.1), fun i => ((l[i]?).map (·.2)).getD #[], rfl, by simp [hln], hl, hm, fun i t hi => ?_, fun i t hi => ?_⟩
    · simp at hi
      obtain ⟨q, hq⟩ := hi
      simp only [hq, Option.map_some, Option.getD_some]; exact (hall2 i _ hq).1
    · simp at hi
      obtain ⟨q, hq⟩ := hi
      simp only [hq, Option.map_some, Option.getD_some]; exact (hall2 i _ hq).2
/-- A tree taken out of the cells that an input's row has. -/
theorem open_tree (hN : TyNums P T L S I) : ∀ (fuel : Nat) (cs : List Value) (x : DataW H × List MemPlace), DataW.trod enc P w base sp held fuel T cs = some x → ∃ t, TyAt w (fun b => base ≤ b) t cs.toArray := by
  intro fuel
  induction fuel using Nat.strongRecOn with
  | _ fuel ih =>
    intro cs x h
    obtain ⟨f0, f1, f2, f3, hfs, e0, e1, e2, e3⟩ := four_fields hN.fl
    simp only [Prod.mk.injEq] at e0 e1 e2 e3
    have hu := hN.uT
    rw [hfs] at hu
    obtain ⟨xs, k, rfl, _, hxl, hxs, hf⟩ := DataW.trod_struct hu h
    rw [hN.cT] at hxl
    match cs, hxl with
    | [v0, v1, v2, v3], _ =>
      match xs, hxs with
      | [y0, y1, y2, y3], _ =>
        have g0 := hf 0 f0 rfl
        have g1 := hf 1 f1 rfl
        have g2 := hf 2 f2 rfl
        have g3 := hf 3 f3 rfl
        simp [e0, e1, e2, e3, hN.cI, hN.cS, hN.cL] at g0 g1 g2 g3
        obtain ⟨n0, q0, _, w0⟩ := DataW.trod_int hN.uI g0
        obtain ⟨s1, q1, _, w1⟩ := DataW.trod_string hN.uS g1
        obtain ⟨n2, q2, _, w2⟩ := DataW.trod_int hN.uI g2
        obtain ⟨A, len, cap, args, rows, q3, hl, hc, hm, hfo, hta⟩ := open_args hN g3 (fun m hm => ih m (by omega))
        simp at q0 q1 q2 q3
        subst q0 q1 q2 q3
        exact ⟨.node n0 s1 n2 args, TyAt.mk rows w0 w2 w1 hl hc hm hfo hta⟩
end
end Go.Proofs.YtokmaehefenpmaaDoor
