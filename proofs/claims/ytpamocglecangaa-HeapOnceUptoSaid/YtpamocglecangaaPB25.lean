/- What the rows of this seat share: values and calls taken out of a row's input. Inputs out of a row, with their weight. -/
import Derived.Test.YtpamocglecangaaRows
import Derived.ProofKit
import Derived.Lib.SmallJoins
import Derived.Deep.Strs
import Derived.Deep.Slices
import Derived.Carry
import Derived.IntWalk
import Derived.Test.YtpamocglecangaaPB14
import Derived.Test.YtpamocglecangaaPB13
import Derived.Test.YtpamocglecangaaPB15
namespace Go.Proofs.Ytpamocglecangaa
open Go.ChangeShapes Go.WideShapes Go.ChangeAt Go.RowKit
theorem own0 : ownKnob Try.prog.godebug = none := by kernel_rfl
theorem row_u4 : Try.prog.underlying 4 = some .bool := by kernel_rfl
theorem laidOut0 : laidOutB Try.prog = true := by kernel_rfl
theorem cells35 : Try.prog.cellsOf 35 = 9 := by kernel_rfl
theorem cells37 : Try.prog.cellsOf 37 = 26 := by kernel_rfl
theorem cells3 : Try.prog.cellsOf 3 = 1 := by kernel_rfl
theorem cells9 : Try.prog.cellsOf 9 = 1 := by kernel_rfl
theorem cells30 : Try.prog.cellsOf 30 = 1 := by kernel_rfl
theorem cells33 : Try.prog.cellsOf 33 = 1 := by kernel_rfl
theorem cells32 : Try.prog.cellsOf 32 = 4 := by kernel_rfl
theorem u23 : Try.prog.underlying 23 = some (.slice 37) := by kernel_rfl
theorem fl35 : (Try.prog.fieldsOf 35).toList.map (fun f => (f.type, f.offset)) = [(3, 0), (3, 1), (9, 2), (32, 3), (30, 7), (33, 8)] := by kernel_rfl
theorem fl37 : (Try.prog.fieldsOf 37).toList.map (fun f => (f.type, f.offset)) = [(3, 0), (3, 1), (3, 2), (35, 3), (35, 12), (32, 21), (33, 25)] := by kernel_rfl
theorem fields6 {fs : Array Field} {a b c d e g : Nat × Nat} (h : fs.toList.map (fun f => (f.type, f.offset)) = [a, b, c, d, e, g]) : ∃ f0 f1 f2 f3 f4 f5, fs = #[f0, f1, f2, f3, f4, f5] ∧ (f0.type, f0.offset) = a ∧ (f1.type, f1.offset) = b ∧ (f2.type, f2.offset) = c ∧ (f3.type, f3.offset) = d ∧ (f4.type, f4.offset) = e ∧ (f5.type, f5.offset) = g := by
  obtain ⟨l⟩ := fs
  match l, h with
  | [f0, f1, f2, f3, f4, f5], h => simp at h; exact ⟨f0, f1, f2, f3, f4, f5, rfl, by simp [h.1], by simp [h.2.1], by simp [h.2.2.1], by simp [h.2.2.2.1], by simp [h.2.2.2.2.1], by simp [h.2.2.2.2.2]⟩
theorem fields7 {fs : Array Field} {a b c d e g k : Nat × Nat} (h : fs.toList.map (fun f => (f.type, f.offset)) = [a, b, c, d, e, g, k]) : ∃ f0 f1 f2 f3 f4 f5 f6, fs = #[f0, f1, f2, f3, f4, f5, f6] ∧ (f0.type, f0.offset) = a ∧ (f1.type, f1.offset) = b ∧ (f2.type, f2.offset) = c ∧ (f3.type, f3.offset) = d ∧ (f4.type, f4.offset) = e ∧ (f5.type, f5.offset) = g ∧ (f6.type, f6.offset) = k := by
  obtain ⟨l⟩ := fs
  match l, h with
  | [f0, f1, f2, f3, f4, f5, f6], h => simp at h; exact ⟨f0, f1, f2, f3, f4, f5, f6, rfl, by simp [h.1], by simp [h.2.1], by simp [h.2.2.1], by simp [h.2.2.2.1], by simp [h.2.2.2.2.1], by simp [h.2.2.2.2.2.1], by simp [h.2.2.2.2.2.2]⟩
theorem n_row {w : World} {a : Addr} {i n : Nat} {cs : List Value} (hn : 0 < n) (hl : cs.length = n) (h : ∀ j, j < n → w.cell? (a.add (i * n + j)) = cs[j]?) (hs : a.spot = none) :
    ∃ Cs t fr, w.heap[a.block]? = some (.cells Cs t fr) ∧ Cs.extract (a.off + i * n) (a.off + i * n + n) = cs.toArray := by
  have e : ∀ n, a.add n = ⟨a.block, a.off + n, none⟩ := fun n => by
    obtain ⟨b, o, s⟩ := a
    unfold Addr.add
    split
    · rename_i h; subst h; simp at hs; simp [hs]
    · rfl
  have h0 := h 0 hn
  rw [e] at h0
  unfold World.cell? at h0
  simp only [] at h0
  cases hc : w.heap[a.block]? with
  | none => rw [hc, List.getElem?_eq_getElem (show 0 < cs.length by omega)] at h0; cases h0
  | some o =>
    cases o with
    | cells Cs t fr =>
      refine ⟨Cs, t, fr, rfl, ?_⟩
      have hj : ∀ j, j < n → Cs[a.off + i * n + j]? = cs[j]? := fun j hj => by
        have := h j hj
        rw [e] at this
        unfold World.cell? at this
        rw [hc] at this
        simpa [Nat.add_assoc] using this
      have h5 := hj (n - 1) (by omega)
      rw [List.getElem?_eq_getElem (show n - 1 < cs.length by omega)] at h5
      have hz := (Array.getElem?_eq_some_iff.1 h5).1
      apply Array.ext_getElem?
      intro j
      by_cases hlt : j < n
      · rw [Array.getElem?_extract, if_pos (by omega), hj j hlt]; simp
      · rw [Array.getElem?_eq_none (by simp; omega), Array.getElem?_eq_none (by simp; omega)]
    | _ => rw [hc, List.getElem?_eq_getElem (show 0 < cs.length by omega)] at h0; cases h0
section
variable {H : Type} {enc : TypeId × Value → H} {w : World} {base b0 : Nat} {sp : Nat → Bool} {held : Bool} {r : Reach} {v : Value} {d : DataW H} {p : List MemPlace}
/-- A slice of things, once its elements are known. -/
theorem open_sl {α : Type} {L T : TypeId} {n : Nat} (hu : Try.prog.underlying L = some (.slice T)) (hcT : Try.prog.cellsOf T = n) (hn : 0 < n) {Q : α → Array Value → Prop} {fuel : Nat} {cs : List Value} {x : DataW H × List MemPlace} (h : DataW.trod enc Try.prog w base sp held fuel L cs = some x)
    (sub : ∀ (m : Nat), m < fuel → ∀ cs x, DataW.trod enc Try.prog w base sp held m T cs = some x → ∃ t, Q t cs.toArray) :
    ∃ (A : Option Addr) (len cap : Nat) (args : List α) (rows : Nat → Array Value), cs = [.slice A len cap] ∧ args.length = len ∧ len ≤ cap ∧ cap ≤ maxLen ∧ ∀ i t, args[i]? = some t → (∃ b off Cs t fr, A = some ⟨b, off, none⟩ ∧ base ≤ b ∧ w.heap[b]? = some (.cells Cs t fr) ∧ Cs.extract (off + i * n) (off + i * n + n) = rows i) ∧ Q t (rows i) := by
  rcases DataW.trod_slice hu h with ⟨rfl, _⟩ | ⟨a, len, cap, elems, rest, k, hk, rfl, _, hb, hl, hm, hle, hall, _, _⟩
  · exact ⟨none, 0, 0, [], fun _ => #[], rfl, rfl, Nat.le_refl _, Nat.zero_le _, fun i t hi => by simp at hi⟩
  · have each : ∀ i, i < len → ∃ q : α × Array Value, (∃ b off Cs t fr, (some a : Option Addr) = some ⟨b, off, none⟩ ∧ base ≤ b ∧ w.heap[b]? = some (.cells Cs t fr) ∧ Cs.extract (off + i * n) (off + i * n + n) = q.2) ∧ Q q.1 q.2 := fun i hi => by
      have hi2 := hall i hi
      rw [List.getElem?_eq_getElem (by omega), Option.bind_eq_some_iff] at hi2
      obtain ⟨cs', h1, h2⟩ := hi2
      rw [hcT] at h1
      obtain ⟨_, hlen, hcell⟩ := World.cells?_some h1
      obtain ⟨t, ht⟩ := sub k (by omega) _ _ h2
      have hs : a.spot = none := by
        have k0 := hall 0 (by omega)
        rw [List.getElem?_eq_getElem (by omega), Option.bind_eq_some_iff] at k0
        obtain ⟨cs0, k1, _⟩ := k0
        rw [hcT] at k1
        obtain ⟨_, hlen0, hcell0⟩ := World.cells?_some k1
        have z0 := hcell0 0 hn
        rw [List.getElem?_eq_getElem (show 0 < cs0.length by omega)] at z0
        unfold World.cell? at z0
        simp [Addr.add] at z0
        split at z0
        · split at z0
          · cases z0
          · rename_i h; simpa using h
        · cases z0
      obtain ⟨Cs, t', fr, q1, q2⟩ := n_row (w := w) (a := a) (i := i) hn hlen (fun j hj => by rw [← hcell j hj, Addr.add_add]) hs
      refine ⟨(t, cs'.toArray), ⟨a.block, a.off, Cs, t', fr, ?_, hb, q1, q2⟩, ht⟩
      obtain ⟨b, off, s⟩ := a
      simp at hs; simp [hs]
    obtain ⟨l, hln, hall2⟩ := choose_list len each
    refine ⟨some a, len, cap, l.map (·.1), fun i => ((l[i]?).map (·.2)).getD #[], rfl, by simp [hln], hl, hm, fun i t hi => ?_⟩
    simp at hi
    obtain ⟨q, hq⟩ := hi
    simp only [hq, Option.map_some, Option.getD_some]; exact hall2 i _ hq
end
end Go.Proofs.Ytpamocglecangaa
namespace Go.Proofs.Ytpamocglecangaa
open Go.ChangeShapes Go.WideShapes Go.ChangeAt Go.RowKit
theorem sum_wV : ∀ l : List Va, sumN (l.map wV) = wVs l
  | [] => by simp [sumN, wVs]
  | v :: l => by simp only [List.map_cons, sumN, wVs, sum_wV l]
theorem sumN_memb {α : Type} {f : α → Nat} {l : List α} {x : α} (h : x ∈ l) : f x ≤ sumN (l.map f) := by
  induction l with
  | nil => cases h
  | cons a l ih =>
    simp only [List.map_cons, sumN]
    rcases List.mem_cons.1 h with rfl | h
    · omega
    · have := ih h; omega
theorem sum_bulk {H α : Type} {f : α → Nat} {l : List α} {m : List (DataW H × List MemPlace)} (hl : l.length ≤ m.length) (h : ∀ (i : Nat) (a : α) (y : DataW H × List MemPlace), l[i]? = some a → m[i]? = some y → f a ≤ Rows.uptoBulk y.1) : sumN (l.map f) ≤ Rows.uptoBulkAll (m.map (·.1)) := by
  induction l generalizing m with
  | nil => exact Nat.zero_le _
  | cons a l ih =>
    cases m with
    | nil => simp at hl
    | cons y m =>
      have h0 := h 0 a y rfl rfl
      have h1 := ih (m := m) (by simpa using hl) (fun i a y h2 h3 => h (i + 1) a y (by simpa using h2) (by simpa using h3))
      simp only [List.map_cons, sumN, Rows.uptoBulkAll]; omega
def clW (q : Cl) : Nat := wVs q.l + wV q.v + wV q.x
section
variable {H : Type} {enc : TypeId × Value → H} {w : World} {base b0 : Nat} {sp : Nat → Bool} {held : Bool} {r : Reach} {v : Value} {d : DataW H} {p : List MemPlace}
/-- A slice of things, once its elements are known. -/
theorem open_slW {α : Type} {L T : TypeId} {n : Nat} (hu : Try.prog.underlying L = some (.slice T)) (hcT : Try.prog.cellsOf T = n) (hn : 0 < n) {Q : α → Array Value → Prop} {fuel : Nat} {cs : List Value} {x : DataW H × List MemPlace} (h : DataW.trod enc Try.prog w base sp held fuel L cs = some x)
    (f : α → Nat) (sub : ∀ (m : Nat), m < fuel → ∀ cs x, DataW.trod enc Try.prog w base sp held m T cs = some x → ∃ t, Q t cs.toArray ∧ f t ≤ Rows.uptoBulk x.1) :
    ∃ (A : Option Addr) (len cap : Nat) (args : List α) (rows : Nat → Array Value), cs = [.slice A len cap] ∧ args.length = len ∧ len ≤ cap ∧ cap ≤ maxLen ∧ (∀ i t, args[i]? = some t → (∃ b off Cs t fr, A = some ⟨b, off, none⟩ ∧ base ≤ b ∧ w.heap[b]? = some (.cells Cs t fr) ∧ Cs.extract (off + i * n) (off + i * n + n) = rows i) ∧ Q t (rows i)) ∧ sumN (args.map f) ≤ Rows.uptoBulk x.1 := by
  rcases DataW.trod_slice hu h with ⟨rfl, _⟩ | ⟨a, len, cap, elems, rest, k, hk, rfl, hx, hb, hl, hm, hle, hall, _, _⟩
  · exact ⟨none, 0, 0, [], fun _ => #[], rfl, rfl, Nat.le_refl _, Nat.zero_le _, fun i t hi => (by simp at hi), Nat.zero_le _⟩
  · have each : ∀ i, i < len → ∃ q : α × Array Value, (∃ b off Cs t fr, (some a : Option Addr) = some ⟨b, off, none⟩ ∧ base ≤ b ∧ w.heap[b]? = some (.cells Cs t fr) ∧ Cs.extract (off + i * n) (off + i * n + n) = q.2) ∧ Q q.1 q.2 ∧ ∃ y, elems[i]? = some y ∧ f q.1 ≤ Rows.uptoBulk y.1 := fun i hi => by
      have hi2 := hall i hi
      rw [List.getElem?_eq_getElem (by omega), Option.bind_eq_some_iff] at hi2
      obtain ⟨cs', h1, h2⟩ := hi2
      rw [hcT] at h1
      obtain ⟨_, hlen, hcell⟩ := World.cells?_some h1
      obtain ⟨t, ht, hft⟩ := sub k (by omega) _ _ h2
      have hs : a.spot = none := by
        have k0 := hall 0 (by omega)
        rw [List.getElem?_eq_getElem (by omega), Option.bind_eq_some_iff] at k0
        obtain ⟨cs0, k1, _⟩ := k0
        rw [hcT] at k1
        obtain ⟨_, hlen0, hcell0⟩ := World.cells?_some k1
        have z0 := hcell0 0 hn
        rw [List.getElem?_eq_getElem (show 0 < cs0.length by omega)] at z0
        unfold World.cell? at z0
        simp [Addr.add] at z0
        split at z0
        · split at z0
          · cases z0
          · rename_i h; simpa using h
        · cases z0
      obtain ⟨Cs, t', fr, q1, q2⟩ := n_row (w := w) (a := a) (i := i) hn hlen (fun j hj => by rw [← hcell j hj, Addr.add_add]) hs
      refine ⟨(t, cs'.toArray), ⟨a.block, a.off, Cs, t', fr, ?_, hb, q1, q2⟩, ht, _, List.getElem?_eq_getElem (by omega), hft⟩
      obtain ⟨b, off, s⟩ := a
      simp at hs; simp [hs]
    obtain ⟨l, hln, hall2⟩ := choose_list len each
    refine ⟨some a, len, cap, l.map (·.1), fun i => ((l[i]?).map (·.2)).getD #[], rfl, by simp [hln], hl, hm, fun i t hi => ?_, ?_⟩
    rotate_left
    · rw [hx]
      have hs : sumN (l.map fun q => f q.1) ≤ Rows.uptoBulkAll (elems.map (·.1)) := sum_bulk (by omega) (fun i q y hq hy => by
        obtain ⟨-, -, y', e1, e2⟩ := hall2 i q hq
        rw [hy] at e1; cases e1; exact e2)
      simp only [Rows.uptoBulk, List.map_map, Function.comp_def]
      omega
    simp at hi
    obtain ⟨q, hq⟩ := hi
    simp only [hq, Option.map_some, Option.getD_some]; exact ⟨(hall2 i _ hq).1, (hall2 i _ hq).2.1⟩
set_option maxRecDepth 100000 in
theorem open_vaW : ∀ (fuel : Nat) (cs : List Value) (x : DataW H × List MemPlace), DataW.trod enc Try.prog w base sp held fuel 35 cs = some x → ∃ v, VAt w (fun b => base ≤ b) v cs.toArray ∧ wV v ≤ Rows.uptoBulk x.1 := by
  intro fuel
  induction fuel using Nat.strongRecOn with
  | _ fuel ih =>
    intro cs x h
    obtain ⟨f0, f1, f2, f3, f4, f5, hfs, e0, e1, e2, e3, e4, e5⟩ := fields6 fl35
    simp only [Prod.mk.injEq] at e0 e1 e2 e3 e4 e5
    have hu := u35
    rw [hfs] at hu
    obtain ⟨xs, k, hkf, hxe, hxl, hxs, hf⟩ := DataW.trod_struct hu h
    rw [cells35] at hxl
    match cs, hxl with
    | [v0, v1, v2, v3, v4, v5, v6, v7, v8], _ =>
      match xs, hxs with
      | [y0, y1, y2, y3, y4, y5], _ =>
        have g0 := hf 0 f0 rfl
        have g1 := hf 1 f1 rfl
        have g2 := hf 2 f2 rfl
        have g3 := hf 3 f3 rfl
        have g4 := hf 4 f4 rfl
        have g5 := hf 5 f5 rfl
        simp [e0, e1, e2, e3, e4, e5, cells3, cells9, cells32, cells30, cells33] at g0 g1 g2 g3 g4 g5
        obtain ⟨n0, q0, _, w0⟩ := DataW.trod_int u3 g0
        obtain ⟨n1, q1, _, w1⟩ := DataW.trod_int u3 g1
        obtain ⟨s2, q2, _, w2⟩ := DataW.trod_string u9 g2
        obtain ⟨t3, h3⟩ := open_tree tyNums _ _ _ g3
        obtain ⟨A4, l4, c4, ts4, rows4, q4, a4, b4, d4, k4, m4⟩ := open_args tyNums g4 (fun m _ => open_tree tyNums m)
        obtain ⟨A5, l5, c5, vs5, rows5, q5, a5, b5, d5, k5, z5⟩ := open_slW (n := 9) (Q := fun v row => VAt w (fun b => base ≤ b) v row) u33 cells35 (by omega) g5 wV (fun m hm => ih m (by omega))
        simp at q0 q1 q2 q4 q5
        subst q0 q1 q2 q4 q5
        exact ⟨.node n0 n1 s2 t3 ts4 vs5, VAt.of w0 w1 w2 h3 ⟨a4, b4, d4, rows4, k4, m4⟩ ⟨a5, b5, d5, rows5, fun i v hi => (k5 i v hi).1, fun i v hi => (k5 i v hi).2⟩, by
          rw [hxe, wV_eq]
          show 1 + wVs vs5 ≤ _
          simp only [List.map_cons, List.map_nil, Rows.uptoBulk, Rows.uptoBulkAll]
          rw [← sum_wV] at *
          omega⟩
set_option maxHeartbeats 2000000 in
set_option maxRecDepth 100000 in
theorem open_clW (fuel : Nat) (cs : List Value) (x : DataW H × List MemPlace) (h : DataW.trod enc Try.prog w base sp held fuel 37 cs = some x) : ∃ q rv rx tr A l c, ClAt w (fun b => base ≤ b) q cs.toArray rv rx tr A l c ∧ clW q ≤ Rows.uptoBulk x.1 := by
  obtain ⟨f0, f1, f2, f3, f4, f5, f6, hfs, e0, e1, e2, e3, e4, e5, e6⟩ := fields7 fl37
  simp only [Prod.mk.injEq] at e0 e1 e2 e3 e4 e5 e6
  have hu := u37
  rw [hfs] at hu
  obtain ⟨xs, k, hkf, hxe, hxl, hxs, hf⟩ := DataW.trod_struct hu h
  rw [cells37] at hxl
  match cs, hxl with
  | [v0, v1, v2, v3, v4, v5, v6, v7, v8, v9, v10, v11, v12, v13, v14, v15, v16, v17, v18, v19, v20, v21, v22, v23, v24, v25], _ =>
    match xs, hxs with
    | [y0, y1, y2, y3, y4, y5, y6], _ =>
      have g0 := hf 0 f0 rfl
      have g1 := hf 1 f1 rfl
      have g2 := hf 2 f2 rfl
      have g3 := hf 3 f3 rfl
      have g4 := hf 4 f4 rfl
      have g5 := hf 5 f5 rfl
      have g6 := hf 6 f6 rfl
      simp [e0, e1, e2, e3, e4, e5, e6, cells3, cells35, cells32, cells33] at g0 g1 g2 g3 g4 g5 g6
      obtain ⟨n0, q0, _, w0⟩ := DataW.trod_int u3 g0
      obtain ⟨n1, q1, _, w1⟩ := DataW.trod_int u3 g1
      obtain ⟨n2, q2, _, w2⟩ := DataW.trod_int u3 g2
      obtain ⟨va, hva, z3⟩ := open_vaW _ _ _ g3
      obtain ⟨vx, hvx, z4⟩ := open_vaW _ _ _ g4
      obtain ⟨t5, h5⟩ := open_tree tyNums _ _ _ g5
      obtain ⟨A6, l6, c6, vs6, rows6, q6, a6, b6, d6, k6, z6⟩ := open_slW (n := 9) (Q := fun v row => VAt w (fun b => base ≤ b) v row) u33 cells35 (by omega) g6 wV (fun m hm => open_vaW m)
      simp at q0 q1 q2 q6
      subst q0 q1 q2 q6
      exact ⟨⟨n0, n1, n2, va, vx, t5, vs6⟩, _, _, _, A6, l6, c6, ⟨by simp [cell26], hva, hvx, h5, ⟨a6, b6, d6, rows6, fun i v hi => (k6 i v hi).1, fun i v hi => (k6 i v hi).2⟩, w0, w1, w2⟩, by
        rw [hxe]
        simp only [List.map_cons, List.map_nil, Rows.uptoBulk, Rows.uptoBulkAll, clW]
        rw [sum_wV] at z6
        omega⟩
set_option maxRecDepth 100000 in
theorem open_callsW (hv : Value.okWide Try.prog w r b0 23 v) (h : DataW.Trod enc Try.prog w base sp held 23 v d p) : ∃ A l c qs, v = .slice A l c ∧ ClsAt w (fun b => base ≤ b) qs A l c ∧ ∀ q, q ∈ qs → clW q ≤ Rows.uptoBulk d := by
  obtain ⟨A, l, c, rfl⟩ := okWide_slice u23 hv
  obtain ⟨fuel, hf⟩ := h
  obtain ⟨A', l', c', qs, rows, hcs, h1, h2, h3, h4, hz⟩ := open_slW (n := 26) (Q := fun q row => ∃ rv rx tr A l c, ClAt w (fun b => base ≤ b) q row rv rx tr A l c) u23 cells37 (by omega) hf clW (fun m _ cs x hx => by
    obtain ⟨q, rv, rx, tr, A, l, c, e1, e2⟩ := open_clW m cs x hx
    exact ⟨q, ⟨rv, rx, tr, A, l, c, e1⟩, e2⟩)
  simp [Value.cells] at hcs
  obtain ⟨rfl, rfl, rfl⟩ := hcs
  refine ⟨_, _, _, qs, rfl, ⟨h1, h2, h3, fun i q hi => ?_⟩, fun q hq => Nat.le_trans (sumN_memb (f := clW) hq) hz⟩
  obtain ⟨⟨b, off, Cs, t, fr, g1, g2, g3, g4⟩, rv, rx, tr, A', l', c', g5⟩ := h4 i q hi
  exact ⟨b, off, Cs, t, fr, rows i, rv, rx, tr, A', l', c', g1, g2, g3, g4, g5⟩
theorem u22s : Try.prog.underlying 22 = some (.slice 9) := by kernel_rfl
set_option maxRecDepth 100000 in
theorem open_ss (hv : Value.okWide Try.prog w r b0 22 v) (h : DataW.Trod enc Try.prog w base sp held 22 v d p) : ∃ A l c ns, v = .slice A l c ∧ SsAt w ns A l := by
  obtain ⟨A, l, c, rfl⟩ := okWide_slice u22s hv
  obtain ⟨fuel, hf⟩ := h
  obtain ⟨A', l', c', qs, rows, hcs, h1, h2, h3, h4⟩ := open_sl (n := 1) (Q := fun (q : ByteArray) row => row = #[.string q]) u22s cells9 (by omega) hf (fun m _ cs x hx => by
    obtain ⟨s, rfl, -⟩ := DataW.trod_string u9 hx
    exact ⟨s, rfl⟩)
  simp [Value.cells] at hcs
  obtain ⟨rfl, rfl, rfl⟩ := hcs
  refine ⟨_, _, _, qs, rfl, h1, by omega, fun i q hi => ?_⟩
  obtain ⟨⟨b, off, Cs, t, fr, g1, g2, g3, g4⟩, g5⟩ := h4 i q hi
  refine ⟨b, off, g1, ?_⟩
  rw [cell_of_row _ _ _ _ _ _ g3]
  rw [g5] at g4
  have := congrArg (fun a => a[0]?) g4
  rw [Nat.mul_one] at this
  simp only [Array.getElem?_extract] at this
  simp at this
  exact this.2
end
end Go.Proofs.Ytpamocglecangaa
