/- The program's end at any value; the topmost level taken out of the heap and put back. -/
import Derived.Test.YtpamocglecangaaPB16
import Derived.Test.YtpamocglecangaaPB17
import Derived.Test.YtpamocglecangaaPB18
import Derived.Test.YtpamocglecangaaPB19
import Derived.Test.YtpamocglecangaaPB13
namespace Go.Proofs.Ytpamocglecangaa
open Go.RowKit Go.Proofs.Ytpamocglecangaa.Nm
theorem end_any {w0 : World} {G0 : Gh} {k p : Nat} {h : Hp} {last : Array Value} {ts : List Tk} {A : Option Addr} {c : Nat} {w : World} {G : Gh} (d : TopD w0 G0 k p h last ts A c w G) {v : Va} {rv x : Array Value} (hv : VAt w (Imm G) v rv) {q : Nat}
    (hq : w.heap[q]? = some (.cells (rv ++ x) 101 (0, 0))) (hqG : G q = some (k, .tmp)) (hq0 : w0.heap.size ≤ q) (ho : ofV h.obs.length h.bus.length v = true) (hroom : weight h (ts ++ [.val v]) ≤ 700000000000) :
    Calls Try.prog 76 #[.pointer (some ⟨p, 0, none⟩), .slice A ts.length c, .pointer (some ⟨q, 0, none⟩)] w (EndT w0 G0 k p q last x (stepV' h ts (.val v))) := by
  by_cases e7 : v.kind = 7
  · exact End_obj d hv hq hqG hq0 ho hroom e7
  by_cases e11 : v.kind = 11
  · exact End_weak d hv hq hqG hq0 ho hroom e11
  by_cases e8 : v.kind = 8
  · exact End_buf d hv hq hqG hq0 ho hroom e8
  by_cases e5 : v.kind = 5
  · exact End_struct d hv hq hqG hroom e5
  by_cases e6 : v.kind = 6
  · exact End_part6 d hv hq hqG hroom e6
  by_cases e9 : v.kind = 9
  · exact End_part9 d hv hq hqG hroom e9
  by_cases e10 : v.kind = 10
  · exact End_part10 d hv hq hqG hroom e10
  refine End_plain d hv hq hqG ?_
  rw [ofV_eq, if_neg (by omega), if_neg e8, if_neg (by unfold hasK; simp [e5, e6, e9, e10])] at ho
  exact of_decide_eq_true ho
section
variable {w0 w w' : World} {G0 G G' : Gh} {k p : Nat} {h h' : Hp} {last : Array Value} {ts : List Tk} {A : Option Addr} {c : Nat} {oA : Option Addr} {oc : Nat} {bA : Option Addr} {bc m : Nat} {lA : Option Addr} {lc : Nat}
def Hp.setL (h : Hp) (l : List (List Tk)) : Hp := { h with lev := l }
theorem HAt.top {low : List (List Tk)} (hh : HAt w G k p (h.setL (low ++ [ts])) oA oc bA bc m lA lc) : ∃ tA tc g, lA = some ⟨g, 0, none⟩ ∧ G g = some (k, .lar) ∧ HTop w G k p (h.setL low) #[.slice tA ts.length tc] oA oc bA bc m lA lc ∧ TksAt w G (k, .lvl low.length) ts tA tc ∧ ∀ w', w'.heap[g]? = w.heap[g]? → OneAt w' 98 ⟨g, low.length, none⟩ (.slice tA ts.length tc) := by
  obtain ⟨rows, ho, hl, hr, hv⟩ := hh.lev
  have hl2 : rows.length = low.length + 1 := by rw [hl]; show (low ++ [ts]).length = _; rw [List.length_append]; rfl
  have hne : rows ≠ [] := fun e => by rw [e] at hl2; simp at hl2
  obtain ⟨rows', last, rfl⟩ : ∃ r' l, rows = r' ++ [l] := ⟨rows.dropLast, rows.getLast hne, (List.dropLast_concat_getLast hne).symm⟩
  have hl3 : rows'.length = low.length := by simpa using hl2
  have hlast : (rows' ++ [last])[low.length]? = some last := by rw [← hl3]; exact List.getElem?_concat_length
  obtain ⟨tA, tc, e, ht⟩ := hv low.length ts last (by show (low ++ [ts])[low.length]? = _; exact List.getElem?_concat_length) hlast
  obtain ⟨g, cur, eA, -⟩ := ho.addr (i := 0) (by simp)
  subst eA
  refine ⟨tA, tc, g, rfl, hr g rfl, ⟨?_, hh.rp, hh.rm, hh.obs, hh.bus, ⟨rows', by rw [← e]; exact ho, hl3, hr, fun i t row hi hri => ?_⟩, hh.map⟩, ht, fun w' hw => ?_⟩
  · have := hh.blk
    have e2 : (h.setL (low ++ [ts])).lev.length = (h.setL low).lev.length + 1 := by show (low ++ [ts]).length = low.length + 1; simp
    rw [e2] at this
    exact this
  · have hil : i < low.length := (List.getElem?_eq_some_iff.1 hi).1
    exact hv i t row (by show (low ++ [ts])[i]? = _; rw [List.getElem?_append_left hil]; exact hi) (by rw [List.getElem?_append_left (by omega)]; exact hri)
  · have h2 := (ho.same (w' := w') fun g' e _ => by cases e; exact hw).cell hlast (j := 0) (x := .slice tA ts.length tc) (by rw [e]; rfl)
    exact one_of u98 rfl (by simpa using h2)
/-- The level put back, with other tasks. -/
theorem HTop.put (hh : HTop w G k p h last oA oc bA bc m lA lc) (ht : TksAt w G (k, .lvl h.lev.length) ts A c) : ∃ g, lA = some ⟨g, 0, none⟩ ∧ G g = some (k, .lar) ∧ (w.cell? ⟨g, h.lev.length, none⟩).isSome = true ∧ w.frozen? ⟨g, h.lev.length, none⟩ = false ∧
    HAt (w.setCell ⟨g, h.lev.length, none⟩ (.slice A ts.length c)) G k p (h.setL (h.lev ++ [ts])) oA oc bA bc m lA lc := by
  obtain ⟨rows, ho, hl, hr, hv⟩ := hh.lev
  have hlast : (rows ++ [last])[h.lev.length]? = some last := by rw [← hl]; exact List.getElem?_concat_length
  obtain ⟨g, cur, eA, -⟩ := ho.addr (i := 0) (by simp)
  subst eA
  have hgr := hr g rfl
  obtain ⟨h1, h2⟩ := ho.lies hlast (j := 0) (by omega)
  have hset := ho.set hlast (j := 0) (by omega) (.slice A ts.length c)
  simp only [Nat.mul_one, Nat.add_zero] at h1 h2 hset
  have hk := Keep.cellOne w g h.lev.length (.slice A ts.length c)
  have hne : ∀ b r, b < w.heap.size → G b = some (k, r) → r ≠ .lar → (w.setCell ⟨g, h.lev.length, none⟩ (.slice A ts.length c)).heap[b]? = w.heap[b]? := fun b r hb e hr => hk.block b hb fun e2 => by rw [e2, hgr] at e; cases e; exact hr rfl
  have hno : ∀ b, b < w.heap.size → G b = none → (w.setCell ⟨g, h.lev.length, none⟩ (.slice A ts.length c)).heap[b]? = w.heap[b]? := fun b hb e => hk.block b hb fun e2 => by rw [e2, hgr] at e; cases e
  have hsl : last.setIfInBounds 0 (.slice A ts.length c) = #[.slice A ts.length c] := by
    have hs := ho.size last (by simp)
    apply Array.ext
    · rw [Array.size_setIfInBounds, hs]; rfl
    · intro i h1 h2
      rw [Array.size_setIfInBounds, hs] at h1
      obtain rfl : i = 0 := by omega
      simp
  rw [hsl] at hset
  have hrset : (rows ++ [last]).set h.lev.length #[.slice A ts.length c] = rows ++ [#[.slice A ts.length c]] := by rw [← hl]; simp
  rw [hrset] at hset
  refine ⟨g, rfl, hgr, h1, h2, ⟨?_, hh.rp, hh.rm, ?_, ?_, ⟨_, hset, ?_, hr, fun i t row hi hri => ?_⟩, ?_⟩⟩
  · rw [hne p _ (heap_lt hh.blk) hh.rp (by simp)]
    have e2 : (h.setL (h.lev ++ [ts])).lev.length = h.lev.length + 1 := by show (h.lev ++ [ts]).length = _; simp
    rw [e2]
    exact hh.blk
  · exact hh.obs.same (fun b hb e => by rcases e with e | ⟨i, e⟩ <;> exact hne b _ hb e (by simp)) hno
  · exact hh.bus.same (fun b hb e => by rcases e with e | ⟨i, e⟩ <;> exact hne b _ hb e (by simp)) hno
  · show _ = (h.lev ++ [ts]).length; simp [hl]
  · have hi2 : (h.lev ++ [ts])[i]? = some t := hi
    have hil := (List.getElem?_eq_some_iff.1 hi2).1
    rw [List.length_append, List.length_singleton] at hil
    by_cases e : i < h.lev.length
    · rw [List.getElem?_append_left e] at hi2
      rw [List.getElem?_append_left (by omega)] at hri
      obtain ⟨tA, tc, h3, h4⟩ := hv i t row hi2 hri
      exact ⟨tA, tc, h3, h4.same (fun b hb e => hne b _ hb e (by simp)) hno⟩
    · obtain rfl : i = h.lev.length := by omega
      rw [List.getElem?_concat_length] at hi2
      rw [← hl, List.getElem?_concat_length] at hri
      cases hi2; cases hri
      exact ⟨A, c, rfl, ht.same (fun b hb e => hne b _ hb e (by simp)) hno⟩
  · exact hh.map.same fun hl => hne m _ hl hh.rm (by simp)
/-- The level taken away. -/
theorem HTop.drop (hh : HTop w G k p h last oA oc bA bc m lA lc) : HAt (w.setCell ⟨p, 3, none⟩ (.slice lA h.lev.length lc)) G k p h oA oc bA bc m lA lc := by
  obtain ⟨rows, ho, hl, hr, hv⟩ := hh.lev
  have hset := (hdr_set (j := 3) (v := .slice lA h.lev.length lc) hh.blk).2.2
  have hk := Keep.cellOne w p 3 (.slice lA h.lev.length lc)
  have hne : ∀ b r, b < w.heap.size → G b = some (k, r) → r ≠ .hdr → (w.setCell ⟨p, 3, none⟩ (.slice lA h.lev.length lc)).heap[b]? = w.heap[b]? := fun b r hb e hr => hk.block b hb fun e2 => by rw [e2, hh.rp] at e; cases e; exact hr rfl
  have hno : ∀ b, b < w.heap.size → G b = none → (w.setCell ⟨p, 3, none⟩ (.slice lA h.lev.length lc)).heap[b]? = w.heap[b]? := fun b hb e => hk.block b hb fun e2 => by rw [e2, hh.rp] at e; cases e
  refine ⟨?_, hh.rp, hh.rm, ?_, ?_, ⟨rows, ?_, hl, hr, fun i t row hi hri => ?_⟩, ?_⟩
  · rw [hset]; rfl
  · exact hh.obs.same (fun b hb e => by rcases e with e | ⟨i, e⟩ <;> exact hne b _ hb e (by simp)) hno
  · exact hh.bus.same (fun b hb e => by rcases e with e | ⟨i, e⟩ <;> exact hne b _ hb e (by simp)) hno
  · have h1 := ho.cut rows.length
    rw [List.take_left] at h1
    exact h1.same fun g e hg => hne g _ hg (hr g e) (by simp)
  · obtain ⟨tA, tc, h3, h4⟩ := hv i t row hi hri
    exact ⟨tA, tc, h3, h4.same (fun b hb e => hne b _ hb e (by simp)) hno⟩
  · exact hh.map.same fun hl => hne m _ hl hh.rm (by simp)
/-- The last task of a level, and the others. -/
theorem TksAt.pop {r : Nat × Role} {t : Tk} (h : TksAt w G r (ts ++ [t]) A c) : TksAt w G r ts A c ∧ ∃ g row, A = some ⟨g, 0, none⟩ ∧ G g = some r ∧ TkAt w G t row ∧ row.size = 12 ∧ ∀ w', w'.heap[g]? = w.heap[g]? → RowAt w' 101 ⟨g, ts.length * 12, none⟩ row := by
  obtain ⟨rows, ho, hl, hr, hv⟩ := h
  have hl2 : rows.length = ts.length + 1 := by rw [hl]; simp
  have hi : ts.length < rows.length := by omega
  have hri : rows[ts.length]? = some rows[ts.length] := List.getElem?_eq_getElem hi
  have hsz := ho.size _ (List.mem_of_getElem? hri)
  refine ⟨⟨rows.take ts.length, ho.cut _, by rw [List.length_take]; omega, hr, fun j u row hj hrow => ?_⟩, ?_⟩
  · have hjl := (List.getElem?_eq_some_iff.1 hj).1
    rw [List.getElem?_take_of_lt hjl] at hrow
    exact hv j u row (by rw [List.getElem?_append_left hjl]; exact hj) hrow
  · obtain ⟨g, cur, e, -⟩ := ho.addr hi
    subst e
    refine ⟨g, _, rfl, hr g rfl, hv _ t _ List.getElem?_concat_length hri, hsz, fun w' hw => ?_⟩
    obtain ⟨cur, hg, -, -, hx, -⟩ := (ho.same (w' := w') fun g' e _ => by cases e; exact hw).at hri
    exact row_mid (n := 12) hg hx u101 rfl hsz info101
theorem TopD.pop {t : Tk} (d : TopD w0 G0 k p h last (ts ++ [t]) A c w G) : TopD w0 G0 k p h last ts A c w G := ⟨d.heap, d.tks.pop.1, d.fr, d.old, d.new, d.keep⟩
/-- A new variable of the call's own, marked. -/
theorem TopD.marked (d : TopD w0 G0 k p h last ts A c w G) (hb : Below w.heap.size w w') {q : Nat} (hq : w.heap.size ≤ q) (hq2 : q < w'.heap.size) : TopD w0 G0 k p h last ts A c w' (mark G k q) := by
  have hG : ∀ b, b < w.heap.size → mark G k q b = G b := fun b hb => if_neg (by omega)
  have hs := d.keep.size
  refine ⟨?_, ?_, fun b hb2 => ?_, fun b hb2 => ?_, fun b hb2 => ?_, d.keep.trans (C' := fun _ => False) (fun b e => e.elim) (Keep.of hb)⟩
  · obtain ⟨oA, oc, bA, bc, m, lA, lc, hh⟩ := d.heap
    exact ⟨_, _, _, _, _, _, _, (hh.regh hG).old hb⟩
  · exact d.tks.moved (Keep.of (C := fun _ => False) hb) (fun b e => e.elim) hG
  · unfold mark
    rw [if_neg (by omega)]
    exact d.fr b (by have := hb.size; omega)
  · rw [hG b (by omega)]; exact d.old b hb2
  · unfold mark
    split
    · exact .inr ⟨_, rfl⟩
    · exact d.new b hb2
end
theorem TopD.owned {w0 w w' : World} {G0 G : Gh} {k p : Nat} {h : Hp} {last : Array Value} {ts : List Tk} {A : Option Addr} {c : Nat} (d : TopD w0 G0 k p h last ts A c w G) (hb : Below w.heap.size w w') {A0 : Option Addr} {r : Role} (hA : ∀ g, A0 = some ⟨g, 0, none⟩ → w.heap.size ≤ g ∧ g < w'.heap.size) : TopD w0 G0 k p h last ts A c w' (own G A0 (k, r)) := by
  have hG : ∀ b, b < w.heap.size → own G A0 (k, r) b = G b := own_old fun g e => (hA g e).1
  have hs := d.keep.size
  refine ⟨?_, ?_, fun b hb2 => ?_, fun b hb2 => ?_, fun b hb2 => ?_, d.keep.trans (C' := fun _ => False) (fun b e => e.elim) (Keep.of hb)⟩
  · obtain ⟨oA, oc, bA, bc, m, lA, lc, hh⟩ := d.heap
    exact ⟨_, _, _, _, _, _, _, (hh.regh hG).old hb⟩
  · exact d.tks.moved (Keep.of (C := fun _ => False) hb) (fun b e => e.elim) hG
  · unfold own
    rw [if_neg (fun e => by have := (hA b e).2; omega)]
    exact d.fr b (by have := hb.size; omega)
  · rw [hG b (by omega)]; exact d.old b hb2
  · unfold own
    split
    · exact .inr ⟨_, rfl⟩
    · exact d.new b hb2
section
variable {w w' : World} {G : Gh} {k p : Nat} {h : Hp} {last : Array Value} {oA : Option Addr} {oc : Nat} {bA : Option Addr} {bc m : Nat} {lA : Option Addr} {lc : Nat}
/-- An object's fields' slice, loaded while the level's block changes. -/
theorem HTop.fldK {g i : Nat} (hh : HTop w G k p h last (some ⟨g, 0, none⟩) oc bA bc m lA lc) {o : Ob} (hi : h.obs[i]? = some o) {tr : Array Value} {fA : Option Addr} {fc : Nat} (hL : ObL w g i o tr fA fc) {C : Nat → Prop} (hk : Keep C w w') (hC : ∀ b, C b → (¬ Mine G k b ∨ G b = some (k, .lvl h.lev.length)) ∧ G b ≠ none) : OneAt w' 33 ⟨g, i * 8 + 7, none⟩ (.slice fA o.fields.length fc) := by
  obtain ⟨g', rows, e, hR⟩ := hh.obs.rows hi
  cases e
  obtain ⟨row, tr0, fA0, fc0, hr, hx⟩ := hR.get hi
  have h1 := (hR.own.loads hr hx).f
  have h2 := one_eq h1 hL.f
  cases h2
  have hne : ¬ C g := fun hc => by
    rcases (hC g hc).1 with h3 | h3
    · exact h3 ⟨.arr, hR.role, by simp⟩
    · rw [hR.role] at h3; cases h3
  refine one_of u33 rfl ((hR.own.same (w' := w') fun b e hb => by cases e; exact hk.block g hb hne).cell hr (j := 7) ?_)
  rw [hx.eq]
  exact (cell8_at hx.size o.state o.count o.weak fA o.fields.length fc).2.2.2.2
/-- One value of a list, loaded while other blocks change. -/
theorem ListV.atK {r : Nat × Role} {l : List Va} {A : Option Addr} {c i : Nat} (hl : ListV w G r l A c) (hi : i < l.length) : ∃ g v row, A = some ⟨g, 0, none⟩ ∧ G g = some r ∧ l[i]? = some v ∧ VAt w (Imm G) v row ∧ g < w.heap.size ∧ ∀ w', w'.heap[g]? = w.heap[g]? → RowAt w' 35 ⟨g, i * 9, none⟩ row := by
  obtain ⟨rows, ho, hlen, hr, hv⟩ := hl
  have h1 : rows[i]? = some (rows[i]'(by omega)) := List.getElem?_eq_getElem _
  have h2 := List.getElem?_eq_getElem hi
  obtain ⟨g, cur, e, hg0, -⟩ := ho.addr (i := i) (by omega)
  subst e
  have hva := hv i _ _ h2 h1
  refine ⟨g, _, _, rfl, hr g rfl, h2, hva, heap_lt hg0, fun w' hb => ?_⟩
  obtain ⟨cur, hg, -, -, hx, -⟩ := (ho.same (w' := w') fun g' e _ => by cases e; exact hb).at h1
  exact row_mid (n := 9) hg hx u35 rfl hva.size info35
end
theorem run_bs98t (a0 a1 a2 a3 a4 a5 a6 a7 a8 a9 a10 a11 b0 b1 b2 b3 b4 b5 b6 b7 b8 b9 b10 b11 : Value) (w : World) : (Instr.buildSlice 98 2 #[(0, .agg #[a0, a1, a2, a3, a4, a5, a6, a7, a8, a9, a10, a11]), (1, .agg #[b0, b1, b2, b3, b4, b5, b6, b7, b8, b9, b10, b11])]).run Try.prog w = .ok (.slice (some ⟨w.heap.size, 0, none⟩) 2 2) (w.alloc (.cells #[a0, a1, a2, a3, a4, a5, a6, a7, a8, a9, a10, a11, b0, b1, b2, b3, b4, b5, b6, b7, b8, b9, b10, b11] 101)) := by kernel_rfl
theorem ex_bs98t {ev : Operand → Value} {o : Oper} {w : World} (x y : Operand) (ho : o.op = .buildSlice 98 2 #[(0, x), (1, y)]) {r1 r2 : Array Value} (hx : ev x = .agg r1) (hy : ev y = .agg r2) (h1 : r1.size = 12) (h2 : r2.size = 12) :
    (execOp ev o).run Try.prog w = .ok (.value (.slice (some ⟨w.heap.size, 0, none⟩) 2 2)) (w.alloc (.cells (r1 ++ r2) 101)) := by
  obtain ⟨l1⟩ := r1
  obtain ⟨l2⟩ := r2
  match l1, h1, l2, h2 with
  | [a0, a1, a2, a3, a4, a5, a6, a7, a8, a9, a10, a11], _, [b0, b1, b2, b3, b4, b5, b6, b7, b8, b9, b10, b11], _ =>
    unfold execOp
    have := run_bs98t a0 a1 a2 a3 a4 a5 a6 a7 a8 a9 a10 a11 b0 b1 b2 b3 b4 b5 b6 b7 b8 b9 b10 b11 w
    simp [ho, hx, hy, this, Result.andThen]
theorem za_push2 {md : Region.Mode} {ops : Array Oper} {Q : Exit → Act → World → Prop} {S : World → Prop} {c fuel : Nat} {listed : Array Bool} {a : Act} {w : World} {i : Nat} {oi : Oper} {ty sty : TypeId} {sz by0 : Nat} {A : Option Addr} {cc : Nat} {rows : List (Array Value)} {z : Array Value} (he : Elt sty ty sz by0 z) (hr : Region.ready md ops listed = [i]) (ho : ops[i]? = some oi) (hg : Region.wanted oi (yielded ops a.tmps) = true) (s x : Operand) (hop : oi.op = .call { callee := .builtin .append, args := #[s, x], argTypes := #[sty, sty] }) {r1 r2 : Array Value} {q : Nat} {tq : TypeId} {fr : Nat × Nat}
    (hs : a.eval s = .slice A rows.length cc) (hx : a.eval x = .slice (some ⟨q, 0, none⟩) 2 2) (h : OwnL w ty sz A cc rows) (hq : w.heap[q]? = some (.cells (r1 ++ r2) tq fr)) (hs1 : r1.size = sz) (hs2 : r2.size = sz) (h1 : r1.all (·.oneCell') = true) (h2 : r2.all (·.oneCell') = true) (hlen : (rows.length + 2) * by0 ≤ 140737488355328) (hm : rows.length + 2 ≤ maxLen)
    (hS : ∀ w', Keep (fun b => A = some ⟨b, 0, none⟩) w w' → S w')
    (hK : ∀ A' c' w', OwnL w' ty sz A' c' (rows ++ [r1, r2]) → Keep (fun b => A = some ⟨b, 0, none⟩) w w' → (A' = A ∨ ∃ g, A' = some ⟨g, 0, none⟩ ∧ w.heap.size ≤ g) → S w' → wpAnyZ Try.prog md ops Q S c fuel (listed.setIfInBounds i true) (a.put oi.dst (.slice A' (rows.length + 2) c')) w') : wpAnyZ Try.prog md ops Q S c (fuel + 1) listed a w := by
  obtain ⟨hu, h0, hz, i0, z0, hi, hz0, hz1, hz2, hzl⟩ := he
  obtain ⟨A', c', w', a1, a2, a3, a4⟩ := run_catL (oty := oi.type) hu hi hz0 hz1 hz2 (by rw [hzl]; exact hz) h0 h (news := [r1, r2]) (fun r hr => by
    rcases List.mem_cons.1 hr with e | e
    · rw [e]; exact hs1
    · rw [List.mem_singleton.1 e]; exact hs2) (fun r hr u hu => by
    rcases List.mem_cons.1 hr with e | e
    · rw [e] at hu; exact one_list h1 u hu
    · rw [List.mem_singleton.1 e] at hu; exact one_list h2 u hu) (a := ⟨q, 0, none⟩) (cn := 2) (fun j u hj => by
      rw [show (Addr.add ⟨q, 0, none⟩ j) = ⟨q, j, none⟩ by rw [Addr.add_mid]; simp, cell_of_row _ _ _ _ _ _ hq]
      have hj2 : (r1.toList ++ r2.toList)[j]? = some u := by simpa using hj
      show (r1 ++ r2)[_]? = _
      rw [← Array.getElem?_toList, Array.toList_append]
      exact hj2) (by simpa using hm) (by simpa using hlen)
  refine za_do hr ho hg (w2 := w') (v := .slice A' (rows.length + 2) c') ?_ (fun _ => hS w' a3) (hK A' c' w' a2 a3 a4 (hS w' a3))
  have a1' : (Builtin.append_ #[sty, sty] oi.type #[.slice A rows.length cc, .slice (some ⟨q, 0, none⟩) 2 2]).run Try.prog w = .ok (.slice A' (rows.length + 2) c') w' := by simpa using a1
  unfold execOp
  simp only [hop, resolve, invoke, builtin, Sem.run_bind, Sem.run_pure, Result.andThen_ok, List.map_toArray, List.map_cons, List.map_nil, hs, hx, a1']
theorem built101g (o n : Int) : Try.prog.built 101 [(1, .int .i64 o), (2, .int .i64 n), (3, .int .i64 1)] = some (zrow ++ #[.int .i64 o, .int .i64 n, .int .i64 1]) := by kernel_rfl
theorem ex_build101g {ev : Operand → Value} {o : Oper} {w : World} (x y z : Operand) (ho : o.op = .build 101 #[(1, x), (2, y), (3, z)]) {a n : Int} (hx : ev x = .int .i64 a) (hy : ev y = .int .i64 n) (hz : ev z = .int .i64 1) :
    (execOp ev o).run Try.prog w = .ok (.value (.agg (zrow ++ #[.int .i64 a, .int .i64 n, .int .i64 1]))) w := ex_build 101 _ ho (by simp only [List.map_cons, List.map_nil, hx, hy, hz]) (built101g a n)
/-- The fields of objects are as many behind a task. -/
theorem step_fl {N : Nat} {h : Hp} {ts : List Tk} {t : Tk} (hf : ∀ o, o ∈ h.obs → o.fields.length ≤ N) : ∀ o, o ∈ (stepV' h ts t).1.obs → o.fields.length ≤ N := by
  have hm : ∀ (n : Nat) (f : Ob → Ob), (∀ o, (f o).fields.length = o.fields.length) → ∀ o, o ∈ h.obs.modify n f → o.fields.length ≤ N := fun n f hfe o ho => by
    obtain ⟨i, hi⟩ := List.mem_iff_getElem?.1 ho
    rw [List.getElem?_modify] at hi
    cases hx : h.obs[i]? with
    | none => rw [hx] at hi; simp at hi
    | some o1 =>
      rw [hx] at hi
      have h1 := hf o1 (List.mem_of_getElem? hx)
      split at hi <;> (simp at hi; subst hi)
      · rw [hfe]; exact h1
      · exact h1
  cases t with
  | flds o i =>
    simp only [stepV']
    split
    · split
      · exact hf
      · exact hm _ _ fun ob => by simp
    · exact hf
  | val v =>
    simp only [stepV']
    split
    · split
      · split
        · exact hm _ _ fun ob => rfl
        · exact hm _ _ fun ob => rfl
      · exact hf
    · split
      · exact hm _ _ fun ob => rfl
      · split
        · split
          · split
            · exact hf
            · exact hf
          · exact hf
        · split
          · exact hf
          · split <;> exact hf
/-- Levels do not matter to the tasks. -/
theorem step_setL (h : Hp) (L : List (List Tk)) (ts : List Tk) (t : Tk) : stepV' (h.setL L) ts t = ((stepV' h ts t).1.setL L, (stepV' h ts t).2.1, (stepV' h ts t).2.2) := by
  cases t with
  | flds o i =>
    simp only [stepV', Hp.setL]
    cases h.obs[o]? with
    | none => rfl
    | some ob =>
      simp only
      cases ob.fields[i]? <;> rfl
  | val v =>
    simp only [stepV', Hp.setL]
    split
    · cases h.obs[v.num.toNat]? with
      | none => rfl
      | some ob =>
        simp only
        split <;> rfl
    · split
      · rfl
      · split
        · cases h.bus[v.num.toNat]? with
          | none => rfl
          | some b =>
            simp only
            split <;> rfl
        · split
          · rfl
          · split <;> rfl
theorem weight_setL (h : Hp) (L : List (List Tk)) (ts : List Tk) : weight (h.setL L) ts = weight h ts := by
  have : wT (h.setL L) = wT h := funext fun t => by cases t <;> rfl
  unfold weight
  rw [this]
  rfl
end Go.Proofs.Ytpamocglecangaa
