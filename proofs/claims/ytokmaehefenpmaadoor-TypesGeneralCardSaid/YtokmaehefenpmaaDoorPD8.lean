/- Equations in memory: a slice of pairs of trees. The law's pairs. What a match holds, in memory: the row of trees and the row of marks. The two rows of a match as makeSlice leaves them. Names of types: the document's TypeName. The program's Apply and Func. -/
import Derived.Test.YtokmaehefenpmaaDoorPD7
import Derived.Test.YtokmaehefenpmaaDoorPD1
import Derived.Laws.CopyRow
import Derived.Laws.MakeOwn
import Derived.Test.YtokmaehefenpmaaDoorPD3
import Derived.Test.YtokmaehefenpmaaDoorPD2
import Derived.Deep.DeepCutAuto
namespace Go.Proofs.YtokmaehefenpmaaDoor
open Go.RowKit Go.ChangeMaps Go.Proofs.YtokmaehefenpmaaDoor.Nm
set_option linter.unusedSimpArgs false
abbrev cell8 (k : Int) (s : ByteArray) (n : Int) (A : Option Addr) (l c : Nat) (k' : Int) (s' : ByteArray) (n' : Int) (A' : Option Addr) (l' c' : Nat) : Array Value := #[.int .i64 k, .string s, .int .i64 n, .slice A l c, .int .i64 k', .string s', .int .i64 n', .slice A' l' c']
theorem u53 : Tryd.prog.underlying 53 = some (.slice 58) := by kernel_rfl
theorem u58 : Tryd.prog.underlying 58 = some (.array 2 24) := by kernel_rfl
theorem info58 : (Tryd.prog.info? 58).map (·.size) = some 8 := by kernel_rfl
theorem cell8_one (k : Int) (s : ByteArray) (n : Int) (A : Option Addr) (l c : Nat) (k' : Int) (s' : ByteArray) (n' : Int) (A' : Option Addr) (l' c' : Nat) : (cell8 k s n A l c k' s' n' A' l' c').all (·.oneCell') = true  := by simp [cell8, Value.oneCell']
/-- A row of pairs. -/
structure EqsAt (w : World) (D : Nat → Prop) (es : Eqs) (A : Option Addr) (l c : Nat) : Prop where
  len : es.length = l
  cap : l ≤ c
  max : c ≤ maxLen
  el : ∀ i a b, es[i]? = some (a, b) → ∃ bl off Cs t fr rowa rowb, A = some ⟨bl, off, none⟩ ∧ D bl ∧ w.heap[bl]? = some (.cells Cs t fr) ∧ Cs.extract (off + i * 8) (off + i * 8 + 4) = rowa ∧ Cs.extract (off + i * 8 + 4) (off + i * 8 + 8) = rowb ∧ TyAt w D a rowa ∧ TyAt w D b rowb
theorem EqsAt.mono {w w' : World} {D D' : Nat → Prop} {es : Eqs} {A : Option Addr} {l c : Nat} (h : EqsAt w D es A l c) (hD : ∀ b, D b → D' b) (hw : ∀ b, D b → b < w.heap.size → w'.heap[b]? = w.heap[b]?) : EqsAt w' D' es A l c :=
  ⟨h.len, h.cap, h.max, fun i a b hi => by
    obtain ⟨bl, off, Cs, t, fr, rowa, rowb, h1, h2, h3, h4, h5, h6, h7⟩ := h.el i a b hi
    exact ⟨bl, off, Cs, t, fr, rowa, rowb, h1, hD _ h2, by rw [hw _ h2 (heap_lt h3), h3], h4, h5, (h6.low.mono (fun _ h => h) (fun b h => hw b h.1 h.2)).weak fun _ h => hD _ h.1, (h7.low.mono (fun _ h => h) (fun b h => hw b h.1 h.2)).weak fun _ h => hD _ h.1⟩⟩
theorem EqsAt.keep {C : Nat → Prop} {w w' : World} {D : Nat → Prop} {es : Eqs} {A : Option Addr} {l c : Nat} (h : EqsAt w D es A l c) (hk : Keep C w w') (hD : ∀ b, D b → ¬ C b) : EqsAt w' D es A l c := h.mono (fun _ h => h) fun b hb hlt => hk.block b hlt (hD b hb)
theorem EqsAt.old {w w' : World} {D : Nat → Prop} {es : Eqs} {A : Option Addr} {l c : Nat} (h : EqsAt w D es A l c) (hb : Below w.heap.size w w') : EqsAt w' D es A l c := h.mono (fun _ h => h) fun b _ hlt => hb.block b hlt
theorem EqsAt.low {w : World} {D : Nat → Prop} {es : Eqs} {A : Option Addr} {l c : Nat} (h : EqsAt w D es A l c) : EqsAt w (fun b => D b ∧ b < w.heap.size) es A l c :=
  ⟨h.len, h.cap, h.max, fun i a b hi => by
    obtain ⟨bl, off, Cs, t, fr, rowa, rowb, h1, h2, h3, h4, h5, h6, h7⟩ := h.el i a b hi
    exact ⟨bl, off, Cs, t, fr, rowa, rowb, h1, ⟨h2, heap_lt h3⟩, h3, h4, h5, h6.low, h7.low⟩⟩
theorem EqsAt.ex {w : World} {D : Nat → Prop} {es : Eqs} {A : Option Addr} {l c : Nat} (h : EqsAt w D es A l c) {j : Nat} (hj : j < l) : ∃ a b, es[j]? = some (a, b) := by
  have hl : j < es.length := by rw [h.len]; exact hj
  exact ⟨es[j].1, es[j].2, List.getElem?_eq_getElem hl⟩
theorem row4 {row : Array Value} {w : World} {D : Nat → Prop} {t : Ty} (h : TyAt w D t row) : ∃ k s n A l c, row = cell4 k s n A l c := by
  obtain ⟨k, s, n, A, l, c, ts, -, h2, -⟩ := h.parts
  exact ⟨k, s, n, A, l, c, h2⟩
/-- One pair, loaded whole and side by side, while blocks of no concern change. -/
theorem EqsAt.get {w : World} {D : Nat → Prop} {es : Eqs} {A : Option Addr} {l c : Nat} (h : EqsAt w D es A l c) {i : Nat} {a b : Ty} (hi : es[i]? = some (a, b)) {C : Nat → Prop} (hD : ∀ b, D b → ¬ C b) : ∃ bl off k s n A1 l1 c1 k' s' n' A2 l2 c2, A = some ⟨bl, off, none⟩ ∧
    (∀ w', Keep C w w' → RowAt w' 58 ⟨bl, off + i * 8, none⟩ (cell8 k s n A1 l1 c1 k' s' n' A2 l2 c2)) ∧ (∀ w', Keep C w w' → RowAt w' 24 ⟨bl, off + i * 8, none⟩ (cell4 k s n A1 l1 c1)) ∧ (∀ w', Keep C w w' → RowAt w' 24 ⟨bl, off + i * 8 + 4, none⟩ (cell4 k' s' n' A2 l2 c2)) ∧
    TyAt w D a (cell4 k s n A1 l1 c1) ∧ TyAt w D b (cell4 k' s' n' A2 l2 c2) := by
  obtain ⟨bl, off, Cs, t, fr, rowa, rowb, h1, h2, h3, h4, h5, h6, h7⟩ := h.el i a b hi
  obtain ⟨k, s, n, A1, l1, c1, rfl⟩ := row4 h6
  obtain ⟨k', s', n', A2, l2, c2, rfl⟩ := row4 h7
  have h8 : Cs.extract (off + i * 8) (off + i * 8 + 8) = cell8 k s n A1 l1 c1 k' s' n' A2 l2 c2 := by
    have : Cs.extract (off + i * 8) (off + i * 8 + 4) ++ Cs.extract (off + i * 8 + 4) (off + i * 8 + 8) = Cs.extract (off + i * 8) (off + i * 8 + 8) := by
      rw [Array.extract_append_extract]
      congr 1 <;> omega
    rw [← this, h4, h5]
    rfl
  exact ⟨bl, off, k, s, n, A1, l1, c1, k', s', n', A2, l2, c2, h1, fun w' hk => row_mid (n := 8) (hk.look h3 (hD _ h2)) h8 u58 rfl rfl info58, fun w' hk => row_mid (n := 4) (hk.look h3 (hD _ h2)) h4 u24 rfl rfl info24, fun w' hk => row_mid (n := 4) (hk.look h3 (hD _ h2)) h5 u24 rfl rfl info24, h6, h7⟩
section
variable {w : World} {p : Nat} {k : Int} {s : ByteArray} {n : Int} {A : Option Addr} {l c : Nat} {k' : Int} {s' : ByteArray} {n' : Int} {A' : Option Addr} {l' c' : Nat} {t : TypeId} {fr : Nat × Nat}
theorem p8 (h : w.heap[p]? = some (.cells (cell8 k s n A l c k' s' n' A' l' c') t fr)) : RowAt w 58 ⟨p, 0, none⟩ (cell8 k s n A l c k' s' n' A' l' c') := row_mid (n := 8) h (by rfl) u58 rfl rfl info58
theorem p80 (h : w.heap[p]? = some (.cells (cell8 k s n A l c k' s' n' A' l' c') t fr)) : RowAt w 24 ⟨p, 0, none⟩ (cell4 k s n A l c) := row_mid (n := 4) h (by rfl) u24 rfl rfl info24
theorem p84 (h : w.heap[p]? = some (.cells (cell8 k s n A l c k' s' n' A' l' c') t fr)) : RowAt w 24 ⟨p, 4, none⟩ (cell4 k' s' n' A' l' c') := row_mid (n := 4) h (by rfl) u24 rfl rfl info24
end
theorem run_ix0 (k : Int) (s : ByteArray) (n : Int) (A : Option Addr) (l c : Nat) (k' : Int) (s' : ByteArray) (n' : Int) (A' : Option Addr) (l' c' : Nat) (w : World) : (Instr.index 58 (.agg (cell8 k s n A l c k' s' n' A' l' c')) (.int .i64 0)).run Tryd.prog w = .ok (.agg (cell4 k s n A l c)) w := by kernel_rfl
theorem run_ix1 (k : Int) (s : ByteArray) (n : Int) (A : Option Addr) (l c : Nat) (k' : Int) (s' : ByteArray) (n' : Int) (A' : Option Addr) (l' c' : Nat) (w : World) : (Instr.index 58 (.agg (cell8 k s n A l c k' s' n' A' l' c')) (.int .i64 1)).run Tryd.prog w = .ok (.agg (cell4 k' s' n' A' l' c')) w := by kernel_rfl
theorem ex_alloc58 {o : Oper} (ho : o.op = .alloc 58) (ev : Operand → Value) (w : World) : (execOp ev o).run Tryd.prog w = .ok (.value (.pointer (some ⟨w.heap.size, 0, none⟩))) (w.alloc (.cells (cell8 0 ⟨#[]⟩ 0 none 0 0 0 ⟨#[]⟩ 0 none 0 0) 58)) := by
  unfold execOp
  simp only [ho]
  kernel_rfl
section
variable {ops : Array Oper} {rest : List Oper} {dst : Option Tmp} {ty ty' : TypeId} {x y : Operand} {pos : String} {after : Array Edge} {a : Act} {w : World} {Q : Exit → Act → World → Prop}
theorem wl_all58 (h : ∀ W p, Below w.heap.size w W → w.heap.size ≤ p → W.heap[p]? = some (.cells (cell8 0 ⟨#[]⟩ 0 none 0 0 0 ⟨#[]⟩ 0 none 0 0) 58 (0, 0)) → wpList Tryd.prog ops Q rest (a.put dst (.pointer (some ⟨p, 0, none⟩))) W) :
    wpList Tryd.prog ops Q (⟨dst, .alloc 58, ty', pos, after, none⟩ :: rest) a w :=
  wl_w rfl (ex_alloc58 rfl _ w) (h _ _ ((Below.refl _ w).alloc (Nat.le_refl _) _) (Nat.le_refl _) (ha_new rfl))
theorem wl_put58 {k : Int} {s : ByteArray} {n : Int} {A : Option Addr} {l c : Nat} {k' : Int} {s' : ByteArray} {n' : Int} {A' : Option Addr} {l' c' : Nat} {p : Nat} {old : Array Value} (hx : a.eval x = .pointer (some ⟨p, 0, none⟩)) (hy : a.eval y = .agg (cell8 k s n A l c k' s' n' A' l' c')) (hp : w.heap[p]? = some (.cells old 58 (0, 0))) (ho : old.size = 8)
    (h : ∀ W, (∀ B w0, B ≤ p → Below B w0 w → Below B w0 W) → W.heap.size = w.heap.size → (∀ g, g ≠ p → W.heap[g]? = w.heap[g]?) → W.heap[p]? = some (.cells (cell8 k s n A l c k' s' n' A' l' c') 58 (0, 0)) → wpList Tryd.prog ops Q rest (a.put none undef) W) :
    wpList Tryd.prog ops Q (⟨none, .store 58 x y, ty', pos, after, none⟩ :: rest) a w := by
  refine wpList_plain rfl fun _ hK => wp_store_row 58 x y rfl p (cell8 k s n A l c k' s' n' A' l' c') hx hy 58 _ hp info58 ho (cell8_one _ _ _ _ _ _ _ _ _ _ _ _) (hK _ _ ?_)
  exact h _ (fun B w0 hB hb => below_setRow hb hB _) (by simp) (fun g hg => setRow_other w p g _ hg) (hr_new hp)
theorem wl_ix58 {k : Int} {s : ByteArray} {n : Int} {A : Option Addr} {l c : Nat} {k' : Int} {s' : ByteArray} {n' : Int} {A' : Option Addr} {l' c' : Nat} {j : Nat} {row : Array Value} (hx : a.eval x = .agg (cell8 k s n A l c k' s' n' A' l' c')) (hy : a.eval y = .int .i64 (j : Int)) (hj : (j = 0 ∧ row = cell4 k s n A l c) ∨ (j = 1 ∧ row = cell4 k' s' n' A' l' c'))
    (h : wpList Tryd.prog ops Q rest (a.put dst (.agg row)) w) : wpList Tryd.prog ops Q (⟨dst, .index 58 x y, ty', pos, after, none⟩ :: rest) a w := by
  refine wl_w rfl ?_ h
  unfold execOp
  rcases hj with ⟨rfl, rfl⟩ | ⟨rfl, rfl⟩
  · have := run_ix0 k s n A l c k' s' n' A' l' c' w
    simp [hx, hy, this, Result.andThen]
  · have := run_ix1 k s n A l c k' s' n' A' l' c' w
    simp [hx, hy, this, Result.andThen]
end
end Go.Proofs.YtokmaehefenpmaaDoor
namespace Go.Proofs.YtokmaehefenpmaaDoor
open Go.RowKit Go.ChangeMaps Go.Proofs.YtokmaehefenpmaaDoor.Nm
set_option linter.unusedSimpArgs false
theorem run_bs2 (k : Int) (s : ByteArray) (n : Int) (A : Option Addr) (l c : Nat) (k' : Int) (s' : ByteArray) (n' : Int) (A' : Option Addr) (l' c' : Nat) (w : World) : (Instr.buildSlice 22 2 #[(0, .agg (cell4 k s n A l c)), (1, .agg (cell4 k' s' n' A' l' c'))]).run Tryd.prog w = .ok (.slice (some ⟨w.heap.size, 0, none⟩) 2 2) (w.alloc (.cells (cell8 k s n A l c k' s' n' A' l' c') 24)) := by kernel_rfl
section
variable {md : Region.Mode} {ops : Array Oper} {Q : Exit → Act → World → Prop} {S : World → Prop} {fuel : Nat} {listed : Array Bool} {a : Act} {w : World} {i : Nat} {oi : Oper}
theorem ha_bs2 (hr : Region.ready md ops listed = [i]) (ho : ops[i]? = some oi) (hg : Region.wanted oi (yielded ops a.tmps) = true) (x y : Operand) (hop : oi.op = .buildSlice 22 2 #[(0, x), (1, y)]) {k : Int} {s : ByteArray} {n : Int} {A : Option Addr} {l c : Nat} {k' : Int} {s' : ByteArray} {n' : Int} {A' : Option Addr} {l' c' : Nat} (hx : a.eval x = .agg (cell4 k s n A l c)) (hy : a.eval y = .agg (cell4 k' s' n' A' l' c')) (hS : ∀ W, Below w.heap.size w W → S W)
    (h : ∀ W p, Below w.heap.size w W → w.heap.size ≤ p → W.heap[p]? = some (.cells (cell8 k s n A l c k' s' n' A' l' c') 24 (0, 0)) → S W → wpAnyH Tryd.prog md ops Q S fuel (listed.setIfInBounds i true) (a.put oi.dst (.slice (some ⟨p, 0, none⟩) 2 2)) W) : wpAnyH Tryd.prog md ops Q S (fuel + 1) listed a w :=
  have hb := (Below.refl _ w).alloc (Nat.le_refl _) (.cells (cell8 k s n A l c k' s' n' A' l' c') 24)
  ha_do hr ho hg (by
    unfold execOp
    have := run_bs2 k s n A l c k' s' n' A' l' c' w
    simp [hop, hx, hy, this, Result.andThen]) (hS _ hb) (h _ _ hb (Nat.le_refl _) (ha_new rfl) (hS _ hb))
end
theorem two_at {w : World} {D : Nat → Prop} {p : Nat} {k : Int} {s : ByteArray} {n : Int} {A : Option Addr} {l c : Nat} {k' : Int} {s' : ByteArray} {n' : Int} {A' : Option Addr} {l' c' : Nat} {t u : Ty} (hp : w.heap[p]? = some (.cells (cell8 k s n A l c k' s' n' A' l' c') 24 (0, 0))) (ht : TyAt w D t (cell4 k s n A l c)) (hu : TyAt w D u (cell4 k' s' n' A' l' c')) : TysAt w Any [t, u] (some ⟨p, 0, none⟩) 2 2 := by
  refine ⟨rfl, Nat.le_refl _, by unfold maxLen; omega, fun i => if i = 0 then cell4 k s n A l c else cell4 k' s' n' A' l' c', fun i x hx => ?_, fun i x hx => ?_⟩
  · refine ⟨p, 0, _, _, _, rfl, trivial, hp, ?_⟩
    rcases i with _ | _ | i
    · rfl
    · rfl
    · simp at hx
  · rcases i with _ | _ | i
    · cases hx; exact ht.weak fun _ _ => trivial
    · cases hx; exact hu.weak fun _ _ => trivial
    · simp at hx
set_option maxHeartbeats 4000000 in
set_option maxRecDepth 100000 in
theorem pairs_any (es : Eqs) (A : Option Addr) (l c : Nat) (w : World) (D : Nat → Prop) (h : EqsAt w D es A l c) :
    Calls Tryd.prog 40 #[.slice A l c] w (Yes w (es.length ≤ 40)) := by
  have HT := Lib.hid h
  have HL := Lib.hid h.len
  have hcm := h.cap
  have hmx := h.max
  unfold maxLen at hmx
  clear h
  have hb := Below.refl w.heap.size w
  go_enter Tryd.func40, Tryd.ntmps40
  go_wp2_with fail
  go_loopw [3] (fun i wr => ∃ j : Nat, j ≤ l ∧ j ≤ 40 ∧ i = .int .i64 (j : Int) ∧ Below w.heap.size w wr) (fun i _ => l - (intOf i).toNat)
  case atStart => exact ⟨0, by omega, by omega, rfl, hb⟩
  case round =>
    clear hb
    obtain ⟨j, hj, hj40, rfl, hb⟩ := hrel
    by_cases hlt : j < l
    · have hltI : (j : Int) < (l : Int) := by omega
      by_cases h40 : j = 40
      · have hj2 : ((j : Int) == 40) = true := beq_iff_eq.2 (by omega)
        go_upto_region 4 with (fail)
        refine wp_region_held_drew (S := Below wr.heap.size wr) mixed ((Below.refl _ _).drew) (fun hS => ?_)
        refine ha_k (i := 0) rfl (by kernel_rfl) (by kernel_rfl) (by kernel_rfl) (fun _ _ _ _ h => h) hS rfl (fun K hK => ?_); go_simp; refine hK _ ?_; clear hK K; try simp only [put_lit, List.set_cons_zero, List.set_cons_succ]
        refine ha_k (i := 1) rfl (by kernel_rfl) (by kernel_rfl) (by kernel_rfl) (fun _ _ _ _ h => h) hS rfl (fun K hK => ?_); go_simp; refine hK _ ?_; clear hK K; try simp only [put_lit, List.set_cons_zero, List.set_cons_succ]
        refine ha_k (i := 2) rfl (by kernel_rfl) (by kernel_rfl) (by kernel_rfl) (fun _ _ _ _ h => h) hS rfl (fun K hK => ?_); go_simp; refine hK _ ?_; clear hK K; try simp only [put_lit, List.set_cons_zero, List.set_cons_succ]
        refine ha_skip (i := 3) rfl (by kernel_rfl) (by kernel_rfl) (by kernel_rfl) (fun _ _ _ h => h) hS rfl ?_; simp only [List.getElem_toArray, List.getElem_cons_succ, List.getElem_cons_zero, put_lit, List.set_cons_zero, List.set_cons_succ]
        refine ha_skip (i := 4) rfl (by kernel_rfl) (by kernel_rfl) (by kernel_rfl) (fun _ _ _ h => h) hS rfl ?_; simp only [List.getElem_toArray, List.getElem_cons_succ, List.getElem_cons_zero, put_lit, List.set_cons_zero, List.set_cons_succ]
        refine ha_skip (i := 5) rfl (by kernel_rfl) (by kernel_rfl) (by kernel_rfl) (fun _ _ _ h => h) hS rfl ?_; simp only [List.getElem_toArray, List.getElem_cons_succ, List.getElem_cons_zero, put_lit, List.set_cons_zero, List.set_cons_succ]
        refine ha_skip (i := 6) rfl (by kernel_rfl) (by kernel_rfl) (by kernel_rfl) (fun _ _ _ h => h) hS rfl ?_; simp only [List.getElem_toArray, List.getElem_cons_succ, List.getElem_cons_zero, put_lit, List.set_cons_zero, List.set_cons_succ]
        refine ha_skip (i := 7) rfl (by kernel_rfl) (by kernel_rfl) (by kernel_rfl) (fun _ _ _ h => h) hS rfl ?_; simp only [List.getElem_toArray, List.getElem_cons_succ, List.getElem_cons_zero, put_lit, List.set_cons_zero, List.set_cons_succ]
        refine ha_skip (i := 8) rfl (by kernel_rfl) (by kernel_rfl) (by kernel_rfl) (fun _ _ _ h => h) hS rfl ?_; simp only [List.getElem_toArray, List.getElem_cons_succ, List.getElem_cons_zero, put_lit, List.set_cons_zero, List.set_cons_succ]
        refine ha_skip (i := 9) rfl (by kernel_rfl) (by kernel_rfl) (by kernel_rfl) (fun _ _ _ h => h) hS rfl ?_; simp only [List.getElem_toArray, List.getElem_cons_succ, List.getElem_cons_zero, put_lit, List.set_cons_zero, List.set_cons_succ]
        refine ha_skip (i := 10) rfl (by kernel_rfl) (by kernel_rfl) (by kernel_rfl) (fun _ _ _ h => h) hS rfl ?_; simp only [List.getElem_toArray, List.getElem_cons_succ, List.getElem_cons_zero, put_lit, List.set_cons_zero, List.set_cons_succ]
        refine ha_skip (i := 11) rfl (by kernel_rfl) (by kernel_rfl) (by kernel_rfl) (fun _ _ _ h => h) hS rfl ?_; simp only [List.getElem_toArray, List.getElem_cons_succ, List.getElem_cons_zero, put_lit, List.set_cons_zero, List.set_cons_succ]
        refine ha_skip (i := 12) rfl (by kernel_rfl) (by kernel_rfl) (by kernel_rfl) (fun _ _ _ h => h) hS rfl ?_; simp only [List.getElem_toArray, List.getElem_cons_succ, List.getElem_cons_zero, put_lit, List.set_cons_zero, List.set_cons_succ]
        refine ha_skip (i := 13) rfl (by kernel_rfl) (by kernel_rfl) (by kernel_rfl) (fun _ _ _ h => h) hS rfl ?_; simp only [List.getElem_toArray, List.getElem_cons_succ, List.getElem_cons_zero, put_lit, List.set_cons_zero, List.set_cons_succ]
        refine ha_skip (i := 14) rfl (by kernel_rfl) (by kernel_rfl) (by kernel_rfl) (fun _ _ _ h => h) hS rfl ?_; simp only [List.getElem_toArray, List.getElem_cons_succ, List.getElem_cons_zero, put_lit, List.set_cons_zero, List.set_cons_succ]
        refine ha_skip (i := 15) rfl (by kernel_rfl) (by kernel_rfl) (by kernel_rfl) (fun _ _ _ h => h) hS rfl ?_; simp only [List.getElem_toArray, List.getElem_cons_succ, List.getElem_cons_zero, put_lit, List.set_cons_zero, List.set_cons_succ]
        refine ha_k (i := 16) rfl (by kernel_rfl) (by kernel_rfl) (by kernel_rfl) (fun _ _ _ _ h => h) hS rfl (fun K hK => ?_); go_simp; refine hK _ ?_; clear hK K; try simp only [put_lit, List.set_cons_zero, List.set_cons_succ]
        refine wpAnyH_done (by kernel_rfl) ?_ _
        replace hb := hb.trans (hS.mono hb.size)
        clear hS
        go_wp2_with fail
        go_ret
        exact ⟨⟨false, rfl, fun h => by cases h⟩, hb⟩
      · have hj2 : ((j : Int) == 40) = false := beq_eq_false_iff_ne.2 (by omega)
        obtain ⟨t, u, hi⟩ := HT.out.ex hlt
        obtain ⟨bl, off, k, s, n, A1, l1, c1, k', s', n', A2, l2, c2, rfl, hr8, hr1, hr2, ht, hu⟩ := (HT.out.old hb).low.get hi (C := fun b => wr.heap.size ≤ b) (fun b h1 h2 => by have := h1.2; omega)
        have HR1 := Lib.hid hr1
        have HR2 := Lib.hid hr2
        have HTT := Lib.hid ht
        have HUU := Lib.hid hu
        clear hi hr8 hr1 hr2 ht hu
        go_upto_region 4 with (fail)
        refine wp_region_held_drew (S := Below wr.heap.size wr) mixed ((Below.refl _ _).drew) (fun hS => ?_)
        refine ha_k (i := 0) rfl (by kernel_rfl) (by kernel_rfl) (by kernel_rfl) (fun _ _ _ _ h => h) hS rfl (fun K hK => ?_); go_simp; refine hK _ ?_; clear hK K; try simp only [put_lit, List.set_cons_zero, List.set_cons_succ]
        refine ha_k (i := 1) rfl (by kernel_rfl) (by kernel_rfl) (by kernel_rfl) (fun _ _ _ _ h => h) hS rfl (fun K hK => ?_); go_simp; refine hK _ ?_; clear hK K; try simp only [put_lit, List.set_cons_zero, List.set_cons_succ]
        refine ha_k (i := 2) rfl (by kernel_rfl) (by kernel_rfl) (by kernel_rfl) (fun _ _ _ _ h => h) hS rfl (fun K hK => ?_); go_simp; refine hK _ ?_; clear hK K; try simp only [put_lit, List.set_cons_zero, List.set_cons_succ]
        refine ha_k (i := 3) rfl (by kernel_rfl) (by kernel_rfl) (by kernel_rfl) (fun _ _ _ _ h => h) hS rfl (fun K hK => ?_); go_simp; refine hK _ ?_; clear hK K; try simp only [put_lit, List.set_cons_zero, List.set_cons_succ]
        refine ha_k (i := 4) rfl (by kernel_rfl) (by kernel_rfl) (by kernel_rfl) (fun _ _ _ _ h => h) hS rfl (fun K hK => ?_); go_simp; refine hK _ ?_; clear hK K; try simp only [put_lit, List.set_cons_zero, List.set_cons_succ]
        refine ha_k (i := 5) rfl (by kernel_rfl) (by kernel_rfl) (by kernel_rfl) (fun _ _ _ _ h => h) hS rfl (fun K hK => ?_); go_simp; refine hK _ ?_; clear hK K; try simp only [put_lit, List.set_cons_zero, List.set_cons_succ]
        refine ha_k (i := 6) rfl (by kernel_rfl) (by kernel_rfl) (by kernel_rfl) (fun _ _ _ _ h => h) hS rfl (fun K hK => ?_); go_simp; refine hK _ ?_; clear hK K; try simp only [put_lit, List.set_cons_zero, List.set_cons_succ]
        refine ha_val (i := 7) rfl (by kernel_rfl) (by kernel_rfl) (by kernel_rfl) (fun _ _ _ h => h) hS rfl (fun w' hw' => ex_row rfl (HR1.out w' (Keep.of hw'))) ?_; try simp only [List.getElem_toArray, List.getElem_cons_succ, List.getElem_cons_zero, put_lit, List.set_cons_zero, List.set_cons_succ]
        refine ha_k (i := 8) rfl (by kernel_rfl) (by kernel_rfl) (by kernel_rfl) (fun _ _ _ _ h => h) hS rfl (fun K hK => ?_); go_simp; refine hK _ ?_; clear hK K; try simp only [put_lit, List.set_cons_zero, List.set_cons_succ]
        refine ha_k (i := 9) rfl (by kernel_rfl) (by kernel_rfl) (by kernel_rfl) (fun _ _ _ _ h => h) hS rfl (fun K hK => ?_); go_simp; refine hK _ ?_; clear hK K; try simp only [put_lit, List.set_cons_zero, List.set_cons_succ]
        refine ha_k (i := 10) rfl (by kernel_rfl) (by kernel_rfl) (by kernel_rfl) (fun _ _ _ _ h => h) hS rfl (fun K hK => ?_); go_simp; refine hK _ ?_; clear hK K; try simp only [put_lit, List.set_cons_zero, List.set_cons_succ]
        refine ha_k (i := 11) rfl (by kernel_rfl) (by kernel_rfl) (by kernel_rfl) (fun _ _ _ _ h => h) hS rfl (fun K hK => ?_); go_simp; refine hK _ ?_; clear hK K; try simp only [put_lit, List.set_cons_zero, List.set_cons_succ]
        refine ha_val (i := 12) rfl (by kernel_rfl) (by kernel_rfl) (by kernel_rfl) (fun _ _ _ h => h) hS rfl (fun w' hw' => ex_row rfl (HR2.out w' (Keep.of hw'))) ?_; try simp only [List.getElem_toArray, List.getElem_cons_succ, List.getElem_cons_zero, put_lit, List.set_cons_zero, List.set_cons_succ]
        refine ha_bs2 (i := 13) (by kernel_rfl) rfl rfl _ _ rfl rfl rfl (fun W hW => hS.trans (hW.mono hS.size)) ?_
        intro X p hbX hlp hp hS2
        try simp only [List.getElem_toArray, List.getElem_cons_succ, List.getElem_cons_zero, put_lit, List.set_cons_zero, List.set_cons_succ]
        have HC := Lib.hid (small_any [t, u] _ 2 2 X Any (two_at hp ((HTT.out.old (Below.refl _ _).drew).old hbX) ((HUU.out.old (Below.refl _ _).drew).old hbX)))
        clear hS hbX hlp hp
        refine ha_call (i := 14) (by kernel_rfl) rfl rfl (fun K hK => ?_); go_simp; refine ⟨_, _, ⟨rfl, rfl⟩, hK _ _ ⟨_, HC.out, ?_⟩⟩; clear hK K; rintro e w9 ⟨⟨b9, rfl, -⟩, hb9⟩
        have hS := hS2.trans (hb9.mono hS2.size)
        refine ⟨_, rfl, hS, ?_⟩
        clear hS2 hb9 HC
        try simp only [List.getElem_toArray, List.getElem_cons_succ, List.getElem_cons_zero, put_lit, List.set_cons_zero, List.set_cons_succ]
        refine ha_k (i := 15) rfl (by kernel_rfl) (by kernel_rfl) (by kernel_rfl) (fun _ _ _ _ h => h) hS rfl (fun K hK => ?_); go_simp; refine hK _ ?_; clear hK K; try simp only [put_lit, List.set_cons_zero, List.set_cons_succ]
        refine ha_k (i := 16) rfl (by kernel_rfl) (by kernel_rfl) (by kernel_rfl) (fun _ _ _ _ h => h) hS rfl (fun K hK => ?_); go_simp; refine hK _ ?_; clear hK K; try simp only [put_lit, List.set_cons_zero, List.set_cons_succ]
        refine wpAnyH_done (by kernel_rfl) ?_ _
        replace hb := hb.trans (hS.mono hb.size)
        clear hS HR1 HR2 HTT HUU
        cases b9 with
        | false =>
          go_wp2_with fail
          go_ret
          exact ⟨⟨false, rfl, fun h => by cases h⟩, hb⟩
        | true =>
          go_wp2_with fail
          go_roundw
          case rel => exact ⟨j + 1, by omega, by omega, by go_num, hb⟩
          case measure => simp [intOf]; omega
    · have hltI : ¬ (j : Int) < (l : Int) := by omega
      go_wp2_with fail
      go_ret
      exact ⟨⟨true, rfl, fun _ => by rw [HL.out]; omega⟩, hb⟩
end Go.Proofs.YtokmaehefenpmaaDoor
namespace Go.Proofs.YtokmaehefenpmaaDoor
open Go.RowKit Go.Proofs.YtokmaehefenpmaaDoor.Nm
set_option linter.unusedSimpArgs false
/-- The trees of what is known lie in row g1, the marks in row g2; the trees' own blocks are others. -/
structure MSt (w : World) (g1 g2 : Nat) (st : List (Option Ty)) : Prop where
  ne : g1 ≠ g2
  tys : ∃ cs, w.heap[g1]? = some (.cells cs 24 (0, 0)) ∧ cs.size = st.length * 4 ∧ ∀ (i : Nat) (o : Option Ty), st[i]? = some o → ∃ row, cs.extract (i * 4) (i * 4 + 4) = row ∧ TyAt w (fun b => b ≠ g1 ∧ b ≠ g2) (o.getD zeroTy) row
  kn : ∃ bs, w.heap[g2]? = some (.cells bs 4 (0, 0)) ∧ bs.size = st.length ∧ ∀ (i : Nat) (o : Option Ty), st[i]? = some o → bs[i]? = some (.bool o.isSome)
theorem MSt.lt {w : World} {g1 g2 : Nat} {st : List (Option Ty)} (h : MSt w g1 g2 st) : g1 < w.heap.size ∧ g2 < w.heap.size := by
  obtain ⟨cs, h1, -⟩ := h.tys
  obtain ⟨bs, h2, -⟩ := h.kn
  exact ⟨heap_lt h1, heap_lt h2⟩
theorem MSt.old {w w' : World} {g1 g2 : Nat} {st : List (Option Ty)} (h : MSt w g1 g2 st) (hb : Below w.heap.size w w') : MSt w' g1 g2 st := by
  obtain ⟨h0, ⟨cs, h1, h2, h3⟩, ⟨bs, k1, k2, k3⟩⟩ := h
  exact ⟨h0, ⟨cs, by rw [hb.block _ (heap_lt h1)]; exact h1, h2, fun i o ho => by
    obtain ⟨row, e, ht⟩ := h3 i o ho
    exact ⟨row, e, ht.old hb⟩⟩, ⟨bs, by rw [hb.block _ (heap_lt k1)]; exact k1, k2, k3⟩⟩
/-- Read as a row of trees. -/
theorem MSt.at {w : World} {g1 g2 : Nat} {st : List (Option Ty)} (h : MSt w g1 g2 st) (hm : st.length ≤ maxLen) : TysAt w Any (tysOf st) (some ⟨g1, 0, none⟩) st.length st.length := by
  obtain ⟨-, ⟨cs, h1, h2, h3⟩, -⟩ := h
  refine ⟨by simp [tysOf], Nat.le_refl _, hm, fun i => cs.extract (i * 4) (i * 4 + 4), fun i t ht => ?_, fun i t ht => ?_⟩
  · exact ⟨g1, 0, cs, 24, (0, 0), rfl, trivial, h1, by rw [Nat.zero_add]⟩
  · simp only [tysOf, List.getElem?_map, Option.map_eq_some_iff] at ht
    obtain ⟨o, ho, rfl⟩ := ht
    obtain ⟨row, e, hta⟩ := h3 i o ho
    show TyAt w Any _ (cs.extract (i * 4) (i * 4 + 4))
    rw [e]
    exact hta.weak fun _ _ => trivial
theorem MSt.tree {w : World} {g1 g2 : Nat} {st : List (Option Ty)} (h : MSt w g1 g2 st) (hm : st.length ≤ maxLen) {i : Nat} {u : Ty} (ho : st[i]? = some (some u)) : ∃ row, RowK w ⟨g1, i * 4, none⟩ row ∧ TyAt w Any u row := by
  have := (h.at hm).rowK (i := i) (t := u) (tysOf_get ho)
  simpa using this
/-- The cells of a row with one tree put in. -/
def put4 (cs : Array Value) (i : Nat) (row : Array Value) : Array Value := (cs.toList.take (i * 4) ++ row.toList ++ cs.toList.drop (i * 4 + 4)).toArray
theorem put4_size {cs row : Array Value} {i : Nat} (hr : row.size = 4) (h : i * 4 + 4 ≤ cs.size) : (put4 cs i row).size = cs.size := by
  simp [put4, hr]; omega
theorem put4_same {cs row : Array Value} {i : Nat} (hr : row.size = 4) (h : i * 4 + 4 ≤ cs.size) : (put4 cs i row).extract (i * 4) (i * 4 + 4) = row := by
  apply Array.toList_inj.1
  have h1 : (cs.toList.take (i * 4)).length = i * 4 := by simp; omega
  simp only [put4, Array.toList_extract, List.extract_eq_take_drop, List.append_assoc]
  rw [List.drop_append_of_le_length (by omega), List.drop_of_length_le (by omega), List.nil_append, show i * 4 + 4 - i * 4 = row.toList.length by simp [hr], List.take_left']
  rfl
theorem put4_other {cs row : Array Value} {i j : Nat} (hr : row.size = 4) (h : i * 4 + 4 ≤ cs.size) (hj : j ≠ i) : (put4 cs i row).extract (j * 4) (j * 4 + 4) = cs.extract (j * 4) (j * 4 + 4) := by
  have h1 : (cs.toList.take (i * 4)).length = i * 4 := by simp; omega
  have hr2 : row.toList.length = 4 := by simp [hr]
  have key : ∀ m, (m < i * 4 ∨ i * 4 + 4 ≤ m) → (put4 cs i row)[m]? = cs[m]? := fun m hm => by
    rw [← Array.getElem?_toList, ← Array.getElem?_toList]
    simp only [put4, List.append_assoc]
    rcases hm with hm | hm
    · rw [List.getElem?_append_left (by omega), List.getElem?_take_of_lt hm]
    · rw [List.getElem?_append_right (by omega), List.getElem?_append_right (by omega), List.getElem?_drop]
      congr 1; omega
  apply Array.ext_getElem?
  intro m
  rw [Array.getElem?_extract, Array.getElem?_extract, put4_size hr h]
  split
  · exact key _ (by rcases Nat.lt_or_gt_of_ne hj with e | e <;> omega)
  · rfl
/-- What stands beside a match's two rows. -/
structure Fr (g1 g2 : Nat) (w w' : World) : Prop where
  keep : ∀ b, b < w.heap.size → b ≠ g1 → b ≠ g2 → w'.heap[b]? = w.heap[b]?
  bel : ∀ B' w0, B' ≤ g1 → B' ≤ g2 → B' ≤ w.heap.size → Below B' w0 w → Below B' w0 w'
theorem Fr.size {g1 g2 : Nat} {w w' : World} (h : Fr g1 g2 w w') : w.heap.size ≤ w'.heap.size := (h.bel 0 w (Nat.zero_le _) (Nat.zero_le _) (Nat.zero_le _) (Below.refl _ _)).size
theorem Fr.trans {g1 g2 : Nat} {w w1 w2 : World} (h : Fr g1 g2 w w1) (g : Fr g1 g2 w1 w2) : Fr g1 g2 w w2 where
  keep b hb h1 h2 := by
    have := h.size
    rw [g.keep b (by omega) h1 h2, h.keep b hb h1 h2]
  bel B' w0 h1 h2 h3 h4 := by
    have := h.size
    exact g.bel B' w0 h1 h2 (by omega) (h.bel B' w0 h1 h2 h3 h4)
theorem Fr.of {g1 g2 : Nat} {w w' : World} (hb : Below w.heap.size w w') : Fr g1 g2 w w' := ⟨fun b h _ _ => hb.block b h, fun _ _ _ _ h3 h4 => h4.trans (hb.mono h3)⟩
theorem run_store4 {w : World} {g i : Nat} {cs : Array Value} {k : Int} {s : ByteArray} {n : Int} {A : Option Addr} {l c : Nat} (hg : w.heap[g]? = some (.cells cs 24 (0, 0))) (h : i * 4 + 4 ≤ cs.size) :
    (storeVar 24 ⟨g, i * 4, none⟩ (.agg (cell4 k s n A l c))).run Tryd.prog w = .ok () (w.setRow g (put4 cs i (cell4 k s n A l c))) := by
  have h1 := run_storeCells_at (P := Tryd.prog) g (i * 4) 24 (cell4 k s n A l c).toList 0 cs w hg (by simp [cell4]; omega) (fun v hv => by simp [cell4] at hv; rcases hv with rfl | rfl | rfl | rfl <;> rfl)
  have hi := info24
  cases hq : Tryd.prog.info? 24 with
  | none => simp [hq] at hi
  | some i0 =>
    have hs : i0.size = 4 := by simpa [hq] using hi
    simp only [Nat.add_zero] at h1
    have hc : (cell4 k s n A l c).toList.length = 4 := rfl
    rw [hc] at h1
    have hz : (cell4 k s n A l c).size = 4 := rfl
    simp [storeVar, sizeOf, typeInfo, hq, Value.cells, hs, hz, h1, put4]
section
variable {ops : Array Oper} {rest : List Oper} {ty' : TypeId} {x y : Operand} {pos : String} {after : Array Edge} {a : Act} {w : World} {Q : Exit → Act → World → Prop}
theorem wl_store4 {g i : Nat} {cs : Array Value} {k : Int} {s : ByteArray} {n : Int} {A : Option Addr} {l c : Nat} (hx : a.eval x = .pointer (some ⟨g, i * 4, none⟩)) (hy : a.eval y = .agg (cell4 k s n A l c)) (hg : w.heap[g]? = some (.cells cs 24 (0, 0))) (hle : i * 4 + 4 ≤ cs.size)
    (h : wpList Tryd.prog ops Q rest (a.put none undef) (w.setRow g (put4 cs i (cell4 k s n A l c)))) : wpList Tryd.prog ops Q (⟨none, .store 24 x y, ty', pos, after, none⟩ :: rest) a w :=
  wpList_plain rfl fun _ hK => by
    unfold Oper.wp execOp
    simp only [hx, hy, Instr.storeAt, Instr.sureAddr, Sem.run_bind, Sem.run_pure, Result.andThen_ok, run_store4 hg hle]
    exact hK _ _ h
end
/-- A tree is known from now on. -/
theorem MSt.put {w : World} {g1 g2 : Nat} {st : List (Option Ty)} (h : MSt w g1 g2 st) {i : Nat} (hi : i < st.length) {t : Ty} {row : Array Value} (ht : TyAt w (fun b => b ≠ g1 ∧ b ≠ g2) t row) :
    ∃ cs, w.heap[g1]? = some (.cells cs 24 (0, 0)) ∧ i * 4 + 4 ≤ cs.size ∧ ((w.setRow g1 (put4 cs i row)).cell? ⟨g2, i, none⟩).isSome = true ∧ (w.setRow g1 (put4 cs i row)).frozen? ⟨g2, i, none⟩ = false ∧ MSt ((w.setRow g1 (put4 cs i row)).setCell ⟨g2, i, none⟩ (.bool true)) g1 g2 (st.set i (some t)) ∧ Fr g1 g2 w ((w.setRow g1 (put4 cs i row)).setCell ⟨g2, i, none⟩ (.bool true)) := by
  obtain ⟨h0, ⟨cs, h1, h2, h3⟩, ⟨bs, k1, k2, k3⟩⟩ := h
  have hr : row.size = 4 := ht.size
  have hle : i * 4 + 4 ≤ cs.size := by omega
  have hk1 : (w.setRow g1 (put4 cs i row)).heap[g2]? = some (.cells bs 4 (0, 0)) := by rw [setRow_other w g1 g2 _ (fun e => h0 e.symm)]; exact k1
  have hh1 : ((w.setRow g1 (put4 cs i row)).setCell ⟨g2, i, none⟩ (.bool true)).heap[g1]? = some (.cells (put4 cs i row) 24 (0, 0)) := by rw [heap_setCell_other _ _ _ _ h0]; exact hr_new h1
  have hoth : ∀ b, b ≠ g1 → b ≠ g2 → ((w.setRow g1 (put4 cs i row)).setCell ⟨g2, i, none⟩ (.bool true)).heap[b]? = w.heap[b]? := fun b e1 e2 => by rw [heap_setCell_other _ _ _ _ e2, setRow_other w g1 b _ e1]
  refine ⟨cs, h1, hle, by rw [cell_of_row _ _ _ _ _ _ hk1, Array.getElem?_eq_getElem (by omega)]; rfl, by unfold World.frozen?; rw [hk1]; rfl, ⟨h0, ⟨_, hh1, by rw [put4_size hr hle, List.length_set]; exact h2, fun j o hj => ?_⟩, ⟨_, hs_new hk1, by simp [k2], fun j o hj => ?_⟩⟩, ⟨fun b _ e1 e2 => hoth b e1 e2, fun B' w0 e1 e2 e3 e4 => (below_setRow e4 e1 _).setCell e2 _⟩⟩
  · by_cases e : j = i
    · subst e
      rw [List.getElem?_set_self hi] at hj
      cases hj
      exact ⟨_, put4_same hr hle, ht.mono (fun _ h => h) fun b hb => hoth b hb.1 hb.2⟩
    · rw [List.getElem?_set_ne (fun e2 => e e2.symm)] at hj
      obtain ⟨r, e1, e2⟩ := h3 j o hj
      exact ⟨r, by rw [put4_other hr hle e]; exact e1, e2.mono (fun _ h => h) fun b hb => hoth b hb.1 hb.2⟩
  · by_cases e : j = i
    · subst e
      rw [List.getElem?_set_self hi] at hj
      cases hj
      rw [Array.getElem?_setIfInBounds_self_of_lt (by omega)]
      rfl
    · rw [List.getElem?_set_ne (fun e2 => e e2.symm)] at hj
      rw [Array.getElem?_setIfInBounds_ne (fun e2 => e e2.symm)]
      exact k3 j o hj
end Go.Proofs.YtokmaehefenpmaaDoor
namespace Go.Proofs.YtokmaehefenpmaaDoor
open Go.RowKit Go.Proofs.YtokmaehefenpmaaDoor.Nm
theorem zeroTy_at (w : World) (D : Nat → Prop) : TyAt w D ((none : Option Ty).getD zeroTy) (cell4 0 ⟨#[]⟩ 0 none 0 0) := TyAt.of (by rfl) (by rfl) (Nat.zero_le _) (TysAt.nil w D)
theorem run_make22 (w : World) (n : Nat) (hn : n ≤ 60) : (Instr.makeSlice 22 (.int .i64 (n : Int)) (.int .i64 (n : Int))).run Tryd.prog w = .ok (.slice (some ⟨w.heap.size, 0, none⟩) n n) (w.alloc (.cells (madeCells (cell4 0 ⟨#[]⟩ 0 none 0 0) (n * 4)) 24)) := by
  obtain ⟨i0, hi, hz0, hz1, hz2⟩ := info_parts info24b
  have := run_make (P := Tryd.prog) w 22 24 i0 _ u22 hi hz0 .i64 .i64 (n : Int) (n : Int) (by omega) (by omega) (by rw [hz2]; omega) (by omega)
  rw [hz1] at this
  simpa [Value.cells] using this
theorem made4_get {n m : Nat} (h : m < n * 4) : (madeCells (cell4 0 ⟨#[]⟩ 0 none 0 0) (n * 4))[m]? = some ((cell4 0 ⟨#[]⟩ 0 none 0 0)[m % 4]!) := by
  unfold madeCells
  rw [Array.getElem?_map, Array.getElem?_range, if_pos h]
  rfl
theorem made4 {n i : Nat} (hi : i < n) : (madeCells (cell4 0 ⟨#[]⟩ 0 none 0 0) (n * 4)).extract (i * 4) (i * 4 + 4) = cell4 0 ⟨#[]⟩ 0 none 0 0 := by
  apply Array.ext_getElem?
  intro m
  rw [Array.getElem?_extract, size_madeCells]
  by_cases hm : m < 4
  · rw [if_pos (by omega), made4_get (by omega), show (i * 4 + m) % 4 = m by omega]
    match m, hm with
    | 0, _ => rfl
    | 1, _ => rfl
    | 2, _ => rfl
    | 3, _ => rfl
  · rw [if_neg (by omega)]
    exact (Array.getElem?_eq_none (by show (cell4 0 ⟨#[]⟩ 0 none 0 0).size ≤ m; rw [cell4_size]; omega)).symm
theorem made1 {n i : Nat} (hi : i < n) : (madeCells #[.bool false] n)[i]? = some (.bool false) := by
  unfold madeCells
  rw [Array.getElem?_map, Array.getElem?_range, if_pos hi]
  simp [Nat.mod_one]
/-- Nothing is known yet. -/
theorem MSt.made {w : World} {g1 g2 n : Nat} (hne : g1 ≠ g2) (h1 : w.heap[g1]? = some (.cells (madeCells (cell4 0 ⟨#[]⟩ 0 none 0 0) (n * 4)) 24 (0, 0))) (h2 : w.heap[g2]? = some (.cells (madeCells #[.bool false] n) 4 (0, 0))) : MSt w g1 g2 (List.replicate n none) := by
  refine ⟨hne, ⟨_, h1, by rw [size_madeCells, List.length_replicate], fun i o ho => ?_⟩, ⟨_, h2, by rw [size_madeCells, List.length_replicate], fun i o ho => ?_⟩⟩
  · obtain ⟨hl, rfl⟩ : i < n ∧ o = none := by
      rw [List.getElem?_replicate] at ho
      split at ho
      · cases ho; exact ⟨by assumption, rfl⟩
      · cases ho
    exact ⟨_, made4 hl, zeroTy_at _ _⟩
  · obtain ⟨hl, rfl⟩ : i < n ∧ o = none := by
      rw [List.getElem?_replicate] at ho
      split at ho
      · cases ho; exact ⟨by assumption, rfl⟩
      · cases ho
    exact made1 hl
end Go.Proofs.YtokmaehefenpmaaDoor
namespace Go.Proofs.YtokmaehefenpmaaDoor
open Go.RowKit Go.Proofs.YtokmaehefenpmaaDoor.Nm
set_option linter.unusedSimpArgs false
def letterB (c : Int) : Bool := decide ((97 ≤ c ∧ c ≤ 122) ∨ (65 ≤ c ∧ c ≤ 90) ∨ c = 95)
def digitB (c : Int) : Bool := decide (48 ≤ c ∧ c ≤ 57)
def capB (c : Int) : Bool := decide (65 ≤ c ∧ c ≤ 90)
set_option maxHeartbeats 2000000 in
set_option maxRecDepth 100000 in
theorem Letter_any (c : Int) (w : World) : Calls Tryd.prog 113 #[.int .u8 c] w fun e w' => e = .returned (.bool (letterB c)) ∧ w = w' := by
  go_enter Tryd.func113, Tryd.ntmps113
  by_cases h5 : c = 95
  · subst h5
    go_wp2_with fail
    go_ret
    exact ⟨rfl, rfl⟩
  have e1 : (c == 95) = false := by simp [h5]
  have HH := Lib.hid h5
  clear h5
  by_cases h1 : c ≥ 97
  · skip
    by_cases h2 : c ≤ 122
    · skip
      go_wp2_with fail
      go_ret
      have := HH.out
      exact ⟨by rw [show letterB c = true from decide_eq_true (by omega)]; rfl, rfl⟩
    · skip
      by_cases h3 : c ≥ 65
      · skip
        by_cases h4 : c ≤ 90
        · skip
          go_wp2_with fail
          go_ret
          have := HH.out
          exact ⟨by rw [show letterB c = true from decide_eq_true (by omega)]; rfl, rfl⟩
        · skip
          go_wp2_with fail
          go_ret
          have := HH.out
          exact ⟨by rw [show letterB c = false from decide_eq_false (by omega)]; first | rfl | (rw [← e1]; rfl), rfl⟩
      · skip
        go_wp2_with fail
        go_ret
        have := HH.out
        exact ⟨by rw [show letterB c = false from decide_eq_false (by omega)]; first | rfl | (rw [← e1]; rfl), rfl⟩
  · skip
    by_cases h3 : c ≥ 65
    · skip
      by_cases h4 : c ≤ 90
      · skip
        go_wp2_with fail
        go_ret
        have := HH.out
        exact ⟨by rw [show letterB c = true from decide_eq_true (by omega)]; rfl, rfl⟩
      · skip
        go_wp2_with fail
        go_ret
        have := HH.out
        exact ⟨by rw [show letterB c = false from decide_eq_false (by omega)]; first | rfl | (rw [← e1]; rfl), rfl⟩
    · skip
      go_wp2_with fail
      go_ret
      have := HH.out
      exact ⟨by rw [show letterB c = false from decide_eq_false (by omega)]; first | rfl | (rw [← e1]; rfl), rfl⟩
set_option maxHeartbeats 2000000 in
set_option maxRecDepth 100000 in
theorem Digit_any (c : Int) (w : World) : Calls Tryd.prog 114 #[.int .u8 c] w fun e w' => e = .returned (.bool (digitB c)) ∧ w = w' := by
  go_enter Tryd.func114, Tryd.ntmps114
  by_cases h1 : c ≥ 48
  · skip
    by_cases h2 : c ≤ 57
    · skip
      go_wp2_with fail
      go_ret
      exact ⟨by rw [show digitB c = true from decide_eq_true (by omega)]; rfl, rfl⟩
    · skip
      go_wp2_with fail
      go_ret
      exact ⟨by rw [show digitB c = false from decide_eq_false (by omega)]; rfl, rfl⟩
  · skip
    go_wp2_with fail
    go_ret
    exact ⟨by rw [show digitB c = false from decide_eq_false (by omega)]; rfl, rfl⟩
set_option maxHeartbeats 2000000 in
set_option maxRecDepth 100000 in
theorem Capital_any (c : Int) (w : World) : Calls Tryd.prog 134 #[.int .u8 c] w fun e w' => e = .returned (.bool (capB c)) ∧ w = w' := by
  go_enter Tryd.func134, Tryd.ntmps134
  by_cases h1 : c ≥ 65
  · skip
    by_cases h2 : c ≤ 90
    · skip
      go_wp2_with fail
      go_ret
      exact ⟨by rw [show capB c = true from decide_eq_true (by omega)]; rfl, rfl⟩
    · skip
      go_wp2_with fail
      go_ret
      exact ⟨by rw [show capB c = false from decide_eq_false (by omega)]; rfl, rfl⟩
  · skip
    go_wp2_with fail
    go_ret
    exact ⟨by rw [show capB c = false from decide_eq_false (by omega)]; rfl, rfl⟩
/-- What a name of a type is. -/
def tnameB (s : ByteArray) : Bool := decide (s.size ≤ 24) && match s.data.toList with
  | [] => false
  | a :: l => capB (a.toNat : Int) && (a :: l).all fun c => letterB (c.toNat : Int) || digitB (c.toNat : Int)
theorem tname_empty {s : ByteArray} (h : s.toList.isEmpty = true) : tnameB s = false := by
  unfold tnameB
  rw [show s.data.toList = [] by rw [← ByteArray.toList_eq]; simpa using h]
  simp
theorem bytes_get {s : ByteArray} {j : Nat} (h : j < s.size) : s.data.toList[j]? = some s[j] := by
  rw [List.getElem?_eq_getElem (by simpa using h)]; rfl
theorem bytes_size (s : ByteArray) : s.data.toList.length = s.size := rfl
theorem tname_cons {s : ByteArray} (h : 0 < s.size) : tnameB s = (decide (s.size ≤ 24) && (capB (s[0].toNat : Int) && s.data.toList.all fun c => letterB (c.toNat : Int) || digitB (c.toNat : Int))) := by
  have h0 := bytes_get h
  unfold tnameB
  cases hl : s.data.toList with
  | nil => rw [hl] at h0; simp at h0
  | cons a l => rw [hl] at h0; simp at h0; subst h0; rfl
set_option maxHeartbeats 2000000 in
set_option maxRecDepth 100000 in
theorem TypeName_any (s : ByteArray) (hs : s.size ≤ maxLen) (w : World) : Calls Tryd.prog 115 #[.string s] w fun e w' => e = .returned (.bool (tnameB s)) ∧ w = w' := by
  unfold maxLen at hs
  go_enter Tryd.func115, Tryd.ntmps115
  go_upto_region 1 with (fail)
  apply wp_region_lit
  cases he : s.toList.isEmpty with
  | true =>
    have HT := Lib.hid (tname_empty he)
    (with_reducible refine wl_k ?_ ?_); exact rfl; intro K hK; go_simp; refine hK _ ?_; clear hK K
    (with_reducible refine wl_k ?_ ?_); exact rfl; intro K hK; go_simp; refine hK _ ?_; clear hK K
    (with_reducible refine wl_k ?_ ?_); exact rfl; intro K hK; go_simp; refine hK _ ?_; clear hK K
    (first | ((with_reducible refine wl_skipU ?_ ?_ ?_); exact rfl; exact rfl) | ((with_reducible refine wl_skip ?_ ?_); exact rfl; simp only [put_lit, List.set_cons_zero, List.set_cons_succ]))
    (first | ((with_reducible refine wl_skipU ?_ ?_ ?_); exact rfl; exact rfl) | ((with_reducible refine wl_skip ?_ ?_); exact rfl; simp only [put_lit, List.set_cons_zero, List.set_cons_succ]))
    (first | ((with_reducible refine wl_skipU ?_ ?_ ?_); exact rfl; exact rfl) | ((with_reducible refine wl_skip ?_ ?_); exact rfl; simp only [put_lit, List.set_cons_zero, List.set_cons_succ]))
    (with_reducible refine wl_k ?_ ?_); exact rfl; intro K hK; go_simp; refine hK _ ?_; clear hK K
    (with_reducible refine wl_k ?_ ?_); exact rfl; intro K hK; go_simp; refine hK _ ?_; clear hK K
    (first | ((with_reducible refine wl_skipU ?_ ?_ ?_); exact rfl; exact rfl) | ((with_reducible refine wl_skip ?_ ?_); exact rfl; simp only [put_lit, List.set_cons_zero, List.set_cons_succ]))
    (first | ((with_reducible refine wl_skipU ?_ ?_ ?_); exact rfl; exact rfl) | ((with_reducible refine wl_skip ?_ ?_); exact rfl; simp only [put_lit, List.set_cons_zero, List.set_cons_succ]))
    (first | ((with_reducible refine wl_skipU ?_ ?_ ?_); exact rfl; exact rfl) | ((with_reducible refine wl_skip ?_ ?_); exact rfl; simp only [put_lit, List.set_cons_zero, List.set_cons_succ]))
    (first | ((with_reducible refine wl_skipU ?_ ?_ ?_); exact rfl; exact rfl) | ((with_reducible refine wl_skip ?_ ?_); exact rfl; simp only [put_lit, List.set_cons_zero, List.set_cons_succ]))
    (with_reducible refine wl_k ?_ ?_); exact rfl; intro K hK; go_simp; refine hK _ ?_; clear hK K
    go_wp2_with fail
    go_ret
    exact ⟨by rw [HT.out]; rfl, rfl⟩
  | false =>
    have hix : 0 < s.size := by
      rcases Nat.eq_zero_or_pos s.size with h | h
      · have : s.toList = [] := by rw [ByteArray.toList_eq]; exact List.eq_nil_of_length_eq_zero h
        rw [this] at he; cases he
      · exact h
    have HTC := Lib.hid (tname_cons hix)
    by_cases h24 : (s.size : Int) > 24
    · have HT : Hid (tnameB s = false) := Lib.hid (by rw [HTC.out, decide_eq_false (by omega)]; rfl)
      (with_reducible refine wl_k ?_ ?_); exact rfl; intro K hK; go_simp; refine hK _ ?_; clear hK K
      (with_reducible refine wl_k ?_ ?_); exact rfl; intro K hK; go_simp; refine hK _ ?_; clear hK K
      (with_reducible refine wl_k ?_ ?_); exact rfl; intro K hK; go_simp; refine hK _ ?_; clear hK K
      (with_reducible refine wl_k ?_ ?_); exact rfl; intro K hK; go_simp; refine hK _ ?_; clear hK K
      (with_reducible refine wl_k ?_ ?_); exact rfl; intro K hK; go_simp; refine hK _ ?_; clear hK K
      (with_reducible refine wl_k ?_ ?_); exact rfl; intro K hK; go_simp; refine hK _ ?_; clear hK K
      (with_reducible refine wl_k ?_ ?_); exact rfl; intro K hK; go_simp; refine hK _ ?_; clear hK K
      (with_reducible refine wl_k ?_ ?_); exact rfl; intro K hK; go_simp; refine hK _ ?_; clear hK K
      (first | ((with_reducible refine wl_skipU ?_ ?_ ?_); exact rfl; exact rfl) | ((with_reducible refine wl_skip ?_ ?_); exact rfl; simp only [put_lit, List.set_cons_zero, List.set_cons_succ]))
      (first | ((with_reducible refine wl_skipU ?_ ?_ ?_); exact rfl; exact rfl) | ((with_reducible refine wl_skip ?_ ?_); exact rfl; simp only [put_lit, List.set_cons_zero, List.set_cons_succ]))
      (first | ((with_reducible refine wl_skipU ?_ ?_ ?_); exact rfl; exact rfl) | ((with_reducible refine wl_skip ?_ ?_); exact rfl; simp only [put_lit, List.set_cons_zero, List.set_cons_succ]))
      (first | ((with_reducible refine wl_skipU ?_ ?_ ?_); exact rfl; exact rfl) | ((with_reducible refine wl_skip ?_ ?_); exact rfl; simp only [put_lit, List.set_cons_zero, List.set_cons_succ]))
      (with_reducible refine wl_k ?_ ?_); exact rfl; intro K hK; go_simp; refine hK _ ?_; clear hK K
      go_wp2_with fail
      go_ret
      exact ⟨by rw [HT.out]; rfl, rfl⟩
    · have HC := Lib.hid (Capital_any (s[0].toNat : Int) w)
      obtain ⟨b1, hb1⟩ : ∃ b, b = capB (s[0].toNat : Int) := ⟨_, rfl⟩
      rw [← hb1] at HC
      rw [← hb1, decide_eq_true (by omega)] at HTC
      clear hb1
      (with_reducible refine wl_k ?_ ?_); exact rfl; intro K hK; go_simp; refine hK _ ?_; clear hK K
      (with_reducible refine wl_k ?_ ?_); exact rfl; intro K hK; go_simp; refine hK _ ?_; clear hK K
      (with_reducible refine wl_k ?_ ?_); exact rfl; intro K hK; go_simp; refine hK _ ?_; clear hK K
      (with_reducible refine wl_k ?_ ?_); exact rfl; intro K hK; go_simp; refine hK _ ?_; clear hK K
      (with_reducible refine wl_k ?_ ?_); exact rfl; intro K hK; go_simp; refine hK _ ?_; clear hK K
      (with_reducible refine wl_k ?_ ?_); exact rfl; intro K hK; go_simp; refine hK _ ?_; clear hK K
      (with_reducible refine wl_k ?_ ?_); exact rfl; intro K hK; go_simp; refine hK _ ?_; clear hK K
      (with_reducible refine wl_k ?_ ?_); exact rfl; intro K hK; go_simp; refine hK _ ?_; clear hK K
      (with_reducible refine wl_k ?_ ?_); exact rfl; intro K hK; go_simp; refine hK _ ?_; clear hK K
      (with_reducible refine wl_k ?_ ?_); exact rfl; intro K hK; go_simp; refine hK _ ?_; clear hK K
      (with_reducible refine wl_ck ?_ ?_); exact rfl; intro K hK; go_simp; refine ⟨_, _, ⟨rfl, rfl⟩, hK _ _ ⟨_, HC.out, ?_⟩⟩; clear hK K; rintro e w3 ⟨rfl, rfl⟩; refine ⟨_, rfl, ?_⟩; simp only [put_lit, List.set_cons_zero, List.set_cons_succ]
      clear HC
      cases b1 with
      | false =>
        have HT : Hid (tnameB s = false) := Lib.hid (by rw [HTC.out]; rfl)
        (with_reducible refine wl_k ?_ ?_); exact rfl; intro K hK; go_simp; refine hK _ ?_; clear hK K
        (with_reducible refine wl_k ?_ ?_); exact rfl; intro K hK; go_simp; refine hK _ ?_; clear hK K
        go_wp2_with fail
        go_ret
        exact ⟨by rw [HT.out]; rfl, rfl⟩
      | true =>
        have HT : Hid (tnameB s = s.data.toList.all fun c => letterB (c.toNat : Int) || digitB (c.toNat : Int)) := Lib.hid (by rw [HTC.out]; rfl)
        clear HTC
        (with_reducible refine wl_k ?_ ?_); exact rfl; intro K hK; go_simp; refine hK _ ?_; clear hK K
        (with_reducible refine wl_k ?_ ?_); exact rfl; intro K hK; go_simp; refine hK _ ?_; clear hK K
        go_wp2_with fail
        go_loopw [3] (fun i wr => ∃ j : Nat, j ≤ s.size ∧ i = .int .i64 (j : Int) ∧ Hid (∀ (i : Nat) (c : UInt8), i < j → s.data.toList[i]? = some c → (letterB (c.toNat : Int) || digitB (c.toNat : Int)) = true) ∧ w = wr) (fun i _ => s.size - (intOf i).toNat)
        case atStart => exact ⟨0, by omega, rfl, Lib.hid (fun i c hi => by omega), rfl⟩
        case round =>
          obtain ⟨j, hj, rfl, HR, rfl⟩ := hrel
          by_cases hlt : j < s.size
          · have hltI : (j : Int) < (s.size : Int) := by omega
            have HL := Lib.hid (Letter_any (s[j].toNat : Int) w)
            have HD := Lib.hid (Digit_any (s[j].toNat : Int) w)
            have HS := Lib.hid (bytes_get hlt)
            obtain ⟨b1, hb1⟩ : ∃ b, b = letterB (s[j].toNat : Int) := ⟨_, rfl⟩
            obtain ⟨b2, hb2⟩ : ∃ b, b = digitB (s[j].toNat : Int) := ⟨_, rfl⟩
            rw [← hb1] at HL
            rw [← hb2] at HD
            have H1 := Lib.hid hb1
            have H2 := Lib.hid hb2
            have HR2 : Hid ((b1 || b2) = true → ∀ (i : Nat) (c : UInt8), i < j + 1 → s.data.toList[i]? = some c → (letterB (c.toNat : Int) || digitB (c.toNat : Int)) = true) := Lib.hid fun h i c hi hc => by
              rcases Nat.lt_or_ge i j with h3 | h3
              · exact HR.out i c h3 hc
              · obtain rfl : i = j := by omega
                rw [HS.out] at hc; cases hc; rw [← H1.out, ← H2.out]; exact h
            have HF : Hid ((b1 || b2) = false → tnameB s = false) := Lib.hid fun h => by
              rw [HT.out, List.all_eq_false]
              exact ⟨s[j], List.mem_of_getElem? HS.out, by rw [← H1.out, ← H2.out, h]; simp⟩
            clear hb1 hb2 H1 H2 HS
            go_upto_region 6 with (fail)
            apply wp_region_lit
            (with_reducible refine wl_k ?_ ?_); exact rfl; intro K hK; go_simp; refine hK _ ?_; clear hK K
            (with_reducible refine wl_k ?_ ?_); exact rfl; intro K hK; go_simp; refine hK _ ?_; clear hK K
            (with_reducible refine wl_k ?_ ?_); exact rfl; intro K hK; go_simp; refine hK _ ?_; clear hK K
            (with_reducible refine wl_ck ?_ ?_); exact rfl; intro K hK; go_simp; refine ⟨_, _, ⟨rfl, rfl⟩, hK _ _ ⟨_, HL.out, ?_⟩⟩; clear hK K; rintro e w4 ⟨rfl, rfl⟩; refine ⟨_, rfl, ?_⟩; simp only [put_lit, List.set_cons_zero, List.set_cons_succ]
            cases b1 with
            | true =>
              have HR3 := Lib.hid (HR2.out rfl)
              clear HL HD HR2 HF
              (with_reducible refine wl_k ?_ ?_); exact rfl; intro K hK; go_simp; refine hK _ ?_; clear hK K
              (with_reducible refine wl_k ?_ ?_); exact rfl; intro K hK; go_simp; refine hK _ ?_; clear hK K
              (first | ((with_reducible refine wl_skipU ?_ ?_ ?_); exact rfl; exact rfl) | ((with_reducible refine wl_skip ?_ ?_); exact rfl; simp only [put_lit, List.set_cons_zero, List.set_cons_succ]))
              (first | ((with_reducible refine wl_skipU ?_ ?_ ?_); exact rfl; exact rfl) | ((with_reducible refine wl_skip ?_ ?_); exact rfl; simp only [put_lit, List.set_cons_zero, List.set_cons_succ]))
              (first | ((with_reducible refine wl_skipU ?_ ?_ ?_); exact rfl; exact rfl) | ((with_reducible refine wl_skip ?_ ?_); exact rfl; simp only [put_lit, List.set_cons_zero, List.set_cons_succ]))
              (first | ((with_reducible refine wl_skipU ?_ ?_ ?_); exact rfl; exact rfl) | ((with_reducible refine wl_skip ?_ ?_); exact rfl; simp only [put_lit, List.set_cons_zero, List.set_cons_succ]))
              (first | ((with_reducible refine wl_skipU ?_ ?_ ?_); exact rfl; exact rfl) | ((with_reducible refine wl_skip ?_ ?_); exact rfl; simp only [put_lit, List.set_cons_zero, List.set_cons_succ]))
              (with_reducible refine wl_k ?_ ?_); exact rfl; intro K hK; go_simp; refine hK _ ?_; clear hK K
              go_wp2_with fail
              go_roundw
              case rel => exact ⟨j + 1, by omega, by go_num, HR3, trivial⟩
              case measure => simp [intOf]; omega
            | false =>
              (with_reducible refine wl_k ?_ ?_); exact rfl; intro K hK; go_simp; refine hK _ ?_; clear hK K
              (with_reducible refine wl_k ?_ ?_); exact rfl; intro K hK; go_simp; refine hK _ ?_; clear hK K
              (with_reducible refine wl_k ?_ ?_); exact rfl; intro K hK; go_simp; refine hK _ ?_; clear hK K
              (with_reducible refine wl_k ?_ ?_); exact rfl; intro K hK; go_simp; refine hK _ ?_; clear hK K
              (with_reducible refine wl_k ?_ ?_); exact rfl; intro K hK; go_simp; refine hK _ ?_; clear hK K
              (with_reducible refine wl_ck ?_ ?_); exact rfl; intro K hK; go_simp; refine ⟨_, _, ⟨rfl, rfl⟩, hK _ _ ⟨_, HD.out, ?_⟩⟩; clear hK K; rintro e w4 ⟨rfl, rfl⟩; refine ⟨_, rfl, ?_⟩; simp only [put_lit, List.set_cons_zero, List.set_cons_succ]
              cases b2 with
              | true =>
                have HR3 := Lib.hid (HR2.out rfl)
                clear HL HD HR2 HF
                (with_reducible refine wl_k ?_ ?_); exact rfl; intro K hK; go_simp; refine hK _ ?_; clear hK K
                (with_reducible refine wl_k ?_ ?_); exact rfl; intro K hK; go_simp; refine hK _ ?_; clear hK K
                go_wp2_with fail
                go_roundw
                case rel => exact ⟨j + 1, by omega, by go_num, HR3, trivial⟩
                case measure => simp [intOf]; omega
              | false =>
                have HF2 := Lib.hid (HF.out rfl)
                clear HL HD HR2 HF
                (with_reducible refine wl_k ?_ ?_); exact rfl; intro K hK; go_simp; refine hK _ ?_; clear hK K
                (with_reducible refine wl_k ?_ ?_); exact rfl; intro K hK; go_simp; refine hK _ ?_; clear hK K
                go_wp2_with fail
                go_ret
                exact ⟨by rw [HF2.out]; rfl, rfl⟩
          · have hltI : ¬ (j : Int) < (s.size : Int) := by omega
            have HF : Hid (tnameB s = true) := Lib.hid (by
              rw [HT.out, List.all_eq_true]
              intro c hc
              obtain ⟨i, hi⟩ := List.mem_iff_getElem?.1 hc
              exact HR.out i c (by have := (List.getElem?_eq_some_iff.1 hi).1; rw [bytes_size] at this; omega) hi)
            go_wp2_with fail
            go_ret
            exact ⟨by rw [HF.out]; rfl, rfl⟩
end Go.Proofs.YtokmaehefenpmaaDoor
namespace Go.Proofs.YtokmaehefenpmaaDoor
open Go.RowKit Go.Proofs.YtokmaehefenpmaaDoor.Nm
set_option linter.unusedSimpArgs false
theorem ent52 : Enters Tryd.prog 52 := enters_of Tryd.func52 (by kernel_rfl) rfl
theorem selVar_node (sol : List Ty) (k : Int) (s : ByteArray) (n : Int) (ts : List Ty) : selVar sol (.node k s n ts) = if k = 12 ∧ 0 ≤ n then (sol[n.toNat]?).bind fun u => if u.kind = 0 then none else some u else none := rfl
set_option maxHeartbeats 4000000 in
set_option maxRecDepth 100000 in
theorem applyF_any (sol : List Ty) (hnl : ∀ u, u ∈ sol → u.nodes ≤ 1000000) (ps : Nat) (A : Option Addr) (l c : Nat) (w : World) (hps : w.heap[ps]? = some (.cells #[.slice A l c] 22 (0, 0))) (D2 : Nat → Prop) (h2 : TysAt w D2 sol A l c) (t : Ty) (D : Nat → Prop) (row : Array Value) (h : TyAt w D t row) :
    Calls Tryd.prog 52 #[.agg row, .pointer (some ⟨ps, 0, none⟩)] w (FPost w (selVar sol t)) := by
  obtain ⟨k, s, n, A1, l1, c1, ts, rfl, rfl, hk, hn, -⟩ := h.parts
  have H2 := Lib.hid h2
  have HL := Lib.hid h2.len
  have HNL := Lib.hid hnl
  have hcm := h2.cap
  have hmx := h2.max
  unfold maxLen at hmx
  clear h h2 hnl
  have hb := Below.refl w.heap.size w
  go_enter Tryd.func52, Tryd.ntmps52
  go_upto_region 0 with (fail)
  apply wp_region_lit
  have lthpsp := heap_lt hps; (with_reducible refine wl_box rfl ?_); intro W p hbn hlp hp; replace hps := below_look hbn hps; replace hb := hb.trans (hbn.mono hb.size); clear hbn; simp only [put_lit, List.set_cons_zero, List.set_cons_succ]
  have lthpsr := heap_lt hps; have lthpr := heap_lt hp; (with_reducible refine wl_all ?_); intro W2 r hbn hlr hr; replace hps := below_look hbn hps; replace hp := below_look hbn hp; replace hb := hb.trans (hbn.mono hb.size); clear hbn; simp only [put_lit, List.set_cons_zero, List.set_cons_succ]
  (with_reducible refine wl_k ?_ ?_); exact rfl; intro K hK; go_simp; refine hK _ ?_; clear hK K
  by_cases h1 : k = 12
  · have e1 : (k != 12) = false := by simp [h1]
    by_cases h3 : 0 ≤ n
    · obtain ⟨m, rfl⟩ := Int.eq_ofNat_of_zero_le h3
      have e3 : ¬ (m : Int) < 0 := by omega
      by_cases h4 : m < l
      · have e4 : ¬ (m : Int) ≥ (l : Int) := by omega
        have e5 : (m : Int) < (l : Int) := by omega
        obtain ⟨b, off, u, row, rfl, -, hu, -⟩ := H2.out.get h4
        obtain ⟨row, hrow, hta⟩ := (H2.out.old hb).rowK hu
        have hkd := (H2.out.old hb).kind hu
        by_cases h5 : u.kind = 0
        · have e6 : (u.kind == 0) = true := by simp [h5]
          have HG : Hid (selVar sol (.node k s (m : Int) ts) = none) := Lib.hid (by rw [selVar_node, if_pos ⟨h1, h3⟩, Int.toNat_natCast, hu, Option.bind_some, if_pos h5])
          clear h1 h5 hu hta
          go_upto_region 1 with (fail)
          apply wp_region_lit
          (with_reducible refine wl_k ?_ ?_); exact rfl; intro K hK; go_simp; refine hK _ ?_; clear hK K
          (first | ((with_reducible apply wl_oneG); exact rfl; exact rfl; first | exact f0 (by with_reducible assumption) | exact f1 (by with_reducible assumption) | exact f2 (by with_reducible assumption) | exact f3 (by with_reducible assumption) | with_reducible assumption | exact g22 (by with_reducible assumption) | exact g25 (by with_reducible assumption)) | ((with_reducible apply wl_rowG); exact rfl; exact rfl; first | with_reducible assumption | exact RowK.now (by with_reducible assumption) | exact f4 (by with_reducible assumption)))
          (with_reducible refine wl_k ?_ ?_); exact rfl; intro K hK; go_simp; refine hK _ ?_; clear hK K
          (with_reducible refine wl_k ?_ ?_); exact rfl; intro K hK; go_simp; refine hK _ ?_; clear hK K
          (with_reducible refine wl_k ?_ ?_); exact rfl; intro K hK; go_simp; refine hK _ ?_; clear hK K
          (first | ((with_reducible apply wl_oneG); exact rfl; exact rfl; first | exact f0 (by with_reducible assumption) | exact f1 (by with_reducible assumption) | exact f2 (by with_reducible assumption) | exact f3 (by with_reducible assumption) | with_reducible assumption | exact g22 (by with_reducible assumption) | exact g25 (by with_reducible assumption)) | ((with_reducible apply wl_rowG); exact rfl; exact rfl; first | with_reducible assumption | exact RowK.now (by with_reducible assumption) | exact f4 (by with_reducible assumption)))
          (with_reducible refine wl_k ?_ ?_); exact rfl; intro K hK; go_simp; refine hK _ ?_; clear hK K
          (with_reducible refine wl_k ?_ ?_); exact rfl; intro K hK; go_simp; refine hK _ ?_; clear hK K
          (with_reducible refine wl_k ?_ ?_); exact rfl; intro K hK; go_simp; refine hK _ ?_; clear hK K
          (with_reducible refine wl_k ?_ ?_); exact rfl; intro K hK; go_simp; refine hK _ ?_; clear hK K
          (first | ((with_reducible apply wl_oneG); exact rfl; exact rfl; first | exact f0 (by with_reducible assumption) | exact f1 (by with_reducible assumption) | exact f2 (by with_reducible assumption) | exact f3 (by with_reducible assumption) | with_reducible assumption | exact g22 (by with_reducible assumption) | exact g25 (by with_reducible assumption)) | ((with_reducible apply wl_rowG); exact rfl; exact rfl; first | with_reducible assumption | exact RowK.now (by with_reducible assumption) | exact f4 (by with_reducible assumption)))
          (first | ((with_reducible apply wl_oneG); exact rfl; exact rfl; first | exact f0 (by with_reducible assumption) | exact f1 (by with_reducible assumption) | exact f2 (by with_reducible assumption) | exact f3 (by with_reducible assumption) | with_reducible assumption | exact g22 (by with_reducible assumption) | exact g25 (by with_reducible assumption)) | ((with_reducible apply wl_rowG); exact rfl; exact rfl; first | with_reducible assumption | exact RowK.now (by with_reducible assumption) | exact f4 (by with_reducible assumption)))
          (with_reducible refine wl_k ?_ ?_); exact rfl; intro K hK; go_simp; refine hK _ ?_; clear hK K
          (with_reducible refine wl_k ?_ ?_); exact rfl; intro K hK; go_simp; refine hK _ ?_; clear hK K
          (with_reducible refine wl_k ?_ ?_); exact rfl; intro K hK; go_simp; refine hK _ ?_; clear hK K
          (with_reducible refine wl_k ?_ ?_); exact rfl; intro K hK; go_simp; refine hK _ ?_; clear hK K
          (first | ((with_reducible apply wl_oneG); exact rfl; exact rfl; first | exact f0 (by with_reducible assumption) | exact f1 (by with_reducible assumption) | exact f2 (by with_reducible assumption) | exact f3 (by with_reducible assumption) | with_reducible assumption | exact g22 (by with_reducible assumption) | exact g25 (by with_reducible assumption)) | ((with_reducible apply wl_rowG); exact rfl; exact rfl; first | with_reducible assumption | exact RowK.now (by with_reducible assumption) | exact f4 (by with_reducible assumption)))
          (with_reducible refine wl_k ?_ ?_); exact rfl; intro K hK; go_simp; refine hK _ ?_; clear hK K
          (first | ((with_reducible apply wl_oneG); exact rfl; exact rfl; first | exact f0 (by with_reducible assumption) | exact f1 (by with_reducible assumption) | exact f2 (by with_reducible assumption) | exact f3 (by with_reducible assumption) | with_reducible assumption | exact g22 (by with_reducible assumption) | exact g25 (by with_reducible assumption)) | ((with_reducible apply wl_rowG); exact rfl; exact rfl; first | with_reducible assumption | exact RowK.now (by with_reducible assumption) | exact f4 (by with_reducible assumption)))
          (with_reducible refine wl_k ?_ ?_); exact rfl; intro K hK; go_simp; refine hK _ ?_; clear hK K
          (with_reducible refine wl_k ?_ ?_); exact rfl; intro K hK; go_simp; refine hK _ ?_; clear hK K
          (first | ((with_reducible apply wl_oneG); exact rfl; exact rfl; first | exact f0 (by with_reducible assumption) | exact f1 (by with_reducible assumption) | exact f2 (by with_reducible assumption) | exact f3 (by with_reducible assumption) | with_reducible assumption | exact g22 (by with_reducible assumption) | exact g25 (by with_reducible assumption)) | ((with_reducible apply wl_rowG); exact rfl; exact rfl; first | with_reducible assumption | exact RowK.now (by with_reducible assumption) | exact f4 (by with_reducible assumption)))
          (with_reducible refine wl_k ?_ ?_); exact rfl; intro K hK; go_simp; refine hK _ ?_; clear hK K
          (with_reducible refine wl_k ?_ ?_); exact rfl; intro K hK; go_simp; refine hK _ ?_; clear hK K
          go_upto_region 2 with (fail)
          apply wp_region_lit
          refine wl_val rfl (ex_build 24 _ rfl (L := []) rfl built24) ?_
          simp only [put_lit, List.set_cons_zero, List.set_cons_succ]
          (with_reducible refine wl_put rfl rfl hr ?_); rw [put_noneA]; intro W3 hbx hsz hkx hnx; replace hb := hbx _ _ (by omega) hb; clear hr; have hr := hnx; clear hnx
          clear hbx hkx hsz
          (with_reducible refine wl_k ?_ ?_); exact rfl; intro K hK; go_simp; refine hK _ ?_; clear hK K
          have HQ := Lib.hid hr
          clear hp hr
          go_wp2_with fail
          exact bodyPost_ret (res24t rfl _ _ r rfl rfl HQ.out) rfl ⟨_, by rw [HG.out]; rfl, by rw [HG.out]; exact zero_at _ _, hb⟩
        · have e6 : (u.kind == 0) = false := by simp [h5]
          have HG : Hid (selVar sol (.node k s (m : Int) ts) = some u) := Lib.hid (by rw [selVar_node, if_pos ⟨h1, h3⟩, Int.toNat_natCast, hu, Option.bind_some, if_neg h5])
          have HC := Lib.hid (fun (w' : World) (hw : Below W2.heap.size W2 w') => copied_any u (HNL.out u (List.mem_of_getElem? hu)) w' D2 row (hta.old hw))
          clear h1 h5 hu hta
          go_upto_region 1 with (fail)
          apply wp_region_lit
          (with_reducible refine wl_k ?_ ?_); exact rfl; intro K hK; go_simp; refine hK _ ?_; clear hK K
          (first | ((with_reducible apply wl_oneG); exact rfl; exact rfl; first | exact f0 (by with_reducible assumption) | exact f1 (by with_reducible assumption) | exact f2 (by with_reducible assumption) | exact f3 (by with_reducible assumption) | with_reducible assumption | exact g22 (by with_reducible assumption) | exact g25 (by with_reducible assumption)) | ((with_reducible apply wl_rowG); exact rfl; exact rfl; first | with_reducible assumption | exact RowK.now (by with_reducible assumption) | exact f4 (by with_reducible assumption)))
          (with_reducible refine wl_k ?_ ?_); exact rfl; intro K hK; go_simp; refine hK _ ?_; clear hK K
          (with_reducible refine wl_k ?_ ?_); exact rfl; intro K hK; go_simp; refine hK _ ?_; clear hK K
          (with_reducible refine wl_k ?_ ?_); exact rfl; intro K hK; go_simp; refine hK _ ?_; clear hK K
          (first | ((with_reducible apply wl_oneG); exact rfl; exact rfl; first | exact f0 (by with_reducible assumption) | exact f1 (by with_reducible assumption) | exact f2 (by with_reducible assumption) | exact f3 (by with_reducible assumption) | with_reducible assumption | exact g22 (by with_reducible assumption) | exact g25 (by with_reducible assumption)) | ((with_reducible apply wl_rowG); exact rfl; exact rfl; first | with_reducible assumption | exact RowK.now (by with_reducible assumption) | exact f4 (by with_reducible assumption)))
          (with_reducible refine wl_k ?_ ?_); exact rfl; intro K hK; go_simp; refine hK _ ?_; clear hK K
          (with_reducible refine wl_k ?_ ?_); exact rfl; intro K hK; go_simp; refine hK _ ?_; clear hK K
          (with_reducible refine wl_k ?_ ?_); exact rfl; intro K hK; go_simp; refine hK _ ?_; clear hK K
          (with_reducible refine wl_k ?_ ?_); exact rfl; intro K hK; go_simp; refine hK _ ?_; clear hK K
          (first | ((with_reducible apply wl_oneG); exact rfl; exact rfl; first | exact f0 (by with_reducible assumption) | exact f1 (by with_reducible assumption) | exact f2 (by with_reducible assumption) | exact f3 (by with_reducible assumption) | with_reducible assumption | exact g22 (by with_reducible assumption) | exact g25 (by with_reducible assumption)) | ((with_reducible apply wl_rowG); exact rfl; exact rfl; first | with_reducible assumption | exact RowK.now (by with_reducible assumption) | exact f4 (by with_reducible assumption)))
          (first | ((with_reducible apply wl_oneG); exact rfl; exact rfl; first | exact f0 (by with_reducible assumption) | exact f1 (by with_reducible assumption) | exact f2 (by with_reducible assumption) | exact f3 (by with_reducible assumption) | with_reducible assumption | exact g22 (by with_reducible assumption) | exact g25 (by with_reducible assumption)) | ((with_reducible apply wl_rowG); exact rfl; exact rfl; first | with_reducible assumption | exact RowK.now (by with_reducible assumption) | exact f4 (by with_reducible assumption)))
          (with_reducible refine wl_k ?_ ?_); exact rfl; intro K hK; go_simp; refine hK _ ?_; clear hK K
          (with_reducible refine wl_k ?_ ?_); exact rfl; intro K hK; go_simp; refine hK _ ?_; clear hK K
          (with_reducible refine wl_k ?_ ?_); exact rfl; intro K hK; go_simp; refine hK _ ?_; clear hK K
          (with_reducible refine wl_k ?_ ?_); exact rfl; intro K hK; go_simp; refine hK _ ?_; clear hK K
          (first | ((with_reducible apply wl_oneG); exact rfl; exact rfl; first | exact f0 (by with_reducible assumption) | exact f1 (by with_reducible assumption) | exact f2 (by with_reducible assumption) | exact f3 (by with_reducible assumption) | with_reducible assumption | exact g22 (by with_reducible assumption) | exact g25 (by with_reducible assumption)) | ((with_reducible apply wl_rowG); exact rfl; exact rfl; first | with_reducible assumption | exact RowK.now (by with_reducible assumption) | exact f4 (by with_reducible assumption)))
          (with_reducible refine wl_k ?_ ?_); exact rfl; intro K hK; go_simp; refine hK _ ?_; clear hK K
          (first | ((with_reducible apply wl_oneG); exact rfl; exact rfl; first | exact f0 (by with_reducible assumption) | exact f1 (by with_reducible assumption) | exact f2 (by with_reducible assumption) | exact f3 (by with_reducible assumption) | with_reducible assumption | exact g22 (by with_reducible assumption) | exact g25 (by with_reducible assumption)) | ((with_reducible apply wl_rowG); exact rfl; exact rfl; first | with_reducible assumption | exact RowK.now (by with_reducible assumption) | exact f4 (by with_reducible assumption)))
          (with_reducible refine wl_k ?_ ?_); exact rfl; intro K hK; go_simp; refine hK _ ?_; clear hK K
          (with_reducible refine wl_k ?_ ?_); exact rfl; intro K hK; go_simp; refine hK _ ?_; clear hK K
          (first | ((with_reducible apply wl_oneG); exact rfl; exact rfl; first | exact f0 (by with_reducible assumption) | exact f1 (by with_reducible assumption) | exact f2 (by with_reducible assumption) | exact f3 (by with_reducible assumption) | with_reducible assumption | exact g22 (by with_reducible assumption) | exact g25 (by with_reducible assumption)) | ((with_reducible apply wl_rowG); exact rfl; exact rfl; first | with_reducible assumption | exact RowK.now (by with_reducible assumption) | exact f4 (by with_reducible assumption)))
          (with_reducible refine wl_k ?_ ?_); exact rfl; intro K hK; go_simp; refine hK _ ?_; clear hK K
          (with_reducible refine wl_k ?_ ?_); exact rfl; intro K hK; go_simp; refine hK _ ?_; clear hK K
          go_upto_region 3 with (fail)
          apply wp_region_lit
          (first | ((with_reducible apply wl_oneG); exact rfl; exact rfl; first | exact f0 (by with_reducible assumption) | exact f1 (by with_reducible assumption) | exact f2 (by with_reducible assumption) | exact f3 (by with_reducible assumption) | with_reducible assumption | exact g22 (by with_reducible assumption) | exact g25 (by with_reducible assumption)) | ((with_reducible apply wl_rowG); exact rfl; exact rfl; first | with_reducible assumption | exact RowK.now (by with_reducible assumption) | exact f4 (by with_reducible assumption)))
          (with_reducible refine wl_k ?_ ?_); exact rfl; intro K hK; go_simp; refine hK _ ?_; clear hK K
          (first | ((with_reducible apply wl_oneG); exact rfl; exact rfl; first | exact f0 (by with_reducible assumption) | exact f1 (by with_reducible assumption) | exact f2 (by with_reducible assumption) | exact f3 (by with_reducible assumption) | with_reducible assumption | exact g22 (by with_reducible assumption) | exact g25 (by with_reducible assumption)) | ((with_reducible apply wl_rowG); exact rfl; exact rfl; first | with_reducible assumption | exact RowK.now (by with_reducible assumption) | exact f4 (by with_reducible assumption)))
          (with_reducible refine wl_k ?_ ?_); exact rfl; intro K hK; go_simp; refine hK _ ?_; clear hK K
          (first | ((with_reducible apply wl_oneG); exact rfl; exact rfl; first | exact f0 (by with_reducible assumption) | exact f1 (by with_reducible assumption) | exact f2 (by with_reducible assumption) | exact f3 (by with_reducible assumption) | with_reducible assumption | exact g22 (by with_reducible assumption) | exact g25 (by with_reducible assumption)) | ((with_reducible apply wl_rowG); exact rfl; exact rfl; first | with_reducible assumption | exact RowK.now (by with_reducible assumption) | exact f4 (by with_reducible assumption)))
          (with_reducible refine wl_ck ?_ ?_); exact rfl; intro K hK; go_simp; refine ⟨_, _, ⟨rfl, rfl⟩, hK _ _ ⟨_, HC.out _ (Below.refl _ _), ?_⟩⟩; clear hK K; rintro e w7 ⟨row7, rfl, hta7, hb7⟩; refine ⟨_, rfl, ?_⟩; simp only [put_lit, List.set_cons_zero, List.set_cons_succ]
          obtain ⟨k7, s7, n7, A7, l7, c7, ts7, hu7, rfl, -⟩ := hta7.parts
          have hlr' := heap_lt hr
          have HA := Lib.hid (hta7.weak (D' := fun b => w.heap.size ≤ b ∧ b ≠ r) fun b (hb : W2.heap.size ≤ b) => ⟨by have := hb; omega, by omega⟩)
          clear hta7 HC hu7 hp hrow hkd hps
          replace hr := below_look hb7 hr; replace hb := hb.trans (hb7.mono hb.size); clear hb7
          (with_reducible refine wl_put rfl rfl hr ?_); rw [put_noneA]; intro W3 hbx hsz hkx hnx; replace hb := hbx _ _ (by omega) hb; clear hr; have hr := hnx; clear hnx
          replace HA := Lib.hid (HA.out.mono (fun _ h => h) (fun b h => hkx b h.2))
          clear hbx hkx hsz
          (with_reducible refine wl_k ?_ ?_); exact rfl; intro K hK; go_simp; refine hK _ ?_; clear hK K
          have HQ := Lib.hid hr
          clear hr
          go_wp2_with fail
          exact bodyPost_ret (res24t rfl _ _ r rfl rfl HQ.out) rfl ⟨_, by rw [HG.out]; rfl, by rw [HG.out]; exact HA.out.weak fun b h => h.1, hb⟩
      · have e4 : (m : Int) ≥ (l : Int) := by omega
        have HG : Hid (selVar sol (.node k s (m : Int) ts) = none) := Lib.hid (by simp [selVar, Ty.kind, Ty.num, List.getElem?_eq_none (show sol.length ≤ m by rw [HL.out]; omega)])
        clear h1
        go_upto_region 1 with (fail)
        apply wp_region_lit
        (with_reducible refine wl_k ?_ ?_); exact rfl; intro K hK; go_simp; refine hK _ ?_; clear hK K
        (first | ((with_reducible apply wl_oneG); exact rfl; exact rfl; first | exact f0 (by with_reducible assumption) | exact f1 (by with_reducible assumption) | exact f2 (by with_reducible assumption) | exact f3 (by with_reducible assumption) | with_reducible assumption | exact g22 (by with_reducible assumption) | exact g25 (by with_reducible assumption)) | ((with_reducible apply wl_rowG); exact rfl; exact rfl; first | with_reducible assumption | exact RowK.now (by with_reducible assumption) | exact f4 (by with_reducible assumption)))
        (with_reducible refine wl_k ?_ ?_); exact rfl; intro K hK; go_simp; refine hK _ ?_; clear hK K
        (with_reducible refine wl_k ?_ ?_); exact rfl; intro K hK; go_simp; refine hK _ ?_; clear hK K
        (with_reducible refine wl_k ?_ ?_); exact rfl; intro K hK; go_simp; refine hK _ ?_; clear hK K
        (first | ((with_reducible apply wl_oneG); exact rfl; exact rfl; first | exact f0 (by with_reducible assumption) | exact f1 (by with_reducible assumption) | exact f2 (by with_reducible assumption) | exact f3 (by with_reducible assumption) | with_reducible assumption | exact g22 (by with_reducible assumption) | exact g25 (by with_reducible assumption)) | ((with_reducible apply wl_rowG); exact rfl; exact rfl; first | with_reducible assumption | exact RowK.now (by with_reducible assumption) | exact f4 (by with_reducible assumption)))
        (with_reducible refine wl_k ?_ ?_); exact rfl; intro K hK; go_simp; refine hK _ ?_; clear hK K
        (with_reducible refine wl_k ?_ ?_); exact rfl; intro K hK; go_simp; refine hK _ ?_; clear hK K
        (with_reducible refine wl_k ?_ ?_); exact rfl; intro K hK; go_simp; refine hK _ ?_; clear hK K
        (with_reducible refine wl_k ?_ ?_); exact rfl; intro K hK; go_simp; refine hK _ ?_; clear hK K
        (first | ((with_reducible apply wl_oneG); exact rfl; exact rfl; first | exact f0 (by with_reducible assumption) | exact f1 (by with_reducible assumption) | exact f2 (by with_reducible assumption) | exact f3 (by with_reducible assumption) | with_reducible assumption | exact g22 (by with_reducible assumption) | exact g25 (by with_reducible assumption)) | ((with_reducible apply wl_rowG); exact rfl; exact rfl; first | with_reducible assumption | exact RowK.now (by with_reducible assumption) | exact f4 (by with_reducible assumption)))
        (first | ((with_reducible apply wl_oneG); exact rfl; exact rfl; first | exact f0 (by with_reducible assumption) | exact f1 (by with_reducible assumption) | exact f2 (by with_reducible assumption) | exact f3 (by with_reducible assumption) | with_reducible assumption | exact g22 (by with_reducible assumption) | exact g25 (by with_reducible assumption)) | ((with_reducible apply wl_rowG); exact rfl; exact rfl; first | with_reducible assumption | exact RowK.now (by with_reducible assumption) | exact f4 (by with_reducible assumption)))
        (with_reducible refine wl_k ?_ ?_); exact rfl; intro K hK; go_simp; refine hK _ ?_; clear hK K
        (with_reducible refine wl_k ?_ ?_); exact rfl; intro K hK; go_simp; refine hK _ ?_; clear hK K
        (with_reducible refine wl_k ?_ ?_); exact rfl; intro K hK; go_simp; refine hK _ ?_; clear hK K
        (with_reducible refine wl_k ?_ ?_); exact rfl; intro K hK; go_simp; refine hK _ ?_; clear hK K
        (first | ((with_reducible refine wl_skipU ?_ ?_ ?_); exact rfl; exact rfl) | ((with_reducible refine wl_skip ?_ ?_); exact rfl; simp only [put_lit, List.set_cons_zero, List.set_cons_succ]))
        (first | ((with_reducible refine wl_skipU ?_ ?_ ?_); exact rfl; exact rfl) | ((with_reducible refine wl_skip ?_ ?_); exact rfl; simp only [put_lit, List.set_cons_zero, List.set_cons_succ]))
        (first | ((with_reducible refine wl_skipU ?_ ?_ ?_); exact rfl; exact rfl) | ((with_reducible refine wl_skip ?_ ?_); exact rfl; simp only [put_lit, List.set_cons_zero, List.set_cons_succ]))
        (first | ((with_reducible refine wl_skipU ?_ ?_ ?_); exact rfl; exact rfl) | ((with_reducible refine wl_skip ?_ ?_); exact rfl; simp only [put_lit, List.set_cons_zero, List.set_cons_succ]))
        (first | ((with_reducible refine wl_skipU ?_ ?_ ?_); exact rfl; exact rfl) | ((with_reducible refine wl_skip ?_ ?_); exact rfl; simp only [put_lit, List.set_cons_zero, List.set_cons_succ]))
        (first | ((with_reducible refine wl_skipU ?_ ?_ ?_); exact rfl; exact rfl) | ((with_reducible refine wl_skip ?_ ?_); exact rfl; simp only [put_lit, List.set_cons_zero, List.set_cons_succ]))
        (first | ((with_reducible refine wl_skipU ?_ ?_ ?_); exact rfl; exact rfl) | ((with_reducible refine wl_skip ?_ ?_); exact rfl; simp only [put_lit, List.set_cons_zero, List.set_cons_succ]))
        (with_reducible refine wl_k ?_ ?_); exact rfl; intro K hK; go_simp; refine hK _ ?_; clear hK K
        go_upto_region 2 with (fail)
        apply wp_region_lit
        refine wl_val rfl (ex_build 24 _ rfl (L := []) rfl built24) ?_
        simp only [put_lit, List.set_cons_zero, List.set_cons_succ]
        (with_reducible refine wl_put rfl rfl hr ?_); rw [put_noneA]; intro W3 hbx hsz hkx hnx; replace hb := hbx _ _ (by omega) hb; clear hr; have hr := hnx; clear hnx
        clear hbx hkx hsz
        (with_reducible refine wl_k ?_ ?_); exact rfl; intro K hK; go_simp; refine hK _ ?_; clear hK K
        have HQ := Lib.hid hr
        clear hp hr
        go_wp2_with fail
        exact bodyPost_ret (res24t rfl _ _ r rfl rfl HQ.out) rfl ⟨_, by rw [HG.out]; rfl, by rw [HG.out]; exact zero_at _ _, hb⟩
    · have e3 : n < 0 := by omega
      have HG : Hid (selVar sol (.node k s n ts) = none) := Lib.hid (by simp [selVar, Ty.num, h3])
      clear h1
      go_upto_region 1 with (fail)
      apply wp_region_lit
      (with_reducible refine wl_k ?_ ?_); exact rfl; intro K hK; go_simp; refine hK _ ?_; clear hK K
      (first | ((with_reducible apply wl_oneG); exact rfl; exact rfl; first | exact f0 (by with_reducible assumption) | exact f1 (by with_reducible assumption) | exact f2 (by with_reducible assumption) | exact f3 (by with_reducible assumption) | with_reducible assumption | exact g22 (by with_reducible assumption) | exact g25 (by with_reducible assumption)) | ((with_reducible apply wl_rowG); exact rfl; exact rfl; first | with_reducible assumption | exact RowK.now (by with_reducible assumption) | exact f4 (by with_reducible assumption)))
      (with_reducible refine wl_k ?_ ?_); exact rfl; intro K hK; go_simp; refine hK _ ?_; clear hK K
      (with_reducible refine wl_k ?_ ?_); exact rfl; intro K hK; go_simp; refine hK _ ?_; clear hK K
      (with_reducible refine wl_k ?_ ?_); exact rfl; intro K hK; go_simp; refine hK _ ?_; clear hK K
      (first | ((with_reducible apply wl_oneG); exact rfl; exact rfl; first | exact f0 (by with_reducible assumption) | exact f1 (by with_reducible assumption) | exact f2 (by with_reducible assumption) | exact f3 (by with_reducible assumption) | with_reducible assumption | exact g22 (by with_reducible assumption) | exact g25 (by with_reducible assumption)) | ((with_reducible apply wl_rowG); exact rfl; exact rfl; first | with_reducible assumption | exact RowK.now (by with_reducible assumption) | exact f4 (by with_reducible assumption)))
      (with_reducible refine wl_k ?_ ?_); exact rfl; intro K hK; go_simp; refine hK _ ?_; clear hK K
      (with_reducible refine wl_k ?_ ?_); exact rfl; intro K hK; go_simp; refine hK _ ?_; clear hK K
      (with_reducible refine wl_k ?_ ?_); exact rfl; intro K hK; go_simp; refine hK _ ?_; clear hK K
      (first | ((with_reducible refine wl_skipU ?_ ?_ ?_); exact rfl; exact rfl) | ((with_reducible refine wl_skip ?_ ?_); exact rfl; simp only [put_lit, List.set_cons_zero, List.set_cons_succ]))
      (first | ((with_reducible refine wl_skipU ?_ ?_ ?_); exact rfl; exact rfl) | ((with_reducible refine wl_skip ?_ ?_); exact rfl; simp only [put_lit, List.set_cons_zero, List.set_cons_succ]))
      (first | ((with_reducible refine wl_skipU ?_ ?_ ?_); exact rfl; exact rfl) | ((with_reducible refine wl_skip ?_ ?_); exact rfl; simp only [put_lit, List.set_cons_zero, List.set_cons_succ]))
      (first | ((with_reducible refine wl_skipU ?_ ?_ ?_); exact rfl; exact rfl) | ((with_reducible refine wl_skip ?_ ?_); exact rfl; simp only [put_lit, List.set_cons_zero, List.set_cons_succ]))
      (first | ((with_reducible refine wl_skipU ?_ ?_ ?_); exact rfl; exact rfl) | ((with_reducible refine wl_skip ?_ ?_); exact rfl; simp only [put_lit, List.set_cons_zero, List.set_cons_succ]))
      (with_reducible refine wl_k ?_ ?_); exact rfl; intro K hK; go_simp; refine hK _ ?_; clear hK K
      (with_reducible refine wl_k ?_ ?_); exact rfl; intro K hK; go_simp; refine hK _ ?_; clear hK K
      (first | ((with_reducible refine wl_skipU ?_ ?_ ?_); exact rfl; exact rfl) | ((with_reducible refine wl_skip ?_ ?_); exact rfl; simp only [put_lit, List.set_cons_zero, List.set_cons_succ]))
      (first | ((with_reducible refine wl_skipU ?_ ?_ ?_); exact rfl; exact rfl) | ((with_reducible refine wl_skip ?_ ?_); exact rfl; simp only [put_lit, List.set_cons_zero, List.set_cons_succ]))
      (first | ((with_reducible refine wl_skipU ?_ ?_ ?_); exact rfl; exact rfl) | ((with_reducible refine wl_skip ?_ ?_); exact rfl; simp only [put_lit, List.set_cons_zero, List.set_cons_succ]))
      (first | ((with_reducible refine wl_skipU ?_ ?_ ?_); exact rfl; exact rfl) | ((with_reducible refine wl_skip ?_ ?_); exact rfl; simp only [put_lit, List.set_cons_zero, List.set_cons_succ]))
      (first | ((with_reducible refine wl_skipU ?_ ?_ ?_); exact rfl; exact rfl) | ((with_reducible refine wl_skip ?_ ?_); exact rfl; simp only [put_lit, List.set_cons_zero, List.set_cons_succ]))
      (first | ((with_reducible refine wl_skipU ?_ ?_ ?_); exact rfl; exact rfl) | ((with_reducible refine wl_skip ?_ ?_); exact rfl; simp only [put_lit, List.set_cons_zero, List.set_cons_succ]))
      (first | ((with_reducible refine wl_skipU ?_ ?_ ?_); exact rfl; exact rfl) | ((with_reducible refine wl_skip ?_ ?_); exact rfl; simp only [put_lit, List.set_cons_zero, List.set_cons_succ]))
      (with_reducible refine wl_k ?_ ?_); exact rfl; intro K hK; go_simp; refine hK _ ?_; clear hK K
      go_upto_region 2 with (fail)
      apply wp_region_lit
      refine wl_val rfl (ex_build 24 _ rfl (L := []) rfl built24) ?_
      simp only [put_lit, List.set_cons_zero, List.set_cons_succ]
      (with_reducible refine wl_put rfl rfl hr ?_); rw [put_noneA]; intro W3 hbx hsz hkx hnx; replace hb := hbx _ _ (by omega) hb; clear hr; have hr := hnx; clear hnx
      clear hbx hkx hsz
      (with_reducible refine wl_k ?_ ?_); exact rfl; intro K hK; go_simp; refine hK _ ?_; clear hK K
      have HQ := Lib.hid hr
      clear hp hr
      go_wp2_with fail
      exact bodyPost_ret (res24t rfl _ _ r rfl rfl HQ.out) rfl ⟨_, by rw [HG.out]; rfl, by rw [HG.out]; exact zero_at _ _, hb⟩
  · have e1 : (k != 12) = true := by simp [h1]
    have HG : Hid (selVar sol (.node k s n ts) = none) := Lib.hid (by simp [selVar, Ty.kind, h1])
    clear h1
    go_upto_region 1 with (fail)
    apply wp_region_lit
    (with_reducible refine wl_k ?_ ?_); exact rfl; intro K hK; go_simp; refine hK _ ?_; clear hK K
    (first | ((with_reducible apply wl_oneG); exact rfl; exact rfl; first | exact f0 (by with_reducible assumption) | exact f1 (by with_reducible assumption) | exact f2 (by with_reducible assumption) | exact f3 (by with_reducible assumption) | with_reducible assumption | exact g22 (by with_reducible assumption) | exact g25 (by with_reducible assumption)) | ((with_reducible apply wl_rowG); exact rfl; exact rfl; first | with_reducible assumption | exact RowK.now (by with_reducible assumption) | exact f4 (by with_reducible assumption)))
    (with_reducible refine wl_k ?_ ?_); exact rfl; intro K hK; go_simp; refine hK _ ?_; clear hK K
    (with_reducible refine wl_k ?_ ?_); exact rfl; intro K hK; go_simp; refine hK _ ?_; clear hK K
    (first | ((with_reducible refine wl_skipU ?_ ?_ ?_); exact rfl; exact rfl) | ((with_reducible refine wl_skip ?_ ?_); exact rfl; simp only [put_lit, List.set_cons_zero, List.set_cons_succ]))
    (first | ((with_reducible refine wl_skipU ?_ ?_ ?_); exact rfl; exact rfl) | ((with_reducible refine wl_skip ?_ ?_); exact rfl; simp only [put_lit, List.set_cons_zero, List.set_cons_succ]))
    (first | ((with_reducible refine wl_skipU ?_ ?_ ?_); exact rfl; exact rfl) | ((with_reducible refine wl_skip ?_ ?_); exact rfl; simp only [put_lit, List.set_cons_zero, List.set_cons_succ]))
    (with_reducible refine wl_k ?_ ?_); exact rfl; intro K hK; go_simp; refine hK _ ?_; clear hK K
    (with_reducible refine wl_k ?_ ?_); exact rfl; intro K hK; go_simp; refine hK _ ?_; clear hK K
    (first | ((with_reducible refine wl_skipU ?_ ?_ ?_); exact rfl; exact rfl) | ((with_reducible refine wl_skip ?_ ?_); exact rfl; simp only [put_lit, List.set_cons_zero, List.set_cons_succ]))
    (first | ((with_reducible refine wl_skipU ?_ ?_ ?_); exact rfl; exact rfl) | ((with_reducible refine wl_skip ?_ ?_); exact rfl; simp only [put_lit, List.set_cons_zero, List.set_cons_succ]))
    (first | ((with_reducible refine wl_skipU ?_ ?_ ?_); exact rfl; exact rfl) | ((with_reducible refine wl_skip ?_ ?_); exact rfl; simp only [put_lit, List.set_cons_zero, List.set_cons_succ]))
    (first | ((with_reducible refine wl_skipU ?_ ?_ ?_); exact rfl; exact rfl) | ((with_reducible refine wl_skip ?_ ?_); exact rfl; simp only [put_lit, List.set_cons_zero, List.set_cons_succ]))
    (first | ((with_reducible refine wl_skipU ?_ ?_ ?_); exact rfl; exact rfl) | ((with_reducible refine wl_skip ?_ ?_); exact rfl; simp only [put_lit, List.set_cons_zero, List.set_cons_succ]))
    (with_reducible refine wl_k ?_ ?_); exact rfl; intro K hK; go_simp; refine hK _ ?_; clear hK K
    (with_reducible refine wl_k ?_ ?_); exact rfl; intro K hK; go_simp; refine hK _ ?_; clear hK K
    (first | ((with_reducible refine wl_skipU ?_ ?_ ?_); exact rfl; exact rfl) | ((with_reducible refine wl_skip ?_ ?_); exact rfl; simp only [put_lit, List.set_cons_zero, List.set_cons_succ]))
    (first | ((with_reducible refine wl_skipU ?_ ?_ ?_); exact rfl; exact rfl) | ((with_reducible refine wl_skip ?_ ?_); exact rfl; simp only [put_lit, List.set_cons_zero, List.set_cons_succ]))
    (first | ((with_reducible refine wl_skipU ?_ ?_ ?_); exact rfl; exact rfl) | ((with_reducible refine wl_skip ?_ ?_); exact rfl; simp only [put_lit, List.set_cons_zero, List.set_cons_succ]))
    (first | ((with_reducible refine wl_skipU ?_ ?_ ?_); exact rfl; exact rfl) | ((with_reducible refine wl_skip ?_ ?_); exact rfl; simp only [put_lit, List.set_cons_zero, List.set_cons_succ]))
    (first | ((with_reducible refine wl_skipU ?_ ?_ ?_); exact rfl; exact rfl) | ((with_reducible refine wl_skip ?_ ?_); exact rfl; simp only [put_lit, List.set_cons_zero, List.set_cons_succ]))
    (first | ((with_reducible refine wl_skipU ?_ ?_ ?_); exact rfl; exact rfl) | ((with_reducible refine wl_skip ?_ ?_); exact rfl; simp only [put_lit, List.set_cons_zero, List.set_cons_succ]))
    (first | ((with_reducible refine wl_skipU ?_ ?_ ?_); exact rfl; exact rfl) | ((with_reducible refine wl_skip ?_ ?_); exact rfl; simp only [put_lit, List.set_cons_zero, List.set_cons_succ]))
    (with_reducible refine wl_k ?_ ?_); exact rfl; intro K hK; go_simp; refine hK _ ?_; clear hK K
    go_upto_region 2 with (fail)
    apply wp_region_lit
    refine wl_val rfl (ex_build 24 _ rfl (L := []) rfl built24) ?_
    simp only [put_lit, List.set_cons_zero, List.set_cons_succ]
    (with_reducible refine wl_put rfl rfl hr ?_); rw [put_noneA]; intro W3 hbx hsz hkx hnx; replace hb := hbx _ _ (by omega) hb; clear hr; have hr := hnx; clear hnx
    clear hbx hkx hsz
    (with_reducible refine wl_k ?_ ?_); exact rfl; intro K hK; go_simp; refine hK _ ?_; clear hK K
    have HQ := Lib.hid hr
    clear hp hr
    go_wp2_with fail
    exact bodyPost_ret (res24t rfl _ _ r rfl rfl HQ.out) rfl ⟨_, by rw [HG.out]; rfl, by rw [HG.out]; exact zero_at _ _, hb⟩
end Go.Proofs.YtokmaehefenpmaaDoor
