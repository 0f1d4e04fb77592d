/- Equations in memory: a slice of pairs of trees. The law's pairs. The two rows of a match as makeSlice leaves them. Names of types: the document's TypeName. The program's Apply and Func. -/
import Derived.Test.YtokmaehefenpmaaDoorPE7
import Derived.Test.YtokmaehefenpmaaDoorPE1
import Derived.Deep.DeepCutAuto
import Derived.Test.YtokmaehefenpmaaDoorPE2
namespace Go.Proofs.YtokmaehefenpmaaDoor
open Go.RowKit Go.ChangeMaps Go.Proofs.YtokmaehefenpmaaDoor.Nm
set_option linter.unusedSimpArgs false
abbrev cell8 (k : Int) (s : ByteArray) (n : Int) (A : Option Addr) (l c : Nat) (k' : Int) (s' : ByteArray) (n' : Int) (A' : Option Addr) (l' c' : Nat) : Array Value := #[.int .i64 k, .string s, .int .i64 n, .slice A l c, .int .i64 k', .string s', .int .i64 n', .slice A' l' c']
theorem u53 : Tryd.prog.underlying 53 = some (.slice 58) := by kernel_rfl
theorem u58 : Tryd.prog.underlying 58 = some (.array 2 24) := by kernel_rfl
theorem info58 : (Tryd.prog.info? 58).map (·.size) = some 8 := by kernel_rfl
theorem cell8_one (k : Int) (s : ByteArray) (n : Int) (A : Option Addr) (l c : Nat) (k' : Int) (s' : ByteArray) (n' : Int) (A' : Option Addr) (l' c' : Nat) : (cell8 k s n A l c k' s' n' A' l' c').all (·.oneCell') = true  := by simp [cell8, Value.oneCell']
/-- A row of pairs. -/
structure EqsAt (w : World) (D : Nat → Prop) (es : Eqs) (A : Option Addr) (l c : Nat) : Prop where
  len : es.length = l
  cap : l ≤ c
  max : c ≤ maxLen
  el : ∀ i a b, es[i]? = some (a, b) → ∃ bl off Cs t fr rowa rowb, A = some ⟨bl, off, none⟩ ∧ D bl ∧ w.heap[bl]? = some (.cells Cs t fr) ∧ Cs.extract (off + i * 8) (off + i * 8 + 4) = rowa ∧ Cs.extract (off + i * 8 + 4) (off + i * 8 + 8) = rowb ∧ TyAt w D a rowa ∧ TyAt w D b rowb
theorem EqsAt.mono {w w' : World} {D D' : Nat → Prop} {es : Eqs} {A : Option Addr} {l c : Nat} (h : EqsAt w D es A l c) (hD : ∀ b, D b → D' b) (hw : ∀ b, D b → b < w.heap.size → w'.heap[b]? = w.heap[b]?) : EqsAt w' D' es A l c :=
  ⟨h.len, h.cap, h.max, fun i a b hi => by
    obtain ⟨bl, off, Cs, t, fr, rowa, rowb, h1, h2, h3, h4, h5, h6, h7⟩ := h.el i a b hi
    exact ⟨bl, off, Cs, t, fr, rowa, rowb, h1, hD _ h2, by rw [hw _ h2 (heap_lt h3), h3], h4, h5, (h6.low.mono (fun _ h => h) (fun b h => hw b h.1 h.2)).weak fun _ h => hD _ h.1, (h7.low.mono (fun _ h => h) (fun b h => hw b h.1 h.2)).weak fun _ h => hD _ h.1⟩⟩
theorem EqsAt.keep {C : Nat → Prop} {w w' : World} {D : Nat → Prop} {es : Eqs} {A : Option Addr} {l c : Nat} (h : EqsAt w D es A l c) (hk : Keep C w w') (hD : ∀ b, D b → ¬ C b) : EqsAt w' D es A l c := h.mono (fun _ h => h) fun b hb hlt => hk.block b hlt (hD b hb)
theorem EqsAt.old {w w' : World} {D : Nat → Prop} {es : Eqs} {A : Option Addr} {l c : Nat} (h : EqsAt w D es A l c) (hb : Below w.heap.size w w') : EqsAt w' D es A l c := h.mono (fun _ h => h) fun b _ hlt => hb.block b hlt
theorem EqsAt.low {w : World} {D : Nat → Prop} {es : Eqs} {A : Option Addr} {l c : Nat} (h : EqsAt w D es A l c) : EqsAt w (fun b => D b ∧ b < w.heap.size) es A l c :=
  ⟨h.len, h.cap, h.max, fun i a b hi => by
    obtain ⟨bl, off, Cs, t, fr, rowa, rowb, h1, h2, h3, h4, h5, h6, h7⟩ := h.el i a b hi
    exact ⟨bl, off, Cs, t, fr, rowa, rowb, h1, ⟨h2, heap_lt h3⟩, h3, h4, h5, h6.low, h7.low⟩⟩
theorem EqsAt.ex {w : World} {D : Nat → Prop} {es : Eqs} {A : Option Addr} {l c : Nat} (h : EqsAt w D es A l c) {j : Nat} (hj : j < l) : ∃ a b, es[j]? = some (a, b) := by
  have hl : j < es.length := by rw [h.len]; exact hj
  exact ⟨es[j].1, es[j].2, List.getElem?_eq_getElem hl⟩
theorem row4 {row : Array Value} {w : World} {D : Nat → Prop} {t : Ty} (h : TyAt w D t row) : ∃ k s n A l c, row = cell4 k s n A l c := by
  obtain ⟨k, s, n, A, l, c, ts, -, h2, -⟩ := h.parts
  exact ⟨k, s, n, A, l, c, h2⟩
/-- One pair, loaded whole and side by side, while blocks of no concern change. -/
theorem EqsAt.get {w : World} {D : Nat → Prop} {es : Eqs} {A : Option Addr} {l c : Nat} (h : EqsAt w D es A l c) {i : Nat} {a b : Ty} (hi : es[i]? = some (a, b)) {C : Nat → Prop} (hD : ∀ b, D b → ¬ C b) : ∃ bl off k s n A1 l1 c1 k' s' n' A2 l2 c2, A = some ⟨bl, off, none⟩ ∧
    (∀ w', Keep C w w' → RowAt w' 58 ⟨bl, off + i * 8, none⟩ (cell8 k s n A1 l1 c1 k' s' n' A2 l2 c2)) ∧ (∀ w', Keep C w w' → RowAt w' 24 ⟨bl, off + i * 8, none⟩ (cell4 k s n A1 l1 c1)) ∧ (∀ w', Keep C w w' → RowAt w' 24 ⟨bl, off + i * 8 + 4, none⟩ (cell4 k' s' n' A2 l2 c2)) ∧
    TyAt w D a (cell4 k s n A1 l1 c1) ∧ TyAt w D b (cell4 k' s' n' A2 l2 c2) := by
  obtain ⟨bl, off, Cs, t, fr, rowa, rowb, h1, h2, h3, h4, h5, h6, h7⟩ := h.el i a b hi
  obtain ⟨k, s, n, A1, l1, c1, rfl⟩ := row4 h6
  obtain ⟨k', s', n', A2, l2, c2, rfl⟩ := row4 h7
  have h8 : Cs.extract (off + i * 8) (off + i * 8 + 8) = cell8 k s n A1 l1 c1 k' s' n' A2 l2 c2 := by
    have : Cs.extract (off + i * 8) (off + i * 8 + 4) ++ Cs.extract (off + i * 8 + 4) (off + i * 8 + 8) = Cs.extract (off + i * 8) (off + i * 8 + 8) := by
      rw [Array.extract_append_extract]
      congr 1 <;> omega
    rw [← this, h4, h5]
    rfl
  exact ⟨bl, off, k, s, n, A1, l1, c1, k', s', n', A2, l2, c2, h1, fun w' hk => row_mid (n := 8) (hk.look h3 (hD _ h2)) h8 u58 rfl rfl info58, fun w' hk => row_mid (n := 4) (hk.look h3 (hD _ h2)) h4 u24 rfl rfl info24, fun w' hk => row_mid (n := 4) (hk.look h3 (hD _ h2)) h5 u24 rfl rfl info24, h6, h7⟩
section
variable {w : World} {p : Nat} {k : Int} {s : ByteArray} {n : Int} {A : Option Addr} {l c : Nat} {k' : Int} {s' : ByteArray} {n' : Int} {A' : Option Addr} {l' c' : Nat} {t : TypeId} {fr : Nat × Nat}
theorem p8 (h : w.heap[p]? = some (.cells (cell8 k s n A l c k' s' n' A' l' c') t fr)) : RowAt w 58 ⟨p, 0, none⟩ (cell8 k s n A l c k' s' n' A' l' c') := row_mid (n := 8) h (by rfl) u58 rfl rfl info58
theorem p80 (h : w.heap[p]? = some (.cells (cell8 k s n A l c k' s' n' A' l' c') t fr)) : RowAt w 24 ⟨p, 0, none⟩ (cell4 k s n A l c) := row_mid (n := 4) h (by rfl) u24 rfl rfl info24
theorem p84 (h : w.heap[p]? = some (.cells (cell8 k s n A l c k' s' n' A' l' c') t fr)) : RowAt w 24 ⟨p, 4, none⟩ (cell4 k' s' n' A' l' c') := row_mid (n := 4) h (by rfl) u24 rfl rfl info24
end
theorem run_ix0 (k : Int) (s : ByteArray) (n : Int) (A : Option Addr) (l c : Nat) (k' : Int) (s' : ByteArray) (n' : Int) (A' : Option Addr) (l' c' : Nat) (w : World) : (Instr.index 58 (.agg (cell8 k s n A l c k' s' n' A' l' c')) (.int .i64 0)).run Tryd.prog w = .ok (.agg (cell4 k s n A l c)) w := by kernel_rfl
theorem run_ix1 (k : Int) (s : ByteArray) (n : Int) (A : Option Addr) (l c : Nat) (k' : Int) (s' : ByteArray) (n' : Int) (A' : Option Addr) (l' c' : Nat) (w : World) : (Instr.index 58 (.agg (cell8 k s n A l c k' s' n' A' l' c')) (.int .i64 1)).run Tryd.prog w = .ok (.agg (cell4 k' s' n' A' l' c')) w := by kernel_rfl
theorem ex_alloc58 {o : Oper} (ho : o.op = .alloc 58) (ev : Operand → Value) (w : World) : (execOp ev o).run Tryd.prog w = .ok (.value (.pointer (some ⟨w.heap.size, 0, none⟩))) (w.alloc (.cells (cell8 0 ⟨#[]⟩ 0 none 0 0 0 ⟨#[]⟩ 0 none 0 0) 58)) := by
  unfold execOp
  simp only [ho]
  kernel_rfl
section
variable {ops : Array Oper} {rest : List Oper} {dst : Option Tmp} {ty ty' : TypeId} {x y : Operand} {pos : String} {after : Array Edge} {a : Act} {w : World} {Q : Exit → Act → World → Prop}
theorem wl_all58 (h : ∀ W p, Below w.heap.size w W → w.heap.size ≤ p → W.heap[p]? = some (.cells (cell8 0 ⟨#[]⟩ 0 none 0 0 0 ⟨#[]⟩ 0 none 0 0) 58 (0, 0)) → wpList Tryd.prog ops Q rest (a.put dst (.pointer (some ⟨p, 0, none⟩))) W) :
    wpList Tryd.prog ops Q (⟨dst, .alloc 58, ty', pos, after, none⟩ :: rest) a w :=
  wl_w rfl (ex_alloc58 rfl _ w) (h _ _ ((Below.refl _ w).alloc (Nat.le_refl _) _) (Nat.le_refl _) (ha_new rfl))
theorem wl_put58 {k : Int} {s : ByteArray} {n : Int} {A : Option Addr} {l c : Nat} {k' : Int} {s' : ByteArray} {n' : Int} {A' : Option Addr} {l' c' : Nat} {p : Nat} {old : Array Value} (hx : a.eval x = .pointer (some ⟨p, 0, none⟩)) (hy : a.eval y = .agg (cell8 k s n A l c k' s' n' A' l' c')) (hp : w.heap[p]? = some (.cells old 58 (0, 0))) (ho : old.size = 8)
    (h : ∀ W, (∀ B w0, B ≤ p → Below B w0 w → Below B w0 W) → W.heap.size = w.heap.size → (∀ g, g ≠ p → W.heap[g]? = w.heap[g]?) → W.heap[p]? = some (.cells (cell8 k s n A l c k' s' n' A' l' c') 58 (0, 0)) → wpList Tryd.prog ops Q rest (a.put none undef) W) :
    wpList Tryd.prog ops Q (⟨none, .store 58 x y, ty', pos, after, none⟩ :: rest) a w := by
  refine wpList_plain rfl fun _ hK => wp_store_row 58 x y rfl p (cell8 k s n A l c k' s' n' A' l' c') hx hy 58 _ hp info58 ho (cell8_one _ _ _ _ _ _ _ _ _ _ _ _) (hK _ _ ?_)
  exact h _ (fun B w0 hB hb => below_setRow hb hB _) (by simp) (fun g hg => setRow_other w p g _ hg) (hr_new hp)
theorem wl_ix58 {k : Int} {s : ByteArray} {n : Int} {A : Option Addr} {l c : Nat} {k' : Int} {s' : ByteArray} {n' : Int} {A' : Option Addr} {l' c' : Nat} {j : Nat} {row : Array Value} (hx : a.eval x = .agg (cell8 k s n A l c k' s' n' A' l' c')) (hy : a.eval y = .int .i64 (j : Int)) (hj : (j = 0 ∧ row = cell4 k s n A l c) ∨ (j = 1 ∧ row = cell4 k' s' n' A' l' c'))
    (h : wpList Tryd.prog ops Q rest (a.put dst (.agg row)) w) : wpList Tryd.prog ops Q (⟨dst, .index 58 x y, ty', pos, after, none⟩ :: rest) a w := by
  refine wl_w rfl ?_ h
  unfold execOp
  rcases hj with ⟨rfl, rfl⟩ | ⟨rfl, rfl⟩
  · have := run_ix0 k s n A l c k' s' n' A' l' c' w
    simp [hx, hy, this, Result.andThen]
  · have := run_ix1 k s n A l c k' s' n' A' l' c' w
    simp [hx, hy, this, Result.andThen]
end
open Go.RowKit Go.ChangeMaps Go.Proofs.YtokmaehefenpmaaDoor.Nm
set_option linter.unusedSimpArgs false
theorem run_bs2 (k : Int) (s : ByteArray) (n : Int) (A : Option Addr) (l c : Nat) (k' : Int) (s' : ByteArray) (n' : Int) (A' : Option Addr) (l' c' : Nat) (w : World) : (Instr.buildSlice 22 2 #[(0, .agg (cell4 k s n A l c)), (1, .agg (cell4 k' s' n' A' l' c'))]).run Tryd.prog w = .ok (.slice (some ⟨w.heap.size, 0, none⟩) 2 2) (w.alloc (.cells (cell8 k s n A l c k' s' n' A' l' c') 24)) := by kernel_rfl
section
variable {md : Region.Mode} {ops : Array Oper} {Q : Exit → Act → World → Prop} {S : World → Prop} {fuel : Nat} {listed : Array Bool} {a : Act} {w : World} {i : Nat} {oi : Oper}
theorem ha_bs2 (hr : Region.ready md ops listed = [i]) (ho : ops[i]? = some oi) (hg : Region.wanted oi (yielded ops a.tmps) = true) (x y : Operand) (hop : oi.op = .buildSlice 22 2 #[(0, x), (1, y)]) {k : Int} {s : ByteArray} {n : Int} {A : Option Addr} {l c : Nat} {k' : Int} {s' : ByteArray} {n' : Int} {A' : Option Addr} {l' c' : Nat} (hx : a.eval x = .agg (cell4 k s n A l c)) (hy : a.eval y = .agg (cell4 k' s' n' A' l' c')) (hS : ∀ W, Below w.heap.size w W → S W)
    (h : ∀ W p, Below w.heap.size w W → w.heap.size ≤ p → W.heap[p]? = some (.cells (cell8 k s n A l c k' s' n' A' l' c') 24 (0, 0)) → S W → wpAnyH Tryd.prog md ops Q S fuel (listed.setIfInBounds i true) (a.put oi.dst (.slice (some ⟨p, 0, none⟩) 2 2)) W) : wpAnyH Tryd.prog md ops Q S (fuel + 1) listed a w :=
  have hb := (Below.refl _ w).alloc (Nat.le_refl _) (.cells (cell8 k s n A l c k' s' n' A' l' c') 24)
  ha_do hr ho hg (by
    unfold execOp
    have := run_bs2 k s n A l c k' s' n' A' l' c' w
    simp [hop, hx, hy, this, Result.andThen]) (hS _ hb) (h _ _ hb (Nat.le_refl _) (ha_new rfl) (hS _ hb))
end
theorem two_at {w : World} {D : Nat → Prop} {p : Nat} {k : Int} {s : ByteArray} {n : Int} {A : Option Addr} {l c : Nat} {k' : Int} {s' : ByteArray} {n' : Int} {A' : Option Addr} {l' c' : Nat} {t u : Ty} (hp : w.heap[p]? = some (.cells (cell8 k s n A l c k' s' n' A' l' c') 24 (0, 0))) (ht : TyAt w D t (cell4 k s n A l c)) (hu : TyAt w D u (cell4 k' s' n' A' l' c')) : TysAt w Any [t, u] (some ⟨p, 0, none⟩) 2 2 := by
  refine ⟨rfl, Nat.le_refl _, by unfold maxLen; omega, fun i => if i = 0 then cell4 k s n A l c else cell4 k' s' n' A' l' c', fun i x hx => ?_, fun i x hx => ?_⟩
  · refine ⟨p, 0, _, _, _, rfl, trivial, hp, ?_⟩
    rcases i with _ | _ | i
    · rfl
    · rfl
    · simp at hx
  · rcases i with _ | _ | i
    · cases hx; exact ht.weak fun _ _ => trivial
    · cases hx; exact hu.weak fun _ _ => trivial
    · simp at hx
set_option maxHeartbeats 4000000 in
set_option maxRecDepth 100000 in
theorem pairs_any (es : Eqs) (A : Option Addr) (l c : Nat) (w : World) (D : Nat → Prop) (h : EqsAt w D es A l c) :
    Calls Tryd.prog 40 #[.slice A l c] w (Yes w (es.length ≤ 40)) := by
  have HT := Lib.hid h
  have HL := Lib.hid h.len
  have hcm := h.cap
  have hmx := h.max
  unfold maxLen at hmx
  clear h
  have hb := Below.refl w.heap.size w
  go_enter Tryd.func40, Tryd.ntmps40
  go_wp2_with fail
  go_loopw [3] (fun i wr => ∃ j : Nat, j ≤ l ∧ j ≤ 40 ∧ i = .int .i64 (j : Int) ∧ Below w.heap.size w wr) (fun i _ => l - (intOf i).toNat)
  case atStart => exact ⟨0, by omega, by omega, rfl, hb⟩
  case round =>
    clear hb
    obtain ⟨j, hj, hj40, rfl, hb⟩ := hrel
    by_cases hlt : j < l
    · have hltI : (j : Int) < (l : Int) := by omega
      by_cases h40 : j = 40
      · have hj2 : ((j : Int) == 40) = true := beq_iff_eq.2 (by omega)
        go_upto_region 4 with (fail)
        refine wp_region_held_drew (S := Below wr.heap.size wr) mixed ((Below.refl _ _).drew) (fun hS => ?_)
        refine hk3 (i := 0) rfl (by kernel_rfl) Zh hS rfl (fun K hK => ?_); go_simp; refine hK _ ?_; clear hK K; try simp only [Zq]
        refine hk3 (i := 1) rfl (by kernel_rfl) Zh hS rfl (fun K hK => ?_); go_simp; refine hK _ ?_; clear hK K; try simp only [Zq]
        refine hk3 (i := 2) rfl (by kernel_rfl) Zh hS rfl (fun K hK => ?_); go_simp; refine hK _ ?_; clear hK K; try simp only [Zq]
        refine hs3 (i := 3) rfl (by kernel_rfl) Zg hS rfl ?_; simp only [Zy]
        refine hs3 (i := 4) rfl (by kernel_rfl) Zg hS rfl ?_; simp only [Zy]
        refine hs3 (i := 5) rfl (by kernel_rfl) Zg hS rfl ?_; simp only [Zy]
        refine hs3 (i := 6) rfl (by kernel_rfl) Zg hS rfl ?_; simp only [Zy]
        refine hs3 (i := 7) rfl (by kernel_rfl) Zg hS rfl ?_; simp only [Zy]
        refine hs3 (i := 8) rfl (by kernel_rfl) Zg hS rfl ?_; simp only [Zy]
        refine hs3 (i := 9) rfl (by kernel_rfl) Zg hS rfl ?_; simp only [Zy]
        refine hs3 (i := 10) rfl (by kernel_rfl) Zg hS rfl ?_; simp only [Zy]
        refine hs3 (i := 11) rfl (by kernel_rfl) Zg hS rfl ?_; simp only [Zy]
        refine hs3 (i := 12) rfl (by kernel_rfl) Zg hS rfl ?_; simp only [Zy]
        refine hs3 (i := 13) rfl (by kernel_rfl) Zg hS rfl ?_; simp only [Zy]
        refine hs3 (i := 14) rfl (by kernel_rfl) Zg hS rfl ?_; simp only [Zy]
        refine hs3 (i := 15) rfl (by kernel_rfl) Zg hS rfl ?_; simp only [Zy]
        refine hk3 (i := 16) rfl (by kernel_rfl) Zh hS rfl (fun K hK => ?_); go_simp; refine hK _ ?_; clear hK K; try simp only [Zq]
        refine wpAnyH_done (by kernel_rfl) ?_ _
        replace hb := hb.trans (hS.mono hb.size)
        clear hS
        go_wp2_with fail
        go_ret
        exact ⟨⟨false, rfl, fun h => by cases h⟩, hb⟩
      · have hj2 : ((j : Int) == 40) = false := beq_eq_false_iff_ne.2 (by omega)
        obtain ⟨t, u, hi⟩ := HT.out.ex hlt
        obtain ⟨bl, off, k, s, n, A1, l1, c1, k', s', n', A2, l2, c2, rfl, hr8, hr1, hr2, ht, hu⟩ := (HT.out.old hb).low.get hi (C := fun b => wr.heap.size ≤ b) (fun b h1 h2 => by have := h1.2; omega)
        have HR1 := Lib.hid hr1
        have HR2 := Lib.hid hr2
        have HTT := Lib.hid ht
        have HUU := Lib.hid hu
        clear hi hr8 hr1 hr2 ht hu
        go_upto_region 4 with (fail)
        refine wp_region_held_drew (S := Below wr.heap.size wr) mixed ((Below.refl _ _).drew) (fun hS => ?_)
        refine hk3 (i := 0) rfl (by kernel_rfl) Zh hS rfl (fun K hK => ?_); go_simp; refine hK _ ?_; clear hK K; try simp only [Zq]
        refine hk3 (i := 1) rfl (by kernel_rfl) Zh hS rfl (fun K hK => ?_); go_simp; refine hK _ ?_; clear hK K; try simp only [Zq]
        refine hk3 (i := 2) rfl (by kernel_rfl) Zh hS rfl (fun K hK => ?_); go_simp; refine hK _ ?_; clear hK K; try simp only [Zq]
        refine hk3 (i := 3) rfl (by kernel_rfl) Zh hS rfl (fun K hK => ?_); go_simp; refine hK _ ?_; clear hK K; try simp only [Zq]
        refine hk3 (i := 4) rfl (by kernel_rfl) Zh hS rfl (fun K hK => ?_); go_simp; refine hK _ ?_; clear hK K; try simp only [Zq]
        refine hk3 (i := 5) rfl (by kernel_rfl) Zh hS rfl (fun K hK => ?_); go_simp; refine hK _ ?_; clear hK K; try simp only [Zq]
        refine hk3 (i := 6) rfl (by kernel_rfl) Zh hS rfl (fun K hK => ?_); go_simp; refine hK _ ?_; clear hK K; try simp only [Zq]
        refine hv3 (i := 7) rfl (by kernel_rfl) Zg hS rfl (fun w' hw' => ex_row rfl (HR1.out w' (Keep.of hw'))) ?_; try simp only [Zy]
        refine hk3 (i := 8) rfl (by kernel_rfl) Zh hS rfl (fun K hK => ?_); go_simp; refine hK _ ?_; clear hK K; try simp only [Zq]
        refine hk3 (i := 9) rfl (by kernel_rfl) Zh hS rfl (fun K hK => ?_); go_simp; refine hK _ ?_; clear hK K; try simp only [Zq]
        refine hk3 (i := 10) rfl (by kernel_rfl) Zh hS rfl (fun K hK => ?_); go_simp; refine hK _ ?_; clear hK K; try simp only [Zq]
        refine hk3 (i := 11) rfl (by kernel_rfl) Zh hS rfl (fun K hK => ?_); go_simp; refine hK _ ?_; clear hK K; try simp only [Zq]
        refine hv3 (i := 12) rfl (by kernel_rfl) Zg hS rfl (fun w' hw' => ex_row rfl (HR2.out w' (Keep.of hw'))) ?_; try simp only [Zy]
        refine ha_bs2 (i := 13) (by kernel_rfl) rfl rfl _ _ rfl rfl rfl (fun W hW => hS.trans (hW.mono hS.size)) ?_
        intro X p hbX hlp hp hS2
        try simp only [Zy]
        have HC := Lib.hid (small_any [t, u] _ 2 2 X Any (two_at hp ((HTT.out.old (Below.refl _ _).drew).old hbX) ((HUU.out.old (Below.refl _ _).drew).old hbX)))
        clear hS hbX hlp hp
        refine ha_call (i := 14) (by kernel_rfl) rfl rfl (fun K hK => ?_); go_simp; refine ⟨_, _, ⟨rfl, rfl⟩, hK _ _ ⟨_, HC.out, ?_⟩⟩; clear hK K; rintro e w9 ⟨⟨b9, rfl, -⟩, hb9⟩
        have hS := hS2.trans (hb9.mono hS2.size)
        refine ⟨_, rfl, hS, ?_⟩
        clear hS2 hb9 HC
        try simp only [Zy]
        refine hk3 (i := 15) rfl (by kernel_rfl) Zh hS rfl (fun K hK => ?_); go_simp; refine hK _ ?_; clear hK K; try simp only [Zq]
        refine hk3 (i := 16) rfl (by kernel_rfl) Zh hS rfl (fun K hK => ?_); go_simp; refine hK _ ?_; clear hK K; try simp only [Zq]
        refine wpAnyH_done (by kernel_rfl) ?_ _
        replace hb := hb.trans (hS.mono hb.size)
        clear hS HR1 HR2 HTT HUU
        cases b9 with
        | false =>
          go_wp2_with fail
          go_ret
          exact ⟨⟨false, rfl, fun h => by cases h⟩, hb⟩
        | true =>
          go_wp2_with fail
          go_roundw
          case rel => exact ⟨j + 1, by omega, by omega, by go_num, hb⟩
          case measure => simp [intOf]; omega
    · have hltI : ¬ (j : Int) < (l : Int) := by omega
      go_wp2_with fail
      go_ret
      exact ⟨⟨true, rfl, fun _ => by rw [HL.out]; omega⟩, hb⟩
open Go.RowKit Go.Proofs.YtokmaehefenpmaaDoor.Nm
theorem zeroTy_at (w : World) (D : Nat → Prop) : TyAt w D ((none : Option Ty).getD zeroTy) (cell4 0 ⟨#[]⟩ 0 none 0 0) := TyAt.of (by rfl) (by rfl) (Nat.zero_le _) (TysAt.nil w D)
theorem run_make22 (w : World) (n : Nat) (hn : n ≤ 60) : (Instr.makeSlice 22 (.int .i64 (n : Int)) (.int .i64 (n : Int))).run Tryd.prog w = .ok (.slice (some ⟨w.heap.size, 0, none⟩) n n) (w.alloc (.cells (madeCells (cell4 0 ⟨#[]⟩ 0 none 0 0) (n * 4)) 24)) := by
  obtain ⟨i0, hi, hz0, hz1, hz2⟩ := info_parts info24b
  have := run_make (P := Tryd.prog) w 22 24 i0 _ u22 hi hz0 .i64 .i64 (n : Int) (n : Int) (by omega) (by omega) (by rw [hz2]; omega) (by omega)
  rw [hz1] at this
  simpa [Value.cells] using this
theorem made4_get {n m : Nat} (h : m < n * 4) : (madeCells (cell4 0 ⟨#[]⟩ 0 none 0 0) (n * 4))[m]? = some ((cell4 0 ⟨#[]⟩ 0 none 0 0)[m % 4]!) := by
  unfold madeCells
  rw [Array.getElem?_map, Array.getElem?_range, if_pos h]
  rfl
theorem made4 {n i : Nat} (hi : i < n) : (madeCells (cell4 0 ⟨#[]⟩ 0 none 0 0) (n * 4)).extract (i * 4) (i * 4 + 4) = cell4 0 ⟨#[]⟩ 0 none 0 0 := by
  apply Array.ext_getElem?
  intro m
  rw [Array.getElem?_extract, size_madeCells]
  by_cases hm : m < 4
  · rw [if_pos (by omega), made4_get (by omega), show (i * 4 + m) % 4 = m by omega]
    match m, hm with
    | 0, _ => rfl
    | 1, _ => rfl
    | 2, _ => rfl
    | 3, _ => rfl
  · rw [if_neg (by omega)]
    exact (Array.getElem?_eq_none (by show (cell4 0 ⟨#[]⟩ 0 none 0 0).size ≤ m; rw [cell4_size]; omega)).symm
theorem made1 {n i : Nat} (hi : i < n) : (madeCells #[.bool false] n)[i]? = some (.bool false) := by
  unfold madeCells
  rw [Array.getElem?_map, Array.getElem?_range, if_pos hi]
  simp [Nat.mod_one]
/-- Nothing is known yet. -/
theorem MSt.made {w : World} {g1 g2 n : Nat} (hne : g1 ≠ g2) (h1 : w.heap[g1]? = some (.cells (madeCells (cell4 0 ⟨#[]⟩ 0 none 0 0) (n * 4)) 24 (0, 0))) (h2 : w.heap[g2]? = some (.cells (madeCells #[.bool false] n) 4 (0, 0))) : MSt w g1 g2 (List.replicate n none) := by
  refine ⟨hne, ⟨_, h1, by rw [size_madeCells, List.length_replicate], fun i o ho => ?_⟩, ⟨_, h2, by rw [size_madeCells, List.length_replicate], fun i o ho => ?_⟩⟩
  · obtain ⟨hl, rfl⟩ : i < n ∧ o = none := by
      rw [List.getElem?_replicate] at ho
      split at ho
      · cases ho; exact ⟨by assumption, rfl⟩
      · cases ho
    exact ⟨_, made4 hl, zeroTy_at _ _⟩
  · obtain ⟨hl, rfl⟩ : i < n ∧ o = none := by
      rw [List.getElem?_replicate] at ho
      split at ho
      · cases ho; exact ⟨by assumption, rfl⟩
      · cases ho
    exact made1 hl
set_option linter.unusedSimpArgs false
def letterB (c : Int) : Bool := decide ((97 ≤ c ∧ c ≤ 122) ∨ (65 ≤ c ∧ c ≤ 90) ∨ c = 95)
def digitB (c : Int) : Bool := decide (48 ≤ c ∧ c ≤ 57)
def capB (c : Int) : Bool := decide (65 ≤ c ∧ c ≤ 90)
set_option maxHeartbeats 2000000 in
set_option maxRecDepth 100000 in
theorem Letter_any (c : Int) (w : World) : Calls Tryd.prog 113 #[.int .u8 c] w fun e w' => e = .returned (.bool (letterB c)) ∧ w = w' := by
  go_enter Tryd.func113, Tryd.ntmps113
  by_cases h5 : c = 95
  · subst h5
    go_wp2_with fail
    go_ret
    exact ⟨rfl, rfl⟩
  have e1 : (c == 95) = false := by simp [h5]
  have HH := Lib.hid h5
  clear h5
  by_cases h1 : c ≥ 97
  · skip
    by_cases h2 : c ≤ 122
    · skip
      go_wp2_with fail
      go_ret
      have := HH.out
      exact ⟨by rw [show letterB c = true from decide_eq_true (by omega)]; rfl, rfl⟩
    · skip
      by_cases h3 : c ≥ 65
      · skip
        by_cases h4 : c ≤ 90
        · skip
          go_wp2_with fail
          go_ret
          have := HH.out
          exact ⟨by rw [show letterB c = true from decide_eq_true (by omega)]; rfl, rfl⟩
        · skip
          go_wp2_with fail
          go_ret
          have := HH.out
          exact ⟨by rw [show letterB c = false from decide_eq_false (by omega)]; first | rfl | (rw [← e1]; rfl), rfl⟩
      · skip
        go_wp2_with fail
        go_ret
        have := HH.out
        exact ⟨by rw [show letterB c = false from decide_eq_false (by omega)]; first | rfl | (rw [← e1]; rfl), rfl⟩
  · skip
    by_cases h3 : c ≥ 65
    · skip
      by_cases h4 : c ≤ 90
      · skip
        go_wp2_with fail
        go_ret
        have := HH.out
        exact ⟨by rw [show letterB c = true from decide_eq_true (by omega)]; rfl, rfl⟩
      · skip
        go_wp2_with fail
        go_ret
        have := HH.out
        exact ⟨by rw [show letterB c = false from decide_eq_false (by omega)]; first | rfl | (rw [← e1]; rfl), rfl⟩
    · skip
      go_wp2_with fail
      go_ret
      have := HH.out
      exact ⟨by rw [show letterB c = false from decide_eq_false (by omega)]; first | rfl | (rw [← e1]; rfl), rfl⟩
set_option maxHeartbeats 2000000 in
set_option maxRecDepth 100000 in
theorem Digit_any (c : Int) (w : World) : Calls Tryd.prog 114 #[.int .u8 c] w fun e w' => e = .returned (.bool (digitB c)) ∧ w = w' := by
  go_enter Tryd.func114, Tryd.ntmps114
  by_cases h1 : c ≥ 48
  · skip
    by_cases h2 : c ≤ 57
    · skip
      go_wp2_with fail
      go_ret
      exact ⟨by rw [show digitB c = true from decide_eq_true (by omega)]; rfl, rfl⟩
    · skip
      go_wp2_with fail
      go_ret
      exact ⟨by rw [show digitB c = false from decide_eq_false (by omega)]; rfl, rfl⟩
  · skip
    go_wp2_with fail
    go_ret
    exact ⟨by rw [show digitB c = false from decide_eq_false (by omega)]; rfl, rfl⟩
set_option maxHeartbeats 2000000 in
set_option maxRecDepth 100000 in
theorem Capital_any (c : Int) (w : World) : Calls Tryd.prog 134 #[.int .u8 c] w fun e w' => e = .returned (.bool (capB c)) ∧ w = w' := by
  go_enter Tryd.func134, Tryd.ntmps134
  by_cases h1 : c ≥ 65
  · skip
    by_cases h2 : c ≤ 90
    · skip
      go_wp2_with fail
      go_ret
      exact ⟨by rw [show capB c = true from decide_eq_true (by omega)]; rfl, rfl⟩
    · skip
      go_wp2_with fail
      go_ret
      exact ⟨by rw [show capB c = false from decide_eq_false (by omega)]; rfl, rfl⟩
  · skip
    go_wp2_with fail
    go_ret
    exact ⟨by rw [show capB c = false from decide_eq_false (by omega)]; rfl, rfl⟩
/-- What a name of a type is. -/
def tnameB (s : ByteArray) : Bool := decide (s.size ≤ 24) && match s.data.toList with
  | [] => false
  | a :: l => capB (a.toNat : Int) && (a :: l).all fun c => letterB (c.toNat : Int) || digitB (c.toNat : Int)
theorem tname_empty {s : ByteArray} (h : s.toList.isEmpty = true) : tnameB s = false := by
  unfold tnameB
  rw [show s.data.toList = [] by rw [← ByteArray.toList_eq]; simpa using h]
  simp
theorem bytes_get {s : ByteArray} {j : Nat} (h : j < s.size) : s.data.toList[j]? = some s[j] := by
  rw [List.getElem?_eq_getElem (by simpa using h)]; rfl
theorem bytes_size (s : ByteArray) : s.data.toList.length = s.size := rfl
theorem tname_cons {s : ByteArray} (h : 0 < s.size) : tnameB s = (decide (s.size ≤ 24) && (capB (s[0].toNat : Int) && s.data.toList.all fun c => letterB (c.toNat : Int) || digitB (c.toNat : Int))) := by
  have h0 := bytes_get h
  unfold tnameB
  cases hl : s.data.toList with
  | nil => rw [hl] at h0; simp at h0
  | cons a l => rw [hl] at h0; simp at h0; subst h0; rfl
set_option maxHeartbeats 2000000 in
set_option maxRecDepth 100000 in
theorem TypeName_any (s : ByteArray) (hs : s.size ≤ maxLen) (w : World) : Calls Tryd.prog 115 #[.string s] w fun e w' => e = .returned (.bool (tnameB s)) ∧ w = w' := by
  unfold maxLen at hs
  go_enter Tryd.func115, Tryd.ntmps115
  go_upto_region 1 with (fail)
  apply wp_region_lit
  cases he : s.toList.isEmpty with
  | true =>
    have HT := Lib.hid (tname_empty he)
    (with_reducible refine wl_k ?_ ?_); exact rfl; intro K hK; go_simp; refine hK _ ?_; clear hK K
    (with_reducible refine wl_k ?_ ?_); exact rfl; intro K hK; go_simp; refine hK _ ?_; clear hK K
    (with_reducible refine wl_k ?_ ?_); exact rfl; intro K hK; go_simp; refine hK _ ?_; clear hK K
    (first | ((with_reducible refine wl_skipU ?_ ?_ ?_); exact rfl; exact rfl) | ((with_reducible refine wl_skip ?_ ?_); exact rfl; simp only [Zq]))
    (first | ((with_reducible refine wl_skipU ?_ ?_ ?_); exact rfl; exact rfl) | ((with_reducible refine wl_skip ?_ ?_); exact rfl; simp only [Zq]))
    (first | ((with_reducible refine wl_skipU ?_ ?_ ?_); exact rfl; exact rfl) | ((with_reducible refine wl_skip ?_ ?_); exact rfl; simp only [Zq]))
    (with_reducible refine wl_k ?_ ?_); exact rfl; intro K hK; go_simp; refine hK _ ?_; clear hK K
    (with_reducible refine wl_k ?_ ?_); exact rfl; intro K hK; go_simp; refine hK _ ?_; clear hK K
    (first | ((with_reducible refine wl_skipU ?_ ?_ ?_); exact rfl; exact rfl) | ((with_reducible refine wl_skip ?_ ?_); exact rfl; simp only [Zq]))
    (first | ((with_reducible refine wl_skipU ?_ ?_ ?_); exact rfl; exact rfl) | ((with_reducible refine wl_skip ?_ ?_); exact rfl; simp only [Zq]))
    (first | ((with_reducible refine wl_skipU ?_ ?_ ?_); exact rfl; exact rfl) | ((with_reducible refine wl_skip ?_ ?_); exact rfl; simp only [Zq]))
    (first | ((with_reducible refine wl_skipU ?_ ?_ ?_); exact rfl; exact rfl) | ((with_reducible refine wl_skip ?_ ?_); exact rfl; simp only [Zq]))
    (with_reducible refine wl_k ?_ ?_); exact rfl; intro K hK; go_simp; refine hK _ ?_; clear hK K
    go_wp2_with fail
    go_ret
    exact ⟨by rw [HT.out]; rfl, rfl⟩
  | false =>
    have hix : 0 < s.size := by
      rcases Nat.eq_zero_or_pos s.size with h | h
      · have : s.toList = [] := by rw [ByteArray.toList_eq]; exact List.eq_nil_of_length_eq_zero h
        rw [this] at he; cases he
      · exact h
    have HTC := Lib.hid (tname_cons hix)
    by_cases h24 : (s.size : Int) > 24
    · have HT : Hid (tnameB s = false) := Lib.hid (by rw [HTC.out, decide_eq_false (by omega)]; rfl)
      (with_reducible refine wl_k ?_ ?_); exact rfl; intro K hK; go_simp; refine hK _ ?_; clear hK K
      (with_reducible refine wl_k ?_ ?_); exact rfl; intro K hK; go_simp; refine hK _ ?_; clear hK K
      (with_reducible refine wl_k ?_ ?_); exact rfl; intro K hK; go_simp; refine hK _ ?_; clear hK K
      (with_reducible refine wl_k ?_ ?_); exact rfl; intro K hK; go_simp; refine hK _ ?_; clear hK K
      (with_reducible refine wl_k ?_ ?_); exact rfl; intro K hK; go_simp; refine hK _ ?_; clear hK K
      (with_reducible refine wl_k ?_ ?_); exact rfl; intro K hK; go_simp; refine hK _ ?_; clear hK K
      (with_reducible refine wl_k ?_ ?_); exact rfl; intro K hK; go_simp; refine hK _ ?_; clear hK K
      (with_reducible refine wl_k ?_ ?_); exact rfl; intro K hK; go_simp; refine hK _ ?_; clear hK K
      (first | ((with_reducible refine wl_skipU ?_ ?_ ?_); exact rfl; exact rfl) | ((with_reducible refine wl_skip ?_ ?_); exact rfl; simp only [Zq]))
      (first | ((with_reducible refine wl_skipU ?_ ?_ ?_); exact rfl; exact rfl) | ((with_reducible refine wl_skip ?_ ?_); exact rfl; simp only [Zq]))
      (first | ((with_reducible refine wl_skipU ?_ ?_ ?_); exact rfl; exact rfl) | ((with_reducible refine wl_skip ?_ ?_); exact rfl; simp only [Zq]))
      (first | ((with_reducible refine wl_skipU ?_ ?_ ?_); exact rfl; exact rfl) | ((with_reducible refine wl_skip ?_ ?_); exact rfl; simp only [Zq]))
      (with_reducible refine wl_k ?_ ?_); exact rfl; intro K hK; go_simp; refine hK _ ?_; clear hK K
      go_wp2_with fail
      go_ret
      exact ⟨by rw [HT.out]; rfl, rfl⟩
    · have HC := Lib.hid (Capital_any (s[0].toNat : Int) w)
      obtain ⟨b1, hb1⟩ : ∃ b, b = capB (s[0].toNat : Int) := ⟨_, rfl⟩
      rw [← hb1] at HC
      rw [← hb1, decide_eq_true (by omega)] at HTC
      clear hb1
      (with_reducible refine wl_k ?_ ?_); exact rfl; intro K hK; go_simp; refine hK _ ?_; clear hK K
      (with_reducible refine wl_k ?_ ?_); exact rfl; intro K hK; go_simp; refine hK _ ?_; clear hK K
      (with_reducible refine wl_k ?_ ?_); exact rfl; intro K hK; go_simp; refine hK _ ?_; clear hK K
      (with_reducible refine wl_k ?_ ?_); exact rfl; intro K hK; go_simp; refine hK _ ?_; clear hK K
      (with_reducible refine wl_k ?_ ?_); exact rfl; intro K hK; go_simp; refine hK _ ?_; clear hK K
      (with_reducible refine wl_k ?_ ?_); exact rfl; intro K hK; go_simp; refine hK _ ?_; clear hK K
      (with_reducible refine wl_k ?_ ?_); exact rfl; intro K hK; go_simp; refine hK _ ?_; clear hK K
      (with_reducible refine wl_k ?_ ?_); exact rfl; intro K hK; go_simp; refine hK _ ?_; clear hK K
      (with_reducible refine wl_k ?_ ?_); exact rfl; intro K hK; go_simp; refine hK _ ?_; clear hK K
      (with_reducible refine wl_k ?_ ?_); exact rfl; intro K hK; go_simp; refine hK _ ?_; clear hK K
      (with_reducible refine wl_ck ?_ ?_); exact rfl; intro K hK; go_simp; refine ⟨_, _, ⟨rfl, rfl⟩, hK _ _ ⟨_, HC.out, ?_⟩⟩; clear hK K; rintro e w3 ⟨rfl, rfl⟩; refine ⟨_, rfl, ?_⟩; simp only [Zq]
      clear HC
      cases b1 with
      | false =>
        have HT : Hid (tnameB s = false) := Lib.hid (by rw [HTC.out]; rfl)
        (with_reducible refine wl_k ?_ ?_); exact rfl; intro K hK; go_simp; refine hK _ ?_; clear hK K
        (with_reducible refine wl_k ?_ ?_); exact rfl; intro K hK; go_simp; refine hK _ ?_; clear hK K
        go_wp2_with fail
        go_ret
        exact ⟨by rw [HT.out]; rfl, rfl⟩
      | true =>
        have HT : Hid (tnameB s = s.data.toList.all fun c => letterB (c.toNat : Int) || digitB (c.toNat : Int)) := Lib.hid (by rw [HTC.out]; rfl)
        clear HTC
        (with_reducible refine wl_k ?_ ?_); exact rfl; intro K hK; go_simp; refine hK _ ?_; clear hK K
        (with_reducible refine wl_k ?_ ?_); exact rfl; intro K hK; go_simp; refine hK _ ?_; clear hK K
        go_wp2_with fail
        go_loopw [3] (fun i wr => ∃ j : Nat, j ≤ s.size ∧ i = .int .i64 (j : Int) ∧ Hid (∀ (i : Nat) (c : UInt8), i < j → s.data.toList[i]? = some c → (letterB (c.toNat : Int) || digitB (c.toNat : Int)) = true) ∧ w = wr) (fun i _ => s.size - (intOf i).toNat)
        case atStart => exact ⟨0, by omega, rfl, Lib.hid (fun i c hi => by omega), rfl⟩
        case round =>
          obtain ⟨j, hj, rfl, HR, rfl⟩ := hrel
          by_cases hlt : j < s.size
          · have hltI : (j : Int) < (s.size : Int) := by omega
            have HL := Lib.hid (Letter_any (s[j].toNat : Int) w)
            have HD := Lib.hid (Digit_any (s[j].toNat : Int) w)
            have HS := Lib.hid (bytes_get hlt)
            obtain ⟨b1, hb1⟩ : ∃ b, b = letterB (s[j].toNat : Int) := ⟨_, rfl⟩
            obtain ⟨b2, hb2⟩ : ∃ b, b = digitB (s[j].toNat : Int) := ⟨_, rfl⟩
            rw [← hb1] at HL
            rw [← hb2] at HD
            have H1 := Lib.hid hb1
            have H2 := Lib.hid hb2
            have HR2 : Hid ((b1 || b2) = true → ∀ (i : Nat) (c : UInt8), i < j + 1 → s.data.toList[i]? = some c → (letterB (c.toNat : Int) || digitB (c.toNat : Int)) = true) := Lib.hid fun h i c hi hc => by
              rcases Nat.lt_or_ge i j with h3 | h3
              · exact HR.out i c h3 hc
              · obtain rfl : i = j := by omega
                rw [HS.out] at hc; cases hc; rw [← H1.out, ← H2.out]; exact h
            have HF : Hid ((b1 || b2) = false → tnameB s = false) := Lib.hid fun h => by
              rw [HT.out, List.all_eq_false]
              exact ⟨s[j], List.mem_of_getElem? HS.out, by rw [← H1.out, ← H2.out, h]; simp⟩
            clear hb1 hb2 H1 H2 HS
            go_upto_region 6 with (fail)
            apply wp_region_lit
            (with_reducible refine wl_k ?_ ?_); exact rfl; intro K hK; go_simp; refine hK _ ?_; clear hK K
            (with_reducible refine wl_k ?_ ?_); exact rfl; intro K hK; go_simp; refine hK _ ?_; clear hK K
            (with_reducible refine wl_k ?_ ?_); exact rfl; intro K hK; go_simp; refine hK _ ?_; clear hK K
            (with_reducible refine wl_ck ?_ ?_); exact rfl; intro K hK; go_simp; refine ⟨_, _, ⟨rfl, rfl⟩, hK _ _ ⟨_, HL.out, ?_⟩⟩; clear hK K; rintro e w4 ⟨rfl, rfl⟩; refine ⟨_, rfl, ?_⟩; simp only [Zq]
            cases b1 with
            | true =>
              have HR3 := Lib.hid (HR2.out rfl)
              clear HL HD HR2 HF
              (with_reducible refine wl_k ?_ ?_); exact rfl; intro K hK; go_simp; refine hK _ ?_; clear hK K
              (with_reducible refine wl_k ?_ ?_); exact rfl; intro K hK; go_simp; refine hK _ ?_; clear hK K
              (first | ((with_reducible refine wl_skipU ?_ ?_ ?_); exact rfl; exact rfl) | ((with_reducible refine wl_skip ?_ ?_); exact rfl; simp only [Zq]))
              (first | ((with_reducible refine wl_skipU ?_ ?_ ?_); exact rfl; exact rfl) | ((with_reducible refine wl_skip ?_ ?_); exact rfl; simp only [Zq]))
              (first | ((with_reducible refine wl_skipU ?_ ?_ ?_); exact rfl; exact rfl) | ((with_reducible refine wl_skip ?_ ?_); exact rfl; simp only [Zq]))
              (first | ((with_reducible refine wl_skipU ?_ ?_ ?_); exact rfl; exact rfl) | ((with_reducible refine wl_skip ?_ ?_); exact rfl; simp only [Zq]))
              (first | ((with_reducible refine wl_skipU ?_ ?_ ?_); exact rfl; exact rfl) | ((with_reducible refine wl_skip ?_ ?_); exact rfl; simp only [Zq]))
              (with_reducible refine wl_k ?_ ?_); exact rfl; intro K hK; go_simp; refine hK _ ?_; clear hK K
              go_wp2_with fail
              go_roundw
              case rel => exact ⟨j + 1, by omega, by go_num, HR3, trivial⟩
              case measure => simp [intOf]; omega
            | false =>
              (with_reducible refine wl_k ?_ ?_); exact rfl; intro K hK; go_simp; refine hK _ ?_; clear hK K
              (with_reducible refine wl_k ?_ ?_); exact rfl; intro K hK; go_simp; refine hK _ ?_; clear hK K
              (with_reducible refine wl_k ?_ ?_); exact rfl; intro K hK; go_simp; refine hK _ ?_; clear hK K
              (with_reducible refine wl_k ?_ ?_); exact rfl; intro K hK; go_simp; refine hK _ ?_; clear hK K
              (with_reducible refine wl_k ?_ ?_); exact rfl; intro K hK; go_simp; refine hK _ ?_; clear hK K
              (with_reducible refine wl_ck ?_ ?_); exact rfl; intro K hK; go_simp; refine ⟨_, _, ⟨rfl, rfl⟩, hK _ _ ⟨_, HD.out, ?_⟩⟩; clear hK K; rintro e w4 ⟨rfl, rfl⟩; refine ⟨_, rfl, ?_⟩; simp only [Zq]
              cases b2 with
              | true =>
                have HR3 := Lib.hid (HR2.out rfl)
                clear HL HD HR2 HF
                (with_reducible refine wl_k ?_ ?_); exact rfl; intro K hK; go_simp; refine hK _ ?_; clear hK K
                (with_reducible refine wl_k ?_ ?_); exact rfl; intro K hK; go_simp; refine hK _ ?_; clear hK K
                go_wp2_with fail
                go_roundw
                case rel => exact ⟨j + 1, by omega, by go_num, HR3, trivial⟩
                case measure => simp [intOf]; omega
              | false =>
                have HF2 := Lib.hid (HF.out rfl)
                clear HL HD HR2 HF
                (with_reducible refine wl_k ?_ ?_); exact rfl; intro K hK; go_simp; refine hK _ ?_; clear hK K
                (with_reducible refine wl_k ?_ ?_); exact rfl; intro K hK; go_simp; refine hK _ ?_; clear hK K
                go_wp2_with fail
                go_ret
                exact ⟨by rw [HF2.out]; rfl, rfl⟩
          · have hltI : ¬ (j : Int) < (s.size : Int) := by omega
            have HF : Hid (tnameB s = true) := Lib.hid (by
              rw [HT.out, List.all_eq_true]
              intro c hc
              obtain ⟨i, hi⟩ := List.mem_iff_getElem?.1 hc
              exact HR.out i c (by have := (List.getElem?_eq_some_iff.1 hi).1; rw [bytes_size] at this; omega) hi)
            go_wp2_with fail
            go_ret
            exact ⟨by rw [HF.out]; rfl, rfl⟩
theorem selVar_node (sol : List Ty) (k : Int) (s : ByteArray) (n : Int) (ts : List Ty) : selVar sol (.node k s n ts) = if k = 12 ∧ 0 ≤ n then (sol[n.toNat]?).bind fun u => if u.kind = 0 then none else some u else none := rfl
end Go.Proofs.YtokmaehefenpmaaDoor
