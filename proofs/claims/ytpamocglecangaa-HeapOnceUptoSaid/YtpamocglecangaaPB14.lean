/- Scripts in memory: calls of the heap; the law's big. -/
import Derived.Test.YtpamocglecangaaPB1
namespace Go.Proofs.Ytpamocglecangaa
open Go.RowKit Go.Proofs.Ytpamocglecangaa.Nm
set_option linter.unusedSimpArgs false
structure Cl where
  k : Int
  a : Int
  b : Int
  v : Va
  x : Va
  t : Ty
  l : List Va
def cell26 (k a b : Int) (rv rx tr : Array Value) (A : Option Addr) (l c : Nat) : Array Value := #[.int .i64 k, .int .i64 a, .int .i64 b] ++ rv ++ rx ++ tr ++ #[.slice A l c]
structure ClAt (w : World) (D : Nat → Prop) (q : Cl) (row rv rx tr : Array Value) (A : Option Addr) (l c : Nat) : Prop where
  eq : row = cell26 q.k q.a q.b rv rx tr A l c
  v : VAt w D q.v rv
  x : VAt w D q.x rx
  t : TyAt w D q.t tr
  l : VsAt w D q.l A l c
  wk : (Lit.int .i64 q.k).wf = true
  wa : (Lit.int .i64 q.a).wf = true
  wb : (Lit.int .i64 q.b).wf = true
/-- A row of calls. -/
structure ClsAt (w : World) (D : Nat → Prop) (qs : List Cl) (A : Option Addr) (n c : Nat) : Prop where
  len : qs.length = n
  cap : n ≤ c
  max : c ≤ maxLen
  el : ∀ i q, qs[i]? = some q → ∃ b off Cs t fr row rv rx tr A' l' c', A = some ⟨b, off, none⟩ ∧ D b ∧ w.heap[b]? = some (.cells Cs t fr) ∧ Cs.extract (off + i * 26) (off + i * 26 + 26) = row ∧ ClAt w D q row rv rx tr A' l' c'
theorem ClAt.mono {w w' : World} {D D' : Nat → Prop} {q : Cl} {row rv rx tr : Array Value} {A : Option Addr} {l c : Nat} (h : ClAt w D q row rv rx tr A l c) (hD : ∀ b, D b → D' b) (hw : ∀ b, D b → b < w.heap.size → w'.heap[b]? = w.heap[b]?) : ClAt w' D' q row rv rx tr A l c :=
  ⟨h.eq, h.v.mono hD hw, h.x.mono hD hw, (h.t.low.mono (fun _ h => h) fun b hb => hw b hb.1 hb.2).weak fun b hb => hD b hb.1, h.l.mono hD hw, h.wk, h.wa, h.wb⟩
theorem ClAt.low {w : World} {D : Nat → Prop} {q : Cl} {row rv rx tr : Array Value} {A : Option Addr} {l c : Nat} (h : ClAt w D q row rv rx tr A l c) : ClAt w (fun b => D b ∧ b < w.heap.size) q row rv rx tr A l c := ⟨h.eq, h.v.low, h.x.low, h.t.low, h.l.low, h.wk, h.wa, h.wb⟩
theorem ClsAt.mono {w w' : World} {D D' : Nat → Prop} {qs : List Cl} {A : Option Addr} {n c : Nat} (h : ClsAt w D qs A n c) (hD : ∀ b, D b → D' b) (hw : ∀ b, D b → b < w.heap.size → w'.heap[b]? = w.heap[b]?) : ClsAt w' D' qs A n c :=
  ⟨h.len, h.cap, h.max, fun i q hi => by
    obtain ⟨b, off, Cs, t, fr, row, rv, rx, tr, A', l', c', h1, h2, h3, h4, h5⟩ := h.el i q hi
    exact ⟨b, off, Cs, t, fr, row, rv, rx, tr, A', l', c', h1, hD b h2, by rw [hw b h2 (heap_lt h3), h3], h4, h5.mono hD hw⟩⟩
theorem ClsAt.old {w w' : World} {D : Nat → Prop} {qs : List Cl} {A : Option Addr} {n c : Nat} (h : ClsAt w D qs A n c) (hb : Below w.heap.size w w') : ClsAt w' D qs A n c := h.mono (fun _ h => h) fun b _ hl => hb.block b hl
theorem ClsAt.keep {C : Nat → Prop} {w w' : World} {D : Nat → Prop} {qs : List Cl} {A : Option Addr} {n c : Nat} (h : ClsAt w D qs A n c) (hk : Keep C w w') (hD : ∀ b, D b → ¬ C b) : ClsAt w' D qs A n c := h.mono (fun _ h => h) fun b hb hl => hk.block b hl (hD b hb)
theorem ClsAt.low {w : World} {D : Nat → Prop} {qs : List Cl} {A : Option Addr} {n c : Nat} (h : ClsAt w D qs A n c) : ClsAt w (fun b => D b ∧ b < w.heap.size) qs A n c :=
  ⟨h.len, h.cap, h.max, fun i q hi => by
    obtain ⟨b, off, Cs, t, fr, row, rv, rx, tr, A', l', c', h1, h2, h3, h4, h5⟩ := h.el i q hi
    exact ⟨b, off, Cs, t, fr, row, rv, rx, tr, A', l', c', h1, ⟨h2, heap_lt h3⟩, h3, h4, h5.low⟩⟩
theorem u37 : Try.prog.underlying 37 = some (.struct (Try.prog.fieldsOf 37)) := by kernel_rfl
theorem info37 : (Try.prog.info? 37).map (·.size) = some 26 := by kernel_rfl
theorem cell26_size {k a b : Int} {rv rx tr : Array Value} {A : Option Addr} {l c : Nat} (h1 : rv.size = 9) (h2 : rx.size = 9) (h3 : tr.size = 4) : (cell26 k a b rv rx tr A l c).size = 26 := by simp [cell26, h1, h2, h3]
theorem ClAt.size {w : World} {D : Nat → Prop} {q : Cl} {row rv rx tr : Array Value} {A : Option Addr} {l c : Nat} (h : ClAt w D q row rv rx tr A l c) : row.size = 26 := by rw [h.eq]; exact cell26_size h.v.size h.x.size h.t.size
/-- A call's cells, one by one. -/
theorem ClAt.cells {w : World} {D : Nat → Prop} {q : Cl} {row rv rx tr : Array Value} {A : Option Addr} {l c : Nat} (h : ClAt w D q row rv rx tr A l c) :
    row[0]? = some (.int .i64 q.k) ∧ row[1]? = some (.int .i64 q.a) ∧ row[2]? = some (.int .i64 q.b) ∧ row.extract 3 12 = rv ∧ row.extract 12 21 = rx ∧ row.extract 21 25 = tr ∧ row[25]? = some (.slice A l c) := by
  have h1 := h.v.size
  have h2 := h.x.size
  have h3 := h.t.size
  have key : ∀ a b c : Array Value, (a ++ b ++ c).extract a.size (a.size + b.size) = b := fun a b c => by simp
  have e1 : row = #[.int .i64 q.k, .int .i64 q.a, .int .i64 q.b] ++ rv ++ (rx ++ (tr ++ #[.slice A l c])) := by rw [h.eq]; simp only [cell26, Array.append_assoc]
  have e2 : row = (#[.int .i64 q.k, .int .i64 q.a, .int .i64 q.b] ++ rv) ++ rx ++ (tr ++ #[.slice A l c]) := by rw [h.eq]; simp only [cell26, Array.append_assoc]
  have e3 : row = (#[.int .i64 q.k, .int .i64 q.a, .int .i64 q.b] ++ rv ++ rx) ++ tr ++ #[.slice A l c] := by rw [h.eq]; simp only [cell26]
  have s2 : (#[Value.int .i64 q.k, .int .i64 q.a, .int .i64 q.b] ++ rv).size = 12 := by rw [Array.size_append, h1]; rfl
  have s3 : (#[Value.int .i64 q.k, .int .i64 q.a, .int .i64 q.b] ++ rv ++ rx).size = 21 := by rw [Array.size_append, s2, h2]
  have s4 : (#[Value.int .i64 q.k, .int .i64 q.a, .int .i64 q.b] ++ rv ++ rx ++ tr).size = 25 := by rw [Array.size_append, s3, h3]
  have left : ∀ i, i < 3 → row[i]? = #[Value.int .i64 q.k, .int .i64 q.a, .int .i64 q.b][i]? := fun i hi => by
    rw [e1, Array.append_assoc, Array.getElem?_append_left hi]
  refine ⟨left 0 (by omega), left 1 (by omega), left 2 (by omega), ?_, ?_, ?_, ?_⟩
  · rw [e1]
    have := key #[.int .i64 q.k, .int .i64 q.a, .int .i64 q.b] rv (rx ++ (tr ++ #[.slice A l c]))
    rw [h1] at this
    exact this
  · rw [e2]
    have := key (#[.int .i64 q.k, .int .i64 q.a, .int .i64 q.b] ++ rv) rx (tr ++ #[.slice A l c])
    rw [s2, h2] at this
    exact this
  · rw [e3]
    have := key (#[.int .i64 q.k, .int .i64 q.a, .int .i64 q.b] ++ rv ++ rx) tr #[.slice A l c]
    rw [s3, h3] at this
    exact this
  · rw [e3, Array.getElem?_append_right (by rw [s4]; exact Nat.le_refl _), s4]
    rfl
theorem ext_ext {Cs row : Array Value} {o n i j : Nat} (h : Cs.extract o (o + n) = row) (hj : j ≤ n) : Cs.extract (o + i) (o + j) = row.extract i j := by
  rw [← h, Array.extract_extract]
  congr 1
  omega
theorem get_ext {Cs row : Array Value} {o n i : Nat} (h : Cs.extract o (o + n) = row) {x : Value} (hx : row[i]? = some x) : Cs[o + i]? = some x := by
  rw [← h, Array.getElem?_extract] at hx
  split at hx
  · exact hx
  · cases hx
/-- One call of a script, loaded by its parts while blocks of no concern change. -/
theorem ClsAt.get {w : World} {D : Nat → Prop} {qs : List Cl} {A : Option Addr} {n c : Nat} (h : ClsAt w D qs A n c) {i : Nat} (hi : i < n) {C : Nat → Prop} (hD : ∀ b, D b → ¬ C b) :
    ∃ b off q row rv rx tr A' l' c', A = some ⟨b, off, none⟩ ∧ qs[i]? = some q ∧ ClAt w D q row rv rx tr A' l' c' ∧ (∀ w', Keep C w w' → RowAt w' 37 ⟨b, off + i * 26, none⟩ row ∧ RowAt w' 35 ⟨b, off + i * 26 + 3, none⟩ rv ∧ RowAt w' 35 ⟨b, off + i * 26 + 12, none⟩ rx ∧ RowAt w' 32 ⟨b, off + i * 26 + 21, none⟩ tr ∧ OneAt w' 33 ⟨b, off + i * 26 + 25, none⟩ (.slice A' l' c')) := by
  have hln : i < qs.length := by rw [h.len]; exact hi
  have hq : qs[i]? = some qs[i] := List.getElem?_eq_getElem hln
  obtain ⟨b, off, Cs, t, fr, row, rv, rx, tr, A', l', c', h1, h2, h3, h4, h5⟩ := h.el i _ hq
  obtain ⟨-, -, -, g3, g4, g5, g6⟩ := h5.cells
  refine ⟨b, off, _, row, rv, rx, tr, A', l', c', h1, hq, h5, fun w' hk => ?_⟩
  have hh := hk.look h3 (hD _ h2)
  exact ⟨row_mid (n := 26) hh h4 u37 rfl h5.size info37,
    row_mid (n := 9) hh ((ext_ext (i := 3) (j := 12) h4 (by omega)).trans g3) u35 rfl h5.v.size info35,
    row_mid (n := 9) hh ((ext_ext (i := 12) (j := 21) h4 (by omega)).trans g4) u35 rfl h5.x.size info35,
    row_mid (n := 4) hh ((ext_ext (i := 21) (j := 25) h4 (by omega)).trans g5) u24 rfl h5.t.size info24,
    one_of u33 rfl (by rw [cell_of_row _ _ _ _ _ _ hh]; exact get_ext h4 g6)⟩
def FitB (l0 : Nat) (qs : List Cl) : Prop := l0 ≤ 20 ∧ qs.length ≤ 60 ∧ ∀ q, q ∈ qs → q.l.length ≤ 1000
def BigPost (w : World) (l0 : Nat) (qs : List Cl) (e : Ending) (w' : World) : Prop := (∃ b : Bool, e = .returned (.bool b) ∧ (b = false → FitB l0 qs)) ∧ Below w.heap.size w w'
set_option maxHeartbeats 8000000 in
set_option maxRecDepth 100000 in
theorem big_any (A0 : Option Addr) (l0 c0 : Nat) (hl0 : l0 ≤ maxLen) (qs : List Cl) (A : Option Addr) (l c : Nat) (w : World) (D : Nat → Prop) (h : ClsAt w D qs A l c) :
    Calls Try.prog 9 #[.slice A0 l0 c0, .slice A l c] w (BigPost w l0 qs) := by
  unfold maxLen at hl0
  have HT := Lib.hid h
  have HL := Lib.hid h.len
  have hcm := h.cap
  have hmx := h.max
  unfold maxLen at hmx
  clear h
  have hb := Below.refl w.heap.size w
  go_enter Try.func9, Try.ntmps9
  go_upto_region 0 with (fail)
  apply wp_region_lit
  (with_reducible refine wl_k ?_ ?_); exact rfl; intro K hK; go_simp; refine hK _ ?_; clear hK K
  go_upto_region 1 with (fail)
  by_cases h1 : 20 < l0
  · have h1I : (l0 : Int) > 20 := by omega
    apply wp_region_lit
    (with_reducible refine wl_k ?_ ?_); exact rfl; intro K hK; go_simp; refine hK _ ?_; clear hK K
    (with_reducible refine wl_k ?_ ?_); exact rfl; intro K hK; go_simp; refine hK _ ?_; clear hK K
    (with_reducible refine wl_k ?_ ?_); exact rfl; intro K hK; go_simp; refine hK _ ?_; clear hK K
    (with_reducible refine wl_k ?_ ?_); exact rfl; intro K hK; go_simp; refine hK _ ?_; clear hK K
    (first | ((with_reducible refine wl_skipU ?_ ?_ ?_); exact rfl; exact rfl) | ((with_reducible refine wl_skip ?_ ?_); exact rfl; simp only [put_lit, List.set_cons_zero, List.set_cons_succ]))
    (first | ((with_reducible refine wl_skipU ?_ ?_ ?_); exact rfl; exact rfl) | ((with_reducible refine wl_skip ?_ ?_); exact rfl; simp only [put_lit, List.set_cons_zero, List.set_cons_succ]))
    (first | ((with_reducible refine wl_skipU ?_ ?_ ?_); exact rfl; exact rfl) | ((with_reducible refine wl_skip ?_ ?_); exact rfl; simp only [put_lit, List.set_cons_zero, List.set_cons_succ]))
    (with_reducible refine wl_k ?_ ?_); exact rfl; intro K hK; go_simp; refine hK _ ?_; clear hK K
    go_upto_region 2 with (fail)
    apply wp_region_lit
    (with_reducible refine wl_k ?_ ?_); exact rfl; intro K hK; go_simp; refine hK _ ?_; clear hK K
    go_wp2_with fail
    go_ret
    exact ⟨⟨true, rfl, fun h => by cases h⟩, hb⟩
  · have h1I : ¬ (l0 : Int) > 20 := by omega
    by_cases h2 : 60 < l
    · have h2I : (l : Int) > 60 := by omega
      apply wp_region_lit
      (with_reducible refine wl_k ?_ ?_); exact rfl; intro K hK; go_simp; refine hK _ ?_; clear hK K
      (with_reducible refine wl_k ?_ ?_); exact rfl; intro K hK; go_simp; refine hK _ ?_; clear hK K
      (with_reducible refine wl_k ?_ ?_); exact rfl; intro K hK; go_simp; refine hK _ ?_; clear hK K
      (with_reducible refine wl_k ?_ ?_); exact rfl; intro K hK; go_simp; refine hK _ ?_; clear hK K
      (with_reducible refine wl_k ?_ ?_); exact rfl; intro K hK; go_simp; refine hK _ ?_; clear hK K
      (with_reducible refine wl_k ?_ ?_); exact rfl; intro K hK; go_simp; refine hK _ ?_; clear hK K
      (with_reducible refine wl_k ?_ ?_); exact rfl; intro K hK; go_simp; refine hK _ ?_; clear hK K
      (with_reducible refine wl_k ?_ ?_); exact rfl; intro K hK; go_simp; refine hK _ ?_; clear hK K
      go_upto_region 2 with (fail)
      apply wp_region_lit
      (with_reducible refine wl_k ?_ ?_); exact rfl; intro K hK; go_simp; refine hK _ ?_; clear hK K
      go_wp2_with fail
      go_ret
      exact ⟨⟨true, rfl, fun h => by cases h⟩, hb⟩
    · have h2I : ¬ (l : Int) > 60 := by omega
      apply wp_region_lit
      (with_reducible refine wl_k ?_ ?_); exact rfl; intro K hK; go_simp; refine hK _ ?_; clear hK K
      (with_reducible refine wl_k ?_ ?_); exact rfl; intro K hK; go_simp; refine hK _ ?_; clear hK K
      (with_reducible refine wl_k ?_ ?_); exact rfl; intro K hK; go_simp; refine hK _ ?_; clear hK K
      (with_reducible refine wl_k ?_ ?_); exact rfl; intro K hK; go_simp; refine hK _ ?_; clear hK K
      (with_reducible refine wl_k ?_ ?_); exact rfl; intro K hK; go_simp; refine hK _ ?_; clear hK K
      (with_reducible refine wl_k ?_ ?_); exact rfl; intro K hK; go_simp; refine hK _ ?_; clear hK K
      (with_reducible refine wl_k ?_ ?_); exact rfl; intro K hK; go_simp; refine hK _ ?_; clear hK K
      (with_reducible refine wl_k ?_ ?_); exact rfl; intro K hK; go_simp; refine hK _ ?_; clear hK K
      have HLL : Hid (l0 ≤ 20 ∧ l ≤ 60) := Lib.hid ⟨by omega, by omega⟩
      clear h1 h1I h2 h2I
      go_upto_region 3 with (fail)
      apply wp_region_lit
      (with_reducible refine wl_k ?_ ?_); exact rfl; intro K hK; go_simp; refine hK _ ?_; clear hK K
      obtain ⟨z0, hz0⟩ : ∃ z : Nat, z = 0 := ⟨_, rfl⟩
      rw [show (0 : Int) = (z0 : Int) by rw [hz0]; rfl]
      have HZ : Hid (z0 ≤ 1000) := Lib.hid (by omega)
      clear hz0
      go_upto_region 4 with (fail)
      apply wp_region_lit
      (with_reducible refine wl_k ?_ ?_); exact rfl; intro K hK; go_simp; refine hK _ ?_; clear hK K
      go_wp2_with fail
      go_loopw [5, 6] (fun s i wr => ∃ j n : Nat, j ≤ l ∧ i = .int .i64 (j : Int) ∧ s = .int .i64 (n : Int) ∧ Hid (n ≤ 1000) ∧ Hid (∀ q, q ∈ qs.take j → q.l.length ≤ 1000) ∧ Below w.heap.size w wr) (fun _ i _ => l - (intOf i).toNat)
      case atStart => exact ⟨0, z0, by omega, rfl, rfl, HZ, Lib.hid (fun q hq => by simp at hq), hb⟩
      case round =>
        clear hb HZ
        obtain ⟨j, n, hj, rfl, rfl, HN, HQ, hb⟩ := hrel
        go_upto_region 5 with (fail)
        by_cases hlt : j < l
        · have hltI : (j : Int) < (l : Int) := by omega
          obtain ⟨b, off, q, row, rv, rx, tr, A', l', c', rfl, hq, hcl, hrows⟩ := (HT.out.old hb).low.get hlt (C := fun b => wr.heap.size ≤ b) (fun b h1 h2 => by have := h1.2; omega)
          have HR : Hid (∀ w', Below wr.heap.size wr w' → RowAt w' 35 ⟨b, off + j * 26 + 3, none⟩ rv ∧ RowAt w' 35 ⟨b, off + j * 26 + 12, none⟩ rx ∧ RowAt w' 32 ⟨b, off + j * 26 + 21, none⟩ tr ∧ OneAt w' 33 ⟨b, off + j * 26 + 25, none⟩ (.slice A' l' c')) := Lib.hid fun w' hw => (hrows w' (Keep.of hw)).2
          have HCL := Lib.hid hcl
          have hl'c := hcl.l.cap
          have hl'm := hcl.l.max
          unfold maxLen at hl'm
          have HL' := Lib.hid hcl.l.len
          obtain ⟨q1, hq1⟩ : ∃ x, x = nodesV q.v 401 := ⟨_, rfl⟩
          obtain ⟨q2, hq2⟩ : ∃ x, x = nodesV q.x 401 := ⟨_, rfl⟩
          obtain ⟨q3, hq3⟩ : ∃ x, x = min q.t.nodes (401 + 1) := ⟨_, rfl⟩
          have C1 : Hid (∀ w', Below wr.heap.size wr w' → Calls Try.prog 40 #[.agg rv, .int .i64 401] w' fun e w2 => e = .returned (.int .i64 (q1 : Int)) ∧ Below w'.heap.size w' w2) := Lib.hid fun w' hw => by rw [hq1]; exact Nodes_any q.v 401 (by omega) w' _ _ (hcl.v.old hw)
          have C2 : Hid (∀ w', Below wr.heap.size wr w' → Calls Try.prog 40 #[.agg rx, .int .i64 401] w' fun e w2 => e = .returned (.int .i64 (q2 : Int)) ∧ Below w'.heap.size w' w2) := Lib.hid fun w' hw => by rw [hq2]; exact Nodes_any q.x 401 (by omega) w' _ _ (hcl.x.old hw)
          have C3 : Hid (∀ w', Below wr.heap.size wr w' → Calls Try.prog 41 #[.agg tr, .int .i64 401] w' fun e w2 => e = .returned (.int .i64 (q3 : Int)) ∧ Below w'.heap.size w' w2) := Lib.hid fun w' hw => by rw [hq3]; exact TypeNodes_any 401 (by omega) q.t w' _ _ (hcl.t.old hw)
          have hb1 := nodesV_le q.v 401
          have hb2 := nodesV_le q.x 401
          rw [← hq1] at hb1
          rw [← hq2] at hb2
          have hn3 : q3 ≤ 402 := by omega
          obtain ⟨n1, hn1⟩ : ∃ x, x = n + q1 := ⟨_, rfl⟩
          obtain ⟨n2, hn2⟩ : ∃ x, x = n1 + q2 := ⟨_, rfl⟩
          obtain ⟨n4, hn4⟩ : ∃ x, x = n2 + q3 := ⟨_, rfl⟩
          have e1 : (n : Int) + (q1 : Int) = (n1 : Int) := by omega
          have e2 : (n1 : Int) + (q2 : Int) = (n2 : Int) := by omega
          have e3 : (n2 : Int) + (q3 : Int) = (n4 : Int) := by omega
          have hnn := HN.out
          have e4 : IntKind.i64.wrap (n1 : Int) = (n1 : Int) := IntWalk.i64_in _ (by omega)
          have e5 : IntKind.i64.wrap (n2 : Int) = (n2 : Int) := IntWalk.i64_in _ (by omega)
          have e6 : IntKind.i64.wrap (n4 : Int) = (n4 : Int) := IntWalk.i64_in _ (by omega)
          have HN4 : Hid (n4 ≤ 3000) := Lib.hid (by omega)
          have HTK : Hid (qs.take (j + 1) = qs.take j ++ [q]) := Lib.hid (by rw [List.take_add_one, hq]; rfl)
          clear hq1 hq2 hq3 hn1 hn2 hn4 hcl hrows hq hb1 hb2 hn3 hnn
          apply wp_region_lit
          (with_reducible refine wl_k ?_ ?_); exact rfl; intro K hK; go_simp; refine hK _ ?_; clear hK K
          (with_reducible refine wl_k ?_ ?_); exact rfl; intro K hK; go_simp; refine hK _ ?_; clear hK K
          (with_reducible refine wl_k ?_ ?_); exact rfl; intro K hK; go_simp; refine hK _ ?_; clear hK K
          (with_reducible refine wl_k ?_ ?_); exact rfl; intro K hK; go_simp; refine hK _ ?_; clear hK K
          go_upto_region 7 with (fail)
          refine wp_region_belowAll mixed (by kernel_rfl) ?_
          (with_reducible refine wq_k ?_ ?_); exact rfl; intro K hK; go_simp; (with_reducible refine hK _ ?_); clear hK K
          (with_reducible refine wq_k ?_ ?_); exact rfl; intro K hK; go_simp; (with_reducible refine hK _ ?_); clear hK K
          (with_reducible refine wq_k ?_ ?_); exact rfl; intro K hK; go_simp; (with_reducible refine hK _ ?_); clear hK K
          (with_reducible refine wq_k ?_ ?_); exact rfl; intro K hK; go_simp; (with_reducible refine hK _ ?_); clear hK K
          (with_reducible refine wq_k ?_ ?_); exact rfl; intro K hK; go_simp; (with_reducible refine hK _ ?_); clear hK K
          ((with_reducible apply wq_row); exact rfl; exact rfl; exact fun w' hw' => (HR.out w' hw').1)
          refine wq_ck rfl (fun K hK => ?_); go_simp; refine ⟨_, _, ⟨rfl, rfl⟩, hK _ _ ⟨_, fun w' hw' => calls_class hw' (C1.out w' hw'), ?_⟩⟩; clear hK K; simp only [put_lit, List.set_cons_zero, List.set_cons_succ]
          (with_reducible refine wq_k ?_ ?_); exact rfl; intro K hK; go_simp; (with_reducible refine hK _ ?_); clear hK K
          (with_reducible refine wq_k ?_ ?_); exact rfl; intro K hK; go_simp; (with_reducible refine hK _ ?_); clear hK K
          (with_reducible refine wq_k ?_ ?_); exact rfl; intro K hK; go_simp; (with_reducible refine hK _ ?_); clear hK K
          (with_reducible refine wq_k ?_ ?_); exact rfl; intro K hK; go_simp; (with_reducible refine hK _ ?_); clear hK K
          (with_reducible refine wq_k ?_ ?_); exact rfl; intro K hK; go_simp; (with_reducible refine hK _ ?_); clear hK K
          ((with_reducible apply wq_row); exact rfl; exact rfl; exact fun w' hw' => (HR.out w' hw').2.1)
          refine wq_ck rfl (fun K hK => ?_); go_simp; refine ⟨_, _, ⟨rfl, rfl⟩, hK _ _ ⟨_, fun w' hw' => calls_class hw' (C2.out w' hw'), ?_⟩⟩; clear hK K; simp only [put_lit, List.set_cons_zero, List.set_cons_succ]
          (with_reducible refine wq_k ?_ ?_); exact rfl; intro K hK; go_simp; (with_reducible refine hK _ ?_); clear hK K
          (with_reducible refine wq_k ?_ ?_); exact rfl; intro K hK; go_simp; (with_reducible refine hK _ ?_); clear hK K
          (with_reducible refine wq_k ?_ ?_); exact rfl; intro K hK; go_simp; (with_reducible refine hK _ ?_); clear hK K
          (with_reducible refine wq_k ?_ ?_); exact rfl; intro K hK; go_simp; (with_reducible refine hK _ ?_); clear hK K
          (with_reducible refine wq_k ?_ ?_); exact rfl; intro K hK; go_simp; (with_reducible refine hK _ ?_); clear hK K
          ((with_reducible apply wq_row); exact rfl; exact rfl; exact fun w' hw' => (HR.out w' hw').2.2.1)
          refine wq_ck rfl (fun K hK => ?_); go_simp; refine ⟨_, _, ⟨rfl, rfl⟩, hK _ _ ⟨_, fun w' hw' => calls_class hw' (C3.out w' hw'), ?_⟩⟩; clear hK K; simp only [put_lit, List.set_cons_zero, List.set_cons_succ]
          (with_reducible refine wq_k ?_ ?_); exact rfl; intro K hK; go_simp; (with_reducible refine hK _ ?_); clear hK K
          (with_reducible refine wq_k ?_ ?_); exact rfl; intro K hK; go_simp; (with_reducible refine hK _ ?_); clear hK K
          intro w7 hb7
          have hz := hb7
          clear hb7 C1 C2 C3 e1 e2 e3 e4 e5 e6 HN
          go_upto_region 8 with (fail)
          apply wp_region_lit
          (with_reducible refine wl_k ?_ ?_); exact rfl; intro K hK; go_simp; refine hK _ ?_; clear hK K
          go_wp2_with fail
          go_loopw [5, 7] (fun s i wr2 => ∃ k m : Nat, k ≤ l' ∧ i = .int .i64 (k : Int) ∧ s = .int .i64 (m : Int) ∧ Hid (m ≤ 3000 ∧ k ≤ m) ∧ Below wr.heap.size wr wr2) (fun _ i _ => l' - (intOf i).toNat)
          case atStart => exact ⟨0, n4, by omega, rfl, rfl, Lib.hid ⟨HN4.out, by omega⟩, hz⟩
          case round =>
            clear hz HN4
            obtain ⟨k, m, hk, rfl, rfl, HM, hz⟩ := hrel
            obtain ⟨wr2, rfl⟩ : ∃ wr2, wr2 = wr := ⟨_, rfl⟩
            go_upto_region 9 with (fail)
            by_cases hgo : k < l' ∧ m ≤ 1000
            · obtain ⟨hlk, hmm⟩ := hgo
              have hlkI : (k : Int) < (l' : Int) := by omega
              have hmmI : (m : Int) ≤ 1000 := by omega
              obtain ⟨b2, off2, u, rowu, rfl, -, hu, hua, hrow⟩ := (HCL.out.l.old hz).getB hlk
              obtain ⟨q5, hq5⟩ : ∃ x, x = nodesV u 401 := ⟨_, rfl⟩
              have hb5 := nodesV_le u 401
              rw [← hq5] at hb5
              have hc := Nodes_any u 401 (by omega) wr2 _ _ hua
              rw [← hq5] at hc
              have HC := Lib.hid hc
              obtain ⟨m2, hm2⟩ : ∃ x, x = m + q5 := ⟨_, rfl⟩
              have e1 : (m : Int) + (q5 : Int) = (m2 : Int) := by omega
              have e2 : IntKind.i64.wrap (m2 : Int) = (m2 : Int) := IntWalk.i64_in _ (by omega)
              have HM2 : Hid (m2 ≤ 3000 ∧ k + 1 ≤ m2) := Lib.hid (by have := HM.out; omega)
              have HR3 : Hid (OneAt wr2 33 ⟨b, off + j * 26 + 25, none⟩ (.slice (some ⟨b2, off2, none⟩) l' c')) := Lib.hid (HR.out wr2 hz).2.2.2
              have HRU := Lib.hid (hrow wr2 (Below.refl _ _))
              clear hm2 hc hq5 hb5 hu hua hrow
              apply wp_region_lit
              (with_reducible refine wl_k ?_ ?_); exact rfl; intro K hK; go_simp; refine hK _ ?_; clear hK K
              (with_reducible refine wl_k ?_ ?_); exact rfl; intro K hK; go_simp; refine hK _ ?_; clear hK K
              (with_reducible refine wl_k ?_ ?_); exact rfl; intro K hK; go_simp; refine hK _ ?_; clear hK K
              (with_reducible refine wl_k ?_ ?_); exact rfl; intro K hK; go_simp; refine hK _ ?_; clear hK K
              (with_reducible refine wl_k ?_ ?_); exact rfl; intro K hK; go_simp; refine hK _ ?_; clear hK K
              ((with_reducible apply wl_oneG); exact rfl; exact rfl; exact HR3.out)
              (with_reducible refine wl_k ?_ ?_); exact rfl; intro K hK; go_simp; refine hK _ ?_; clear hK K
              (with_reducible refine wl_k ?_ ?_); exact rfl; intro K hK; go_simp; refine hK _ ?_; clear hK K
              (with_reducible refine wl_k ?_ ?_); exact rfl; intro K hK; go_simp; refine hK _ ?_; clear hK K
              (with_reducible refine wl_k ?_ ?_); exact rfl; intro K hK; go_simp; refine hK _ ?_; clear hK K
              (with_reducible refine wl_k ?_ ?_); exact rfl; intro K hK; go_simp; refine hK _ ?_; clear hK K
              (with_reducible refine wl_k ?_ ?_); exact rfl; intro K hK; go_simp; refine hK _ ?_; clear hK K
              go_upto_region 11 with (fail)
              apply wp_region_lit
              (with_reducible refine wl_k ?_ ?_); exact rfl; intro K hK; go_simp; refine hK _ ?_; clear hK K
              (with_reducible refine wl_k ?_ ?_); exact rfl; intro K hK; go_simp; refine hK _ ?_; clear hK K
              (with_reducible refine wl_k ?_ ?_); exact rfl; intro K hK; go_simp; refine hK _ ?_; clear hK K
              (with_reducible refine wl_k ?_ ?_); exact rfl; intro K hK; go_simp; refine hK _ ?_; clear hK K
              (with_reducible refine wl_k ?_ ?_); exact rfl; intro K hK; go_simp; refine hK _ ?_; clear hK K
              ((with_reducible apply wl_oneG); exact rfl; exact rfl; exact HR3.out)
              (with_reducible refine wl_k ?_ ?_); exact rfl; intro K hK; go_simp; refine hK _ ?_; clear hK K
              (with_reducible refine wl_k ?_ ?_); exact rfl; intro K hK; go_simp; refine hK _ ?_; clear hK K
              ((with_reducible apply wl_rowG); exact rfl; exact rfl; exact HRU.out)
              (with_reducible refine wl_ck ?_ ?_); exact rfl; intro K hK; go_simp; refine ⟨_, _, ⟨rfl, rfl⟩, hK _ _ ⟨_, HC.out, ?_⟩⟩; clear hK K; rintro e w8 ⟨rfl, hb8⟩; refine ⟨_, rfl, ?_⟩; simp only [put_lit, List.set_cons_zero, List.set_cons_succ]
              replace hz := hz.trans (hb8.mono hz.size); clear hb8
              (with_reducible refine wl_k ?_ ?_); exact rfl; intro K hK; go_simp; refine hK _ ?_; clear hK K
              (with_reducible refine wl_k ?_ ?_); exact rfl; intro K hK; go_simp; refine hK _ ?_; clear hK K
              clear HC HR3 HRU e1 e2 HM
              go_wp2_with fail
              go_roundw
              case rel => exact ⟨k + 1, m2, by omega, by go_num, rfl, HM2, hz⟩
              case measure => simp [intOf]; omega
            · have HR3 : Hid (OneAt wr2 33 ⟨b, off + j * 26 + 25, none⟩ (.slice A' l' c')) := Lib.hid (HR.out wr2 hz).2.2.2
              go_cut [55] (fun s55 wx => s55 = .bool false ∧ Below wr.heap.size wr wx)
              case first =>
                by_cases hlk : k < l'
                · have hlkI : (k : Int) < (l' : Int) := by omega
                  have hmmI : ¬ (m : Int) ≤ 1000 := by omega
                  apply wp_region_lit
                  (with_reducible refine wl_k ?_ ?_); exact rfl; intro K hK; go_simp; refine hK _ ?_; clear hK K
                  (with_reducible refine wl_k ?_ ?_); exact rfl; intro K hK; go_simp; refine hK _ ?_; clear hK K
                  (with_reducible refine wl_k ?_ ?_); exact rfl; intro K hK; go_simp; refine hK _ ?_; clear hK K
                  (with_reducible refine wl_k ?_ ?_); exact rfl; intro K hK; go_simp; refine hK _ ?_; clear hK K
                  (with_reducible refine wl_k ?_ ?_); exact rfl; intro K hK; go_simp; refine hK _ ?_; clear hK K
                  ((with_reducible apply wl_oneG); exact rfl; exact rfl; exact HR3.out)
                  (with_reducible refine wl_k ?_ ?_); exact rfl; intro K hK; go_simp; refine hK _ ?_; clear hK K
                  (with_reducible refine wl_k ?_ ?_); exact rfl; intro K hK; go_simp; refine hK _ ?_; clear hK K
                  (with_reducible refine wl_k ?_ ?_); exact rfl; intro K hK; go_simp; refine hK _ ?_; clear hK K
                  (with_reducible refine wl_k ?_ ?_); exact rfl; intro K hK; go_simp; refine hK _ ?_; clear hK K
                  (with_reducible refine wl_k ?_ ?_); exact rfl; intro K hK; go_simp; refine hK _ ?_; clear hK K
                  (with_reducible refine wl_k ?_ ?_); exact rfl; intro K hK; go_simp; refine hK _ ?_; clear hK K
                  go_wp2_with fail
                  go_meet
                  exact ⟨rfl, hz⟩
                · have hlkI : ¬ (k : Int) < (l' : Int) := by omega
                  apply wp_region_lit
                  (with_reducible refine wl_k ?_ ?_); exact rfl; intro K hK; go_simp; refine hK _ ?_; clear hK K
                  (with_reducible refine wl_k ?_ ?_); exact rfl; intro K hK; go_simp; refine hK _ ?_; clear hK K
                  (with_reducible refine wl_k ?_ ?_); exact rfl; intro K hK; go_simp; refine hK _ ?_; clear hK K
                  (with_reducible refine wl_k ?_ ?_); exact rfl; intro K hK; go_simp; refine hK _ ?_; clear hK K
                  (with_reducible refine wl_k ?_ ?_); exact rfl; intro K hK; go_simp; refine hK _ ?_; clear hK K
                  ((with_reducible apply wl_oneG); exact rfl; exact rfl; exact HR3.out)
                  (with_reducible refine wl_k ?_ ?_); exact rfl; intro K hK; go_simp; refine hK _ ?_; clear hK K
                  (with_reducible refine wl_k ?_ ?_); exact rfl; intro K hK; go_simp; refine hK _ ?_; clear hK K
                  (with_reducible refine wl_k ?_ ?_); exact rfl; intro K hK; go_simp; refine hK _ ?_; clear hK K
                  (first | ((with_reducible refine wl_skipU ?_ ?_ ?_); exact rfl; exact rfl) | ((with_reducible refine wl_skip ?_ ?_); exact rfl; simp only [put_lit, List.set_cons_zero, List.set_cons_succ]))
                  (first | ((with_reducible refine wl_skipU ?_ ?_ ?_); exact rfl; exact rfl) | ((with_reducible refine wl_skip ?_ ?_); exact rfl; simp only [put_lit, List.set_cons_zero, List.set_cons_succ]))
                  (with_reducible refine wl_k ?_ ?_); exact rfl; intro K hK; go_simp; refine hK _ ?_; clear hK K
                  go_wp2_with fail
                  go_meet
                  exact ⟨rfl, hz⟩
              case rest =>
                clear hz HR3
                obtain ⟨rfl, hz⟩ := hcut
                replace hb := hb.trans (hz.mono hb.size)
                go_upto_region 12 with (fail)
                by_cases hmm : 1000 < m
                · have hmmI : (m : Int) > 1000 := by omega
                  apply wp_region_lit
                  (with_reducible refine wl_k ?_ ?_); exact rfl; intro K hK; go_simp; refine hK _ ?_; clear hK K
                  (with_reducible refine wl_k ?_ ?_); exact rfl; intro K hK; go_simp; refine hK _ ?_; clear hK K
                  go_upto_region 13 with (fail)
                  apply wp_region_lit
                  (with_reducible refine wl_k ?_ ?_); exact rfl; intro K hK; go_simp; refine hK _ ?_; clear hK K
                  go_wp2_with fail
                  go_ret
                  exact ⟨⟨true, rfl, fun h => by cases h⟩, hb⟩
                · have hmmI : ¬ (m : Int) > 1000 := by omega
                  have HMN : Hid (m ≤ 1000) := Lib.hid (by omega)
                  have HQ2 : Hid (∀ q, q ∈ qs.take (j + 1) → q.l.length ≤ 1000) := Lib.hid (fun q' hq' => by
                    rw [HTK.out] at hq'
                    rcases List.mem_append.1 hq' with hq' | hq'
                    · exact HQ.out q' hq'
                    · simp at hq'; subst hq'
                      have := HL'.out
                      have := HM.out
                      omega)
                  clear hgo hmm
                  apply wp_region_lit
                  (with_reducible refine wl_k ?_ ?_); exact rfl; intro K hK; go_simp; refine hK _ ?_; clear hK K
                  (with_reducible refine wl_k ?_ ?_); exact rfl; intro K hK; go_simp; refine hK _ ?_; clear hK K
                  clear hz HQ HTK HM HR HCL
                  go_wp2_with fail
                  go_roundw
                  case rel => exact ⟨j + 1, m, by omega, by go_num, rfl, HMN, HQ2, hb⟩
                  case measure => simp [intOf]; omega
        · have hltI : ¬ (j : Int) < (l : Int) := by omega
          have HFB : Hid (FitB l0 qs) := Lib.hid ⟨HLL.out.1, by rw [HL.out]; exact HLL.out.2, by have := HQ.out; rwa [List.take_of_length_le (by rw [HL.out]; omega)] at this⟩
          apply wp_region_lit
          (with_reducible refine wl_k ?_ ?_); exact rfl; intro K hK; go_simp; refine hK _ ?_; clear hK K
          (with_reducible refine wl_k ?_ ?_); exact rfl; intro K hK; go_simp; refine hK _ ?_; clear hK K
          (with_reducible refine wl_k ?_ ?_); exact rfl; intro K hK; go_simp; refine hK _ ?_; clear hK K
          (with_reducible refine wl_k ?_ ?_); exact rfl; intro K hK; go_simp; refine hK _ ?_; clear hK K
          go_upto_region 14 with (fail)
          apply wp_region_lit
          (with_reducible refine wl_k ?_ ?_); exact rfl; intro K hK; go_simp; refine hK _ ?_; clear hK K
          go_wp2_with fail
          go_ret
          exact ⟨⟨false, rfl, fun _ => HFB.out⟩, hb⟩
end Go.Proofs.Ytpamocglecangaa
