/- S10, S11 in one text. -/
import Derived.MapKept
import Derived.Carry
import Derived.Outline
import Derived.Test.YtbhdgeoljlhmcaaQB3
/- What a kind of operation uses, by the program. -/
namespace Go.Proofs.Ytbhdgeoljlhmcaa
open Go.RowKit Go.Proofs.Ytbhdgeoljlhmcaa.Nm Go.Proofs.Ytbhdgeoljlhmcaa.St
set_option linter.unusedSimpArgs false
theorem u133 : Try.prog.underlying 133 = some (.map 3 118) := by kernel_rfl
theorem u3d : Try.prog.underlying 3 = some (.int .i64) := by kernel_rfl
theorem u118 : Try.prog.underlying 118 = some (.struct (Try.prog.fieldsOf 118)) := by kernel_rfl
theorem info118 : (Try.prog.info? 118).map (·.size) = some 6 := by kernel_rfl
/-- what an operation uses: From, To, At, N, Key, and of what kind From is -/
structure Use where
  fr : Bool
  to : Bool
  at_ : Bool
  n : Bool
  key : Bool
  kind : Int
def Use.cells (u : Use) : Array Value := #[.bool u.fr, .bool u.to, .bool u.at_, .bool u.n, .bool u.key, .int .i64 u.kind]
def noUse : Use := ⟨false, false, false, false, false, 0⟩
def useT : List (Int × Use) :=
  [(1, ⟨false, true, false, false, false, 0⟩), (2, ⟨true, true, false, false, false, 0⟩), (3, ⟨true, false, false, false, true, 1⟩), (4, ⟨true, false, true, false, true, 1⟩), (5, ⟨true, false, true, false, false, 1⟩),
   (6, ⟨true, true, true, true, false, 1⟩), (7, ⟨true, false, false, false, false, 1⟩), (8, ⟨false, true, false, true, false, 0⟩), (9, ⟨true, false, false, true, true, 2⟩), (10, ⟨true, false, false, false, true, 2⟩), (11, ⟨true, true, false, false, false, 2⟩)]
def useS (k : Int) : Option Use := (useT.find? (fun p => decide (p.1 = k))).map (·.2)
def ent (p : (Int × Use) × Nat) : MapEntry := { key := .int .i64 p.1.1, val := .agg p.1.2.cells, born := p.2 }
def mEs (n : Nat) : Array MapEntry := ((useT.take n).zipIdx.map ent).toArray
theorem run_ins (r : Nat) (es : Array MapEntry) (clock : Nat) (k : Int) (v : Value) (w : World) (hb : w.heap[r]? = some (.map es clock)) (hf : Instr.findNow (.int .i64) (.int .i64 k) es.toList 0 = some none) :
    (Instr.mapUpdate 133 (.map (some r)) (.int .i64 k) v).run Try.prog w = .ok () { w with heap := w.heap.setIfInBounds r (.map (es.push { key := .int .i64 k, val := v, born := clock }) (clock + 1)) } := by
  unfold Instr.mapUpdate
  simp only [Sem.run_bind, run_underlying u133, Result.andThen, MapKept.run_getObj_map hb, MapKept.run_checkKey u3d (k := .int .i64 k) rfl false 9999, MapKept.run_findKey u3d hf, MapKept.run_setObj_map _ hb]
theorem wl_ins {ops : Array Oper} {rest : List Oper} {op : Oper} {a : Act} {w : World} {Q : Exit → Act → World → Prop} (hg : op.guard = none) (m x : Operand) (n : Nat) (k : Int) (u : Use) (ho : op.op = .insert 133 m (.const (.int .i64 k)) x) {r B : Nat} {w0 : World}
    (hm : a.eval m = .map (some r)) (hx : a.eval x = .agg u.cells) (hb : w.heap[r]? = some (.map (mEs n) n)) (hf : Instr.findNow (.int .i64) (.int .i64 k) (mEs n).toList 0 = some none) (he : (mEs n).push { key := .int .i64 k, val := .agg u.cells, born := n } = mEs (n + 1)) (hB : B ≤ r) (hbl : Below B w0 w)
    (h : ∀ w', w'.heap[r]? = some (.map (mEs (n + 1)) (n + 1)) → Below B w0 w' → wpList Try.prog ops Q rest (a.put op.dst undef) w') : wpList Try.prog ops Q (op :: rest) a w := by
  refine wpList_plain hg fun K hK => ?_
  unfold Oper.wp execOp
  have hc : a.eval (.const (.int .i64 k)) = .int .i64 k := rfl
  simp only [ho, hm, hx, hc, run_ins r _ _ k (.agg u.cells) w hb hf, he, Sem.run_bind, Sem.run_pure, Result.andThen_ok]
  obtain ⟨h1, h2⟩ := MapKept.heap_set (o' := .map (mEs (n + 1)) (n + 1)) hb
  exact hK _ _ (h _ h1 ⟨hbl.os, hbl.tape, hbl.output, by simpa using hbl.size, fun j hj => by rw [h2 j (by omega)]; exact hbl.block j hj⟩)
def useG (k : Int) : Use := (useS k).getD noUse
theorem use_cases (k : Int) : (k = 1 ∨ k = 2 ∨ k = 3 ∨ k = 4 ∨ k = 5 ∨ k = 6 ∨ k = 7 ∨ k = 8 ∨ k = 9 ∨ k = 10 ∨ k = 11) ∨ (k ≠ 1 ∧ k ≠ 2 ∧ k ≠ 3 ∧ k ≠ 4 ∧ k ≠ 5 ∧ k ≠ 6 ∧ k ≠ 7 ∧ k ≠ 8 ∧ k ≠ 9 ∧ k ≠ 10 ∧ k ≠ 11) := by omega
theorem useS_none {k : Int} (h : k ≠ 1 ∧ k ≠ 2 ∧ k ≠ 3 ∧ k ≠ 4 ∧ k ≠ 5 ∧ k ≠ 6 ∧ k ≠ 7 ∧ k ≠ 8 ∧ k ≠ 9 ∧ k ≠ 10 ∧ k ≠ 11) : useS k = none := by
  obtain ⟨h1, h2, h3, h4, h5, h6, h7, h8, h9, h10, h11⟩ := h
  simp [useS, useT, Ne.symm h1, Ne.symm h2, Ne.symm h3, Ne.symm h4, Ne.symm h5, Ne.symm h6, Ne.symm h7, Ne.symm h8, Ne.symm h9, Ne.symm h10, Ne.symm h11]
theorem find_use (k : Int) : ∃ o, Instr.findNow (.int .i64) (.int .i64 k) (mEs 11).toList 0 = some o ∧ o.map (·.2) = (useS k).map (fun u => .agg u.cells) := by
  rcases use_cases k with h | h
  · rcases h with rfl | rfl | rfl | rfl | rfl | rfl | rfl | rfl | rfl | rfl | rfl <;> exact ⟨_, rfl, rfl⟩
  · refine ⟨none, ?_, by rw [useS_none h]; rfl⟩
    obtain ⟨h1, h2, h3, h4, h5, h6, h7, h8, h9, h10, h11⟩ := h
    simp [mEs, useT, ent, Instr.findNow, Instr.sameNow]
    simp only [beq_false_of_ne h1, beq_false_of_ne h2, beq_false_of_ne h3, beq_false_of_ne h4, beq_false_of_ne h5, beq_false_of_ne h6, beq_false_of_ne h7, beq_false_of_ne h8, beq_false_of_ne h9, beq_false_of_ne h10, beq_false_of_ne h11]
theorem zero118 (w : World) : (zeroValue 118).run Try.prog w = .ok (.agg noUse.cells) w := by kernel_rfl
theorem run_look (r : Nat) (k : Int) (w : World) (hb : w.heap[r]? = some (.map (mEs 11) 11)) : (Instr.lookup 133 (.map (some r)) (.int .i64 k) true).run Try.prog w = .ok (.tuple #[.agg (useG k).cells, .bool (useS k).isSome]) w := by
  obtain ⟨o, h1, h2⟩ := find_use k
  unfold Instr.lookup useG
  have hz := zero118 w
  cases hq : useS k with
  | none =>
    rw [hq] at h2
    simp only [Option.map_none, Option.map_eq_none_iff] at h2
    subst h2
    simp [Sem.run_bind, run_underlying u133, Result.andThen, MapKept.run_getObj_map hb, MapKept.run_checkKey u3d (k := .int .i64 k) rfl _ 9999, MapKept.run_findKey u3d h1, hz]
  | some u =>
    rw [hq] at h2
    obtain ⟨⟨i, v⟩, rfl⟩ : ∃ x, o = some x := by cases o with
      | none => simp at h2
      | some x => exact ⟨x, rfl⟩
    simp only [Option.map_some, Option.some.injEq] at h2
    subst h2
    simp [Sem.run_bind, run_underlying u133, Result.andThen, MapKept.run_getObj_map hb, MapKept.run_checkKey u3d (k := .int .i64 k) rfl _ 9999, MapKept.run_findKey u3d h1]
theorem res_useT {fn : Func} {p q : Tmp} (h : fn.results = #[.cell p 118, .tmp q]) (tmps : Array Value) (w : World) (g : Nat) (hp : tmps.getD p undef = .pointer (some ⟨g, 0, none⟩)) {u : Use}
    (hg : w.heap[g]? = some (.cells u.cells 118 (0, 0))) : (results fn tmps).run Try.prog w = .ok (.tuple #[.agg u.cells, tmps.getD q undef]) w := by
  have hp' : tmps[p]?.getD undef = .pointer (some ⟨g, 0, none⟩) := by simpa using hp
  have l1 : (loadVar 118 ⟨g, 0, none⟩).run Try.prog w = .ok (.agg u.cells) w := by have := row_mid (off := 0) hg (D := u.cells) (n := 6) rfl u118 rfl rfl info118; unfold RowAt at this; exact this
  unfold results
  simp [h, hp', asAddr, l1, Result.andThen]
theorem put_noneA (a : Act) (v : Value) : a.put none v = a := rfl
theorem ex_mm {o : Oper} (ho : o.op = .makeMap 133 none) (ev : Operand → Value) (w : World) : (execOp ev o).run Try.prog w = .ok (.value (.map (some w.heap.size))) (w.alloc (.map #[] 0)) := by
  unfold execOp
  simp [ho, run_makeMap, Result.andThen]
theorem wl_mm {ops : Array Oper} {rest : List Oper} {o : Oper} {a : Act} {w : World} {Q : Exit → Act → World → Prop} (hg : o.guard = none) (ho : o.op = .makeMap 133 none)
    (h : ∀ W r, Below w.heap.size w W → w.heap.size ≤ r → W.heap[r]? = some (.map (mEs 0) 0) → wpList Try.prog ops Q rest (a.put o.dst (.map (some r))) W) : wpList Try.prog ops Q (o :: rest) a w :=
  wl_w hg (ex_mm ho _ w) (h _ _ ((Below.refl _ _).alloc (Nat.le_refl _) _) (Nat.le_refl _) (ha_new rfl))
theorem wl_look {ops : Array Oper} {rest : List Oper} {o : Oper} {a : Act} {w : World} {Q : Exit → Act → World → Prop} (hg : o.guard = none) (m x : Operand) (ho : o.op = .lookup 133 m x true) {r : Nat} {k : Int} (hm : a.eval m = .map (some r)) (hx : a.eval x = .int .i64 k)
    (hb : w.heap[r]? = some (.map (mEs 11) 11)) (h : wpList Try.prog ops Q rest (a.put o.dst (.tuple #[.agg (useG k).cells, .bool (useS k).isSome])) w) : wpList Try.prog ops Q (o :: rest) a w := by
  refine wl_val hg ?_ h
  unfold execOp
  simp [ho, hm, hx, run_look r k w hb, Result.andThen]
theorem ex_alloc118 {o : Oper} (ho : o.op = .alloc 118) (ev : Operand → Value) (w : World) : (execOp ev o).run Try.prog w = .ok (.value (.pointer (some ⟨w.heap.size, 0, none⟩))) (w.alloc (.cells noUse.cells 118)) := by
  unfold execOp
  simp only [ho]
  kernel_rfl
theorem use_one (u : Use) : u.cells.all (·.oneCell') = true := by simp [Use.cells, Value.oneCell']
theorem rowU {w : World} {g : Nat} {u : Use} (h : w.heap[g]? = some (.cells u.cells 118 (0, 0))) : RowAt w 118 ⟨g, 0, none⟩ u.cells := row_mid h (D := u.cells) (n := 6) rfl u118 rfl rfl info118
theorem built118_1 : Try.prog.built 118 [(1, .bool true)] = some (Use.cells ⟨false, true, false, false, false, 0⟩) := by kernel_rfl
theorem built118_2 : Try.prog.built 118 [(0, .bool true), (1, .bool true)] = some (Use.cells ⟨true, true, false, false, false, 0⟩) := by kernel_rfl
theorem built118_3 : Try.prog.built 118 [(0, .bool true), (4, .bool true), (5, .int .i64 1)] = some (Use.cells ⟨true, false, false, false, true, 1⟩) := by kernel_rfl
theorem built118_4 : Try.prog.built 118 [(0, .bool true), (2, .bool true), (4, .bool true), (5, .int .i64 1)] = some (Use.cells ⟨true, false, true, false, true, 1⟩) := by kernel_rfl
theorem built118_5 : Try.prog.built 118 [(0, .bool true), (2, .bool true), (5, .int .i64 1)] = some (Use.cells ⟨true, false, true, false, false, 1⟩) := by kernel_rfl
theorem built118_6 : Try.prog.built 118 [(0, .bool true), (1, .bool true), (2, .bool true), (3, .bool true), (5, .int .i64 1)] = some (Use.cells ⟨true, true, true, true, false, 1⟩) := by kernel_rfl
theorem built118_7 : Try.prog.built 118 [(0, .bool true), (5, .int .i64 1)] = some (Use.cells ⟨true, false, false, false, false, 1⟩) := by kernel_rfl
theorem built118_8 : Try.prog.built 118 [(1, .bool true), (3, .bool true)] = some (Use.cells ⟨false, true, false, true, false, 0⟩) := by kernel_rfl
theorem built118_9 : Try.prog.built 118 [(0, .bool true), (4, .bool true), (3, .bool true), (5, .int .i64 2)] = some (Use.cells ⟨true, false, false, true, true, 2⟩) := by kernel_rfl
theorem built118_10 : Try.prog.built 118 [(0, .bool true), (4, .bool true), (5, .int .i64 2)] = some (Use.cells ⟨true, false, false, false, true, 2⟩) := by kernel_rfl
theorem built118_11 : Try.prog.built 118 [(0, .bool true), (1, .bool true), (5, .int .i64 2)] = some (Use.cells ⟨true, true, false, false, false, 2⟩) := by kernel_rfl
set_option linter.unusedSimpArgs false in
set_option maxHeartbeats 4000000 in
set_option maxRecDepth 100000 in
theorem useOf_any (k : Int) (w : World) :
    Calls Try.prog 89 #[.int .i64 k] w fun e w' => e = .returned (.tuple #[.agg (useG k).cells, .bool (useS k).isSome]) ∧ Below w.heap.size w w' := by
  go_enter Try.func89, Try.ntmps89
  go_upto_region 1 with (fail)
  refine wp_world (fun W => Below w.heap.size w W ∧ W.heap[w.heap.size]? = some (.cells noUse.cells 118 (0, 0))) ⟨(Below.refl w.heap.size w).alloc (Nat.le_refl _) _, ha_new rfl⟩ ?_
  rintro W ⟨hb, h2⟩
  apply wp_region_lit
  have LZ := heap_lt h2
  refine wl_mm rfl rfl ?_
  intro W1 r hb1 hr hm
  have LW := hb.size
  replace h2 := below_look hb1 h2
  have hb0 := hb1
  have hw : W.heap.size ≤ r := hr
  have h2' : W.heap[w.heap.size]? = some (.cells noUse.cells 118 (0, 0)) := by rw [← hb1.block _ LZ]; exact h2
  clear hb1 hr h2
  simp only [Zq]
  refine wl_val rfl (ex_build 118 _ rfl (L := [(1, .bool true)]) rfl built118_1) ?_
  simp only [Zq]
  refine wl_ins (B := W.heap.size) (w0 := W) rfl _ _ 0 1 ⟨false, true, false, false, false, 0⟩ rfl rfl rfl hm (by kernel_rfl) (by kernel_rfl) hw hb0 ?_
  clear hm hb0
  intro W2 hm hb0
  rw [put_noneA]
  refine wl_val rfl (ex_build 118 _ rfl (L := [(0, .bool true), (1, .bool true)]) rfl built118_2) ?_
  simp only [Zq]
  refine wl_ins (B := W.heap.size) (w0 := W) rfl _ _ 1 2 ⟨true, true, false, false, false, 0⟩ rfl rfl rfl hm (by kernel_rfl) (by kernel_rfl) hw hb0 ?_
  clear hm hb0
  intro W3 hm hb0
  rw [put_noneA]
  refine wl_val rfl (ex_build 118 _ rfl (L := [(0, .bool true), (4, .bool true), (5, .int .i64 1)]) rfl built118_3) ?_
  simp only [Zq]
  refine wl_ins (B := W.heap.size) (w0 := W) rfl _ _ 2 3 ⟨true, false, false, false, true, 1⟩ rfl rfl rfl hm (by kernel_rfl) (by kernel_rfl) hw hb0 ?_
  clear hm hb0
  intro W4 hm hb0
  rw [put_noneA]
  refine wl_val rfl (ex_build 118 _ rfl (L := [(0, .bool true), (2, .bool true), (4, .bool true), (5, .int .i64 1)]) rfl built118_4) ?_
  simp only [Zq]
  refine wl_ins (B := W.heap.size) (w0 := W) rfl _ _ 3 4 ⟨true, false, true, false, true, 1⟩ rfl rfl rfl hm (by kernel_rfl) (by kernel_rfl) hw hb0 ?_
  clear hm hb0
  intro W5 hm hb0
  rw [put_noneA]
  refine wl_val rfl (ex_build 118 _ rfl (L := [(0, .bool true), (2, .bool true), (5, .int .i64 1)]) rfl built118_5) ?_
  simp only [Zq]
  refine wl_ins (B := W.heap.size) (w0 := W) rfl _ _ 4 5 ⟨true, false, true, false, false, 1⟩ rfl rfl rfl hm (by kernel_rfl) (by kernel_rfl) hw hb0 ?_
  clear hm hb0
  intro W6 hm hb0
  rw [put_noneA]
  refine wl_val rfl (ex_build 118 _ rfl (L := [(0, .bool true), (1, .bool true), (2, .bool true), (3, .bool true), (5, .int .i64 1)]) rfl built118_6) ?_
  simp only [Zq]
  refine wl_ins (B := W.heap.size) (w0 := W) rfl _ _ 5 6 ⟨true, true, true, true, false, 1⟩ rfl rfl rfl hm (by kernel_rfl) (by kernel_rfl) hw hb0 ?_
  clear hm hb0
  intro W7 hm hb0
  rw [put_noneA]
  refine wl_val rfl (ex_build 118 _ rfl (L := [(0, .bool true), (5, .int .i64 1)]) rfl built118_7) ?_
  simp only [Zq]
  refine wl_ins (B := W.heap.size) (w0 := W) rfl _ _ 6 7 ⟨true, false, false, false, false, 1⟩ rfl rfl rfl hm (by kernel_rfl) (by kernel_rfl) hw hb0 ?_
  clear hm hb0
  intro W8 hm hb0
  rw [put_noneA]
  refine wl_val rfl (ex_build 118 _ rfl (L := [(1, .bool true), (3, .bool true)]) rfl built118_8) ?_
  simp only [Zq]
  refine wl_ins (B := W.heap.size) (w0 := W) rfl _ _ 7 8 ⟨false, true, false, true, false, 0⟩ rfl rfl rfl hm (by kernel_rfl) (by kernel_rfl) hw hb0 ?_
  clear hm hb0
  intro W9 hm hb0
  rw [put_noneA]
  refine wl_val rfl (ex_build 118 _ rfl (L := [(0, .bool true), (4, .bool true), (3, .bool true), (5, .int .i64 2)]) rfl built118_9) ?_
  simp only [Zq]
  refine wl_ins (B := W.heap.size) (w0 := W) rfl _ _ 8 9 ⟨true, false, false, true, true, 2⟩ rfl rfl rfl hm (by kernel_rfl) (by kernel_rfl) hw hb0 ?_
  clear hm hb0
  intro W10 hm hb0
  rw [put_noneA]
  refine wl_val rfl (ex_build 118 _ rfl (L := [(0, .bool true), (4, .bool true), (5, .int .i64 2)]) rfl built118_10) ?_
  simp only [Zq]
  refine wl_ins (B := W.heap.size) (w0 := W) rfl _ _ 9 10 ⟨true, false, false, false, true, 2⟩ rfl rfl rfl hm (by kernel_rfl) (by kernel_rfl) hw hb0 ?_
  clear hm hb0
  intro W11 hm hb0
  rw [put_noneA]
  refine wl_val rfl (ex_build 118 _ rfl (L := [(0, .bool true), (1, .bool true), (5, .int .i64 2)]) rfl built118_11) ?_
  simp only [Zq]
  refine wl_ins (B := W.heap.size) (w0 := W) rfl _ _ 10 11 ⟨true, true, false, false, false, 2⟩ rfl rfl rfl hm (by kernel_rfl) (by kernel_rfl) hw hb0 ?_
  clear hm hb0
  intro W12 hm hb0
  rw [put_noneA]
  replace hb := hb.trans (hb0.mono LW)
  have h2 := below_look hb0 h2'
  have LR := heap_lt hm
  clear hb0 h2'
  go_upto_region 2 with (fail)
  apply wp_region_lit
  iterate 2 (refine wl_k rfl (fun K hK => ?_); go_simp; refine hK _ ?_; clear hK K)
  refine wl_look rfl _ _ rfl rfl rfl hm ?_
  simp only [Zq]
  iterate 3 (refine wl_k rfl (fun K hK => ?_); go_simp; refine hK _ ?_; clear hK K)
  refine wl_new (fun ev w => ex_alloc118 rfl ev w) ?_
  intro W13 p hb13 hl13 h13
  have LZ2 := heap_lt h2
  replace hb := hb.trans (hb13.mono hb.size)
  replace h2 := below_look hb13 h2
  have hpw := hb.size
  clear hb13 hm
  refine wl_putG p (useG k).cells rfl rfl 118 _ h13 info118 rfl (use_one _) ?_
  replace hb := below_setRow hb (g := p) (by omega) (useG k).cells
  replace h2 := hr_old (cs := (useG k).cells) h2 (show w.heap.size ≠ p by omega)
  have h5 := hr_new (cs := (useG k).cells) h13
  clear h13
  generalize W13.setRow p (useG k).cells = W14 at *
  rw [put_noneA]
  go_upto_region 3 with (fail)
  apply wp_region_lit
  ((with_reducible apply wl_rowG); exact rfl; exact rfl; exact rowU h5)
  simp only [Zq]
  refine wl_k rfl (fun K hK => ?_); go_simp; refine hK _ ?_; clear hK K
  refine wl_putG w.heap.size (useG k).cells rfl rfl 118 _ h2 info118 rfl (use_one _) ?_
  replace hb := below_setRow hb (g := w.heap.size) (by omega) (useG k).cells
  have h6 := hr_new (cs := (useG k).cells) h2
  clear h2
  generalize W14.setRow w.heap.size (useG k).cells = W15 at *
  rw [put_noneA]
  have RU := rowU h6
  go_wp2_with fail
  exact bodyPost_ret (res_useT rfl _ _ w.heap.size rfl h6) rfl ⟨rfl, hb⟩
def isNm (n : Int) : Bool := decide (0 ≤ n) && decide (n < 8)
theorem isName_any (n : Int) (w : World) : Calls Try.prog 80 #[.int .i64 n] w fun e w' => e = .returned (.bool (isNm n)) ∧ Below w.heap.size w w' := by
  go_enter Try.func80, Try.ntmps80
  by_cases h : 0 ≤ n
  · have hd : decide (0 ≤ n) = true := by simpa using h
    go_wp2_with fail
    go_ret
    exact ⟨by simp [isNm, h], Below.refl _ _⟩
  · have hd : decide (0 ≤ n) = false := by simpa using h
    go_wp2_with fail
    go_ret
    exact ⟨by unfold isNm; rw [hd]; rfl, Below.refl _ _⟩
/-- the form of a name's field -/
def nmOk (used : Bool) (n : Int) : Bool := (used && isNm n) || (!used && decide (n = 0))
theorem nmOk_any (used : Bool) (n : Int) (w : World) : Calls Try.prog 90 #[.bool used, .int .i64 n] w fun e w' => e = .returned (.bool (nmOk used n)) ∧ Below w.heap.size w w' := by
  go_enter Try.func90, Try.ntmps90
  cases used with
  | true =>
    go_upto_region 1 with (fail)
    apply wp_region_lit
    iterate 3 (refine wl_k rfl (fun K hK => ?_); go_simp; refine hK _ ?_; clear hK K)
    refine wl_ck rfl (fun K hK => ?_); go_simp; refine ⟨_, _, ⟨rfl, rfl⟩, hK _ _ ⟨_, isName_any n _, ?_⟩⟩; clear hK K; rintro e w1 ⟨rfl, hb1⟩; refine ⟨_, rfl, ?_⟩; simp only [Zq]
    iterate 2 (refine wl_k rfl (fun K hK => ?_); go_simp; refine hK _ ?_; clear hK K)
    cases hq : isNm n with
    | true =>
      (refine wl_skip rfl ?_; simp only [Zq])
      (refine wl_skip rfl ?_; simp only [Zq])
      (refine wl_skip rfl ?_; simp only [Zq])
      (refine wl_skip rfl ?_; simp only [Zq])
      (refine wl_skip rfl ?_; simp only [Zq])
      (refine wl_skip rfl ?_; simp only [Zq])
      iterate 2 (refine wl_k rfl (fun K hK => ?_); go_simp; refine hK _ ?_; clear hK K)
      go_wp2_with fail
      go_ret
      exact ⟨by unfold nmOk; rw [hq]; rfl, hb1⟩
    | false =>
      iterate 3 (refine wl_k rfl (fun K hK => ?_); go_simp; refine hK _ ?_; clear hK K)
      (refine wl_skip rfl ?_; simp only [Zq])
      (refine wl_skip rfl ?_; simp only [Zq])
      iterate 3 (refine wl_k rfl (fun K hK => ?_); go_simp; refine hK _ ?_; clear hK K)
      go_wp2_with fail
      go_ret
      exact ⟨by unfold nmOk; rw [hq]; rfl, hb1⟩
  | false =>
    go_upto_region 1 with (fail)
    apply wp_region_lit
    iterate 2 (refine wl_k rfl (fun K hK => ?_); go_simp; refine hK _ ?_; clear hK K)
    (refine wl_skip rfl ?_; simp only [Zq])
    (refine wl_skip rfl ?_; simp only [Zq])
    iterate 10 (refine wl_k rfl (fun K hK => ?_); go_simp; refine hK _ ?_; clear hK K)
    go_wp2_with fail
    go_ret
    exact ⟨by unfold nmOk; simp [Bool.beq_eq_decide_eq], Below.refl _ _⟩
end Go.Proofs.Ytbhdgeoljlhmcaa
