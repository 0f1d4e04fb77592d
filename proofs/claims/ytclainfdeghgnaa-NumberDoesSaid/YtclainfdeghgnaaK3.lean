/- The program's closed facts on digits and long numbers: their sizes, building, comparing, loading. -/
import Derived.Test.YtclainfdeghgnaaRows
import Derived.Test.YtclainfdeghgnaaK2
import Derived.ChangeKeysEq
import Derived.Laws.StructEq
namespace Go.Proofs.Ytclainfdeghgnaa
open Go.RowKit Nm

theorem info73 : (Try.prog.info? 73).map (·.size) = some 64 := by kernel_rfl
theorem u73 : Try.prog.underlying 73 = some (.array 64 5) := by kernel_rfl
theorem info75 : (Try.prog.info? 75).map (·.size) = some 65 := by kernel_rfl
theorem u75 : Try.prog.underlying 75 = some (.struct (Try.prog.fieldsOf 75)) := by kernel_rfl
theorem info5 : (Try.prog.info? 5).map (·.size) = some 1 := by kernel_rfl
theorem info_of {P : Program} {t : TypeId} {n : Nat} (h : (P.info? t).map (·.size) = some n) : ∃ i, P.info? t = some i ∧ i.size = n := Option.map_eq_some_iff.1 h
theorem u5 : Try.prog.underlying 5 = some (.int .u8) := by kernel_rfl
theorem u4 : Try.prog.underlying 4 = some .bool := by kernel_rfl
theorem mixed : Try.prog.follows .mixedOrders = true := by kernel_rfl
theorem cells5 : Try.prog.cellsOf 5 = 1 := by kernel_rfl
theorem guard73 : Try.prog.eqGuardType Try.prog.depth 73 = false := by kernel_rfl
theorem guard75 : Try.prog.eqGuardType Try.prog.depth 75 = false := by kernel_rfl
theorem held75 : Try.prog.stoodInHeld 75 = false := by kernel_rfl
theorem fields75 : (Try.prog.fieldsOf 75).toList.map (fun f => (f.name, f.type, f.offset)) = [("neg", 4, 0), ("d", 73, 1)] := by kernel_rfl

theorem built75 (b : Bool) (f : Nat → Nat) : Try.prog.built 75 [(0, .bool b), (1, .agg (row f))] = some (#[.bool b] ++ row f) := by kernel_rfl
theorem built73 : Try.prog.built 73 [] = some (row fun _ => 0) := by kernel_rfl
theorem built75n : Try.prog.built 75 [] = some (#[.bool false] ++ row fun _ => 0) := by kernel_rfl

theorem row_zero_dv : (row fun _ => 0) = dv 0 := row_congr fun i _ => by simp [dg]
theorem long_zero : (#[.bool false] ++ row fun _ => 0) = lv 0 := by rw [row_zero_dv]; unfold lv; rw [ng_def]; rfl

set_option maxRecDepth 10000 in
theorem zero_long : (#[.bool false, .int .u8 0, .int .u8 0, .int .u8 0, .int .u8 0, .int .u8 0, .int .u8 0, .int .u8 0, .int .u8 0, .int .u8 0, .int .u8 0, .int .u8 0, .int .u8 0, .int .u8 0, .int .u8 0, .int .u8 0, .int .u8 0, .int .u8 0, .int .u8 0, .int .u8 0, .int .u8 0, .int .u8 0, .int .u8 0, .int .u8 0, .int .u8 0, .int .u8 0, .int .u8 0, .int .u8 0, .int .u8 0, .int .u8 0, .int .u8 0, .int .u8 0, .int .u8 0, .int .u8 0, .int .u8 0, .int .u8 0, .int .u8 0, .int .u8 0, .int .u8 0, .int .u8 0, .int .u8 0, .int .u8 0, .int .u8 0, .int .u8 0, .int .u8 0, .int .u8 0, .int .u8 0, .int .u8 0, .int .u8 0, .int .u8 0, .int .u8 0, .int .u8 0, .int .u8 0, .int .u8 0, .int .u8 0, .int .u8 0, .int .u8 0, .int .u8 0, .int .u8 0, .int .u8 0, .int .u8 0, .int .u8 0, .int .u8 0, .int .u8 0, .int .u8 0] : Array Value) = lv 0 := by rw [← long_zero]; rfl

theorem eqItems_row (w : World) (d : Nat) (f g : Nat → Nat) : ∀ (is : List Nat), (∀ i ∈ is, i < 64) → (Op.eqItems (d + 1) 5 (Try.prog.cellsOf 5) (row f) (row g) is).run Try.prog w = .ok (is.all fun i => f i == g i) w
  | [], _ => by simp [Op.eqItems]
  | i :: is, h => by
    have hi := h i (by simp)
    have p1 : ∀ f : Nat → Nat, (part 5 (row f) (i * Try.prog.cellsOf 5)).run Try.prog w = .ok (.int .u8 (f i)) w := fun f =>
      run_part_plain w (by kernel_rfl) (by rw [cells5, Nat.mul_one]; exact row_get f i hi)
    simp only [Op.eqItems, Sem.run_bind, p1, Result.andThen_ok, run_equalIn_int w d 5 .u8 .u8 _ _ u5]
    by_cases e : f i = g i
    · simp [e, eqItems_row w d f g is (fun j hj => h j (by simp [hj]))]
    · have : ((f i : Int) == (g i : Int)) = false := by simp; omega
      simp [this, e]

theorem all_dg {a b : Nat} (ha : a < 10 ^ 64) (hb : b < 10 ^ 64) : ((List.range 64).all fun i => dg a i == dg b i) = decide (a = b) := by
  by_cases e : a = b
  · subst e; simp
  · rw [decide_eq_false e]
    cases h : (List.range 64).all fun i => dg a i == dg b i with
    | false => rfl
    | true =>
      exfalso; apply e
      refine eq_of_dg ha hb fun k hk => ?_
      have := List.all_eq_true.1 h k (List.mem_range.2 hk)
      simpa using this

theorem eq_digits (w : World) (d : Nat) {a b : Nat} (ha : a < 10 ^ 64) (hb : b < 10 ^ 64) : (Op.equalIn (d + 2) 73 (.agg (dv a)) (.agg (dv b))).run Try.prog w = .ok (decide (a = b)) w := by
  obtain ⟨i5, hi5, _⟩ := info_of info5
  rw [run_equalIn_array w (d + 1) _ _ u73 hi5, dv, dv, eqItems_row w d _ _ _ (fun i hi => List.mem_range.1 hi), all_dg ha hb]

theorem ex_neq73 {ev : Operand → Value} {o : Oper} {w : World} (x y : Operand) (yt : TypeId) (ho : o.op = .binOp .neq 73 x y yt) {a b : Nat} (hx : ev x = .agg (dv a)) (hy : ev y = .agg (dv b)) (ha : a < 10 ^ 64) (hb : b < 10 ^ 64) :
    (execOp ev o).run Try.prog w = .ok (.value (.bool (decide (a ≠ b)))) w := by
  unfold execOp
  simp only [ho, hx, hy, Sem.run_bind, run_eqGuard_agg w .neq 73 x y _ _ guard73, run_neq_struct, eq_digits w 9998 ha hb, Result.andThen_ok]
  simp

theorem part75_0 (w : World) (z : Int) : (part 4 (lv z) 0).run Try.prog w = .ok (.bool (ng z)) w := run_part_plain w (by kernel_rfl) (lv_neg z)
theorem part75_1 (w : World) (z : Int) : (part 73 (lv z) 1).run Try.prog w = .ok (.agg (dv z.natAbs)) w := by
  have hagg : (isAgg 73).run Try.prog w = .ok true w := by
    unfold isAgg; rw [Sem.run_bind, run_underlying u73 w]; simp
  obtain ⟨i, hi, hs⟩ := info_of info73
  simp [part, hagg, sizeOf, typeInfo, hi, hs, lv_dig]

theorem eq_long (w : World) {x y : Int} (hx : x.natAbs < 10 ^ 64) (hy : y.natAbs < 10 ^ 64) : (Op.equalIn 10000 75 (.agg (lv x)) (.agg (lv y))).run Try.prog w = .ok (decide (x = y)) w := by
  rw [run_equalIn_struct w 9999 75 _ _ u75 held75]
  have hl := fields75
  generalize (Try.prog.fieldsOf 75).toList = l at *
  obtain ⟨f0, f1, rfl⟩ : ∃ f0 f1, l = [f0, f1] := by
    have := congrArg List.length hl
    simp only [List.length_map, List.length_cons, List.length_nil] at this
    obtain ⟨f0, l, rfl⟩ := List.exists_cons_of_length_eq_add_one this
    obtain ⟨f1, l, rfl⟩ := List.exists_cons_of_length_eq_add_one (by simpa using this : l.length = 0 + 1)
    have : l = [] := by simpa using this
    exact ⟨f0, f1, by rw [this]⟩
  · simp only [List.map_cons, List.map_nil, List.cons.injEq, Prod.mk.injEq, and_true] at hl
    obtain ⟨⟨n0, t0, o0⟩, n1, t1, o1⟩ := hl
    simp only [Op.eqFields, n0, t0, o0, n1, t1, o1, Sem.run_bind, part75_0, part75_1, ng_def, Result.andThen_ok, run_equalIn_bool' w 9998 4 _ _ u4, eq_digits w 9997 hx hy, Sem.run_ite, Sem.run_pure, ne_eq]
    by_cases e : x = y
    · subst e; simp
    · rw [decide_eq_false e]
      by_cases s : (x < 0) = (y < 0)
      · have : x.natAbs ≠ y.natAbs := by
          intro h; apply e
          by_cases hx0 : x < 0
          · have : y < 0 := by rw [← s]; exact hx0
            omega
          · have : ¬ y < 0 := by rw [← s]; exact hx0
            omega
        simp [s, this]
      · have : (decide (x < 0) == decide (y < 0)) = false := by
          simp only [beq_eq_false_iff_ne, ne_eq, decide_eq_decide]
          intro h; exact s (propext h)
        simp [this]

theorem ex_neq75 {ev : Operand → Value} {o : Oper} {w : World} (x y : Operand) (yt : TypeId) (ho : o.op = .binOp .neq 75 x y yt) {a b : Int} (hx : ev x = .agg (lv a)) (hy : ev y = .agg (lv b)) (ha : a.natAbs < 10 ^ 64) (hb : b.natAbs < 10 ^ 64) :
    (execOp ev o).run Try.prog w = .ok (.value (.bool (decide (a ≠ b)))) w := by
  unfold execOp
  simp only [ho, hx, hy, Sem.run_bind, run_eqGuard_agg w .neq 75 x y _ _ guard75, run_neq_struct, eq_long w ha hb, Result.andThen_ok]
  simp
theorem ex_eql75 {ev : Operand → Value} {o : Oper} {w : World} (x y : Operand) (yt : TypeId) (ho : o.op = .binOp .eql 75 x y yt) {a b : Int} (hx : ev x = .agg (lv a)) (hy : ev y = .agg (lv b)) (ha : a.natAbs < 10 ^ 64) (hb : b.natAbs < 10 ^ 64) :
    (execOp ev o).run Try.prog w = .ok (.value (.bool (decide (a = b)))) w := by
  unfold execOp
  simp only [ho, hx, hy, Sem.run_bind, run_eqGuard_agg w .eql 75 x y _ _ guard75, run_eql_struct, eq_long w ha hb, Result.andThen_ok]
  simp

theorem ex_build {ev : Operand → Value} {o : Oper} {w : World} (t : TypeId) (parts : Array (Nat × Operand)) (ho : o.op = .build t parts) {D : Array Value} {L : List (Nat × Value)}
    (hL : parts.toList.map (fun ix => (ix.1, ev ix.2)) = L) (hb : Try.prog.built t L = some D) : (execOp ev o).run Try.prog w = .ok (.value (.agg D)) w := by
  unfold execOp
  have := run_build (P := Try.prog) w t (parts.map fun (i, x) => (i, ev x)) D (by rw [Array.toList_map]; exact (congrArg _ hL).trans hb)
  simp only [ho, Sem.run_bind, this, Result.andThen_ok]
  rfl

theorem built_sg (s : Bool) (n : Nat) : Try.prog.built 75 [(0, .bool (s && decide (n ≠ 0))), (1, .agg (dv n))] = some (lv (sg s n)) := by
  rw [lv_sg]; exact built75 _ (dg n)
theorem built_zero : Try.prog.built 73 [] = some (dv 0) := by rw [← row_zero_dv]; exact built73
theorem built_lzero : Try.prog.built 75 [] = some (lv 0) := by rw [← long_zero]; exact built75n
/-- A whole long number into a block of its size. -/
theorem wl_stLong {ops : Array Oper} {rest : List Oper} {o : Oper} {a : Act} {w : World} {Q : Exit → Act → World → Prop} (hg : o.guard = none) (x y : Operand) (ho : o.op = .store 75 x y) (b : Nat) (hx : a.eval x = .pointer (some ⟨b, 0, none⟩)) {z q : Int} (hy : a.eval y = .agg (lv z))
    (hb : w.heap[b]? = some (.cells (lv q) 75 (0, 0))) (h : wpList Try.prog ops Q rest (a.put o.dst undef) (w.setRow b (lv z))) : wpList Try.prog ops Q (o :: rest) a w :=
  wpList_store_row hg 75 x y ho b (lv z) hx hy 75 (lv q) hb (by rw [info75, lv_size]) (by rw [lv_size, lv_size]) (lv_one z) h
theorem wl_stDig {ops : Array Oper} {rest : List Oper} {o : Oper} {a : Act} {w : World} {Q : Exit → Act → World → Prop} (hg : o.guard = none) (x y : Operand) (ho : o.op = .store 73 x y) (b : Nat) (hx : a.eval x = .pointer (some ⟨b, 0, none⟩)) {z : Nat} {f : Nat → Nat} (hy : a.eval y = .agg (dv z))
    (hb : w.heap[b]? = some (.cells (row f) 73 (0, 0))) (h : wpList Try.prog ops Q rest (a.put o.dst undef) (w.setRow b (dv z))) : wpList Try.prog ops Q (o :: rest) a w :=
  wpList_store_row hg 73 x y ho b (dv z) hx hy 73 (row f) hb (by rw [info73, dv_size]) (by rw [dv_size, row_size]) (dv_one z) h
/-- A result that lies in a block. -/
theorem res_long {fn : Func} {p : Tmp} (h : fn.results = #[.cell p 75]) (tmps : Array Value) (w : World) (g : Nat) (hp : tmps.getD p undef = .pointer (some ⟨g, 0, none⟩)) {z : Int} (hg : w.heap[g]? = some (.cells (lv z) 75 (0, 0))) : (results fn tmps).run Try.prog w = .ok (.agg (lv z)) w :=
  results_cell_row h tmps w g 75 (lv z) (0, 0) _ hp hg u75 rfl (by rw [info75, lv_size])
theorem res_dig {fn : Func} {p : Tmp} (h : fn.results = #[.cell p 73]) (tmps : Array Value) (w : World) (g : Nat) (hp : tmps.getD p undef = .pointer (some ⟨g, 0, none⟩)) {z : Nat} (hg : w.heap[g]? = some (.cells (dv z) 73 (0, 0))) : (results fn tmps).run Try.prog w = .ok (.agg (dv z)) w :=
  results_cell_row h tmps w g 73 (dv z) (0, 0) _ hp hg u73 rfl (by rw [info73, dv_size])
/-- Loads, in the forms in which the functions meet them. -/
theorem ld_long {ev : Operand → Value} {o : Oper} {w : World} (x : Operand) (ho : o.op = .load 75 x) (b : Nat) (hx : ev x = .pointer (some ⟨b, 0, none⟩)) {z : Int} {t : TypeId} {fr : Nat × Nat} (hb : w.heap[b]? = some (.cells (lv z) t fr)) :
    (execOp ev o).run Try.prog w = .ok (.value (.agg (lv z))) w := by
  exact ex_loadMid 75 x ho b 0 65 hx hb (lv_whole z) u75 rfl (lv_size z) info75
theorem ld_dig {ev : Operand → Value} {o : Oper} {w : World} (x : Operand) (ho : o.op = .load 73 x) (b : Nat) (hx : ev x = .pointer (some ⟨b, 1, none⟩)) {z : Int} {t : TypeId} {fr : Nat × Nat} (hb : w.heap[b]? = some (.cells (lv z) t fr)) :
    (execOp ev o).run Try.prog w = .ok (.value (.agg (dv z.natAbs))) w :=
  ex_loadMid 73 x ho b 1 64 hx hb (lv_dig z) u73 rfl (dv_size _) info73
theorem ld_row {ev : Operand → Value} {o : Oper} {w : World} (x : Operand) (ho : o.op = .load 73 x) (b : Nat) (hx : ev x = .pointer (some ⟨b, 0, none⟩)) {n : Nat} {t : TypeId} {fr : Nat × Nat} (hb : w.heap[b]? = some (.cells (dv n) t fr)) :
    (execOp ev o).run Try.prog w = .ok (.value (.agg (dv n))) w :=
  ex_loadMid 73 x ho b 0 64 hx hb (dv_whole n) u73 rfl (dv_size _) info73
theorem ld_neg {ev : Operand → Value} {o : Oper} {w : World} (x : Operand) (ho : o.op = .load 4 x) (b : Nat) (hx : ev x = .pointer (some ⟨b, 0, none⟩)) {z : Int} {t : TypeId} {fr : Nat × Nat} (hb : w.heap[b]? = some (.cells (lv z) t fr)) :
    (execOp ev o).run Try.prog w = .ok (.value (.bool (ng z))) w :=
  ex_load1 4 x ho ⟨b, 0, none⟩ hx (by rw [cell_of_row _ _ _ _ _ _ hb]; exact lv_neg z) u4 rfl

/-- What a load of many cells hands back; of one. -/
@[irreducible] def RowAt (w : World) (ty : TypeId) (ad : Addr) (D : Array Value) : Prop := (loadVar ty ad).run Try.prog w = .ok (.agg D) w
@[irreducible] def OneAt (w : World) (ty : TypeId) (ad : Addr) (v : Value) : Prop := (loadVar ty ad).run Try.prog w = .ok v w
theorem ex_row {ev : Operand → Value} {dst : Option Tmp} {ty ty' : TypeId} {x : Operand} {pos : String} {after : Array Edge} {g : Option (Nat × Bool)} {w : World} {ad : Addr} {D : Array Value} (hx : ev x = .pointer (some ad)) (hr : RowAt w ty ad D) :
    (execOp ev ⟨dst, .load ty x, ty', pos, after, g⟩).run Try.prog w = .ok (.value (.agg D)) w := by
  unfold execOp
  simp only [hx, Instr.loadAt, Instr.sureAddr, Sem.run_bind, Sem.run_pure, Result.andThen_ok]
  unfold RowAt at hr
  rw [hr]
  rfl
theorem ex_one {ev : Operand → Value} {dst : Option Tmp} {ty ty' : TypeId} {x : Operand} {pos : String} {after : Array Edge} {g : Option (Nat × Bool)} {w : World} {ad : Addr} {v : Value} (hx : ev x = .pointer (some ad)) (hr : OneAt w ty ad v) :
    (execOp ev ⟨dst, .load ty x, ty', pos, after, g⟩).run Try.prog w = .ok (.value v) w := by
  unfold execOp
  simp only [hx, Instr.loadAt, Instr.sureAddr, Sem.run_bind, Sem.run_pure, Result.andThen_ok]
  unfold OneAt at hr
  rw [hr]
  rfl
section
variable {ops : Array Oper} {rest : List Oper} {dst : Option Tmp} {ty ty' : TypeId} {x : Operand} {pos : String} {after : Array Edge} {g : Option (Nat × Bool)} {a : Act} {w : World} {Q : Exit → Act → World → Prop} {q : Act → Prop} {C : World → Prop} {ad : Addr} {D : Array Value} {v : Value}
theorem wl_row (hx : a.eval x = .pointer (some ad)) (hr : RowAt w ty ad D) (h : wpList Try.prog ops Q rest (a.put dst (.agg D)) w) : wpList Try.prog ops Q (⟨dst, .load ty x, ty', pos, after, none⟩ :: rest) a w := wl_val rfl (ex_row hx hr) h
theorem wl_one (hx : a.eval x = .pointer (some ad)) (hr : OneAt w ty ad v) (h : wpList Try.prog ops Q rest (a.put dst v) w) : wpList Try.prog ops Q (⟨dst, .load ty x, ty', pos, after, none⟩ :: rest) a w := wl_val rfl (ex_one hx hr) h
theorem wq_row (hg : Region.wanted ⟨dst, .load ty x, ty', pos, after, g⟩ (yielded ops a.tmps) = true) (hx : a.eval x = .pointer (some ad)) (hr : ∀ w', C w' → RowAt w' ty ad D) (h : wpQuiet Try.prog ops C q rest (a.put dst (.agg D))) : wpQuiet Try.prog ops C q (⟨dst, .load ty x, ty', pos, after, g⟩ :: rest) a := wq_valG hg (fun w' hw' => ex_row hx (hr w' hw')) h
theorem wq_one (hg : Region.wanted ⟨dst, .load ty x, ty', pos, after, g⟩ (yielded ops a.tmps) = true) (hx : a.eval x = .pointer (some ad)) (hr : ∀ w', C w' → OneAt w' ty ad v) (h : wpQuiet Try.prog ops C q rest (a.put dst v)) : wpQuiet Try.prog ops C q (⟨dst, .load ty x, ty', pos, after, g⟩ :: rest) a := wq_valG hg (fun w' hw' => ex_one hx (hr w' hw')) h
end
theorem row_mid {w : World} {ty : TypeId} {b off n : Nat} {Cs : Array Value} {t : TypeId} {fr : Nat × Nat} (hb : w.heap[b]? = some (.cells Cs t fr)) {D : Array Value} (hD : Cs.extract off (off + n) = D) {d : TypeDesc}
    (hu : Try.prog.underlying ty = some d) (hd : d.isRow = true) (hn : D.size = n) (hi : (Try.prog.info? ty).map (·.size) = some n) : RowAt w ty ⟨b, off, none⟩ D := by
  have h := World.rangeAt_of_block hb off n
  rw [hD] at h
  have := run_loadVar_mid (P := Try.prog) w b off ty D.toList d h hu hd (by rw [hi]; simp [hn])
  unfold RowAt
  rw [this]
theorem rowL {w : World} {b : Nat} {z : Int} {t : TypeId} {fr : Nat × Nat} (hb : w.heap[b]? = some (.cells (lv z) t fr)) : RowAt w 75 ⟨b, 0, none⟩ (lv z) := row_mid hb (lv_whole z) u75 rfl (lv_size z) info75
theorem rowD {w : World} {b : Nat} {z : Int} {t : TypeId} {fr : Nat × Nat} (hb : w.heap[b]? = some (.cells (lv z) t fr)) : RowAt w 73 ⟨b, 1, none⟩ (dv z.natAbs) := row_mid hb (lv_dig z) u73 rfl (dv_size _) info73
theorem rowR {w : World} {b : Nat} {n : Nat} {t : TypeId} {fr : Nat × Nat} (hb : w.heap[b]? = some (.cells (dv n) t fr)) : RowAt w 73 ⟨b, 0, none⟩ (dv n) := row_mid hb (dv_whole n) u73 rfl (dv_size _) info73
theorem oneN {w : World} {b : Nat} {z : Int} {t : TypeId} {fr : Nat × Nat} (hb : w.heap[b]? = some (.cells (lv z) t fr)) : OneAt w 4 ⟨b, 0, none⟩ (.bool (ng z)) := by
  have hc : w.cell? ⟨b, 0, none⟩ = some (.bool (ng z)) := by rw [cell_of_row _ _ _ _ _ _ hb]; exact lv_neg z
  have hagg : (isAgg 4).run Try.prog w = .ok false w := by unfold isAgg; rw [Sem.run_bind, run_underlying u4 w]; simp
  unfold OneAt
  simp [loadVar, hagg, load, Sem.run, hc]
/-- Stores of many cells. -/
theorem wl_stL {ops : Array Oper} {rest : List Oper} {dst : Option Tmp} {ty' : TypeId} {x y : Operand} {pos : String} {after : Array Edge} {a : Act} {w : World} {Q : Exit → Act → World → Prop} {b : Nat} {z q : Int} (hx : a.eval x = .pointer (some ⟨b, 0, none⟩)) (hy : a.eval y = .agg (lv z))
    (hb : w.heap[b]? = some (.cells (lv q) 75 (0, 0))) (h : wpList Try.prog ops Q rest (a.put dst undef) (w.setRow b (lv z))) : wpList Try.prog ops Q (⟨dst, .store 75 x y, ty', pos, after, none⟩ :: rest) a w :=
  wl_stLong rfl x y rfl b hx hy hb h
theorem wl_stR {ops : Array Oper} {rest : List Oper} {dst : Option Tmp} {ty' : TypeId} {x y : Operand} {pos : String} {after : Array Edge} {a : Act} {w : World} {Q : Exit → Act → World → Prop} {b : Nat} {z n : Nat} (hx : a.eval x = .pointer (some ⟨b, 0, none⟩)) (hy : a.eval y = .agg (dv z))
    (hb : w.heap[b]? = some (.cells (dv n) 73 (0, 0))) (h : wpList Try.prog ops Q rest (a.put dst undef) (w.setRow b (dv z))) : wpList Try.prog ops Q (⟨dst, .store 73 x y, ty', pos, after, none⟩ :: rest) a w :=
  wl_stDig rfl x y rfl b hx hy hb h
end Go.Proofs.Ytclainfdeghgnaa
