/- S33, S34 in one text. -/
import Derived.Test.YtbhdgeoljlhmcaaS32
import Derived.Outline
/- Scripts in memory; whether a script is heavy, by the law; rows beside a store. -/
namespace Go.Proofs.Ytbhdgeoljlhmcaa
open Go.RowKit Go.Proofs.Ytbhdgeoljlhmcaa.Nm Go.Proofs.Ytbhdgeoljlhmcaa.St
/-- a script in memory -/
def OpsAt (w : World) (A : Option Addr) (n : Nat) (l : List OpV) : Prop := l.length = n ∧ ∀ (i : Nat) (o : OpV), l[i]? = some o → ∃ (b off : Nat) (Cs : Array Value) (t : TypeId) (fr : Nat × Nat), A = some ⟨b, off, none⟩ ∧ w.heap[b]? = some (.cells Cs t fr) ∧ Cs.extract (off + i * 6) (off + i * 6 + 6) = o.cells
theorem OpsAt.below {w w' : World} {A : Option Addr} {n : Nat} {l : List OpV} (h : OpsAt w A n l) (hb : Below w.heap.size w w') : OpsAt w' A n l :=
  ⟨h.1, fun i o ho => by obtain ⟨b, off, Cs, t, fr, h1, h2, h3⟩ := h.2 i o ho; exact ⟨b, off, Cs, t, fr, h1, below_look hb h2, h3⟩⟩
theorem u22 : Try.prog.underlying 22 = some (.slice 39) := by kernel_rfl
theorem OpsAt.row {w : World} {b off n : Nat} {l : List OpV} (h : OpsAt w (some ⟨b, off, none⟩) n l) {i : Nat} {o : OpV} (hi : l[i]? = some o) : RowAt w 39 ⟨b, off + i * 6, none⟩ o.cells := by
  obtain ⟨b', off', Cs, t, fr, h1, h2, h3⟩ := h.2 i o hi
  cases h1
  exact row_mid h2 h3 u39 rfl rfl info39
theorem OpsAt.addr {w : World} {A : Option Addr} {n : Nat} {l : List OpV} (h : OpsAt w A n l) {i : Nat} (hi : i < n) : ∃ b off, A = some ⟨b, off, none⟩ := by
  obtain ⟨b', off', Cs, t, fr, h1, h2, h3⟩ := h.2 i _ (List.getElem?_eq_getElem (show i < l.length by rw [h.1]; exact hi))
  exact ⟨b', off', h1⟩
theorem OpsAt.key {w : World} {b off n : Nat} {l : List OpV} (h : OpsAt w (some ⟨b, off, none⟩) n l) {i : Nat} {o : OpV} (hi : l[i]? = some o) : w.cell? ⟨b, off + i * 6 + 5, none⟩ = some (.string o.key) := by
  obtain ⟨b', off', Cs, t, fr, h1, h2, h3⟩ := h.2 i o hi
  cases h1
  have h4 : (Cs.extract (off + i * 6) (off + i * 6 + 6))[5]? = some (.string o.key) := by rw [h3]; rfl
  rw [Array.getElem?_extract] at h4
  split at h4
  · unfold World.cell?
    rw [h2]
    simpa using h4
  · cases h4
set_option maxHeartbeats 2000000 in
set_option maxRecDepth 100000 in
theorem heavy_any (A : Option Addr) (n c : Nat) (l : List OpV) (w : World) (h : OpsAt w A n l) :
    Calls Try.prog 13 #[.slice A n c] w fun e w' => ∃ b, e = .returned (.bool b) ∧ (b = false → n ≤ 200) ∧ Below w.heap.size w w' := by
  have HO := Lib.hid h
  clear h
  go_enter Try.func13, Try.ntmps13
  go_wp2_with fail
  go_loopw [3, 4] (fun m i wr => ∃ (j k : Nat), j ≤ n ∧ j ≤ 200 ∧ k ≤ 8000 ∧ i = .int .i64 (j : Int) ∧ m = .int .i64 (k : Int) ∧ Below w.heap.size w wr) (fun _ i _ => n - (intOf i).toNat)
  case atStart => exact ⟨0, 0, by omega, by omega, by omega, rfl, rfl, Below.refl _ _⟩
  case round =>
    obtain ⟨j, k, hj, hj2, hk, rfl, rfl, hb⟩ := hrel
    by_cases hlt : j < n
    · have hltI : (j : Int) < (n : Int) := by omega
      by_cases h200 : j = 200
      · have hd : ((j : Int) == 200) = true := by simp; omega
        go_wp2_with fail
        go_ret
        exact ⟨_, rfl, by simp, hb⟩
      · have hd : ((j : Int) == 200) = false := by simp; omega
        obtain ⟨b, off, rfl⟩ := HO.out.addr hlt
        obtain ⟨o, ho⟩ : ∃ o, l[j]? = some o := ⟨_, List.getElem?_eq_getElem (by rw [HO.out.1]; exact hlt)⟩
        have hkey := below_cell hb (HO.out.key ho)
        have hwr : IntKind.i64.wrap (8000 - (k : Int)) = 8000 - (k : Int) := wrap_small _ (by omega) (by omega)
        clear ho
        by_cases hgt : 8000 - (k : Int) < (o.key.size : Int)
        · go_wp2_with fail
          go_ret
          exact ⟨_, rfl, by simp, hb⟩
        · have hwr2 : IntKind.i64.wrap ((k : Int) + (o.key.size : Int)) = ((k + o.key.size : Nat) : Int) := by rw [wrap_small _ (by omega) (by omega)]; omega
          go_wp2_with fail
          go_roundw
          case rel => exact ⟨j + 1, k + o.key.size, by omega, by omega, by omega, by go_num, by first | rfl | (rw [hwr2]) | (congr 1), hb⟩
          case measure => simp [intOf]; omega
    · obtain rfl : j = n := by omega
      go_wp2_with fail
      go_ret
      exact ⟨_, rfl, fun _ => by omega, hb⟩
end Go.Proofs.Ytbhdgeoljlhmcaa
/- A script played, by the program. -/
namespace Go.Proofs.Ytbhdgeoljlhmcaa
open Go.RowKit Go.Proofs.Ytbhdgeoljlhmcaa.Nm Go.Proofs.Ytbhdgeoljlhmcaa.St
set_option linter.unusedSimpArgs false
theorem u25 : Try.prog.underlying 25 = some (.slice 33) := by kernel_rfl
theorem u24 : Try.prog.underlying 24 = some (.slice 32) := by kernel_rfl
theorem u33 : Try.prog.underlying 33 = some (.int .i64) := by kernel_rfl
theorem info33b : (Try.prog.info? 33).map (fun i => (i.zero, i.size, i.bytes)) = some (some (.int .i64 0), 1, 8) := by kernel_rfl
theorem info32b : (Try.prog.info? 32).map (fun i => (i.zero, i.size, i.bytes)) = some (some (.agg (icells 0 (.slice none 0 0) 0 (.slice none 0 0))), 4, 64) := by kernel_rfl
def ints (l : List Int) : List Value := l.map (.int .i64)
theorem ints_length (l : List Int) : (ints l).length = l.length := by simp [ints]
/-- a value's own block is none of a store's -/
def Clear (s : Nat) (rs : List Row) (v : Value) : Prop := ∀ q, v.ownBlock = some q → ¬ Foot s rs q
theorem Clear.ran {s : Nat} {rs rs' : List Row} {w w' : World} {v : Value} (h : Clear s rs v) (hl : ∀ q, v.ownBlock = some q → q < w.heap.size) (hr : Ran s rs w rs' w') : Clear s rs' v := fun q hq hf => by
  rcases hr.foot q hf with e | e
  · exact h q hq e
  · have := hl q hq; omega
theorem own_lt {w : World} {b n : Nat} {e : TypeId} {size : Nat} {v : Value} {xs : List Value} (h : w.ownsRow b e size v n xs) : ∀ q, v.ownBlock = some q → q < w.heap.size := fun q hq => by
  obtain ⟨_, c, hc⟩ := own_block h hq
  exact heap_lt hc
theorem own_ran {s : Nat} {rs rs' : List Row} {w w' : World} {b n : Nat} {e : TypeId} {size : Nat} {v : Value} {xs : List Value} (h : w.ownsRow b e size v n xs) (hc : Clear s rs v) (hr : Ran s rs w rs' w') : w'.ownsRow b e size v n xs :=
  own_same h (fun q hq he => hr.block q hq (hc q he))
theorem run_bs25_1 (k : Int) (w : World) : (Instr.buildSlice 25 1 #[(0, .int .i64 k)]).run Try.prog w = .ok (.slice (some ⟨w.heap.size, 0, none⟩) 1 1) (w.alloc (.cells #[.int .i64 k] 33)) := by kernel_rfl
theorem ex_bs25_1 {ev : Operand → Value} {o : Oper} {w : World} (x : Operand) (ho : o.op = .buildSlice 25 1 #[(0, x)]) {k : Int} (hx : ev x = .int .i64 k) :
    (execOp ev o).run Try.prog w = .ok (.value (.slice (some ⟨w.heap.size, 0, none⟩) 1 1)) (w.alloc (.cells #[.int .i64 k] 33)) := by
  unfold execOp
  simp [ho, hx, run_bs25_1 k w, Result.andThen]
theorem ex_app {ev : Operand → Value} {op : Oper} {w w' : World} {v v' s : Value} {T : TypeId} (x y : Operand) (ho : op.op = .call { callee := .builtin .append, args := #[x, y], argTypes := #[T, T] }) (hx : ev x = v) (hy : ev y = s)
    (hr : (Builtin.append_ #[T, T] op.type #[v, s]).run Try.prog w = .ok v' w') : (execOp ev op).run Try.prog w = .ok (.value v') w' := by
  unfold execOp
  simp only [ho, resolve, invoke, builtin, Sem.run_bind, Sem.run_pure, Result.andThen_ok, List.map_toArray, List.map_cons, List.map_nil, hx, hy, hr]
theorem cells_at {w : World} {q : Nat} {cs : List Value} {t : TypeId} (h : w.heap[q]? = some (.cells cs.toArray t (0, 0))) : ∀ j u, cs[j]? = some u → w.cell? ((⟨q, 0, none⟩ : Addr).add j) = some u := fun j u hj => by
  rw [Addr.add_mid, Nat.zero_add, cell_of_row _ _ _ _ _ _ h]
  simpa using hj
theorem run_push25 {w : World} {B n : Nat} {v : Value} {l : List Int} (k : Int) (ty : TypeId) (ho : w.ownsRow B 33 1 v n (ints l)) (hB : B ≤ w.heap.size) (h1 : n ≤ 1000000) :
    ∃ v' w', (Builtin.append_ #[25, 25] ty #[v, .slice (some ⟨w.heap.size, 0, none⟩) 1 1]).run Try.prog (w.alloc (.cells #[.int .i64 k] 33)) = .ok v' w' ∧ w'.ownsRow B 33 1 v' (n + 1) (ints (l ++ [k])) ∧ (w.alloc (.cells #[.int .i64 k] 33)).grownBy w' v.ownBlock ∧ (v'.ownBlock = v.ownBlock ∨ v'.ownBlock = some (w.heap.size + 1)) := by
  obtain ⟨i0, hi, hz0, hz1, hz2⟩ := info_parts info33b
  have hb := (Below.refl w.heap.size w).alloc (Nat.le_refl _) (.cells #[.int .i64 k] 33)
  have e : (w.alloc (.cells #[.int .i64 k] 33)).heap.size = w.heap.size + 1 := by simp
  obtain ⟨v', w', hr, h3, h4, _, h5⟩ := run_append_own_at (P := Try.prog) (w.alloc (.cells #[.int .i64 k] 33)) B 25 ty 33 i0 _ 1 8 u25 hi hz0 hz1 hz2 rfl (by decide) v n (ints l) (own_below ho hb) ⟨w.heap.size, 0, none⟩ 1 1 [.int .i64 k] rfl (cells_at (ha_new rfl)) (by intro u hu; simp at hu; subst hu; rfl) (by unfold maxLen; omega) (by omega) (by omega)
  refine ⟨v', w', hr, by unfold ints at *; rw [List.map_append]; exact h3, h4, by rwa [e] at h5⟩
/-- items as cells -/
def itRow : List Buf → List (Value × Value) → List Value
  | b :: bs, p :: ps => (icells b.kd p.1 b.seed p.2).toList ++ itRow bs ps
  | _, _ => []
theorem itRow_snoc (b : Buf) (p : Value × Value) : ∀ (bs : List Buf) (ps : List (Value × Value)), bs.length = ps.length → itRow (bs ++ [b]) (ps ++ [p]) = itRow bs ps ++ (icells b.kd p.1 b.seed p.2).toList
  | [], [], _ => by simp [itRow]
  | x :: bs, y :: ps, h => by simp only [List.cons_append, itRow, itRow_snoc b p bs ps (by simpa using h), List.append_assoc]
  | [], y :: ps, h => by simp at h
  | x :: bs, [], h => by simp at h
/-- a list of items in memory of the call's own -/
def ItemsAt (w : World) (B : Nat) (v : Value) (bs : List Buf) : Prop := ∃ ps : List (Value × Value), ps.length = bs.length ∧ w.ownsRow B 32 4 v bs.length (itRow bs ps) ∧
  ∀ (i : Nat) (b : Buf) (p : Value × Value), bs[i]? = some b → ps[i]? = some p → w.ownsRow B 9 1 p.1 b.l.length (strs b.l) ∧ w.ownsRow B 91 2 p.2 (pairsT b.t).length (prow (pairsT b.t))
theorem ItemsAt.below {w w' : World} {B : Nat} {v : Value} {bs : List Buf} (h : ItemsAt w B v bs) (hb : Below w.heap.size w w') : ItemsAt w' B v bs := by
  obtain ⟨ps, h1, h2, h3⟩ := h
  exact ⟨ps, h1, own_below h2 hb, fun i b p hi hp => ⟨own_below (h3 i b p hi hp).1 hb, own_below (h3 i b p hi hp).2 hb⟩⟩
theorem ItemsAt.weak {w : World} {B B' : Nat} {v : Value} {bs : List Buf} (h : ItemsAt w B v bs) (hb : B' ≤ B) : ItemsAt w B' v bs := by
  obtain ⟨ps, h1, h2, h3⟩ := h
  exact ⟨ps, h1, own_weak h2 hb, fun i b p hi hp => ⟨own_weak (h3 i b p hi hp).1 hb, own_weak (h3 i b p hi hp).2 hb⟩⟩
theorem itemsAt_nil (w : World) (B : Nat) : ItemsAt w B (.slice none 0 0) [] := ⟨[], rfl, ⟨rfl, Or.inl ⟨rfl, rfl⟩⟩, fun i b p hi => by simp at hi⟩
theorem run_bs24_1 (kd seed : Int) (A : Option Addr) (n c : Nat) (A2 : Option Addr) (n2 c2 : Nat) (w : World) : (Instr.buildSlice 24 1 #[(0, .agg (icells kd (.slice A n c) seed (.slice A2 n2 c2)))]).run Try.prog w = .ok (.slice (some ⟨w.heap.size, 0, none⟩) 1 1) (w.alloc (.cells (icells kd (.slice A n c) seed (.slice A2 n2 c2)) 32)) := by kernel_rfl
theorem ex_bs24_1 {ev : Operand → Value} {o : Oper} {w : World} (x : Operand) (ho : o.op = .buildSlice 24 1 #[(0, x)]) {kd seed : Int} {A : Option Addr} {n c : Nat} {A2 : Option Addr} {n2 c2 : Nat} (hx : ev x = .agg (icells kd (.slice A n c) seed (.slice A2 n2 c2))) :
    (execOp ev o).run Try.prog w = .ok (.value (.slice (some ⟨w.heap.size, 0, none⟩) 1 1)) (w.alloc (.cells (icells kd (.slice A n c) seed (.slice A2 n2 c2)) 32)) := by
  unfold execOp
  simp [ho, hx, run_bs24_1, Result.andThen]
theorem ItemAt.shape {w : World} {B : Nat} {v : Value} {b : Buf} (h : ItemAt w B v b) : ∃ (A : Option Addr) (c : Nat) (A2 : Option Addr) (c2 : Nat), v = .agg (icells b.kd (.slice A b.l.length c) b.seed (.slice A2 (pairsT b.t).length c2)) ∧
    w.ownsRow B 9 1 (.slice A b.l.length c) b.l.length (strs b.l) ∧ w.ownsRow B 91 2 (.slice A2 (pairsT b.t).length c2) (pairsT b.t).length (prow (pairsT b.t)) := by
  obtain ⟨lv, pv, rfl, h2, h3⟩ := h
  obtain ⟨A, c, rfl⟩ := own_shape h2
  obtain ⟨A2, c2, rfl⟩ := own_shape h3
  exact ⟨A, c, A2, c2, rfl, h2, h3⟩
/-- an item pushed behind a list of items -/
theorem run_push24 {w : World} {B : Nat} {v : Value} {bs : List Buf} {b : Buf} {A : Option Addr} {c : Nat} {A2 : Option Addr} {c2 : Nat} (ty : TypeId) (ho : ItemsAt w B v bs) (hB : B ≤ w.heap.size) (h1 : bs.length ≤ 1000000)
    (hl : w.ownsRow B 9 1 (.slice A b.l.length c) b.l.length (strs b.l)) (hp : w.ownsRow B 91 2 (.slice A2 (pairsT b.t).length c2) (pairsT b.t).length (prow (pairsT b.t))) :
    ∃ v' w', (Builtin.append_ #[24, 24] ty #[v, .slice (some ⟨w.heap.size, 0, none⟩) 1 1]).run Try.prog (w.alloc (.cells (icells b.kd (.slice A b.l.length c) b.seed (.slice A2 (pairsT b.t).length c2)) 32)) = .ok v' w' ∧ ItemsAt w' B v' (bs ++ [b]) ∧ Below B w w' := by
  obtain ⟨i0, hi, hz0, hz1, hz2⟩ := info_parts info32b
  obtain ⟨ps, hps, hr, hall⟩ := ho
  have hb := (Below.refl w.heap.size w).alloc (Nat.le_refl _) (.cells (icells b.kd (.slice A b.l.length c) b.seed (.slice A2 (pairsT b.t).length c2)) 32)
  obtain ⟨v', w', h2, h3, h4, _, h5⟩ := run_append_own_at (P := Try.prog) (w.alloc (.cells (icells b.kd (.slice A b.l.length c) b.seed (.slice A2 (pairsT b.t).length c2)) 32)) B 24 ty 32 i0 _ 4 64 u24 hi hz0 hz1 hz2 rfl (by decide) v bs.length (itRow bs ps) (own_below hr hb) ⟨w.heap.size, 0, none⟩ 1 1 (icells b.kd (.slice A b.l.length c) b.seed (.slice A2 (pairsT b.t).length c2)).toList rfl (cells_at (ha_new rfl))
    (by intro u hu; simp [icells] at hu; rcases hu with rfl | rfl | rfl | rfl <;> rfl) (by unfold maxLen; omega) (by omega) (by have := hb.size; omega)
  have hsame : ∀ q, q < w.heap.size → v.ownBlock ≠ some q → w'.heap[q]? = w.heap[q]? := fun q hq hne => by
    rw [h4.block q (Nat.lt_of_lt_of_le hq hb.size) (fun e => hne e.symm), hb.block q hq]
  have hoth : ∀ {e : TypeId} {size n : Nat} {x : Value} {xs : List Value}, w.ownsRow B e size x n xs → e ≠ 32 → w'.ownsRow B e size x n xs := fun h he => own_same h (fun q hq hx => hsame q hq (fun e2 => by
    obtain ⟨_, c1, hc1⟩ := own_block h hx
    obtain ⟨_, c2, hc2⟩ := own_block hr e2
    rw [hc1] at hc2; simp only [Option.some.injEq, Obj.cells.injEq] at hc2; exact he hc2.2.1))
  refine ⟨v', w', h2, ⟨ps ++ [(.slice A b.l.length c, .slice A2 (pairsT b.t).length c2)], by simp [hps], by rw [itRow_snoc _ _ _ _ hps.symm, List.length_append]; exact h3, fun i x p hi hp2 => ?_⟩, (hb.mono hB).grown h4 (by have := hb.size; omega) (fun q hq => (own_block hr hq).1)⟩
  by_cases e : i < bs.length
  · rw [List.getElem?_append_left e] at hi
    rw [List.getElem?_append_left (by omega)] at hp2
    exact ⟨hoth (hall i x p hi hp2).1 (by decide), hoth (hall i x p hi hp2).2 (by decide)⟩
  · rw [List.getElem?_append_right (by omega)] at hi hp2
    have e1 := List.mem_of_getElem? hi
    have e2 := List.mem_of_getElem? hp2
    simp at e1 e2
    subst e1 e2
    exact ⟨hoth hl (by decide), hoth hp (by decide)⟩
/-- the store behind the first operations of a script, and the errors, at most 200 operations -/
def stA (l : List OpV) : Nat → Sto
  | 0 => newA
  | j + 1 => match l[j]? with
    | none => stA l j
    | some o => if j < 200 then doA (stA l j) o else stA l j
def errA (l : List OpV) (j : Nat) : Int := match l[j]? with
  | none => 0
  | some o => if j < 200 then refA (stA l j) o else 2
theorem good_new0 : Good newA := GoodB.no
theorem stA_good (l : List OpV) (j : Nat) : Good (stA l j) := by
  induction j with
  | zero => exact good_new0
  | succ j ih =>
    unfold stA
    split
    · exact ih
    · split
      · exact good_do ih _
      · exact ih
theorem doA_bound (A : Sto) (o : OpV) : (doA A o).bufs.length ≤ A.bufs.length + 1 ∧ A.shared ≤ (doA A o).shared ∧ (doA A o).shared ≤ A.shared + 1 := by
  rcases do_counts A o with ⟨h1, h2⟩ | ⟨_, h1, h2 | ⟨h2, _⟩⟩ <;> omega
theorem stA_bound (l : List OpV) (j : Nat) : (stA l j).bufs.length ≤ j ∧ 0 ≤ (stA l j).shared ∧ (stA l j).shared ≤ (j : Int) := by
  induction j with
  | zero => exact ⟨Nat.le_refl _, Int.le_refl _, Int.le_refl _⟩
  | succ j ih =>
    unfold stA
    split
    · omega
    · split
      · have := doA_bound (stA l j) ‹_›; omega
      · omega
end Go.Proofs.Ytbhdgeoljlhmcaa
