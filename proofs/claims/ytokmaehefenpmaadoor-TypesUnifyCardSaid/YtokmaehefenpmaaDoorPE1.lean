/- Steps of plain and drawn regions, for any texts of this seat (turned from the writer's texts of another seat). Trees of api.Type in memory: the relation TyAt, what keeps it, and a tree taken out of a row's input. For any program in which the type has its four fields (TyNums). The plain laws of trees: what 'replaced' gives (repl), what is put in for names and for variables, and that to put in twice is to put in once. No program in sight. The order of trees: two are equal or one is less, and less goes on. No program in sight. The plain laws of matching (TypesMatch, TypesMatches). No program in sight. The plain laws of counting: TypeNodes with its bound, 'each' with a counter, a substitution of names by themselves. No program in sight. Trees in memory: rows of them, lists of the call's own, and the steps of a walk over them. What the rows of this seat share: trees taken out of a row's input; the condition on the tables. The number of nodes of a tree, up to a bound; small. Whether two trees are equal (EqType, EqTypes). -/
import Derived.Test.YtokmaehefenpmaaDoorProg
import Derived.WalkKit
import Derived.WalkLawsBesides
import Derived.WalkSpells
import Derived.Deep.Quiet
import Derived.StillTail
import Derived.Deep.QuietTactic
import Derived.Deep.MidRow
import Derived.BigQuiet
import Derived.Lib.Hide
import Derived.Deep.Cut
import Derived.ChangeKeysEq
import Derived.Laws.StructEq
import Derived.Deep.RegionHeld
import Derived.ProofKit
import Derived.Lib.SmallJoins
import Derived.Deep.Strs
import Derived.Deep.Slices
import Derived.Carry
import Derived.IntWalk
import Derived.Test.YtokmaehefenpmaaDoorRows
import Derived.Test.YtokmaehefenpmaaDoorTie
import Derived.LaidMore
import Derived.OpenShut
import Derived.Stop.Joined
import Derived.SevenTiedAt
import Derived.Outline
namespace Go.Proofs.YtokmaehefenpmaaDoor.Nm
open Go.RowKit
set_option linter.unusedSimpArgs false

/-- 64 cells of one byte each. -/
def row (f : Nat → Nat) : Array Value := ((List.range 64).map fun i => Value.int .u8 (f i : Int)).toArray
theorem heap_lt {w : World} {g : Nat} {o : Obj} (h : w.heap[g]? = some o) : g < w.heap.size := (Array.getElem?_eq_some_iff.1 h).1

theorem below_cells {B : Nat} {w w' : World} (h : Below B w w') {g : Nat} (hg : g < B) {o : Obj} (ho : w.heap[g]? = some o) : w'.heap[g]? = some o := by rw [h.block g hg, ho]

theorem ha_new {w : World} {o : Obj} {k : Nat} (h : k = w.heap.size) : (w.alloc o).heap[k]? = some o := by subst h; exact heap_alloc_new w o
theorem hs_new {w : World} {g i : Nat} {cs : Array Value} {t : TypeId} {v : Value} (h : w.heap[g]? = some (.cells cs t (0, 0))) : (w.setCell ⟨g, i, none⟩ v).heap[g]? = some (.cells (cs.setIfInBounds i v) t (0, 0)) := heap_setCell_same w g i cs t v h
theorem hr_new {w : World} {g : Nat} {old cs : Array Value} {t : TypeId} (h : w.heap[g]? = some (.cells old t (0, 0))) : (w.setRow g cs).heap[g]? = some (.cells cs t (0, 0)) := setRow_heap w g old cs t (0, 0) h
theorem below_setRow {B : Nat} {a w : World} (h : Below B a w) {g : Nat} (hg : B ≤ g) (cs : Array Value) : Below B a (w.setRow g cs) :=
  h.trans ⟨by simp, rfl, rfl, by simp, fun k hk => setRow_other w g k cs (by omega)⟩
end Go.Proofs.YtokmaehefenpmaaDoor.Nm
namespace Go.Proofs.YtokmaehefenpmaaDoor.Nm
open Go.RowKit

section
variable {P : Program} {ops : Array Oper} {md : Region.Mode} {C : World → Prop}

/-- No tail: all operations quiet in the class. -/
theorem wp_region_class {id : Nat} {Q : Exit → Act → World → Prop} {a : Act} {w : World} {l : List Oper} (C : World → Prop) (hm : P.follows .mixedOrders = true) (hB : Region.lexB .any l.toArray = true) (hC : C { w with drawn := w.drawn + 1 })
    (h : wpQuiet P l.toArray C (fun a' => ∀ w', C w' → Q .normal a' w') l a) : (Code.region id l.toArray true).wp P Q a w :=
  wp_region_quiet (C := C) hm hB hC (by simpa using h)

/-- A guarded operation, taken. -/
theorem wq_valG {Q : Act → Prop} {a : Act} {o : Oper} {rest : List Oper} {v : Value} (hg : Region.wanted o (yielded ops a.tmps) = true) (hv : ∀ w, C w → (execOp a.eval o).run P w = .ok (.value v) w)
    (h : wpQuiet P ops C Q rest (a.put o.dst v)) : wpQuiet P ops C Q (o :: rest) a := by
  unfold wpQuiet
  rw [if_pos hg]
  exact ⟨v, fun w hw => by unfold Oper.quietAt; rw [hv w hw]; exact ⟨rfl, rfl⟩, h⟩
theorem wq_callG {Q : Act → Prop} {a : Act} {o : Oper} {rest : List Oper} {v : Value} {f : FuncId} {args : Array Value} (hg : Region.wanted o (yielded ops a.tmps) = true) (hv : ∀ w, C w → (execOp a.eval o).run P w = .ok (.enter f args) w)
    (hc : ∀ w, C w → Calls P f args w fun e w' => e = .returned v ∧ C w')
    (h : wpQuiet P ops C Q rest (a.put o.dst v)) : wpQuiet P ops C Q (o :: rest) a := by
  unfold wpQuiet
  rw [if_pos hg]
  exact ⟨v, fun w hw => by unfold Oper.quietAt; rw [hv w hw]; exact ⟨rfl, hc w hw⟩, h⟩
/-- An operation that only reckons. -/
theorem wq_k {Q : Act → Prop} {a : Act} {o : Oper} {rest : List Oper} (hg : Region.wanted o (yielded ops a.tmps) = true)
    (h : ∀ K : Act → Prop, (∀ a', wpQuiet P ops C Q rest a' → K a') → ∃ v, (∀ w, (execOp a.eval o).run P w = .ok (.value v) w) ∧ K (a.put o.dst v)) : wpQuiet P ops C Q (o :: rest) a := by
  obtain ⟨v, hv, hk⟩ := h _ (fun _ h => h)
  exact wq_valG hg (fun w _ => hv w) hk
/-- A call, found by reckoning. -/
theorem wq_ck {Q : Act → Prop} {a : Act} {o : Oper} {rest : List Oper} (hg : Region.wanted o (yielded ops a.tmps) = true)
    (h : ∀ K : FuncId → Array Value → Prop, (∀ f args, (∃ v, (∀ w, C w → Calls P f args w fun e w' => e = .returned v ∧ C w') ∧ wpQuiet P ops C Q rest (a.put o.dst v)) → K f args) → ∃ f args, (∀ w, (execOp a.eval o).run P w = .ok (.enter f args) w) ∧ K f args) : wpQuiet P ops C Q (o :: rest) a := by
  obtain ⟨f, args, hv, v, hc, hk⟩ := h _ (fun _ _ h => h)
  exact wq_callG hg (fun w _ => hv w) hc hk
/-- A guarded operation, left out. -/
theorem wq_skip {Q : Act → Prop} {a : Act} {o : Oper} {rest : List Oper} (hg : Region.wanted o (yielded ops a.tmps) = false)
    (h : wpQuiet P ops C Q rest (a.put o.dst undef)) : wpQuiet P ops C Q (o :: rest) a := by
  unfold wpQuiet
  rw [if_neg (by simp [hg])]
  exact h
end

section
variable {P : Program}
end

section
variable {P : Program}
/-- An operation of a plain region that yields a value and leaves the world. -/
theorem wl_val {ops : Array Oper} {rest : List Oper} {o : Oper} {a : Act} {w : World} {Q : Exit → Act → World → Prop} {v : Value} (hg : o.guard = none) (hv : (execOp a.eval o).run P w = .ok (.value v) w)
    (h : wpList P ops Q rest (a.put o.dst v) w) : wpList P ops Q (o :: rest) a w :=
  wpList_plain hg fun K hK => by unfold Oper.wp; rw [hv]; exact hK _ _ h
end

section
variable {P : Program}
theorem wp_region_belowAll {id : Nat} {Q : Exit → Act → World → Prop} {a : Act} {w : World} {l : List Oper} (hm : P.follows .mixedOrders = true) (hB : Region.lexB .any l.toArray = true)
    (h : wpQuiet P l.toArray (fun w' => Below w.heap.size w w') (fun a' => ∀ w', Below w.heap.size w w' → Q .normal a' w') l a) : (Code.region id l.toArray true).wp P Q a w :=
  wp_region_class (fun w' => Below w.heap.size w w') hm hB ((Below.refl _ w).drew) h
theorem put_lit (l : List Value) (df : List Deferred) (d : Nat) (v : Value) : (Act.mk l.toArray df).put (some d) v = Act.mk (l.set d v).toArray df := by simp [Act.put]
theorem Zp (l : List Value) (df : List Deferred) (d : Nat) (v : Value) : (Act.mk l.toArray df).put (some d) v = Act.mk (l.set d v).toArray df := put_lit l df d v
theorem Zz {α : Type} {x a : α} {xs : List α} : (x :: xs).set 0 a = a :: xs := rfl
theorem Zs {α : Type} {x a : α} {xs : List α} {n : Nat} : (x :: xs).set (n + 1) a = x :: xs.set n a := rfl
theorem Za {α : Type} {xs : List α} {i : Nat} (h : i < xs.toArray.size) : xs.toArray[i] = xs[i]'(by simpa using h) := List.getElem_toArray h
theorem Zb {α : Type} {a : α} {l : List α} {i : Nat} (h : i + 1 < (a :: l).length) : (a :: l)[i + 1] = l[i]'(Nat.lt_of_succ_lt_succ h) := rfl
theorem Zc {α : Type} {a : α} {l : List α} (h : 0 < (a :: l).length) : (a :: l)[0] = a := rfl
theorem Zq : (∀ (l : List Value) (df : List Deferred) (d : Nat) (v : Value), (Act.mk l.toArray df).put (some d) v = Act.mk (l.set d v).toArray df) ∧ (∀ {α : Type} {x a : α} {xs : List α}, (x :: xs).set 0 a = a :: xs) ∧ (∀ {α : Type} {x a : α} {xs : List α} {n : Nat}, (x :: xs).set (n + 1) a = x :: xs.set n a) := ⟨Zp, Zz, Zs⟩
theorem Zy : (∀ {α : Type} {xs : List α} {i : Nat} (h : i < xs.toArray.size), xs.toArray[i] = xs[i]'(by simpa using h)) ∧ (∀ {α : Type} {a : α} {l : List α} {i : Nat} (h : i + 1 < (a :: l).length), (a :: l)[i + 1] = l[i]'(Nat.lt_of_succ_lt_succ h)) ∧ (∀ {α : Type} {a : α} {l : List α} (h : 0 < (a :: l).length), (a :: l)[0] = a) ∧ (∀ (l : List Value) (df : List Deferred) (d : Nat) (v : Value), (Act.mk l.toArray df).put (some d) v = Act.mk (l.set d v).toArray df) ∧ (∀ {α : Type} {x a : α} {xs : List α}, (x :: xs).set 0 a = a :: xs) ∧ (∀ {α : Type} {x a : α} {xs : List α} {n : Nat}, (x :: xs).set (n + 1) a = x :: xs.set n a) := ⟨Za, Zb, Zc, Zp, Zz, Zs⟩
theorem Zh {A B C D : Type} {p : A → B → C → D → Prop} (v : A) (c : B) (a : C) (w : D) (h : p v c a w) : p v c a w := h
theorem Zg {B C D : Type} {p : B → C → D → Prop} (c : B) (a : C) (w : D) (h : p c a w) : p c a w := h
theorem below_look {W w' : World} (h : Below W.heap.size W w') {g : Nat} {o : Obj} (ho : W.heap[g]? = some o) : w'.heap[g]? = some o := below_cells h (heap_lt ho) ho
/-- A call in such a class: a contract that keeps what is old. -/
theorem calls_class {f : FuncId} {args : Array Value} {W w : World} {v : Value} (hw : Below W.heap.size W w) (h : Calls P f args w fun e w' => e = .returned v ∧ Below w.heap.size w w') :
    Calls P f args w fun e w' => e = .returned v ∧ Below W.heap.size W w' := h.mono fun _ _ ⟨he, hb⟩ => ⟨he, hw.trans (hb.mono hw.size)⟩
end

end Go.Proofs.YtokmaehefenpmaaDoor.Nm
namespace Go.Proofs.YtokmaehefenpmaaDoor
open Go.RowKit Go.Proofs.YtokmaehefenpmaaDoor.Nm

theorem info_of {P : Program} {t : TypeId} {n : Nat} (h : (P.info? t).map (·.size) = some n) : ∃ i, P.info? t = some i ∧ i.size = n := Option.map_eq_some_iff.1 h
theorem u5 : Tryd.prog.underlying 5 = some (.int .u8) := by kernel_rfl
theorem u4 : Tryd.prog.underlying 4 = some .bool := by kernel_rfl
theorem mixed : Tryd.prog.follows .mixedOrders = true := by kernel_rfl
theorem ex_build {ev : Operand → Value} {o : Oper} {w : World} (t : TypeId) (parts : Array (Nat × Operand)) (ho : o.op = .build t parts) {D : Array Value} {L : List (Nat × Value)}
    (hL : parts.toList.map (fun ix => (ix.1, ev ix.2)) = L) (hb : Tryd.prog.built t L = some D) : (execOp ev o).run Tryd.prog w = .ok (.value (.agg D)) w := by
  unfold execOp
  have := run_build (P := Tryd.prog) w t (parts.map fun (i, x) => (i, ev x)) D (by rw [Array.toList_map]; exact (congrArg _ hL).trans hb)
  simp only [ho, Sem.run_bind, this, Result.andThen_ok]
  rfl

/-- What a load of many cells hands back; of one. -/
@[irreducible] def RowAt (w : World) (ty : TypeId) (ad : Addr) (D : Array Value) : Prop := (loadVar ty ad).run Tryd.prog w = .ok (.agg D) w
@[irreducible] def OneAt (w : World) (ty : TypeId) (ad : Addr) (v : Value) : Prop := (loadVar ty ad).run Tryd.prog w = .ok v w
theorem ex_row {ev : Operand → Value} {dst : Option Tmp} {ty ty' : TypeId} {x : Operand} {pos : String} {after : Array Edge} {g : Option (Nat × Bool)} {w : World} {ad : Addr} {D : Array Value} (hx : ev x = .pointer (some ad)) (hr : RowAt w ty ad D) :
    (execOp ev ⟨dst, .load ty x, ty', pos, after, g⟩).run Tryd.prog w = .ok (.value (.agg D)) w := by
  unfold execOp
  simp only [hx, Instr.loadAt, Instr.sureAddr, Sem.run_bind, Sem.run_pure, Result.andThen_ok]
  unfold RowAt at hr
  rw [hr]
  rfl
theorem ex_one {ev : Operand → Value} {dst : Option Tmp} {ty ty' : TypeId} {x : Operand} {pos : String} {after : Array Edge} {g : Option (Nat × Bool)} {w : World} {ad : Addr} {v : Value} (hx : ev x = .pointer (some ad)) (hr : OneAt w ty ad v) :
    (execOp ev ⟨dst, .load ty x, ty', pos, after, g⟩).run Tryd.prog w = .ok (.value v) w := by
  unfold execOp
  simp only [hx, Instr.loadAt, Instr.sureAddr, Sem.run_bind, Sem.run_pure, Result.andThen_ok]
  unfold OneAt at hr
  rw [hr]
  rfl
section
variable {ops : Array Oper} {rest : List Oper} {dst : Option Tmp} {ty ty' : TypeId} {x : Operand} {pos : String} {after : Array Edge} {g : Option (Nat × Bool)} {a : Act} {w : World} {Q : Exit → Act → World → Prop} {q : Act → Prop} {C : World → Prop} {ad : Addr} {D : Array Value} {v : Value}
theorem wq_row (hg : Region.wanted ⟨dst, .load ty x, ty', pos, after, g⟩ (yielded ops a.tmps) = true) (hx : a.eval x = .pointer (some ad)) (hr : ∀ w', C w' → RowAt w' ty ad D) (h : wpQuiet Tryd.prog ops C q rest (a.put dst (.agg D))) : wpQuiet Tryd.prog ops C q (⟨dst, .load ty x, ty', pos, after, g⟩ :: rest) a := wq_valG hg (fun w' hw' => ex_row hx (hr w' hw')) h
theorem wq_one (hg : Region.wanted ⟨dst, .load ty x, ty', pos, after, g⟩ (yielded ops a.tmps) = true) (hx : a.eval x = .pointer (some ad)) (hr : ∀ w', C w' → OneAt w' ty ad v) (h : wpQuiet Tryd.prog ops C q rest (a.put dst v)) : wpQuiet Tryd.prog ops C q (⟨dst, .load ty x, ty', pos, after, g⟩ :: rest) a := wq_valG hg (fun w' hw' => ex_one hx (hr w' hw')) h
end
theorem row_mid {w : World} {ty : TypeId} {b off n : Nat} {Cs : Array Value} {t : TypeId} {fr : Nat × Nat} (hb : w.heap[b]? = some (.cells Cs t fr)) {D : Array Value} (hD : Cs.extract off (off + n) = D) {d : TypeDesc}
    (hu : Tryd.prog.underlying ty = some d) (hd : d.isRow = true) (hn : D.size = n) (hi : (Tryd.prog.info? ty).map (·.size) = some n) : RowAt w ty ⟨b, off, none⟩ D := by
  have h := World.rangeAt_of_block hb off n
  rw [hD] at h
  have := run_loadVar_mid (P := Tryd.prog) w b off ty D.toList d h hu hd (by rw [hi]; simp [hn])
  unfold RowAt
  rw [this]
open Go.RowKit Go.Proofs.YtokmaehefenpmaaDoor.Nm

namespace Nm
end Nm

theorem one_of {w : World} {ty : TypeId} {ad : Addr} {v : Value} {d : TypeDesc} (hu : Tryd.prog.underlying ty = some d) (hd : d.isRow = false) (hc : w.cell? ad = some v) : OneAt w ty ad v := by
  have hagg : (isAgg ty).run Tryd.prog w = .ok false w := by
    unfold isAgg
    rw [Sem.run_bind, run_underlying hu w]
    cases d <;> simp_all
  unfold OneAt
  simp [loadVar, hagg, load, Sem.run, hc]
theorem u3 : Tryd.prog.underlying 3 = some (.int .i64) := by kernel_rfl
section
variable {ops : Array Oper} {rest : List Oper} {dst : Option Tmp} {ty ty' : TypeId} {x ix : Operand} {pos : String} {after : Array Edge} {a : Act} {w : World} {Q : Exit → Act → World → Prop}
end
open Go.RowKit Go.Proofs.YtokmaehefenpmaaDoor.Nm

section
variable {P : Program} {ops : Array Oper} {rest : List Oper} {dst : Option Tmp} {ty ty' : TypeId} {x y : Operand} {pos : String} {after : Array Edge} {g : Option (Nat × Bool)} {a : Act} {w : World} {Q : Exit → Act → World → Prop} {q : Act → Prop} {C : World → Prop} {ad : Addr} {D : Array Value} {v : Value} {o : Oper}

theorem wl_k (hg : Region.wanted o (yielded ops a.tmps) = true)
    (h : ∀ K : Act → Prop, (∀ a', wpList P ops Q rest a' w → K a') → ∃ v, (execOp a.eval o).run P w = .ok (.value v) w ∧ K (a.put o.dst v)) : wpList P ops Q (o :: rest) a w := by
  obtain ⟨v, hv, hk⟩ := h _ (fun _ h => h)
  refine wpList_step fun K hK => ?_
  rw [if_pos hg]
  unfold Oper.wp; rw [hv]; exact hK _ _ hk
theorem wl_skip (hg : Region.wanted o (yielded ops a.tmps) = false) (h : wpList P ops Q rest (a.put o.dst undef) w) : wpList P ops Q (o :: rest) a w := by
  refine wpList_step fun K hK => ?_
  rw [if_neg (by simp [hg])]
  exact hK _ _ h
theorem wl_ck (hg : Region.wanted o (yielded ops a.tmps) = true)
    (h : ∀ K : FuncId → Array Value → Prop, (∀ f args, (∃ R, Calls P f args w R ∧ ∀ e w1, R e w1 → ∃ v, e = .returned v ∧ wpList P ops Q rest (a.put o.dst v) w1) → K f args) → ∃ f args, (execOp a.eval o).run P w = .ok (.enter f args) w ∧ K f args) : wpList P ops Q (o :: rest) a w := by
  obtain ⟨f, args, hv, R, hc, hk⟩ := h _ (fun _ _ h => h)
  refine wpList_step fun K hK => ?_
  rw [if_pos hg]
  unfold Oper.wp; rw [hv]
  refine hc.mono fun e w1 hr => ?_
  obtain ⟨v, rfl, h2⟩ := hk e w1 hr
  exact hK _ _ h2

theorem wl_rowG (hg : Region.wanted ⟨dst, .load ty x, ty', pos, after, g⟩ (yielded ops a.tmps) = true) (hx : a.eval x = .pointer (some ad)) (hr : RowAt w ty ad D) (h : wpList Tryd.prog ops Q rest (a.put dst (.agg D)) w) : wpList Tryd.prog ops Q (⟨dst, .load ty x, ty', pos, after, g⟩ :: rest) a w := by
  refine wpList_step fun K hK => ?_
  rw [if_pos hg]
  unfold Oper.wp; rw [ex_row hx hr]; exact hK _ _ h
theorem wl_oneG (hg : Region.wanted ⟨dst, .load ty x, ty', pos, after, g⟩ (yielded ops a.tmps) = true) (hx : a.eval x = .pointer (some ad)) (hr : OneAt w ty ad v) (h : wpList Tryd.prog ops Q rest (a.put dst v) w) : wpList Tryd.prog ops Q (⟨dst, .load ty x, ty', pos, after, g⟩ :: rest) a w := by
  refine wpList_step fun K hK => ?_
  rw [if_pos hg]
  unfold Oper.wp; rw [ex_one hx hr]; exact hK _ _ h

/-- A new variable: behind it the world under a name. -/
theorem wl_new {z : Array Value} (hal : ∀ ev w, (execOp ev ⟨dst, .alloc ty, ty', pos, after, none⟩).run Tryd.prog w = .ok (.value (.pointer (some ⟨w.heap.size, 0, none⟩))) (w.alloc (.cells z ty)))
    (h : ∀ W p, Below w.heap.size w W → w.heap.size ≤ p → W.heap[p]? = some (.cells z ty (0, 0)) → wpList Tryd.prog ops Q rest (a.put dst (.pointer (some ⟨p, 0, none⟩))) W) : wpList Tryd.prog ops Q (⟨dst, .alloc ty, ty', pos, after, none⟩ :: rest) a w := by
  refine wpList_plain rfl fun K hK => ?_
  unfold Oper.wp; rw [hal]
  exact hK _ _ (h _ _ ((Below.refl _ w).alloc (Nat.le_refl _) _) (Nat.le_refl _) (ha_new rfl))
end

end Go.Proofs.YtokmaehefenpmaaDoor
namespace Go.Proofs.YtokmaehefenpmaaDoor.Nm
open Go.RowKit

/-- Every block of W but those of D is as it was. -/
structure Kept (D : List Nat) (W w' : World) : Prop where
  size : W.heap.size ≤ w'.heap.size
  block : ∀ k, k < W.heap.size → k ∉ D → w'.heap[k]? = W.heap[k]?
  os : w'.os = W.os
  tape : w'.tape = W.tape
  output : w'.output = W.output
theorem Kept.drew (D : List Nat) (W : World) : Kept D W W.drew :=
  have hb := (Below.refl W.heap.size W).drew
  ⟨Nat.le_refl _, fun _ _ _ => rfl, hb.os, hb.tape, hb.output⟩
theorem Kept.below {D : List Nat} {W w w' : World} (h : Kept D W w) (hb : Below w.heap.size w w') : Kept D W w' :=
  ⟨Nat.le_trans h.1 hb.size, fun k hk hp => by rw [hb.block k (by have := h.1; omega)]; exact h.2 k hk hp, hb.os.trans h.os, hb.tape.trans h.tape, hb.output.trans h.output⟩
theorem Kept.setRow {D : List Nat} {p : Nat} {W w : World} (h : Kept D W w) (hm : p ∈ D) (cs : Array Value) : Kept D W (w.setRow p cs) :=
  ⟨by simpa using h.1, fun k hk hp => by rw [setRow_other w p k cs (fun e => hp (e ▸ hm))]; exact h.2 k hk hp, by simpa using h.os, by simpa using h.tape, by simpa using h.output⟩
theorem Kept.setCell {D : List Nat} {p : Nat} {W w : World} (h : Kept D W w) (hm : p ∈ D) (i : Nat) (v : Value) : Kept D W (w.setCell ⟨p, i, none⟩ v) :=
  ⟨by simpa using h.1, fun k hk hp => by rw [heap_setCell_other _ _ _ _ (fun e => hp (by simp at e; exact e ▸ hm))]; exact h.2 k hk hp, ((Below.refl 0 w).setCell (p := ⟨p, i, none⟩) (Nat.zero_le _) v).os.trans h.os, ((Below.refl 0 w).setCell (p := ⟨p, i, none⟩) (Nat.zero_le _) v).tape.trans h.tape, ((Below.refl 0 w).setCell (p := ⟨p, i, none⟩) (Nat.zero_le _) v).output.trans h.output⟩
theorem Kept.look {D : List Nat} {W w' : World} (h : Kept D W w') {g : Nat} {o : Obj} (ho : W.heap[g]? = some o) (hp : g ∉ D) : w'.heap[g]? = some o := by rw [h.2 g (heap_lt ho) hp]; exact ho
theorem Kept.cell {D : List Nat} {W w' : World} (h : Kept D W w') {g i : Nat} {v : Value} (hc : W.cell? ⟨g, i, none⟩ = some v) (hp : g ∉ D) : w'.cell? ⟨g, i, none⟩ = some v := by
  have hg : g < W.heap.size := block_lt_of_cell hc
  rw [← hc]
  exact World.cell?_of_block (h.2 g hg hp)

section
variable {P : Program} {ops : Array Oper} {Q : Exit → Act → World → Prop} {md : Region.Mode} {S : World → Prop} {i : Nat} {oi : Oper} {fuel : Nat} {listed : Array Bool} {a : Act} {w : World}

/-- An operation that yields one value in every world of the class. -/
theorem ha_val {v : Value} (hi : ops[i]? = some oi) (hs : Region.noSelect ops = true) (hf : Region.free md ops listed i = true) (hr : (Region.ready md ops listed).contains i = true)
    (hQ : ∀ c a w, Q (.panic c) (a.put oi.dst v) w → Q (.panic c) a w) (hS : S w) (hg : Region.wanted oi (yielded ops a.tmps) = true) (hv : ∀ w, S w → (execOp a.eval oi).run P w = .ok (.value v) w)
    (h : wpAnyH P md ops Q S fuel (listed.setIfInBounds i true) (a.put oi.dst v) w) : wpAnyH P md ops Q S (fuel + 1) listed a w :=
  wpAnyH_take hi hs hf hr hQ (.inl ⟨hg, hv⟩) hS h
/-- An operation that only reckons. -/
theorem ha_k (hi : ops[i]? = some oi) (hs : Region.noSelect ops = true) (hf : Region.free md ops listed i = true) (hr : (Region.ready md ops listed).contains i = true)
    (hQ : ∀ v c a w, Q (.panic c) (a.put oi.dst v) w → Q (.panic c) a w) (hS : S w) (hg : Region.wanted oi (yielded ops a.tmps) = true)
    (h : ∀ K : Act → Prop, (∀ a', wpAnyH P md ops Q S fuel (listed.setIfInBounds i true) a' w → K a') → ∃ v, (∀ w, (execOp a.eval oi).run P w = .ok (.value v) w) ∧ K (a.put oi.dst v)) : wpAnyH P md ops Q S (fuel + 1) listed a w := by
  obtain ⟨v, hv, hk⟩ := h _ (fun _ h => h)
  exact wpAnyH_take hi hs hf hr (hQ v) (.inl ⟨hg, fun w _ => hv w⟩) hS hk
/-- A guarded operation, left out. -/
theorem ha_skip (hi : ops[i]? = some oi) (hs : Region.noSelect ops = true) (hf : Region.free md ops listed i = true) (hr : (Region.ready md ops listed).contains i = true)
    (hQ : ∀ c a w, Q (.panic c) (a.put oi.dst undef) w → Q (.panic c) a w) (hS : S w) (hg : Region.wanted oi (yielded ops a.tmps) = false)
    (h : wpAnyH P md ops Q S fuel (listed.setIfInBounds i true) (a.put oi.dst undef) w) : wpAnyH P md ops Q S (fuel + 1) listed a w :=
  wpAnyH_take hi hs hf hr hQ (.inr ⟨hg, rfl⟩) hS h
theorem hk3 (hi : ops[i]? = some oi) (hb : (Region.noSelect ops && (Region.free md ops listed i && (Region.ready md ops listed).contains i)) = true)
    (hQ : ∀ v c a w, Q (.panic c) (a.put oi.dst v) w → Q (.panic c) a w) (hS : S w) (hg : Region.wanted oi (yielded ops a.tmps) = true)
    (h : ∀ K : Act → Prop, (∀ a', wpAnyH P md ops Q S fuel (listed.setIfInBounds i true) a' w → K a') → ∃ v, (∀ w, (execOp a.eval oi).run P w = .ok (.value v) w) ∧ K (a.put oi.dst v)) : wpAnyH P md ops Q S (fuel + 1) listed a w := by
  simp only [Bool.and_eq_true] at hb
  exact ha_k hi hb.1 hb.2.1 hb.2.2 hQ hS hg h
theorem hv3 {v : Value} (hi : ops[i]? = some oi) (hb : (Region.noSelect ops && (Region.free md ops listed i && (Region.ready md ops listed).contains i)) = true)
    (hQ : ∀ c a w, Q (.panic c) (a.put oi.dst v) w → Q (.panic c) a w) (hS : S w) (hg : Region.wanted oi (yielded ops a.tmps) = true) (hv : ∀ w, S w → (execOp a.eval oi).run P w = .ok (.value v) w)
    (h : wpAnyH P md ops Q S fuel (listed.setIfInBounds i true) (a.put oi.dst v) w) : wpAnyH P md ops Q S (fuel + 1) listed a w := by
  simp only [Bool.and_eq_true] at hb
  exact ha_val hi hb.1 hb.2.1 hb.2.2 hQ hS hg hv h
theorem hs3 (hi : ops[i]? = some oi) (hb : (Region.noSelect ops && (Region.free md ops listed i && (Region.ready md ops listed).contains i)) = true)
    (hQ : ∀ c a w, Q (.panic c) (a.put oi.dst undef) w → Q (.panic c) a w) (hS : S w) (hg : Region.wanted oi (yielded ops a.tmps) = false)
    (h : wpAnyH P md ops Q S fuel (listed.setIfInBounds i true) (a.put oi.dst undef) w) : wpAnyH P md ops Q S (fuel + 1) listed a w := by
  simp only [Bool.and_eq_true] at hb
  exact ha_skip hi hb.1 hb.2.1 hb.2.2 hQ hS hg h
/-- A call: whatever its contract says of the result. -/
theorem ha_call (hr : Region.ready md ops listed = [i]) (ho : ops[i]? = some oi) (hg : Region.wanted oi (yielded ops a.tmps) = true)
    (h : ∀ K : FuncId → Array Value → Prop, (∀ f args, (∃ F, Calls P f args w F ∧ ∀ e w', F e w' → ∃ v, e = .returned v ∧ S w' ∧ wpAnyH P md ops Q S fuel (listed.setIfInBounds i true) (a.put oi.dst v) w') → K f args) → ∃ f args, (∀ w, (execOp a.eval oi).run P w = .ok (.enter f args) w) ∧ K f args) :
    wpAnyH P md ops Q S (fuel + 1) listed a w := by
  obtain ⟨f, args, hv, F, hc, hk⟩ := h _ (fun _ _ h => h)
  refine wpAnyH_ready (rs := [i]) hr (by simp) (AllReadyH.cons ho (fun K hK => ?_) AllReadyH.nil)
  rw [if_pos hg]
  unfold Oper.wp
  rw [hv w]
  simp only [Oper.upon]
  refine hc.mono fun e w' hF => ?_
  obtain ⟨v, rfl, hSv, hw⟩ := hk e w' hF
  exact hK.out _ _ hSv (fun _ => hw)
/-- An operation that is carried out now, with what it does to the world. -/
theorem ha_do {v : Value} {w2 : World} (hr : Region.ready md ops listed = [i]) (ho : ops[i]? = some oi) (hg : Region.wanted oi (yielded ops a.tmps) = true) (hx : (execOp a.eval oi).run P w = .ok (.value v) w2) (hS : S w2)
    (h : wpAnyH P md ops Q S fuel (listed.setIfInBounds i true) (a.put oi.dst v) w2) : wpAnyH P md ops Q S (fuel + 1) listed a w := by
  refine wpAnyH_ready (rs := [i]) hr (by simp) (AllReadyH.cons ho (fun K hK => ?_) AllReadyH.nil)
  rw [if_pos hg]
  unfold Oper.wp
  rw [hx]
  exact hK.out _ _ hS (fun _ => h)
/-- A struct stored over a block that is known. -/
theorem ha_store (hr : Region.ready md ops listed = [i]) (ho : ops[i]? = some oi) (hg : Region.wanted oi (yielded ops a.tmps) = true) (ty : TypeId) (x y : Operand) (hop : oi.op = .store ty x y) (g : Nat) (cells : Array Value) (hx : a.eval x = .pointer (some ⟨g, 0, none⟩)) (hy : a.eval y = .agg cells)
    (t : TypeId) (old : Array Value) (hb : w.heap[g]? = some (.cells old t (0, 0))) (hin : (P.info? ty).map (·.size) = some cells.size) (hold : old.size = cells.size) (h1 : cells.all (·.oneCell') = true) (hS : S (w.setRow g cells))
    (h : S (w.setRow g cells) → wpAnyH P md ops Q S fuel (listed.setIfInBounds i true) (a.put oi.dst undef) (w.setRow g cells)) : wpAnyH P md ops Q S (fuel + 1) listed a w := by
  refine wpAnyH_ready (rs := [i]) hr (by simp) (AllReadyH.cons ho (fun K hK => ?_) AllReadyH.nil)
  rw [if_pos hg]
  exact wp_store_row ty x y hop g cells hx hy t old hb hin hold h1 (hK.out _ _ hS h)
/-- One operation carried out now. -/
def StepH (P : Program) (md : Region.Mode) (ops : Array Oper) (Q : Exit → Act → World → Prop) (S : World → Prop) (fuel : Nat) (listed : Array Bool) (a : Act) (w : World) (i : Nat) : Prop :=
  wpOp P ops Q i (fun a' w' => S w' ∧ wpAnyH P md ops Q S fuel (listed.setIfInBounds i true) a' w') a w
/-- Two operations may come up. -/
theorem ha_two {j : Nat} (hr : Region.ready md ops listed = [i, j]) (hi : StepH P md ops Q S fuel listed a w i) (hj : StepH P md ops Q S fuel listed a w j) : wpAnyH P md ops Q S (fuel + 1) listed a w :=
  wpAnyH_all hr (by simp) fun k hk => by
    rcases List.mem_cons.1 hk with rfl | hk
    · exact hi
    · rcases List.mem_cons.1 hk with rfl | hk
      · exact hj
      · cases hk
theorem sh_val {v : Value} (ho : ops[i]? = some oi) (hg : Region.wanted oi (yielded ops a.tmps) = true) (hv : (execOp a.eval oi).run P w = .ok (.value v) w) (hS : S w) (h : wpAnyH P md ops Q S fuel (listed.setIfInBounds i true) (a.put oi.dst v) w) : StepH P md ops Q S fuel listed a w i := by
  unfold StepH wpOp
  simp only [ho]
  rw [if_pos hg]
  refine .inl ?_
  unfold Oper.wp
  rw [hv]
  exact ⟨hS, h⟩
theorem sh_call (ho : ops[i]? = some oi) (hg : Region.wanted oi (yielded ops a.tmps) = true)
    (h : ∀ K : FuncId → Array Value → Prop, (∀ f args, (∃ F, Calls P f args w F ∧ ∀ e w', F e w' → ∃ v, e = .returned v ∧ S w' ∧ wpAnyH P md ops Q S fuel (listed.setIfInBounds i true) (a.put oi.dst v) w') → K f args) → ∃ f args, (∀ w, (execOp a.eval oi).run P w = .ok (.enter f args) w) ∧ K f args) :
    StepH P md ops Q S fuel listed a w i := by
  obtain ⟨f, args, hv, F, hc, hk⟩ := h _ (fun _ _ h => h)
  unfold StepH wpOp
  simp only [ho]
  rw [if_pos hg]
  refine .inl ?_
  unfold Oper.wp
  rw [hv w]
  simp only [Oper.upon]
  refine hc.mono fun e w' hF => ?_
  obtain ⟨v, rfl, hSv, hw⟩ := hk e w' hF
  exact ⟨hSv, hw⟩
end
end Go.Proofs.YtokmaehefenpmaaDoor.Nm
namespace Go.Proofs.YtokmaehefenpmaaDoor.Nm
open Go.RowKit
section
variable {P : Program} {ops : Array Oper} {Q : Exit → Act → World → Prop} {md : Region.Mode} {D : List Nat} {W : World} {i : Nat} {oi : Oper} {fuel : Nat} {listed : Array Bool} {a : Act} {w : World} {z : Array Value} {ty : TypeId}
end
end Go.Proofs.YtokmaehefenpmaaDoor.Nm
namespace Go.Proofs.YtokmaehefenpmaaDoor.Nm
open Go.RowKit
section
variable {P : Program} {ops : Array Oper} {Q : Exit → Act → World → Prop} {md : Region.Mode} {S : World → Prop} {i : Nat} {fuel : Nat} {listed : Array Bool} {a : Act} {w : World}
theorem ha_three {j k : Nat} (hr : Region.ready md ops listed = [i, j, k]) (hi : StepH P md ops Q S fuel listed a w i) (hj : StepH P md ops Q S fuel listed a w j) (hk : StepH P md ops Q S fuel listed a w k) : wpAnyH P md ops Q S (fuel + 1) listed a w :=
  wpAnyH_all hr (by simp) fun l hl => by
    rcases List.mem_cons.1 hl with rfl | hl
    · exact hi
    · rcases List.mem_cons.1 hl with rfl | hl
      · exact hj
      · rcases List.mem_cons.1 hl with rfl | hl
        · exact hk
        · cases hl
end
end Go.Proofs.YtokmaehefenpmaaDoor.Nm

namespace Go.Proofs.YtokmaehefenpmaaDoor
open Go.RowKit Go.Proofs.YtokmaehefenpmaaDoor.Nm
theorem wl_w {P : Program} {ops : Array Oper} {rest : List Oper} {o : Oper} {a : Act} {w w2 : World} {Q : Exit → Act → World → Prop} {v : Value} (hg : o.guard = none) (hx : (execOp a.eval o).run P w = .ok (.value v) w2)
    (h : wpList P ops Q rest (a.put o.dst v) w2) : wpList P ops Q (o :: rest) a w := by
  refine wpList_plain hg fun K hK => ?_
  unfold Oper.wp; rw [hx]; exact hK _ _ h
theorem run_storeC (b o : Nat) (ty : TypeId) (v : Value) (w : World) (hi : (Tryd.prog.info? ty).map (·.size) = some 1) (h1 : v.oneCell' = true) (hc : (w.cell? ⟨b, o, none⟩).isSome = true) (hf : w.frozen? ⟨b, o, none⟩ = false) :
    (storeVar ty ⟨b, o, none⟩ v).run Tryd.prog w = .ok () (w.setCell ⟨b, o, none⟩ v) := by
  have hst := run_storeCells_cells (P := Tryd.prog) b o [v] 0 w (by intro j hj; simp at hj; subst hj; simpa using hc) (by intro j hj; simp at hj; subst hj; simpa using hf) (by intro u hu; simp at hu; subst hu; exact h1)
  have hcl : v.cells = #[v] := by cases v <;> first | rfl | cases h1
  cases hq : Tryd.prog.info? ty with
  | none => simp [hq] at hi
  | some i =>
    have hs : i.size = 1 := by simpa [hq] using hi
    simp [storeVar, sizeOf, typeInfo, hq, hcl, hs]
    exact (by simpa using hst : _ = Result.ok () (w.setCells b o [v]))
theorem wp_storeC {op : Oper} {a : Act} {w : World} {K : Act → World → Prop} {Q : Exit → Act → World → Prop} (ty : TypeId) (x y : Operand) (ho : op.op = .store ty x y) (b o : Nat) (v : Value)
    (hx : a.eval x = .pointer (some ⟨b, o, none⟩)) (hy : a.eval y = v) (hi : (Tryd.prog.info? ty).map (·.size) = some 1) (h1 : v.oneCell' = true) (hc : (w.cell? ⟨b, o, none⟩).isSome = true) (hf : w.frozen? ⟨b, o, none⟩ = false)
    (h : K (a.put op.dst undef) (w.setCell ⟨b, o, none⟩ v)) : op.wp Tryd.prog a w K Q := by
  unfold Oper.wp execOp
  simp only [ho, hx, hy, Instr.storeAt, Instr.sureAddr, Sem.run_bind, Sem.run_pure, Result.andThen_ok, run_storeC b o ty v w hi h1 hc hf]
  exact h
theorem wl_storeC {ops : Array Oper} {rest : List Oper} {op : Oper} {a : Act} {w : World} {Q : Exit → Act → World → Prop} (hg : op.guard = none) (ty : TypeId) (x y : Operand) (ho : op.op = .store ty x y) (b o : Nat) (v : Value)
    (hx : a.eval x = .pointer (some ⟨b, o, none⟩)) (hy : a.eval y = v) (hi : (Tryd.prog.info? ty).map (·.size) = some 1) (h1 : v.oneCell' = true) (hc : (w.cell? ⟨b, o, none⟩).isSome = true) (hf : w.frozen? ⟨b, o, none⟩ = false)
    (h : wpList Tryd.prog ops Q rest (a.put op.dst undef) (w.setCell ⟨b, o, none⟩ v)) : wpList Tryd.prog ops Q (op :: rest) a w :=
  wpList_plain hg fun _ hK => wp_storeC ty x y ho b o v hx hy hi h1 hc hf (hK _ _ h)
section
variable {md : Region.Mode} {ops : Array Oper} {Q : Exit → Act → World → Prop} {S : World → Prop} {fuel : Nat} {listed : Array Bool} {a : Act} {w : World} {i : Nat} {oi : Oper}
theorem ha_storeC (hr : Region.ready md ops listed = [i]) (ho : ops[i]? = some oi) (hg : Region.wanted oi (yielded ops a.tmps) = true) (ty : TypeId) (x y : Operand) (hop : oi.op = .store ty x y) (b o : Nat) (v : Value)
    (hx : a.eval x = .pointer (some ⟨b, o, none⟩)) (hy : a.eval y = v) (hi : (Tryd.prog.info? ty).map (·.size) = some 1) (h1 : v.oneCell' = true) (hc : (w.cell? ⟨b, o, none⟩).isSome = true) (hf : w.frozen? ⟨b, o, none⟩ = false) (hS : S (w.setCell ⟨b, o, none⟩ v))
    (h : S (w.setCell ⟨b, o, none⟩ v) → wpAnyH Tryd.prog md ops Q S fuel (listed.setIfInBounds i true) (a.put oi.dst undef) (w.setCell ⟨b, o, none⟩ v)) : wpAnyH Tryd.prog md ops Q S (fuel + 1) listed a w := by
  refine wpAnyH_ready (rs := [i]) hr (by simp) (AllReadyH.cons ho (fun K hK => ?_) AllReadyH.nil)
  rw [if_pos hg]
  exact wp_storeC ty x y hop b o v hx hy hi h1 hc hf (hK.out _ _ hS h)
end
theorem put_noneA (a : Act) (v : Value) : a.put none v = a := rfl
open Go.ChangeShapes Go.WideShapes Go.ChangeAt Go.RowKit
structure TyNums (P : Program) (T L S I : TypeId) : Prop where
  uT : P.underlying T = some (.struct (P.fieldsOf T))
  fl : (P.fieldsOf T).toList.map (fun f => (f.type, f.offset)) = [(I, 0), (S, 1), (I, 2), (L, 3)]
  uL : P.underlying L = some (.slice T)
  uS : P.underlying S = some .string
  uI : P.underlying I = some (.int .i64)
  cT : P.cellsOf T = 4
  cL : P.cellsOf L = 1
  cS : P.cellsOf S = 1
  cI : P.cellsOf I = 1
inductive Ty where
  | node (kind : Int) (name : ByteArray) (n : Int) (args : List Ty) : Ty
def cell4 (k : Int) (s : ByteArray) (n : Int) (A : Option Addr) (l c : Nat) : Array Value := #[.int .i64 k, .string s, .int .i64 n, .slice A l c]
def Four (w : World) (D : Nat → Prop) (A : Option Addr) (i : Nat) (row : Array Value) : Prop :=
  ∃ (b off : Nat) (Cs : Array Value) (t : TypeId) (fr : Nat × Nat), A = some ⟨b, off, none⟩ ∧ D b ∧ w.heap[b]? = some (.cells Cs t fr) ∧ Cs.extract (off + i * 4) (off + i * 4 + 4) = row
inductive TyAt (w : World) (D : Nat → Prop) : Ty → Array Value → Prop where
  | mk {k : Int} {s : ByteArray} {n : Int} {A : Option Addr} {len cap : Nat} {args : List Ty} (rows : Nat → Array Value)
      (hk : (Lit.int .i64 k).wf = true) (hn : (Lit.int .i64 n).wf = true) (hs : s.size ≤ maxLen) (hl : args.length = len) (hc : len ≤ cap) (hm : cap ≤ maxLen)
      (hf : ∀ i t, args[i]? = some t → Four w D A i (rows i)) (ht : ∀ i t, args[i]? = some t → TyAt w D t (rows i)) : TyAt w D (.node k s n args) (cell4 k s n A len cap)
theorem Four.mono {w w' : World} {D D' : Nat → Prop} {A : Option Addr} {i : Nat} {row : Array Value} (h : Four w D A i row) (hD : ∀ b, D b → D' b) (hw : ∀ b, D b → w'.heap[b]? = w.heap[b]?) : Four w' D' A i row := by
  obtain ⟨b, off, Cs, t, fr, h1, h2, h3, h4⟩ := h
  exact ⟨b, off, Cs, t, fr, h1, hD b h2, by rw [hw b h2, h3], h4⟩
theorem TyAt.mono {w w' : World} {D D' : Nat → Prop} {t : Ty} {row : Array Value} (h : TyAt w D t row) (hD : ∀ b, D b → D' b) (hw : ∀ b, D b → w'.heap[b]? = w.heap[b]?) : TyAt w' D' t row := by
  induction h with
  | mk rows hk hn hs hl hc hm hf _ ih => exact .mk rows hk hn hs hl hc hm (fun i t hi => (hf i t hi).mono hD hw) ih
theorem TyAt.size {w : World} {D : Nat → Prop} {t : Ty} {row : Array Value} (h : TyAt w D t row) : row.size = 4 := by
  cases h; rfl
theorem four_fields {fs : Array Field} {a b c d : Nat × Nat} (h : fs.toList.map (fun f => (f.type, f.offset)) = [a, b, c, d]) : ∃ f0 f1 f2 f3, fs = #[f0, f1, f2, f3] ∧ (f0.type, f0.offset) = a ∧ (f1.type, f1.offset) = b ∧ (f2.type, f2.offset) = c ∧ (f3.type, f3.offset) = d := by
  obtain ⟨l⟩ := fs
  match l, h with
  | [f0, f1, f2, f3], h => simp at h; exact ⟨f0, f1, f2, f3, rfl, by simp [h.1], by simp [h.2.1], by simp [h.2.2.1], by simp [h.2.2.2]⟩
theorem four_row {w : World} {a : Addr} {i : Nat} {cs : List Value} (hl : cs.length = 4) (h : ∀ j, j < 4 → w.cell? (a.add (i * 4 + j)) = cs[j]?) (hs : a.spot = none) :
    ∃ Cs t fr, w.heap[a.block]? = some (.cells Cs t fr) ∧ Cs.extract (a.off + i * 4) (a.off + i * 4 + 4) = cs.toArray := by
  have e : ∀ n, a.add n = ⟨a.block, a.off + n, none⟩ := fun n => by
    obtain ⟨b, o, s⟩ := a
    unfold Addr.add
    split
    · rename_i h; subst h; simp at hs; simp [hs]
    · rfl
  have h0 := h 0 (by omega)
  rw [e] at h0
  unfold World.cell? at h0
  simp only [] at h0
  cases hc : w.heap[a.block]? with
  | none => rw [hc, List.getElem?_eq_getElem (show 0 < cs.length by omega)] at h0; cases h0
  | some o =>
    cases o with
    | cells Cs t fr =>
      refine ⟨Cs, t, fr, rfl, ?_⟩
      have hj : ∀ j, j < 4 → Cs[a.off + i * 4 + j]? = cs[j]? := fun j hj => by
        have := h j hj
        rw [e] at this
        unfold World.cell? at this
        rw [hc] at this
        simpa [Nat.add_assoc] using this
      apply Array.ext_getElem?
      intro j
      have h3 := hj 3 (by omega)
      rw [List.getElem?_eq_getElem (show 3 < cs.length by omega)] at h3
      have hz := (Array.getElem?_eq_some_iff.1 h3).1
      by_cases hlt : j < 4
      · rw [Array.getElem?_extract, if_pos (by omega), hj j hlt]; simp
      · rw [Array.getElem?_eq_none (by simp; omega), Array.getElem?_eq_none (by simp; omega)]
    | _ => rw [hc, List.getElem?_eq_getElem (show 0 < cs.length by omega)] at h0; cases h0
theorem choose_list {α : Type} {Q : Nat → α → Prop} : ∀ (n : Nat), (∀ i, i < n → ∃ x, Q i x) → ∃ l : List α, l.length = n ∧ ∀ (i : Nat) (x : α), l[i]? = some x → Q i x
  | 0, _ => ⟨[], rfl, fun i x h => by simp at h⟩
  | n + 1, h => by
    obtain ⟨l, h1, h2⟩ := choose_list n (fun i hi => h i (by omega))
    obtain ⟨x, hx⟩ := h n (by omega)
    refine ⟨l ++ [x], by simp [h1], fun i y hy => ?_⟩
    by_cases e : i < n
    · rw [List.getElem?_append_left (by omega)] at hy; exact h2 i y hy
    · rw [List.getElem?_append_right (by omega)] at hy
      have hm := List.mem_of_getElem? hy
      simp at hm; subst hm
      have hl := (List.getElem?_eq_some_iff.1 hy).1
      simp at hl
      obtain rfl : i = n := by omega
      exact hx
section
variable {P : Program} {T L S I : TypeId} {H : Type} {enc : TypeId × Value → H} {w : World} {base : Nat} {sp : Nat → Bool} {held : Bool}
/-- The slice of a tree's arguments, once its elements are known to be trees. -/
theorem open_args (hN : TyNums P T L S I) {fuel : Nat} {cs : List Value} {x : DataW H × List MemPlace} (h : DataW.trod enc P w base sp held fuel L cs = some x)
    (sub : ∀ (m : Nat), m < fuel → ∀ cs x, DataW.trod enc P w base sp held m T cs = some x → ∃ t, TyAt w (fun b => base ≤ b) t cs.toArray) :
    ∃ (A : Option Addr) (len cap : Nat) (args : List Ty) (rows : Nat → Array Value), cs = [.slice A len cap] ∧ args.length = len ∧ len ≤ cap ∧ cap ≤ maxLen ∧ (∀ i t, args[i]? = some t → Four w (fun b => base ≤ b) A i (rows i)) ∧
      ∀ i t, args[i]? = some t → TyAt w (fun b => base ≤ b) t (rows i) := by
  rcases DataW.trod_slice hN.uL h with ⟨rfl, _⟩ | ⟨a, len, cap, elems, rest, k, hk, rfl, _, hb, hl, hm, hle, hall, _, _⟩
  · exact ⟨none, 0, 0, [], fun _ => #[], rfl, rfl, Nat.le_refl _, Nat.zero_le _, fun i t hi => by simp at hi, fun i t hi => by simp at hi⟩
  · have each : ∀ i, i < len → ∃ q : Ty × Array Value, Four w (fun b => base ≤ b) (some a) i q.2 ∧ TyAt w (fun b => base ≤ b) q.1 q.2 := fun i hi => by
      have hi2 := hall i hi
      rw [List.getElem?_eq_getElem (by omega), Option.bind_eq_some_iff] at hi2
      obtain ⟨cs', h1, h2⟩ := hi2
      rw [hN.cT] at h1
      obtain ⟨_, hlen, hcell⟩ := World.cells?_some h1
      obtain ⟨t, ht⟩ := sub k (by omega) _ _ h2
      have hs : a.spot = none := by
        have k0 := hall 0 (by omega)
        rw [List.getElem?_eq_getElem (by omega), Option.bind_eq_some_iff] at k0
        obtain ⟨cs0, k1, _⟩ := k0
        rw [hN.cT] at k1
        obtain ⟨_, hlen0, hcell0⟩ := World.cells?_some k1
        have z0 := hcell0 0 (by omega)
        rw [List.getElem?_eq_getElem (show 0 < cs0.length by omega)] at z0
        unfold World.cell? at z0
        simp [Addr.add] at z0
        split at z0
        · split at z0
          · cases z0
          · rename_i h; simpa using h
        · cases z0
      obtain ⟨Cs, t', fr, q1, q2⟩ := four_row (w := w) (a := a) (i := i) hlen (fun j hj => by rw [← hcell j (by omega), Addr.add_add]) hs
      refine ⟨(t, cs'.toArray), ⟨a.block, a.off, Cs, t', fr, ?_, hb, q1, q2⟩, ht⟩
      obtain ⟨b, off, s⟩ := a
      simp at hs; simp [hs]
    obtain ⟨l, hln, hall2⟩ := choose_list len each
    refine ⟨some a, len, cap, l.map (·.1), fun i => ((l[i]?).map (·.2)).getD #[], rfl, by simp [hln], hl, hm, fun i t hi => ?_, fun i t hi => ?_⟩
    · simp at hi
      obtain ⟨q, hq⟩ := hi
      simp only [hq, Option.map_some, Option.getD_some]; exact (hall2 i _ hq).1
    · simp at hi
      obtain ⟨q, hq⟩ := hi
      simp only [hq, Option.map_some, Option.getD_some]; exact (hall2 i _ hq).2
/-- A tree taken out of the cells that an input's row has. -/
theorem open_tree (hN : TyNums P T L S I) : ∀ (fuel : Nat) (cs : List Value) (x : DataW H × List MemPlace), DataW.trod enc P w base sp held fuel T cs = some x → ∃ t, TyAt w (fun b => base ≤ b) t cs.toArray := by
  intro fuel
  induction fuel using Nat.strongRecOn with
  | _ fuel ih =>
    intro cs x h
    obtain ⟨f0, f1, f2, f3, hfs, e0, e1, e2, e3⟩ := four_fields hN.fl
    simp only [Prod.mk.injEq] at e0 e1 e2 e3
    have hu := hN.uT
    rw [hfs] at hu
    obtain ⟨xs, k, rfl, _, hxl, hxs, hf⟩ := DataW.trod_struct hu h
    rw [hN.cT] at hxl
    match cs, hxl with
    | [v0, v1, v2, v3], _ =>
      match xs, hxs with
      | [y0, y1, y2, y3], _ =>
        have g0 := hf 0 f0 rfl
        have g1 := hf 1 f1 rfl
        have g2 := hf 2 f2 rfl
        have g3 := hf 3 f3 rfl
        simp [e0, e1, e2, e3, hN.cI, hN.cS, hN.cL] at g0 g1 g2 g3
        obtain ⟨n0, q0, _, w0⟩ := DataW.trod_int hN.uI g0
        obtain ⟨s1, q1, _, w1⟩ := DataW.trod_string hN.uS g1
        obtain ⟨n2, q2, _, w2⟩ := DataW.trod_int hN.uI g2
        obtain ⟨A, len, cap, args, rows, q3, hl, hc, hm, hfo, hta⟩ := open_args hN g3 (fun m hm => ih m (by omega))
        simp at q0 q1 q2 q3
        subst q0 q1 q2 q3
        exact ⟨.node n0 s1 n2 args, TyAt.mk rows w0 w2 w1 hl hc hm hfo hta⟩
end
end Go.Proofs.YtokmaehefenpmaaDoor
namespace Go.Proofs.YtokmaehefenpmaaDoor
def Ty.kind : Ty → Int | .node k _ _ _ => k
def Ty.name : Ty → ByteArray | .node _ s _ _ => s
def Ty.num : Ty → Int | .node _ _ n _ => n
def Ty.args : Ty → List Ty | .node _ _ _ l => l
theorem Ty.ind {Q : Ty → Prop} (h : ∀ k s n l, (∀ t, t ∈ l → Q t) → Q (.node k s n l)) : ∀ t, Q t := fun t => by
  induction t using Ty.rec (motive_2 := fun l => ∀ t, t ∈ l → Q t) with
  | node k s n l ih => exact h k s n l ih
  | nil => rename_i ht; cases ht
  | cons a l ha hl =>
    rename_i t ht
    rcases List.mem_cons.1 ht with rfl | ht
    · exact ha
    · exact hl t ht
mutual
/-- A tree in which each node for which f has a tree is replaced by it, from above. -/
def repl (f : Ty → Option Ty) : Ty → Ty
  | .node k s n l => match f (.node k s n l) with | some u => u | none => .node k s n (repls f l)
def repls (f : Ty → Option Ty) : List Ty → List Ty
  | [] => []
  | t :: l => repl f t :: repls f l
end
theorem repls_eq (f : Ty → Option Ty) : ∀ l, repls f l = l.map (repl f)
  | [] => by simp [repls]
  | t :: l => by simp [repls, repls_eq f l]
theorem repl_some {f : Ty → Option Ty} {t u : Ty} (h : f t = some u) : repl f t = u := by
  cases t with
  | node k s n l => simp [repl, h]
theorem repl_none {f : Ty → Option Ty} {k : Int} {s : ByteArray} {n : Int} {l : List Ty} (h : f (.node k s n l) = none) : repl f (.node k s n l) = .node k s n (l.map (repl f)) := by
  simp [repl, h, repls_eq]
/-- A copy is the tree itself. -/
theorem repl_id : ∀ t, repl (fun _ => none) t = t := Ty.ind fun k s n l ih => by
  rw [repl_none rfl]
  congr 1
  exact (List.map_congr_left ih).trans (List.map_id' l)
mutual
def Ty.nodes : Ty → Nat
  | .node _ _ _ l => 1 + nodesL l
def nodesL : List Ty → Nat
  | [] => 0
  | t :: l => Ty.nodes t + nodesL l
end
mutual
/-- The names of the parameters, in the order of the nodes, as often as they stand there. -/
def Ty.pars : Ty → List ByteArray
  | .node k s _ l => (if k = 7 then [s] else []) ++ parsL l
def parsL : List Ty → List ByteArray
  | [] => []
  | t :: l => Ty.pars t ++ parsL l
end
/-- The first place of a name in a list. -/
def idx (names : List ByteArray) (s : ByteArray) : Option Nat := names.findIdx? fun x => decide (x = s)
/-- What is put in for a node's variable. -/
def selVar (sol : List Ty) (t : Ty) : Option Ty := if t.kind = 12 ∧ 0 ≤ t.num then (sol[t.num.toNat]?).bind fun u => if u.kind = 0 then none else some u else none
def applyTy (sol : List Ty) (t : Ty) : Ty := repl (selVar sol) t
end Go.Proofs.YtokmaehefenpmaaDoor
namespace Go.Proofs.YtokmaehefenpmaaDoor
def cB (x y : ByteArray) : Ordering := if x.data.toList < y.data.toList then .lt else if y.data.toList < x.data.toList then .gt else .eq
def cI (a b : Int) : Ordering := if a < b then .lt else if b < a then .gt else .eq
mutual
def cmpTy : Ty → Ty → Ordering
  | .node k s n l, .node k' s' n' l' => (cI k k').then ((cB s s').then ((cI n n').then (cmpTys l l')))
def cmpTys : List Ty → List Ty → Ordering
  | [], [] => .eq
  | [], _ :: _ => .lt
  | _ :: _, [] => .gt
  | a :: l, b :: m => (cmpTy a b).then (cmpTys l m)
end
theorem then_eq {a b : Ordering} : a.then b = .eq ↔ a = .eq ∧ b = .eq := by cases a <;> simp [Ordering.then]
/-- What makes a comparison of x an order. -/
structure Fine {α : Type} (c : α → α → Ordering) (x : α) : Prop where
  sw : ∀ y, c y x = (c x y).swap
  eq : ∀ y, c x y = .eq ↔ x = y
  tr : ∀ y z, c x y = .lt → c y z = .lt → c x z = .lt
theorem cI_fine (x : Int) : Fine cI x where
  sw y := by unfold cI; split <;> split <;> simp_all [Ordering.swap] <;> omega
  eq y := by
    unfold cI
    constructor
    · intro h
      split at h
      · cases h
      · split at h
        · cases h
        · omega
    · rintro rfl
      simp
  tr y z h1 h2 := by
    unfold cI at *
    split at h1
    · split at h2
      · rw [if_pos (by omega)]
      · split at h2 <;> cases h2
    · split at h1 <;> cases h1
theorem cB_fine (x : ByteArray) : Fine cB x where
  sw y := by
    unfold cB
    by_cases h1 : x.data.toList < y.data.toList
    · rw [if_pos h1, if_neg (fun h => List.lt_irrefl _ (List.lt_trans h h1)), if_pos h1]; rfl
    · by_cases h2 : y.data.toList < x.data.toList
      · rw [if_pos h2, if_neg h1, if_pos h2]; rfl
      · rw [if_neg h2, if_neg h1, if_neg h1, if_neg h2]; rfl
  eq y := by
    unfold cB
    constructor
    · intro h
      split at h
      · cases h
      · rename_i h1
        split at h
        · cases h
        · rename_i h2
          have := List.le_antisymm (List.not_lt.1 h2) (List.not_lt.1 h1)
          cases x with | mk dx => cases y with | mk dy => exact congrArg _ (Array.toList_inj.1 this)
    · rintro rfl
      simp [List.lt_irrefl]
  tr y z h1 h2 := by
    unfold cB at *
    split at h1
    · rename_i g1
      split at h2
      · rename_i g2
        rw [if_pos (List.lt_trans g1 g2)]
      · split at h2 <;> cases h2
    · split at h1 <;> cases h1
theorem cmpTys_eq : ∀ (l : List Ty), (∀ t, t ∈ l → ∀ u, cmpTy t u = .eq ↔ t = u) → ∀ m, cmpTys l m = .eq ↔ l = m
  | [], _, m => by cases m <;> simp [cmpTys]
  | a :: l, h, m => by
    cases m with
    | nil => simp [cmpTys]
    | cons b m => simp only [cmpTys, then_eq, h a (by simp) b, cmpTys_eq l (fun t ht => h t (by simp [ht])) m, List.cons.injEq]
theorem cmpTy_eq : ∀ t u, cmpTy t u = .eq ↔ t = u := Ty.ind fun k s n l ih u => by
  cases u with
  | node k' s' n' l' => simp only [cmpTy, then_eq, (cI_fine k).eq, (cB_fine s).eq, (cI_fine n).eq, cmpTys_eq l ih, Ty.node.injEq]
end Go.Proofs.YtokmaehefenpmaaDoor
namespace Go.Proofs.YtokmaehefenpmaaDoor
instance : DecidableEq Ty := fun a b => decidable_of_iff _ (cmpTy_eq a b)
def zeroTy : Ty := .node 0 ByteArray.empty 0 []
/-- The place of a node's name, if the node is a parameter that has one. -/
def place (names : List ByteArray) (k : Int) (s : ByteArray) : Option Nat := if k = 7 then idx names s else none
mutual
/-- What is known behind a pattern's node; none: it does not match. -/
def matchTy (names : List ByteArray) : Ty → Ty → List (Option Ty) → Option (List (Option Ty))
  | .node k s n l, t, out =>
    match place names k s with
    | some i => match out[i]? with
      | some (some u) => if u = t then some out else none
      | _ => some (out.set i (some t))
    | none => if k = t.kind ∧ s = t.name ∧ n = t.num ∧ l.length = t.args.length then matchTys names l t.args out else none
def matchTys (names : List ByteArray) : List Ty → List Ty → List (Option Ty) → Option (List (Option Ty))
  | [], _, out => some out
  | _ :: _, [], _ => none
  | a :: l, b :: m, out => match matchTy names a b out with | some o => matchTys names l m o | none => none
end
def Ext (out out' : List (Option Ty)) : Prop := out'.length = out.length ∧ ∀ (j : Nat) (u : Ty), out[j]? = some (some u) → out'[j]? = some (some u)
theorem Ext.refl (o : List (Option Ty)) : Ext o o := ⟨rfl, fun _ _ h => h⟩
theorem Ext.trans {a b c : List (Option Ty)} (h1 : Ext a b) (h2 : Ext b c) : Ext a c := ⟨h2.1.trans h1.1, fun j u h => h2.2 j u (h1.2 j u h)⟩
def tysOf (o : List (Option Ty)) : List Ty := o.map fun x => x.getD zeroTy
theorem tysOf_get {o : List (Option Ty)} {i : Nat} {u : Ty} (h : o[i]? = some (some u)) : (tysOf o)[i]? = some u := by simp [tysOf, h]
mutual
/-- Whether a pattern has a parameter whose place is j, not within another one that has a place. -/
def hasAt (names : List ByteArray) (j : Nat) : Ty → Bool
  | .node k s _ l => match place names k s with | some i => i == j | none => hasAts names j l
def hasAts (names : List ByteArray) (j : Nat) : List Ty → Bool
  | [] => false
  | t :: l => hasAt names j t || hasAts names j l
end
end Go.Proofs.YtokmaehefenpmaaDoor
namespace Go.Proofs.YtokmaehefenpmaaDoor
theorem nodes_pos (t : Ty) : 1 ≤ t.nodes := by cases t; simp only [Ty.nodes]; omega
/-- The loop of TypeNodes over what is left of the arguments, n nodes being counted. -/
def tnLoop (most : Nat) : Nat → List Ty → Nat
  | n, [] => n
  | n, t :: l => if n ≤ most then tnLoop most (n + min t.nodes (most + 1)) l else n
theorem tnLoop_min (most : Nat) : ∀ (l : List Ty) (n : Nat), min (tnLoop most n l) (most + 1) = min (n + nodesL l) (most + 1)
  | [], n => by simp [tnLoop, nodesL]
  | t :: l, n => by
    simp only [tnLoop, nodesL]
    split
    · rw [tnLoop_min most l]; omega
    · omega
/-- What TypeNodes returns: by the values that its calls for the arguments return. -/
theorem typeNodes (most : Nat) (k : Int) (s : ByteArray) (n : Int) (l : List Ty) : min (tnLoop most 1 l) (most + 1) = min (Ty.node k s n l).nodes (most + 1) := by
  rw [tnLoop_min]; simp only [Ty.nodes]
mutual
def Ty.all (f : Ty → Bool) : Ty → Bool
  | .node k s n l => f (.node k s n l) && alls f l
def alls (f : Ty → Bool) : List Ty → Bool
  | [] => true
  | t :: l => t.all f && alls f l
end
mutual
/-- 'each' with the function of 'right': one is taken off the counter at each node. -/
def chk (f : Ty → Bool) : Ty → Int → Bool × Int
  | .node k s n l, left => if 0 ≤ left - 1 ∧ f (.node k s n l) = true then chks f l (left - 1) else (false, left - 1)
def chks (f : Ty → Bool) : List Ty → Int → Bool × Int
  | [], left => (true, left)
  | t :: l, left => match chk f t left with | (true, x) => chks f l x | (false, x) => (false, x)
end
def ChkOk (f : Ty → Bool) (t : Ty) : Prop := ∀ left : Int, 0 ≤ left → (((chk f t left).1 = true ↔ (t.nodes : Int) ≤ left ∧ t.all f = true) ∧ ((chk f t left).1 = true → (chk f t left).2 = left - t.nodes))
theorem chks_ok (f : Ty → Bool) : ∀ l : List Ty, (∀ t, t ∈ l → ChkOk f t) → ∀ left : Int, 0 ≤ left → (((chks f l left).1 = true ↔ (nodesL l : Int) ≤ left ∧ alls f l = true) ∧ ((chks f l left).1 = true → (chks f l left).2 = left - nodesL l))
  | [], _, left, h => by simp [chks, nodesL, alls, h]
  | t :: l, ih, left, h => by
    obtain ⟨h1, h2⟩ := ih t (by simp) left h
    simp only [chks, nodesL, alls, Bool.and_eq_true]
    cases hc : chk f t left with
    | mk b x =>
      rw [hc] at h1 h2
      cases b with
      | false =>
        simp only [Bool.false_eq_true, false_iff, false_implies, and_true] at h1 ⊢
        intro hh
        exact h1 ⟨by omega, hh.2.1⟩
      | true =>
        simp only [true_iff, true_implies] at h1 h2 ⊢
        obtain ⟨g1, g2⟩ := chks_ok f l (fun t ht => ih t (by simp [ht])) x (by omega)
        refine ⟨⟨fun hh => ?_, fun hh => g1.2 ⟨by omega, hh.2.2⟩⟩, fun hh => by rw [g2 hh]; omega⟩
        have := g1.1 hh
        exact ⟨by omega, h1.2, this.2⟩
theorem chk_ok (f : Ty → Bool) : ∀ t, ChkOk f t := Ty.ind fun k s n l ih left h => by
  simp only [chk, Ty.nodes, Ty.all, Bool.and_eq_true]
  by_cases hc : 0 ≤ left - 1 ∧ f (.node k s n l) = true
  · rw [if_pos hc]
    obtain ⟨g1, g2⟩ := chks_ok f l ih (left - 1) hc.1
    refine ⟨⟨fun hh => ?_, fun hh => g1.2 ⟨by omega, hh.2.2⟩⟩, fun hh => by rw [g2 hh]; omega⟩
    have := g1.1 hh
    exact ⟨by omega, hc.2, this.2⟩
  · rw [if_neg hc]
    refine ⟨⟨fun hh => by simp at hh, fun hh => ?_⟩, fun hh => by simp at hh⟩
    exact absurd ⟨by omega, hh.2.1⟩ hc
/-- 'right' is the chapter's Valid or Open: at most so many nodes, and each as the table says. -/
theorem right_law (f : Ty → Bool) (t : Ty) (most : Nat) : (chk f t most).1 = true ↔ t.nodes ≤ most ∧ t.all f = true := by
  rw [(chk_ok f t most (by omega)).1, Int.ofNat_le]
open Go.RowKit Go.Proofs.YtokmaehefenpmaaDoor.Nm
set_option linter.unusedSimpArgs false
theorem u24 : Tryd.prog.underlying 24 = some (.struct (Tryd.prog.fieldsOf 24)) := by kernel_rfl
theorem u22 : Tryd.prog.underlying 22 = some (.slice 24) := by kernel_rfl
theorem u9 : Tryd.prog.underlying 9 = some .string := by kernel_rfl
theorem u25 : Tryd.prog.underlying 25 = some (.slice 9) := by kernel_rfl
theorem tyNums : TyNums Tryd.prog 24 22 9 3 := ⟨u24, by kernel_rfl, u22, u9, u3, by kernel_rfl, by kernel_rfl, by kernel_rfl, by kernel_rfl⟩
theorem info24 : (Tryd.prog.info? 24).map (·.size) = some 4 := by kernel_rfl
theorem info24b : (Tryd.prog.info? 24).map (fun i => (i.zero, i.size, i.bytes)) = some (some (.agg (cell4 0 ⟨#[]⟩ 0 none 0 0)), 4, 56) := by kernel_rfl
theorem info22 : (Tryd.prog.info? 22).map (·.size) = some 1 := by kernel_rfl
theorem info3 : (Tryd.prog.info? 3).map (·.size) = some 1 := by kernel_rfl
theorem cell4_size (k : Int) (s : ByteArray) (n : Int) (A : Option Addr) (l c : Nat) : (cell4 k s n A l c).size = 4 := rfl
theorem cell4_one (k : Int) (s : ByteArray) (n : Int) (A : Option Addr) (l c : Nat) : (cell4 k s n A l c).all (·.oneCell') = true := by simp [cell4, Value.oneCell']
/-- A row of trees at a slice. -/
structure TysAt (w : World) (D : Nat → Prop) (ts : List Ty) (A : Option Addr) (l c : Nat) : Prop where
  len : ts.length = l
  cap : l ≤ c
  max : c ≤ maxLen
  el : ∃ rows : Nat → Array Value, (∀ i t, ts[i]? = some t → Four w D A i (rows i)) ∧ ∀ i t, ts[i]? = some t → TyAt w D t (rows i)
theorem TyAt.parts {w : World} {D : Nat → Prop} {t : Ty} {row : Array Value} (h : TyAt w D t row) : ∃ k s n A l c ts, t = .node k s n ts ∧ row = cell4 k s n A l c ∧ (Lit.int .i64 k).wf = true ∧ (Lit.int .i64 n).wf = true ∧ s.size ≤ maxLen ∧ TysAt w D ts A l c := by
  cases h with
  | mk rows hk hn hs hl hc hm hf ht => exact ⟨_, _, _, _, _, _, _, rfl, rfl, hk, hn, hs, hl, hc, hm, rows, hf, ht⟩
theorem TyAt.of {w : World} {D : Nat → Prop} {k : Int} {s : ByteArray} {n : Int} {A : Option Addr} {l c : Nat} {ts : List Ty} (hk : (Lit.int .i64 k).wf = true) (hn : (Lit.int .i64 n).wf = true) (hs : s.size ≤ maxLen) (h : TysAt w D ts A l c) : TyAt w D (.node k s n ts) (cell4 k s n A l c) := by
  obtain ⟨h1, h2, h3, rows, h4, h5⟩ := h
  exact .mk rows hk hn hs h1 h2 h3 h4 h5
theorem TysAt.nil (w : World) (D : Nat → Prop) : TysAt w D [] none 0 0 := ⟨rfl, Nat.le_refl _, Nat.zero_le _, fun _ => #[], fun i t h => by simp at h, fun i t h => by simp at h⟩
theorem Four.low {w : World} {D : Nat → Prop} {A : Option Addr} {i : Nat} {row : Array Value} (h : Four w D A i row) : Four w (fun b => D b ∧ b < w.heap.size) A i row := by
  obtain ⟨b, off, Cs, t, fr, h1, h2, h3, h4⟩ := h
  exact ⟨b, off, Cs, t, fr, h1, ⟨h2, heap_lt h3⟩, h3, h4⟩
theorem TyAt.low {w : World} {D : Nat → Prop} {t : Ty} {row : Array Value} (h : TyAt w D t row) : TyAt w (fun b => D b ∧ b < w.heap.size) t row := by
  induction h with
  | mk rows hk hn hs hl hc hm hf _ ih => exact .mk rows hk hn hs hl hc hm (fun i t hi => (hf i t hi).low) ih
theorem TyAt.old {w w' : World} {D : Nat → Prop} {t : Ty} {row : Array Value} (h : TyAt w D t row) (hb : Below w.heap.size w w') : TyAt w' D t row :=
  (h.low.mono (fun _ h => h) (fun b h => hb.block b h.2)).mono (fun _ h => h.1) (fun _ _ => rfl)
theorem TyAt.weak {w : World} {D D' : Nat → Prop} {t : Ty} {row : Array Value} (h : TyAt w D t row) (hD : ∀ b, D b → D' b) : TyAt w D' t row := h.mono hD fun _ _ => rfl
theorem TysAt.mono {w w' : World} {D D' : Nat → Prop} {ts : List Ty} {A : Option Addr} {l c : Nat} (h : TysAt w D ts A l c) (hD : ∀ b, D b → D' b) (hw : ∀ b, D b → w'.heap[b]? = w.heap[b]?) : TysAt w' D' ts A l c := by
  obtain ⟨h1, h2, h3, rows, h4, h5⟩ := h
  exact ⟨h1, h2, h3, rows, fun i t hi => (h4 i t hi).mono hD hw, fun i t hi => (h5 i t hi).mono hD hw⟩
theorem TysAt.old {w w' : World} {D : Nat → Prop} {ts : List Ty} {A : Option Addr} {l c : Nat} (h : TysAt w D ts A l c) (hb : Below w.heap.size w w') : TysAt w' D ts A l c := by
  obtain ⟨h1, h2, h3, rows, h4, h5⟩ := h
  exact ⟨h1, h2, h3, rows, fun i t hi => ((h4 i t hi).low.mono (fun _ h => h) (fun b h => hb.block b h.2)).mono (fun _ h => h.1) (fun _ _ => rfl), fun i t hi => (h5 i t hi).old hb⟩
theorem TysAt.weak {w : World} {D D' : Nat → Prop} {ts : List Ty} {A : Option Addr} {l c : Nat} (h : TysAt w D ts A l c) (hD : ∀ b, D b → D' b) : TysAt w D' ts A l c := h.mono hD fun _ _ => rfl
/-- Any places at all. -/
def Any (_ : Nat) : Prop := True
theorem TysAt.get {w : World} {D : Nat → Prop} {ts : List Ty} {A : Option Addr} {l c : Nat} (h : TysAt w D ts A l c) {i : Nat} (hi : i < l) :
    ∃ b off t row, A = some ⟨b, off, none⟩ ∧ D b ∧ ts[i]? = some t ∧ RowAt w 24 ⟨b, off + i * 4, none⟩ row ∧ TyAt w D t row := by
  obtain ⟨h1, h2, h3, rows, h4, h5⟩ := h
  have ht : ts[i]? = some ts[i] := List.getElem?_eq_getElem (by omega)
  obtain ⟨b, off, Cs, t, fr, e1, e2, e3, e4⟩ := h4 i _ ht
  exact ⟨b, off, _, rows i, e1, e2, ht, row_mid e3 e4 u24 rfl (h5 i _ ht).size info24, h5 i _ ht⟩
theorem TysAt.addr {w : World} {D : Nat → Prop} {ts : List Ty} {A : Option Addr} {l c : Nat} (h : TysAt w D ts A l c) {i : Nat} (hi : i < l) : ∃ b off, A = some ⟨b, off, none⟩ := by
  obtain ⟨b, off, _, _, e, _⟩ := h.get hi
  exact ⟨b, off, e⟩
theorem TysAt.row {w : World} {D : Nat → Prop} {ts : List Ty} {b off : Nat} {l c : Nat} (h : TysAt w D ts (some ⟨b, off, none⟩) l c) {i : Nat} {t : Ty} (hi : ts[i]? = some t) : ∃ row, RowAt w 24 ⟨b, off + i * 4, none⟩ row ∧ TyAt w D t row := by
  have hl : i < l := by rw [← h.len]; exact (List.getElem?_eq_some_iff.1 hi).1
  obtain ⟨b', off', t', row, e, _, ht, hr, ha⟩ := h.get hl
  cases e; rw [hi] at ht; cases ht
  exact ⟨row, hr, ha⟩
/-- Four cells that are loaded so whatever is made beside them. -/
@[irreducible] def RowK (w : World) (ad : Addr) (row : Array Value) : Prop := ∀ w', Below w.heap.size w w' → RowAt w' 24 ad row
theorem RowK.at {w w' : World} {ad : Addr} {row : Array Value} (h : RowK w ad row) (hb : Below w.heap.size w w') : RowAt w' 24 ad row := by unfold RowK at h; exact h w' hb
theorem RowK.now {w : World} {ad : Addr} {row : Array Value} (h : RowK w ad row) : RowAt w 24 ad row := h.at (Below.refl _ _)
theorem RowK.old {w w' : World} {ad : Addr} {row : Array Value} (h : RowK w ad row) (hb : Below w.heap.size w w') : RowK w' ad row := by
  unfold RowK at *
  exact fun x hx => h x (hb.trans (hx.mono hb.size))
theorem TysAt.rowK {w : World} {D : Nat → Prop} {ts : List Ty} {b off : Nat} {l c : Nat} (h : TysAt w D ts (some ⟨b, off, none⟩) l c) {i : Nat} {t : Ty} (hi : ts[i]? = some t) : ∃ row, RowK w ⟨b, off + i * 4, none⟩ row ∧ TyAt w D t row := by
  obtain ⟨h1, h2, h3, rows, h4, h5⟩ := h
  obtain ⟨b', off', Cs, t', fr, e1, e2, e3, e4⟩ := h4 i _ hi
  cases e1
  exact ⟨rows i, by unfold RowK; exact fun w' hb => row_mid (below_look hb e3) e4 u24 rfl (h5 i _ hi).size info24, h5 i _ hi⟩
section
variable {w : World} {p : Nat} {k : Int} {s : ByteArray} {n : Int} {A : Option Addr} {l c : Nat} {t : TypeId} {fr : Nat × Nat}
theorem f0 (h : w.heap[p]? = some (.cells (cell4 k s n A l c) t fr)) : OneAt w 3 ⟨p, 0, none⟩ (.int .i64 k) := one_of u3 rfl (by rw [cell_of_row _ _ _ _ _ _ h]; rfl)
theorem f1 (h : w.heap[p]? = some (.cells (cell4 k s n A l c) t fr)) : OneAt w 9 ⟨p, 1, none⟩ (.string s) := one_of u9 rfl (by rw [cell_of_row _ _ _ _ _ _ h]; rfl)
theorem f2 (h : w.heap[p]? = some (.cells (cell4 k s n A l c) t fr)) : OneAt w 3 ⟨p, 2, none⟩ (.int .i64 n) := one_of u3 rfl (by rw [cell_of_row _ _ _ _ _ _ h]; rfl)
theorem f3 (h : w.heap[p]? = some (.cells (cell4 k s n A l c) t fr)) : OneAt w 22 ⟨p, 3, none⟩ (.slice A l c) := one_of u22 rfl (by rw [cell_of_row _ _ _ _ _ _ h]; rfl)
theorem f4 (h : w.heap[p]? = some (.cells (cell4 k s n A l c) t fr)) : RowAt w 24 ⟨p, 0, none⟩ (cell4 k s n A l c) := row_mid (n := 4) h (by rfl) u24 rfl rfl info24
end
theorem run_box24 (k : Int) (s : ByteArray) (n : Int) (A : Option Addr) (l c : Nat) (w : World) : (Instr.box 24 (.agg (cell4 k s n A l c))).run Tryd.prog w = .ok (.pointer (some ⟨w.heap.size, 0, none⟩)) (w.alloc (.cells (cell4 k s n A l c) 24)) := by kernel_rfl
theorem ex_box24 {ev : Operand → Value} {o : Oper} {w : World} (x : Operand) (ho : o.op = .box 24 x) {k : Int} {s : ByteArray} {n : Int} {A : Option Addr} {l c : Nat} (hx : ev x = .agg (cell4 k s n A l c)) :
    (execOp ev o).run Tryd.prog w = .ok (.value (.pointer (some ⟨w.heap.size, 0, none⟩))) (w.alloc (.cells (cell4 k s n A l c) 24)) := by
  unfold execOp
  simp [ho, hx, run_box24 k s n A l c w, Result.andThen]
theorem ex_alloc24 {o : Oper} (ho : o.op = .alloc 24) (ev : Operand → Value) (w : World) : (execOp ev o).run Tryd.prog w = .ok (.value (.pointer (some ⟨w.heap.size, 0, none⟩))) (w.alloc (.cells (cell4 0 ⟨#[]⟩ 0 none 0 0) 24)) := by
  unfold execOp
  simp only [ho]
  kernel_rfl
theorem run_bs22 (k : Int) (s : ByteArray) (n : Int) (A : Option Addr) (l c : Nat) (w : World) : (Instr.buildSlice 22 1 #[(0, .agg (cell4 k s n A l c))]).run Tryd.prog w = .ok (.slice (some ⟨w.heap.size, 0, none⟩) 1 1) (w.alloc (.cells (cell4 k s n A l c) 24)) := by kernel_rfl
theorem ex_bs22 {ev : Operand → Value} {o : Oper} {w : World} (x : Operand) (ho : o.op = .buildSlice 22 1 #[(0, x)]) {k : Int} {s : ByteArray} {n : Int} {A : Option Addr} {l c : Nat} (hx : ev x = .agg (cell4 k s n A l c)) :
    (execOp ev o).run Tryd.prog w = .ok (.value (.slice (some ⟨w.heap.size, 0, none⟩) 1 1)) (w.alloc (.cells (cell4 k s n A l c) 24)) := by
  unfold execOp
  have := run_bs22 k s n A l c w
  simp [ho, hx, this, Result.andThen]
section
variable {ops : Array Oper} {rest : List Oper} {dst : Option Tmp} {ty ty' : TypeId} {x y : Operand} {pos : String} {after : Array Edge} {a : Act} {w : World} {Q : Exit → Act → World → Prop}
/-- A tree's four cells in a new variable. -/
theorem wl_box {k : Int} {s : ByteArray} {n : Int} {A : Option Addr} {l c : Nat} (hx : a.eval x = .agg (cell4 k s n A l c))
    (h : ∀ W p, Below w.heap.size w W → w.heap.size ≤ p → W.heap[p]? = some (.cells (cell4 k s n A l c) 24 (0, 0)) → wpList Tryd.prog ops Q rest (a.put dst (.pointer (some ⟨p, 0, none⟩))) W) :
    wpList Tryd.prog ops Q (⟨dst, .box 24 x, ty', pos, after, none⟩ :: rest) a w :=
  wl_w rfl (ex_box24 x rfl hx) (h _ _ ((Below.refl _ w).alloc (Nat.le_refl _) _) (Nat.le_refl _) (ha_new rfl))
theorem wl_all (h : ∀ W p, Below w.heap.size w W → w.heap.size ≤ p → W.heap[p]? = some (.cells (cell4 0 ⟨#[]⟩ 0 none 0 0) 24 (0, 0)) → wpList Tryd.prog ops Q rest (a.put dst (.pointer (some ⟨p, 0, none⟩))) W) :
    wpList Tryd.prog ops Q (⟨dst, .alloc 24, ty', pos, after, none⟩ :: rest) a w :=
  wl_w rfl (ex_alloc24 rfl _ w) (h _ _ ((Below.refl _ w).alloc (Nat.le_refl _) _) (Nat.le_refl _) (ha_new rfl))
/-- A tree's four cells over a variable. -/
theorem wl_put {k : Int} {s : ByteArray} {n : Int} {A : Option Addr} {l c : Nat} {p : Nat} {k' : Int} {s' : ByteArray} {n' : Int} {A' : Option Addr} {l' c' : Nat} (hx : a.eval x = .pointer (some ⟨p, 0, none⟩)) (hy : a.eval y = .agg (cell4 k s n A l c)) (hp : w.heap[p]? = some (.cells (cell4 k' s' n' A' l' c') 24 (0, 0)))
    (h : ∀ W, (∀ B w0, B ≤ p → Below B w0 w → Below B w0 W) → W.heap.size = w.heap.size → (∀ g, g ≠ p → W.heap[g]? = w.heap[g]?) → W.heap[p]? = some (.cells (cell4 k s n A l c) 24 (0, 0)) → wpList Tryd.prog ops Q rest (a.put none undef) W) :
    wpList Tryd.prog ops Q (⟨none, .store 24 x y, ty', pos, after, none⟩ :: rest) a w := by
  refine wpList_plain rfl fun _ hK => wp_store_row 24 x y rfl p (cell4 k s n A l c) hx hy 24 _ hp info24 rfl (cell4_one _ _ _ _ _ _) (hK _ _ ?_)
  exact h _ (fun B w0 hB hb => below_setRow hb hB _) (by simp) (fun g hg => setRow_other w p g _ hg) (hr_new hp)
/-- The slice of a tree's variable. -/
theorem wl_put3 {k : Int} {s : ByteArray} {n : Int} {A : Option Addr} {l c : Nat} {p : Nat} {A' : Option Addr} {l' c' : Nat} (hx : a.eval x = .pointer (some ⟨p, 3, none⟩)) (hy : a.eval y = .slice A' l' c') (hp : w.heap[p]? = some (.cells (cell4 k s n A l c) 24 (0, 0)))
    (h : ∀ W, (∀ B w0, B ≤ p → Below B w0 w → Below B w0 W) → W.heap.size = w.heap.size → (∀ g, g ≠ p → W.heap[g]? = w.heap[g]?) → W.heap[p]? = some (.cells (cell4 k s n A' l' c') 24 (0, 0)) → wpList Tryd.prog ops Q rest (a.put none undef) W) :
    wpList Tryd.prog ops Q (⟨none, .store 22 x y, ty', pos, after, none⟩ :: rest) a w := by
  refine wl_storeC rfl 22 x y rfl p 3 _ hx hy info22 rfl (by rw [cell_of_row _ _ _ _ _ _ hp]; rfl) (by unfold World.frozen?; rw [hp]; rfl) ?_
  exact h _ (fun B w0 hB hb => hb.setCell hB _) (by simp [World.setCell]) (fun g hg => heap_setCell_other _ _ _ _ hg) (by rw [hs_new hp]; rfl)
end
/-- A list of trees of the call's own: its blocks and those of its trees lie at B or behind, the trees not in the list's own block. -/
structure OwnT (w : World) (B : Nat) (v : Value) (ts : List Ty) : Prop where
  own : ∃ rows : List (Array Value), rows.length = ts.length ∧ w.ownsRow B 24 4 v ts.length (rows.flatMap (·.toList)) ∧ ∀ (i : Nat) (t : Ty) (row : Array Value), ts[i]? = some t → rows[i]? = some row → TyAt w (fun b => B ≤ b ∧ v.ownBlock ≠ some b) t row
theorem OwnT.nil (w : World) (B : Nat) : OwnT w B (.slice none 0 0) [] := ⟨[], rfl, World.ownsRow_nil _ _ _ _, fun i t row h => by simp at h⟩
theorem own_same {w w' : World} {b n : Nat} {e : TypeId} {size : Nat} {v : Value} {xs : List Value} (h : w.ownsRow b e size v n xs) (hs : ∀ q, q < w.heap.size → v.ownBlock = some q → w'.heap[q]? = w.heap[q]?) : w'.ownsRow b e size v n xs := by
  refine ⟨h.1, ?_⟩
  rcases h.2 with h | ⟨g, cap, cur, rfl, hB, hg, rest⟩
  · exact Or.inl h
  · exact Or.inr ⟨g, cap, cur, rfl, hB, by rw [hs g (heap_lt hg) rfl, hg], rest⟩
/-- It stands where its blocks stand. -/
theorem OwnT.same {w w' : World} {B : Nat} {v : Value} {ts : List Ty} (h : OwnT w B v ts) (hs : ∀ q, B ≤ q → q < w.heap.size → w'.heap[q]? = w.heap[q]?) : OwnT w' B v ts := by
  obtain ⟨rows, h1, h2, h3⟩ := h
  exact ⟨rows, h1, own_same h2 fun q hq hv => hs q (h2.lt q hv).1 hq, fun i t row ht hr => (((h3 i t row ht hr).low).mono (fun _ h => h) (fun b hb => hs b hb.1.1 hb.2)).weak fun _ h => h.1⟩
theorem OwnT.old {w w' : World} {B : Nat} {v : Value} {ts : List Ty} (h : OwnT w B v ts) (hb : Below w.heap.size w w') : OwnT w' B v ts := h.same fun q _ hq => hb.block q hq
theorem flat_get : ∀ {rows : List (Array Value)}, (∀ r, r ∈ rows → r.size = 4) → ∀ {i : Nat} {row : Array Value}, rows[i]? = some row → ((rows.flatMap (·.toList)).drop (i * 4)).take 4 = row.toList
  | [], _, i, row, hi => by simp at hi
  | r :: rows, h, 0, row, hi => by
    have hr : r.toList.length = 4 := by simp [h r (by simp)]
    simp at hi; subst hi
    simp only [List.flatMap_cons, Nat.zero_mul, List.drop_zero]
    rw [List.take_append_of_le_length (by omega), List.take_of_length_le (by omega)]
  | r :: rows, h, i + 1, row, hi => by
    have hr : r.toList.length = 4 := by simp [h r (by simp)]
    simp only [List.flatMap_cons]
    rw [show (i + 1) * 4 = r.toList.length + i * 4 by omega, List.drop_append]
    simp only [Nat.add_sub_cancel_left]
    rw [List.drop_of_length_le (by omega), List.nil_append]
    exact flat_get (fun r hr => h r (by simp [hr])) (by simpa using hi)
/-- Such a list read as a row of trees. -/
theorem OwnT.at {w : World} {B : Nat} {v : Value} {ts : List Ty} (h : OwnT w B v ts) : ∃ A l c, v = .slice A l c ∧ TysAt w (fun b => B ≤ b) ts A l c := by
  obtain ⟨rows, h1, h2, h3⟩ := h
  have h4 : ∀ r, r ∈ rows → r.size = 4 := fun r hr => by
    obtain ⟨i, hi, rfl⟩ := List.getElem_of_mem hr
    exact (h3 i _ _ (List.getElem?_eq_getElem (by omega)) (List.getElem?_eq_getElem hi)).size
  rcases h2.2 with ⟨rfl, hn⟩ | ⟨g, cap, cur, rfl, hB, hg, hc, hm, hs, hcur⟩
  · have : ts = [] := by cases ts with | nil => rfl | cons => simp at hn
    subst this
    exact ⟨none, 0, 0, rfl, TysAt.nil _ _⟩
  · refine ⟨_, _, _, rfl, rfl, hc, hm, fun i => (rows[i]?).getD #[], fun i t ht => ?_, fun i t ht => ?_⟩
    · have hi : i < ts.length := (List.getElem?_eq_some_iff.1 ht).1
      have hr : rows[i]? = some rows[i] := List.getElem?_eq_getElem (by omega)
      refine ⟨g, 0, cur, 24, (0, 0), rfl, hB, hg, ?_⟩
      have hf := flat_get h4 hr
      rw [← hcur, List.drop_take, List.take_take] at hf
      simp only [hr, Option.getD_some]
      apply Array.toList_inj.1
      rw [← hf]
      simp only [Array.toList_extract, List.extract_eq_take_drop, Nat.zero_add]
      rw [show i * 4 + 4 - i * 4 = min 4 (ts.length * 4 - i * 4) by omega]
    · have hi : i < ts.length := (List.getElem?_eq_some_iff.1 ht).1
      have hr : rows[i]? = some rows[i] := List.getElem?_eq_getElem (by omega)
      simp only [hr, Option.getD_some]
      exact (h3 i t _ ht hr).weak fun _ h => h.1
/-- What an append of one tree leaves. -/
theorem OwnT.snoc {w w' : World} {B : Nat} {v v' : Value} {ts : List Ty} {t : Ty} {row : Array Value} (rows : List (Array Value)) (h1 : rows.length = ts.length)
    (h3 : ∀ (i : Nat) (t : Ty) (row : Array Value), ts[i]? = some t → rows[i]? = some row → TyAt w (fun b => B ≤ b ∧ v.ownBlock ≠ some b) t row) (ht : TyAt w (fun b => B ≤ b ∧ v.ownBlock ≠ some b) t row)
    (ho : w'.ownsRow B 24 4 v' (ts.length + 1) (rows.flatMap (·.toList) ++ row.toList)) (hg : w.grownBy w' v.ownBlock) (hv : ∀ b, v'.ownBlock = some b → v.ownBlock = some b ∨ w.heap.size ≤ b) : OwnT w' B v' (ts ++ [t]) := by
  refine ⟨rows ++ [row], by simp [h1], by simpa using ho, fun i u r hu hr => ?_⟩
  have key : ∀ {u : Ty} {r : Array Value}, TyAt w (fun b => B ≤ b ∧ v.ownBlock ≠ some b) u r → TyAt w' (fun b => B ≤ b ∧ v'.ownBlock ≠ some b) u r := fun h =>
    h.low.mono (fun b hb => ⟨hb.1.1, fun e => (hv b e).elim (fun e => hb.1.2 e) (fun e => absurd hb.2 (by omega))⟩) (fun b hb => hg.block b hb.2 (fun e => hb.1.2 e.symm))
  rcases Nat.lt_or_ge i ts.length with hi | hi
  · rw [List.getElem?_append_left hi] at hu
    rw [List.getElem?_append_left (by omega)] at hr
    exact key (h3 i u r hu hr)
  · have hl := (List.getElem?_eq_some_iff.1 hu).1
    simp at hl
    obtain rfl : i = ts.length := by omega
    rw [List.getElem?_append_right (Nat.le_refl _)] at hu
    rw [List.getElem?_append_right (by omega), h1] at hr
    simp at hu hr
    subst hu hr
    exact key ht
/-- An append of one tree, whose four cells stand in a new block. -/
theorem run_push {w : World} {B : Nat} {v : Value} {ts : List Ty} {t : Ty} {row : Array Value} (oty : TypeId) (h : OwnT w B v ts) (ht : TyAt w (fun b => B ≤ b ∧ v.ownBlock ≠ some b) t row) {q : Nat} {tq : TypeId} (hq : w.heap[q]? = some (.cells row tq (0, 0))) (hn : ts.length ≤ 1000000) (hB : B ≤ w.heap.size) :
    ∃ v' w', (Builtin.append_ #[22, 22] oty #[v, .slice (some ⟨q, 0, none⟩) 1 1]).run Tryd.prog w = .ok v' w' ∧ OwnT w' B v' (ts ++ [t]) ∧ (∀ b, b < w.heap.size → v.ownBlock ≠ some b → w'.heap[b]? = w.heap[b]?) ∧ (∀ B' w0, (∀ b, v.ownBlock = some b → B' ≤ b) → B' ≤ w.heap.size → Below B' w0 w → Below B' w0 w') ∧ ∃ A l c, v' = .slice A l c := by
  obtain ⟨i0, hi, hz0, hz1, hz2⟩ := info_parts info24b
  obtain ⟨rows, h1, h2, h3⟩ := h
  obtain ⟨k, s, n, A, l, c, ts', rfl, rfl, -⟩ := ht.parts
  obtain ⟨v', w', hr, g2, g3, g4, g5⟩ := run_append_own_at (P := Tryd.prog) w B 22 oty 24 i0 _ 4 56 u22 hi hz0 hz1 hz2 rfl (by decide) v ts.length _ h2 ⟨q, 0, none⟩ 1 1 (cell4 k s n A l c).toList rfl (fun j u hj => by
      rw [show (Addr.add ⟨q, 0, none⟩ j) = ⟨q, j, none⟩ by rw [Addr.add_mid]; simp, cell_of_row _ _ _ _ _ _ hq]
      simpa using hj) (fun u hu => by simp [cell4] at hu; rcases hu with rfl | rfl | rfl | rfl <;> rfl) (by unfold maxLen; omega) (by omega) hB
  have hO := OwnT.snoc rows h1 h3 ht (by simpa using g2) g3 (fun b hb => by
    rcases g5 with e | e
    · rw [e] at hb; exact Or.inl hb
    · rw [e] at hb; simp at hb; exact Or.inr (by omega))
  obtain ⟨A', l', c', hv', -⟩ := hO.at
  exact ⟨v', w', hr, hO, fun b hb hne => g3.block b hb (fun e => hne e.symm), fun B' w0 hb1 hb2 hb => hb.grown g3 hb2 hb1, A', l', c', hv'⟩
section
variable {ops : Array Oper} {rest : List Oper} {o : Oper} {a : Act} {w : World} {Q : Exit → Act → World → Prop}
theorem wl_push (hg : o.guard = none) (s x : Operand) (ho : o.op = .call { callee := .builtin .append, args := #[s, x], argTypes := #[22, 22] }) {B : Nat} {v : Value} {ts : List Ty} {t : Ty} {row : Array Value} {q : Nat} {tq : TypeId}
    (hs : a.eval s = v) (hx : a.eval x = .slice (some ⟨q, 0, none⟩) 1 1) (h : OwnT w B v ts) (ht : TyAt w (fun b => B ≤ b ∧ v.ownBlock ≠ some b) t row) (hq : w.heap[q]? = some (.cells row tq (0, 0))) (hn : ts.length ≤ 1000000) (hB : B ≤ w.heap.size)
    (hK : ∀ A l c w', OwnT w' B (.slice A l c) (ts ++ [t]) → (∀ b, b < w.heap.size → v.ownBlock ≠ some b → w'.heap[b]? = w.heap[b]?) → (∀ B' w0, (∀ b, v.ownBlock = some b → B' ≤ b) → B' ≤ w.heap.size → Below B' w0 w → Below B' w0 w') → wpList Tryd.prog ops Q rest (a.put o.dst (.slice A l c)) w') : wpList Tryd.prog ops Q (o :: rest) a w := by
  obtain ⟨v', w', hr, h2, h3, h4, A, l, c, rfl⟩ := run_push o.type h ht hq hn hB
  refine wl_w hg ?_ (hK A l c w' h2 h3 h4)
  unfold execOp
  simp only [ho, resolve, invoke, builtin, Sem.run_bind, Sem.run_pure, Result.andThen_ok, List.map_toArray, List.map_cons, List.map_nil, hs, hx, hr]
end
section
variable {md : Region.Mode} {ops : Array Oper} {Q : Exit → Act → World → Prop} {S : World → Prop} {fuel : Nat} {listed : Array Bool} {a : Act} {w : World} {i : Nat} {oi : Oper}
theorem ha_push (hr : Region.ready md ops listed = [i]) (ho : ops[i]? = some oi) (hg : Region.wanted oi (yielded ops a.tmps) = true) (s x : Operand) (hop : oi.op = .call { callee := .builtin .append, args := #[s, x], argTypes := #[22, 22] }) {B : Nat} {v : Value} {ts : List Ty} {t : Ty} {row : Array Value} {q : Nat} {tq : TypeId}
    (hs : a.eval s = v) (hx : a.eval x = .slice (some ⟨q, 0, none⟩) 1 1) (h : OwnT w B v ts) (ht : TyAt w (fun b => B ≤ b ∧ v.ownBlock ≠ some b) t row) (hq : w.heap[q]? = some (.cells row tq (0, 0))) (hn : ts.length ≤ 1000000) (hB : B ≤ w.heap.size)
    (hS : ∀ w', (∀ B' w0, (∀ b, v.ownBlock = some b → B' ≤ b) → B' ≤ w.heap.size → Below B' w0 w → Below B' w0 w') → S w')
    (hK : ∀ A l c w', OwnT w' B (.slice A l c) (ts ++ [t]) → (∀ b, b < w.heap.size → v.ownBlock ≠ some b → w'.heap[b]? = w.heap[b]?) → (∀ B' w0, (∀ b, v.ownBlock = some b → B' ≤ b) → B' ≤ w.heap.size → Below B' w0 w → Below B' w0 w') → S w' → wpAnyH Tryd.prog md ops Q S fuel (listed.setIfInBounds i true) (a.put oi.dst (.slice A l c)) w') : wpAnyH Tryd.prog md ops Q S (fuel + 1) listed a w := by
  obtain ⟨v', w', hx2, h2, h3, h4, A, l, c, rfl⟩ := run_push oi.type h ht hq hn hB
  refine ha_do hr ho hg (w2 := w') (v := .slice A l c) ?_ (hS w' h4) (hK A l c w' h2 h3 h4 (hS w' h4))
  unfold execOp
  simp only [hop, resolve, invoke, builtin, Sem.run_bind, Sem.run_pure, Result.andThen_ok, List.map_toArray, List.map_cons, List.map_nil, hs, hx, hx2]
end
theorem OwnT.lt {w : World} {B : Nat} {v : Value} {ts : List Ty} (h : OwnT w B v ts) : ∀ b, v.ownBlock = some b → B ≤ b ∧ b < w.heap.size := by
  obtain ⟨rows, _, h2, _⟩ := h
  exact h2.lt
/-- A tree made later lies apart. -/
theorem OwnT.apart {w w' : World} {B : Nat} {v : Value} {ts : List Ty} (h : OwnT w B v ts) (hB : B ≤ w.heap.size) {t : Ty} {row : Array Value} (ht : TyAt w' (fun b => w.heap.size ≤ b) t row) : TyAt w' (fun b => B ≤ b ∧ v.ownBlock ≠ some b) t row :=
  ht.weak fun b hb => ⟨by omega, fun e => by have := (h.lt b e).2; omega⟩
section
variable {ops : Array Oper} {rest : List Oper} {dst : Option Tmp} {ty' : TypeId} {x : Operand} {pos : String} {after : Array Edge} {a : Act} {w : World} {Q : Exit → Act → World → Prop}
theorem wl_bs {k : Int} {s : ByteArray} {n : Int} {A : Option Addr} {l c : Nat} (hx : a.eval x = .agg (cell4 k s n A l c))
    (h : ∀ W p, Below w.heap.size w W → w.heap.size ≤ p → W.heap[p]? = some (.cells (cell4 k s n A l c) 24 (0, 0)) → wpList Tryd.prog ops Q rest (a.put dst (.slice (some ⟨p, 0, none⟩) 1 1)) W) :
    wpList Tryd.prog ops Q (⟨dst, .buildSlice 22 1 #[(0, x)], ty', pos, after, none⟩ :: rest) a w :=
  wl_w rfl (ex_bs22 x rfl hx) (h _ _ ((Below.refl _ w).alloc (Nat.le_refl _) _) (Nat.le_refl _) (ha_new rfl))
end
/-- What a call hands back that makes a tree: the tree in new blocks; nothing old turned. -/
def NewTy (w : World) (t : Ty) (e : Ending) (w' : World) : Prop := ∃ row, e = .returned (.agg row) ∧ TyAt w' (fun b => w.heap.size ≤ b) t row ∧ Below w.heap.size w w'
theorem res24 {fn : Func} {p : Tmp} (h : fn.results = #[.cell p 24]) (tmps : Array Value) (w : World) (g : Nat) (hp : tmps.getD p undef = .pointer (some ⟨g, 0, none⟩)) {k : Int} {s : ByteArray} {n : Int} {A : Option Addr} {l c : Nat}
    (hg : w.heap[g]? = some (.cells (cell4 k s n A l c) 24 (0, 0))) : (results fn tmps).run Tryd.prog w = .ok (.agg (cell4 k s n A l c)) w := by
  have hp' : tmps[p]?.getD undef = .pointer (some ⟨g, 0, none⟩) := by simpa using hp
  have l1 : (loadVar 24 ⟨g, 0, none⟩).run Tryd.prog w = .ok (.agg (cell4 k s n A l c)) w := by have := f4 hg; unfold RowAt at this; exact this
  unfold results
  simp [h, hp', asAddr, l1, Result.andThen]
theorem res24t {fn : Func} {p q : Tmp} (h : fn.results = #[.cell p 24, .tmp q]) (tmps : Array Value) (w : World) (g : Nat) (hp : tmps.getD p undef = .pointer (some ⟨g, 0, none⟩)) {k : Int} {s : ByteArray} {n : Int} {A : Option Addr} {l c : Nat} {x : Value}
    (hq : tmps.getD q undef = x) (hg : w.heap[g]? = some (.cells (cell4 k s n A l c) 24 (0, 0))) : (results fn tmps).run Tryd.prog w = .ok (.tuple #[.agg (cell4 k s n A l c), x]) w := by
  have hp' : tmps[p]?.getD undef = .pointer (some ⟨g, 0, none⟩) := by simpa using hp
  have hq' : tmps[q]?.getD undef = x := by simpa using hq
  have l1 : (loadVar 24 ⟨g, 0, none⟩).run Tryd.prog w = .ok (.agg (cell4 k s n A l c)) w := by have := f4 hg; unfold RowAt at this; exact this
  unfold results
  simp [h, hp', hq', asAddr, l1, Result.andThen]
theorem mem_nodesL {t : Ty} : ∀ {l : List Ty}, t ∈ l → t.nodes ≤ nodesL l
  | [], h => by cases h
  | u :: l, h => by
    simp only [nodesL]
    rcases List.mem_cons.1 h with rfl | h
    · omega
    · have := mem_nodesL h; omega
theorem len_nodesL : ∀ (l : List Ty), l.length ≤ nodesL l
  | [] => by simp [nodesL]
  | t :: l => by have := len_nodesL l; have := nodes_pos t; simp only [nodesL, List.length_cons]; omega
/-- The kind of a tree of a row. -/
theorem TysAt.kind {w : World} {D : Nat → Prop} {ts : List Ty} {b off : Nat} {l c : Nat} (h : TysAt w D ts (some ⟨b, off, none⟩) l c) {i : Nat} {t : Ty} (hi : ts[i]? = some t) : OneAt w 3 ⟨b, off + i * 4, none⟩ (.int .i64 t.kind) := by
  obtain ⟨h1, h2, h3, rows, h4, h5⟩ := h
  obtain ⟨b', off', Cs, t', fr, e1, e2, e3, e4⟩ := h4 i _ hi
  cases e1
  obtain ⟨k, s, n, A, l', c', ts', rfl, hr, -⟩ := (h5 i _ hi).parts
  rw [hr] at e4
  refine one_of u3 rfl ?_
  rw [cell_of_row _ _ _ _ _ _ e3]
  have := congrArg (fun x : Array Value => x[0]?) e4
  rw [Array.getElem?_extract] at this
  simp [cell4] at this
  simpa [Ty.kind] using this.2
section
variable {ops : Array Oper} {rest : List Oper} {dst : Option Tmp} {ty' : TypeId} {x : Operand} {pos : String} {after : Array Edge} {a : Act} {w : World} {Q : Exit → Act → World → Prop}
end
theorem g22 {w : World} {p : Nat} {A : Option Addr} {l c : Nat} {t : TypeId} {fr : Nat × Nat} (h : w.heap[p]? = some (.cells #[.slice A l c] t fr)) : OneAt w 22 ⟨p, 0, none⟩ (.slice A l c) := one_of u22 rfl (by rw [cell_of_row _ _ _ _ _ _ h]; rfl)
theorem g25 {w : World} {p : Nat} {A : Option Addr} {l c : Nat} {t : TypeId} {fr : Nat × Nat} (h : w.heap[p]? = some (.cells #[.slice A l c] t fr)) : OneAt w 25 ⟨p, 0, none⟩ (.slice A l c) := one_of u25 rfl (by rw [cell_of_row _ _ _ _ _ _ h]; rfl)
/-- A guarded operation left out, whose slot is empty. -/
theorem put_undef (l : List Value) (df : List Deferred) (d : Nat) (h : l[d]? = some undef) : (Act.mk l.toArray df).put (some d) undef = Act.mk l.toArray df := by
  rw [put_lit]
  congr 2
  apply List.ext_getElem?
  intro i
  rw [List.getElem?_set]
  split
  · rename_i e; subst e
    split
    · exact h.symm
    · rename_i hn; rw [List.getElem?_eq_none (by omega)]
  · rfl
theorem wl_skipU {P : Program} {ops : Array Oper} {rest : List Oper} {op : Op} {d : Nat} {ty : TypeId} {pos : String} {after : Array Edge} {g : Option (Nat × Bool)} {l : List Value} {df : List Deferred} {w : World} {Q : Exit → Act → World → Prop} (hg : Region.wanted ⟨some d, op, ty, pos, after, g⟩ (yielded ops (Act.mk l.toArray df).tmps) = false) (hu : l[d]? = some undef)
    (h : wpList P ops Q rest (Act.mk l.toArray df) w) : wpList P ops Q (⟨some d, op, ty, pos, after, g⟩ :: rest) (Act.mk l.toArray df) w :=
  wl_skip hg (by rw [put_undef l df d hu]; exact h)
open Go.ChangeShapes Go.WideShapes Go.ChangeAt Go.RowKit
theorem own0 : ownKnob Tryd.prog.godebug = none := by kernel_rfl
theorem row_u4 : Tryd.prog.underlying 4 = some .bool := by kernel_rfl
theorem laidOut0 : laidOutB Tryd.prog = true := by kernel_rfl
def lay3 : List (String × DataW Unit) := [("math/bits.deBruijn32tab", Rows.laid_math_bits_deBruijn32tab), ("math/bits.deBruijn64tab", Rows.laid_math_bits_deBruijn64tab), ("internal/strconv.uint64pow10", Rows.laid_internal_strconv_uint64pow10)]
theorem lay3_met (os : Os) (args : Array Value) : laidMetH Tryd.prog lay3 ((World.doorLaid Tryd.prog 62 os).forCall (fun _ _ => 0) ⟨#[], args, []⟩).memory :=
  laidMetH_of_parts3 (fuel := 8) (laidMet_of_run' 8 (by kernel_rfl) (by kernel_rfl)) (by kernel_rfl) (by kernel_rfl)
section
variable {H : Type} {enc : TypeId × Value → H} {w : World} {sp : Nat → Bool} {held : Bool} {r : Reach} {b0 base : Nat} {v : Value} {d : DataW H} {p : List MemPlace}
end
open Go.RowKit Go.Proofs.YtokmaehefenpmaaDoor.Nm
set_option linter.unusedSimpArgs false
theorem ret_int {k : IntKind} {a b : Int} (h : a = b) : Ending.returned (.int k a) = .returned (.int k b) := by rw [h]
set_option maxHeartbeats 2000000 in
set_option maxRecDepth 100000 in
theorem TypeNodes_any (most : Nat) (hm : most ≤ 1000) : ∀ (t : Ty) (w : World) (D : Nat → Prop) (row : Array Value), TyAt w D t row →
    Calls Tryd.prog 43 #[.agg row, .int .i64 (most : Int)] w fun e w' => e = .returned (.int .i64 ((min t.nodes (most + 1) : Nat) : Int)) ∧ Below w.heap.size w w' := Ty.ind fun k s n ts ih w D row h => by
  obtain ⟨k', s', n', A, l, c, ts', e, rfl, hk, hn, hs, hT⟩ := h.parts
  cases e
  have HT := Lib.hid hT
  have HL := Lib.hid hT.len
  have hcm := hT.cap
  have hmx := hT.max
  unfold maxLen at hmx
  have HS := Lib.hid (typeNodes most k s n ts)
  have HI := Lib.hid ih
  clear h hk hn hs hT ih
  go_enter Tryd.func43, Tryd.ntmps43
  go_upto_region 0 with (fail)
  apply wp_region_lit
  (with_reducible refine wl_box rfl ?_); intro W p hbn hlp hp; simp only [Zq]
  have hb := hbn
  clear hbn
  (with_reducible refine wl_k ?_ ?_); exact rfl; intro K hK; go_simp; refine hK _ ?_; clear hK K
  go_wp2_with fail
  go_loopw [5, 6] (fun v i wr => ∃ j m : Nat, j ≤ l ∧ m ≤ 2 * (most + 1) ∧ i = .int .i64 (j : Int) ∧ v = .int .i64 (m : Int) ∧ Hid (tnLoop most 1 ts = tnLoop most m (ts.drop j)) ∧ Below w.heap.size w wr ∧ wr.heap[p]? = some (.cells (cell4 k s n A l c) 24 (0, 0))) (fun _ i _ => l - (intOf i).toNat)
  case atStart => exact ⟨0, 1, by omega, by omega, rfl, rfl, Lib.hid rfl, hb, hp⟩
  case round =>
    clear hb hp
    obtain ⟨j, m, hj, hm2, rfl, rfl, HR, hb, hp⟩ := hrel
    by_cases hlt : j < l
    · have hltI : (j : Int) < (l : Int) := by omega
      obtain ⟨b, off, t, row, rfl, -, ht, -⟩ := HT.out.get hlt
      obtain ⟨row, hrow, hta⟩ := (HT.out.old (hb.mono (Nat.le_refl _))).row ht
      have hdr : ts.drop j = t :: ts.drop (j + 1) := by rw [List.drop_eq_getElem_cons (by rw [HL.out]; exact hlt)]; rw [List.getElem?_eq_getElem (by rw [HL.out]; exact hlt)] at ht; cases ht; rfl
      have HD := Lib.hid hdr
      have hmem : t ∈ ts := List.mem_of_getElem? ht
      clear hdr
      by_cases hmm : m ≤ most
      · have hmI : (m : Int) ≤ (most : Int) := by omega
        have HR2 : Hid (tnLoop most 1 ts = tnLoop most (m + min t.nodes (most + 1)) (ts.drop (j + 1))) := Lib.hid (by rw [HR.out, HD.out, tnLoop, if_pos hmm])
        have HTA := Lib.hid hta
        have HME := Lib.hid hmem
        clear hta hmem ht HD HR
        go_upto_region 3 with (fail)
        apply wp_region_lit
        (with_reducible refine wl_k ?_ ?_); exact rfl; intro K hK; go_simp; refine hK _ ?_; clear hK K
        (with_reducible refine wl_k ?_ ?_); exact rfl; intro K hK; go_simp; refine hK _ ?_; clear hK K
        (first | ((with_reducible apply wl_oneG); exact rfl; exact rfl; first | exact f0 (by with_reducible assumption) | exact f1 (by with_reducible assumption) | exact f2 (by with_reducible assumption) | exact f3 (by with_reducible assumption) | with_reducible assumption | exact g22 (by with_reducible assumption) | exact g25 (by with_reducible assumption)) | ((with_reducible apply wl_rowG); exact rfl; exact rfl; first | with_reducible assumption | exact RowK.now (by with_reducible assumption) | exact f4 (by with_reducible assumption)))
        (with_reducible refine wl_k ?_ ?_); exact rfl; intro K hK; go_simp; refine hK _ ?_; clear hK K
        (with_reducible refine wl_k ?_ ?_); exact rfl; intro K hK; go_simp; refine hK _ ?_; clear hK K
        (with_reducible refine wl_k ?_ ?_); exact rfl; intro K hK; go_simp; refine hK _ ?_; clear hK K
        (with_reducible refine wl_k ?_ ?_); exact rfl; intro K hK; go_simp; refine hK _ ?_; clear hK K
        (with_reducible refine wl_k ?_ ?_); exact rfl; intro K hK; go_simp; refine hK _ ?_; clear hK K
        (with_reducible refine wl_k ?_ ?_); exact rfl; intro K hK; go_simp; refine hK _ ?_; clear hK K
        (with_reducible refine wl_k ?_ ?_); exact rfl; intro K hK; go_simp; refine hK _ ?_; clear hK K
        go_upto_region 5 with (fail)
        have hC := HI.out t HME.out wr D row HTA.out
        obtain ⟨q, hq⟩ : ∃ q, q = min t.nodes (most + 1) := ⟨_, rfl⟩
        have hq1 : q ≤ most + 1 := by omega
        rw [← hq] at hC HR2
        have HC := Lib.hid hC
        have hwr : IntKind.i64.wrap ((m : Int) + (q : Int)) = (m : Int) + (q : Int) := IntWalk.i64_in _ (by omega)
        clear hC hq HTA HME
        apply wp_region_lit
        (with_reducible refine wl_k ?_ ?_); exact rfl; intro K hK; go_simp; refine hK _ ?_; clear hK K
        (with_reducible refine wl_k ?_ ?_); exact rfl; intro K hK; go_simp; refine hK _ ?_; clear hK K
        (first | ((with_reducible apply wl_oneG); exact rfl; exact rfl; first | exact f0 (by with_reducible assumption) | exact f1 (by with_reducible assumption) | exact f2 (by with_reducible assumption) | exact f3 (by with_reducible assumption) | with_reducible assumption | exact g22 (by with_reducible assumption) | exact g25 (by with_reducible assumption)) | ((with_reducible apply wl_rowG); exact rfl; exact rfl; first | with_reducible assumption | exact RowK.now (by with_reducible assumption) | exact f4 (by with_reducible assumption)))
        (with_reducible refine wl_k ?_ ?_); exact rfl; intro K hK; go_simp; refine hK _ ?_; clear hK K
        (with_reducible refine wl_k ?_ ?_); exact rfl; intro K hK; go_simp; refine hK _ ?_; clear hK K
        (first | ((with_reducible apply wl_oneG); exact rfl; exact rfl; first | exact f0 (by with_reducible assumption) | exact f1 (by with_reducible assumption) | exact f2 (by with_reducible assumption) | exact f3 (by with_reducible assumption) | with_reducible assumption | exact g22 (by with_reducible assumption) | exact g25 (by with_reducible assumption)) | ((with_reducible apply wl_rowG); exact rfl; exact rfl; first | with_reducible assumption | exact RowK.now (by with_reducible assumption) | exact f4 (by with_reducible assumption)))
        (with_reducible refine wl_k ?_ ?_); exact rfl; intro K hK; go_simp; refine hK _ ?_; clear hK K
        (with_reducible refine wl_ck ?_ ?_); exact rfl; intro K hK; go_simp; refine ⟨_, _, ⟨rfl, rfl⟩, hK _ _ ⟨_, HC.out, ?_⟩⟩; clear hK K; rintro e w7 ⟨rfl, hb7⟩; refine ⟨_, rfl, ?_⟩; simp only [Zq]
        (with_reducible refine wl_k ?_ ?_); exact rfl; intro K hK; go_simp; refine hK _ ?_; clear hK K
        (with_reducible refine wl_k ?_ ?_); exact rfl; intro K hK; go_simp; refine hK _ ?_; clear hK K
        replace hp := below_look hb7 hp
        replace hb := hb.trans (hb7.mono hb.size)
        clear hb7 HC hrow hwr
        go_wp2_with fail
        go_roundw
        case rel => exact ⟨j + 1, m + q, by omega, by omega, by go_num, by go_num, HR2, hb, hp⟩
        case measure => simp [intOf]; omega
      · have hmI : ¬ (m : Int) ≤ (most : Int) := by omega
        have HF : Hid (min m (most + 1) = min (Ty.node k s n ts).nodes (most + 1)) := Lib.hid (by rw [← HS.out, HR.out, HD.out, tnLoop, if_neg hmm])
        clear ht hta hmem HD HR hrow
        go_upto_region 3 with (fail)
        apply wp_region_lit
        (with_reducible refine wl_k ?_ ?_); exact rfl; intro K hK; go_simp; refine hK _ ?_; clear hK K
        (with_reducible refine wl_k ?_ ?_); exact rfl; intro K hK; go_simp; refine hK _ ?_; clear hK K
        (first | ((with_reducible apply wl_oneG); exact rfl; exact rfl; first | exact f0 (by with_reducible assumption) | exact f1 (by with_reducible assumption) | exact f2 (by with_reducible assumption) | exact f3 (by with_reducible assumption) | with_reducible assumption | exact g22 (by with_reducible assumption) | exact g25 (by with_reducible assumption)) | ((with_reducible apply wl_rowG); exact rfl; exact rfl; first | with_reducible assumption | exact RowK.now (by with_reducible assumption) | exact f4 (by with_reducible assumption)))
        (with_reducible refine wl_k ?_ ?_); exact rfl; intro K hK; go_simp; refine hK _ ?_; clear hK K
        (with_reducible refine wl_k ?_ ?_); exact rfl; intro K hK; go_simp; refine hK _ ?_; clear hK K
        (with_reducible refine wl_k ?_ ?_); exact rfl; intro K hK; go_simp; refine hK _ ?_; clear hK K
        (with_reducible refine wl_k ?_ ?_); exact rfl; intro K hK; go_simp; refine hK _ ?_; clear hK K
        (with_reducible refine wl_k ?_ ?_); exact rfl; intro K hK; go_simp; refine hK _ ?_; clear hK K
        (with_reducible refine wl_k ?_ ?_); exact rfl; intro K hK; go_simp; refine hK _ ?_; clear hK K
        (with_reducible refine wl_k ?_ ?_); exact rfl; intro K hK; go_simp; refine hK _ ?_; clear hK K
        go_wp2_with fail
        all_goals (go_ret; exact ⟨ret_int (by rw [← HF.out]; omega), hb⟩)
    · have hltI : ¬ (j : Int) < (l : Int) := by omega
      have HF : Hid (min m (most + 1) = min (Ty.node k s n ts).nodes (most + 1)) := Lib.hid (by rw [← HS.out, HR.out, List.drop_of_length_le (by rw [HL.out]; omega), tnLoop])
      clear HR
      go_upto_region 3 with (fail)
      apply wp_region_lit
      (with_reducible refine wl_k ?_ ?_); exact rfl; intro K hK; go_simp; refine hK _ ?_; clear hK K
      (with_reducible refine wl_k ?_ ?_); exact rfl; intro K hK; go_simp; refine hK _ ?_; clear hK K
      (first | ((with_reducible apply wl_oneG); exact rfl; exact rfl; first | exact f0 (by with_reducible assumption) | exact f1 (by with_reducible assumption) | exact f2 (by with_reducible assumption) | exact f3 (by with_reducible assumption) | with_reducible assumption | exact g22 (by with_reducible assumption) | exact g25 (by with_reducible assumption)) | ((with_reducible apply wl_rowG); exact rfl; exact rfl; first | with_reducible assumption | exact RowK.now (by with_reducible assumption) | exact f4 (by with_reducible assumption)))
      (with_reducible refine wl_k ?_ ?_); exact rfl; intro K hK; go_simp; refine hK _ ?_; clear hK K
      (with_reducible refine wl_k ?_ ?_); exact rfl; intro K hK; go_simp; refine hK _ ?_; clear hK K
      (with_reducible refine wl_k ?_ ?_); exact rfl; intro K hK; go_simp; refine hK _ ?_; clear hK K
      (first | ((with_reducible refine wl_skipU ?_ ?_ ?_); exact rfl; exact rfl) | ((with_reducible refine wl_skip ?_ ?_); exact rfl; simp only [Zq]))
      (first | ((with_reducible refine wl_skipU ?_ ?_ ?_); exact rfl; exact rfl) | ((with_reducible refine wl_skip ?_ ?_); exact rfl; simp only [Zq]))
      (first | ((with_reducible refine wl_skipU ?_ ?_ ?_); exact rfl; exact rfl) | ((with_reducible refine wl_skip ?_ ?_); exact rfl; simp only [Zq]))
      (with_reducible refine wl_k ?_ ?_); exact rfl; intro K hK; go_simp; refine hK _ ?_; clear hK K
      go_wp2_with fail
      all_goals (go_ret; exact ⟨ret_int (by rw [← HF.out]; omega), hb⟩)
theorem smallB_step {ts : List Ty} {j : Nat} (hj : ∀ i t, i < j → ts[i]? = some t → t.nodes ≤ 150) {t : Ty} (ht : ts[j]? = some t) (hn : t.nodes ≤ 150) : ∀ i t, i < j + 1 → ts[i]? = some t → t.nodes ≤ 150 := fun i u hi hu => by
  rcases Nat.lt_or_ge i j with h | h
  · exact hj i u h hu
  · obtain rfl : i = j := by omega
    rw [ht] at hu; cases hu; exact hn
/-- Small: what the law's premise says. -/
def Small (ts : List Ty) : Prop := ts.length ≤ 60 ∧ ∀ t, t ∈ ts → t.nodes ≤ 150
/-- A bool that is true only where something holds; nothing old turned. -/
def Yes (w : World) (p : Prop) (e : Ending) (w' : World) : Prop := (∃ b : Bool, e = .returned (.bool b) ∧ (b = true → p)) ∧ Below w.heap.size w w'
set_option maxHeartbeats 2000000 in
set_option maxRecDepth 100000 in
theorem small_any (ts : List Ty) (A : Option Addr) (l c : Nat) (w : World) (D : Nat → Prop) (h : TysAt w D ts A l c) :
    Calls Tryd.prog 15 #[.slice A l c] w (Yes w (Small ts)) := by
  have HT := Lib.hid h
  have HL := Lib.hid h.len
  have hcm := h.cap
  have hmx := h.max
  unfold maxLen at hmx
  clear h
  have hb := Below.refl w.heap.size w
  go_enter Tryd.func15, Tryd.ntmps15
  go_wp2_with fail
  go_loopw [3] (fun i wr => ∃ j : Nat, j ≤ l ∧ j ≤ 60 ∧ i = .int .i64 (j : Int) ∧ Hid (∀ (i : Nat) (t : Ty), i < j → ts[i]? = some t → t.nodes ≤ 150) ∧ Below w.heap.size w wr) (fun i _ => l - (intOf i).toNat)
  case atStart => exact ⟨0, by omega, by omega, rfl, Lib.hid (fun i t hi => by omega), hb⟩
  case round =>
    clear hb
    obtain ⟨j, hj, hj6, rfl, HR, hb⟩ := hrel
    by_cases hlt : j < l
    · have hltI : (j : Int) < (l : Int) := by omega
      by_cases h60 : j = 60
      · have hj2 : ((j : Int) == 60) = true := beq_iff_eq.2 (by omega)
        go_upto_region 4 with (fail)
        apply wp_region_lit
        (with_reducible refine wl_k ?_ ?_); exact rfl; intro K hK; go_simp; refine hK _ ?_; clear hK K
        (with_reducible refine wl_k ?_ ?_); exact rfl; intro K hK; go_simp; refine hK _ ?_; clear hK K
        (with_reducible refine wl_k ?_ ?_); exact rfl; intro K hK; go_simp; refine hK _ ?_; clear hK K
        (first | ((with_reducible refine wl_skipU ?_ ?_ ?_); exact rfl; exact rfl) | ((with_reducible refine wl_skip ?_ ?_); exact rfl; simp only [Zq]))
        (first | ((with_reducible refine wl_skipU ?_ ?_ ?_); exact rfl; exact rfl) | ((with_reducible refine wl_skip ?_ ?_); exact rfl; simp only [Zq]))
        (first | ((with_reducible refine wl_skipU ?_ ?_ ?_); exact rfl; exact rfl) | ((with_reducible refine wl_skip ?_ ?_); exact rfl; simp only [Zq]))
        (first | ((with_reducible refine wl_skipU ?_ ?_ ?_); exact rfl; exact rfl) | ((with_reducible refine wl_skip ?_ ?_); exact rfl; simp only [Zq]))
        (first | ((with_reducible refine wl_skipU ?_ ?_ ?_); exact rfl; exact rfl) | ((with_reducible refine wl_skip ?_ ?_); exact rfl; simp only [Zq]))
        (first | ((with_reducible refine wl_skipU ?_ ?_ ?_); exact rfl; exact rfl) | ((with_reducible refine wl_skip ?_ ?_); exact rfl; simp only [Zq]))
        (with_reducible refine wl_k ?_ ?_); exact rfl; intro K hK; go_simp; refine hK _ ?_; clear hK K
        go_wp2_with fail
        go_ret
        exact ⟨⟨false, rfl, fun h => by cases h⟩, hb⟩
      · have hj2 : ((j : Int) == 60) = false := beq_eq_false_iff_ne.2 (by omega)
        obtain ⟨b, off, t, row, rfl, -, ht, -⟩ := HT.out.get hlt
        obtain ⟨row, hrow, hta⟩ := (HT.out.old hb).row ht
        have HC := Lib.hid (TypeNodes_any 150 (by omega) t wr D row hta)
        by_cases hn : t.nodes ≤ 150
        · have hq : ¬ (((min t.nodes (150 + 1) : Nat) : Int) > 150) := by omega
          have HR2 := Lib.hid (smallB_step HR.out ht hn)
          obtain ⟨q, hqe⟩ : ∃ q : Nat, q = min t.nodes (150 + 1) := ⟨_, rfl⟩
          have HC2 : Hid (Calls Tryd.prog 43 #[.agg row, .int .i64 150] wr fun e w' => e = .returned (.int .i64 (q : Int)) ∧ Below wr.heap.size wr w') := Lib.hid (by rw [hqe]; exact HC.out)
          rw [← hqe] at hq
          clear HC hqe hta HR ht hn
          go_upto_region 4 with (fail)
          apply wp_region_lit
          (with_reducible refine wl_k ?_ ?_); exact rfl; intro K hK; go_simp; refine hK _ ?_; clear hK K
          (with_reducible refine wl_k ?_ ?_); exact rfl; intro K hK; go_simp; refine hK _ ?_; clear hK K
          (with_reducible refine wl_k ?_ ?_); exact rfl; intro K hK; go_simp; refine hK _ ?_; clear hK K
          (with_reducible refine wl_k ?_ ?_); exact rfl; intro K hK; go_simp; refine hK _ ?_; clear hK K
          (with_reducible refine wl_k ?_ ?_); exact rfl; intro K hK; go_simp; refine hK _ ?_; clear hK K
          (with_reducible refine wl_k ?_ ?_); exact rfl; intro K hK; go_simp; refine hK _ ?_; clear hK K
          (first | ((with_reducible apply wl_oneG); exact rfl; exact rfl; first | exact f0 (by with_reducible assumption) | exact f1 (by with_reducible assumption) | exact f2 (by with_reducible assumption) | exact f3 (by with_reducible assumption) | with_reducible assumption | exact g22 (by with_reducible assumption) | exact g25 (by with_reducible assumption)) | ((with_reducible apply wl_rowG); exact rfl; exact rfl; first | with_reducible assumption | exact RowK.now (by with_reducible assumption) | exact f4 (by with_reducible assumption)))
          (with_reducible refine wl_ck ?_ ?_); exact rfl; intro K hK; go_simp; refine ⟨_, _, ⟨rfl, rfl⟩, hK _ _ ⟨_, HC2.out, ?_⟩⟩; clear hK K; rintro e w7 ⟨rfl, hb7⟩; refine ⟨_, rfl, ?_⟩; simp only [Zq]
          (with_reducible refine wl_k ?_ ?_); exact rfl; intro K hK; go_simp; refine hK _ ?_; clear hK K
          (with_reducible refine wl_k ?_ ?_); exact rfl; intro K hK; go_simp; refine hK _ ?_; clear hK K
          replace hb := hb.trans (hb7.mono hb.size)
          clear hb7 HC2 hrow
          go_wp2_with fail
          go_roundw
          case rel => exact ⟨j + 1, by omega, by omega, by go_num, HR2, hb⟩
          case measure => simp [intOf]; omega
        · have hq : ((min t.nodes (150 + 1) : Nat) : Int) > 150 := by omega
          obtain ⟨q, hqe⟩ : ∃ q : Nat, q = min t.nodes (150 + 1) := ⟨_, rfl⟩
          have HC2 : Hid (Calls Tryd.prog 43 #[.agg row, .int .i64 150] wr fun e w' => e = .returned (.int .i64 (q : Int)) ∧ Below wr.heap.size wr w') := Lib.hid (by rw [hqe]; exact HC.out)
          rw [← hqe] at hq
          clear HC hqe hta HR ht hn
          go_upto_region 4 with (fail)
          apply wp_region_lit
          (with_reducible refine wl_k ?_ ?_); exact rfl; intro K hK; go_simp; refine hK _ ?_; clear hK K
          (with_reducible refine wl_k ?_ ?_); exact rfl; intro K hK; go_simp; refine hK _ ?_; clear hK K
          (with_reducible refine wl_k ?_ ?_); exact rfl; intro K hK; go_simp; refine hK _ ?_; clear hK K
          (with_reducible refine wl_k ?_ ?_); exact rfl; intro K hK; go_simp; refine hK _ ?_; clear hK K
          (with_reducible refine wl_k ?_ ?_); exact rfl; intro K hK; go_simp; refine hK _ ?_; clear hK K
          (with_reducible refine wl_k ?_ ?_); exact rfl; intro K hK; go_simp; refine hK _ ?_; clear hK K
          (first | ((with_reducible apply wl_oneG); exact rfl; exact rfl; first | exact f0 (by with_reducible assumption) | exact f1 (by with_reducible assumption) | exact f2 (by with_reducible assumption) | exact f3 (by with_reducible assumption) | with_reducible assumption | exact g22 (by with_reducible assumption) | exact g25 (by with_reducible assumption)) | ((with_reducible apply wl_rowG); exact rfl; exact rfl; first | with_reducible assumption | exact RowK.now (by with_reducible assumption) | exact f4 (by with_reducible assumption)))
          (with_reducible refine wl_ck ?_ ?_); exact rfl; intro K hK; go_simp; refine ⟨_, _, ⟨rfl, rfl⟩, hK _ _ ⟨_, HC2.out, ?_⟩⟩; clear hK K; rintro e w7 ⟨rfl, hb7⟩; refine ⟨_, rfl, ?_⟩; simp only [Zq]
          (with_reducible refine wl_k ?_ ?_); exact rfl; intro K hK; go_simp; refine hK _ ?_; clear hK K
          (with_reducible refine wl_k ?_ ?_); exact rfl; intro K hK; go_simp; refine hK _ ?_; clear hK K
          replace hb := hb.trans (hb7.mono hb.size)
          clear hb7 HC2 hrow
          go_wp2_with fail
          go_ret
          exact ⟨⟨false, rfl, fun h => by cases h⟩, hb⟩
    · have hltI : ¬ (j : Int) < (l : Int) := by omega
      have HF : Hid (Small ts) := Lib.hid ⟨by rw [HL.out]; omega, fun t ht => by
        obtain ⟨i, hi⟩ := List.mem_iff_getElem?.1 ht
        exact HR.out i t (by have := (List.getElem?_eq_some_iff.1 hi).1; rw [HL.out] at this; omega) hi⟩
      clear HR
      go_wp2_with fail
      go_ret
      exact ⟨⟨true, rfl, fun _ => HF.out⟩, hb⟩
theorem bytes_inj {s t : ByteArray} (h : s.toList = t.toList) : s = t := by
  rw [ByteArray.toList_eq, ByteArray.toList_eq] at h
  cases s; cases t
  exact congrArg _ (Array.toList_inj.1 h)
def eqTy (t u : Ty) : Bool := decide (t = u)
def eqTys (t u : List Ty) : Bool := decide (t = u)
def EqC (t : Ty) : Prop := ∀ (u : Ty) (w : World) (D D' : Nat → Prop) (row row' : Array Value), TyAt w D t row → TyAt w D' u row' →
  Calls Tryd.prog 21 #[.agg row, .agg row'] w fun e w' => e = .returned (.bool (eqTy t u)) ∧ Below w.heap.size w w'
set_option maxHeartbeats 2000000 in
set_option maxRecDepth 100000 in
theorem EqTypes_of (ts us : List Ty) (ih : ∀ t, t ∈ ts → EqC t) (A A' : Option Addr) (l c l' c' : Nat) (w : World) (D D' : Nat → Prop) (h : TysAt w D ts A l c) (h' : TysAt w D' us A' l' c') :
    Calls Tryd.prog 31 #[.slice A l c, .slice A' l' c'] w fun e w' => e = .returned (.bool (eqTys ts us)) ∧ Below w.heap.size w w' := by
  have HT := Lib.hid h
  have HU := Lib.hid h'
  have HL := Lib.hid h.len
  have HL' := Lib.hid h'.len
  have HI := Lib.hid ih
  have hcm := h.cap
  have hmx := h.max
  have hcm' := h'.cap
  have hmx' := h'.max
  unfold maxLen at hmx hmx'
  clear h h' ih
  have hb := Below.refl w.heap.size w
  by_cases hne : l = l'
  · subst hne
    have hz : ((l : Int) != (l : Int)) = false := by simp
    go_enter Tryd.func31, Tryd.ntmps31
    go_wp2_with fail
    go_loopw [5] (fun i wr => ∃ j : Nat, j ≤ l ∧ i = .int .i64 (j : Int) ∧ Hid (ts.take j = us.take j) ∧ Below w.heap.size w wr) (fun i _ => l - (intOf i).toNat)
    case atStart => exact ⟨0, by omega, rfl, Lib.hid rfl, hb⟩
    case round =>
      clear hb
      obtain ⟨j, hj, rfl, HR, hb⟩ := hrel
      by_cases hlt : j < l
      · have hltI : (j : Int) < (l : Int) := by omega
        obtain ⟨b, off, t, row, rfl, -, ht, -⟩ := HT.out.get hlt
        obtain ⟨b', off', u, row', rfl, -, hu, -⟩ := HU.out.get hlt
        obtain ⟨row, hrow, hta⟩ := (HT.out.old hb).rowK ht
        obtain ⟨row', hrow', hua⟩ := (HU.out.old hb).rowK hu
        have HTA := Lib.hid hta
        have HUA := Lib.hid hua
        have HE := Lib.hid (HI.out t (List.mem_of_getElem? ht) u)
        have hstep : ts.take (j + 1) = us.take (j + 1) ↔ t = u := by
          rw [List.take_add_one, List.take_add_one, HR.out, ht, hu]
          simp
        by_cases hq : t = u
        · have HR2 := Lib.hid (hstep.2 hq)
          have HC : Hid (∀ w', Below wr.heap.size wr w' → Calls Tryd.prog 21 #[.agg row, .agg row'] w' fun e w2 => e = .returned (.bool true) ∧ Below w'.heap.size w' w2) := Lib.hid fun w' hw' => by
            have := HE.out w' D D' row row' (HTA.out.old hw') (HUA.out.old hw')
            rwa [show eqTy t u = true by simp [eqTy, hq]] at this
          clear hta hua hstep hq ht hu HE HTA HUA HR
          go_upto_region 6 with (fail)
          refine wp_region_belowAll mixed (by kernel_rfl) ?_
          (with_reducible refine wq_k ?_ ?_); exact rfl; intro K hK; go_simp; (with_reducible refine hK _ ?_); clear hK K
          (with_reducible refine wq_k ?_ ?_); exact rfl; intro K hK; go_simp; (with_reducible refine hK _ ?_); clear hK K
          (with_reducible refine wq_k ?_ ?_); exact rfl; intro K hK; go_simp; (with_reducible refine hK _ ?_); clear hK K
          (first | ((with_reducible apply wq_one); exact rfl; exact rfl; intro w' hw'; first | exact f0 (below_look hw' (by with_reducible assumption)) | exact f1 (below_look hw' (by with_reducible assumption)) | exact f2 (below_look hw' (by with_reducible assumption)) | exact f3 (below_look hw' (by with_reducible assumption)) ) | ((with_reducible apply wq_row); exact rfl; exact rfl; intro w' hw'; first | exact RowK.at (by with_reducible assumption) hw' | exact f4 (below_look hw' (by with_reducible assumption))))
          (with_reducible refine wq_k ?_ ?_); exact rfl; intro K hK; go_simp; (with_reducible refine hK _ ?_); clear hK K
          (with_reducible refine wq_k ?_ ?_); exact rfl; intro K hK; go_simp; (with_reducible refine hK _ ?_); clear hK K
          (with_reducible refine wq_k ?_ ?_); exact rfl; intro K hK; go_simp; (with_reducible refine hK _ ?_); clear hK K
          (first | ((with_reducible apply wq_one); exact rfl; exact rfl; intro w' hw'; first | exact f0 (below_look hw' (by with_reducible assumption)) | exact f1 (below_look hw' (by with_reducible assumption)) | exact f2 (below_look hw' (by with_reducible assumption)) | exact f3 (below_look hw' (by with_reducible assumption)) ) | ((with_reducible apply wq_row); exact rfl; exact rfl; intro w' hw'; first | exact RowK.at (by with_reducible assumption) hw' | exact f4 (below_look hw' (by with_reducible assumption))))
          refine wq_ck rfl (fun K hK => ?_); go_simp; refine ⟨_, _, ⟨rfl, rfl⟩, hK _ _ ⟨_, fun w' hw' => calls_class hw' (HC.out w' hw'), ?_⟩⟩; clear hK K; simp only [Zq]
          (with_reducible refine wq_k ?_ ?_); exact rfl; intro K hK; go_simp; (with_reducible refine hK _ ?_); clear hK K
          intro w7 hb7
          replace hb := hb.trans (hb7.mono hb.size)
          clear hb7 HC hrow hrow'
          go_wp2_with fail
          go_roundw
          case rel => exact ⟨j + 1, by omega, by go_num, HR2, hb⟩
          case measure => simp [intOf]; omega
        · have HF : Hid (eqTys ts us = false) := Lib.hid (by
            simp only [eqTys, decide_eq_false_iff_not]; intro e; exact hq (hstep.1 (by rw [e])))
          have HC : Hid (∀ w', Below wr.heap.size wr w' → Calls Tryd.prog 21 #[.agg row, .agg row'] w' fun e w2 => e = .returned (.bool false) ∧ Below w'.heap.size w' w2) := Lib.hid fun w' hw' => by
            have := HE.out w' D D' row row' (HTA.out.old hw') (HUA.out.old hw')
            rwa [show eqTy t u = false by simp [eqTy, hq]] at this
          clear hta hua hstep hq ht hu HE HTA HUA HR
          go_upto_region 6 with (fail)
          refine wp_region_belowAll mixed (by kernel_rfl) ?_
          (with_reducible refine wq_k ?_ ?_); exact rfl; intro K hK; go_simp; (with_reducible refine hK _ ?_); clear hK K
          (with_reducible refine wq_k ?_ ?_); exact rfl; intro K hK; go_simp; (with_reducible refine hK _ ?_); clear hK K
          (with_reducible refine wq_k ?_ ?_); exact rfl; intro K hK; go_simp; (with_reducible refine hK _ ?_); clear hK K
          (first | ((with_reducible apply wq_one); exact rfl; exact rfl; intro w' hw'; first | exact f0 (below_look hw' (by with_reducible assumption)) | exact f1 (below_look hw' (by with_reducible assumption)) | exact f2 (below_look hw' (by with_reducible assumption)) | exact f3 (below_look hw' (by with_reducible assumption)) ) | ((with_reducible apply wq_row); exact rfl; exact rfl; intro w' hw'; first | exact RowK.at (by with_reducible assumption) hw' | exact f4 (below_look hw' (by with_reducible assumption))))
          (with_reducible refine wq_k ?_ ?_); exact rfl; intro K hK; go_simp; (with_reducible refine hK _ ?_); clear hK K
          (with_reducible refine wq_k ?_ ?_); exact rfl; intro K hK; go_simp; (with_reducible refine hK _ ?_); clear hK K
          (with_reducible refine wq_k ?_ ?_); exact rfl; intro K hK; go_simp; (with_reducible refine hK _ ?_); clear hK K
          (first | ((with_reducible apply wq_one); exact rfl; exact rfl; intro w' hw'; first | exact f0 (below_look hw' (by with_reducible assumption)) | exact f1 (below_look hw' (by with_reducible assumption)) | exact f2 (below_look hw' (by with_reducible assumption)) | exact f3 (below_look hw' (by with_reducible assumption)) ) | ((with_reducible apply wq_row); exact rfl; exact rfl; intro w' hw'; first | exact RowK.at (by with_reducible assumption) hw' | exact f4 (below_look hw' (by with_reducible assumption))))
          refine wq_ck rfl (fun K hK => ?_); go_simp; refine ⟨_, _, ⟨rfl, rfl⟩, hK _ _ ⟨_, fun w' hw' => calls_class hw' (HC.out w' hw'), ?_⟩⟩; clear hK K; simp only [Zq]
          (with_reducible refine wq_k ?_ ?_); exact rfl; intro K hK; go_simp; (with_reducible refine hK _ ?_); clear hK K
          intro w7 hb7
          replace hb := hb.trans (hb7.mono hb.size)
          clear hb7 HC hrow hrow'
          go_wp2_with fail
          go_ret
          exact ⟨by rw [HF.out]; rfl, hb⟩
      · have hltI : ¬ (j : Int) < (l : Int) := by omega
        have HF : Hid (eqTys ts us = true) := Lib.hid (by
          have := HR.out
          rw [List.take_of_length_le (by rw [HL.out]; omega), List.take_of_length_le (by rw [HL'.out]; omega)] at this
          simp [eqTys, this])
        clear HR
        go_wp2_with fail
        go_ret
        exact ⟨by rw [HF.out]; rfl, hb⟩
  · have hz : ((l : Int) != (l' : Int)) = true := bne_iff_ne.2 (by omega)
    have HF : Hid (eqTys ts us = false) := Lib.hid (by simp only [eqTys, decide_eq_false_iff_not]; intro e; subst e; exact hne (HL.out.symm.trans HL'.out))
    go_enter Tryd.func31, Tryd.ntmps31
    go_wp2_with fail
    go_ret
    exact ⟨by rw [HF.out]; rfl, hb⟩
set_option maxHeartbeats 4000000 in
set_option maxRecDepth 100000 in
theorem EqType_any : ∀ t : Ty, EqC t := Ty.ind fun k s n ts ih u w D D' row row' h h' => by
  obtain ⟨k1, s1, n1, A, l, c, ts1, e, rfl, hk, hn, hs, hT⟩ := h.parts
  cases e
  obtain ⟨k', s', n', A', l', c', us, rfl, rfl, hk', hn', hs', hU⟩ := h'.parts
  have HT := Lib.hid hT
  have HU := Lib.hid hU
  have HI := Lib.hid ih
  clear h h' hk hn hs hT ih hk' hn' hs' hU
  obtain ⟨B, hB⟩ : ∃ B, B = eqTy (.node k s n ts) (.node k' s' n' us) := ⟨_, rfl⟩
  have HB := Lib.hid hB
  rw [← hB]
  clear hB
  go_enter Tryd.func21, Tryd.ntmps21
  go_upto_region 0 with (fail)
  apply wp_region_lit
  (with_reducible refine wl_box rfl ?_); intro W p hbn hlp hp; simp only [Zq]
  have hb := hbn
  clear hbn
  (with_reducible refine wl_box rfl ?_); intro W2 q hbn hlq hq; simp only [Zq]
  replace hp := below_look hbn hp
  replace hb := hb.trans (hbn.mono hb.size); clear hbn
  (with_reducible refine wl_k ?_ ?_); exact rfl; intro K hK; go_simp; refine hK _ ?_; clear hK K
  by_cases h1 : k = k'
  · have e1 : (k == k') = true := beq_iff_eq.2 h1
    by_cases h2 : s = s'
    · have e2 : (s.toList == s'.toList) = true := beq_iff_eq.2 (by rw [h2])
      by_cases h3 : n = n'
      · have e3 : (n == n') = true := beq_iff_eq.2 h3
        have HC := Lib.hid (EqTypes_of ts us HI.out A A' l c l' c' W2 D D' (HT.out.old hb) (HU.out.old hb))
        have hBe : B = eqTys ts us := by rw [HB.out]; simp [eqTy, eqTys, h1, h2, h3]
        rw [← hBe] at HC
        clear h1 h2 h3 HB hBe
        go_upto_region 1 with (fail)
        apply wp_region_lit
        (with_reducible refine wl_k ?_ ?_); exact rfl; intro K hK; go_simp; refine hK _ ?_; clear hK K
        (first | ((with_reducible apply wl_oneG); exact rfl; exact rfl; first | exact f0 (by with_reducible assumption) | exact f1 (by with_reducible assumption) | exact f2 (by with_reducible assumption) | exact f3 (by with_reducible assumption) | with_reducible assumption | exact g22 (by with_reducible assumption) | exact g25 (by with_reducible assumption)) | ((with_reducible apply wl_rowG); exact rfl; exact rfl; first | with_reducible assumption | exact RowK.now (by with_reducible assumption) | exact f4 (by with_reducible assumption)))
        (with_reducible refine wl_k ?_ ?_); exact rfl; intro K hK; go_simp; refine hK _ ?_; clear hK K
        (first | ((with_reducible apply wl_oneG); exact rfl; exact rfl; first | exact f0 (by with_reducible assumption) | exact f1 (by with_reducible assumption) | exact f2 (by with_reducible assumption) | exact f3 (by with_reducible assumption) | with_reducible assumption | exact g22 (by with_reducible assumption) | exact g25 (by with_reducible assumption)) | ((with_reducible apply wl_rowG); exact rfl; exact rfl; first | with_reducible assumption | exact RowK.now (by with_reducible assumption) | exact f4 (by with_reducible assumption)))
        (with_reducible refine wl_k ?_ ?_); exact rfl; intro K hK; go_simp; refine hK _ ?_; clear hK K
        (with_reducible refine wl_k ?_ ?_); exact rfl; intro K hK; go_simp; refine hK _ ?_; clear hK K
        (with_reducible refine wl_k ?_ ?_); exact rfl; intro K hK; go_simp; refine hK _ ?_; clear hK K
        (first | ((with_reducible apply wl_oneG); exact rfl; exact rfl; first | exact f0 (by with_reducible assumption) | exact f1 (by with_reducible assumption) | exact f2 (by with_reducible assumption) | exact f3 (by with_reducible assumption) | with_reducible assumption | exact g22 (by with_reducible assumption) | exact g25 (by with_reducible assumption)) | ((with_reducible apply wl_rowG); exact rfl; exact rfl; first | with_reducible assumption | exact RowK.now (by with_reducible assumption) | exact f4 (by with_reducible assumption)))
        (with_reducible refine wl_k ?_ ?_); exact rfl; intro K hK; go_simp; refine hK _ ?_; clear hK K
        (first | ((with_reducible apply wl_oneG); exact rfl; exact rfl; first | exact f0 (by with_reducible assumption) | exact f1 (by with_reducible assumption) | exact f2 (by with_reducible assumption) | exact f3 (by with_reducible assumption) | with_reducible assumption | exact g22 (by with_reducible assumption) | exact g25 (by with_reducible assumption)) | ((with_reducible apply wl_rowG); exact rfl; exact rfl; first | with_reducible assumption | exact RowK.now (by with_reducible assumption) | exact f4 (by with_reducible assumption)))
        (with_reducible refine wl_k ?_ ?_); exact rfl; intro K hK; go_simp; refine hK _ ?_; clear hK K
        (with_reducible refine wl_k ?_ ?_); exact rfl; intro K hK; go_simp; refine hK _ ?_; clear hK K
        (with_reducible refine wl_k ?_ ?_); exact rfl; intro K hK; go_simp; refine hK _ ?_; clear hK K
        (with_reducible refine wl_k ?_ ?_); exact rfl; intro K hK; go_simp; refine hK _ ?_; clear hK K
        (first | ((with_reducible apply wl_oneG); exact rfl; exact rfl; first | exact f0 (by with_reducible assumption) | exact f1 (by with_reducible assumption) | exact f2 (by with_reducible assumption) | exact f3 (by with_reducible assumption) | with_reducible assumption | exact g22 (by with_reducible assumption) | exact g25 (by with_reducible assumption)) | ((with_reducible apply wl_rowG); exact rfl; exact rfl; first | with_reducible assumption | exact RowK.now (by with_reducible assumption) | exact f4 (by with_reducible assumption)))
        (with_reducible refine wl_k ?_ ?_); exact rfl; intro K hK; go_simp; refine hK _ ?_; clear hK K
        (first | ((with_reducible apply wl_oneG); exact rfl; exact rfl; first | exact f0 (by with_reducible assumption) | exact f1 (by with_reducible assumption) | exact f2 (by with_reducible assumption) | exact f3 (by with_reducible assumption) | with_reducible assumption | exact g22 (by with_reducible assumption) | exact g25 (by with_reducible assumption)) | ((with_reducible apply wl_rowG); exact rfl; exact rfl; first | with_reducible assumption | exact RowK.now (by with_reducible assumption) | exact f4 (by with_reducible assumption)))
        (with_reducible refine wl_k ?_ ?_); exact rfl; intro K hK; go_simp; refine hK _ ?_; clear hK K
        (with_reducible refine wl_k ?_ ?_); exact rfl; intro K hK; go_simp; refine hK _ ?_; clear hK K
        (with_reducible refine wl_k ?_ ?_); exact rfl; intro K hK; go_simp; refine hK _ ?_; clear hK K
        (with_reducible refine wl_k ?_ ?_); exact rfl; intro K hK; go_simp; refine hK _ ?_; clear hK K
        (first | ((with_reducible apply wl_oneG); exact rfl; exact rfl; first | exact f0 (by with_reducible assumption) | exact f1 (by with_reducible assumption) | exact f2 (by with_reducible assumption) | exact f3 (by with_reducible assumption) | with_reducible assumption | exact g22 (by with_reducible assumption) | exact g25 (by with_reducible assumption)) | ((with_reducible apply wl_rowG); exact rfl; exact rfl; first | with_reducible assumption | exact RowK.now (by with_reducible assumption) | exact f4 (by with_reducible assumption)))
        (with_reducible refine wl_k ?_ ?_); exact rfl; intro K hK; go_simp; refine hK _ ?_; clear hK K
        (first | ((with_reducible apply wl_oneG); exact rfl; exact rfl; first | exact f0 (by with_reducible assumption) | exact f1 (by with_reducible assumption) | exact f2 (by with_reducible assumption) | exact f3 (by with_reducible assumption) | with_reducible assumption | exact g22 (by with_reducible assumption) | exact g25 (by with_reducible assumption)) | ((with_reducible apply wl_rowG); exact rfl; exact rfl; first | with_reducible assumption | exact RowK.now (by with_reducible assumption) | exact f4 (by with_reducible assumption)))
        (with_reducible refine wl_ck ?_ ?_); exact rfl; intro K hK; go_simp; refine ⟨_, _, ⟨rfl, rfl⟩, hK _ _ ⟨_, HC.out, ?_⟩⟩; clear hK K; rintro e w7 ⟨rfl, hb7⟩; refine ⟨_, rfl, ?_⟩; simp only [Zq]
        (with_reducible refine wl_k ?_ ?_); exact rfl; intro K hK; go_simp; refine hK _ ?_; clear hK K
        (with_reducible refine wl_k ?_ ?_); exact rfl; intro K hK; go_simp; refine hK _ ?_; clear hK K
        replace hb := hb.trans (hb7.mono hb.size)
        clear hb7 HC
        go_wp2_with fail
        go_ret
        exact ⟨rfl, hb⟩
      · have e3 : (n == n') = false := beq_eq_false_iff_ne.2 h3
        obtain rfl : B = false := by rw [HB.out]; simp [eqTy, h3]
        clear h1 h2 h3
        go_upto_region 1 with (fail)
        apply wp_region_lit
        (with_reducible refine wl_k ?_ ?_); exact rfl; intro K hK; go_simp; refine hK _ ?_; clear hK K
        (first | ((with_reducible apply wl_oneG); exact rfl; exact rfl; first | exact f0 (by with_reducible assumption) | exact f1 (by with_reducible assumption) | exact f2 (by with_reducible assumption) | exact f3 (by with_reducible assumption) | with_reducible assumption | exact g22 (by with_reducible assumption) | exact g25 (by with_reducible assumption)) | ((with_reducible apply wl_rowG); exact rfl; exact rfl; first | with_reducible assumption | exact RowK.now (by with_reducible assumption) | exact f4 (by with_reducible assumption)))
        (with_reducible refine wl_k ?_ ?_); exact rfl; intro K hK; go_simp; refine hK _ ?_; clear hK K
        (first | ((with_reducible apply wl_oneG); exact rfl; exact rfl; first | exact f0 (by with_reducible assumption) | exact f1 (by with_reducible assumption) | exact f2 (by with_reducible assumption) | exact f3 (by with_reducible assumption) | with_reducible assumption | exact g22 (by with_reducible assumption) | exact g25 (by with_reducible assumption)) | ((with_reducible apply wl_rowG); exact rfl; exact rfl; first | with_reducible assumption | exact RowK.now (by with_reducible assumption) | exact f4 (by with_reducible assumption)))
        (with_reducible refine wl_k ?_ ?_); exact rfl; intro K hK; go_simp; refine hK _ ?_; clear hK K
        (with_reducible refine wl_k ?_ ?_); exact rfl; intro K hK; go_simp; refine hK _ ?_; clear hK K
        (with_reducible refine wl_k ?_ ?_); exact rfl; intro K hK; go_simp; refine hK _ ?_; clear hK K
        (first | ((with_reducible apply wl_oneG); exact rfl; exact rfl; first | exact f0 (by with_reducible assumption) | exact f1 (by with_reducible assumption) | exact f2 (by with_reducible assumption) | exact f3 (by with_reducible assumption) | with_reducible assumption | exact g22 (by with_reducible assumption) | exact g25 (by with_reducible assumption)) | ((with_reducible apply wl_rowG); exact rfl; exact rfl; first | with_reducible assumption | exact RowK.now (by with_reducible assumption) | exact f4 (by with_reducible assumption)))
        (with_reducible refine wl_k ?_ ?_); exact rfl; intro K hK; go_simp; refine hK _ ?_; clear hK K
        (first | ((with_reducible apply wl_oneG); exact rfl; exact rfl; first | exact f0 (by with_reducible assumption) | exact f1 (by with_reducible assumption) | exact f2 (by with_reducible assumption) | exact f3 (by with_reducible assumption) | with_reducible assumption | exact g22 (by with_reducible assumption) | exact g25 (by with_reducible assumption)) | ((with_reducible apply wl_rowG); exact rfl; exact rfl; first | with_reducible assumption | exact RowK.now (by with_reducible assumption) | exact f4 (by with_reducible assumption)))
        (with_reducible refine wl_k ?_ ?_); exact rfl; intro K hK; go_simp; refine hK _ ?_; clear hK K
        (with_reducible refine wl_k ?_ ?_); exact rfl; intro K hK; go_simp; refine hK _ ?_; clear hK K
        (with_reducible refine wl_k ?_ ?_); exact rfl; intro K hK; go_simp; refine hK _ ?_; clear hK K
        (with_reducible refine wl_k ?_ ?_); exact rfl; intro K hK; go_simp; refine hK _ ?_; clear hK K
        (first | ((with_reducible apply wl_oneG); exact rfl; exact rfl; first | exact f0 (by with_reducible assumption) | exact f1 (by with_reducible assumption) | exact f2 (by with_reducible assumption) | exact f3 (by with_reducible assumption) | with_reducible assumption | exact g22 (by with_reducible assumption) | exact g25 (by with_reducible assumption)) | ((with_reducible apply wl_rowG); exact rfl; exact rfl; first | with_reducible assumption | exact RowK.now (by with_reducible assumption) | exact f4 (by with_reducible assumption)))
        (with_reducible refine wl_k ?_ ?_); exact rfl; intro K hK; go_simp; refine hK _ ?_; clear hK K
        (first | ((with_reducible apply wl_oneG); exact rfl; exact rfl; first | exact f0 (by with_reducible assumption) | exact f1 (by with_reducible assumption) | exact f2 (by with_reducible assumption) | exact f3 (by with_reducible assumption) | with_reducible assumption | exact g22 (by with_reducible assumption) | exact g25 (by with_reducible assumption)) | ((with_reducible apply wl_rowG); exact rfl; exact rfl; first | with_reducible assumption | exact RowK.now (by with_reducible assumption) | exact f4 (by with_reducible assumption)))
        (with_reducible refine wl_k ?_ ?_); exact rfl; intro K hK; go_simp; refine hK _ ?_; clear hK K
        (with_reducible refine wl_k ?_ ?_); exact rfl; intro K hK; go_simp; refine hK _ ?_; clear hK K
        (with_reducible refine wl_k ?_ ?_); exact rfl; intro K hK; go_simp; refine hK _ ?_; clear hK K
        (first | ((with_reducible refine wl_skipU ?_ ?_ ?_); exact rfl; exact rfl) | ((with_reducible refine wl_skip ?_ ?_); exact rfl; simp only [Zq]))
        (first | ((with_reducible refine wl_skipU ?_ ?_ ?_); exact rfl; exact rfl) | ((with_reducible refine wl_skip ?_ ?_); exact rfl; simp only [Zq]))
        (first | ((with_reducible refine wl_skipU ?_ ?_ ?_); exact rfl; exact rfl) | ((with_reducible refine wl_skip ?_ ?_); exact rfl; simp only [Zq]))
        (first | ((with_reducible refine wl_skipU ?_ ?_ ?_); exact rfl; exact rfl) | ((with_reducible refine wl_skip ?_ ?_); exact rfl; simp only [Zq]))
        (first | ((with_reducible refine wl_skipU ?_ ?_ ?_); exact rfl; exact rfl) | ((with_reducible refine wl_skip ?_ ?_); exact rfl; simp only [Zq]))
        (with_reducible refine wl_k ?_ ?_); exact rfl; intro K hK; go_simp; refine hK _ ?_; clear hK K
        (with_reducible refine wl_k ?_ ?_); exact rfl; intro K hK; go_simp; refine hK _ ?_; clear hK K
        go_wp2_with fail
        go_ret
        exact ⟨rfl, hb⟩
    · have e2 : (s.toList == s'.toList) = false := beq_eq_false_iff_ne.2 (fun e => h2 (bytes_inj e))
      obtain rfl : B = false := by rw [HB.out]; simp [eqTy, h2]
      clear h1 h2
      go_upto_region 1 with (fail)
      apply wp_region_lit
      (with_reducible refine wl_k ?_ ?_); exact rfl; intro K hK; go_simp; refine hK _ ?_; clear hK K
      (first | ((with_reducible apply wl_oneG); exact rfl; exact rfl; first | exact f0 (by with_reducible assumption) | exact f1 (by with_reducible assumption) | exact f2 (by with_reducible assumption) | exact f3 (by with_reducible assumption) | with_reducible assumption | exact g22 (by with_reducible assumption) | exact g25 (by with_reducible assumption)) | ((with_reducible apply wl_rowG); exact rfl; exact rfl; first | with_reducible assumption | exact RowK.now (by with_reducible assumption) | exact f4 (by with_reducible assumption)))
      (with_reducible refine wl_k ?_ ?_); exact rfl; intro K hK; go_simp; refine hK _ ?_; clear hK K
      (first | ((with_reducible apply wl_oneG); exact rfl; exact rfl; first | exact f0 (by with_reducible assumption) | exact f1 (by with_reducible assumption) | exact f2 (by with_reducible assumption) | exact f3 (by with_reducible assumption) | with_reducible assumption | exact g22 (by with_reducible assumption) | exact g25 (by with_reducible assumption)) | ((with_reducible apply wl_rowG); exact rfl; exact rfl; first | with_reducible assumption | exact RowK.now (by with_reducible assumption) | exact f4 (by with_reducible assumption)))
      (with_reducible refine wl_k ?_ ?_); exact rfl; intro K hK; go_simp; refine hK _ ?_; clear hK K
      (with_reducible refine wl_k ?_ ?_); exact rfl; intro K hK; go_simp; refine hK _ ?_; clear hK K
      (with_reducible refine wl_k ?_ ?_); exact rfl; intro K hK; go_simp; refine hK _ ?_; clear hK K
      (first | ((with_reducible apply wl_oneG); exact rfl; exact rfl; first | exact f0 (by with_reducible assumption) | exact f1 (by with_reducible assumption) | exact f2 (by with_reducible assumption) | exact f3 (by with_reducible assumption) | with_reducible assumption | exact g22 (by with_reducible assumption) | exact g25 (by with_reducible assumption)) | ((with_reducible apply wl_rowG); exact rfl; exact rfl; first | with_reducible assumption | exact RowK.now (by with_reducible assumption) | exact f4 (by with_reducible assumption)))
      (with_reducible refine wl_k ?_ ?_); exact rfl; intro K hK; go_simp; refine hK _ ?_; clear hK K
      (first | ((with_reducible apply wl_oneG); exact rfl; exact rfl; first | exact f0 (by with_reducible assumption) | exact f1 (by with_reducible assumption) | exact f2 (by with_reducible assumption) | exact f3 (by with_reducible assumption) | with_reducible assumption | exact g22 (by with_reducible assumption) | exact g25 (by with_reducible assumption)) | ((with_reducible apply wl_rowG); exact rfl; exact rfl; first | with_reducible assumption | exact RowK.now (by with_reducible assumption) | exact f4 (by with_reducible assumption)))
      (with_reducible refine wl_k ?_ ?_); exact rfl; intro K hK; go_simp; refine hK _ ?_; clear hK K
      (with_reducible refine wl_k ?_ ?_); exact rfl; intro K hK; go_simp; refine hK _ ?_; clear hK K
      (with_reducible refine wl_k ?_ ?_); exact rfl; intro K hK; go_simp; refine hK _ ?_; clear hK K
      (first | ((with_reducible refine wl_skipU ?_ ?_ ?_); exact rfl; exact rfl) | ((with_reducible refine wl_skip ?_ ?_); exact rfl; simp only [Zq]))
      (first | ((with_reducible refine wl_skipU ?_ ?_ ?_); exact rfl; exact rfl) | ((with_reducible refine wl_skip ?_ ?_); exact rfl; simp only [Zq]))
      (first | ((with_reducible refine wl_skipU ?_ ?_ ?_); exact rfl; exact rfl) | ((with_reducible refine wl_skip ?_ ?_); exact rfl; simp only [Zq]))
      (first | ((with_reducible refine wl_skipU ?_ ?_ ?_); exact rfl; exact rfl) | ((with_reducible refine wl_skip ?_ ?_); exact rfl; simp only [Zq]))
      (first | ((with_reducible refine wl_skipU ?_ ?_ ?_); exact rfl; exact rfl) | ((with_reducible refine wl_skip ?_ ?_); exact rfl; simp only [Zq]))
      (with_reducible refine wl_k ?_ ?_); exact rfl; intro K hK; go_simp; refine hK _ ?_; clear hK K
      (with_reducible refine wl_k ?_ ?_); exact rfl; intro K hK; go_simp; refine hK _ ?_; clear hK K
      (first | ((with_reducible refine wl_skipU ?_ ?_ ?_); exact rfl; exact rfl) | ((with_reducible refine wl_skip ?_ ?_); exact rfl; simp only [Zq]))
      (first | ((with_reducible refine wl_skipU ?_ ?_ ?_); exact rfl; exact rfl) | ((with_reducible refine wl_skip ?_ ?_); exact rfl; simp only [Zq]))
      (first | ((with_reducible refine wl_skipU ?_ ?_ ?_); exact rfl; exact rfl) | ((with_reducible refine wl_skip ?_ ?_); exact rfl; simp only [Zq]))
      (first | ((with_reducible refine wl_skipU ?_ ?_ ?_); exact rfl; exact rfl) | ((with_reducible refine wl_skip ?_ ?_); exact rfl; simp only [Zq]))
      (first | ((with_reducible refine wl_skipU ?_ ?_ ?_); exact rfl; exact rfl) | ((with_reducible refine wl_skip ?_ ?_); exact rfl; simp only [Zq]))
      (with_reducible refine wl_k ?_ ?_); exact rfl; intro K hK; go_simp; refine hK _ ?_; clear hK K
      (with_reducible refine wl_k ?_ ?_); exact rfl; intro K hK; go_simp; refine hK _ ?_; clear hK K
      go_wp2_with fail
      go_ret
      exact ⟨rfl, hb⟩
  · have e1 : (k == k') = false := beq_eq_false_iff_ne.2 h1
    obtain rfl : B = false := by rw [HB.out]; simp [eqTy, h1]
    clear h1
    go_upto_region 1 with (fail)
    apply wp_region_lit
    (with_reducible refine wl_k ?_ ?_); exact rfl; intro K hK; go_simp; refine hK _ ?_; clear hK K
    (first | ((with_reducible apply wl_oneG); exact rfl; exact rfl; first | exact f0 (by with_reducible assumption) | exact f1 (by with_reducible assumption) | exact f2 (by with_reducible assumption) | exact f3 (by with_reducible assumption) | with_reducible assumption | exact g22 (by with_reducible assumption) | exact g25 (by with_reducible assumption)) | ((with_reducible apply wl_rowG); exact rfl; exact rfl; first | with_reducible assumption | exact RowK.now (by with_reducible assumption) | exact f4 (by with_reducible assumption)))
    (with_reducible refine wl_k ?_ ?_); exact rfl; intro K hK; go_simp; refine hK _ ?_; clear hK K
    (first | ((with_reducible apply wl_oneG); exact rfl; exact rfl; first | exact f0 (by with_reducible assumption) | exact f1 (by with_reducible assumption) | exact f2 (by with_reducible assumption) | exact f3 (by with_reducible assumption) | with_reducible assumption | exact g22 (by with_reducible assumption) | exact g25 (by with_reducible assumption)) | ((with_reducible apply wl_rowG); exact rfl; exact rfl; first | with_reducible assumption | exact RowK.now (by with_reducible assumption) | exact f4 (by with_reducible assumption)))
    (with_reducible refine wl_k ?_ ?_); exact rfl; intro K hK; go_simp; refine hK _ ?_; clear hK K
    (with_reducible refine wl_k ?_ ?_); exact rfl; intro K hK; go_simp; refine hK _ ?_; clear hK K
    (first | ((with_reducible refine wl_skipU ?_ ?_ ?_); exact rfl; exact rfl) | ((with_reducible refine wl_skip ?_ ?_); exact rfl; simp only [Zq]))
    (first | ((with_reducible refine wl_skipU ?_ ?_ ?_); exact rfl; exact rfl) | ((with_reducible refine wl_skip ?_ ?_); exact rfl; simp only [Zq]))
    (first | ((with_reducible refine wl_skipU ?_ ?_ ?_); exact rfl; exact rfl) | ((with_reducible refine wl_skip ?_ ?_); exact rfl; simp only [Zq]))
    (first | ((with_reducible refine wl_skipU ?_ ?_ ?_); exact rfl; exact rfl) | ((with_reducible refine wl_skip ?_ ?_); exact rfl; simp only [Zq]))
    (first | ((with_reducible refine wl_skipU ?_ ?_ ?_); exact rfl; exact rfl) | ((with_reducible refine wl_skip ?_ ?_); exact rfl; simp only [Zq]))
    (with_reducible refine wl_k ?_ ?_); exact rfl; intro K hK; go_simp; refine hK _ ?_; clear hK K
    (with_reducible refine wl_k ?_ ?_); exact rfl; intro K hK; go_simp; refine hK _ ?_; clear hK K
    (first | ((with_reducible refine wl_skipU ?_ ?_ ?_); exact rfl; exact rfl) | ((with_reducible refine wl_skip ?_ ?_); exact rfl; simp only [Zq]))
    (first | ((with_reducible refine wl_skipU ?_ ?_ ?_); exact rfl; exact rfl) | ((with_reducible refine wl_skip ?_ ?_); exact rfl; simp only [Zq]))
    (first | ((with_reducible refine wl_skipU ?_ ?_ ?_); exact rfl; exact rfl) | ((with_reducible refine wl_skip ?_ ?_); exact rfl; simp only [Zq]))
    (first | ((with_reducible refine wl_skipU ?_ ?_ ?_); exact rfl; exact rfl) | ((with_reducible refine wl_skip ?_ ?_); exact rfl; simp only [Zq]))
    (first | ((with_reducible refine wl_skipU ?_ ?_ ?_); exact rfl; exact rfl) | ((with_reducible refine wl_skip ?_ ?_); exact rfl; simp only [Zq]))
    (with_reducible refine wl_k ?_ ?_); exact rfl; intro K hK; go_simp; refine hK _ ?_; clear hK K
    (with_reducible refine wl_k ?_ ?_); exact rfl; intro K hK; go_simp; refine hK _ ?_; clear hK K
    (first | ((with_reducible refine wl_skipU ?_ ?_ ?_); exact rfl; exact rfl) | ((with_reducible refine wl_skip ?_ ?_); exact rfl; simp only [Zq]))
    (first | ((with_reducible refine wl_skipU ?_ ?_ ?_); exact rfl; exact rfl) | ((with_reducible refine wl_skip ?_ ?_); exact rfl; simp only [Zq]))
    (first | ((with_reducible refine wl_skipU ?_ ?_ ?_); exact rfl; exact rfl) | ((with_reducible refine wl_skip ?_ ?_); exact rfl; simp only [Zq]))
    (first | ((with_reducible refine wl_skipU ?_ ?_ ?_); exact rfl; exact rfl) | ((with_reducible refine wl_skip ?_ ?_); exact rfl; simp only [Zq]))
    (first | ((with_reducible refine wl_skipU ?_ ?_ ?_); exact rfl; exact rfl) | ((with_reducible refine wl_skip ?_ ?_); exact rfl; simp only [Zq]))
    (with_reducible refine wl_k ?_ ?_); exact rfl; intro K hK; go_simp; refine hK _ ?_; clear hK K
    (with_reducible refine wl_k ?_ ?_); exact rfl; intro K hK; go_simp; refine hK _ ?_; clear hK K
    go_wp2_with fail
    go_ret
    exact ⟨rfl, hb⟩
theorem EqTypes_any (ts us : List Ty) (A A' : Option Addr) (l c l' c' : Nat) (w : World) (D D' : Nat → Prop) (h : TysAt w D ts A l c) (h' : TysAt w D' us A' l' c') :
    Calls Tryd.prog 31 #[.slice A l c, .slice A' l' c'] w fun e w' => e = .returned (.bool (eqTys ts us)) ∧ Below w.heap.size w w' := EqTypes_of ts us (fun t _ => EqType_any t) A A' l c l' c' w D D' h h'
end Go.Proofs.YtokmaehefenpmaaDoor
