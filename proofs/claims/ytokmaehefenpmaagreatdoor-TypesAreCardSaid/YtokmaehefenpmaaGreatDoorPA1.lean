/- Steps of plain and drawn regions, for any texts of this seat (turned from the writer's texts of another seat). Trees of api.Type in memory: the relation TyAt, what keeps it, and a tree taken out of a row's input. For any program in which the type has its four fields (TyNums). The plain laws of trees: what 'replaced' gives (repl), what is put in for names and for variables, and that to put in twice is to put in once. No program in sight. The order of trees: two are equal or one is less, and less goes on. No program in sight. The plain laws of matching (TypesMatch, TypesMatches). No program in sight. The plain laws of counting: TypeNodes with its bound, 'each' with a counter, a substitution of names by themselves. No program in sight. The plain laws of the lists of names and numbers: two strictly rising lists with the same members are one; a list put in order one by one (the reference's loops); a list in order of which equal neighbours are left out (sort and compact). No program in sight. Trees in memory: rows of them, lists of the call's own, and the steps of a walk over them. The number of nodes of a tree, up to a bound; small. A tree in which nodes are replaced (replaced), for any function that says by what; a copy (copied). Steps of drawn regions that make trees. Unification, plainly: trees with variables, what is put in for variables, one step of the solver. No program in sight. Unification, plainly: the steps of the solver, that they end, that a solution solves and is the most general one, and that the order of the equations does not matter. No program in sight. 'each': a function value called at the nodes of a tree until it says no. 'each', 'right', Open and Valid. -/
import Derived.Test.YtokmaehefenpmaaGreatDoorProg
import Derived.WalkKit
import Derived.WalkLawsBesides
import Derived.WalkSpells
import Derived.Deep.Quiet
import Derived.StillTail
import Derived.Deep.QuietTactic
import Derived.Deep.MidRow
import Derived.BigQuiet
import Derived.Lib.Hide
import Derived.Deep.Cut
import Derived.ChangeKeysEq
import Derived.Laws.StructEq
import Derived.Deep.RegionHeld
import Derived.ProofKit
import Derived.Lib.SmallJoins
import Derived.Deep.Strs
import Derived.Deep.Slices
import Derived.Carry
import Derived.IntWalk
import Derived.Outline
import Derived.Shelf.Abstract
namespace Go.Proofs.YtokmaehefenpmaaGreatDoor.Nm
open Go.RowKit
set_option linter.unusedSimpArgs false

/-- 64 cells of one byte each. -/
def row (f : Nat → Nat) : Array Value := ((List.range 64).map fun i => Value.int .u8 (f i : Int)).toArray
theorem heap_lt {w : World} {g : Nat} {o : Obj} (h : w.heap[g]? = some o) : g < w.heap.size := (Array.getElem?_eq_some_iff.1 h).1

theorem below_cells {B : Nat} {w w' : World} (h : Below B w w') {g : Nat} (hg : g < B) {o : Obj} (ho : w.heap[g]? = some o) : w'.heap[g]? = some o := by rw [h.block g hg, ho]

theorem ha_new {w : World} {o : Obj} {k : Nat} (h : k = w.heap.size) : (w.alloc o).heap[k]? = some o := by subst h; exact heap_alloc_new w o
theorem hs_new {w : World} {g i : Nat} {cs : Array Value} {t : TypeId} {v : Value} (h : w.heap[g]? = some (.cells cs t (0, 0))) : (w.setCell ⟨g, i, none⟩ v).heap[g]? = some (.cells (cs.setIfInBounds i v) t (0, 0)) := heap_setCell_same w g i cs t v h
theorem hr_new {w : World} {g : Nat} {old cs : Array Value} {t : TypeId} (h : w.heap[g]? = some (.cells old t (0, 0))) : (w.setRow g cs).heap[g]? = some (.cells cs t (0, 0)) := setRow_heap w g old cs t (0, 0) h
theorem below_setRow {B : Nat} {a w : World} (h : Below B a w) {g : Nat} (hg : B ≤ g) (cs : Array Value) : Below B a (w.setRow g cs) :=
  h.trans ⟨by simp, rfl, rfl, by simp, fun k hk => setRow_other w g k cs (by omega)⟩
end Go.Proofs.YtokmaehefenpmaaGreatDoor.Nm
namespace Go.Proofs.YtokmaehefenpmaaGreatDoor.Nm
open Go.RowKit

section
variable {P : Program} {ops : Array Oper} {md : Region.Mode} {C : World → Prop}

/-- No tail: all operations quiet in the class. -/
theorem wp_region_class {id : Nat} {Q : Exit → Act → World → Prop} {a : Act} {w : World} {l : List Oper} (C : World → Prop) (hm : P.follows .mixedOrders = true) (hB : Region.lexB .any l.toArray = true) (hC : C { w with drawn := w.drawn + 1 })
    (h : wpQuiet P l.toArray C (fun a' => ∀ w', C w' → Q .normal a' w') l a) : (Code.region id l.toArray true).wp P Q a w :=
  wp_region_quiet (C := C) hm hB hC (by simpa using h)

/-- A guarded operation, taken. -/
theorem wq_valG {Q : Act → Prop} {a : Act} {o : Oper} {rest : List Oper} {v : Value} (hg : Region.wanted o (yielded ops a.tmps) = true) (hv : ∀ w, C w → (execOp a.eval o).run P w = .ok (.value v) w)
    (h : wpQuiet P ops C Q rest (a.put o.dst v)) : wpQuiet P ops C Q (o :: rest) a := by
  unfold wpQuiet
  rw [if_pos hg]
  exact ⟨v, fun w hw => by unfold Oper.quietAt; rw [hv w hw]; exact ⟨rfl, rfl⟩, h⟩
theorem wq_callG {Q : Act → Prop} {a : Act} {o : Oper} {rest : List Oper} {v : Value} {f : FuncId} {args : Array Value} (hg : Region.wanted o (yielded ops a.tmps) = true) (hv : ∀ w, C w → (execOp a.eval o).run P w = .ok (.enter f args) w)
    (hc : ∀ w, C w → Calls P f args w fun e w' => e = .returned v ∧ C w')
    (h : wpQuiet P ops C Q rest (a.put o.dst v)) : wpQuiet P ops C Q (o :: rest) a := by
  unfold wpQuiet
  rw [if_pos hg]
  exact ⟨v, fun w hw => by unfold Oper.quietAt; rw [hv w hw]; exact ⟨rfl, hc w hw⟩, h⟩
/-- An operation that only reckons. -/
theorem wq_k {Q : Act → Prop} {a : Act} {o : Oper} {rest : List Oper} (hg : Region.wanted o (yielded ops a.tmps) = true)
    (h : ∀ K : Act → Prop, (∀ a', wpQuiet P ops C Q rest a' → K a') → ∃ v, (∀ w, (execOp a.eval o).run P w = .ok (.value v) w) ∧ K (a.put o.dst v)) : wpQuiet P ops C Q (o :: rest) a := by
  obtain ⟨v, hv, hk⟩ := h _ (fun _ h => h)
  exact wq_valG hg (fun w _ => hv w) hk
/-- A call, found by reckoning. -/
theorem wq_ck {Q : Act → Prop} {a : Act} {o : Oper} {rest : List Oper} (hg : Region.wanted o (yielded ops a.tmps) = true)
    (h : ∀ K : FuncId → Array Value → Prop, (∀ f args, (∃ v, (∀ w, C w → Calls P f args w fun e w' => e = .returned v ∧ C w') ∧ wpQuiet P ops C Q rest (a.put o.dst v)) → K f args) → ∃ f args, (∀ w, (execOp a.eval o).run P w = .ok (.enter f args) w) ∧ K f args) : wpQuiet P ops C Q (o :: rest) a := by
  obtain ⟨f, args, hv, v, hc, hk⟩ := h _ (fun _ _ h => h)
  exact wq_callG hg (fun w _ => hv w) hc hk
/-- A guarded operation, left out. -/
theorem wq_skip {Q : Act → Prop} {a : Act} {o : Oper} {rest : List Oper} (hg : Region.wanted o (yielded ops a.tmps) = false)
    (h : wpQuiet P ops C Q rest (a.put o.dst undef)) : wpQuiet P ops C Q (o :: rest) a := by
  unfold wpQuiet
  rw [if_neg (by simp [hg])]
  exact h
end

section
variable {P : Program}
end

section
variable {P : Program}
/-- An operation of a plain region that yields a value and leaves the world. -/
theorem wl_val {ops : Array Oper} {rest : List Oper} {o : Oper} {a : Act} {w : World} {Q : Exit → Act → World → Prop} {v : Value} (hg : o.guard = none) (hv : (execOp a.eval o).run P w = .ok (.value v) w)
    (h : wpList P ops Q rest (a.put o.dst v) w) : wpList P ops Q (o :: rest) a w :=
  wpList_plain hg fun K hK => by unfold Oper.wp; rw [hv]; exact hK _ _ h
end

section
variable {P : Program}
theorem wp_region_belowAll {id : Nat} {Q : Exit → Act → World → Prop} {a : Act} {w : World} {l : List Oper} (hm : P.follows .mixedOrders = true) (hB : Region.lexB .any l.toArray = true)
    (h : wpQuiet P l.toArray (fun w' => Below w.heap.size w w') (fun a' => ∀ w', Below w.heap.size w w' → Q .normal a' w') l a) : (Code.region id l.toArray true).wp P Q a w :=
  wp_region_class (fun w' => Below w.heap.size w w') hm hB ((Below.refl _ w).drew) h
theorem put_lit (l : List Value) (df : List Deferred) (d : Nat) (v : Value) : (Act.mk l.toArray df).put (some d) v = Act.mk (l.set d v).toArray df := by simp [Act.put]
theorem below_look {W w' : World} (h : Below W.heap.size W w') {g : Nat} {o : Obj} (ho : W.heap[g]? = some o) : w'.heap[g]? = some o := below_cells h (heap_lt ho) ho
end

end Go.Proofs.YtokmaehefenpmaaGreatDoor.Nm
namespace Go.Proofs.YtokmaehefenpmaaGreatDoor
open Go.RowKit Go.Proofs.YtokmaehefenpmaaGreatDoor.Nm

theorem info_of {P : Program} {t : TypeId} {n : Nat} (h : (P.info? t).map (·.size) = some n) : ∃ i, P.info? t = some i ∧ i.size = n := Option.map_eq_some_iff.1 h
theorem u4 : Tryz.prog.underlying 4 = some .bool := by kernel_rfl
theorem mixed : Tryz.prog.follows .mixedOrders = true := by kernel_rfl
theorem ex_build {ev : Operand → Value} {o : Oper} {w : World} (t : TypeId) (parts : Array (Nat × Operand)) (ho : o.op = .build t parts) {D : Array Value} {L : List (Nat × Value)}
    (hL : parts.toList.map (fun ix => (ix.1, ev ix.2)) = L) (hb : Tryz.prog.built t L = some D) : (execOp ev o).run Tryz.prog w = .ok (.value (.agg D)) w := by
  unfold execOp
  have := run_build (P := Tryz.prog) w t (parts.map fun (i, x) => (i, ev x)) D (by rw [Array.toList_map]; exact (congrArg _ hL).trans hb)
  simp only [ho, Sem.run_bind, this, Result.andThen_ok]
  rfl

/-- What a load of many cells hands back; of one. -/
@[irreducible] def RowAt (w : World) (ty : TypeId) (ad : Addr) (D : Array Value) : Prop := (loadVar ty ad).run Tryz.prog w = .ok (.agg D) w
@[irreducible] def OneAt (w : World) (ty : TypeId) (ad : Addr) (v : Value) : Prop := (loadVar ty ad).run Tryz.prog w = .ok v w
theorem ex_row {ev : Operand → Value} {dst : Option Tmp} {ty ty' : TypeId} {x : Operand} {pos : String} {after : Array Edge} {g : Option (Nat × Bool)} {w : World} {ad : Addr} {D : Array Value} (hx : ev x = .pointer (some ad)) (hr : RowAt w ty ad D) :
    (execOp ev ⟨dst, .load ty x, ty', pos, after, g⟩).run Tryz.prog w = .ok (.value (.agg D)) w := by
  unfold execOp
  simp only [hx, Instr.loadAt, Instr.sureAddr, Sem.run_bind, Sem.run_pure, Result.andThen_ok]
  unfold RowAt at hr
  rw [hr]
  rfl
theorem ex_one {ev : Operand → Value} {dst : Option Tmp} {ty ty' : TypeId} {x : Operand} {pos : String} {after : Array Edge} {g : Option (Nat × Bool)} {w : World} {ad : Addr} {v : Value} (hx : ev x = .pointer (some ad)) (hr : OneAt w ty ad v) :
    (execOp ev ⟨dst, .load ty x, ty', pos, after, g⟩).run Tryz.prog w = .ok (.value v) w := by
  unfold execOp
  simp only [hx, Instr.loadAt, Instr.sureAddr, Sem.run_bind, Sem.run_pure, Result.andThen_ok]
  unfold OneAt at hr
  rw [hr]
  rfl
section
variable {ops : Array Oper} {rest : List Oper} {dst : Option Tmp} {ty ty' : TypeId} {x : Operand} {pos : String} {after : Array Edge} {g : Option (Nat × Bool)} {a : Act} {w : World} {Q : Exit → Act → World → Prop} {q : Act → Prop} {C : World → Prop} {ad : Addr} {D : Array Value} {v : Value}
theorem wq_row (hg : Region.wanted ⟨dst, .load ty x, ty', pos, after, g⟩ (yielded ops a.tmps) = true) (hx : a.eval x = .pointer (some ad)) (hr : ∀ w', C w' → RowAt w' ty ad D) (h : wpQuiet Tryz.prog ops C q rest (a.put dst (.agg D))) : wpQuiet Tryz.prog ops C q (⟨dst, .load ty x, ty', pos, after, g⟩ :: rest) a := wq_valG hg (fun w' hw' => ex_row hx (hr w' hw')) h
theorem wq_one (hg : Region.wanted ⟨dst, .load ty x, ty', pos, after, g⟩ (yielded ops a.tmps) = true) (hx : a.eval x = .pointer (some ad)) (hr : ∀ w', C w' → OneAt w' ty ad v) (h : wpQuiet Tryz.prog ops C q rest (a.put dst v)) : wpQuiet Tryz.prog ops C q (⟨dst, .load ty x, ty', pos, after, g⟩ :: rest) a := wq_valG hg (fun w' hw' => ex_one hx (hr w' hw')) h
end
theorem row_mid {w : World} {ty : TypeId} {b off n : Nat} {Cs : Array Value} {t : TypeId} {fr : Nat × Nat} (hb : w.heap[b]? = some (.cells Cs t fr)) {D : Array Value} (hD : Cs.extract off (off + n) = D) {d : TypeDesc}
    (hu : Tryz.prog.underlying ty = some d) (hd : d.isRow = true) (hn : D.size = n) (hi : (Tryz.prog.info? ty).map (·.size) = some n) : RowAt w ty ⟨b, off, none⟩ D := by
  have h := World.rangeAt_of_block hb off n
  rw [hD] at h
  have := run_loadVar_mid (P := Tryz.prog) w b off ty D.toList d h hu hd (by rw [hi]; simp [hn])
  unfold RowAt
  rw [this]
end Go.Proofs.YtokmaehefenpmaaGreatDoor
namespace Go.Proofs.YtokmaehefenpmaaGreatDoor
open Go.RowKit Go.Proofs.YtokmaehefenpmaaGreatDoor.Nm

namespace Nm
end Nm

theorem one_of {w : World} {ty : TypeId} {ad : Addr} {v : Value} {d : TypeDesc} (hu : Tryz.prog.underlying ty = some d) (hd : d.isRow = false) (hc : w.cell? ad = some v) : OneAt w ty ad v := by
  have hagg : (isAgg ty).run Tryz.prog w = .ok false w := by
    unfold isAgg
    rw [Sem.run_bind, run_underlying hu w]
    cases d <;> simp_all
  unfold OneAt
  simp [loadVar, hagg, load, Sem.run, hc]
theorem u3 : Tryz.prog.underlying 3 = some (.int .i64) := by kernel_rfl
section
variable {ops : Array Oper} {rest : List Oper} {dst : Option Tmp} {ty ty' : TypeId} {x ix : Operand} {pos : String} {after : Array Edge} {a : Act} {w : World} {Q : Exit → Act → World → Prop}
end
end Go.Proofs.YtokmaehefenpmaaGreatDoor
namespace Go.Proofs.YtokmaehefenpmaaGreatDoor
open Go.RowKit Go.Proofs.YtokmaehefenpmaaGreatDoor.Nm

section
variable {P : Program} {ops : Array Oper} {rest : List Oper} {dst : Option Tmp} {ty ty' : TypeId} {x y : Operand} {pos : String} {after : Array Edge} {g : Option (Nat × Bool)} {a : Act} {w : World} {Q : Exit → Act → World → Prop} {q : Act → Prop} {C : World → Prop} {ad : Addr} {D : Array Value} {v : Value} {o : Oper}

theorem wl_k (hg : Region.wanted o (yielded ops a.tmps) = true)
    (h : ∀ K : Act → Prop, (∀ a', wpList P ops Q rest a' w → K a') → ∃ v, (execOp a.eval o).run P w = .ok (.value v) w ∧ K (a.put o.dst v)) : wpList P ops Q (o :: rest) a w := by
  obtain ⟨v, hv, hk⟩ := h _ (fun _ h => h)
  refine wpList_step fun K hK => ?_
  rw [if_pos hg]
  unfold Oper.wp; rw [hv]; exact hK _ _ hk
theorem wl_skip (hg : Region.wanted o (yielded ops a.tmps) = false) (h : wpList P ops Q rest (a.put o.dst undef) w) : wpList P ops Q (o :: rest) a w := by
  refine wpList_step fun K hK => ?_
  rw [if_neg (by simp [hg])]
  exact hK _ _ h
theorem wl_ck (hg : Region.wanted o (yielded ops a.tmps) = true)
    (h : ∀ K : FuncId → Array Value → Prop, (∀ f args, (∃ R, Calls P f args w R ∧ ∀ e w1, R e w1 → ∃ v, e = .returned v ∧ wpList P ops Q rest (a.put o.dst v) w1) → K f args) → ∃ f args, (execOp a.eval o).run P w = .ok (.enter f args) w ∧ K f args) : wpList P ops Q (o :: rest) a w := by
  obtain ⟨f, args, hv, R, hc, hk⟩ := h _ (fun _ _ h => h)
  refine wpList_step fun K hK => ?_
  rw [if_pos hg]
  unfold Oper.wp; rw [hv]
  refine hc.mono fun e w1 hr => ?_
  obtain ⟨v, rfl, h2⟩ := hk e w1 hr
  exact hK _ _ h2

theorem wl_rowG (hg : Region.wanted ⟨dst, .load ty x, ty', pos, after, g⟩ (yielded ops a.tmps) = true) (hx : a.eval x = .pointer (some ad)) (hr : RowAt w ty ad D) (h : wpList Tryz.prog ops Q rest (a.put dst (.agg D)) w) : wpList Tryz.prog ops Q (⟨dst, .load ty x, ty', pos, after, g⟩ :: rest) a w := by
  refine wpList_step fun K hK => ?_
  rw [if_pos hg]
  unfold Oper.wp; rw [ex_row hx hr]; exact hK _ _ h
theorem wl_oneG (hg : Region.wanted ⟨dst, .load ty x, ty', pos, after, g⟩ (yielded ops a.tmps) = true) (hx : a.eval x = .pointer (some ad)) (hr : OneAt w ty ad v) (h : wpList Tryz.prog ops Q rest (a.put dst v) w) : wpList Tryz.prog ops Q (⟨dst, .load ty x, ty', pos, after, g⟩ :: rest) a w := by
  refine wpList_step fun K hK => ?_
  rw [if_pos hg]
  unfold Oper.wp; rw [ex_one hx hr]; exact hK _ _ h

/-- A new variable: behind it the world under a name. -/
theorem wl_new {z : Array Value} (hal : ∀ ev w, (execOp ev ⟨dst, .alloc ty, ty', pos, after, none⟩).run Tryz.prog w = .ok (.value (.pointer (some ⟨w.heap.size, 0, none⟩))) (w.alloc (.cells z ty)))
    (h : ∀ W p, Below w.heap.size w W → w.heap.size ≤ p → W.heap[p]? = some (.cells z ty (0, 0)) → wpList Tryz.prog ops Q rest (a.put dst (.pointer (some ⟨p, 0, none⟩))) W) : wpList Tryz.prog ops Q (⟨dst, .alloc ty, ty', pos, after, none⟩ :: rest) a w := by
  refine wpList_plain rfl fun K hK => ?_
  unfold Oper.wp; rw [hal]
  exact hK _ _ (h _ _ ((Below.refl _ w).alloc (Nat.le_refl _) _) (Nat.le_refl _) (ha_new rfl))
end

end Go.Proofs.YtokmaehefenpmaaGreatDoor
namespace Go.Proofs.YtokmaehefenpmaaGreatDoor.Nm
open Go.RowKit

/-- Every block of W but those of D is as it was. -/
structure Kept (D : List Nat) (W w' : World) : Prop where
  size : W.heap.size ≤ w'.heap.size
  block : ∀ k, k < W.heap.size → k ∉ D → w'.heap[k]? = W.heap[k]?
  os : w'.os = W.os
  tape : w'.tape = W.tape
  output : w'.output = W.output
theorem Kept.drew (D : List Nat) (W : World) : Kept D W W.drew :=
  have hb := (Below.refl W.heap.size W).drew
  ⟨Nat.le_refl _, fun _ _ _ => rfl, hb.os, hb.tape, hb.output⟩
theorem Kept.below {D : List Nat} {W w w' : World} (h : Kept D W w) (hb : Below w.heap.size w w') : Kept D W w' :=
  ⟨Nat.le_trans h.1 hb.size, fun k hk hp => by rw [hb.block k (by have := h.1; omega)]; exact h.2 k hk hp, hb.os.trans h.os, hb.tape.trans h.tape, hb.output.trans h.output⟩
theorem Kept.setRow {D : List Nat} {p : Nat} {W w : World} (h : Kept D W w) (hm : p ∈ D) (cs : Array Value) : Kept D W (w.setRow p cs) :=
  ⟨by simpa using h.1, fun k hk hp => by rw [setRow_other w p k cs (fun e => hp (e ▸ hm))]; exact h.2 k hk hp, by simpa using h.os, by simpa using h.tape, by simpa using h.output⟩
theorem Kept.setCell {D : List Nat} {p : Nat} {W w : World} (h : Kept D W w) (hm : p ∈ D) (i : Nat) (v : Value) : Kept D W (w.setCell ⟨p, i, none⟩ v) :=
  ⟨by simpa using h.1, fun k hk hp => by rw [heap_setCell_other _ _ _ _ (fun e => hp (by simp at e; exact e ▸ hm))]; exact h.2 k hk hp, ((Below.refl 0 w).setCell (p := ⟨p, i, none⟩) (Nat.zero_le _) v).os.trans h.os, ((Below.refl 0 w).setCell (p := ⟨p, i, none⟩) (Nat.zero_le _) v).tape.trans h.tape, ((Below.refl 0 w).setCell (p := ⟨p, i, none⟩) (Nat.zero_le _) v).output.trans h.output⟩
theorem Kept.look {D : List Nat} {W w' : World} (h : Kept D W w') {g : Nat} {o : Obj} (ho : W.heap[g]? = some o) (hp : g ∉ D) : w'.heap[g]? = some o := by rw [h.2 g (heap_lt ho) hp]; exact ho
theorem Kept.cell {D : List Nat} {W w' : World} (h : Kept D W w') {g i : Nat} {v : Value} (hc : W.cell? ⟨g, i, none⟩ = some v) (hp : g ∉ D) : w'.cell? ⟨g, i, none⟩ = some v := by
  have hg : g < W.heap.size := block_lt_of_cell hc
  rw [← hc]
  exact World.cell?_of_block (h.2 g hg hp)

section
variable {P : Program} {ops : Array Oper} {Q : Exit → Act → World → Prop} {md : Region.Mode} {S : World → Prop} {i : Nat} {oi : Oper} {fuel : Nat} {listed : Array Bool} {a : Act} {w : World}

/-- An operation that yields one value in every world of the class. -/
theorem ha_val {v : Value} (hi : ops[i]? = some oi) (hs : Region.noSelect ops = true) (hf : Region.free md ops listed i = true) (hr : (Region.ready md ops listed).contains i = true)
    (hQ : ∀ c a w, Q (.panic c) (a.put oi.dst v) w → Q (.panic c) a w) (hS : S w) (hg : Region.wanted oi (yielded ops a.tmps) = true) (hv : ∀ w, S w → (execOp a.eval oi).run P w = .ok (.value v) w)
    (h : wpAnyH P md ops Q S fuel (listed.setIfInBounds i true) (a.put oi.dst v) w) : wpAnyH P md ops Q S (fuel + 1) listed a w :=
  wpAnyH_take hi hs hf hr hQ (.inl ⟨hg, hv⟩) hS h
/-- An operation that only reckons. -/
theorem ha_k (hi : ops[i]? = some oi) (hs : Region.noSelect ops = true) (hf : Region.free md ops listed i = true) (hr : (Region.ready md ops listed).contains i = true)
    (hQ : ∀ v c a w, Q (.panic c) (a.put oi.dst v) w → Q (.panic c) a w) (hS : S w) (hg : Region.wanted oi (yielded ops a.tmps) = true)
    (h : ∀ K : Act → Prop, (∀ a', wpAnyH P md ops Q S fuel (listed.setIfInBounds i true) a' w → K a') → ∃ v, (∀ w, (execOp a.eval oi).run P w = .ok (.value v) w) ∧ K (a.put oi.dst v)) : wpAnyH P md ops Q S (fuel + 1) listed a w := by
  obtain ⟨v, hv, hk⟩ := h _ (fun _ h => h)
  exact wpAnyH_take hi hs hf hr (hQ v) (.inl ⟨hg, fun w _ => hv w⟩) hS hk
/-- A call: whatever its contract says of the result. -/
theorem ha_call (hr : Region.ready md ops listed = [i]) (ho : ops[i]? = some oi) (hg : Region.wanted oi (yielded ops a.tmps) = true)
    (h : ∀ K : FuncId → Array Value → Prop, (∀ f args, (∃ F, Calls P f args w F ∧ ∀ e w', F e w' → ∃ v, e = .returned v ∧ S w' ∧ wpAnyH P md ops Q S fuel (listed.setIfInBounds i true) (a.put oi.dst v) w') → K f args) → ∃ f args, (∀ w, (execOp a.eval oi).run P w = .ok (.enter f args) w) ∧ K f args) :
    wpAnyH P md ops Q S (fuel + 1) listed a w := by
  obtain ⟨f, args, hv, F, hc, hk⟩ := h _ (fun _ _ h => h)
  refine wpAnyH_ready (rs := [i]) hr (by simp) (AllReadyH.cons ho (fun K hK => ?_) AllReadyH.nil)
  rw [if_pos hg]
  unfold Oper.wp
  rw [hv w]
  simp only [Oper.upon]
  refine hc.mono fun e w' hF => ?_
  obtain ⟨v, rfl, hSv, hw⟩ := hk e w' hF
  exact hK.out _ _ hSv (fun _ => hw)
/-- An operation that is carried out now, with what it does to the world. -/
theorem ha_do {v : Value} {w2 : World} (hr : Region.ready md ops listed = [i]) (ho : ops[i]? = some oi) (hg : Region.wanted oi (yielded ops a.tmps) = true) (hx : (execOp a.eval oi).run P w = .ok (.value v) w2) (hS : S w2)
    (h : wpAnyH P md ops Q S fuel (listed.setIfInBounds i true) (a.put oi.dst v) w2) : wpAnyH P md ops Q S (fuel + 1) listed a w := by
  refine wpAnyH_ready (rs := [i]) hr (by simp) (AllReadyH.cons ho (fun K hK => ?_) AllReadyH.nil)
  rw [if_pos hg]
  unfold Oper.wp
  rw [hx]
  exact hK.out _ _ hS (fun _ => h)
/-- One operation carried out now. -/
def StepH (P : Program) (md : Region.Mode) (ops : Array Oper) (Q : Exit → Act → World → Prop) (S : World → Prop) (fuel : Nat) (listed : Array Bool) (a : Act) (w : World) (i : Nat) : Prop :=
  wpOp P ops Q i (fun a' w' => S w' ∧ wpAnyH P md ops Q S fuel (listed.setIfInBounds i true) a' w') a w
/-- Two operations may come up. -/
theorem ha_two {j : Nat} (hr : Region.ready md ops listed = [i, j]) (hi : StepH P md ops Q S fuel listed a w i) (hj : StepH P md ops Q S fuel listed a w j) : wpAnyH P md ops Q S (fuel + 1) listed a w :=
  wpAnyH_all hr (by simp) fun k hk => by
    rcases List.mem_cons.1 hk with rfl | hk
    · exact hi
    · rcases List.mem_cons.1 hk with rfl | hk
      · exact hj
      · cases hk
theorem sh_val {v : Value} (ho : ops[i]? = some oi) (hg : Region.wanted oi (yielded ops a.tmps) = true) (hv : (execOp a.eval oi).run P w = .ok (.value v) w) (hS : S w) (h : wpAnyH P md ops Q S fuel (listed.setIfInBounds i true) (a.put oi.dst v) w) : StepH P md ops Q S fuel listed a w i := by
  unfold StepH wpOp
  simp only [ho]
  rw [if_pos hg]
  refine .inl ?_
  unfold Oper.wp
  rw [hv]
  exact ⟨hS, h⟩
theorem sh_call (ho : ops[i]? = some oi) (hg : Region.wanted oi (yielded ops a.tmps) = true)
    (h : ∀ K : FuncId → Array Value → Prop, (∀ f args, (∃ F, Calls P f args w F ∧ ∀ e w', F e w' → ∃ v, e = .returned v ∧ S w' ∧ wpAnyH P md ops Q S fuel (listed.setIfInBounds i true) (a.put oi.dst v) w') → K f args) → ∃ f args, (∀ w, (execOp a.eval oi).run P w = .ok (.enter f args) w) ∧ K f args) :
    StepH P md ops Q S fuel listed a w i := by
  obtain ⟨f, args, hv, F, hc, hk⟩ := h _ (fun _ _ h => h)
  unfold StepH wpOp
  simp only [ho]
  rw [if_pos hg]
  refine .inl ?_
  unfold Oper.wp
  rw [hv w]
  simp only [Oper.upon]
  refine hc.mono fun e w' hF => ?_
  obtain ⟨v, rfl, hSv, hw⟩ := hk e w' hF
  exact ⟨hSv, hw⟩
end
end Go.Proofs.YtokmaehefenpmaaGreatDoor.Nm
namespace Go.Proofs.YtokmaehefenpmaaGreatDoor.Nm
open Go.RowKit
section
variable {P : Program} {ops : Array Oper} {Q : Exit → Act → World → Prop} {md : Region.Mode} {D : List Nat} {W : World} {i : Nat} {oi : Oper} {fuel : Nat} {listed : Array Bool} {a : Act} {w : World} {z : Array Value} {ty : TypeId}
end
end Go.Proofs.YtokmaehefenpmaaGreatDoor.Nm
namespace Go.Proofs.YtokmaehefenpmaaGreatDoor.Nm
open Go.RowKit
section
variable {P : Program} {ops : Array Oper} {Q : Exit → Act → World → Prop} {md : Region.Mode} {S : World → Prop} {i : Nat} {fuel : Nat} {listed : Array Bool} {a : Act} {w : World}
end
end Go.Proofs.YtokmaehefenpmaaGreatDoor.Nm

namespace Go.Proofs.YtokmaehefenpmaaGreatDoor
open Go.RowKit Go.Proofs.YtokmaehefenpmaaGreatDoor.Nm
theorem wl_w {P : Program} {ops : Array Oper} {rest : List Oper} {o : Oper} {a : Act} {w w2 : World} {Q : Exit → Act → World → Prop} {v : Value} (hg : o.guard = none) (hx : (execOp a.eval o).run P w = .ok (.value v) w2)
    (h : wpList P ops Q rest (a.put o.dst v) w2) : wpList P ops Q (o :: rest) a w := by
  refine wpList_plain hg fun K hK => ?_
  unfold Oper.wp; rw [hx]; exact hK _ _ h
theorem run_storeC (b o : Nat) (ty : TypeId) (v : Value) (w : World) (hi : (Tryz.prog.info? ty).map (·.size) = some 1) (h1 : v.oneCell' = true) (hc : (w.cell? ⟨b, o, none⟩).isSome = true) (hf : w.frozen? ⟨b, o, none⟩ = false) :
    (storeVar ty ⟨b, o, none⟩ v).run Tryz.prog w = .ok () (w.setCell ⟨b, o, none⟩ v) := by
  have hst := run_storeCells_cells (P := Tryz.prog) b o [v] 0 w (by intro j hj; simp at hj; subst hj; simpa using hc) (by intro j hj; simp at hj; subst hj; simpa using hf) (by intro u hu; simp at hu; subst hu; exact h1)
  have hcl : v.cells = #[v] := by cases v <;> first | rfl | cases h1
  cases hq : Tryz.prog.info? ty with
  | none => simp [hq] at hi
  | some i =>
    have hs : i.size = 1 := by simpa [hq] using hi
    simp [storeVar, sizeOf, typeInfo, hq, hcl, hs]
    exact (by simpa using hst : _ = Result.ok () (w.setCells b o [v]))
theorem wp_storeC {op : Oper} {a : Act} {w : World} {K : Act → World → Prop} {Q : Exit → Act → World → Prop} (ty : TypeId) (x y : Operand) (ho : op.op = .store ty x y) (b o : Nat) (v : Value)
    (hx : a.eval x = .pointer (some ⟨b, o, none⟩)) (hy : a.eval y = v) (hi : (Tryz.prog.info? ty).map (·.size) = some 1) (h1 : v.oneCell' = true) (hc : (w.cell? ⟨b, o, none⟩).isSome = true) (hf : w.frozen? ⟨b, o, none⟩ = false)
    (h : K (a.put op.dst undef) (w.setCell ⟨b, o, none⟩ v)) : op.wp Tryz.prog a w K Q := by
  unfold Oper.wp execOp
  simp only [ho, hx, hy, Instr.storeAt, Instr.sureAddr, Sem.run_bind, Sem.run_pure, Result.andThen_ok, run_storeC b o ty v w hi h1 hc hf]
  exact h
theorem wl_storeC {ops : Array Oper} {rest : List Oper} {op : Oper} {a : Act} {w : World} {Q : Exit → Act → World → Prop} (hg : op.guard = none) (ty : TypeId) (x y : Operand) (ho : op.op = .store ty x y) (b o : Nat) (v : Value)
    (hx : a.eval x = .pointer (some ⟨b, o, none⟩)) (hy : a.eval y = v) (hi : (Tryz.prog.info? ty).map (·.size) = some 1) (h1 : v.oneCell' = true) (hc : (w.cell? ⟨b, o, none⟩).isSome = true) (hf : w.frozen? ⟨b, o, none⟩ = false)
    (h : wpList Tryz.prog ops Q rest (a.put op.dst undef) (w.setCell ⟨b, o, none⟩ v)) : wpList Tryz.prog ops Q (op :: rest) a w :=
  wpList_plain hg fun _ hK => wp_storeC ty x y ho b o v hx hy hi h1 hc hf (hK _ _ h)
section
variable {md : Region.Mode} {ops : Array Oper} {Q : Exit → Act → World → Prop} {S : World → Prop} {fuel : Nat} {listed : Array Bool} {a : Act} {w : World} {i : Nat} {oi : Oper}
theorem ha_storeC (hr : Region.ready md ops listed = [i]) (ho : ops[i]? = some oi) (hg : Region.wanted oi (yielded ops a.tmps) = true) (ty : TypeId) (x y : Operand) (hop : oi.op = .store ty x y) (b o : Nat) (v : Value)
    (hx : a.eval x = .pointer (some ⟨b, o, none⟩)) (hy : a.eval y = v) (hi : (Tryz.prog.info? ty).map (·.size) = some 1) (h1 : v.oneCell' = true) (hc : (w.cell? ⟨b, o, none⟩).isSome = true) (hf : w.frozen? ⟨b, o, none⟩ = false) (hS : S (w.setCell ⟨b, o, none⟩ v))
    (h : S (w.setCell ⟨b, o, none⟩ v) → wpAnyH Tryz.prog md ops Q S fuel (listed.setIfInBounds i true) (a.put oi.dst undef) (w.setCell ⟨b, o, none⟩ v)) : wpAnyH Tryz.prog md ops Q S (fuel + 1) listed a w := by
  refine wpAnyH_ready (rs := [i]) hr (by simp) (AllReadyH.cons ho (fun K hK => ?_) AllReadyH.nil)
  rw [if_pos hg]
  exact wp_storeC ty x y hop b o v hx hy hi h1 hc hf (hK.out _ _ hS h)
end
theorem put_noneA (a : Act) (v : Value) : a.put none v = a := rfl
end Go.Proofs.YtokmaehefenpmaaGreatDoor
namespace Go.Proofs.YtokmaehefenpmaaGreatDoor
open Go.ChangeShapes Go.WideShapes Go.ChangeAt Go.RowKit
structure TyNums (P : Program) (T L S I : TypeId) : Prop where
  uT : P.underlying T = some (.struct (P.fieldsOf T))
  fl : (P.fieldsOf T).toList.map (fun f => (f.type, f.offset)) = [(I, 0), (S, 1), (I, 2), (L, 3)]
  uL : P.underlying L = some (.slice T)
  uS : P.underlying S = some .string
  uI : P.underlying I = some (.int .i64)
  cT : P.cellsOf T = 4
  cL : P.cellsOf L = 1
  cS : P.cellsOf S = 1
  cI : P.cellsOf I = 1
inductive Ty where
  | node (kind : Int) (name : ByteArray) (n : Int) (args : List Ty) : Ty
def cell4 (k : Int) (s : ByteArray) (n : Int) (A : Option Addr) (l c : Nat) : Array Value := #[.int .i64 k, .string s, .int .i64 n, .slice A l c]
def Four (w : World) (D : Nat → Prop) (A : Option Addr) (i : Nat) (row : Array Value) : Prop :=
  ∃ (b off : Nat) (Cs : Array Value) (t : TypeId) (fr : Nat × Nat), A = some ⟨b, off, none⟩ ∧ D b ∧ w.heap[b]? = some (.cells Cs t fr) ∧ Cs.extract (off + i * 4) (off + i * 4 + 4) = row
inductive TyAt (w : World) (D : Nat → Prop) : Ty → Array Value → Prop where
  | mk {k : Int} {s : ByteArray} {n : Int} {A : Option Addr} {len cap : Nat} {args : List Ty} (rows : Nat → Array Value)
      (hk : (Lit.int .i64 k).wf = true) (hn : (Lit.int .i64 n).wf = true) (hs : s.size ≤ maxLen) (hl : args.length = len) (hc : len ≤ cap) (hm : cap ≤ maxLen)
      (hf : ∀ i t, args[i]? = some t → Four w D A i (rows i)) (ht : ∀ i t, args[i]? = some t → TyAt w D t (rows i)) : TyAt w D (.node k s n args) (cell4 k s n A len cap)
theorem Four.mono {w w' : World} {D D' : Nat → Prop} {A : Option Addr} {i : Nat} {row : Array Value} (h : Four w D A i row) (hD : ∀ b, D b → D' b) (hw : ∀ b, D b → w'.heap[b]? = w.heap[b]?) : Four w' D' A i row := by
  obtain ⟨b, off, Cs, t, fr, h1, h2, h3, h4⟩ := h
  exact ⟨b, off, Cs, t, fr, h1, hD b h2, by rw [hw b h2, h3], h4⟩
theorem TyAt.mono {w w' : World} {D D' : Nat → Prop} {t : Ty} {row : Array Value} (h : TyAt w D t row) (hD : ∀ b, D b → D' b) (hw : ∀ b, D b → w'.heap[b]? = w.heap[b]?) : TyAt w' D' t row := by
  induction h with
  | mk rows hk hn hs hl hc hm hf _ ih => exact .mk rows hk hn hs hl hc hm (fun i t hi => (hf i t hi).mono hD hw) ih
theorem TyAt.size {w : World} {D : Nat → Prop} {t : Ty} {row : Array Value} (h : TyAt w D t row) : row.size = 4 := by
  cases h; rfl
theorem four_fields {fs : Array Field} {a b c d : Nat × Nat} (h : fs.toList.map (fun f => (f.type, f.offset)) = [a, b, c, d]) : ∃ f0 f1 f2 f3, fs = #[f0, f1, f2, f3] ∧ (f0.type, f0.offset) = a ∧ (f1.type, f1.offset) = b ∧ (f2.type, f2.offset) = c ∧ (f3.type, f3.offset) = d := by
  obtain ⟨l⟩ := fs
  match l, h with
  | [f0, f1, f2, f3], h => simp at h; exact ⟨f0, f1, f2, f3, rfl, by simp [h.1], by simp [h.2.1], by simp [h.2.2.1], by simp [h.2.2.2]⟩
theorem four_row {w : World} {a : Addr} {i : Nat} {cs : List Value} (hl : cs.length = 4) (h : ∀ j, j < 4 → w.cell? (a.add (i * 4 + j)) = cs[j]?) (hs : a.spot = none) :
    ∃ Cs t fr, w.heap[a.block]? = some (.cells Cs t fr) ∧ Cs.extract (a.off + i * 4) (a.off + i * 4 + 4) = cs.toArray := by
  have e : ∀ n, a.add n = ⟨a.block, a.off + n, none⟩ := fun n => by
    obtain ⟨b, o, s⟩ := a
    unfold Addr.add
    split
    · rename_i h; subst h; simp at hs; simp [hs]
    · rfl
  have h0 := h 0 (by omega)
  rw [e] at h0
  unfold World.cell? at h0
  simp only [] at h0
  cases hc : w.heap[a.block]? with
  | none => rw [hc, List.getElem?_eq_getElem (show 0 < cs.length by omega)] at h0; cases h0
  | some o =>
    cases o with
    | cells Cs t fr =>
      refine ⟨Cs, t, fr, rfl, ?_⟩
      have hj : ∀ j, j < 4 → Cs[a.off + i * 4 + j]? = cs[j]? := fun j hj => by
        have := h j hj
        rw [e] at this
        unfold World.cell? at this
        rw [hc] at this
        simpa [Nat.add_assoc] using this
      apply Array.ext_getElem?
      intro j
      have h3 := hj 3 (by omega)
      rw [List.getElem?_eq_getElem (show 3 < cs.length by omega)] at h3
      have hz := (Array.getElem?_eq_some_iff.1 h3).1
      by_cases hlt : j < 4
      · rw [Array.getElem?_extract, if_pos (by omega), hj j hlt]; simp
      · rw [Array.getElem?_eq_none (by simp; omega), Array.getElem?_eq_none (by simp; omega)]
    | _ => rw [hc, List.getElem?_eq_getElem (show 0 < cs.length by omega)] at h0; cases h0
theorem choose_list {α : Type} {Q : Nat → α → Prop} : ∀ (n : Nat), (∀ i, i < n → ∃ x, Q i x) → ∃ l : List α, l.length = n ∧ ∀ (i : Nat) (x : α), l[i]? = some x → Q i x
  | 0, _ => ⟨[], rfl, fun i x h => by simp at h⟩
  | n + 1, h => by
    obtain ⟨l, h1, h2⟩ := choose_list n (fun i hi => h i (by omega))
    obtain ⟨x, hx⟩ := h n (by omega)
    refine ⟨l ++ [x], by simp [h1], fun i y hy => ?_⟩
    by_cases e : i < n
    · rw [List.getElem?_append_left (by omega)] at hy; exact h2 i y hy
    · rw [List.getElem?_append_right (by omega)] at hy
      have hm := List.mem_of_getElem? hy
      simp at hm; subst hm
      have hl := (List.getElem?_eq_some_iff.1 hy).1
      simp at hl
      obtain rfl : i = n := by omega
      exact hx
section
variable {P : Program} {T L S I : TypeId} {H : Type} {enc : TypeId × Value → H} {w : World} {base : Nat} {sp : Nat → Bool} {held : Bool}
/-- The slice of a tree's arguments, once its elements are known to be trees. -/
theorem open_args (hN : TyNums P T L S I) {fuel : Nat} {cs : List Value} {x : DataW H × List MemPlace} (h : DataW.trod enc P w base sp held fuel L cs = some x)
    (sub : ∀ (m : Nat), m < fuel → ∀ cs x, DataW.trod enc P w base sp held m T cs = some x → ∃ t, TyAt w (fun b => base ≤ b) t cs.toArray) :
    ∃ (A : Option Addr) (len cap : Nat) (args : List Ty) (rows : Nat → Array Value), cs = [.slice A len cap] ∧ args.length = len ∧ len ≤ cap ∧ cap ≤ maxLen ∧ (∀ i t, args[i]? = some t → Four w (fun b => base ≤ b) A i (rows i)) ∧
      ∀ i t, args[i]? = some t → TyAt w (fun b => base ≤ b) t (rows i) := by
  rcases DataW.trod_slice hN.uL h with ⟨rfl, _⟩ | ⟨a, len, cap, elems, rest, k, hk, rfl, _, hb, hl, hm, hle, hall, _, _⟩
  · exact ⟨none, 0, 0, [], fun _ => #[], rfl, rfl, Nat.le_refl _, Nat.zero_le _, fun i t hi => by simp at hi, fun i t hi => by simp at hi⟩
  · have each : ∀ i, i < len → ∃ q : Ty × Array Value, Four w (fun b => base ≤ b) (some a) i q.2 ∧ TyAt w (fun b => base ≤ b) q.1 q.2 := fun i hi => by
      have hi2 := hall i hi
      rw [List.getElem?_eq_getElem (by omega), Option.bind_eq_some_iff] at hi2
      obtain ⟨cs', h1, h2⟩ := hi2
      rw [hN.cT] at h1
      obtain ⟨_, hlen, hcell⟩ := World.cells?_some h1
      obtain ⟨t, ht⟩ := sub k (by omega) _ _ h2
      have hs : a.spot = none := by
        have k0 := hall 0 (by omega)
        rw [List.getElem?_eq_getElem (by omega), Option.bind_eq_some_iff] at k0
        obtain ⟨cs0, k1, _⟩ := k0
        rw [hN.cT] at k1
        obtain ⟨_, hlen0, hcell0⟩ := World.cells?_some k1
        have z0 := hcell0 0 (by omega)
        rw [List.getElem?_eq_getElem (show 0 < cs0.length by omega)] at z0
        unfold World.cell? at z0
        simp [Addr.add] at z0
        split at z0
        · split at z0
          · cases z0
          · rename_i h; simpa using h
        · cases z0
      obtain ⟨Cs, t', fr, q1, q2⟩ := four_row (w := w) (a := a) (i := i) hlen (fun j hj => by rw [← hcell j (by omega), Addr.add_add]) hs
      refine ⟨(t, cs'.toArray), ⟨a.block, a.off, Cs, t', fr, ?_, hb, q1, q2⟩, ht⟩
      obtain ⟨b, off, s⟩ := a
      simp at hs; simp [hs]
    obtain ⟨l, hln, hall2⟩ := choose_list len each
    refine ⟨some a, len, cap, l.map (·.1), fun i => ((l[i]?).map (·.2)).getD #[], rfl, by simp [hln], hl, hm, fun i t hi => ?_, fun i t hi => ?_⟩
    · simp at hi
      obtain ⟨q, hq⟩ := hi
      simp only [hq, Option.map_some, Option.getD_some]; exact (hall2 i _ hq).1
    · simp at hi
      obtain ⟨q, hq⟩ := hi
      simp only [hq, Option.map_some, Option.getD_some]; exact (hall2 i _ hq).2
/-- A tree taken out of the cells that an input's row has. -/
theorem open_tree (hN : TyNums P T L S I) : ∀ (fuel : Nat) (cs : List Value) (x : DataW H × List MemPlace), DataW.trod enc P w base sp held fuel T cs = some x → ∃ t, TyAt w (fun b => base ≤ b) t cs.toArray := by
  intro fuel
  induction fuel using Nat.strongRecOn with
  | _ fuel ih =>
    intro cs x h
    obtain ⟨f0, f1, f2, f3, hfs, e0, e1, e2, e3⟩ := four_fields hN.fl
    simp only [Prod.mk.injEq] at e0 e1 e2 e3
    have hu := hN.uT
    rw [hfs] at hu
    obtain ⟨xs, k, rfl, _, hxl, hxs, hf⟩ := DataW.trod_struct hu h
    rw [hN.cT] at hxl
    match cs, hxl with
    | [v0, v1, v2, v3], _ =>
      match xs, hxs with
      | [y0, y1, y2, y3], _ =>
        have g0 := hf 0 f0 rfl
        have g1 := hf 1 f1 rfl
        have g2 := hf 2 f2 rfl
        have g3 := hf 3 f3 rfl
        simp [e0, e1, e2, e3, hN.cI, hN.cS, hN.cL] at g0 g1 g2 g3
        obtain ⟨n0, q0, _, w0⟩ := DataW.trod_int hN.uI g0
        obtain ⟨s1, q1, _, w1⟩ := DataW.trod_string hN.uS g1
        obtain ⟨n2, q2, _, w2⟩ := DataW.trod_int hN.uI g2
        obtain ⟨A, len, cap, args, rows, q3, hl, hc, hm, hfo, hta⟩ := open_args hN g3 (fun m hm => ih m (by omega))
        simp at q0 q1 q2 q3
        subst q0 q1 q2 q3
        exact ⟨.node n0 s1 n2 args, TyAt.mk rows w0 w2 w1 hl hc hm hfo hta⟩
end
end Go.Proofs.YtokmaehefenpmaaGreatDoor
namespace Go.Proofs.YtokmaehefenpmaaGreatDoor
def Ty.kind : Ty → Int | .node k _ _ _ => k
def Ty.name : Ty → ByteArray | .node _ s _ _ => s
def Ty.num : Ty → Int | .node _ _ n _ => n
def Ty.args : Ty → List Ty | .node _ _ _ l => l
theorem Ty.ind {Q : Ty → Prop} (h : ∀ k s n l, (∀ t, t ∈ l → Q t) → Q (.node k s n l)) : ∀ t, Q t := fun t => by
  induction t using Ty.rec (motive_2 := fun l => ∀ t, t ∈ l → Q t) with
  | node k s n l ih => exact h k s n l ih
  | nil => rename_i ht; cases ht
  | cons a l ha hl =>
    rename_i t ht
    rcases List.mem_cons.1 ht with rfl | ht
    · exact ha
    · exact hl t ht
mutual
/-- A tree in which each node for which f has a tree is replaced by it, from above. -/
def repl (f : Ty → Option Ty) : Ty → Ty
  | .node k s n l => match f (.node k s n l) with | some u => u | none => .node k s n (repls f l)
def repls (f : Ty → Option Ty) : List Ty → List Ty
  | [] => []
  | t :: l => repl f t :: repls f l
end
mutual
def Ty.nodes : Ty → Nat
  | .node _ _ _ l => 1 + nodesL l
def nodesL : List Ty → Nat
  | [] => 0
  | t :: l => Ty.nodes t + nodesL l
end
mutual
/-- The names of the parameters, in the order of the nodes, as often as they stand there. -/
def Ty.pars : Ty → List ByteArray
  | .node k s _ l => (if k = 7 then [s] else []) ++ parsL l
def parsL : List Ty → List ByteArray
  | [] => []
  | t :: l => Ty.pars t ++ parsL l
end
/-- The first place of a name in a list. -/
def idx (names : List ByteArray) (s : ByteArray) : Option Nat := names.findIdx? fun x => decide (x = s)
end Go.Proofs.YtokmaehefenpmaaGreatDoor
namespace Go.Proofs.YtokmaehefenpmaaGreatDoor
def ltB (x y : ByteArray) : Bool := Op.bytesLess x.toList y.toList
theorem bytesLess_lt : ∀ (x y : List UInt8), Op.bytesLess x y = decide (x < y)
  | [], [] => by simp [Op.bytesLess]
  | _ :: _, [] => by simp [Op.bytesLess]
  | [], _ :: _ => by simp [Op.bytesLess]
  | a :: x, b :: y => by
    rw [Op.bytesLess, bytesLess_lt x y]
    simp only [List.cons_lt_cons_iff]
    by_cases h1 : a < b <;> by_cases h2 : a = b <;> by_cases h3 : x < y <;> simp [h1, h2, h3]
theorem ltB_iff (x y : ByteArray) : ltB x y = true ↔ x.data.toList < y.data.toList := by
  unfold ltB
  rw [bytesLess_lt, ByteArray.toList_eq, ByteArray.toList_eq]
  simp
def cB (x y : ByteArray) : Ordering := if x.data.toList < y.data.toList then .lt else if y.data.toList < x.data.toList then .gt else .eq
def cI (a b : Int) : Ordering := if a < b then .lt else if b < a then .gt else .eq
mutual
def cmpTy : Ty → Ty → Ordering
  | .node k s n l, .node k' s' n' l' => (cI k k').then ((cB s s').then ((cI n n').then (cmpTys l l')))
def cmpTys : List Ty → List Ty → Ordering
  | [], [] => .eq
  | [], _ :: _ => .lt
  | _ :: _, [] => .gt
  | a :: l, b :: m => (cmpTy a b).then (cmpTys l m)
end
theorem then_eq {a b : Ordering} : a.then b = .eq ↔ a = .eq ∧ b = .eq := by cases a <;> simp [Ordering.then]
/-- What makes a comparison of x an order. -/
structure Fine {α : Type} (c : α → α → Ordering) (x : α) : Prop where
  sw : ∀ y, c y x = (c x y).swap
  eq : ∀ y, c x y = .eq ↔ x = y
  tr : ∀ y z, c x y = .lt → c y z = .lt → c x z = .lt
theorem cI_fine (x : Int) : Fine cI x where
  sw y := by unfold cI; split <;> split <;> simp_all [Ordering.swap] <;> omega
  eq y := by
    unfold cI
    constructor
    · intro h
      split at h
      · cases h
      · split at h
        · cases h
        · omega
    · rintro rfl
      simp
  tr y z h1 h2 := by
    unfold cI at *
    split at h1
    · split at h2
      · rw [if_pos (by omega)]
      · split at h2 <;> cases h2
    · split at h1 <;> cases h1
theorem cB_fine (x : ByteArray) : Fine cB x where
  sw y := by
    unfold cB
    by_cases h1 : x.data.toList < y.data.toList
    · rw [if_pos h1, if_neg (fun h => List.lt_irrefl _ (List.lt_trans h h1)), if_pos h1]; rfl
    · by_cases h2 : y.data.toList < x.data.toList
      · rw [if_pos h2, if_neg h1, if_pos h2]; rfl
      · rw [if_neg h2, if_neg h1, if_neg h1, if_neg h2]; rfl
  eq y := by
    unfold cB
    constructor
    · intro h
      split at h
      · cases h
      · rename_i h1
        split at h
        · cases h
        · rename_i h2
          have := List.le_antisymm (List.not_lt.1 h2) (List.not_lt.1 h1)
          cases x with | mk dx => cases y with | mk dy => exact congrArg _ (Array.toList_inj.1 this)
    · rintro rfl
      simp [List.lt_irrefl]
  tr y z h1 h2 := by
    unfold cB at *
    split at h1
    · rename_i g1
      split at h2
      · rename_i g2
        rw [if_pos (List.lt_trans g1 g2)]
      · split at h2 <;> cases h2
    · split at h1 <;> cases h1
theorem cmpTys_eq : ∀ (l : List Ty), (∀ t, t ∈ l → ∀ u, cmpTy t u = .eq ↔ t = u) → ∀ m, cmpTys l m = .eq ↔ l = m
  | [], _, m => by cases m <;> simp [cmpTys]
  | a :: l, h, m => by
    cases m with
    | nil => simp [cmpTys]
    | cons b m => simp only [cmpTys, then_eq, h a (by simp) b, cmpTys_eq l (fun t ht => h t (by simp [ht])) m, List.cons.injEq]
theorem cmpTy_eq : ∀ t u, cmpTy t u = .eq ↔ t = u := Ty.ind fun k s n l ih u => by
  cases u with
  | node k' s' n' l' => simp only [cmpTy, then_eq, (cI_fine k).eq, (cB_fine s).eq, (cI_fine n).eq, cmpTys_eq l ih, Ty.node.injEq]
end Go.Proofs.YtokmaehefenpmaaGreatDoor
namespace Go.Proofs.YtokmaehefenpmaaGreatDoor
instance : DecidableEq Ty := fun a b => decidable_of_iff _ (cmpTy_eq a b)
/-- The place of a node's name, if the node is a parameter that has one. -/
def place (names : List ByteArray) (k : Int) (s : ByteArray) : Option Nat := if k = 7 then idx names s else none
mutual
/-- What is known behind a pattern's node; none: it does not match. -/
def matchTy (names : List ByteArray) : Ty → Ty → List (Option Ty) → Option (List (Option Ty))
  | .node k s n l, t, out =>
    match place names k s with
    | some i => match out[i]? with
      | some (some u) => if u = t then some out else none
      | _ => some (out.set i (some t))
    | none => if k = t.kind ∧ s = t.name ∧ n = t.num ∧ l.length = t.args.length then matchTys names l t.args out else none
def matchTys (names : List ByteArray) : List Ty → List Ty → List (Option Ty) → Option (List (Option Ty))
  | [], _, out => some out
  | _ :: _, [], _ => none
  | a :: l, b :: m, out => match matchTy names a b out with | some o => matchTys names l m o | none => none
end
mutual
/-- Whether a pattern has a parameter whose place is j, not within another one that has a place. -/
def hasAt (names : List ByteArray) (j : Nat) : Ty → Bool
  | .node k s _ l => match place names k s with | some i => i == j | none => hasAts names j l
def hasAts (names : List ByteArray) (j : Nat) : List Ty → Bool
  | [] => false
  | t :: l => hasAt names j t || hasAts names j l
end
end Go.Proofs.YtokmaehefenpmaaGreatDoor
namespace Go.Proofs.YtokmaehefenpmaaGreatDoor
/-- The loop of TypeNodes over what is left of the arguments, n nodes being counted. -/
def tnLoop (most : Nat) : Nat → List Ty → Nat
  | n, [] => n
  | n, t :: l => if n ≤ most then tnLoop most (n + min t.nodes (most + 1)) l else n
theorem tnLoop_min (most : Nat) : ∀ (l : List Ty) (n : Nat), min (tnLoop most n l) (most + 1) = min (n + nodesL l) (most + 1)
  | [], n => by simp [tnLoop, nodesL]
  | t :: l, n => by
    simp only [tnLoop, nodesL]
    split
    · rw [tnLoop_min most l]; omega
    · omega
/-- What TypeNodes returns: by the values that its calls for the arguments return. -/
theorem typeNodes (most : Nat) (k : Int) (s : ByteArray) (n : Int) (l : List Ty) : min (tnLoop most 1 l) (most + 1) = min (Ty.node k s n l).nodes (most + 1) := by
  rw [tnLoop_min]; simp only [Ty.nodes]
mutual
def Ty.all (f : Ty → Bool) : Ty → Bool
  | .node k s n l => f (.node k s n l) && alls f l
def alls (f : Ty → Bool) : List Ty → Bool
  | [] => true
  | t :: l => t.all f && alls f l
end
mutual
/-- 'each' with the function of 'right': one is taken off the counter at each node. -/
def chk (f : Ty → Bool) : Ty → Int → Bool × Int
  | .node k s n l, left => if 0 ≤ left - 1 ∧ f (.node k s n l) = true then chks f l (left - 1) else (false, left - 1)
def chks (f : Ty → Bool) : List Ty → Int → Bool × Int
  | [], left => (true, left)
  | t :: l, left => match chk f t left with | (true, x) => chks f l x | (false, x) => (false, x)
end
def ChkOk (f : Ty → Bool) (t : Ty) : Prop := ∀ left : Int, 0 ≤ left → (((chk f t left).1 = true ↔ (t.nodes : Int) ≤ left ∧ t.all f = true) ∧ ((chk f t left).1 = true → (chk f t left).2 = left - t.nodes))
theorem chks_ok (f : Ty → Bool) : ∀ l : List Ty, (∀ t, t ∈ l → ChkOk f t) → ∀ left : Int, 0 ≤ left → (((chks f l left).1 = true ↔ (nodesL l : Int) ≤ left ∧ alls f l = true) ∧ ((chks f l left).1 = true → (chks f l left).2 = left - nodesL l))
  | [], _, left, h => by simp [chks, nodesL, alls, h]
  | t :: l, ih, left, h => by
    obtain ⟨h1, h2⟩ := ih t (by simp) left h
    simp only [chks, nodesL, alls, Bool.and_eq_true]
    cases hc : chk f t left with
    | mk b x =>
      rw [hc] at h1 h2
      cases b with
      | false =>
        simp only [Bool.false_eq_true, false_iff, false_implies, and_true] at h1 ⊢
        intro hh
        exact h1 ⟨by omega, hh.2.1⟩
      | true =>
        simp only [true_iff, true_implies] at h1 h2 ⊢
        obtain ⟨g1, g2⟩ := chks_ok f l (fun t ht => ih t (by simp [ht])) x (by omega)
        refine ⟨⟨fun hh => ?_, fun hh => g1.2 ⟨by omega, hh.2.2⟩⟩, fun hh => by rw [g2 hh]; omega⟩
        have := g1.1 hh
        exact ⟨by omega, h1.2, this.2⟩
theorem chk_ok (f : Ty → Bool) : ∀ t, ChkOk f t := Ty.ind fun k s n l ih left h => by
  simp only [chk, Ty.nodes, Ty.all, Bool.and_eq_true]
  by_cases hc : 0 ≤ left - 1 ∧ f (.node k s n l) = true
  · rw [if_pos hc]
    obtain ⟨g1, g2⟩ := chks_ok f l ih (left - 1) hc.1
    refine ⟨⟨fun hh => ?_, fun hh => g1.2 ⟨by omega, hh.2.2⟩⟩, fun hh => by rw [g2 hh]; omega⟩
    have := g1.1 hh
    exact ⟨by omega, hc.2, this.2⟩
  · rw [if_neg hc]
    refine ⟨⟨fun hh => by simp at hh, fun hh => ?_⟩, fun hh => by simp at hh⟩
    exact absurd ⟨by omega, hh.2.1⟩ hc
/-- 'right' is the chapter's Valid or Open: at most so many nodes, and each as the table says. -/
theorem right_law (f : Ty → Bool) (t : Ty) (most : Nat) : (chk f t most).1 = true ↔ t.nodes ≤ most ∧ t.all f = true := by
  rw [(chk_ok f t most (by omega)).1, Int.ofNat_le]
end Go.Proofs.YtokmaehefenpmaaGreatDoor
namespace Go.Proofs.YtokmaehefenpmaaGreatDoor
section
variable {α : Type} {R : α → α → Prop}
theorem rising_same (irr : ∀ x, ¬ R x x) (tr : ∀ x y z, R x y → R y z → R x z) : ∀ {l m : List α}, l.Pairwise R → m.Pairwise R → (∀ x, x ∈ l ↔ x ∈ m) → l = m
  | [], [], _, _, _ => rfl
  | [], b :: m, _, _, h => absurd ((h b).2 (by simp)) (by simp)
  | a :: l, [], _, _, h => absurd ((h a).1 (by simp)) (by simp)
  | a :: l, b :: m, hl, hm, h => by
    rw [List.pairwise_cons] at hl hm
    have hab : a = b := by
      rcases List.mem_cons.1 ((h a).1 (by simp)) with e | e
      · exact e
      · rcases List.mem_cons.1 ((h b).2 (by simp)) with e2 | e2
        · exact e2.symm
        · exact absurd (tr _ _ _ (hl.1 b e2) (hm.1 a e)) (irr a)
    subst hab
    rw [rising_same irr tr hl.2 hm.2 fun x => ?_]
    constructor
    · intro hx
      rcases List.mem_cons.1 ((h x).1 (by simp [hx])) with e | e
      · subst e; exact absurd (hl.1 x hx) (irr x)
      · exact e
    · intro hx
      rcases List.mem_cons.1 ((h x).2 (by simp [hx])) with e | e
      · subst e; exact absurd (hm.1 x hx) (irr x)
      · exact e
end
end Go.Proofs.YtokmaehefenpmaaGreatDoor
namespace Go.Proofs.YtokmaehefenpmaaGreatDoor
open Go.RowKit Go.Proofs.YtokmaehefenpmaaGreatDoor.Nm
set_option linter.unusedSimpArgs false
theorem u24 : Tryz.prog.underlying 24 = some (.struct (Tryz.prog.fieldsOf 24)) := by kernel_rfl
theorem u22 : Tryz.prog.underlying 22 = some (.slice 24) := by kernel_rfl
theorem u9 : Tryz.prog.underlying 9 = some .string := by kernel_rfl
theorem u25 : Tryz.prog.underlying 29 = some (.slice 9) := by kernel_rfl
theorem tyNums : TyNums Tryz.prog 24 22 9 3 := ⟨u24, by kernel_rfl, u22, u9, u3, by kernel_rfl, by kernel_rfl, by kernel_rfl, by kernel_rfl⟩
theorem info24 : (Tryz.prog.info? 24).map (·.size) = some 4 := by kernel_rfl
theorem info3 : (Tryz.prog.info? 3).map (·.size) = some 1 := by kernel_rfl
theorem cell4_one (k : Int) (s : ByteArray) (n : Int) (A : Option Addr) (l c : Nat) : (cell4 k s n A l c).all (·.oneCell') = true := by simp [cell4, Value.oneCell']
/-- A row of trees at a slice. -/
structure TysAt (w : World) (D : Nat → Prop) (ts : List Ty) (A : Option Addr) (l c : Nat) : Prop where
  len : ts.length = l
  cap : l ≤ c
  max : c ≤ maxLen
  el : ∃ rows : Nat → Array Value, (∀ i t, ts[i]? = some t → Four w D A i (rows i)) ∧ ∀ i t, ts[i]? = some t → TyAt w D t (rows i)
theorem TyAt.parts {w : World} {D : Nat → Prop} {t : Ty} {row : Array Value} (h : TyAt w D t row) : ∃ k s n A l c ts, t = .node k s n ts ∧ row = cell4 k s n A l c ∧ (Lit.int .i64 k).wf = true ∧ (Lit.int .i64 n).wf = true ∧ s.size ≤ maxLen ∧ TysAt w D ts A l c := by
  cases h with
  | mk rows hk hn hs hl hc hm hf ht => exact ⟨_, _, _, _, _, _, _, rfl, rfl, hk, hn, hs, hl, hc, hm, rows, hf, ht⟩
theorem TyAt.of {w : World} {D : Nat → Prop} {k : Int} {s : ByteArray} {n : Int} {A : Option Addr} {l c : Nat} {ts : List Ty} (hk : (Lit.int .i64 k).wf = true) (hn : (Lit.int .i64 n).wf = true) (hs : s.size ≤ maxLen) (h : TysAt w D ts A l c) : TyAt w D (.node k s n ts) (cell4 k s n A l c) := by
  obtain ⟨h1, h2, h3, rows, h4, h5⟩ := h
  exact .mk rows hk hn hs h1 h2 h3 h4 h5
theorem TysAt.nil (w : World) (D : Nat → Prop) : TysAt w D [] none 0 0 := ⟨rfl, Nat.le_refl _, Nat.zero_le _, fun _ => #[], fun i t h => by simp at h, fun i t h => by simp at h⟩
theorem Four.low {w : World} {D : Nat → Prop} {A : Option Addr} {i : Nat} {row : Array Value} (h : Four w D A i row) : Four w (fun b => D b ∧ b < w.heap.size) A i row := by
  obtain ⟨b, off, Cs, t, fr, h1, h2, h3, h4⟩ := h
  exact ⟨b, off, Cs, t, fr, h1, ⟨h2, heap_lt h3⟩, h3, h4⟩
theorem TyAt.low {w : World} {D : Nat → Prop} {t : Ty} {row : Array Value} (h : TyAt w D t row) : TyAt w (fun b => D b ∧ b < w.heap.size) t row := by
  induction h with
  | mk rows hk hn hs hl hc hm hf _ ih => exact .mk rows hk hn hs hl hc hm (fun i t hi => (hf i t hi).low) ih
theorem TyAt.old {w w' : World} {D : Nat → Prop} {t : Ty} {row : Array Value} (h : TyAt w D t row) (hb : Below w.heap.size w w') : TyAt w' D t row :=
  (h.low.mono (fun _ h => h) (fun b h => hb.block b h.2)).mono (fun _ h => h.1) (fun _ _ => rfl)
theorem TyAt.weak {w : World} {D D' : Nat → Prop} {t : Ty} {row : Array Value} (h : TyAt w D t row) (hD : ∀ b, D b → D' b) : TyAt w D' t row := h.mono hD fun _ _ => rfl
theorem TysAt.mono {w w' : World} {D D' : Nat → Prop} {ts : List Ty} {A : Option Addr} {l c : Nat} (h : TysAt w D ts A l c) (hD : ∀ b, D b → D' b) (hw : ∀ b, D b → w'.heap[b]? = w.heap[b]?) : TysAt w' D' ts A l c := by
  obtain ⟨h1, h2, h3, rows, h4, h5⟩ := h
  exact ⟨h1, h2, h3, rows, fun i t hi => (h4 i t hi).mono hD hw, fun i t hi => (h5 i t hi).mono hD hw⟩
theorem TysAt.old {w w' : World} {D : Nat → Prop} {ts : List Ty} {A : Option Addr} {l c : Nat} (h : TysAt w D ts A l c) (hb : Below w.heap.size w w') : TysAt w' D ts A l c := by
  obtain ⟨h1, h2, h3, rows, h4, h5⟩ := h
  exact ⟨h1, h2, h3, rows, fun i t hi => ((h4 i t hi).low.mono (fun _ h => h) (fun b h => hb.block b h.2)).mono (fun _ h => h.1) (fun _ _ => rfl), fun i t hi => (h5 i t hi).old hb⟩
theorem TysAt.weak {w : World} {D D' : Nat → Prop} {ts : List Ty} {A : Option Addr} {l c : Nat} (h : TysAt w D ts A l c) (hD : ∀ b, D b → D' b) : TysAt w D' ts A l c := h.mono hD fun _ _ => rfl
/-- Any places at all. -/
def Any (_ : Nat) : Prop := True
theorem TysAt.get {w : World} {D : Nat → Prop} {ts : List Ty} {A : Option Addr} {l c : Nat} (h : TysAt w D ts A l c) {i : Nat} (hi : i < l) :
    ∃ b off t row, A = some ⟨b, off, none⟩ ∧ D b ∧ ts[i]? = some t ∧ RowAt w 24 ⟨b, off + i * 4, none⟩ row ∧ TyAt w D t row := by
  obtain ⟨h1, h2, h3, rows, h4, h5⟩ := h
  have ht : ts[i]? = some ts[i] := List.getElem?_eq_getElem (by omega)
  obtain ⟨b, off, Cs, t, fr, e1, e2, e3, e4⟩ := h4 i _ ht
  exact ⟨b, off, _, rows i, e1, e2, ht, row_mid e3 e4 u24 rfl (h5 i _ ht).size info24, h5 i _ ht⟩
theorem TysAt.addr {w : World} {D : Nat → Prop} {ts : List Ty} {A : Option Addr} {l c : Nat} (h : TysAt w D ts A l c) {i : Nat} (hi : i < l) : ∃ b off, A = some ⟨b, off, none⟩ := by
  obtain ⟨b, off, _, _, e, _⟩ := h.get hi
  exact ⟨b, off, e⟩
theorem TysAt.row {w : World} {D : Nat → Prop} {ts : List Ty} {b off : Nat} {l c : Nat} (h : TysAt w D ts (some ⟨b, off, none⟩) l c) {i : Nat} {t : Ty} (hi : ts[i]? = some t) : ∃ row, RowAt w 24 ⟨b, off + i * 4, none⟩ row ∧ TyAt w D t row := by
  have hl : i < l := by rw [← h.len]; exact (List.getElem?_eq_some_iff.1 hi).1
  obtain ⟨b', off', t', row, e, _, ht, hr, ha⟩ := h.get hl
  cases e; rw [hi] at ht; cases ht
  exact ⟨row, hr, ha⟩
/-- Four cells that are loaded so whatever is made beside them. -/
@[irreducible] def RowK (w : World) (ad : Addr) (row : Array Value) : Prop := ∀ w', Below w.heap.size w w' → RowAt w' 24 ad row
theorem RowK.at {w w' : World} {ad : Addr} {row : Array Value} (h : RowK w ad row) (hb : Below w.heap.size w w') : RowAt w' 24 ad row := by unfold RowK at h; exact h w' hb
theorem RowK.now {w : World} {ad : Addr} {row : Array Value} (h : RowK w ad row) : RowAt w 24 ad row := h.at (Below.refl _ _)
theorem RowK.old {w w' : World} {ad : Addr} {row : Array Value} (h : RowK w ad row) (hb : Below w.heap.size w w') : RowK w' ad row := by
  unfold RowK at *
  exact fun x hx => h x (hb.trans (hx.mono hb.size))
theorem TysAt.rowK {w : World} {D : Nat → Prop} {ts : List Ty} {b off : Nat} {l c : Nat} (h : TysAt w D ts (some ⟨b, off, none⟩) l c) {i : Nat} {t : Ty} (hi : ts[i]? = some t) : ∃ row, RowK w ⟨b, off + i * 4, none⟩ row ∧ TyAt w D t row := by
  obtain ⟨h1, h2, h3, rows, h4, h5⟩ := h
  obtain ⟨b', off', Cs, t', fr, e1, e2, e3, e4⟩ := h4 i _ hi
  cases e1
  exact ⟨rows i, by unfold RowK; exact fun w' hb => row_mid (below_look hb e3) e4 u24 rfl (h5 i _ hi).size info24, h5 i _ hi⟩
section
variable {w : World} {p : Nat} {k : Int} {s : ByteArray} {n : Int} {A : Option Addr} {l c : Nat} {t : TypeId} {fr : Nat × Nat}
theorem f0 (h : w.heap[p]? = some (.cells (cell4 k s n A l c) t fr)) : OneAt w 3 ⟨p, 0, none⟩ (.int .i64 k) := one_of u3 rfl (by rw [cell_of_row _ _ _ _ _ _ h]; rfl)
theorem f1 (h : w.heap[p]? = some (.cells (cell4 k s n A l c) t fr)) : OneAt w 9 ⟨p, 1, none⟩ (.string s) := one_of u9 rfl (by rw [cell_of_row _ _ _ _ _ _ h]; rfl)
theorem f2 (h : w.heap[p]? = some (.cells (cell4 k s n A l c) t fr)) : OneAt w 3 ⟨p, 2, none⟩ (.int .i64 n) := one_of u3 rfl (by rw [cell_of_row _ _ _ _ _ _ h]; rfl)
theorem f3 (h : w.heap[p]? = some (.cells (cell4 k s n A l c) t fr)) : OneAt w 22 ⟨p, 3, none⟩ (.slice A l c) := one_of u22 rfl (by rw [cell_of_row _ _ _ _ _ _ h]; rfl)
theorem f4 (h : w.heap[p]? = some (.cells (cell4 k s n A l c) t fr)) : RowAt w 24 ⟨p, 0, none⟩ (cell4 k s n A l c) := row_mid (n := 4) h (by rfl) u24 rfl rfl info24
end
theorem run_box24 (k : Int) (s : ByteArray) (n : Int) (A : Option Addr) (l c : Nat) (w : World) : (Instr.box 24 (.agg (cell4 k s n A l c))).run Tryz.prog w = .ok (.pointer (some ⟨w.heap.size, 0, none⟩)) (w.alloc (.cells (cell4 k s n A l c) 24)) := by kernel_rfl
theorem ex_box24 {ev : Operand → Value} {o : Oper} {w : World} (x : Operand) (ho : o.op = .box 24 x) {k : Int} {s : ByteArray} {n : Int} {A : Option Addr} {l c : Nat} (hx : ev x = .agg (cell4 k s n A l c)) :
    (execOp ev o).run Tryz.prog w = .ok (.value (.pointer (some ⟨w.heap.size, 0, none⟩))) (w.alloc (.cells (cell4 k s n A l c) 24)) := by
  unfold execOp
  simp [ho, hx, run_box24 k s n A l c w, Result.andThen]
theorem ex_alloc24 {o : Oper} (ho : o.op = .alloc 24) (ev : Operand → Value) (w : World) : (execOp ev o).run Tryz.prog w = .ok (.value (.pointer (some ⟨w.heap.size, 0, none⟩))) (w.alloc (.cells (cell4 0 ⟨#[]⟩ 0 none 0 0) 24)) := by
  unfold execOp
  simp only [ho]
  kernel_rfl
theorem run_bs22 (k : Int) (s : ByteArray) (n : Int) (A : Option Addr) (l c : Nat) (w : World) : (Instr.buildSlice 22 1 #[(0, .agg (cell4 k s n A l c))]).run Tryz.prog w = .ok (.slice (some ⟨w.heap.size, 0, none⟩) 1 1) (w.alloc (.cells (cell4 k s n A l c) 24)) := by kernel_rfl
theorem ex_bs22 {ev : Operand → Value} {o : Oper} {w : World} (x : Operand) (ho : o.op = .buildSlice 22 1 #[(0, x)]) {k : Int} {s : ByteArray} {n : Int} {A : Option Addr} {l c : Nat} (hx : ev x = .agg (cell4 k s n A l c)) :
    (execOp ev o).run Tryz.prog w = .ok (.value (.slice (some ⟨w.heap.size, 0, none⟩) 1 1)) (w.alloc (.cells (cell4 k s n A l c) 24)) := by
  unfold execOp
  have := run_bs22 k s n A l c w
  simp [ho, hx, this, Result.andThen]
section
variable {ops : Array Oper} {rest : List Oper} {dst : Option Tmp} {ty ty' : TypeId} {x y : Operand} {pos : String} {after : Array Edge} {a : Act} {w : World} {Q : Exit → Act → World → Prop}
/-- A tree's four cells in a new variable. -/
theorem wl_box {k : Int} {s : ByteArray} {n : Int} {A : Option Addr} {l c : Nat} (hx : a.eval x = .agg (cell4 k s n A l c))
    (h : ∀ W p, Below w.heap.size w W → w.heap.size ≤ p → W.heap[p]? = some (.cells (cell4 k s n A l c) 24 (0, 0)) → wpList Tryz.prog ops Q rest (a.put dst (.pointer (some ⟨p, 0, none⟩))) W) :
    wpList Tryz.prog ops Q (⟨dst, .box 24 x, ty', pos, after, none⟩ :: rest) a w :=
  wl_w rfl (ex_box24 x rfl hx) (h _ _ ((Below.refl _ w).alloc (Nat.le_refl _) _) (Nat.le_refl _) (ha_new rfl))
theorem wl_all (h : ∀ W p, Below w.heap.size w W → w.heap.size ≤ p → W.heap[p]? = some (.cells (cell4 0 ⟨#[]⟩ 0 none 0 0) 24 (0, 0)) → wpList Tryz.prog ops Q rest (a.put dst (.pointer (some ⟨p, 0, none⟩))) W) :
    wpList Tryz.prog ops Q (⟨dst, .alloc 24, ty', pos, after, none⟩ :: rest) a w :=
  wl_w rfl (ex_alloc24 rfl _ w) (h _ _ ((Below.refl _ w).alloc (Nat.le_refl _) _) (Nat.le_refl _) (ha_new rfl))
/-- A tree's four cells over a variable. -/
theorem wl_put {k : Int} {s : ByteArray} {n : Int} {A : Option Addr} {l c : Nat} {p : Nat} {k' : Int} {s' : ByteArray} {n' : Int} {A' : Option Addr} {l' c' : Nat} (hx : a.eval x = .pointer (some ⟨p, 0, none⟩)) (hy : a.eval y = .agg (cell4 k s n A l c)) (hp : w.heap[p]? = some (.cells (cell4 k' s' n' A' l' c') 24 (0, 0)))
    (h : ∀ W, (∀ B w0, B ≤ p → Below B w0 w → Below B w0 W) → W.heap.size = w.heap.size → (∀ g, g ≠ p → W.heap[g]? = w.heap[g]?) → W.heap[p]? = some (.cells (cell4 k s n A l c) 24 (0, 0)) → wpList Tryz.prog ops Q rest (a.put none undef) W) :
    wpList Tryz.prog ops Q (⟨none, .store 24 x y, ty', pos, after, none⟩ :: rest) a w := by
  refine wpList_plain rfl fun _ hK => wp_store_row 24 x y rfl p (cell4 k s n A l c) hx hy 24 _ hp info24 rfl (cell4_one _ _ _ _ _ _) (hK _ _ ?_)
  exact h _ (fun B w0 hB hb => below_setRow hb hB _) (by simp) (fun g hg => setRow_other w p g _ hg) (hr_new hp)
end
theorem own_same {w w' : World} {b n : Nat} {e : TypeId} {size : Nat} {v : Value} {xs : List Value} (h : w.ownsRow b e size v n xs) (hs : ∀ q, q < w.heap.size → v.ownBlock = some q → w'.heap[q]? = w.heap[q]?) : w'.ownsRow b e size v n xs := by
  refine ⟨h.1, ?_⟩
  rcases h.2 with h | ⟨g, cap, cur, rfl, hB, hg, rest⟩
  · exact Or.inl h
  · exact Or.inr ⟨g, cap, cur, rfl, hB, by rw [hs g (heap_lt hg) rfl, hg], rest⟩
section
variable {ops : Array Oper} {rest : List Oper} {o : Oper} {a : Act} {w : World} {Q : Exit → Act → World → Prop}
end
section
variable {md : Region.Mode} {ops : Array Oper} {Q : Exit → Act → World → Prop} {S : World → Prop} {fuel : Nat} {listed : Array Bool} {a : Act} {w : World} {i : Nat} {oi : Oper}
end
section
variable {ops : Array Oper} {rest : List Oper} {dst : Option Tmp} {ty' : TypeId} {x : Operand} {pos : String} {after : Array Edge} {a : Act} {w : World} {Q : Exit → Act → World → Prop}
theorem wl_bs {k : Int} {s : ByteArray} {n : Int} {A : Option Addr} {l c : Nat} (hx : a.eval x = .agg (cell4 k s n A l c))
    (h : ∀ W p, Below w.heap.size w W → w.heap.size ≤ p → W.heap[p]? = some (.cells (cell4 k s n A l c) 24 (0, 0)) → wpList Tryz.prog ops Q rest (a.put dst (.slice (some ⟨p, 0, none⟩) 1 1)) W) :
    wpList Tryz.prog ops Q (⟨dst, .buildSlice 22 1 #[(0, x)], ty', pos, after, none⟩ :: rest) a w :=
  wl_w rfl (ex_bs22 x rfl hx) (h _ _ ((Below.refl _ w).alloc (Nat.le_refl _) _) (Nat.le_refl _) (ha_new rfl))
end
theorem mem_nodesL {t : Ty} : ∀ {l : List Ty}, t ∈ l → t.nodes ≤ nodesL l
  | [], h => by cases h
  | u :: l, h => by
    simp only [nodesL]
    rcases List.mem_cons.1 h with rfl | h
    · omega
    · have := mem_nodesL h; omega
/-- The kind of a tree of a row. -/
theorem TysAt.kind {w : World} {D : Nat → Prop} {ts : List Ty} {b off : Nat} {l c : Nat} (h : TysAt w D ts (some ⟨b, off, none⟩) l c) {i : Nat} {t : Ty} (hi : ts[i]? = some t) : OneAt w 3 ⟨b, off + i * 4, none⟩ (.int .i64 t.kind) := by
  obtain ⟨h1, h2, h3, rows, h4, h5⟩ := h
  obtain ⟨b', off', Cs, t', fr, e1, e2, e3, e4⟩ := h4 i _ hi
  cases e1
  obtain ⟨k, s, n, A, l', c', ts', rfl, hr, -⟩ := (h5 i _ hi).parts
  rw [hr] at e4
  refine one_of u3 rfl ?_
  rw [cell_of_row _ _ _ _ _ _ e3]
  have := congrArg (fun x : Array Value => x[0]?) e4
  rw [Array.getElem?_extract] at this
  simp [cell4] at this
  simpa [Ty.kind] using this.2
section
variable {ops : Array Oper} {rest : List Oper} {dst : Option Tmp} {ty' : TypeId} {x : Operand} {pos : String} {after : Array Edge} {a : Act} {w : World} {Q : Exit → Act → World → Prop}
end
theorem g22 {w : World} {p : Nat} {A : Option Addr} {l c : Nat} {t : TypeId} {fr : Nat × Nat} (h : w.heap[p]? = some (.cells #[.slice A l c] t fr)) : OneAt w 22 ⟨p, 0, none⟩ (.slice A l c) := one_of u22 rfl (by rw [cell_of_row _ _ _ _ _ _ h]; rfl)
theorem g25 {w : World} {p : Nat} {A : Option Addr} {l c : Nat} {t : TypeId} {fr : Nat × Nat} (h : w.heap[p]? = some (.cells #[.slice A l c] t fr)) : OneAt w 29 ⟨p, 0, none⟩ (.slice A l c) := one_of u25 rfl (by rw [cell_of_row _ _ _ _ _ _ h]; rfl)
/-- A guarded operation left out, whose slot is empty. -/
theorem put_undef (l : List Value) (df : List Deferred) (d : Nat) (h : l[d]? = some undef) : (Act.mk l.toArray df).put (some d) undef = Act.mk l.toArray df := by
  rw [put_lit]
  congr 2
  apply List.ext_getElem?
  intro i
  rw [List.getElem?_set]
  split
  · rename_i e; subst e
    split
    · exact h.symm
    · rename_i hn; rw [List.getElem?_eq_none (by omega)]
  · rfl
theorem wl_skipU {P : Program} {ops : Array Oper} {rest : List Oper} {op : Op} {d : Nat} {ty : TypeId} {pos : String} {after : Array Edge} {g : Option (Nat × Bool)} {l : List Value} {df : List Deferred} {w : World} {Q : Exit → Act → World → Prop} (hg : Region.wanted ⟨some d, op, ty, pos, after, g⟩ (yielded ops (Act.mk l.toArray df).tmps) = false) (hu : l[d]? = some undef)
    (h : wpList P ops Q rest (Act.mk l.toArray df) w) : wpList P ops Q (⟨some d, op, ty, pos, after, g⟩ :: rest) (Act.mk l.toArray df) w :=
  wl_skip hg (by rw [put_undef l df d hu]; exact h)
end Go.Proofs.YtokmaehefenpmaaGreatDoor
namespace Go.Proofs.YtokmaehefenpmaaGreatDoor
open Go.RowKit Go.Proofs.YtokmaehefenpmaaGreatDoor.Nm
set_option linter.unusedSimpArgs false
theorem ret_int {k : IntKind} {a b : Int} (h : a = b) : Ending.returned (.int k a) = .returned (.int k b) := by rw [h]
set_option maxHeartbeats 2000000 in
set_option maxRecDepth 100000 in
theorem TypeNodes_any (most : Nat) (hm : most ≤ 1000) : ∀ (t : Ty) (w : World) (D : Nat → Prop) (row : Array Value), TyAt w D t row →
    Calls Tryz.prog 20 #[.agg row, .int .i64 (most : Int)] w fun e w' => e = .returned (.int .i64 ((min t.nodes (most + 1) : Nat) : Int)) ∧ Below w.heap.size w w' := Ty.ind fun k s n ts ih w D row h => by
  obtain ⟨k', s', n', A, l, c, ts', e, rfl, hk, hn, hs, hT⟩ := h.parts
  cases e
  have HT := Lib.hid hT
  have HL := Lib.hid hT.len
  have hcm := hT.cap
  have hmx := hT.max
  unfold maxLen at hmx
  have HS := Lib.hid (typeNodes most k s n ts)
  have HI := Lib.hid ih
  clear h hk hn hs hT ih
  go_enter Tryz.func20, Tryz.ntmps20
  go_upto_region 0 with (fail)
  apply wp_region_lit
  (with_reducible refine wl_box rfl ?_); intro W p hbn hlp hp; simp only [put_lit, List.set_cons_zero, List.set_cons_succ]
  have hb := hbn
  clear hbn
  (with_reducible refine wl_k ?_ ?_); exact rfl; intro K hK; go_simp; refine hK _ ?_; clear hK K
  go_wp2_with fail
  go_loopw [5, 6] (fun v i wr => ∃ j m : Nat, j ≤ l ∧ m ≤ 2 * (most + 1) ∧ i = .int .i64 (j : Int) ∧ v = .int .i64 (m : Int) ∧ Hid (tnLoop most 1 ts = tnLoop most m (ts.drop j)) ∧ Below w.heap.size w wr ∧ wr.heap[p]? = some (.cells (cell4 k s n A l c) 24 (0, 0))) (fun _ i _ => l - (intOf i).toNat)
  case atStart => exact ⟨0, 1, by omega, by omega, rfl, rfl, Lib.hid rfl, hb, hp⟩
  case round =>
    clear hb hp
    obtain ⟨j, m, hj, hm2, rfl, rfl, HR, hb, hp⟩ := hrel
    by_cases hlt : j < l
    · have hltI : (j : Int) < (l : Int) := by omega
      obtain ⟨b, off, t, row, rfl, -, ht, -⟩ := HT.out.get hlt
      obtain ⟨row, hrow, hta⟩ := (HT.out.old (hb.mono (Nat.le_refl _))).row ht
      have hdr : ts.drop j = t :: ts.drop (j + 1) := by rw [List.drop_eq_getElem_cons (by rw [HL.out]; exact hlt)]; rw [List.getElem?_eq_getElem (by rw [HL.out]; exact hlt)] at ht; cases ht; rfl
      have HD := Lib.hid hdr
      have hmem : t ∈ ts := List.mem_of_getElem? ht
      clear hdr
      by_cases hmm : m ≤ most
      · have hmI : (m : Int) ≤ (most : Int) := by omega
        have HR2 : Hid (tnLoop most 1 ts = tnLoop most (m + min t.nodes (most + 1)) (ts.drop (j + 1))) := Lib.hid (by rw [HR.out, HD.out, tnLoop, if_pos hmm])
        have HTA := Lib.hid hta
        have HME := Lib.hid hmem
        clear hta hmem ht HD HR
        go_upto_region 3 with (fail)
        apply wp_region_lit
        (with_reducible refine wl_k ?_ ?_); exact rfl; intro K hK; go_simp; refine hK _ ?_; clear hK K
        (with_reducible refine wl_k ?_ ?_); exact rfl; intro K hK; go_simp; refine hK _ ?_; clear hK K
        (first | ((with_reducible apply wl_oneG); exact rfl; exact rfl; first | exact f0 (by with_reducible assumption) | exact f1 (by with_reducible assumption) | exact f2 (by with_reducible assumption) | exact f3 (by with_reducible assumption) | with_reducible assumption | exact g22 (by with_reducible assumption) | exact g25 (by with_reducible assumption)) | ((with_reducible apply wl_rowG); exact rfl; exact rfl; first | with_reducible assumption | exact RowK.now (by with_reducible assumption) | exact f4 (by with_reducible assumption)))
        (with_reducible refine wl_k ?_ ?_); exact rfl; intro K hK; go_simp; refine hK _ ?_; clear hK K
        (with_reducible refine wl_k ?_ ?_); exact rfl; intro K hK; go_simp; refine hK _ ?_; clear hK K
        (with_reducible refine wl_k ?_ ?_); exact rfl; intro K hK; go_simp; refine hK _ ?_; clear hK K
        (with_reducible refine wl_k ?_ ?_); exact rfl; intro K hK; go_simp; refine hK _ ?_; clear hK K
        (with_reducible refine wl_k ?_ ?_); exact rfl; intro K hK; go_simp; refine hK _ ?_; clear hK K
        (with_reducible refine wl_k ?_ ?_); exact rfl; intro K hK; go_simp; refine hK _ ?_; clear hK K
        (with_reducible refine wl_k ?_ ?_); exact rfl; intro K hK; go_simp; refine hK _ ?_; clear hK K
        go_upto_region 5 with (fail)
        have hC := HI.out t HME.out wr D row HTA.out
        obtain ⟨q, hq⟩ : ∃ q, q = min t.nodes (most + 1) := ⟨_, rfl⟩
        have hq1 : q ≤ most + 1 := by omega
        rw [← hq] at hC HR2
        have HC := Lib.hid hC
        have hwr : IntKind.i64.wrap ((m : Int) + (q : Int)) = (m : Int) + (q : Int) := IntWalk.i64_in _ (by omega)
        clear hC hq HTA HME
        apply wp_region_lit
        (with_reducible refine wl_k ?_ ?_); exact rfl; intro K hK; go_simp; refine hK _ ?_; clear hK K
        (with_reducible refine wl_k ?_ ?_); exact rfl; intro K hK; go_simp; refine hK _ ?_; clear hK K
        (first | ((with_reducible apply wl_oneG); exact rfl; exact rfl; first | exact f0 (by with_reducible assumption) | exact f1 (by with_reducible assumption) | exact f2 (by with_reducible assumption) | exact f3 (by with_reducible assumption) | with_reducible assumption | exact g22 (by with_reducible assumption) | exact g25 (by with_reducible assumption)) | ((with_reducible apply wl_rowG); exact rfl; exact rfl; first | with_reducible assumption | exact RowK.now (by with_reducible assumption) | exact f4 (by with_reducible assumption)))
        (with_reducible refine wl_k ?_ ?_); exact rfl; intro K hK; go_simp; refine hK _ ?_; clear hK K
        (with_reducible refine wl_k ?_ ?_); exact rfl; intro K hK; go_simp; refine hK _ ?_; clear hK K
        (first | ((with_reducible apply wl_oneG); exact rfl; exact rfl; first | exact f0 (by with_reducible assumption) | exact f1 (by with_reducible assumption) | exact f2 (by with_reducible assumption) | exact f3 (by with_reducible assumption) | with_reducible assumption | exact g22 (by with_reducible assumption) | exact g25 (by with_reducible assumption)) | ((with_reducible apply wl_rowG); exact rfl; exact rfl; first | with_reducible assumption | exact RowK.now (by with_reducible assumption) | exact f4 (by with_reducible assumption)))
        (with_reducible refine wl_k ?_ ?_); exact rfl; intro K hK; go_simp; refine hK _ ?_; clear hK K
        (with_reducible refine wl_ck ?_ ?_); exact rfl; intro K hK; go_simp; refine ⟨_, _, ⟨rfl, rfl⟩, hK _ _ ⟨_, HC.out, ?_⟩⟩; clear hK K; rintro e w7 ⟨rfl, hb7⟩; refine ⟨_, rfl, ?_⟩; simp only [put_lit, List.set_cons_zero, List.set_cons_succ]
        (with_reducible refine wl_k ?_ ?_); exact rfl; intro K hK; go_simp; refine hK _ ?_; clear hK K
        (with_reducible refine wl_k ?_ ?_); exact rfl; intro K hK; go_simp; refine hK _ ?_; clear hK K
        replace hp := below_look hb7 hp
        replace hb := hb.trans (hb7.mono hb.size)
        clear hb7 HC hrow hwr
        go_wp2_with fail
        go_roundw
        case rel => exact ⟨j + 1, m + q, by omega, by omega, by go_num, by go_num, HR2, hb, hp⟩
        case measure => simp [intOf]; omega
      · have hmI : ¬ (m : Int) ≤ (most : Int) := by omega
        have HF : Hid (min m (most + 1) = min (Ty.node k s n ts).nodes (most + 1)) := Lib.hid (by rw [← HS.out, HR.out, HD.out, tnLoop, if_neg hmm])
        clear ht hta hmem HD HR hrow
        go_upto_region 3 with (fail)
        apply wp_region_lit
        (with_reducible refine wl_k ?_ ?_); exact rfl; intro K hK; go_simp; refine hK _ ?_; clear hK K
        (with_reducible refine wl_k ?_ ?_); exact rfl; intro K hK; go_simp; refine hK _ ?_; clear hK K
        (first | ((with_reducible apply wl_oneG); exact rfl; exact rfl; first | exact f0 (by with_reducible assumption) | exact f1 (by with_reducible assumption) | exact f2 (by with_reducible assumption) | exact f3 (by with_reducible assumption) | with_reducible assumption | exact g22 (by with_reducible assumption) | exact g25 (by with_reducible assumption)) | ((with_reducible apply wl_rowG); exact rfl; exact rfl; first | with_reducible assumption | exact RowK.now (by with_reducible assumption) | exact f4 (by with_reducible assumption)))
        (with_reducible refine wl_k ?_ ?_); exact rfl; intro K hK; go_simp; refine hK _ ?_; clear hK K
        (with_reducible refine wl_k ?_ ?_); exact rfl; intro K hK; go_simp; refine hK _ ?_; clear hK K
        (with_reducible refine wl_k ?_ ?_); exact rfl; intro K hK; go_simp; refine hK _ ?_; clear hK K
        (with_reducible refine wl_k ?_ ?_); exact rfl; intro K hK; go_simp; refine hK _ ?_; clear hK K
        (with_reducible refine wl_k ?_ ?_); exact rfl; intro K hK; go_simp; refine hK _ ?_; clear hK K
        (with_reducible refine wl_k ?_ ?_); exact rfl; intro K hK; go_simp; refine hK _ ?_; clear hK K
        (with_reducible refine wl_k ?_ ?_); exact rfl; intro K hK; go_simp; refine hK _ ?_; clear hK K
        go_wp2_with fail
        all_goals (go_ret; exact ⟨ret_int (by rw [← HF.out]; omega), hb⟩)
    · have hltI : ¬ (j : Int) < (l : Int) := by omega
      have HF : Hid (min m (most + 1) = min (Ty.node k s n ts).nodes (most + 1)) := Lib.hid (by rw [← HS.out, HR.out, List.drop_of_length_le (by rw [HL.out]; omega), tnLoop])
      clear HR
      go_upto_region 3 with (fail)
      apply wp_region_lit
      (with_reducible refine wl_k ?_ ?_); exact rfl; intro K hK; go_simp; refine hK _ ?_; clear hK K
      (with_reducible refine wl_k ?_ ?_); exact rfl; intro K hK; go_simp; refine hK _ ?_; clear hK K
      (first | ((with_reducible apply wl_oneG); exact rfl; exact rfl; first | exact f0 (by with_reducible assumption) | exact f1 (by with_reducible assumption) | exact f2 (by with_reducible assumption) | exact f3 (by with_reducible assumption) | with_reducible assumption | exact g22 (by with_reducible assumption) | exact g25 (by with_reducible assumption)) | ((with_reducible apply wl_rowG); exact rfl; exact rfl; first | with_reducible assumption | exact RowK.now (by with_reducible assumption) | exact f4 (by with_reducible assumption)))
      (with_reducible refine wl_k ?_ ?_); exact rfl; intro K hK; go_simp; refine hK _ ?_; clear hK K
      (with_reducible refine wl_k ?_ ?_); exact rfl; intro K hK; go_simp; refine hK _ ?_; clear hK K
      (with_reducible refine wl_k ?_ ?_); exact rfl; intro K hK; go_simp; refine hK _ ?_; clear hK K
      (first | ((with_reducible refine wl_skipU ?_ ?_ ?_); exact rfl; exact rfl) | ((with_reducible refine wl_skip ?_ ?_); exact rfl; simp only [put_lit, List.set_cons_zero, List.set_cons_succ]))
      (first | ((with_reducible refine wl_skipU ?_ ?_ ?_); exact rfl; exact rfl) | ((with_reducible refine wl_skip ?_ ?_); exact rfl; simp only [put_lit, List.set_cons_zero, List.set_cons_succ]))
      (first | ((with_reducible refine wl_skipU ?_ ?_ ?_); exact rfl; exact rfl) | ((with_reducible refine wl_skip ?_ ?_); exact rfl; simp only [put_lit, List.set_cons_zero, List.set_cons_succ]))
      (with_reducible refine wl_k ?_ ?_); exact rfl; intro K hK; go_simp; refine hK _ ?_; clear hK K
      go_wp2_with fail
      all_goals (go_ret; exact ⟨ret_int (by rw [← HF.out]; omega), hb⟩)
theorem smallB_step {ts : List Ty} {j : Nat} (hj : ∀ i t, i < j → ts[i]? = some t → t.nodes ≤ 150) {t : Ty} (ht : ts[j]? = some t) (hn : t.nodes ≤ 150) : ∀ i t, i < j + 1 → ts[i]? = some t → t.nodes ≤ 150 := fun i u hi hu => by
  rcases Nat.lt_or_ge i j with h | h
  · exact hj i u h hu
  · obtain rfl : i = j := by omega
    rw [ht] at hu; cases hu; exact hn
/-- Small: what the law's premise says. -/
def Small (ts : List Ty) : Prop := ts.length ≤ 60 ∧ ∀ t, t ∈ ts → t.nodes ≤ 150
/-- A bool that is true only where something holds; nothing old turned. -/
def Yes (w : World) (p : Prop) (e : Ending) (w' : World) : Prop := (∃ b : Bool, e = .returned (.bool b) ∧ (b = true → p)) ∧ Below w.heap.size w w'
set_option maxHeartbeats 2000000 in
set_option maxRecDepth 100000 in
theorem small_any (ts : List Ty) (A : Option Addr) (l c : Nat) (w : World) (D : Nat → Prop) (h : TysAt w D ts A l c) :
    Calls Tryz.prog 4 #[.slice A l c] w (Yes w (Small ts)) := by
  have HT := Lib.hid h
  have HL := Lib.hid h.len
  have hcm := h.cap
  have hmx := h.max
  unfold maxLen at hmx
  clear h
  have hb := Below.refl w.heap.size w
  go_enter Tryz.func4, Tryz.ntmps4
  go_wp2_with fail
  go_loopw [3] (fun i wr => ∃ j : Nat, j ≤ l ∧ j ≤ 60 ∧ i = .int .i64 (j : Int) ∧ Hid (∀ (i : Nat) (t : Ty), i < j → ts[i]? = some t → t.nodes ≤ 150) ∧ Below w.heap.size w wr) (fun i _ => l - (intOf i).toNat)
  case atStart => exact ⟨0, by omega, by omega, rfl, Lib.hid (fun i t hi => by omega), hb⟩
  case round =>
    clear hb
    obtain ⟨j, hj, hj6, rfl, HR, hb⟩ := hrel
    by_cases hlt : j < l
    · have hltI : (j : Int) < (l : Int) := by omega
      by_cases h60 : j = 60
      · have hj2 : ((j : Int) == 60) = true := beq_iff_eq.2 (by omega)
        go_upto_region 4 with (fail)
        apply wp_region_lit
        (with_reducible refine wl_k ?_ ?_); exact rfl; intro K hK; go_simp; refine hK _ ?_; clear hK K
        (with_reducible refine wl_k ?_ ?_); exact rfl; intro K hK; go_simp; refine hK _ ?_; clear hK K
        (with_reducible refine wl_k ?_ ?_); exact rfl; intro K hK; go_simp; refine hK _ ?_; clear hK K
        (first | ((with_reducible refine wl_skipU ?_ ?_ ?_); exact rfl; exact rfl) | ((with_reducible refine wl_skip ?_ ?_); exact rfl; simp only [put_lit, List.set_cons_zero, List.set_cons_succ]))
        (first | ((with_reducible refine wl_skipU ?_ ?_ ?_); exact rfl; exact rfl) | ((with_reducible refine wl_skip ?_ ?_); exact rfl; simp only [put_lit, List.set_cons_zero, List.set_cons_succ]))
        (first | ((with_reducible refine wl_skipU ?_ ?_ ?_); exact rfl; exact rfl) | ((with_reducible refine wl_skip ?_ ?_); exact rfl; simp only [put_lit, List.set_cons_zero, List.set_cons_succ]))
        (first | ((with_reducible refine wl_skipU ?_ ?_ ?_); exact rfl; exact rfl) | ((with_reducible refine wl_skip ?_ ?_); exact rfl; simp only [put_lit, List.set_cons_zero, List.set_cons_succ]))
        (first | ((with_reducible refine wl_skipU ?_ ?_ ?_); exact rfl; exact rfl) | ((with_reducible refine wl_skip ?_ ?_); exact rfl; simp only [put_lit, List.set_cons_zero, List.set_cons_succ]))
        (first | ((with_reducible refine wl_skipU ?_ ?_ ?_); exact rfl; exact rfl) | ((with_reducible refine wl_skip ?_ ?_); exact rfl; simp only [put_lit, List.set_cons_zero, List.set_cons_succ]))
        (with_reducible refine wl_k ?_ ?_); exact rfl; intro K hK; go_simp; refine hK _ ?_; clear hK K
        go_wp2_with fail
        go_ret
        exact ⟨⟨false, rfl, fun h => by cases h⟩, hb⟩
      · have hj2 : ((j : Int) == 60) = false := beq_eq_false_iff_ne.2 (by omega)
        obtain ⟨b, off, t, row, rfl, -, ht, -⟩ := HT.out.get hlt
        obtain ⟨row, hrow, hta⟩ := (HT.out.old hb).row ht
        have HC := Lib.hid (TypeNodes_any 150 (by omega) t wr D row hta)
        by_cases hn : t.nodes ≤ 150
        · have hq : ¬ (((min t.nodes (150 + 1) : Nat) : Int) > 150) := by omega
          have HR2 := Lib.hid (smallB_step HR.out ht hn)
          obtain ⟨q, hqe⟩ : ∃ q : Nat, q = min t.nodes (150 + 1) := ⟨_, rfl⟩
          have HC2 : Hid (Calls Tryz.prog 20 #[.agg row, .int .i64 150] wr fun e w' => e = .returned (.int .i64 (q : Int)) ∧ Below wr.heap.size wr w') := Lib.hid (by rw [hqe]; exact HC.out)
          rw [← hqe] at hq
          clear HC hqe hta HR ht hn
          go_upto_region 4 with (fail)
          apply wp_region_lit
          (with_reducible refine wl_k ?_ ?_); exact rfl; intro K hK; go_simp; refine hK _ ?_; clear hK K
          (with_reducible refine wl_k ?_ ?_); exact rfl; intro K hK; go_simp; refine hK _ ?_; clear hK K
          (with_reducible refine wl_k ?_ ?_); exact rfl; intro K hK; go_simp; refine hK _ ?_; clear hK K
          (with_reducible refine wl_k ?_ ?_); exact rfl; intro K hK; go_simp; refine hK _ ?_; clear hK K
          (with_reducible refine wl_k ?_ ?_); exact rfl; intro K hK; go_simp; refine hK _ ?_; clear hK K
          (with_reducible refine wl_k ?_ ?_); exact rfl; intro K hK; go_simp; refine hK _ ?_; clear hK K
          (first | ((with_reducible apply wl_oneG); exact rfl; exact rfl; first | exact f0 (by with_reducible assumption) | exact f1 (by with_reducible assumption) | exact f2 (by with_reducible assumption) | exact f3 (by with_reducible assumption) | with_reducible assumption | exact g22 (by with_reducible assumption) | exact g25 (by with_reducible assumption)) | ((with_reducible apply wl_rowG); exact rfl; exact rfl; first | with_reducible assumption | exact RowK.now (by with_reducible assumption) | exact f4 (by with_reducible assumption)))
          (with_reducible refine wl_ck ?_ ?_); exact rfl; intro K hK; go_simp; refine ⟨_, _, ⟨rfl, rfl⟩, hK _ _ ⟨_, HC2.out, ?_⟩⟩; clear hK K; rintro e w7 ⟨rfl, hb7⟩; refine ⟨_, rfl, ?_⟩; simp only [put_lit, List.set_cons_zero, List.set_cons_succ]
          (with_reducible refine wl_k ?_ ?_); exact rfl; intro K hK; go_simp; refine hK _ ?_; clear hK K
          (with_reducible refine wl_k ?_ ?_); exact rfl; intro K hK; go_simp; refine hK _ ?_; clear hK K
          replace hb := hb.trans (hb7.mono hb.size)
          clear hb7 HC2 hrow
          go_wp2_with fail
          go_roundw
          case rel => exact ⟨j + 1, by omega, by omega, by go_num, HR2, hb⟩
          case measure => simp [intOf]; omega
        · have hq : ((min t.nodes (150 + 1) : Nat) : Int) > 150 := by omega
          obtain ⟨q, hqe⟩ : ∃ q : Nat, q = min t.nodes (150 + 1) := ⟨_, rfl⟩
          have HC2 : Hid (Calls Tryz.prog 20 #[.agg row, .int .i64 150] wr fun e w' => e = .returned (.int .i64 (q : Int)) ∧ Below wr.heap.size wr w') := Lib.hid (by rw [hqe]; exact HC.out)
          rw [← hqe] at hq
          clear HC hqe hta HR ht hn
          go_upto_region 4 with (fail)
          apply wp_region_lit
          (with_reducible refine wl_k ?_ ?_); exact rfl; intro K hK; go_simp; refine hK _ ?_; clear hK K
          (with_reducible refine wl_k ?_ ?_); exact rfl; intro K hK; go_simp; refine hK _ ?_; clear hK K
          (with_reducible refine wl_k ?_ ?_); exact rfl; intro K hK; go_simp; refine hK _ ?_; clear hK K
          (with_reducible refine wl_k ?_ ?_); exact rfl; intro K hK; go_simp; refine hK _ ?_; clear hK K
          (with_reducible refine wl_k ?_ ?_); exact rfl; intro K hK; go_simp; refine hK _ ?_; clear hK K
          (with_reducible refine wl_k ?_ ?_); exact rfl; intro K hK; go_simp; refine hK _ ?_; clear hK K
          (first | ((with_reducible apply wl_oneG); exact rfl; exact rfl; first | exact f0 (by with_reducible assumption) | exact f1 (by with_reducible assumption) | exact f2 (by with_reducible assumption) | exact f3 (by with_reducible assumption) | with_reducible assumption | exact g22 (by with_reducible assumption) | exact g25 (by with_reducible assumption)) | ((with_reducible apply wl_rowG); exact rfl; exact rfl; first | with_reducible assumption | exact RowK.now (by with_reducible assumption) | exact f4 (by with_reducible assumption)))
          (with_reducible refine wl_ck ?_ ?_); exact rfl; intro K hK; go_simp; refine ⟨_, _, ⟨rfl, rfl⟩, hK _ _ ⟨_, HC2.out, ?_⟩⟩; clear hK K; rintro e w7 ⟨rfl, hb7⟩; refine ⟨_, rfl, ?_⟩; simp only [put_lit, List.set_cons_zero, List.set_cons_succ]
          (with_reducible refine wl_k ?_ ?_); exact rfl; intro K hK; go_simp; refine hK _ ?_; clear hK K
          (with_reducible refine wl_k ?_ ?_); exact rfl; intro K hK; go_simp; refine hK _ ?_; clear hK K
          replace hb := hb.trans (hb7.mono hb.size)
          clear hb7 HC2 hrow
          go_wp2_with fail
          go_ret
          exact ⟨⟨false, rfl, fun h => by cases h⟩, hb⟩
    · have hltI : ¬ (j : Int) < (l : Int) := by omega
      have HF : Hid (Small ts) := Lib.hid ⟨by rw [HL.out]; omega, fun t ht => by
        obtain ⟨i, hi⟩ := List.mem_iff_getElem?.1 ht
        exact HR.out i t (by have := (List.getElem?_eq_some_iff.1 hi).1; rw [HL.out] at this; omega) hi⟩
      clear HR
      go_wp2_with fail
      go_ret
      exact ⟨⟨true, rfl, fun _ => HF.out⟩, hb⟩
end Go.Proofs.YtokmaehefenpmaaGreatDoor
namespace Go.Proofs.YtokmaehefenpmaaGreatDoor
open Go.RowKit Go.Proofs.YtokmaehefenpmaaGreatDoor.Nm
set_option linter.unusedSimpArgs false
/-- A call of a function value that the walk does not know. -/
theorem wl_fv {ops : Array Oper} {rest : List Oper} {o : Oper} {a : Act} {w : World} {Q : Exit → Act → World → Prop} (hg : o.guard = none) (x y : Operand) (T : Array TypeId) (ho : o.op = .call { callee := .value x, args := #[y], argTypes := T }) {K : FuncId} {caps : Array Value} {v : Value}
    (hx : a.eval x = .func (.func K) #[] caps) (hy : a.eval y = v) (hE : Enters Tryz.prog K) {R : Ending → World → Prop} (hc : Calls Tryz.prog K (#[v] ++ caps) w R) (h : ∀ e w1, R e w1 → ∃ u, e = .returned u ∧ wpList Tryz.prog ops Q rest (a.put o.dst u) w1) : wpList Tryz.prog ops Q (o :: rest) a w := by
  refine wpList_plain hg fun K' hK => ?_
  have hv : (execOp a.eval o).run Tryz.prog w = .ok (.enter K (#[v] ++ caps)) w := by
    unfold execOp
    simp only [ho, resolve, Deferred.ofValue, invoke, hx, hy, Sem.run_bind, Sem.run_pure, Result.andThen_ok, List.map_toArray, List.map_cons, List.map_nil]
    simpa using hE (#[v] ++ caps) w
  unfold Oper.wp; rw [hv]
  refine hc.mono fun e w1 hr => ?_
  obtain ⟨u, rfl, h2⟩ := h e w1 hr
  exact hK _ _ h2
end Go.Proofs.YtokmaehefenpmaaGreatDoor
namespace Go.Proofs.YtokmaehefenpmaaGreatDoor
open Go.RowKit Go.Proofs.YtokmaehefenpmaaGreatDoor.Nm
set_option linter.unusedSimpArgs false
section
variable {md : Region.Mode} {ops : Array Oper} {Q : Exit → Act → World → Prop} {S : World → Prop} {fuel : Nat} {listed : Array Bool} {a : Act} {w : World} {i : Nat} {oi : Oper}
theorem sh_do {P : Program} {v : Value} {w2 : World} (ho : ops[i]? = some oi) (hg : Region.wanted oi (yielded ops a.tmps) = true) (hx : (execOp a.eval oi).run P w = .ok (.value v) w2) (hS : S w2)
    (h : wpAnyH P md ops Q S fuel (listed.setIfInBounds i true) (a.put oi.dst v) w2) : StepH P md ops Q S fuel listed a w i := by
  unfold StepH wpOp
  simp only [ho]
  rw [if_pos hg]
  refine .inl ?_
  unfold Oper.wp
  rw [hx]
  exact ⟨hS, h⟩
end
end Go.Proofs.YtokmaehefenpmaaGreatDoor
namespace Go.Proofs.YtokmaehefenpmaaGreatDoor
def varT (v : Nat) : Ty := .node 12 ⟨#[]⟩ (v : Int) []
mutual
/-- Whether a variable stands in a tree. -/
def Ty.occ (v : Nat) : Ty → Bool
  | .node k _ n l => decide (k = 12 ∧ n = (v : Int)) || occs v l
def occs (v : Nat) : List Ty → Bool
  | [] => false
  | t :: l => t.occ v || occs v l
end
end Go.Proofs.YtokmaehefenpmaaGreatDoor
namespace Go.Proofs.YtokmaehefenpmaaGreatDoor
def start (m : Nat) : List Ty := (List.range m).map varT
end Go.Proofs.YtokmaehefenpmaaGreatDoor
namespace Go.Proofs.YtokmaehefenpmaaGreatDoor
open Go.RowKit Go.Proofs.YtokmaehefenpmaaGreatDoor.Nm
set_option linter.unusedSimpArgs false
section
variable {σ : Type} (g : Ty → σ → Bool × σ)
mutual
def visit : Ty → σ → Bool × σ
  | .node k s n l, st => match g (.node k s n l) st with | (true, x) => visits l x | (false, x) => (false, x)
def visits : List Ty → σ → Bool × σ
  | [], st => (true, st)
  | t :: l, st => match visit t st with | (true, x) => visits l x | (false, x) => (false, x)
end
end
/-- All blocks stand but those of C. -/
structure Keep (C : Nat → Prop) (w w' : World) : Prop where
  os : w'.os = w.os
  tape : w'.tape = w.tape
  output : w'.output = w.output
  size : w.heap.size ≤ w'.heap.size
  block : ∀ b, b < w.heap.size → ¬ C b → w'.heap[b]? = w.heap[b]?
theorem Keep.of {C : Nat → Prop} {w w' : World} (h : Below w.heap.size w w') : Keep C w w' := ⟨h.os, h.tape, h.output, h.size, fun b hb _ => h.block b hb⟩
theorem Keep.refl (C : Nat → Prop) (w : World) : Keep C w w := Keep.of (Below.refl _ _)
/-- What may change behind a step was there to change ahead of it, or is new. -/
theorem Keep.trans {C C' : Nat → Prop} {w w1 w2 : World} (h : Keep C w w1) (hC : ∀ b, C' b → C b ∨ w.heap.size ≤ b) (h2 : Keep C' w1 w2) : Keep C w w2 :=
  ⟨h2.os.trans h.os, h2.tape.trans h.tape, h2.output.trans h.output, Nat.le_trans h.size h2.size, fun b hb hn => (h2.block b (Nat.lt_of_lt_of_le hb h.size) (fun hc => (hC b hc).elim hn (by omega))).trans (h.block b hb hn)⟩
theorem Keep.look {C : Nat → Prop} {w w' : World} (h : Keep C w w') {b : Nat} {o : Obj} (ho : w.heap[b]? = some o) (hn : ¬ C b) : w'.heap[b]? = some o := (h.block b (heap_lt ho) hn).trans ho
theorem TyAt.keep {C : Nat → Prop} {w w' : World} {D : Nat → Prop} {t : Ty} {row : Array Value} (h : TyAt w D t row) (hk : Keep C w w') (hD : ∀ b, D b → ¬ C b) : TyAt w' D t row :=
  (h.low.mono (fun _ h => h) (fun b h => hk.block b h.2 (hD b h.1))).weak fun _ h => h.1
theorem TysAt.keep {C : Nat → Prop} {w w' : World} {D : Nat → Prop} {ts : List Ty} {A : Option Addr} {l c : Nat} (h : TysAt w D ts A l c) (hk : Keep C w w') (hD : ∀ b, D b → ¬ C b) : TysAt w' D ts A l c := by
  obtain ⟨h1, h2, h3, rows, h4, h5⟩ := h
  exact ⟨h1, h2, h3, rows, fun i t hi => ((h4 i t hi).low.mono (fun _ h => h) (fun b h => hk.block b h.2 (hD b h.1))).mono (fun _ h => h.1) (fun _ _ => rfl), fun i t hi => (h5 i t hi).keep hk hD⟩
section
variable {σ : Type}
/-- What a function value does at a node: its state, the blocks that it may change. -/
structure VisC (Q : Ty → Prop) (K : FuncId) (caps : Array Value) (g : Ty → σ → Bool × σ) (Inv : World → (Nat → Prop) → σ → Prop) : Prop where
  ent : Enters Tryz.prog K
  low : ∀ w C s, Inv w C s → ∀ b, C b → b < w.heap.size
  keep : ∀ w C s, Inv w C s → ∀ w', Below w.heap.size w w' → Inv w' C s
  run : ∀ w C s, Inv w C s → ∀ t, Q t → ∀ (D : Nat → Prop) (row : Array Value), TyAt w D t row → (∀ b, D b → ¬ C b) →
    Calls Tryz.prog K (#[.agg row] ++ caps) w fun e w' => e = .returned (.bool (g t s).1) ∧ ∃ C', ((g t s).1 = true → Inv w' C' (g t s).2) ∧ Keep C w w' ∧ ∀ b, C' b → C b ∨ w.heap.size ≤ b
def VPost (Inv : World → (Nat → Prop) → σ → Prop) (C : Nat → Prop) (w : World) (r : Bool × σ) (e : Ending) (w' : World) : Prop := e = .returned (.bool r.1) ∧ ∃ C', (r.1 = true → Inv w' C' r.2) ∧ Keep C w w' ∧ ∀ b, C' b → C b ∨ w.heap.size ≤ b
end
theorem u51 : Tryz.prog.underlying 26 = some (.func #[24] #[4] false) := by kernel_rfl
theorem g51 {w : World} {p : Nat} {v : Value} {t : TypeId} {fr : Nat × Nat} (h : w.heap[p]? = some (.cells #[v] t fr)) : OneAt w 26 ⟨p, 0, none⟩ v := one_of u51 rfl (by rw [cell_of_row _ _ _ _ _ _ h]; rfl)
/-- Kept blocks: those of the walk itself. -/
structure VisW (w : World) (C : Nat → Prop) (pf pw : Nat) (fv : Value) : Prop where
  f : w.heap[pf]? = some (.cells #[fv] 26 (0, 0))
  w : w.heap[pw]? = some (.cells #[.func (.func 36) #[] #[.pointer (some ⟨pf, 0, none⟩), .pointer (some ⟨pw, 0, none⟩)]] 26 (0, 0))
  nf : ¬ C pf
  nw : ¬ C pw
theorem VisW.keep {w w' : World} {C C' : Nat → Prop} {pf pw : Nat} {fv : Value} (h : VisW w C pf pw fv) (hk : Keep C w w') (hC : ∀ b, C' b → C b ∨ w.heap.size ≤ b) : VisW w' C' pf pw fv :=
  ⟨hk.look h.f h.nf, hk.look h.w h.nw, fun hc => (hC _ hc).elim h.nf (fun e => by have := heap_lt h.f; omega), fun hc => (hC _ hc).elim h.nw (fun e => by have := heap_lt h.w; omega)⟩
section
variable {σ : Type} {Q : Ty → Prop} {K : FuncId} {caps : Array Value} {g : Ty → σ → Bool × σ} {Inv : World → (Nat → Prop) → σ → Prop}
def EachC (Q : Ty → Prop) (K : FuncId) (caps : Array Value) (g : Ty → σ → Bool × σ) (Inv : World → (Nat → Prop) → σ → Prop) (t : Ty) : Prop := Q t → ∀ (w : World) (C : Nat → Prop) (s : σ) (pf pw : Nat) (D : Nat → Prop) (row : Array Value), Inv w C s → VisW w C pf pw (.func (.func K) #[] caps) → TyAt w D t row → (∀ b, D b → ¬ C b) →
  Calls Tryz.prog 36 #[.agg row, .pointer (some ⟨pf, 0, none⟩), .pointer (some ⟨pw, 0, none⟩)] w (VPost Inv C w (visit g t s))
theorem ret_vis {Inv : World → (Nat → Prop) → σ → Prop} {C : Nat → Prop} {w w' : World} {r : Bool × σ} {b : Bool} (hr : r.1 = b) {C' : Nat → Prop} (hI : r.1 = true → Inv w' C' r.2) (hk : Keep C w w') (hC : ∀ b, C' b → C b ∨ w.heap.size ≤ b) : VPost Inv C w r (.returned (.bool b)) w' := ⟨by rw [hr], C', hI, hk, hC⟩
set_option maxHeartbeats 4000000 in
set_option maxRecDepth 100000 in
theorem each1_any (hV : VisC Q K caps g Inv) (hQ : ∀ k s n l, Q (.node k s n l) → ∀ u, u ∈ l → Q u) : ∀ t : Ty, EachC Q K caps g Inv t := Ty.ind fun k s n ts ih hq w C st pf pw D0 row hI hW h0 hD0 => by
  obtain ⟨D, h, hD, hlow⟩ : ∃ D : Nat → Prop, TyAt w D (.node k s n ts) row ∧ (∀ b, D b → ¬ C b) ∧ ∀ b, D b → b < w.heap.size := ⟨fun b => D0 b ∧ b < w.heap.size, h0.low, fun b hb => hD0 b hb.1, fun b hb => hb.2⟩
  have HLW := Lib.hid hlow
  clear h0 hD0 hlow
  obtain ⟨k1, s1, n1, A, l, c, ts1, e, rfl, hk, hn, hs, hT⟩ := h.parts
  cases e
  have HT := Lib.hid hT
  have HTA := Lib.hid h
  have HL := Lib.hid hT.len
  have hcm := hT.cap
  have hmx := hT.max
  unfold maxLen at hmx
  have HQ := Lib.hid hq
  have HIH := Lib.hid (fun t (ht : t ∈ ts) => ih t ht (hQ _ _ _ _ hq t ht))
  have HV := Lib.hid hV
  have HE := Lib.hid hV.ent
  have HD := Lib.hid hD
  have HI := Lib.hid hI
  have HW := Lib.hid hW
  have hCl := Lib.hid (hV.low w C st hI)
  clear h hk hn hs hT ih hq hD hI hV hQ hW
  have hb := Below.refl w.heap.size w
  go_enter Tryz.func36, Tryz.ntmps36
  go_upto_region 0 with (fail)
  apply wp_region_lit
  (with_reducible refine wl_box rfl ?_); intro W p hbn hlp hp; replace hb := hb.trans (hbn.mono hb.size); clear hbn; simp only [put_lit, List.set_cons_zero, List.set_cons_succ]
  (with_reducible refine wl_k ?_ ?_); exact rfl; intro K hK; go_simp; refine hK _ ?_; clear hK K
  have HC := Lib.hid (HV.out.run W C st (HV.out.keep w C st HI.out W hb) (.node k s n ts) HQ.out D _ (HTA.out.old hb) HD.out)
  have hfv := (HW.out.keep (C' := C) (Keep.of hb) (fun b h => Or.inl h)).f
  have hlp2 := heap_lt hp
  go_upto_region 1 with (fail)
  cases hg : g (.node k s n ts) st with
  | mk fb s1 =>
    rw [hg] at HC
    have HK := Lib.hid (Keep.of (C := C) hb)
    cases fb with
    | false =>
      have HR : Hid (visit g (.node k s n ts) st = (false, s1)) := Lib.hid (by rw [visit, hg])
      clear hg
      apply wp_region_lit
      (with_reducible apply wl_oneG); exact rfl; exact rfl; exact g51 hfv
      (first | ((with_reducible apply wl_oneG); exact rfl; exact rfl; first | exact f0 (by with_reducible assumption) | exact f1 (by with_reducible assumption) | exact f2 (by with_reducible assumption) | exact f3 (by with_reducible assumption) | with_reducible assumption | exact g22 (by with_reducible assumption) | exact g25 (by with_reducible assumption)) | ((with_reducible apply wl_rowG); exact rfl; exact rfl; first | with_reducible assumption | exact RowK.now (by with_reducible assumption) | exact f4 (by with_reducible assumption)))
      refine wl_fv rfl _ _ _ rfl rfl rfl HE.out HC.out ?_
      rintro e w7 ⟨rfl, C', hI7, hk7, hC7⟩
      refine ⟨_, rfl, ?_⟩
      simp only [put_lit, List.set_cons_zero, List.set_cons_succ]
      have HI7 := Lib.hid hI7
      have HK7 := Lib.hid (HK.out.trans (fun b hb => Or.inl hb) hk7)
      have HC7 := Lib.hid (show ∀ b, C' b → C b ∨ w.heap.size ≤ b from fun b h => (hC7 b h).imp id (fun h => by omega))
      clear hI7 hk7 hC7
      (with_reducible refine wl_k ?_ ?_); exact rfl; intro K hK; go_simp; refine hK _ ?_; clear hK K
      go_wp2_with fail
      go_ret
      exact ret_vis (by rw [HR.out]) (by rw [HR.out]; exact HI7.out) HK7.out HC7.out
    | true =>
      have HR : Hid (visit g (.node k s n ts) st = visits g ts s1) := Lib.hid (by rw [visit, hg])
      clear hg
      apply wp_region_lit
      (with_reducible apply wl_oneG); exact rfl; exact rfl; exact g51 hfv
      (first | ((with_reducible apply wl_oneG); exact rfl; exact rfl; first | exact f0 (by with_reducible assumption) | exact f1 (by with_reducible assumption) | exact f2 (by with_reducible assumption) | exact f3 (by with_reducible assumption) | with_reducible assumption | exact g22 (by with_reducible assumption) | exact g25 (by with_reducible assumption)) | ((with_reducible apply wl_rowG); exact rfl; exact rfl; first | with_reducible assumption | exact RowK.now (by with_reducible assumption) | exact f4 (by with_reducible assumption)))
      refine wl_fv rfl _ _ _ rfl rfl rfl HE.out HC.out ?_
      rintro e w7 ⟨rfl, C', hI7, hk7, hC7⟩
      refine ⟨_, rfl, ?_⟩
      simp only [put_lit, List.set_cons_zero, List.set_cons_succ]
      have HI7 := Lib.hid (hI7 rfl)
      have HK7 := Lib.hid (HK.out.trans (fun b hb => Or.inl hb) hk7)
      have HC7 := Lib.hid (show ∀ b, C' b → C b ∨ W.heap.size ≤ b from hC7)
      replace hp := hk7.look hp (fun hc => by have := hCl.out _ hc; omega)
      have hWS := hk7.size
      clear hI7 hk7 hC7
      (with_reducible refine wl_k ?_ ?_); exact rfl; intro K hK; go_simp; refine hK _ ?_; clear hK K
      clear HC HK hfv hb
      go_upto_region 3 with (fail)
      apply wp_region_lit
      (with_reducible refine wl_k ?_ ?_); exact rfl; intro K hK; go_simp; refine hK _ ?_; clear hK K
      (first | ((with_reducible apply wl_oneG); exact rfl; exact rfl; first | exact f0 (by with_reducible assumption) | exact f1 (by with_reducible assumption) | exact f2 (by with_reducible assumption) | exact f3 (by with_reducible assumption) | with_reducible assumption | exact g22 (by with_reducible assumption) | exact g25 (by with_reducible assumption)) | ((with_reducible apply wl_rowG); exact rfl; exact rfl; first | with_reducible assumption | exact RowK.now (by with_reducible assumption) | exact f4 (by with_reducible assumption)))
      (with_reducible refine wl_k ?_ ?_); exact rfl; intro K hK; go_simp; refine hK _ ?_; clear hK K
      (with_reducible refine wl_k ?_ ?_); exact rfl; intro K hK; go_simp; refine hK _ ?_; clear hK K
      go_wp2_with fail
      have HST : Hid (visit g (.node k s n ts) st = visits g (ts.drop 0) s1) := HR
      clear HR
      go_loopw [14] (fun i wr => ∃ (j : Nat) (C' : Nat → Prop) (s' : σ), j ≤ l ∧ i = .int .i64 (j : Int) ∧ Hid (visit g (.node k s n ts) st = visits g (ts.drop j) s') ∧ Hid (Inv wr C' s') ∧ Hid (Keep C w wr) ∧ Hid (∀ b, C' b → C b ∨ W.heap.size ≤ b) ∧ W.heap.size ≤ wr.heap.size ∧ wr.heap[p]? = some (.cells (cell4 k s n A l c) 24 (0, 0))) (fun i _ => l - (intOf i).toNat)
      case atStart => exact ⟨0, C', s1, by omega, rfl, HST, HI7, HK7, HC7, hWS, hp⟩
      case round =>
        clear HST HI7 HK7 HC7 hp hWS
        obtain ⟨j, C2, s2, hj, rfl, HR, HI2, HK2, HC2, hWS, hp⟩ := hrel
        by_cases hlt : j < l
        · have hltI : (j : Int) < (l : Int) := by omega
          obtain ⟨b, off, t, row, rfl, -, ht, -⟩ := HT.out.get hlt
          have HT2 := Lib.hid (HT.out.keep HK2.out HD.out)
          obtain ⟨row, hrow, hta⟩ := HT2.out.rowK ht
          obtain ⟨k3, s3, n3, A3, l3, c3, ts3, ht3, rfl, -⟩ := hta.parts
          have HTB := Lib.hid hta
          have HDR : Hid (ts.drop j = t :: ts.drop (j + 1)) := Lib.hid (by rw [List.drop_eq_getElem_cons (by rw [HL.out]; exact hlt)]; rw [List.getElem?_eq_getElem (by rw [HL.out]; exact hlt)] at ht; cases ht; rfl)
          have HM := Lib.hid (List.mem_of_getElem? ht)
          clear ht hta ht3 HT2
          have hz := Below.refl wr.heap.size wr
          go_upto_region 5 with (fail)
          apply wp_region_lit
          (with_reducible refine wl_k ?_ ?_); exact rfl; intro K hK; go_simp; refine hK _ ?_; clear hK K
          (first | ((with_reducible apply wl_oneG); exact rfl; exact rfl; first | exact f0 (by with_reducible assumption) | exact f1 (by with_reducible assumption) | exact f2 (by with_reducible assumption) | exact f3 (by with_reducible assumption) | with_reducible assumption | exact g22 (by with_reducible assumption) | exact g25 (by with_reducible assumption)) | ((with_reducible apply wl_rowG); exact rfl; exact rfl; first | with_reducible assumption | exact RowK.now (by with_reducible assumption) | exact f4 (by with_reducible assumption)))
          have lthpq := heap_lt hp; (with_reducible refine wl_all ?_); intro X1 q hbn hlq hq; replace hp := below_look hbn hp; replace hz := hz.trans (hbn.mono hz.size); clear hbn; simp only [put_lit, List.set_cons_zero, List.set_cons_succ]
          (with_reducible refine wl_put rfl rfl hq ?_); rw [put_noneA]; intro X2 hbx hsz hkx hnx; replace hp := (hkx _ (by omega)).trans hp; replace hz := hbx _ _ (by omega) hz; clear hq; have hq := hnx; clear hnx
          clear hbx hkx hsz
          have HK3 := Lib.hid (HK2.out.trans (C' := C) (fun b h => Or.inl h) (Keep.of hz))
          have HW3 := Lib.hid (HW.out.keep HK2.out (C' := C2) (fun b h => (HC2.out b h).imp id (fun h => by omega)))
          have HW4 := Lib.hid (HW3.out.keep (Keep.of hz) (C' := C2) (fun b h => Or.inl h))
          have HI3 := Lib.hid (HV.out.keep wr C2 s2 HI2.out X2 hz)
          have hC := HIH.out t HM.out X2 C2 s2 pf pw D (cell4 k3 s3 n3 A3 l3 c3) HI3.out HW4.out (HTB.out.old hz) (fun b h hc => (HC2.out b hc).elim (HD.out b h) (fun h2 => by have := HLW.out b h; omega))
          have hpw := HW4.out.w
          have hzs := hz.size
          cases hg : visit g t s2 with
          | mk fb s3' =>
            rw [hg] at hC
            have HC := Lib.hid hC
            clear hC
            cases fb with
            | false =>
              have HF : Hid (visit g (.node k s n ts) st = (false, s3')) := Lib.hid (by rw [HR.out, HDR.out, visits, hg])
              clear hg
              go_upto_region 6 with (fail)
              apply wp_region_lit
              (with_reducible apply wl_oneG); exact rfl; exact rfl; exact g51 hpw
              (first | ((with_reducible apply wl_oneG); exact rfl; exact rfl; first | exact f0 (by with_reducible assumption) | exact f1 (by with_reducible assumption) | exact f2 (by with_reducible assumption) | exact f3 (by with_reducible assumption) | with_reducible assumption | exact g22 (by with_reducible assumption) | exact g25 (by with_reducible assumption)) | ((with_reducible apply wl_rowG); exact rfl; exact rfl; first | with_reducible assumption | exact RowK.now (by with_reducible assumption) | exact f4 (by with_reducible assumption)))
              (with_reducible refine wl_ck ?_ ?_); exact rfl; intro K hK; go_simp; refine ⟨_, _, ⟨rfl, rfl⟩, hK _ _ ⟨_, HC.out, ?_⟩⟩; clear hK K; rintro e w7 ⟨rfl, C7, hI7, hk7, hC7⟩; refine ⟨_, rfl, ?_⟩; simp only [put_lit, List.set_cons_zero, List.set_cons_succ]
              have HI7 := Lib.hid hI7
              have HK7 := Lib.hid (HK3.out.trans (C' := C2) (fun b h => (HC2.out b h).imp id (fun h => by omega)) hk7)
              have HC7 := Lib.hid (show ∀ b, C7 b → C b ∨ w.heap.size ≤ b from fun b h => (hC7 b h).elim (fun h => (HC2.out b h).imp id (fun h => by omega)) (fun h => Or.inr (by have := HK3.out.size; omega)))
              clear hI7 hk7 hC7
              (with_reducible refine wl_k ?_ ?_); exact rfl; intro K hK; go_simp; refine hK _ ?_; clear hK K
              go_wp2_with fail
              go_ret
              exact ret_vis (by rw [HF.out]) (by rw [HF.out]; exact HI7.out) HK7.out HC7.out
            | true =>
              have HF : Hid (visit g (.node k s n ts) st = visits g (ts.drop (j + 1)) s3') := Lib.hid (by rw [HR.out, HDR.out, visits, hg])
              clear hg
              go_upto_region 6 with (fail)
              apply wp_region_lit
              (with_reducible apply wl_oneG); exact rfl; exact rfl; exact g51 hpw
              (first | ((with_reducible apply wl_oneG); exact rfl; exact rfl; first | exact f0 (by with_reducible assumption) | exact f1 (by with_reducible assumption) | exact f2 (by with_reducible assumption) | exact f3 (by with_reducible assumption) | with_reducible assumption | exact g22 (by with_reducible assumption) | exact g25 (by with_reducible assumption)) | ((with_reducible apply wl_rowG); exact rfl; exact rfl; first | with_reducible assumption | exact RowK.now (by with_reducible assumption) | exact f4 (by with_reducible assumption)))
              (with_reducible refine wl_ck ?_ ?_); exact rfl; intro K hK; go_simp; refine ⟨_, _, ⟨rfl, rfl⟩, hK _ _ ⟨_, HC.out, ?_⟩⟩; clear hK K; rintro e w7 ⟨rfl, C7, hI7, hk7, hC7⟩; refine ⟨_, rfl, ?_⟩; simp only [put_lit, List.set_cons_zero, List.set_cons_succ]
              have HI7 := Lib.hid (hI7 rfl)
              have HK7 := Lib.hid (HK3.out.trans (C' := C2) (fun b h => (HC2.out b h).imp id (fun h => by omega)) hk7)
              have HC7 := Lib.hid (show ∀ b, C7 b → C b ∨ W.heap.size ≤ b from fun b h => (hC7 b h).elim (fun h => HC2.out b h) (fun h => Or.inr (by omega)))
              have hWS7 := hk7.size
              replace hp := hk7.look hp (fun hc => (HC2.out _ hc).elim (fun h => by have := hCl.out _ h; omega) (fun h => by omega))
              clear hI7 hk7 hC7
              (with_reducible refine wl_k ?_ ?_); exact rfl; intro K hK; go_simp; refine hK _ ?_; clear hK K
              clear hrow hq hpw HC HR HDR HI2 HK2 HC2
              go_wp2_with fail
              go_roundw
              case rel => exact ⟨j + 1, C7, s3', by omega, by go_num, HF, HI7, HK7, HC7, by omega, hp⟩
              case measure => simp [intOf]; omega
        · have hltI : ¬ (j : Int) < (l : Int) := by omega
          have HF : Hid (visit g (.node k s n ts) st = (true, s2)) := Lib.hid (by rw [HR.out, List.drop_of_length_le (by rw [HL.out]; omega), visits])
          clear HR
          go_wp2_with fail
          go_ret
          exact ret_vis (by rw [HF.out]) (fun _ => by rw [HF.out]; exact HI2.out) HK2.out (fun b h => (HC2.out b h).imp id (fun h => by omega))
end
end Go.Proofs.YtokmaehefenpmaaGreatDoor
namespace Go.Proofs.YtokmaehefenpmaaGreatDoor
open Go.RowKit Go.Proofs.YtokmaehefenpmaaGreatDoor.Nm
set_option linter.unusedSimpArgs false
theorem info51 : (Tryz.prog.info? 26).map (·.size) = some 1 := by kernel_rfl
theorem run_box51 (fn : Fn) (f c : Array Value) (w : World) : (Instr.box 26 (.func fn f c)).run Tryz.prog w = .ok (.pointer (some ⟨w.heap.size, 0, none⟩)) (w.alloc (.cells #[.func fn f c] 26)) := by kernel_rfl
theorem run_box4 (b : Bool) (w : World) : (Instr.box 4 (.bool b)).run Tryz.prog w = .ok (.pointer (some ⟨w.heap.size, 0, none⟩)) (w.alloc (.cells #[.bool b] 4)) := by kernel_rfl
theorem ex_alloc51 {o : Oper} (ho : o.op = .alloc 26) (ev : Operand → Value) (w : World) : (execOp ev o).run Tryz.prog w = .ok (.value (.pointer (some ⟨w.heap.size, 0, none⟩))) (w.alloc (.cells #[.nilFunc] 26)) := by
  unfold execOp
  simp only [ho]
  kernel_rfl
theorem ex_alloc3 {o : Oper} (ho : o.op = .alloc 3) (ev : Operand → Value) (w : World) : (execOp ev o).run Tryz.prog w = .ok (.value (.pointer (some ⟨w.heap.size, 0, none⟩))) (w.alloc (.cells #[.int .i64 0] 3)) := by
  unfold execOp
  simp only [ho]
  kernel_rfl
section
variable {ops : Array Oper} {rest : List Oper} {dst : Option Tmp} {ty ty' : TypeId} {x y : Operand} {pos : String} {after : Array Edge} {a : Act} {w : World} {Q : Exit → Act → World → Prop}
theorem wl_box51 {fn : Fn} {f c : Array Value} (hx : a.eval x = .func fn f c)
    (h : ∀ W p, Below w.heap.size w W → w.heap.size ≤ p → W.heap[p]? = some (.cells #[.func fn f c] 26 (0, 0)) → wpList Tryz.prog ops Q rest (a.put dst (.pointer (some ⟨p, 0, none⟩))) W) :
    wpList Tryz.prog ops Q (⟨dst, .box 26 x, ty', pos, after, none⟩ :: rest) a w :=
  wl_w rfl (by unfold execOp; simp [hx, run_box51 fn f c w, Result.andThen]) (h _ _ ((Below.refl _ w).alloc (Nat.le_refl _) _) (Nat.le_refl _) (ha_new rfl))
theorem wl_box4 {b : Bool} (hx : a.eval x = .bool b)
    (h : ∀ W p, Below w.heap.size w W → w.heap.size ≤ p → W.heap[p]? = some (.cells #[.bool b] 4 (0, 0)) → wpList Tryz.prog ops Q rest (a.put dst (.pointer (some ⟨p, 0, none⟩))) W) :
    wpList Tryz.prog ops Q (⟨dst, .box 4 x, ty', pos, after, none⟩ :: rest) a w :=
  wl_w rfl (by unfold execOp; simp [hx, run_box4 b w, Result.andThen]) (h _ _ ((Below.refl _ w).alloc (Nat.le_refl _) _) (Nat.le_refl _) (ha_new rfl))
theorem wl_all51 (h : ∀ W p, Below w.heap.size w W → w.heap.size ≤ p → W.heap[p]? = some (.cells #[.nilFunc] 26 (0, 0)) → wpList Tryz.prog ops Q rest (a.put dst (.pointer (some ⟨p, 0, none⟩))) W) :
    wpList Tryz.prog ops Q (⟨dst, .alloc 26, ty', pos, after, none⟩ :: rest) a w :=
  wl_w rfl (ex_alloc51 rfl _ w) (h _ _ ((Below.refl _ w).alloc (Nat.le_refl _) _) (Nat.le_refl _) (ha_new rfl))
theorem wl_all3 (h : ∀ W p, Below w.heap.size w W → w.heap.size ≤ p → W.heap[p]? = some (.cells #[.int .i64 0] 3 (0, 0)) → wpList Tryz.prog ops Q rest (a.put dst (.pointer (some ⟨p, 0, none⟩))) W) :
    wpList Tryz.prog ops Q (⟨dst, .alloc 3, ty', pos, after, none⟩ :: rest) a w :=
  wl_w rfl (ex_alloc3 rfl _ w) (h _ _ ((Below.refl _ w).alloc (Nat.le_refl _) _) (Nat.le_refl _) (ha_new rfl))
/-- One cell over a variable of one cell. -/
theorem wl_put1 {p : Nat} {v0 v : Value} {t : TypeId} (hi : (Tryz.prog.info? ty).map (·.size) = some 1) (h1 : v.oneCell' = true) (hx : a.eval x = .pointer (some ⟨p, 0, none⟩)) (hy : a.eval y = v) (hp : w.heap[p]? = some (.cells #[v0] t (0, 0)))
    (h : ∀ W, (∀ B w0, B ≤ p → Below B w0 w → Below B w0 W) → W.heap.size = w.heap.size → (∀ g, g ≠ p → W.heap[g]? = w.heap[g]?) → W.heap[p]? = some (.cells #[v] t (0, 0)) → wpList Tryz.prog ops Q rest (a.put none undef) W) :
    wpList Tryz.prog ops Q (⟨none, .store ty x y, ty', pos, after, none⟩ :: rest) a w := by
  refine wl_storeC rfl ty x y rfl p 0 _ hx hy hi h1 (by rw [cell_of_row _ _ _ _ _ _ hp]; rfl) (by unfold World.frozen?; rw [hp]; rfl) ?_
  exact h _ (fun B w0 hB hb => hb.setCell hB _) (by simp [World.setCell]) (fun g hg => heap_setCell_other _ _ _ _ hg) (by rw [hs_new hp]; rfl)
end
section
variable {σ : Type} {Q : Ty → Prop} {K : FuncId} {caps : Array Value} {g : Ty → σ → Bool × σ} {Inv : World → (Nat → Prop) → σ → Prop}
set_option maxHeartbeats 4000000 in
set_option maxRecDepth 100000 in
theorem each_any (hV : VisC Q K caps g Inv) (hQ : ∀ k s n l, Q (.node k s n l) → ∀ u, u ∈ l → Q u) (t : Ty) (hq : Q t) (w : World) (C : Nat → Prop) (st : σ) (D : Nat → Prop) (row : Array Value) (hI : Inv w C st) (h : TyAt w D t row) (hD : ∀ b, D b → ¬ C b) :
    Calls Tryz.prog 23 #[.agg row, .func (.func K) #[] caps] w (VPost Inv C w (visit g t st)) := by
  have hmf : ∀ (fn : Fn) (first cap : Array Value) (w : World), (Instr.makeFunc fn first cap).run Tryz.prog w = .ok (.func fn first cap) w := fun _ _ _ _ => rfl
  obtain ⟨k, s, n, A, l, c, ts, he, rfl, -⟩ := h.parts
  have HT := Lib.hid h
  have HE := Lib.hid (each1_any hV hQ t hq)
  have HV := Lib.hid hV
  have HI := Lib.hid hI
  have HD := Lib.hid hD
  have hCl := Lib.hid (hV.low w C st hI)
  clear h hV hq hI hD he hQ
  have hb := Below.refl w.heap.size w
  go_enter Tryz.func23, Tryz.ntmps23
  go_upto_region 0 with (fail)
  apply wp_region_lit
  (with_reducible refine wl_box rfl ?_); intro W p hbn hlp hp; replace hb := hb.trans (hbn.mono hb.size); clear hbn; simp only [put_lit, List.set_cons_zero, List.set_cons_succ]
  have lthppf := heap_lt hp; (with_reducible refine wl_box51 rfl ?_); intro W1 pf hbn hlpf hpf; replace hp := below_look hbn hp; replace hb := hb.trans (hbn.mono hb.size); clear hbn; simp only [put_lit, List.set_cons_zero, List.set_cons_succ]
  (with_reducible refine wl_k ?_ ?_); exact rfl; intro K hK; go_simp; refine hK _ ?_; clear hK K
  go_upto_region 1 with (fail)
  apply wp_region_lit
  have lthppw := heap_lt hp; have lthpfpw := heap_lt hpf; (with_reducible refine wl_all51 ?_); intro W2 pw hbn hlpw hpw; replace hp := below_look hbn hp; replace hpf := below_look hbn hpf; replace hb := hb.trans (hbn.mono hb.size); clear hbn; simp only [put_lit, List.set_cons_zero, List.set_cons_succ]
  go_upto_region 2 with (fail)
  apply wp_region_lit
  (with_reducible refine wl_k ?_ ?_); exact rfl; intro K hK; go_simp; refine hK _ ?_; clear hK K
  (with_reducible refine wl_put1 (v := .func (.func 36) #[] #[.pointer (some ⟨pf, 0, none⟩), .pointer (some ⟨pw, 0, none⟩)]) info51 ?_ ?_ ?_ hpw ?_); exact rfl; exact rfl; exact rfl; rw [put_noneA]; intro W3 hbx hsz hkx hnx; replace hp := (hkx _ (by omega)).trans hp; replace hpf := (hkx _ (by omega)).trans hpf; replace hb := hbx _ _ (by omega) hb; clear hpw; have hpw := hnx; clear hnx
  clear hbx hkx hsz
  have HC := Lib.hid (HE.out W3 C st pf pw D _ (HV.out.keep w C st HI.out W3 hb) ⟨hpf, hpw, fun hc => by have := hCl.out _ hc; omega, fun hc => by have := hCl.out _ hc; omega⟩ (HT.out.old hb) HD.out)
  go_upto_region 3 with (fail)
  apply wp_region_lit
  (with_reducible apply wl_oneG); exact rfl; exact rfl; exact g51 hpw
  (first | ((with_reducible apply wl_oneG); exact rfl; exact rfl; first | exact f0 (by with_reducible assumption) | exact f1 (by with_reducible assumption) | exact f2 (by with_reducible assumption) | exact f3 (by with_reducible assumption) | with_reducible assumption | exact g22 (by with_reducible assumption) | exact g25 (by with_reducible assumption)) | ((with_reducible apply wl_rowG); exact rfl; exact rfl; first | with_reducible assumption | exact RowK.now (by with_reducible assumption) | exact f4 (by with_reducible assumption)))
  (with_reducible refine wl_ck ?_ ?_); exact rfl; intro K hK; go_simp; refine ⟨_, _, ⟨rfl, rfl⟩, hK _ _ ⟨_, HC.out, ?_⟩⟩; clear hK K; rintro e w7 ⟨rfl, C7, hI7, hk7, hC7⟩; refine ⟨_, rfl, ?_⟩; simp only [put_lit, List.set_cons_zero, List.set_cons_succ]
  have HI7 := Lib.hid hI7
  have HK7 := Lib.hid ((Keep.of hb).trans (fun b h => Or.inl h) hk7)
  have HC7 := Lib.hid (show ∀ b, C7 b → C b ∨ w.heap.size ≤ b from fun b h => (hC7 b h).imp id (fun h => by have := hb.size; omega))
  clear hI7 hk7 hC7 hp hpf hpw
  (with_reducible refine wl_k ?_ ?_); exact rfl; intro K hK; go_simp; refine hK _ ?_; clear hK K
  go_wp2_with fail
  go_ret
  exact ret_vis rfl HI7.out HK7.out HC7.out
end
theorem g3 {w : World} {p : Nat} {v : Value} {t : TypeId} {fr : Nat × Nat} (h : w.heap[p]? = some (.cells #[v] t fr)) : OneAt w 3 ⟨p, 0, none⟩ v := one_of u3 rfl (by rw [cell_of_row _ _ _ _ _ _ h]; rfl)
theorem g4 {w : World} {p : Nat} {v : Value} {t : TypeId} {fr : Nat × Nat} (h : w.heap[p]? = some (.cells #[v] t fr)) : OneAt w 4 ⟨p, 0, none⟩ v := one_of u4 rfl (by rw [cell_of_row _ _ _ _ _ _ h]; rfl)
theorem ent103 : Enters Tryz.prog 33 := enters_of Tryz.func33 (by kernel_rfl) rfl
/-- What 'right' does at a node. -/
def stepR (f : Ty → Bool) (t : Ty) (left : Int) : Bool × Int := (if 0 ≤ left - 1 ∧ f t = true then true else false, left - 1)
/-- The counter of 'right', its variable and that of 'open'. -/
def InvR (op : Bool) (pl po : Nat) (w : World) (C : Nat → Prop) (left : Int) : Prop :=
  w.heap[pl]? = some (.cells #[.int .i64 left] 3 (0, 0)) ∧ w.heap[po]? = some (.cells #[.bool op] 4 (0, 0)) ∧ pl ≠ po ∧ (∀ b, C b ↔ b = pl) ∧ 0 ≤ left ∧ left ≤ 1000
def ShC (op : Bool) (f : Ty → Bool) (t : Ty) : Prop := ∀ (w : World) (D : Nat → Prop) (row : Array Value), TyAt w D t row → Calls Tryz.prog 34 #[.agg row, .bool op] w fun e w' => e = .returned (.bool (f t)) ∧ Below w.heap.size w w'
theorem stepR_eq (f : Ty → Bool) (k : Int) (s : ByteArray) (n : Int) (l : List Ty) (left : Int) : stepR f (.node k s n l) left = if 0 ≤ left - 1 ∧ f (.node k s n l) = true then (true, left - 1) else (false, left - 1) := by
  unfold stepR; split <;> rfl
theorem stepR_ok (f : Ty → Bool) (t : Ty) {left : Int} (h : 0 ≤ left - 1) : (stepR f t left).1 = f t := by
  unfold stepR
  cases hf : f t with
  | true => rw [if_pos ⟨h, rfl⟩]
  | false => rw [if_neg (fun hh => by cases hh.2)]
theorem visit_chk (f : Ty → Bool) : ∀ (t : Ty) (left : Int), visit (stepR f) t left = chk f t left := Ty.ind fun k s n l ih left => by
  have hl : ∀ (l : List Ty), (∀ t, t ∈ l → ∀ left, visit (stepR f) t left = chk f t left) → ∀ left, visits (stepR f) l left = chks f l left := by
    intro l
    induction l with
    | nil => intro _ left; rfl
    | cons t l ihl =>
      intro h left
      simp only [visits, chks, h t (by simp)]
      cases chk f t left with
      | mk b x => cases b with
        | false => rfl
        | true => exact ihl (fun t ht => h t (by simp [ht])) x
  simp only [visit, chk, stepR_eq]
  by_cases hc : 0 ≤ left - 1 ∧ f (.node k s n l) = true
  · rw [if_pos hc, if_pos hc]; exact hl l ih _
  · rw [if_neg hc, if_neg hc]
set_option maxHeartbeats 4000000 in
set_option maxRecDepth 100000 in
theorem right1_any (op : Bool) (f : Ty → Bool) (pl po : Nat) (left : Int) (hleft : -1000 ≤ left ∧ left ≤ 1000) (t : Ty) (hS : ShC op f t) (w : World) (C : Nat → Prop) (hl : w.heap[pl]? = some (.cells #[.int .i64 left] 3 (0, 0))) (ho : w.heap[po]? = some (.cells #[.bool op] 4 (0, 0))) (hne : pl ≠ po) (hCl : C pl) (D : Nat → Prop) (row : Array Value) (h : TyAt w D t row) (hD : ∀ b, D b → ¬ C b) :
    Calls Tryz.prog 33 #[.agg row, .pointer (some ⟨pl, 0, none⟩), .pointer (some ⟨po, 0, none⟩)] w fun e w' => e = .returned (.bool (stepR f t left).1) ∧ w'.heap[pl]? = some (.cells #[.int .i64 (left - 1)] 3 (0, 0)) ∧ w'.heap[po]? = some (.cells #[.bool op] 4 (0, 0)) ∧ Keep C w w' := by
  obtain ⟨k, s, n, A, l, c, ts, he, rfl, -⟩ := h.parts
  have HT := Lib.hid h
  have HS := Lib.hid hS
  have HD := Lib.hid hD
  obtain ⟨h1, h2⟩ := hleft
  clear h hS hD he
  have hb := Below.refl w.heap.size w
  go_enter Tryz.func33, Tryz.ntmps33
  go_upto_region 0 with (fail)
  apply wp_region_lit
  have lthlp := heap_lt hl; have lthop := heap_lt ho; (with_reducible refine wl_box rfl ?_); intro W p hbn hlp hp; replace hl := below_look hbn hl; replace ho := below_look hbn ho; replace hb := hb.trans (hbn.mono hb.size); clear hbn; simp only [put_lit, List.set_cons_zero, List.set_cons_succ]
  (with_reducible refine wl_k ?_ ?_); exact rfl; intro K hK; go_simp; refine hK _ ?_; clear hK K
  have hTW := HT.out.old hb
  have HKP := Lib.hid (Keep.of (C := C) hb)
  go_upto_region 1 with (fail)
  apply wp_region_lit
  ((with_reducible apply wl_oneG); exact rfl; exact rfl; exact g3 hl)
  simp only [put_lit, List.set_cons_zero, List.set_cons_succ]
  have hwr : IntKind.i64.wrap (left - 1) = left - 1 := IntWalk.i64_in _ (by omega)
  (with_reducible refine wl_k ?_ ?_); exact rfl; intro K hK; go_simp; refine hK _ ?_; clear hK K
  clear hwr
  (with_reducible refine wl_put1 (v := .int .i64 (left - 1)) info3 ?_ ?_ ?_ hl ?_); exact rfl; exact rfl; exact rfl; rw [put_noneA]; intro W2 hbx hsz hkx hnx; replace ho := (hkx _ (by omega)).trans ho; replace hp := (hkx _ (by omega)).trans hp; clear hl; have hl := hnx; clear hnx
  have HTW := Lib.hid ((hTW.low.mono (w' := W2) (fun _ h => h) (fun b hb => hkx b (fun e => HD.out b hb.1 (by rw [e]; exact hCl)))).weak (D' := D) fun b h => h.1)
  replace HKP := Lib.hid (HKP.out.trans (C' := C) (fun b h => Or.inl h) (w2 := W2) ⟨(hbx 0 W (Nat.zero_le _) (Below.refl _ _)).os, (hbx 0 W (Nat.zero_le _) (Below.refl _ _)).tape, (hbx 0 W (Nat.zero_le _) (Below.refl _ _)).output, (hbx 0 W (Nat.zero_le _) (Below.refl _ _)).size, fun b _ hn => hkx b (fun e => hn (by rw [e]; exact hCl))⟩)
  clear hbx hkx hsz hTW hb
  by_cases h3 : 0 ≤ left - 1
  · have e3 : (left - 1) ≥ 0 := h3
    have e4 : 1 ≤ left := by omega
    have hC := HS.out W2 D _ HTW.out
    have HR : Hid ((stepR f t left).1 = f t) := Lib.hid (stepR_ok f t h3)
    obtain ⟨fb, hfb⟩ : ∃ fb, fb = f t := ⟨_, rfl⟩
    rw [← hfb] at HR hC
    have HC := Lib.hid hC
    clear hC hfb
    go_upto_region 2 with (fail)
    apply wp_region_lit
    (with_reducible apply wl_oneG); exact rfl; exact rfl; exact g3 hl
    (with_reducible refine wl_k ?_ ?_); exact rfl; intro K hK; go_simp; refine hK _ ?_; clear hK K
    (with_reducible refine wl_k ?_ ?_); exact rfl; intro K hK; go_simp; refine hK _ ?_; clear hK K
    (first | ((with_reducible apply wl_oneG); exact rfl; exact rfl; first | exact f0 (by with_reducible assumption) | exact f1 (by with_reducible assumption) | exact f2 (by with_reducible assumption) | exact f3 (by with_reducible assumption) | with_reducible assumption | exact g22 (by with_reducible assumption) | exact g25 (by with_reducible assumption)) | ((with_reducible apply wl_rowG); exact rfl; exact rfl; first | with_reducible assumption | exact RowK.now (by with_reducible assumption) | exact f4 (by with_reducible assumption)))
    (with_reducible apply wl_oneG); exact rfl; exact rfl; exact g4 ho
    (with_reducible refine wl_ck ?_ ?_); exact rfl; intro K hK; go_simp; refine ⟨_, _, ⟨rfl, rfl⟩, hK _ _ ⟨_, HC.out, ?_⟩⟩; clear hK K; rintro e w7 ⟨rfl, hb7⟩; refine ⟨_, rfl, ?_⟩; simp only [put_lit, List.set_cons_zero, List.set_cons_succ]
    (with_reducible refine wl_k ?_ ?_); exact rfl; intro K hK; go_simp; refine hK _ ?_; clear hK K
    (with_reducible refine wl_k ?_ ?_); exact rfl; intro K hK; go_simp; refine hK _ ?_; clear hK K
    replace HKP := Lib.hid (HKP.out.trans (C' := C) (fun b h => Or.inl h) (Keep.of hb7))
    replace hl := below_look hb7 hl; replace ho := below_look hb7 ho; clear hb7
    have HL := Lib.hid hl
    have HO := Lib.hid ho
    clear hl ho hp HC
    go_wp2_with fail
    go_ret
    exact ⟨by rw [HR.out]; rfl, HL.out, HO.out, HKP.out⟩
  · have e3 : ¬ (left - 1) ≥ 0 := h3
    have e4 : ¬ 1 ≤ left := by omega
    have e5 : left < 1 := by omega
    have HR : Hid ((stepR f t left).1 = false) := Lib.hid (by
      unfold stepR
      rw [if_neg (fun h => h3 h.1)])
    have HL := Lib.hid hl
    have HO := Lib.hid ho
    go_upto_region 2 with (fail)
    apply wp_region_lit
    (with_reducible apply wl_oneG); exact rfl; exact rfl; exact g3 hl
    (with_reducible refine wl_k ?_ ?_); exact rfl; intro K hK; go_simp; refine hK _ ?_; clear hK K
    (with_reducible refine wl_k ?_ ?_); exact rfl; intro K hK; go_simp; refine hK _ ?_; clear hK K
    (first | ((with_reducible refine wl_skipU ?_ ?_ ?_); exact rfl; exact rfl) | ((with_reducible refine wl_skip ?_ ?_); exact rfl; simp only [put_lit, List.set_cons_zero, List.set_cons_succ]))
    (first | ((with_reducible refine wl_skipU ?_ ?_ ?_); exact rfl; exact rfl) | ((with_reducible refine wl_skip ?_ ?_); exact rfl; simp only [put_lit, List.set_cons_zero, List.set_cons_succ]))
    (first | ((with_reducible refine wl_skipU ?_ ?_ ?_); exact rfl; exact rfl) | ((with_reducible refine wl_skip ?_ ?_); exact rfl; simp only [put_lit, List.set_cons_zero, List.set_cons_succ]))
    (with_reducible refine wl_k ?_ ?_); exact rfl; intro K hK; go_simp; refine hK _ ?_; clear hK K
    (with_reducible refine wl_k ?_ ?_); exact rfl; intro K hK; go_simp; refine hK _ ?_; clear hK K
    clear hl ho hp
    go_wp2_with fail
    go_ret
    exact ⟨by rw [HR.out]; rfl, HL.out, HO.out, HKP.out⟩
theorem visC_right (op : Bool) (f : Ty → Bool) (Q : Ty → Prop) (hS : ∀ t, Q t → ShC op f t) (pl po : Nat) : VisC Q 33 #[.pointer (some ⟨pl, 0, none⟩), .pointer (some ⟨po, 0, none⟩)] (stepR f) (InvR op pl po) where
  ent := ent103
  low := fun w C s hI b hb => by rw [(hI.2.2.2.1 b).1 hb]; exact heap_lt hI.1
  keep := fun w C s hI w' hb => ⟨below_look hb hI.1, below_look hb hI.2.1, hI.2.2⟩
  run := fun w C s hI t hq D row h hD => by
    obtain ⟨h1, h2, h3, h4, h5, h6⟩ := hI
    refine (right1_any op f pl po s ⟨by omega, h6⟩ t (hS t hq) w C h1 h2 h3 ((h4 pl).2 rfl) D row h hD).mono ?_
    rintro e w' ⟨rfl, g1, g2, g3⟩
    refine ⟨rfl, C, fun hr => ⟨by simpa [stepR] using g1, g2, h3, h4, ?_, ?_⟩, g3, fun b h => Or.inl h⟩
    · unfold stepR at hr
      split at hr
      · rename_i hh; exact hh.1
      · cases hr
    · simp only [stepR]; omega
set_option maxHeartbeats 4000000 in
set_option maxRecDepth 100000 in
theorem right_any (op : Bool) (f : Ty → Bool) (Q : Ty → Prop) (hS : ∀ t, Q t → ShC op f t) (hQ : ∀ k s n l, Q (.node k s n l) → ∀ u, u ∈ l → Q u) (t : Ty) (hq : Q t) (w : World) (D : Nat → Prop) (row : Array Value) (h : TyAt w D t row) :
    Calls Tryz.prog 21 #[.agg row, .bool op] w fun e w' => e = .returned (.bool (chk f t 40).1) ∧ Below w.heap.size w w' := by
  have hmf : ∀ (fn : Fn) (first cap : Array Value) (w : World), (Instr.makeFunc fn first cap).run Tryz.prog w = .ok (.func fn first cap) w := fun _ _ _ _ => rfl
  obtain ⟨D0, h0, hlow⟩ : ∃ D : Nat → Prop, TyAt w D t row ∧ ∀ b, D b → b < w.heap.size := ⟨fun b => D b ∧ b < w.heap.size, h.low, fun b hb => hb.2⟩
  obtain ⟨k, s, n, A, l, c, ts, he, rfl, -⟩ := h.parts
  have HT := Lib.hid h0
  have HLW := Lib.hid hlow
  have HE := Lib.hid fun pl po w C z => each_any (visC_right op f Q hS pl po) hQ t hq w C z D0 (cell4 k s n A l c)
  clear h h0 hlow hq hS hQ he
  have hb := Below.refl w.heap.size w
  go_enter Tryz.func21, Tryz.ntmps21
  go_upto_region 0 with (fail)
  apply wp_region_lit
  (with_reducible refine wl_box rfl ?_); intro W p hbn hlp hp; replace hb := hb.trans (hbn.mono hb.size); clear hbn; simp only [put_lit, List.set_cons_zero, List.set_cons_succ]
  have lthppo := heap_lt hp; (with_reducible refine wl_box4 rfl ?_); intro W1 po hbn hlpo hpo; replace hp := below_look hbn hp; replace hb := hb.trans (hbn.mono hb.size); clear hbn; simp only [put_lit, List.set_cons_zero, List.set_cons_succ]
  (with_reducible refine wl_k ?_ ?_); exact rfl; intro K hK; go_simp; refine hK _ ?_; clear hK K
  go_upto_region 1 with (fail)
  apply wp_region_lit
  have lthppl := heap_lt hp; have lthpopl := heap_lt hpo; (with_reducible refine wl_all3 ?_); intro W2 pl hbn hlpl hpl; replace hp := below_look hbn hp; replace hpo := below_look hbn hpo; replace hb := hb.trans (hbn.mono hb.size); clear hbn; simp only [put_lit, List.set_cons_zero, List.set_cons_succ]
  (with_reducible refine wl_put1 (v := .int .i64 40) info3 ?_ ?_ ?_ hpl ?_); exact rfl; exact rfl; exact rfl; rw [put_noneA]; intro W3 hbx hsz hkx hnx; replace hp := (hkx _ (by omega)).trans hp; replace hpo := (hkx _ (by omega)).trans hpo; replace hb := hbx _ _ (by omega) hb; clear hpl; have hpl := hnx; clear hnx
  clear hbx hkx hsz
  have hlt := heap_lt hpl
  have HC := Lib.hid (HE.out pl po W3 (fun b => b = pl) 40 ⟨hpl, hpo, by omega, fun b => Iff.rfl, by omega, by omega⟩ (HT.out.old hb) (fun b hb e => by have := HLW.out b hb; omega))
  go_upto_region 2 with (fail)
  apply wp_region_lit
  (first | ((with_reducible apply wl_oneG); exact rfl; exact rfl; first | exact f0 (by with_reducible assumption) | exact f1 (by with_reducible assumption) | exact f2 (by with_reducible assumption) | exact f3 (by with_reducible assumption) | with_reducible assumption | exact g22 (by with_reducible assumption) | exact g25 (by with_reducible assumption)) | ((with_reducible apply wl_rowG); exact rfl; exact rfl; first | with_reducible assumption | exact RowK.now (by with_reducible assumption) | exact f4 (by with_reducible assumption)))
  (with_reducible refine wl_k ?_ ?_); exact rfl; intro K hK; go_simp; refine hK _ ?_; clear hK K
  (with_reducible refine wl_ck ?_ ?_); exact rfl; intro K hK; go_simp; refine ⟨_, _, ⟨rfl, rfl⟩, hK _ _ ⟨_, HC.out, ?_⟩⟩; clear hK K; rintro e w7 ⟨rfl, C7, -, hk7, -⟩; refine ⟨_, rfl, ?_⟩; simp only [put_lit, List.set_cons_zero, List.set_cons_succ]
  (with_reducible refine wl_k ?_ ?_); exact rfl; intro K hK; go_simp; refine hK _ ?_; clear hK K
  have hb7 : Below w.heap.size w w7 := hb.trans ⟨hk7.os, hk7.tape, hk7.output, hk7.size, fun b hlt2 => hk7.block b (by have := hb.size; omega) (by omega)⟩
  have HR : Hid ((visit (stepR f) t 40).1 = (chk f t 40).1) := Lib.hid (by rw [visit_chk])
  clear hk7 hp hpo hpl HC
  go_wp2_with fail
  go_ret
  exact ⟨by rw [← HR.out]; rfl, hb7⟩
/-- Open and Valid. -/
theorem Open_any (f : Ty → Bool) (Q : Ty → Prop) (hS : ∀ t, Q t → ShC true f t) (hQ : ∀ k s n l, Q (.node k s n l) → ∀ u, u ∈ l → Q u) (t : Ty) (hq : Q t) (w : World) (D : Nat → Prop) (row : Array Value) (h : TyAt w D t row) :
    Calls Tryz.prog 7 #[.agg row] w fun e w' => e = .returned (.bool (chk f t 40).1) ∧ Below w.heap.size w w' := by
  obtain ⟨k, s, n, A, l, c, ts, he, rfl, -⟩ := h.parts
  have HT := Lib.hid h
  have HE := Lib.hid fun w D => right_any true f Q hS hQ t hq w D (cell4 k s n A l c)
  clear h hS hQ hq he
  have hb := Below.refl w.heap.size w
  go_enter Tryz.func7, Tryz.ntmps7
  go_upto_region 0 with (fail)
  apply wp_region_lit
  (with_reducible refine wl_box rfl ?_); intro W p hbn hlp hp; replace hb := hb.trans (hbn.mono hb.size); clear hbn; simp only [put_lit, List.set_cons_zero, List.set_cons_succ]
  (with_reducible refine wl_k ?_ ?_); exact rfl; intro K hK; go_simp; refine hK _ ?_; clear hK K
  have HC := Lib.hid (HE.out W D (HT.out.old hb))
  go_upto_region 1 with (fail)
  apply wp_region_lit
  (first | ((with_reducible apply wl_oneG); exact rfl; exact rfl; first | exact f0 (by with_reducible assumption) | exact f1 (by with_reducible assumption) | exact f2 (by with_reducible assumption) | exact f3 (by with_reducible assumption) | with_reducible assumption | exact g22 (by with_reducible assumption) | exact g25 (by with_reducible assumption)) | ((with_reducible apply wl_rowG); exact rfl; exact rfl; first | with_reducible assumption | exact RowK.now (by with_reducible assumption) | exact f4 (by with_reducible assumption)))
  (with_reducible refine wl_ck ?_ ?_); exact rfl; intro K hK; go_simp; refine ⟨_, _, ⟨rfl, rfl⟩, hK _ _ ⟨_, HC.out, ?_⟩⟩; clear hK K; rintro e w7 ⟨rfl, hb7⟩; refine ⟨_, rfl, ?_⟩; simp only [put_lit, List.set_cons_zero, List.set_cons_succ]
  (with_reducible refine wl_k ?_ ?_); exact rfl; intro K hK; go_simp; refine hK _ ?_; clear hK K
  replace hb := hb.trans (hb7.mono hb.size); clear hb7
  clear hp HC
  go_wp2_with fail
  go_ret
  exact ⟨rfl, hb⟩
theorem Valid_any (f : Ty → Bool) (Q : Ty → Prop) (hS : ∀ t, Q t → ShC false f t) (hQ : ∀ k s n l, Q (.node k s n l) → ∀ u, u ∈ l → Q u) (t : Ty) (hq : Q t) (w : World) (D : Nat → Prop) (row : Array Value) (h : TyAt w D t row) :
    Calls Tryz.prog 5 #[.agg row] w fun e w' => e = .returned (.bool (chk f t 40).1) ∧ Below w.heap.size w w' := by
  obtain ⟨k, s, n, A, l, c, ts, he, rfl, -⟩ := h.parts
  have HT := Lib.hid h
  have HE := Lib.hid fun w D => right_any false f Q hS hQ t hq w D (cell4 k s n A l c)
  clear h hS hQ hq he
  have hb := Below.refl w.heap.size w
  go_enter Tryz.func5, Tryz.ntmps5
  go_upto_region 0 with (fail)
  apply wp_region_lit
  (with_reducible refine wl_box rfl ?_); intro W p hbn hlp hp; replace hb := hb.trans (hbn.mono hb.size); clear hbn; simp only [put_lit, List.set_cons_zero, List.set_cons_succ]
  (with_reducible refine wl_k ?_ ?_); exact rfl; intro K hK; go_simp; refine hK _ ?_; clear hK K
  have HC := Lib.hid (HE.out W D (HT.out.old hb))
  go_upto_region 1 with (fail)
  apply wp_region_lit
  (first | ((with_reducible apply wl_oneG); exact rfl; exact rfl; first | exact f0 (by with_reducible assumption) | exact f1 (by with_reducible assumption) | exact f2 (by with_reducible assumption) | exact f3 (by with_reducible assumption) | with_reducible assumption | exact g22 (by with_reducible assumption) | exact g25 (by with_reducible assumption)) | ((with_reducible apply wl_rowG); exact rfl; exact rfl; first | with_reducible assumption | exact RowK.now (by with_reducible assumption) | exact f4 (by with_reducible assumption)))
  (with_reducible refine wl_ck ?_ ?_); exact rfl; intro K hK; go_simp; refine ⟨_, _, ⟨rfl, rfl⟩, hK _ _ ⟨_, HC.out, ?_⟩⟩; clear hK K; rintro e w7 ⟨rfl, hb7⟩; refine ⟨_, rfl, ?_⟩; simp only [put_lit, List.set_cons_zero, List.set_cons_succ]
  (with_reducible refine wl_k ?_ ?_); exact rfl; intro K hK; go_simp; refine hK _ ?_; clear hK K
  replace hb := hb.trans (hb7.mono hb.size); clear hb7
  clear hp HC
  go_wp2_with fail
  go_ret
  exact ⟨rfl, hb⟩
end Go.Proofs.YtokmaehefenpmaaGreatDoor
