/- Steps of plain and drawn regions, for any texts of this seat (as in the writer's texts of another seat). T1, T2, T3, T4 in one text. S2, S3 in one text. A key looked for in a table, and an entry taken out, by the program. An entry taken out of a table, by the program. -/
import Derived.Test.YtbhdgeoljlhmcaaRows
import Derived.WalkKit
import Derived.WalkLawsBesides
import Derived.WalkSpells
import Derived.Deep.Quiet
import Derived.StillTail
import Derived.Deep.QuietTactic
import Derived.Deep.MidRow
import Derived.BigQuiet
import Derived.Lib.Hide
import Derived.Deep.Cut
import Derived.ChangeKeysEq
import Derived.Laws.StructEq
import Derived.Deep.RegionHeld
import Derived.Outline
import Derived.IntWalk
namespace Go.Proofs.Ytbhdgeoljlhmcaa.Nm
open Go.RowKit

/-- 64 cells of one byte each. -/
def row (f : Nat → Nat) : Array Value := ((List.range 64).map fun i => Value.int .u8 (f i : Int)).toArray
theorem heap_lt {w : World} {g : Nat} {o : Obj} (h : w.heap[g]? = some o) : g < w.heap.size := (Array.getElem?_eq_some_iff.1 h).1

theorem below_cells {B : Nat} {w w' : World} (h : Below B w w') {g : Nat} (hg : g < B) {o : Obj} (ho : w.heap[g]? = some o) : w'.heap[g]? = some o := by rw [h.block g hg, ho]

theorem ha_new {w : World} {o : Obj} {k : Nat} (h : k = w.heap.size) : (w.alloc o).heap[k]? = some o := by subst h; exact heap_alloc_new w o
theorem ha_old {w : World} {o x : Obj} {k : Nat} (h : w.heap[k]? = some x) : (w.alloc o).heap[k]? = some x := by rw [heap_alloc_old w o (heap_lt h)]; exact h
theorem hs_old {w : World} {a : Addr} {v : Value} {x : Obj} {k : Nat} (h : w.heap[k]? = some x) (hne : k ≠ a.block) : (w.setCell a v).heap[k]? = some x := by rw [heap_setCell_other _ _ _ _ hne]; exact h
theorem hs_new {w : World} {g i : Nat} {cs : Array Value} {t : TypeId} {v : Value} (h : w.heap[g]? = some (.cells cs t (0, 0))) : (w.setCell ⟨g, i, none⟩ v).heap[g]? = some (.cells (cs.setIfInBounds i v) t (0, 0)) := heap_setCell_same w g i cs t v h
theorem hr_old {w : World} {g k : Nat} {cs : Array Value} {x : Obj} (h : w.heap[k]? = some x) (hne : k ≠ g) : (w.setRow g cs).heap[k]? = some x := by rw [setRow_other _ _ _ _ hne]; exact h
theorem hr_new {w : World} {g : Nat} {old cs : Array Value} {t : TypeId} (h : w.heap[g]? = some (.cells old t (0, 0))) : (w.setRow g cs).heap[g]? = some (.cells cs t (0, 0)) := setRow_heap w g old cs t (0, 0) h
theorem below_setRow {B : Nat} {a w : World} (h : Below B a w) {g : Nat} (hg : B ≤ g) (cs : Array Value) : Below B a (w.setRow g cs) :=
  h.trans ⟨by simp, rfl, rfl, by simp, fun k hk => setRow_other w g k cs (by omega)⟩
theorem below_drewN {B : Nat} {a w : World} (h : Below B a w) (n : Nat) : Below B a (w.drewN n) :=
  ⟨h.os, h.tape, h.output, h.size, h.block⟩
end Go.Proofs.Ytbhdgeoljlhmcaa.Nm
namespace Go.Proofs.Ytbhdgeoljlhmcaa.Nm
open Go.RowKit

section
variable {P : Program} {ops : Array Oper} {md : Region.Mode} {C : World → Prop}

end

section
variable {P : Program}
end

section
variable {P : Program}
/-- An operation of a plain region that yields a value and leaves the world. -/
theorem wl_val {ops : Array Oper} {rest : List Oper} {o : Oper} {a : Act} {w : World} {Q : Exit → Act → World → Prop} {v : Value} (hg : o.guard = none) (hv : (execOp a.eval o).run P w = .ok (.value v) w)
    (h : wpList P ops Q rest (a.put o.dst v) w) : wpList P ops Q (o :: rest) a w :=
  wpList_plain hg fun K hK => by unfold Oper.wp; rw [hv]; exact hK _ _ h
end

section
variable {P : Program}
/-- The world of a goal under a name, with what is known of it. -/
theorem wp_world {c : Code} {Q : Exit → Act → World → Prop} {a : Act} {w : World} (F : World → Prop) (hF : F w) (h : ∀ W, F W → c.wp P Q a W) : c.wp P Q a w := h w hF
theorem put_lit (l : List Value) (df : List Deferred) (d : Nat) (v : Value) : (Act.mk l.toArray df).put (some d) v = Act.mk (l.set d v).toArray df := by simp [Act.put]
theorem Zp (l : List Value) (df : List Deferred) (d : Nat) (v : Value) : (Act.mk l.toArray df).put (some d) v = Act.mk (l.set d v).toArray df := put_lit l df d v
theorem Zz {α : Type} {x a : α} {xs : List α} : (x :: xs).set 0 a = a :: xs := rfl
theorem Zs {α : Type} {x a : α} {xs : List α} {n : Nat} : (x :: xs).set (n + 1) a = x :: xs.set n a := rfl
theorem Za {α : Type} {xs : List α} {i : Nat} (h : i < xs.toArray.size) : xs.toArray[i] = xs[i]'(by simpa using h) := List.getElem_toArray h
theorem Zb {α : Type} {a : α} {l : List α} {i : Nat} (h : i + 1 < (a :: l).length) : (a :: l)[i + 1] = l[i]'(Nat.lt_of_succ_lt_succ h) := rfl
theorem Zc {α : Type} {a : α} {l : List α} (h : 0 < (a :: l).length) : (a :: l)[0] = a := rfl
theorem Zq : (∀ (l : List Value) (df : List Deferred) (d : Nat) (v : Value), (Act.mk l.toArray df).put (some d) v = Act.mk (l.set d v).toArray df) ∧ (∀ {α : Type} {x a : α} {xs : List α}, (x :: xs).set 0 a = a :: xs) ∧ (∀ {α : Type} {x a : α} {xs : List α} {n : Nat}, (x :: xs).set (n + 1) a = x :: xs.set n a) := ⟨Zp, Zz, Zs⟩
theorem Zy : (∀ {α : Type} {xs : List α} {i : Nat} (h : i < xs.toArray.size), xs.toArray[i] = xs[i]'(by simpa using h)) ∧ (∀ {α : Type} {a : α} {l : List α} {i : Nat} (h : i + 1 < (a :: l).length), (a :: l)[i + 1] = l[i]'(Nat.lt_of_succ_lt_succ h)) ∧ (∀ {α : Type} {a : α} {l : List α} (h : 0 < (a :: l).length), (a :: l)[0] = a) ∧ (∀ (l : List Value) (df : List Deferred) (d : Nat) (v : Value), (Act.mk l.toArray df).put (some d) v = Act.mk (l.set d v).toArray df) ∧ (∀ {α : Type} {x a : α} {xs : List α}, (x :: xs).set 0 a = a :: xs) ∧ (∀ {α : Type} {x a : α} {xs : List α} {n : Nat}, (x :: xs).set (n + 1) a = x :: xs.set n a) := ⟨Za, Zb, Zc, Zp, Zz, Zs⟩
theorem Zh {A B C D : Type} {p : A → B → C → D → Prop} (v : A) (c : B) (a : C) (w : D) (h : p v c a w) : p v c a w := h
theorem Zg {B C D : Type} {p : B → C → D → Prop} (c : B) (a : C) (w : D) (h : p c a w) : p c a w := h
theorem below_look {W w' : World} (h : Below W.heap.size W w') {g : Nat} {o : Obj} (ho : W.heap[g]? = some o) : w'.heap[g]? = some o := below_cells h (heap_lt ho) ho
theorem below_cell {W w' : World} (h : Below W.heap.size W w') {p : Addr} {v : Value} (hc : W.cell? p = some v) : w'.cell? p = some v := by rw [h.cell (block_lt_of_cell hc)]; exact hc
end

end Go.Proofs.Ytbhdgeoljlhmcaa.Nm
namespace Go.Proofs.Ytbhdgeoljlhmcaa
open Go.RowKit Nm

theorem u4 : Try.prog.underlying 4 = some .bool := by kernel_rfl
theorem mixed : Try.prog.follows .mixedOrders = true := by kernel_rfl
theorem ex_build {ev : Operand → Value} {o : Oper} {w : World} (t : TypeId) (parts : Array (Nat × Operand)) (ho : o.op = .build t parts) {D : Array Value} {L : List (Nat × Value)}
    (hL : parts.toList.map (fun ix => (ix.1, ev ix.2)) = L) (hb : Try.prog.built t L = some D) : (execOp ev o).run Try.prog w = .ok (.value (.agg D)) w := by
  unfold execOp
  have := run_build (P := Try.prog) w t (parts.map fun (i, x) => (i, ev x)) D (by rw [Array.toList_map]; exact (congrArg _ hL).trans hb)
  simp only [ho, Sem.run_bind, this, Result.andThen_ok]
  rfl

/-- What a load of many cells hands back; of one. -/
@[irreducible] def RowAt (w : World) (ty : TypeId) (ad : Addr) (D : Array Value) : Prop := (loadVar ty ad).run Try.prog w = .ok (.agg D) w
@[irreducible] def OneAt (w : World) (ty : TypeId) (ad : Addr) (v : Value) : Prop := (loadVar ty ad).run Try.prog w = .ok v w
theorem ex_row {ev : Operand → Value} {dst : Option Tmp} {ty ty' : TypeId} {x : Operand} {pos : String} {after : Array Edge} {g : Option (Nat × Bool)} {w : World} {ad : Addr} {D : Array Value} (hx : ev x = .pointer (some ad)) (hr : RowAt w ty ad D) :
    (execOp ev ⟨dst, .load ty x, ty', pos, after, g⟩).run Try.prog w = .ok (.value (.agg D)) w := by
  unfold execOp
  simp only [hx, Instr.loadAt, Instr.sureAddr, Sem.run_bind, Sem.run_pure, Result.andThen_ok]
  unfold RowAt at hr
  rw [hr]
  rfl
theorem ex_one {ev : Operand → Value} {dst : Option Tmp} {ty ty' : TypeId} {x : Operand} {pos : String} {after : Array Edge} {g : Option (Nat × Bool)} {w : World} {ad : Addr} {v : Value} (hx : ev x = .pointer (some ad)) (hr : OneAt w ty ad v) :
    (execOp ev ⟨dst, .load ty x, ty', pos, after, g⟩).run Try.prog w = .ok (.value v) w := by
  unfold execOp
  simp only [hx, Instr.loadAt, Instr.sureAddr, Sem.run_bind, Sem.run_pure, Result.andThen_ok]
  unfold OneAt at hr
  rw [hr]
  rfl
section
variable {ops : Array Oper} {rest : List Oper} {dst : Option Tmp} {ty ty' : TypeId} {x : Operand} {pos : String} {after : Array Edge} {g : Option (Nat × Bool)} {a : Act} {w : World} {Q : Exit → Act → World → Prop} {q : Act → Prop} {C : World → Prop} {ad : Addr} {D : Array Value} {v : Value}
end
theorem row_mid {w : World} {ty : TypeId} {b off n : Nat} {Cs : Array Value} {t : TypeId} {fr : Nat × Nat} (hb : w.heap[b]? = some (.cells Cs t fr)) {D : Array Value} (hD : Cs.extract off (off + n) = D) {d : TypeDesc}
    (hu : Try.prog.underlying ty = some d) (hd : d.isRow = true) (hn : D.size = n) (hi : (Try.prog.info? ty).map (·.size) = some n) : RowAt w ty ⟨b, off, none⟩ D := by
  have h := World.rangeAt_of_block hb off n
  rw [hD] at h
  have := run_loadVar_mid (P := Try.prog) w b off ty D.toList d h hu hd (by rw [hi]; simp [hn])
  unfold RowAt
  rw [this]
open Go.RowKit Nm

namespace Nm
end Nm

theorem one_of {w : World} {ty : TypeId} {ad : Addr} {v : Value} {d : TypeDesc} (hu : Try.prog.underlying ty = some d) (hd : d.isRow = false) (hc : w.cell? ad = some v) : OneAt w ty ad v := by
  have hagg : (isAgg ty).run Try.prog w = .ok false w := by
    unfold isAgg
    rw [Sem.run_bind, run_underlying hu w]
    cases d <;> simp_all
  unfold OneAt
  simp [loadVar, hagg, load, Sem.run, hc]
theorem u3 : Try.prog.underlying 3 = some (.int .i64) := by kernel_rfl
section
variable {ops : Array Oper} {rest : List Oper} {dst : Option Tmp} {ty ty' : TypeId} {x ix : Operand} {pos : String} {after : Array Edge} {a : Act} {w : World} {Q : Exit → Act → World → Prop}
end
open Go.RowKit Nm

section
variable {P : Program} {ops : Array Oper} {rest : List Oper} {dst : Option Tmp} {ty ty' : TypeId} {x y : Operand} {pos : String} {after : Array Edge} {g : Option (Nat × Bool)} {a : Act} {w : World} {Q : Exit → Act → World → Prop} {q : Act → Prop} {C : World → Prop} {ad : Addr} {D : Array Value} {v : Value} {o : Oper}

theorem wl_k (hg : Region.wanted o (yielded ops a.tmps) = true)
    (h : ∀ K : Act → Prop, (∀ a', wpList P ops Q rest a' w → K a') → ∃ v, (execOp a.eval o).run P w = .ok (.value v) w ∧ K (a.put o.dst v)) : wpList P ops Q (o :: rest) a w := by
  obtain ⟨v, hv, hk⟩ := h _ (fun _ h => h)
  refine wpList_step fun K hK => ?_
  rw [if_pos hg]
  unfold Oper.wp; rw [hv]; exact hK _ _ hk
theorem wl_skip (hg : Region.wanted o (yielded ops a.tmps) = false) (h : wpList P ops Q rest (a.put o.dst undef) w) : wpList P ops Q (o :: rest) a w := by
  refine wpList_step fun K hK => ?_
  rw [if_neg (by simp [hg])]
  exact hK _ _ h
theorem wl_ck (hg : Region.wanted o (yielded ops a.tmps) = true)
    (h : ∀ K : FuncId → Array Value → Prop, (∀ f args, (∃ R, Calls P f args w R ∧ ∀ e w1, R e w1 → ∃ v, e = .returned v ∧ wpList P ops Q rest (a.put o.dst v) w1) → K f args) → ∃ f args, (execOp a.eval o).run P w = .ok (.enter f args) w ∧ K f args) : wpList P ops Q (o :: rest) a w := by
  obtain ⟨f, args, hv, R, hc, hk⟩ := h _ (fun _ _ h => h)
  refine wpList_step fun K hK => ?_
  rw [if_pos hg]
  unfold Oper.wp; rw [hv]
  refine hc.mono fun e w1 hr => ?_
  obtain ⟨v, rfl, h2⟩ := hk e w1 hr
  exact hK _ _ h2

theorem wl_rowG (hg : Region.wanted ⟨dst, .load ty x, ty', pos, after, g⟩ (yielded ops a.tmps) = true) (hx : a.eval x = .pointer (some ad)) (hr : RowAt w ty ad D) (h : wpList Try.prog ops Q rest (a.put dst (.agg D)) w) : wpList Try.prog ops Q (⟨dst, .load ty x, ty', pos, after, g⟩ :: rest) a w := by
  refine wpList_step fun K hK => ?_
  rw [if_pos hg]
  unfold Oper.wp; rw [ex_row hx hr]; exact hK _ _ h
theorem wl_oneG (hg : Region.wanted ⟨dst, .load ty x, ty', pos, after, g⟩ (yielded ops a.tmps) = true) (hx : a.eval x = .pointer (some ad)) (hr : OneAt w ty ad v) (h : wpList Try.prog ops Q rest (a.put dst v) w) : wpList Try.prog ops Q (⟨dst, .load ty x, ty', pos, after, g⟩ :: rest) a w := by
  refine wpList_step fun K hK => ?_
  rw [if_pos hg]
  unfold Oper.wp; rw [ex_one hx hr]; exact hK _ _ h

/-- A new variable: behind it the world under a name. -/
theorem wl_new {z : Array Value} (hal : ∀ ev w, (execOp ev ⟨dst, .alloc ty, ty', pos, after, none⟩).run Try.prog w = .ok (.value (.pointer (some ⟨w.heap.size, 0, none⟩))) (w.alloc (.cells z ty)))
    (h : ∀ W p, Below w.heap.size w W → w.heap.size ≤ p → W.heap[p]? = some (.cells z ty (0, 0)) → wpList Try.prog ops Q rest (a.put dst (.pointer (some ⟨p, 0, none⟩))) W) : wpList Try.prog ops Q (⟨dst, .alloc ty, ty', pos, after, none⟩ :: rest) a w := by
  refine wpList_plain rfl fun K hK => ?_
  unfold Oper.wp; rw [hal]
  exact hK _ _ (h _ _ ((Below.refl _ w).alloc (Nat.le_refl _) _) (Nat.le_refl _) (ha_new rfl))
end

end Go.Proofs.Ytbhdgeoljlhmcaa
namespace Go.Proofs.Ytbhdgeoljlhmcaa.Nm
open Go.RowKit

/-- Every block of W but those of D is as it was. -/
structure Kept (D : List Nat) (W w' : World) : Prop where
  size : W.heap.size ≤ w'.heap.size
  block : ∀ k, k < W.heap.size → k ∉ D → w'.heap[k]? = W.heap[k]?
  os : w'.os = W.os
  tape : w'.tape = W.tape
  output : w'.output = W.output
theorem Kept.drew (D : List Nat) (W : World) : Kept D W W.drew :=
  have hb := (Below.refl W.heap.size W).drew
  ⟨Nat.le_refl _, fun _ _ _ => rfl, hb.os, hb.tape, hb.output⟩
theorem Kept.toBelow {D : List Nat} {W w : World} {B : Nat} (h : Kept D W w) (hB : B ≤ W.heap.size) (hd : ∀ k ∈ D, B ≤ k) : Below B W w :=
  ⟨h.os, h.tape, h.output, h.size, fun k hk => h.block k (by omega) (fun hm => by have := hd k hm; omega)⟩
theorem Kept.below {D : List Nat} {W w w' : World} (h : Kept D W w) (hb : Below w.heap.size w w') : Kept D W w' :=
  ⟨Nat.le_trans h.1 hb.size, fun k hk hp => by rw [hb.block k (by have := h.1; omega)]; exact h.2 k hk hp, hb.os.trans h.os, hb.tape.trans h.tape, hb.output.trans h.output⟩
theorem Kept.setRow {D : List Nat} {p : Nat} {W w : World} (h : Kept D W w) (hm : p ∈ D) (cs : Array Value) : Kept D W (w.setRow p cs) :=
  ⟨by simpa using h.1, fun k hk hp => by rw [setRow_other w p k cs (fun e => hp (e ▸ hm))]; exact h.2 k hk hp, by simpa using h.os, by simpa using h.tape, by simpa using h.output⟩
theorem Kept.setCell {D : List Nat} {p : Nat} {W w : World} (h : Kept D W w) (hm : p ∈ D) (i : Nat) (v : Value) : Kept D W (w.setCell ⟨p, i, none⟩ v) :=
  ⟨by simpa using h.1, fun k hk hp => by rw [heap_setCell_other _ _ _ _ (fun e => hp (by simp at e; exact e ▸ hm))]; exact h.2 k hk hp, ((Below.refl 0 w).setCell (p := ⟨p, i, none⟩) (Nat.zero_le _) v).os.trans h.os, ((Below.refl 0 w).setCell (p := ⟨p, i, none⟩) (Nat.zero_le _) v).tape.trans h.tape, ((Below.refl 0 w).setCell (p := ⟨p, i, none⟩) (Nat.zero_le _) v).output.trans h.output⟩
theorem Kept.look {D : List Nat} {W w' : World} (h : Kept D W w') {g : Nat} {o : Obj} (ho : W.heap[g]? = some o) (hp : g ∉ D) : w'.heap[g]? = some o := by rw [h.2 g (heap_lt ho) hp]; exact ho
theorem Kept.cell {D : List Nat} {W w' : World} (h : Kept D W w') {g i : Nat} {v : Value} (hc : W.cell? ⟨g, i, none⟩ = some v) (hp : g ∉ D) : w'.cell? ⟨g, i, none⟩ = some v := by
  have hg : g < W.heap.size := block_lt_of_cell hc
  rw [← hc]
  exact World.cell?_of_block (h.2 g hg hp)

section
variable {P : Program} {ops : Array Oper} {Q : Exit → Act → World → Prop} {md : Region.Mode} {S : World → Prop} {i : Nat} {oi : Oper} {fuel : Nat} {listed : Array Bool} {a : Act} {w : World}

/-- An operation that yields one value in every world of the class. -/
theorem ha_val {v : Value} (hi : ops[i]? = some oi) (hs : Region.noSelect ops = true) (hf : Region.free md ops listed i = true) (hr : (Region.ready md ops listed).contains i = true)
    (hQ : ∀ c a w, Q (.panic c) (a.put oi.dst v) w → Q (.panic c) a w) (hS : S w) (hg : Region.wanted oi (yielded ops a.tmps) = true) (hv : ∀ w, S w → (execOp a.eval oi).run P w = .ok (.value v) w)
    (h : wpAnyH P md ops Q S fuel (listed.setIfInBounds i true) (a.put oi.dst v) w) : wpAnyH P md ops Q S (fuel + 1) listed a w :=
  wpAnyH_take hi hs hf hr hQ (.inl ⟨hg, hv⟩) hS h
/-- An operation that only reckons. -/
theorem ha_k (hi : ops[i]? = some oi) (hs : Region.noSelect ops = true) (hf : Region.free md ops listed i = true) (hr : (Region.ready md ops listed).contains i = true)
    (hQ : ∀ v c a w, Q (.panic c) (a.put oi.dst v) w → Q (.panic c) a w) (hS : S w) (hg : Region.wanted oi (yielded ops a.tmps) = true)
    (h : ∀ K : Act → Prop, (∀ a', wpAnyH P md ops Q S fuel (listed.setIfInBounds i true) a' w → K a') → ∃ v, (∀ w, (execOp a.eval oi).run P w = .ok (.value v) w) ∧ K (a.put oi.dst v)) : wpAnyH P md ops Q S (fuel + 1) listed a w := by
  obtain ⟨v, hv, hk⟩ := h _ (fun _ h => h)
  exact wpAnyH_take hi hs hf hr (hQ v) (.inl ⟨hg, fun w _ => hv w⟩) hS hk
/-- A guarded operation, left out. -/
theorem ha_skip (hi : ops[i]? = some oi) (hs : Region.noSelect ops = true) (hf : Region.free md ops listed i = true) (hr : (Region.ready md ops listed).contains i = true)
    (hQ : ∀ c a w, Q (.panic c) (a.put oi.dst undef) w → Q (.panic c) a w) (hS : S w) (hg : Region.wanted oi (yielded ops a.tmps) = false)
    (h : wpAnyH P md ops Q S fuel (listed.setIfInBounds i true) (a.put oi.dst undef) w) : wpAnyH P md ops Q S (fuel + 1) listed a w :=
  wpAnyH_take hi hs hf hr hQ (.inr ⟨hg, rfl⟩) hS h
theorem hk3 (hi : ops[i]? = some oi) (hb : (Region.noSelect ops && (Region.free md ops listed i && (Region.ready md ops listed).contains i)) = true)
    (hQ : ∀ v c a w, Q (.panic c) (a.put oi.dst v) w → Q (.panic c) a w) (hS : S w) (hg : Region.wanted oi (yielded ops a.tmps) = true)
    (h : ∀ K : Act → Prop, (∀ a', wpAnyH P md ops Q S fuel (listed.setIfInBounds i true) a' w → K a') → ∃ v, (∀ w, (execOp a.eval oi).run P w = .ok (.value v) w) ∧ K (a.put oi.dst v)) : wpAnyH P md ops Q S (fuel + 1) listed a w := by
  simp only [Bool.and_eq_true] at hb
  exact ha_k hi hb.1 hb.2.1 hb.2.2 hQ hS hg h
theorem hv3 {v : Value} (hi : ops[i]? = some oi) (hb : (Region.noSelect ops && (Region.free md ops listed i && (Region.ready md ops listed).contains i)) = true)
    (hQ : ∀ c a w, Q (.panic c) (a.put oi.dst v) w → Q (.panic c) a w) (hS : S w) (hg : Region.wanted oi (yielded ops a.tmps) = true) (hv : ∀ w, S w → (execOp a.eval oi).run P w = .ok (.value v) w)
    (h : wpAnyH P md ops Q S fuel (listed.setIfInBounds i true) (a.put oi.dst v) w) : wpAnyH P md ops Q S (fuel + 1) listed a w := by
  simp only [Bool.and_eq_true] at hb
  exact ha_val hi hb.1 hb.2.1 hb.2.2 hQ hS hg hv h
theorem hs3 (hi : ops[i]? = some oi) (hb : (Region.noSelect ops && (Region.free md ops listed i && (Region.ready md ops listed).contains i)) = true)
    (hQ : ∀ c a w, Q (.panic c) (a.put oi.dst undef) w → Q (.panic c) a w) (hS : S w) (hg : Region.wanted oi (yielded ops a.tmps) = false)
    (h : wpAnyH P md ops Q S fuel (listed.setIfInBounds i true) (a.put oi.dst undef) w) : wpAnyH P md ops Q S (fuel + 1) listed a w := by
  simp only [Bool.and_eq_true] at hb
  exact ha_skip hi hb.1 hb.2.1 hb.2.2 hQ hS hg h
/-- A call: whatever its contract says of the result. -/
theorem ha_call (hr : Region.ready md ops listed = [i]) (ho : ops[i]? = some oi) (hg : Region.wanted oi (yielded ops a.tmps) = true)
    (h : ∀ K : FuncId → Array Value → Prop, (∀ f args, (∃ F, Calls P f args w F ∧ ∀ e w', F e w' → ∃ v, e = .returned v ∧ S w' ∧ wpAnyH P md ops Q S fuel (listed.setIfInBounds i true) (a.put oi.dst v) w') → K f args) → ∃ f args, (∀ w, (execOp a.eval oi).run P w = .ok (.enter f args) w) ∧ K f args) :
    wpAnyH P md ops Q S (fuel + 1) listed a w := by
  obtain ⟨f, args, hv, F, hc, hk⟩ := h _ (fun _ _ h => h)
  refine wpAnyH_ready (rs := [i]) hr (by simp) (AllReadyH.cons ho (fun K hK => ?_) AllReadyH.nil)
  rw [if_pos hg]
  unfold Oper.wp
  rw [hv w]
  simp only [Oper.upon]
  refine hc.mono fun e w' hF => ?_
  obtain ⟨v, rfl, hSv, hw⟩ := hk e w' hF
  exact hK.out _ _ hSv (fun _ => hw)
/-- An operation that is carried out now, with what it does to the world. -/
theorem ha_do {v : Value} {w2 : World} (hr : Region.ready md ops listed = [i]) (ho : ops[i]? = some oi) (hg : Region.wanted oi (yielded ops a.tmps) = true) (hx : (execOp a.eval oi).run P w = .ok (.value v) w2) (hS : S w2)
    (h : wpAnyH P md ops Q S fuel (listed.setIfInBounds i true) (a.put oi.dst v) w2) : wpAnyH P md ops Q S (fuel + 1) listed a w := by
  refine wpAnyH_ready (rs := [i]) hr (by simp) (AllReadyH.cons ho (fun K hK => ?_) AllReadyH.nil)
  rw [if_pos hg]
  unfold Oper.wp
  rw [hx]
  exact hK.out _ _ hS (fun _ => h)
/-- A struct stored over a block that is known. -/
theorem ha_store (hr : Region.ready md ops listed = [i]) (ho : ops[i]? = some oi) (hg : Region.wanted oi (yielded ops a.tmps) = true) (ty : TypeId) (x y : Operand) (hop : oi.op = .store ty x y) (g : Nat) (cells : Array Value) (hx : a.eval x = .pointer (some ⟨g, 0, none⟩)) (hy : a.eval y = .agg cells)
    (t : TypeId) (old : Array Value) (hb : w.heap[g]? = some (.cells old t (0, 0))) (hin : (P.info? ty).map (·.size) = some cells.size) (hold : old.size = cells.size) (h1 : cells.all (·.oneCell') = true) (hS : S (w.setRow g cells))
    (h : S (w.setRow g cells) → wpAnyH P md ops Q S fuel (listed.setIfInBounds i true) (a.put oi.dst undef) (w.setRow g cells)) : wpAnyH P md ops Q S (fuel + 1) listed a w := by
  refine wpAnyH_ready (rs := [i]) hr (by simp) (AllReadyH.cons ho (fun K hK => ?_) AllReadyH.nil)
  rw [if_pos hg]
  exact wp_store_row ty x y hop g cells hx hy t old hb hin hold h1 (hK.out _ _ hS h)
/-- One operation carried out now. -/
def StepH (P : Program) (md : Region.Mode) (ops : Array Oper) (Q : Exit → Act → World → Prop) (S : World → Prop) (fuel : Nat) (listed : Array Bool) (a : Act) (w : World) (i : Nat) : Prop :=
  wpOp P ops Q i (fun a' w' => S w' ∧ wpAnyH P md ops Q S fuel (listed.setIfInBounds i true) a' w') a w
/-- Two operations may come up. -/
theorem ha_two {j : Nat} (hr : Region.ready md ops listed = [i, j]) (hi : StepH P md ops Q S fuel listed a w i) (hj : StepH P md ops Q S fuel listed a w j) : wpAnyH P md ops Q S (fuel + 1) listed a w :=
  wpAnyH_all hr (by simp) fun k hk => by
    rcases List.mem_cons.1 hk with rfl | hk
    · exact hi
    · rcases List.mem_cons.1 hk with rfl | hk
      · exact hj
      · cases hk
theorem sh_val {v : Value} (ho : ops[i]? = some oi) (hg : Region.wanted oi (yielded ops a.tmps) = true) (hv : (execOp a.eval oi).run P w = .ok (.value v) w) (hS : S w) (h : wpAnyH P md ops Q S fuel (listed.setIfInBounds i true) (a.put oi.dst v) w) : StepH P md ops Q S fuel listed a w i := by
  unfold StepH wpOp
  simp only [ho]
  rw [if_pos hg]
  refine .inl ?_
  unfold Oper.wp
  rw [hv]
  exact ⟨hS, h⟩
theorem sh_call (ho : ops[i]? = some oi) (hg : Region.wanted oi (yielded ops a.tmps) = true)
    (h : ∀ K : FuncId → Array Value → Prop, (∀ f args, (∃ F, Calls P f args w F ∧ ∀ e w', F e w' → ∃ v, e = .returned v ∧ S w' ∧ wpAnyH P md ops Q S fuel (listed.setIfInBounds i true) (a.put oi.dst v) w') → K f args) → ∃ f args, (∀ w, (execOp a.eval oi).run P w = .ok (.enter f args) w) ∧ K f args) :
    StepH P md ops Q S fuel listed a w i := by
  obtain ⟨f, args, hv, F, hc, hk⟩ := h _ (fun _ _ h => h)
  unfold StepH wpOp
  simp only [ho]
  rw [if_pos hg]
  refine .inl ?_
  unfold Oper.wp
  rw [hv w]
  simp only [Oper.upon]
  refine hc.mono fun e w' hF => ?_
  obtain ⟨v, rfl, hSv, hw⟩ := hk e w' hF
  exact ⟨hSv, hw⟩
end
end Go.Proofs.Ytbhdgeoljlhmcaa.Nm
namespace Go.Proofs.Ytbhdgeoljlhmcaa.Nm
open Go.RowKit
theorem Kept.setNew {D : List Nat} {p : Nat} {W w : World} (h : Kept D W w) (hm : W.heap.size ≤ p) (cs : Array Value) : Kept D W (w.setRow p cs) :=
  ⟨by simpa using h.1, fun k hk hp => by rw [setRow_other w p k cs (fun e => by omega)]; exact h.2 k hk hp, by simpa using h.os, by simpa using h.tape, by simpa using h.output⟩
section
variable {P : Program} {ops : Array Oper} {Q : Exit → Act → World → Prop} {md : Region.Mode} {D : List Nat} {W : World} {i : Nat} {oi : Oper} {fuel : Nat} {listed : Array Bool} {a : Act} {w : World} {z : Array Value} {ty : TypeId}
end
end Go.Proofs.Ytbhdgeoljlhmcaa.Nm
namespace Go.Proofs.Ytbhdgeoljlhmcaa.Nm
open Go.RowKit
section
variable {P : Program} {ops : Array Oper} {Q : Exit → Act → World → Prop} {md : Region.Mode} {S : World → Prop} {i : Nat} {fuel : Nat} {listed : Array Bool} {a : Act} {w : World}
theorem ha_three {j k : Nat} (hr : Region.ready md ops listed = [i, j, k]) (hi : StepH P md ops Q S fuel listed a w i) (hj : StepH P md ops Q S fuel listed a w j) (hk : StepH P md ops Q S fuel listed a w k) : wpAnyH P md ops Q S (fuel + 1) listed a w :=
  wpAnyH_all hr (by simp) fun l hl => by
    rcases List.mem_cons.1 hl with rfl | hl
    · exact hi
    · rcases List.mem_cons.1 hl with rfl | hl
      · exact hj
      · rcases List.mem_cons.1 hl with rfl | hl
        · exact hk
        · cases hl
end
end Go.Proofs.Ytbhdgeoljlhmcaa.Nm
/- Tables with open addressing: an entry lies at the first free place behind its home; plain facts. -/
namespace Go.Proofs.Ytbhdgeoljlhmcaa.St
section
variable (H : ByteArray → Nat)
/-- a table: at each place nothing, or a key and its value -/
abbrev Tab := List (Option (ByteArray × Int))
/-- what lies at a place, counted round the table -/
def pl (t : Tab) (i : Nat) : Option (ByteArray × Int) := (t[i % t.length]?).join
def occ (t : Tab) (i : Nat) : Bool := (pl t i).isSome
/-- how far the first place from i on is that holds nothing, or the key -/
def far (t : Tab) (p : Option (ByteArray × Int) → Bool) (i : Nat) : Nat → Nat
  | 0 => 0
  | f + 1 => if p (pl t i) then 0 else far t p (i + 1) f + 1
theorem far_before {t : Tab} {p : Option (ByteArray × Int) → Bool} {i f : Nat} : ∀ e, e < far t p i f → p (pl t (i + e)) = false := by
  induction f generalizing i with
  | zero => intro e he; simp [far] at he
  | succ f ih =>
    intro e he
    simp only [far] at he
    split at he
    · omega
    · rename_i hp
      rcases e with _ | e
      · simpa using hp
      · have := ih (i := i + 1) e (by omega)
        rwa [show i + (e + 1) = i + 1 + e by omega]
theorem far_at {t : Tab} {p : Option (ByteArray × Int) → Bool} {i f d : Nat} (hd : d < f) (h : p (pl t (i + d)) = true) : far t p i f ≤ d ∧ p (pl t (i + far t p i f)) = true := by
  induction f generalizing i d with
  | zero => omega
  | succ f ih =>
    simp only [far]
    split
    · rename_i hp; exact ⟨by omega, by simpa using hp⟩
    · rename_i hp
      rcases d with _ | d
      · exact absurd h hp
      · have := ih (i := i + 1) (d := d) (by omega) (by rwa [show i + 1 + d = i + (d + 1) by omega])
        refine ⟨by omega, ?_⟩
        rw [show i + (far t p (i + 1) f + 1) = i + 1 + far t p (i + 1) f by omega]; exact this.2
theorem far_eq {t : Tab} {p : Option (ByteArray × Int) → Bool} {i f d : Nat} (hd : d < f) (h : p (pl t (i + d)) = true) (hb : ∀ e, e < d → p (pl t (i + e)) = false) : far t p i f = d := by
  have h1 := far_at hd h
  rcases Nat.lt_or_ge (far t p i f) d with h2 | h2
  · rw [hb _ h2] at h1; exact absurd h1.2 (by simp)
  · omega
def free (o : Option (ByteArray × Int)) : Bool := !o.isSome
theorem free_iff {o : Option (ByteArray × Int)} : free o = true ↔ o = none := by unfold free; cases o <;> simp
theorem free_not {o : Option (ByteArray × Int)} : free o = false ↔ o.isSome = true := by unfold free; cases o <;> simp
def hit (k : ByteArray) (o : Option (ByteArray × Int)) : Bool := match o with | none => true | some (k', _) => decide (k' = k)
/-- the place where an entry is laid -/
def slot (t : Tab) (k : ByteArray) : Nat := (H k + far t free (H k) t.length) % t.length
def layT (t : Tab) (k : ByteArray) (v : Int) : Tab := t.set (slot H t k) (some (k, v))
/-- the place where a key is looked for -/
def seek (t : Tab) (k : ByteArray) : Nat := (H k + far t (hit k) (H k) t.length) % t.length
def findT (t : Tab) (k : ByteArray) : Option Nat := if occ t (seek H t k) then some (seek H t k) else none
theorem layT_length (t : Tab) (k : ByteArray) (v : Int) : (layT H t k v).length = t.length := by unfold layT; simp
/-- every entry is reached from its home without a gap; keys are there once; a place is free -/
structure Wf (t : Tab) : Prop where
  way : ∀ i k v, i < t.length → pl t i = some (k, v) → ∃ d, d < t.length ∧ (H k + d) % t.length = i ∧ ∀ e, e < d → occ t (H k + e) = true
  one : ∀ i j k v v', i < t.length → j < t.length → pl t i = some (k, v) → pl t j = some (k, v') → i = j
  gap : ∃ i, i < t.length ∧ occ t i = false
theorem pl_mod (t : Tab) (i : Nat) : pl t (i % t.length) = pl t i := by unfold pl; rw [Nat.mod_mod]
theorem occ_mod (t : Tab) (i : Nat) : occ t (i % t.length) = occ t i := by unfold occ; rw [pl_mod]
theorem off_of {n i : Nat} (j : Nat) (hi : i < n) : ∃ d, d < n ∧ (j + d) % n = i := by
  have hj := Nat.mod_lt j (show 0 < n by omega)
  by_cases h : j % n ≤ i
  · refine ⟨i - j % n, by omega, ?_⟩
    rw [← Nat.mod_add_mod, show j % n + (i - j % n) = i by omega, Nat.mod_eq_of_lt hi]
  · refine ⟨i + n - j % n, by omega, ?_⟩
    rw [← Nat.mod_add_mod, show j % n + (i + n - j % n) = i + n by omega, Nat.add_mod_right, Nat.mod_eq_of_lt hi]
theorem off_one {n j d e : Nat} (hd : d < n) (he : e < n) (h : (j + d) % n = (j + e) % n) : d = e := by
  have key : ∀ d e, d ≤ e → e < n → (j + d) % n = (j + e) % n → d = e := by
    intro d e hle he h
    have h0 : (e - d) % n = 0 := by
      have := Nat.sub_mod_eq_zero_of_mod_eq h.symm
      rwa [show j + e - (j + d) = e - d by omega] at this
    rw [Nat.mod_eq_of_lt (by omega)] at h0
    omega
  rcases Nat.le_total d e with hle | hle
  · exact key d e hle he h
  · exact (key e d hle hd h.symm).symm
theorem occ_iff {t : Tab} {i : Nat} : occ t i = true ↔ ∃ k v, pl t i = some (k, v) := by
  unfold occ
  cases h : pl t i with
  | none => simp
  | some x => obtain ⟨k, v⟩ := x; simp
/-- the place where an entry is laid is free, and the way to it is full -/
theorem slot_free {t : Tab} (hg : ∃ i, i < t.length ∧ occ t i = false) (k : ByteArray) :
    slot H t k < t.length ∧ occ t (slot H t k) = false ∧ ∃ d, d < t.length ∧ (H k + d) % t.length = slot H t k ∧ ∀ e, e < d → occ t (H k + e) = true := by
  obtain ⟨i, hi, ho⟩ := hg
  obtain ⟨d, hd, hdi⟩ := off_of (H k) hi
  have hf : free (pl t (H k + d)) = true := by
    rw [← pl_mod, hdi]; unfold free; unfold occ at ho; simp [ho]
  have h1 := far_at hd hf
  have hb := far_before (t := t) (p := free) (i := H k) (f := t.length)
  refine ⟨Nat.mod_lt _ (by omega), ?_, far t free (H k) t.length, by omega, rfl, fun e he => ?_⟩
  · unfold slot
    rw [occ_mod]; unfold occ; rw [free_iff.1 h1.2]; rfl
  · exact free_not.1 (hb e he)
theorem pl_set_self {t : Tab} {i : Nat} (hi : i < t.length) (o : Option (ByteArray × Int)) : pl (t.set i o) i = o := by
  unfold pl; simp [Nat.mod_eq_of_lt hi, List.getElem?_set_self hi]
theorem pl_set_ne {t : Tab} {i j : Nat} (hj : j % t.length ≠ i) (o : Option (ByteArray × Int)) : pl (t.set i o) j = pl t j := by
  unfold pl; simp [List.getElem?_set_ne (fun e => hj e.symm)]
/-- a key that is there is found, and only such a one -/
theorem find_some {t : Tab} (hw : Wf H t) {k : ByteArray} {v : Int} {i : Nat} (hi : i < t.length) (h : pl t i = some (k, v)) : findT H t k = some i := by
  obtain ⟨d, hd, hdi, hp⟩ := hw.way i k v hi h
  have hat : hit k (pl t (H k + d)) = true := by rw [← pl_mod, hdi, h]; simp [hit]
  have hfar : far t (hit k) (H k) t.length = d := far_eq hd hat (fun e he => by
    obtain ⟨k', v', he'⟩ := occ_iff.1 (hp e he)
    rw [he']
    simp only [hit, decide_eq_false_iff_not]
    rintro rfl
    have h2 : pl t ((H k' + e) % t.length) = some (k', v') := by rw [pl_mod]; exact he'
    have := hw.one i ((H k' + e) % t.length) k' v v' hi (Nat.mod_lt _ (by omega)) h h2
    rw [← hdi] at this
    have := off_one hd (by omega) this
    omega)
  unfold findT seek
  rw [hfar, hdi]
  have : occ t i = true := occ_iff.2 ⟨k, v, h⟩
  rw [if_pos this]
theorem find_none {t : Tab} (hg : ∃ i, i < t.length ∧ occ t i = false) {k : ByteArray} (h : ∀ i v, i < t.length → pl t i ≠ some (k, v)) : findT H t k = none := by
  obtain ⟨i, hi, ho⟩ := hg
  obtain ⟨d, hd, hdi⟩ := off_of (H k) hi
  have hf : hit k (pl t (H k + d)) = true := by
    rw [← pl_mod, hdi]; unfold occ at ho; cases hp : pl t i with
    | none => rfl
    | some x => rw [hp] at ho; cases ho
  have h1 := (far_at hd hf).2
  unfold findT
  have hs : seek H t k < t.length := Nat.mod_lt _ (by omega)
  have hp : hit k (pl t (seek H t k)) = true := by unfold seek; rw [pl_mod]; exact h1
  rw [if_neg]
  intro hocc
  obtain ⟨k', v', he⟩ := occ_iff.1 hocc
  rw [he] at hp
  simp only [hit, decide_eq_true_eq] at hp
  subst hp
  exact h _ _ hs he
theorem find_of {t : Tab} (hg : ∃ i, i < t.length ∧ occ t i = false) {k : ByteArray} {i : Nat} (h : findT H t k = some i) : i < t.length ∧ ∃ v, pl t i = some (k, v) := by
  unfold findT at h
  split at h
  · rename_i hocc
    simp only [Option.some.injEq] at h
    subst h
    have hg' := hg
    obtain ⟨j, hj, _⟩ := hg'
    have hs : seek H t k < t.length := Nat.mod_lt _ (by omega)
    refine ⟨hs, ?_⟩
    obtain ⟨k', v', he⟩ := occ_iff.1 hocc
    obtain ⟨i, hi, ho⟩ := hg
    obtain ⟨d, hd, hdi⟩ := off_of (H k) hi
    have hf : hit k (pl t (H k + d)) = true := by
      rw [← pl_mod, hdi]; unfold occ at ho; cases hp : pl t i with
      | none => rfl
      | some x => rw [hp] at ho; cases ho
    have h1 := (far_at hd hf).2
    have hp : hit k (pl t (seek H t k)) = true := by unfold seek; rw [pl_mod]; exact h1
    rw [he] at hp
    simp only [hit, decide_eq_true_eq] at hp
    subst hp
    exact ⟨v', he⟩
  · cases h
end
end Go.Proofs.Ytbhdgeoljlhmcaa.St
/- Tables: an entry laid, an entry taken out; plain facts. -/
namespace Go.Proofs.Ytbhdgeoljlhmcaa.St
section
variable (H : ByteArray → Nat)
theorem occ_set {t : Tab} {i j : Nat} (hi : i < t.length) (x : ByteArray × Int) : occ (t.set i (some x)) j = (occ t j || decide (j % t.length = i)) := by
  unfold occ
  by_cases h : j % t.length = i
  · subst h
    have : pl (t.set (j % t.length) (some x)) j = some x := by
      rw [← pl_mod]; simp only [List.length_set]; exact pl_set_self hi _
    rw [this]; simp
  · rw [pl_set_ne h]; simp [h]
theorem occ_unset {t : Tab} {i j : Nat} (hi : i < t.length) : occ (t.set i none) j = (occ t j && !decide (j % t.length = i)) := by
  unfold occ
  by_cases h : j % t.length = i
  · subst h
    have : pl (t.set (j % t.length) none) j = none := by
      rw [← pl_mod]; simp only [List.length_set]; exact pl_set_self hi _
    rw [this]; simp
  · rw [pl_set_ne h]; simp [h]
theorem pl_set {t : Tab} {i j : Nat} (hi : i < t.length) (hj : j < t.length) (o : Option (ByteArray × Int)) : pl (t.set i o) j = if j = i then o else pl t j := by
  split
  · rename_i h; subst h; exact pl_set_self hi o
  · rename_i h; exact pl_set_ne (by rw [Nat.mod_eq_of_lt hj]; exact h) o
theorem lay_wf {t : Tab} (hw : Wf H t) {k : ByteArray} (v : Int) (hk : ∀ i v, i < t.length → pl t i ≠ some (k, v)) (hg : ∃ i j, i < t.length ∧ j < t.length ∧ i ≠ j ∧ occ t i = false ∧ occ t j = false) : Wf H (layT H t k v) := by
  obtain ⟨hs, hso, d, hd, hds, hp⟩ := slot_free H hw.gap k
  unfold layT
  refine ⟨fun i k' v' hi h => ?_, fun i j k' v1 v2 hi hj h1 h2 => ?_, ?_⟩
  · simp only [List.length_set] at hi ⊢
    rw [pl_set hs hi] at h
    split at h
    · rename_i e
      simp only [Option.some.injEq, Prod.mk.injEq] at h
      obtain ⟨rfl, rfl⟩ := h
      exact ⟨d, hd, by rw [hds, e], fun e he => by rw [occ_set hs, hp e he]; rfl⟩
    · obtain ⟨d', hd', hdi, hp'⟩ := hw.way i k' v' hi h
      exact ⟨d', hd', hdi, fun e he => by rw [occ_set hs, hp' e he]; rfl⟩
  · simp only [List.length_set] at hi hj
    rw [pl_set hs hi] at h1
    rw [pl_set hs hj] at h2
    split at h1
    · split at h2
      · omega
      · simp only [Option.some.injEq, Prod.mk.injEq] at h1
        obtain ⟨rfl, rfl⟩ := h1
        exact absurd h2 (hk j v2 hj)
    · split at h2
      · simp only [Option.some.injEq, Prod.mk.injEq] at h2
        obtain ⟨rfl, rfl⟩ := h2
        exact absurd h1 (hk i v1 hi)
      · exact hw.one i j k' v1 v2 hi hj h1 h2
  · obtain ⟨i, j, hi, hj, hne, h1, h2⟩ := hg
    by_cases e : i = slot H t k
    · refine ⟨j, by simpa using hj, ?_⟩
      rw [occ_set hs, h2, Nat.mod_eq_of_lt hj]; simp; omega
    · refine ⟨i, by simpa using hi, ?_⟩
      rw [occ_set hs, h1, Nat.mod_eq_of_lt hi]; simp [e]
/-- the entries behind a place, each taken out and laid anew -/
def sweep (t : Tab) (k : Nat) : Nat → Tab
  | 0 => t
  | f + 1 => match pl t k with
    | none => t
    | some (key, v) => sweep (layT H (t.set (k % t.length) none) key v) (k + 1) f
def removeT (t : Tab) (i : Nat) : Tab := sweep H (t.set i none) (i + 1) t.length
/-- while entries behind place i are laid anew: those from offset s to offset m may have gaps on their way, at offsets below s -/
structure Mid (t : Tab) (i s m : Nat) : Prop where
  ln : i < t.length
  s1 : s ≤ m
  m1 : m < t.length
  top : occ t (i + m) = false
  full : ∀ u, s ≤ u → u < m → occ t (i + u) = true
  way : ∀ j k v, j < t.length → pl t j = some (k, v) → ∃ d, d < t.length ∧ (H k + d) % t.length = j ∧ ((∀ e, e < d → occ t (H k + e) = true) ∨ (∃ u, s ≤ u ∧ u < m ∧ (i + u) % t.length = j) ∧ ∀ e, e < d → occ t (H k + e) = true ∨ ∃ u, u < s ∧ (H k + e) % t.length = (i + u) % t.length)
  one : ∀ i j k v v', i < t.length → j < t.length → pl t i = some (k, v) → pl t j = some (k, v') → i = j
theorem Mid.wf {t : Tab} {i m : Nat} (h : Mid H t i m m) : Wf H t :=
  ⟨fun j k v hj hp => by
    obtain ⟨d, hd, hdj, h1 | ⟨⟨u, h2, h3, _⟩, _⟩⟩ := h.way j k v hj hp
    · exact ⟨d, hd, hdj, h1⟩
    · omega, h.one, ⟨(i + m) % t.length, Nat.mod_lt _ (by have := h.ln; omega), by rw [occ_mod]; exact h.top⟩⟩
theorem Mid.start {t : Tab} (hw : Wf H t) {i : Nat} (hi : i < t.length) (ho : occ t i = true) : ∃ m, 1 ≤ m ∧ Mid H (t.set i none) i 1 m := by
  obtain ⟨g, hg, hgo⟩ := hw.gap
  obtain ⟨m0, hm0, hmg⟩ := off_of i hg
  have hm1 : 1 ≤ m0 := by
    rcases Nat.eq_zero_or_pos m0 with h | h
    · subst h; rw [Nat.add_zero, Nat.mod_eq_of_lt hi] at hmg; subst hmg; rw [ho] at hgo; cases hgo
    · exact h
  have hfr : free (pl t (i + 1 + (m0 - 1))) = true := by
    rw [show i + 1 + (m0 - 1) = i + m0 by omega, ← pl_mod, hmg, free_iff]; unfold occ at hgo; simpa using hgo
  obtain ⟨hle, hat⟩ := far_at (t := t) (p := free) (i := i + 1) (f := t.length) (d := m0 - 1) (by omega) hfr
  have hb := far_before (t := t) (p := free) (i := i + 1) (f := t.length)
  obtain ⟨m, hm⟩ : ∃ m, m = far t free (i + 1) t.length + 1 := ⟨_, rfl⟩
  have hmt : occ t (i + m) = false := by
    rw [hm, show i + (far t free (i + 1) t.length + 1) = i + 1 + far t free (i + 1) t.length by omega]
    unfold occ; rw [free_iff.1 hat]; rfl
  have hmf : ∀ u, 1 ≤ u → u < m → occ t (i + u) = true := fun u h1 h2 => by
    have := free_not.1 (hb (u - 1) (by omega))
    rwa [show i + 1 + (u - 1) = i + u by omega] at this
  have hmn : m < t.length := by omega
  have hii : i % t.length = i := Nat.mod_eq_of_lt hi
  refine ⟨m, by omega, by simpa using hi, by omega, by simpa using hmn, by rw [occ_unset hi, hmt]; rfl, fun u h1 h2 => ?_, fun j k v hj hp => ?_, fun a b k v v' ha hb h1 h2 => ?_⟩
  · rw [occ_unset hi, hmf u h1 h2]
    have : (i + u) % t.length ≠ i := fun e => by
      have := off_one (n := t.length) (j := i) (d := u) (e := 0) (by omega) (by omega) (by rw [e, Nat.add_zero, hii])
      omega
    simp [this]
  · simp only [List.length_set] at hj ⊢
    rw [pl_set hi hj] at hp
    split at hp
    · cases hp
    · rename_i hji
      obtain ⟨d, hd, hdj, hpath⟩ := hw.way j k v hj hp
      refine ⟨d, hd, hdj, ?_⟩
      by_cases hex : ∃ e0, e0 < d ∧ (H k + e0) % t.length = i
      · right
        obtain ⟨e0, he0, hei⟩ := hex
        have hstep : ∀ x, (i + x) % t.length = (H k + (e0 + x)) % t.length := fun x => by
          rw [show H k + (e0 + x) = H k + e0 + x by omega, ← Nat.mod_add_mod (H k + e0), hei]
        have hlt : d - e0 < m := by
          rcases Nat.lt_or_ge (d - e0) m with h | h
          · exact h
          · exfalso
            have h3 : occ t (H k + (e0 + m)) = false := by rw [← occ_mod, ← hstep m, occ_mod]; exact hmt
            rcases Nat.lt_or_ge (e0 + m) d with h4 | h4
            · rw [hpath _ h4] at h3; cases h3
            · have : e0 + m = d := by omega
              rw [this, ← occ_mod, hdj] at h3
              rw [occ_iff.2 ⟨k, v, hp⟩] at h3; cases h3
        refine ⟨⟨d - e0, by omega, hlt, ?_⟩, fun e he => ?_⟩
        · rw [hstep, show e0 + (d - e0) = d by omega, hdj]
        · by_cases h5 : (H k + e) % t.length = i
          · exact Or.inr ⟨0, by omega, by rw [h5, Nat.add_zero, hii]⟩
          · left; rw [occ_unset hi, hpath e he]; simp [h5]
      · left
        intro e he
        rw [occ_unset hi, hpath e he]
        have : (H k + e) % t.length ≠ i := fun h => hex ⟨e, he, h⟩
        simp [this]
  · simp only [List.length_set] at ha hb
    rw [pl_set hi ha] at h1
    rw [pl_set hi hb] at h2
    split at h1
    · cases h1
    · split at h2
      · cases h2
      · exact hw.one a b k v v' ha hb h1 h2
/-- what one step does: the entry at offset s is laid anew -/
theorem Mid.home {t : Tab} {i s m : Nat} (h : Mid H t i s m) {k : ByteArray} {v : Int} (hp : pl t (i + s) = some (k, v)) :
    ∃ d, d < t.length ∧ (H k + d) % t.length = (i + s) % t.length ∧ (∀ e, e < d → occ t (H k + e) = true ∨ ∃ u, u < s ∧ (H k + e) % t.length = (i + u) % t.length) := by
  have hn : 0 < t.length := by have := h.ln; omega
  obtain ⟨d, hd, hdj, h1 | ⟨_, h1⟩⟩ := h.way ((i + s) % t.length) k v (Nat.mod_lt _ hn) (by rw [pl_mod]; exact hp)
  · exact ⟨d, hd, hdj, fun e he => Or.inl (h1 e he)⟩
  · exact ⟨d, hd, hdj, h1⟩
theorem Mid.step {t : Tab} {i s m : Nat} (h : Mid H t i s m) (hs : s < m) {k : ByteArray} {v : Int} (hp : pl t (i + s) = some (k, v)) :
    Mid H (layT H (t.set ((i + s) % t.length) none) k v) i (s + 1) m := by
  have hn : 0 < t.length := by have := h.ln; omega
  have hmn := h.m1
  obtain ⟨p, hpp⟩ : ∃ p, p = (i + s) % t.length := ⟨_, rfl⟩
  have hpl : p < t.length := by rw [hpp]; exact Nat.mod_lt _ hn
  have hpk : pl t p = some (k, v) := by rw [hpp, pl_mod]; exact hp
  rw [← hpp]
  have hmp : (i + m) % t.length ≠ p := fun e => by
    rw [hpp] at e
    have := off_one (n := t.length) (j := i) (d := m) (e := s) (by omega) (by omega) e
    omega
  have hgap : ∃ x, x < (t.set p none).length ∧ occ (t.set p none) x = false := ⟨(i + m) % t.length, by simpa using Nat.mod_lt _ hn, by rw [occ_unset hpl, occ_mod, h.top]; rfl⟩
  obtain ⟨hsl, hso, d2, hd2, hds, hpath2⟩ := slot_free H hgap k
  obtain ⟨d, hd, hdj, hpath⟩ := h.home H hp
  simp only [List.length_set] at hsl hd2 hds
  obtain ⟨sl, hsle⟩ : ∃ sl, sl = slot H (t.set p none) k := ⟨_, rfl⟩
  rw [← hsle] at hsl hso hds
  have hle : d2 ≤ d := by
    rcases Nat.lt_or_ge d d2 with hlt | hge
    · have := hpath2 d hlt
      rw [occ_unset hpl] at this
      rw [hdj, ← hpp] at this
      simp at this
    · exact hge
  have hslm : sl ≠ (i + m) % t.length := fun e => by
    rcases Nat.lt_or_ge d2 d with hlt | hge
    · rcases hpath d2 hlt with h1 | ⟨u, hu, h2⟩
      · rw [← occ_mod, hds, e, occ_mod, h.top] at h1; cases h1
      · rw [hds, e] at h2
        have := off_one (n := t.length) (j := i) (d := m) (e := u) (by omega) (by omega) h2
        omega
    · have : d2 = d := by omega
      rw [this, hdj, ← hpp] at hds
      rw [← hds] at e; exact hmp e.symm
  have hocc : ∀ j, occ (layT H (t.set p none) k v) j = ((occ t j && !decide (j % t.length = p)) || decide (j % t.length = sl)) := fun j => by
    unfold layT
    rw [← hsle, occ_set (by simpa using hsl), occ_unset hpl]; simp
  have hpln : ∀ j, j < t.length → pl (layT H (t.set p none) k v) j = if j = sl then some (k, v) else if j = p then none else pl t j := fun j hj => by
    unfold layT
    rw [← hsle, pl_set (by simpa using hsl) (by simpa using hj), pl_set hpl hj]
  have hln : (layT H (t.set p none) k v).length = t.length := by rw [layT_length]; simp
  refine ⟨by rw [hln]; exact h.ln, by omega, by rw [hln]; exact hmn, ?_, fun u h1 h2 => ?_, fun j k1 v1 hj hp1 => ?_, fun a b k1 v1 v2 ha hb h1 h2 => ?_⟩
  · rw [hocc, h.top]; simp; exact fun e => hslm e.symm
  · rw [hocc, h.full u (by omega) h2]
    have : (i + u) % t.length ≠ p := fun e => by
      rw [hpp] at e
      have := off_one (n := t.length) (j := i) (d := u) (e := s) (by omega) (by omega) e
      omega
    simp [this]
  · rw [hln] at hj ⊢
    rw [hpln j hj] at hp1
    split at hp1
    · rename_i e
      simp only [Option.some.injEq, Prod.mk.injEq] at hp1
      obtain ⟨rfl, rfl⟩ := hp1
      refine ⟨d2, hd2, by rw [hds, e], Or.inl fun e' he => ?_⟩
      have := hpath2 e' he
      rw [occ_unset hpl] at this
      rw [hocc, this]; rfl
    · split at hp1
      · cases hp1
      · rename_i hjs hjp
        obtain ⟨d1, hd1, hdj1, hway⟩ := h.way j k1 v1 hj hp1
        refine ⟨d1, hd1, hdj1, ?_⟩
        rcases hway with hl | ⟨⟨u, hu1, hu2, huj⟩, hr⟩
        · by_cases hex : ∃ e0, e0 < d1 ∧ (H k1 + e0) % t.length = p
          · right
            obtain ⟨e0, he0, hei⟩ := hex
            have hstep : ∀ x, (i + (s + x)) % t.length = (H k1 + (e0 + x)) % t.length := fun x => by
              rw [show H k1 + (e0 + x) = H k1 + e0 + x by omega, ← Nat.mod_add_mod (H k1 + e0), hei, hpp, Nat.mod_add_mod, Nat.add_assoc]
            have hlt : s + (d1 - e0) < m := by
              rcases Nat.lt_or_ge (s + (d1 - e0)) m with h' | h'
              · exact h'
              · exfalso
                have h3 : occ t (H k1 + (e0 + (m - s))) = false := by
                  rw [← occ_mod, ← hstep (m - s), occ_mod, show i + (s + (m - s)) = i + m by omega]; exact h.top
                rcases Nat.lt_or_ge (e0 + (m - s)) d1 with h4 | h4
                · rw [hl _ h4] at h3; cases h3
                · have : e0 + (m - s) = d1 := by omega
                  rw [this, ← occ_mod, hdj1] at h3
                  rw [occ_iff.2 ⟨k1, v1, hp1⟩] at h3; cases h3
            refine ⟨⟨s + (d1 - e0), by omega, hlt, ?_⟩, fun e he => ?_⟩
            · rw [hstep, show e0 + (d1 - e0) = d1 by omega, hdj1]
            · by_cases h5 : (H k1 + e) % t.length = p
              · exact Or.inr ⟨s, by omega, by rw [h5, hpp]⟩
              · left; rw [hocc, hl e he]; simp [h5]
          · left
            intro e he
            have : (H k1 + e) % t.length ≠ p := fun h' => hex ⟨e, he, h'⟩
            rw [hocc, hl e he]; simp [this]
        · right
          have hus : u ≠ s := fun e => hjp (by rw [← huj, e, hpp])
          refine ⟨⟨u, by omega, hu2, huj⟩, fun e he => ?_⟩
          by_cases h5 : (H k1 + e) % t.length = p
          · exact Or.inr ⟨s, by omega, by rw [h5, hpp]⟩
          · rcases hr e he with h6 | ⟨u', h6, h7⟩
            · left; rw [hocc, h6]; simp [h5]
            · exact Or.inr ⟨u', by omega, h7⟩
  · rw [hln] at ha hb
    rw [hpln a ha] at h1
    rw [hpln b hb] at h2
    have cross : ∀ x w, x < t.length → x ≠ p → pl t x = some (k, w) → False := fun x w hx hne hx2 => hne (h.one x p k w v hx hpl hx2 hpk)
    split at h1
    · split at h2
      · omega
      · split at h2
        · cases h2
        · simp only [Option.some.injEq, Prod.mk.injEq] at h1
          obtain ⟨rfl, rfl⟩ := h1
          rename_i hq
          exact (cross b v2 hb hq h2).elim
    · split at h1
      · cases h1
      · rename_i hap
        split at h2
        · simp only [Option.some.injEq, Prod.mk.injEq] at h2
          obtain ⟨rfl, rfl⟩ := h2
          exact (cross a v1 ha hap h1).elim
        · split at h2
          · cases h2
          · exact h.one a b k1 v1 v2 ha hb h1 h2
theorem sweep_wf {i m : Nat} : ∀ (f s : Nat) (t : Tab), m - s ≤ f → Mid H t i s m → Wf H (sweep H t (i + s) f) := by
  intro f
  induction f with
  | zero =>
    intro s t hf h
    have : s = m := by have := h.s1; omega
    subst this
    exact h.wf
  | succ f ih =>
    intro s t hf h
    unfold sweep
    rcases Nat.lt_or_ge s m with hs | hs
    · obtain ⟨k, v, hp⟩ := occ_iff.1 (h.full s (Nat.le_refl _) hs)
      rw [hp]
      exact ih (s + 1) _ (by omega) (h.step H hs hp)
    · have : s = m := by have := h.s1; omega
      subst this
      have := h.top
      unfold occ at this
      cases hp : pl t (i + s) with
      | none => exact h.wf
      | some x => rw [hp] at this; cases this
theorem remove_wf {t : Tab} (hw : Wf H t) {i : Nat} (hi : i < t.length) (ho : occ t i = true) : Wf H (removeT H t i) := by
  obtain ⟨m, hm, h⟩ := Mid.start H hw hi ho
  unfold removeT
  exact sweep_wf H t.length 1 (t.set i none) (by have := h.m1; simp at this; omega) h
theorem sweep_length (t : Tab) (k f : Nat) : (sweep H t k f).length = t.length := by
  induction f generalizing t k with
  | zero => rfl
  | succ f ih =>
    unfold sweep
    split
    · rfl
    · rw [ih, layT_length]; simp
theorem removeT_length (t : Tab) (i : Nat) : (removeT H t i).length = t.length := by unfold removeT; rw [sweep_length]; simp
/-- an entry is there -/
def Has (t : Tab) (k : ByteArray) (v : Int) : Prop := ∃ i, i < t.length ∧ pl t i = some (k, v)
theorem lay_has {t : Tab} (hg : ∃ i, i < t.length ∧ occ t i = false) (k : ByteArray) (v : Int) (k' : ByteArray) (v' : Int) : Has (layT H t k v) k' v' ↔ (k' = k ∧ v' = v) ∨ Has t k' v' := by
  obtain ⟨hs, hso, _⟩ := slot_free H hg k
  unfold Has
  rw [layT_length]
  unfold layT
  constructor
  · rintro ⟨i, hi, h⟩
    rw [pl_set hs hi] at h
    split at h
    · simp only [Option.some.injEq, Prod.mk.injEq] at h
      exact Or.inl ⟨h.1.symm, h.2.symm⟩
    · exact Or.inr ⟨i, hi, h⟩
  · rintro (⟨rfl, rfl⟩ | ⟨i, hi, h⟩)
    · exact ⟨_, hs, pl_set_self hs _⟩
    · refine ⟨i, hi, ?_⟩
      rw [pl_set hs hi, if_neg]
      · exact h
      · rintro rfl
        rw [occ_iff.2 ⟨k', v', h⟩] at hso; cases hso
theorem unset_has {t : Tab} (h1 : ∀ i j k v v', i < t.length → j < t.length → pl t i = some (k, v) → pl t j = some (k, v') → i = j) {i : Nat} (hi : i < t.length) {k : ByteArray} {v : Int} (hp : pl t i = some (k, v)) (k' : ByteArray) (v' : Int) : Has (t.set i none) k' v' ↔ Has t k' v' ∧ k' ≠ k := by
  unfold Has
  simp only [List.length_set]
  constructor
  · rintro ⟨j, hj, h⟩
    rw [pl_set hi hj] at h
    split at h
    · cases h
    · rename_i hne
      refine ⟨⟨j, hj, h⟩, ?_⟩
      rintro rfl
      exact hne (h1 _ _ _ _ _ hj hi h hp)
  · rintro ⟨⟨j, hj, h⟩, hne⟩
    refine ⟨j, hj, ?_⟩
    rw [pl_set hi hj, if_neg]
    · exact h
    · rintro rfl
      rw [hp] at h
      simp only [Option.some.injEq, Prod.mk.injEq] at h
      exact hne h.1.symm
theorem sweep_has {i m : Nat} (k' : ByteArray) (v' : Int) : ∀ (f s : Nat) (t : Tab), Mid H t i s m → (Has (sweep H t (i + s) f) k' v' ↔ Has t k' v') := by
  intro f
  induction f with
  | zero => intro s t _; rfl
  | succ f ih =>
    intro s t h
    unfold sweep
    rcases Nat.lt_or_ge s m with hs | hs
    · obtain ⟨k, v, hp⟩ := occ_iff.1 (h.full s (Nat.le_refl _) hs)
      rw [hp]
      simp only
      have hn : 0 < t.length := by have := h.ln; omega
      have hpl := Nat.mod_lt (i + s) hn
      have hpk : pl t ((i + s) % t.length) = some (k, v) := by rw [pl_mod]; exact hp
      have hgap : ∃ x, x < (t.set ((i + s) % t.length) none).length ∧ occ (t.set ((i + s) % t.length) none) x = false :=
        ⟨(i + s) % t.length, by simpa using hpl, by rw [occ_unset hpl]; simp⟩
      rw [show i + s + 1 = i + (s + 1) by omega, ih (s + 1) _ (h.step H hs hp), lay_has H hgap, unset_has h.one hpl hpk]
      constructor
      · rintro (⟨rfl, rfl⟩ | h)
        · exact ⟨_, hpl, hpk⟩
        · exact h.1
      · intro hh
        by_cases e : k' = k
        · subst e
          obtain ⟨j, hj, hjp⟩ := hh
          have := h.one _ _ _ _ _ hj hpl hjp hpk
          subst this
          rw [hpk] at hjp
          simp only [Option.some.injEq, Prod.mk.injEq, true_and] at hjp
          exact Or.inl ⟨rfl, hjp.symm⟩
        · exact Or.inr ⟨hh, e⟩
    · have : s = m := by have := h.s1; omega
      subst this
      have := h.top
      unfold occ at this
      cases hp : pl t (i + s) with
      | none => rfl
      | some x => rw [hp] at this; cases this
theorem remove_has {t : Tab} (hw : Wf H t) {i : Nat} (hi : i < t.length) {k : ByteArray} {v : Int} (hp : pl t i = some (k, v)) (k' : ByteArray) (v' : Int) : Has (removeT H t i) k' v' ↔ Has t k' v' ∧ k' ≠ k := by
  obtain ⟨m, hm, h⟩ := Mid.start H hw hi (occ_iff.2 ⟨k, v, hp⟩)
  unfold removeT
  rw [sweep_has H k' v' _ 1 _ h, unset_has hw.one hi hp]
/-- the entries behind a place, all taken out, in order -/
def clearC (t : Tab) (k : Nat) : Nat → Tab × List (ByteArray × Int)
  | 0 => (t, [])
  | f + 1 => match pl t k with
    | none => (t, [])
    | some e => ((clearC (t.set (k % t.length) none) (k + 1) f).1, e :: (clearC (t.set (k % t.length) none) (k + 1) f).2)
def layAll (t : Tab) (l : List (ByteArray × Int)) : Tab := l.foldl (fun t e => layT H t e.1 e.2) t
def removeR (t : Tab) (i : Nat) : Tab := layAll H (clearC (t.set i none) (i + 1) t.length).1 (clearC (t.set i none) (i + 1) t.length).2
end
end Go.Proofs.Ytbhdgeoljlhmcaa.St
/- Tables: an entry taken out as the document does it is the same; plain facts. -/
namespace Go.Proofs.Ytbhdgeoljlhmcaa.St
section
variable (H : ByteArray → Nat)
theorem clearC_length (t : Tab) (k f : Nat) : (clearC t k f).1.length = t.length := by
  induction f generalizing t k with
  | zero => rfl
  | succ f ih => unfold clearC; split; rfl; simp only; rw [ih]; simp
theorem clearC_len {t : Tab} {k f c : Nat} (h : occ t (k + c) = false) : (clearC t k f).2.length ≤ c := by
  induction f generalizing t k c with
  | zero => simp [clearC]
  | succ f ih =>
    unfold clearC
    split
    · simp
    · rename_i e hp
      rcases c with _ | c
      · rw [Nat.add_zero] at h; unfold occ at h; rw [hp] at h; cases h
      · simp only [List.length_cons]
        have hn : 0 < t.length := by
          rcases Nat.eq_zero_or_pos t.length with h0 | h0
          · unfold pl at hp; rw [List.length_eq_zero_iff.1 h0] at hp; simp at hp
          · exact h0
        have := ih (t := t.set (k % t.length) none) (k := k + 1) (c := c) (by rw [occ_unset (Nat.mod_lt _ hn), show k + 1 + c = k + (c + 1) by omega, h]; rfl)
        omega
theorem clearC_pl (t : Tab) (k f j : Nat) : pl (clearC t k f).1 j = pl t j ∨ pl (clearC t k f).1 j = none := by
  induction f generalizing t k with
  | zero => exact Or.inl rfl
  | succ f ih =>
    unfold clearC
    split
    · exact Or.inl rfl
    · rename_i e hp
      simp only
      rcases ih (t.set (k % t.length) none) (k + 1) with h | h
      · rw [h]
        by_cases hj : j % t.length = k % t.length
        · right
          have hn : 0 < t.length := by
            rcases Nat.eq_zero_or_pos t.length with h0 | h0
            · unfold pl at hp; rw [List.length_eq_zero_iff.1 h0] at hp; simp at hp
            · exact h0
          have := occ_unset (t := t) (i := k % t.length) (j := j) (Nat.mod_lt _ hn)
          rw [hj] at this
          simp only [decide_true, Bool.not_true, Bool.and_false] at this
          unfold occ at this
          cases hq : pl (t.set (k % t.length) none) j with
          | none => rfl
          | some x => rw [hq] at this; cases this
        · left; exact pl_set_ne hj _
      · exact Or.inr h
theorem clearC_off {t : Tab} {k f j : Nat} (h : ∀ u, u < (clearC t k f).2.length → (k + u) % t.length ≠ j % t.length) : pl (clearC t k f).1 j = pl t j := by
  induction f generalizing t k with
  | zero => rfl
  | succ f ih =>
    unfold clearC at h ⊢
    split
    · rfl
    · rename_i e hp
      rw [hp] at h
      simp only [List.length_cons] at h ⊢
      rw [ih (fun u hu => by
        have := h (u + 1) (by omega)
        simp only [List.length_set]
        rwa [show k + (u + 1) = k + 1 + u by omega] at this)]
      exact pl_set_ne (fun e => h 0 (by omega) (by rw [Nat.add_zero]; exact e.symm)) _
theorem clearC_set {t : Tab} {k f sl : Nat} {x : ByteArray × Int} (h : ∀ u, u ≤ (clearC t k f).2.length → (k + u) % t.length ≠ sl) :
    clearC (t.set sl (some x)) k f = ((clearC t k f).1.set sl (some x), (clearC t k f).2) := by
  induction f generalizing t k with
  | zero => rfl
  | succ f ih =>
    have h0 := h 0 (by omega)
    rw [Nat.add_zero] at h0
    unfold clearC at h ⊢
    rw [pl_set_ne h0]
    split
    · rfl
    · rename_i e hp
      rw [hp] at h
      simp only [List.length_cons, List.length_set] at h ⊢
      rw [List.set_comm _ _ (fun e => h0 e.symm), ih (fun u hu => by
        have := h (u + 1) (by omega)
        simp only [List.length_set]
        rwa [show k + (u + 1) = k + 1 + u by omega] at this)]
theorem Mid.lay {t : Tab} {i s m : Nat} (h : Mid H t i s m) (hs : s < m) {k : ByteArray} {v : Int} (hp : pl t (i + s) = some (k, v)) {t' : Tab} (ht' : t' = t.set ((i + s) % t.length) none) :
    slot H t' k < t.length ∧ occ t' (slot H t' k) = false ∧ slot H t' k ≠ (i + m) % t.length ∧ far t' free (H k) t.length < t.length ∧
    (∀ e, e < far t' free (H k) t.length → occ t' (H k + e) = true) ∧ (∀ e u, e < far t' free (H k) t.length → s < u → u < m → (H k + e) % t.length ≠ (i + u) % t.length) := by
  have hn : 0 < t.length := by have := h.ln; omega
  have hmn := h.m1
  obtain ⟨p, hpp⟩ : ∃ p, p = (i + s) % t.length := ⟨_, rfl⟩
  have hpl : p < t.length := by rw [hpp]; exact Nat.mod_lt _ hn
  rw [← hpp] at ht'
  have hln : t'.length = t.length := by rw [ht']; simp
  have hmp : (i + m) % t.length ≠ p := fun e => by
    rw [hpp] at e
    have := off_one (n := t.length) (j := i) (d := m) (e := s) (by omega) (by omega) e
    omega
  obtain ⟨d, hd, hdj, hpath⟩ := h.home H hp
  have hfree : free (pl t' (H k + d)) = true := by
    have := occ_unset (t := t) (i := p) (j := H k + d) hpl
    rw [← ht', hdj, ← hpp] at this
    simp only [decide_true, Bool.not_true, Bool.and_false] at this
    unfold occ at this
    rw [free_iff]; simpa using this
  have hat := far_at (t := t') (p := free) (i := H k) (f := t.length) hd hfree
  have hbe := far_before (t := t') (p := free) (i := H k) (f := t.length)
  have hsl : slot H t' k = (H k + far t' free (H k) t.length) % t.length := by unfold slot; rw [hln]
  have hocc : ∀ j, occ t' j = (occ t j && !decide (j % t.length = p)) := fun j => by rw [ht', occ_unset hpl]
  have hlt : slot H t' k < t.length := by rw [hsl]; exact Nat.mod_lt _ hn
  refine ⟨hlt, ?_, fun e => ?_, by omega, fun e he => free_not.1 (hbe e he), fun e u he h1 h2 h3 => ?_⟩
  · have : occ t' (slot H t' k) = occ t' (H k + far t' free (H k) t.length) := by rw [hsl, ← hln, occ_mod]
    rw [this]; unfold occ; rw [free_iff.1 hat.2]; rfl
  · rw [hsl] at e
    rcases Nat.lt_or_ge (far t' free (H k) t.length) d with hl | hg
    · rcases hpath _ hl with h1 | ⟨u, hu, h2⟩
      · rw [← occ_mod, e, occ_mod, h.top] at h1; cases h1
      · rw [e] at h2
        have := off_one (n := t.length) (j := i) (d := m) (e := u) (by omega) (by omega) h2
        omega
    · have : far t' free (H k) t.length = d := by omega
      rw [this, hdj, ← hpp] at e
      exact hmp e.symm
  · -- from offset u the way goes on to offset s, past offset m
    have hstep : ∀ x, (H k + (e + x)) % t.length = (i + (u + x)) % t.length := fun x => by
      rw [show H k + (e + x) = H k + e + x by omega, ← Nat.mod_add_mod (H k + e), h3, Nat.mod_add_mod, Nat.add_assoc]
    have h4 : e + (m - u) < d := by
      rcases Nat.lt_or_ge (e + (m - u)) d with h | h
      · exact h
      · exfalso
        have h5 := hstep (d - e)
        rw [show e + (d - e) = d by omega, hdj] at h5
        have := off_one (n := t.length) (j := i) (d := s) (e := u + (d - e)) (by omega) (by omega) h5
        omega
    have h6 := hstep (m - u)
    rw [show u + (m - u) = m by omega] at h6
    rcases hpath _ h4 with h7 | ⟨u', h7, h8⟩
    · rw [← occ_mod, h6, occ_mod, h.top] at h7; cases h7
    · rw [h6] at h8
      have := off_one (n := t.length) (j := i) (d := m) (e := u') (by omega) (by omega) h8
      omega
theorem removeR_sweep {i m : Nat} : ∀ (f s : Nat) (t : Tab), m - s ≤ f → Mid H t i s m → layAll H (clearC t (i + s) f).1 (clearC t (i + s) f).2 = sweep H t (i + s) f := by
  intro f
  induction f with
  | zero => intro s t _ _; rfl
  | succ f ih =>
    intro s t hf h
    have hn : 0 < t.length := by have := h.ln; omega
    have hmn := h.m1
    rcases Nat.lt_or_ge s m with hs | hs
    · obtain ⟨k, v, hp⟩ := occ_iff.1 (h.full s (Nat.le_refl _) hs)
      obtain ⟨t', ht'⟩ : ∃ t', t' = t.set ((i + s) % t.length) none := ⟨_, rfl⟩
      have hln : t'.length = t.length := by rw [ht']; simp
      obtain ⟨hsl, hso, hsm, hfl, hpath, hzone⟩ := h.lay H hs hp ht'
      have hpl := Nat.mod_lt (i + s) hn
      have hocc : ∀ j, occ t' j = (occ t j && !decide (j % t.length = (i + s) % t.length)) := fun j => by rw [ht', occ_unset hpl]
      have htop : occ t' (i + m) = false := by rw [hocc, h.top]; rfl
      have hlen : (clearC t' (i + (s + 1)) f).2.length ≤ m - (s + 1) := clearC_len (by rw [show i + (s + 1) + (m - (s + 1)) = i + m by omega]; exact htop)
      have hzo : ∀ u, s < u → u < m → occ t' (i + u) = true := fun u h1 h2 => by
        rw [hocc, h.full u (by omega) h2]
        have : (i + u) % t.length ≠ (i + s) % t.length := fun e => by
          have := off_one (n := t.length) (j := i) (d := u) (e := s) (by omega) (by omega) e
          omega
        simp [this]
      obtain ⟨C, hC⟩ : ∃ C, C = (clearC t' (i + (s + 1)) f).1 := ⟨_, rfl⟩
      have hCl : C.length = t.length := by rw [hC, clearC_length, hln]
      have hfar : far C free (H k) t.length = far t' free (H k) t.length := by
        refine far_eq hfl ?_ (fun e he => ?_)
        · have h1 : pl t' (H k + far t' free (H k) t.length) = none := by
            have : occ t' (slot H t' k) = occ t' (H k + far t' free (H k) t.length) := by unfold slot; rw [occ_mod, hln]
            rw [this] at hso
            unfold occ at hso; simpa using hso
          rw [free_iff]
          rcases clearC_pl t' (i + (s + 1)) f (H k + far t' free (H k) t.length) with h2 | h2
          · rw [hC, h2, h1]
          · rw [hC, h2]
        · rw [free_not, hC, clearC_off (fun u hu e' => hzone e (s + 1 + u) he (by omega) (by omega) (by rw [hln] at e'; rw [show i + (s + 1 + u) = i + (s + 1) + u by omega]; exact e'.symm))]
          exact hpath e he
      have hslot : slot H C k = slot H t' k := by unfold slot; rw [hCl, hln, hfar]
      have hset := clearC_set (t := t') (k := i + (s + 1)) (f := f) (sl := slot H t' k) (x := (k, v)) (fun u hu e => by
        rw [hln] at e
        rcases Nat.lt_or_ge (s + 1 + u) m with h1 | h1
        · have h2 := hzo (s + 1 + u) (by omega) h1
          rw [show i + (s + 1 + u) = i + (s + 1) + u by omega, ← occ_mod, hln, e, hso] at h2
          cases h2
        · have : s + 1 + u = m := by omega
          rw [show i + (s + 1) + u = i + (s + 1 + u) by omega, this] at e
          exact hsm e.symm)
      have hstepM := h.step H hs hp
      rw [← ht'] at hstepM
      have hih := ih (s + 1) _ (by omega) hstepM
      unfold sweep clearC
      rw [hp]
      simp only
      rw [← ht', show i + s + 1 = i + (s + 1) by omega, ← hih]
      unfold layAll
      rw [List.foldl_cons]
      simp only
      rw [show layT H t' k v = t'.set (slot H t' k) (some (k, v)) from rfl, hset, ← hC]
      simp only
      rw [show layT H C k v = C.set (slot H t' k) (some (k, v)) by unfold layT; rw [hslot]]
    · have : s = m := by have := h.s1; omega
      subst this
      have := h.top
      unfold occ at this
      unfold sweep clearC
      cases hp : pl t (i + s) with
      | none => rfl
      | some x => rw [hp] at this; cases this
theorem removeR_eq {t : Tab} (hw : Wf H t) {i : Nat} (hi : i < t.length) (ho : occ t i = true) : removeR H t i = removeT H t i := by
  obtain ⟨m, hm, h⟩ := Mid.start H hw hi ho
  unfold removeR removeT
  exact removeR_sweep H t.length 1 (t.set i none) (by have := h.m1; simp at this; omega) h
end
end Go.Proofs.Ytbhdgeoljlhmcaa.St
/- Tables: how many entries, a table grown; plain facts. -/
namespace Go.Proofs.Ytbhdgeoljlhmcaa.St
section
variable (H : ByteArray → Nat)
/-- how many entries -/
def cn (t : Tab) : Nat := t.countP (·.isSome)
/-- the entries in order -/
def ents (t : Tab) : List (ByteArray × Int) := t.filterMap id
theorem ents_length (t : Tab) : (ents t).length = cn t := by
  unfold ents cn
  induction t with
  | nil => rfl
  | cons o t ih => cases o <;> simp [ih]
theorem pl_getE {t : Tab} {i : Nat} (hi : i < t.length) : pl t i = t[i] := by unfold pl; rw [Nat.mod_eq_of_lt hi, List.getElem?_eq_getElem hi]; rfl
theorem cn_set {t : Tab} {i : Nat} (hi : i < t.length) (o : Option (ByteArray × Int)) : cn (t.set i o) + (if occ t i then 1 else 0) = cn t + (if o.isSome then 1 else 0) := by
  unfold cn occ
  rw [List.countP_set hi, pl_getE hi]
  by_cases h : (t[i]).isSome = true
  · have : 1 ≤ t.countP (·.isSome) := List.countP_pos_iff.2 ⟨t[i], List.getElem_mem hi, h⟩
    simp only [h, if_true]
    omega
  · simp [h]
theorem cn_le (t : Tab) : cn t ≤ t.length := List.countP_le_length
theorem cn_gap {t : Tab} (h : cn t < t.length) : ∃ i, i < t.length ∧ occ t i = false := by
  apply Classical.byContradiction
  intro hn
  have : cn t = t.length := by
    unfold cn
    rw [List.countP_eq_length]
    intro o ho
    obtain ⟨i, hi, rfl⟩ := List.mem_iff_getElem.1 ho
    cases hq : occ t i with
    | false => exact absurd ⟨i, hi, hq⟩ hn
    | true => unfold occ at hq; rwa [pl_getE hi] at hq
  omega
theorem gap_cn {t : Tab} (h : ∃ i, i < t.length ∧ occ t i = false) : cn t < t.length := by
  obtain ⟨i, hi, ho⟩ := h
  have h1 := cn_set hi (some (⟨#[]⟩, 0))
  have h2 := cn_le (t.set i (some (⟨#[]⟩, 0)))
  simp only [List.length_set, ho, Option.isSome] at h1 h2
  simp at h1
  omega
theorem cn_two {t : Tab} (h : cn t + 1 < t.length) : ∃ i j, i < t.length ∧ j < t.length ∧ i ≠ j ∧ occ t i = false ∧ occ t j = false := by
  obtain ⟨i, hi, ho⟩ := cn_gap (t := t) (by omega)
  have h1 := cn_set hi (some (⟨#[]⟩, 0))
  simp only [ho, Option.isSome] at h1
  simp at h1
  obtain ⟨j, hj, hjo⟩ := cn_gap (t := t.set i (some (⟨#[]⟩, 0))) (by simp; omega)
  simp only [List.length_set] at hj
  rw [occ_set hi, Nat.mod_eq_of_lt hj] at hjo
  simp only [Bool.or_eq_false_iff, decide_eq_false_iff_not] at hjo
  exact ⟨i, j, hi, hj, fun e => hjo.2 e.symm, ho, hjo.1⟩
theorem cn_lay {t : Tab} (hg : ∃ i, i < t.length ∧ occ t i = false) (k : ByteArray) (v : Int) : cn (layT H t k v) = cn t + 1 := by
  obtain ⟨hs, hso, _⟩ := slot_free H hg k
  have h1 := cn_set hs (some (k, v))
  simp only [hso, Option.isSome] at h1
  unfold layT
  simpa using h1
theorem sweep_cn (f k : Nat) (t : Tab) : cn (sweep H t k f) = cn t := by
  induction f generalizing k t with
  | zero => rfl
  | succ f ih =>
    unfold sweep
    cases hp : pl t k with
    | none => rfl
    | some x =>
      obtain ⟨k', v⟩ := x
      simp only
      rw [ih]
      have hn : 0 < t.length := by
        apply Classical.byContradiction; intro h
        have : t = [] := List.length_eq_zero_iff.1 (by omega)
        subst this; simp [pl] at hp
      have hm : k % t.length < t.length := Nat.mod_lt _ hn
      have h1 := cn_set hm none
      have ho : occ t (k % t.length) = true := by rw [occ_mod]; unfold occ; rw [hp]; rfl
      simp only [ho] at h1
      simp at h1
      rw [cn_lay H ⟨k % t.length, by simpa using hm, by rw [occ_unset hm]; simp⟩]
      omega
theorem cn_remove {t : Tab} {i : Nat} (hi : i < t.length) (ho : occ t i = true) : cn (removeT H t i) + 1 = cn t := by
  unfold removeT
  rw [sweep_cn]
  have h1 := cn_set hi none
  simp only [ho] at h1
  simpa using h1
theorem wf_none {n : Nat} (hn : 1 ≤ n) : Wf H (List.replicate n none) := by
  have hp : ∀ i, pl (List.replicate n none) i = none := fun i => by
    unfold pl
    rw [List.getElem?_replicate]
    split <;> rfl
  exact ⟨fun i k v _ h => absurd (hp i) (by rw [h]; simp), fun i j k v1 v2 _ _ h _ => absurd (hp i) (by rw [h]; simp), ⟨0, by simp; omega, by unfold occ; rw [hp]; rfl⟩⟩
theorem cn_none (n : Nat) : cn (List.replicate n none) = 0 := by unfold cn; simp [List.countP_replicate]
theorem has_none (n : Nat) (k : ByteArray) (v : Int) : ¬ Has (List.replicate n none) k v := by
  rintro ⟨i, _, h⟩
  unfold pl at h
  rw [List.getElem?_replicate] at h
  split at h <;> cases h
theorem has_mem {t : Tab} {k : ByteArray} {v : Int} : Has t k v ↔ (k, v) ∈ ents t := by
  unfold ents
  simp only [List.mem_filterMap, id]
  constructor
  · rintro ⟨i, hi, h⟩
    rw [pl_getE hi] at h
    exact ⟨t[i], List.getElem_mem hi, h⟩
  · rintro ⟨o, ho, rfl⟩
    obtain ⟨i, hi, h⟩ := List.mem_iff_getElem.1 ho
    exact ⟨i, hi, by rw [pl_getE hi]; exact h⟩
/-- no key twice -/
theorem ents_one {t : Tab} (hw : Wf H t) : (ents t).Pairwise (fun a b => a.1 ≠ b.1) := by
  unfold ents
  rw [List.pairwise_filterMap, List.pairwise_iff_getElem]
  intro i j hi hj hij a ha b hb hab
  simp only [id] at ha hb
  have := hw.one i j a.1 a.2 b.2 hi hj (by rw [pl_getE hi]; exact ha) (by rw [pl_getE hj, hab]; exact hb)
  omega
theorem layAll_length (t : Tab) (l : List (ByteArray × Int)) : (layAll H t l).length = t.length := by
  unfold layAll
  induction l generalizing t with
  | nil => rfl
  | cons e l ih => simp only [List.foldl_cons, ih, layT_length]
theorem layAll_snoc (t : Tab) (l : List (ByteArray × Int)) (e : ByteArray × Int) : layAll H t (l ++ [e]) = layT H (layAll H t l) e.1 e.2 := by
  unfold layAll; rw [List.foldl_append]; rfl
theorem layAll_good {t : Tab} (hw : Wf H t) (l : List (ByteArray × Int)) (hl : l.Pairwise (fun a b => a.1 ≠ b.1)) (hd : ∀ e ∈ l, ∀ v, ¬ Has t e.1 v) (hc : cn t + l.length < t.length) :
    Wf H (layAll H t l) ∧ cn (layAll H t l) = cn t + l.length ∧ ∀ k v, Has (layAll H t l) k v ↔ (k, v) ∈ l ∨ Has t k v := by
  induction l generalizing t with
  | nil => exact ⟨hw, rfl, fun k v => by simp [layAll]⟩
  | cons e l ih =>
    simp only [List.length_cons] at hc
    have hg := cn_gap (t := t) (by omega)
    have h1 := lay_wf H hw (k := e.1) e.2 (fun i v hi h => hd e (by simp) v ⟨i, hi, h⟩) (cn_two (t := t) (by omega))
    have h2 := cn_lay H hg e.1 e.2
    have h3 := lay_has H hg e.1 e.2
    rw [List.pairwise_cons] at hl
    obtain ⟨a, b, c⟩ := ih h1 hl.2 (fun x hx v hh => by
      rcases (h3 x.1 v).1 hh with ⟨e1, _⟩ | hh
      · exact hl.1 x hx e1.symm
      · exact hd x (by simp [hx]) v hh) (by rw [h2, layT_length]; omega)
    refine ⟨a, by show cn (layAll H (layT H t e.1 e.2) l) = _; rw [b, h2]; simp; omega, fun k v => ?_⟩
    show Has (layAll H (layT H t e.1 e.2) l) k v ↔ _
    rw [c, h3, List.mem_cons, Prod.ext_iff]
    simp only
    constructor
    · rintro (h | h | h)
      · exact Or.inl (Or.inr h)
      · exact Or.inl (Or.inl h)
      · exact Or.inr h
    · rintro ((h | h) | h)
      · exact Or.inr (Or.inl h)
      · exact Or.inl h
      · exact Or.inr (Or.inr h)
/-- a table of twice the places with the same entries -/
def growT (t : Tab) : Tab := layAll H (List.replicate (2 * t.length) none) (ents t)
theorem growT_length (t : Tab) : (growT H t).length = 2 * t.length := by unfold growT; rw [layAll_length]; simp
theorem grow_good {t : Tab} (hw : Wf H t) : Wf H (growT H t) ∧ cn (growT H t) = cn t ∧ ∀ k v, Has (growT H t) k v ↔ Has t k v := by
  have hlt := gap_cn hw.gap
  obtain ⟨a, b, c⟩ := layAll_good H (wf_none H (n := 2 * t.length) (by omega)) (ents t) (ents_one H hw) (fun _ _ _ => has_none _ _ _) (by rw [cn_none, ents_length]; simp; omega)
  refine ⟨a, by unfold growT; rw [b, cn_none, ents_length]; simp, fun k v => ?_⟩
  unfold growT
  rw [c, ← has_mem]
  exact ⟨fun h => h.elim id (fun h => absurd h (has_none _ _ _)), Or.inl⟩
/-- an entry put in, the table grown first if it has to -/
def addT (t : Tab) (k : ByteArray) (v : Int) : Tab := layT H (if 3 * t.length ≤ 4 * cn t then growT H t else t) k v
theorem add_good {t : Tab} (hw : Wf H t) (hn : 4 ≤ t.length) {k : ByteArray} (v : Int) (hk : ∀ v, ¬ Has t k v) :
    Wf H (addT H t k v) ∧ cn (addT H t k v) = cn t + 1 ∧ 4 ≤ (addT H t k v).length ∧ ∀ k' v', Has (addT H t k v) k' v' ↔ (k' = k ∧ v' = v) ∨ Has t k' v' := by
  have hlt := gap_cn hw.gap
  unfold addT
  split
  · obtain ⟨a, b, c⟩ := grow_good H hw
    have hl := growT_length H t
    have hg := cn_gap (t := growT H t) (by omega)
    refine ⟨lay_wf H a v (fun i v hi h => hk v ((c k v).1 ⟨i, hi, h⟩)) (cn_two (by omega)), by rw [cn_lay H hg, b], by rw [layT_length]; omega, fun k' v' => by rw [lay_has H hg, c]⟩
  · rename_i h
    have hg := hw.gap
    refine ⟨lay_wf H hw v (fun i v hi h => hk v ⟨i, hi, h⟩) (cn_two (by omega)), cn_lay H hg _ _, by rw [layT_length]; exact hn, fun k' v' => lay_has H hg _ _ _ _⟩
end
end Go.Proofs.Ytbhdgeoljlhmcaa.St
/- The hash of a key, the program's and the document's. -/
namespace Go.Proofs.Ytbhdgeoljlhmcaa
open Go.RowKit Go.Proofs.Ytbhdgeoljlhmcaa.Nm
def hst (h : Int) (c : UInt8) : Int := bits .xor .u32 h ((c.toNat : Int) % 4294967296) * 16777619 % 4294967296
def hs0 (seed : Int) : Int := (2166136261 + seed % 4294967296) % 4294967296
theorem bits32 (op : BinOp) (x y : Int) : 0 ≤ bits op .u32 x y ∧ bits op .u32 x y < 4294967296 := by
  unfold bits IntKind.wrap
  simp only [IntKind.signed, IntKind.bits]
  constructor
  · exact Int.emod_nonneg _ (by decide)
  · exact Int.emod_lt_of_pos _ (by decide)
def hashI (h : Int) : Int := bits .xor .u32 h (h / 32768)
/-- the hash of a key -/
def hashN (l : List UInt8) (seed : Int) : Nat := (hashI (l.foldl hst (hs0 seed))).toNat
theorem hashN_cast (l : List UInt8) (seed : Int) : ((hashN l seed : Nat) : Int) = hashI (l.foldl hst (hs0 seed)) := Int.toNat_of_nonneg (bits32 _ _ _).1
theorem hashI_wrap (h : Int) : wrap64 (hashI h) = hashI h := by
  have := bits32 .xor h (h / 32768)
  exact IntWalk.wrap64_in (hashI h) (by unfold hashI; omega)
theorem ret_int {k : IntKind} {a b : Int} (h : a = b) : Ending.returned (.int k a) = .returned (.int k b) := by rw [h]
theorem take_snoc (s : ByteArray) (k : Nat) (h : k < s.size) : s.data.toList.take (k + 1) = s.data.toList.take k ++ [s[k]] := by
  rw [List.take_succ_eq_append_getElem (by simpa using h)]; rfl
set_option maxHeartbeats 400000 in
theorem Hash_any (m : ByteArray) (hm : m.size ≤ 1000000000) (seed : Int) (w : World) :
    Calls Try.prog 35 #[.string m, .int .i64 seed] w fun e w' => e = .returned (.int .i64 ((hashN m.data.toList seed : Nat) : Int)) ∧ w = w' := by
  have HH := Lib.hid (hashN_cast m.data.toList seed)
  go_enter Try.func35, Try.ntmps35
  go_wp2_with fail
  go_loop [5, 12] (fun h i => ∃ (k : Nat), k ≤ m.size ∧ i = .int .i64 (k : Int) ∧ h = .int .u32 ((m.data.toList.take k).foldl hst (hs0 seed))) (fun _ i => (m.size - intOf i).toNat)
  case atStart => exact ⟨0, by omega, rfl, rfl⟩
  case round =>
    obtain ⟨k, hk, rfl, rfl⟩ := hrel
    by_cases hlt : k < m.size
    · have HT := Lib.hid (take_snoc m k hlt)
      generalize hz : (m.data.toList.take k).foldl hst (hs0 seed) = z
      have HZ := Lib.hid hz
      clear hz
      go_wp2_with fail
      go_round
      case rel => exact ⟨k + 1, by omega, by go_num, by rw [HT.out, List.foldl_append, HZ.out]; rfl⟩
      case measure => simp [intOf]; omega
    · obtain rfl : k = m.size := by omega
      rw [show m.data.toList.take m.size = m.data.toList from List.take_of_length_le (by simp)]
      generalize hz : m.data.toList.foldl hst (hs0 seed) = z
      rw [hz] at HH
      clear hz
      go_wp2_with fail
      go_ret
      exact ⟨ret_int (by rw [HH.out]; exact hashI_wrap z), rfl⟩
set_option maxHeartbeats 400000 in
theorem HashI_any (m : ByteArray) (hm : m.size ≤ 1000000000) (seed : Int) (w : World) :
    Calls Try.prog 36 #[.string m, .int .i64 seed] w fun e w' => e = .returned (.int .i64 ((hashN m.data.toList seed : Nat) : Int)) ∧ w = w' := by
  have HH := Lib.hid (hashN_cast m.data.toList seed)
  go_enter Try.func36, Try.ntmps36
  go_wp2_with fail
  go_loop [5, 6] (fun h i => ∃ (k : Nat), k ≤ m.size ∧ i = .int .i64 (k : Int) ∧ h = .int .u32 ((m.data.toList.take k).foldl hst (hs0 seed))) (fun _ i => (m.size - intOf i).toNat)
  case atStart => exact ⟨0, by omega, rfl, rfl⟩
  case round =>
    obtain ⟨k, hk, rfl, rfl⟩ := hrel
    by_cases hlt : k < m.size
    · have HT := Lib.hid (take_snoc m k hlt)
      generalize hz : (m.data.toList.take k).foldl hst (hs0 seed) = z
      have HZ := Lib.hid hz
      clear hz
      go_wp2_with fail
      go_round
      case rel => exact ⟨k + 1, by omega, by go_num, by rw [HT.out, List.foldl_append, HZ.out]; rfl⟩
      case measure => simp [intOf]; omega
    · obtain rfl : k = m.size := by omega
      rw [show m.data.toList.take m.size = m.data.toList from List.take_of_length_le (by simp)]
      generalize hz : m.data.toList.foldl hst (hs0 seed) = z
      rw [hz] at HH
      clear hz
      go_wp2_with fail
      go_ret
      exact ⟨ret_int (by rw [HH.out]; exact hashI_wrap z), rfl⟩
open Go.RowKit Go.Proofs.Ytbhdgeoljlhmcaa.Nm Go.Proofs.Ytbhdgeoljlhmcaa.St
set_option linter.unusedSimpArgs false
theorem u9 : Try.prog.underlying 9 = some .string := by kernel_rfl
theorem u85 : Try.prog.underlying 85 = some (.slice 95) := by kernel_rfl
theorem u29 : Try.prog.underlying 29 = some (.slice 9) := by kernel_rfl
theorem u91 : Try.prog.underlying 91 = some (.struct (Try.prog.fieldsOf 91)) := by kernel_rfl
theorem u95 : Try.prog.underlying 95 = some (.struct (Try.prog.fieldsOf 95)) := by kernel_rfl
theorem info91 : (Try.prog.info? 91).map (·.size) = some 2 := by kernel_rfl
theorem info95 : (Try.prog.info? 95).map (·.size) = some 3 := by kernel_rfl
theorem one3 {w : World} {ad : Addr} {v : Value} (h : w.cell? ad = some v) : OneAt w 3 ad v := one_of u3 rfl h
theorem one4 {w : World} {ad : Addr} {v : Value} (h : w.cell? ad = some v) : OneAt w 4 ad v := one_of u4 rfl h
theorem one9 {w : World} {ad : Addr} {v : Value} (h : w.cell? ad = some v) : OneAt w 9 ad v := one_of u9 rfl h
theorem one85 {w : World} {ad : Addr} {v : Value} (h : w.cell? ad = some v) : OneAt w 85 ad v := one_of u85 rfl h
theorem one29 {w : World} {ad : Addr} {v : Value} (h : w.cell? ad = some v) : OneAt w 29 ad v := one_of u29 rfl h
/-- an entry's cells -/
def eb (o : Option (ByteArray × Int)) : Bool := o.isSome
def ek (o : Option (ByteArray × Int)) : ByteArray := match o with | none => ⟨#[]⟩ | some (k, _) => k
def ev (o : Option (ByteArray × Int)) : Int := match o with | none => 0 | some (_, v) => v
def ecells (o : Option (ByteArray × Int)) : Array Value := #[.bool (eb o), .string (ek o), .int .i64 (ev o)]
theorem ecells_one (o : Option (ByteArray × Int)) : (ecells o).all (·.oneCell') = true := by simp [ecells, Value.oneCell']
/-- a table lies in block p -/
def PlAt (w : World) (p cap : Nat) (t : Tab) : Prop := ∃ cur, w.heap[p]? = some (.cells cur 95 (0, 0)) ∧ cur.size = cap * 3 ∧ t.length ≤ cap ∧
  ∀ i, i < t.length → cur[i * 3]? = some (.bool (eb (pl t i))) ∧ cur[i * 3 + 1]? = some (.string (ek (pl t i))) ∧ cur[i * 3 + 2]? = some (.int .i64 (ev (pl t i)))
theorem PlAt.lt {w : World} {p cap : Nat} {t : Tab} (h : PlAt w p cap t) : p < w.heap.size := by obtain ⟨_, h, _⟩ := h; exact heap_lt h
theorem PlAt.look {w w' : World} {p cap : Nat} {t : Tab} (h : PlAt w p cap t) (hp : w'.heap[p]? = w.heap[p]?) : PlAt w' p cap t := by
  obtain ⟨cur, h1, h2⟩ := h; exact ⟨cur, by rw [hp]; exact h1, h2⟩
theorem PlAt.below {w w' : World} {p cap : Nat} {t : Tab} (h : PlAt w p cap t) (hb : Below w.heap.size w w') : PlAt w' p cap t := h.look (hb.block p h.lt)
theorem PlAt.cell {w : World} {p cap i : Nat} {t : Tab} (h : PlAt w p cap t) (hi : i < t.length) :
    w.cell? ⟨p, i * 3, none⟩ = some (.bool (eb (pl t i))) ∧ w.cell? ⟨p, i * 3 + 1, none⟩ = some (.string (ek (pl t i))) ∧ w.cell? ⟨p, i * 3 + 2, none⟩ = some (.int .i64 (ev (pl t i))) := by
  obtain ⟨cur, h1, _, _, h2⟩ := h
  rw [cell_of_row _ _ _ _ _ _ h1, cell_of_row _ _ _ _ _ _ h1, cell_of_row _ _ _ _ _ _ h1]
  exact h2 i hi
theorem PlAt.there {w : World} {p cap i : Nat} {t : Tab} (h : PlAt w p cap t) (hi : i < t.length) : w.there p (i * 3) 3 := by
  obtain ⟨cur, h1, h2, h3, _⟩ := h
  intro j hj
  rw [cell_of_row _ _ _ _ _ _ h1, frozen_of_row _ _ _ _ _ h1, Array.getElem?_eq_getElem (by omega)]
  exact ⟨rfl, rfl⟩
theorem PlAt.set {w : World} {p cap i : Nat} {t : Tab} (h : PlAt w p cap t) (hi : i < t.length) (o : Option (ByteArray × Int)) :
    PlAt (w.setCells p (i * 3) (ecells o).toList) p cap (t.set i o) := by
  obtain ⟨cur, h1, h2, h3, h4⟩ := h
  refine ⟨((cur.setIfInBounds (i * 3) (.bool (eb o))).setIfInBounds (i * 3 + 1) (.string (ek o))).setIfInBounds (i * 3 + 1 + 1) (.int .i64 (ev o)), hs_new (hs_new (hs_new h1)), by simpa using h2, by simpa using h3, fun j hj => ?_⟩
  simp only [List.length_set] at hj
  rw [pl_set hi hj]
  by_cases e : j = i
  · subst e
    rw [if_pos rfl]
    refine ⟨?_, ?_, ?_⟩
    · rw [Array.getElem?_setIfInBounds_ne (by omega), Array.getElem?_setIfInBounds_ne (by omega), Array.getElem?_setIfInBounds_self_of_lt (by omega)]
    · rw [Array.getElem?_setIfInBounds_ne (by omega), Array.getElem?_setIfInBounds_self_of_lt (by simp; omega)]
    · rw [Array.getElem?_setIfInBounds_self_of_lt (by simp; omega)]
  · rw [if_neg e]
    obtain ⟨a, b, c⟩ := h4 j hj
    refine ⟨?_, ?_, ?_⟩
    · rw [Array.getElem?_setIfInBounds_ne (by omega), Array.getElem?_setIfInBounds_ne (by omega), Array.getElem?_setIfInBounds_ne (by omega)]; exact a
    · rw [Array.getElem?_setIfInBounds_ne (by omega), Array.getElem?_setIfInBounds_ne (by omega), Array.getElem?_setIfInBounds_ne (by omega)]; exact b
    · rw [Array.getElem?_setIfInBounds_ne (by omega), Array.getElem?_setIfInBounds_ne (by omega), Array.getElem?_setIfInBounds_ne (by omega)]; exact c
theorem Nm.Kept.setCells {D : List Nat} {p : Nat} {W : World} (hm : p ∈ D) : ∀ (vs : List Value) (o : Nat) (w : World), Kept D W w → Kept D W (w.setCells p o vs)
  | [], _, _, h => h
  | v :: vs, o, _, h => Kept.setCells hm vs (o + 1) _ (h.setCell hm o v)
theorem Nm.Kept.refl (D : List Nat) (W : World) : Kept D W W := ⟨Nat.le_refl _, fun _ _ _ => rfl, rfl, rfl, rfl⟩
theorem Nm.Kept.trans {D : List Nat} {W w w' : World} (h : Kept D W w) (h2 : Kept D w w') : Kept D W w' :=
  ⟨Nat.le_trans h.1 h2.1, fun k hk hp => by rw [h2.2 k (by have := h.1; omega) hp]; exact h.2 k hk hp, h2.os.trans h.os, h2.tape.trans h.tape, h2.output.trans h.output⟩
theorem Nm.Kept.mono {D D' : List Nat} {W w : World} (h : Kept D W w) (hd : ∀ k, k < W.heap.size → k ∈ D → k ∈ D') : Kept D' W w :=
  ⟨h.1, fun k hk hp => h.2 k hk (fun hm => hp (hd k hk hm)), h.os, h.tape, h.output⟩
section
variable {P : Program} {ops : Array Oper} {Q : Exit → Act → World → Prop} {md : Region.Mode} {S : World → Prop} {i : Nat} {oi : Oper} {fuel : Nat} {listed : Array Bool} {a : Act} {w : World}
/-- A struct stored into the middle of a block. -/
theorem ha_storeM (hr : Region.ready md ops listed = [i]) (ho : ops[i]? = some oi) (hg : Region.wanted oi (yielded ops a.tmps) = true) (ty : TypeId) (x y : Operand) (hop : oi.op = .store ty x y) (b o : Nat) (cells : Array Value)
    (hx : a.eval x = .pointer (some ⟨b, o, none⟩)) (hy : a.eval y = .agg cells) (ht : w.there b o cells.size) (hi : (P.info? ty).map (·.size) = some cells.size) (h1 : cells.all (·.oneCell') = true) (hS : S (w.setCells b o cells.toList))
    (h : S (w.setCells b o cells.toList) → wpAnyH P md ops Q S fuel (listed.setIfInBounds i true) (a.put oi.dst undef) (w.setCells b o cells.toList)) : wpAnyH P md ops Q S (fuel + 1) listed a w := by
  refine wpAnyH_ready (rs := [i]) hr (by simp) (AllReadyH.cons ho (fun K hK => ?_) AllReadyH.nil)
  rw [if_pos hg]
  exact wp_store_mid ty x y hop b o cells hx hy ht hi h1 (hK.out _ _ hS h)
end
def HH (seed : Int) (k : ByteArray) : Nat := hashN k.data.toList seed
theorem Hash_b (m : ByteArray) (hm : m.size ≤ 1000000000) (seed : Int) (w : World) :
    Calls Try.prog 35 #[.string m, .int .i64 seed] w fun e w' => e = .returned (.int .i64 ((HH seed m : Nat) : Int)) ∧ Below w.heap.size w w' :=
  (Hash_any m hm seed w).mono fun _ _ ⟨h1, h2⟩ => ⟨h1, h2 ▸ Below.refl _ _⟩
theorem far_mod (t : Tab) (p : Option (ByteArray × Int) → Bool) (i f : Nat) : far t p (i % t.length) f = far t p i f := by
  induction f generalizing i with
  | zero => rfl
  | succ f ih =>
    simp only [far]
    rw [pl_mod, ← ih (i % t.length + 1), Nat.mod_add_mod, ih (i + 1)]
theorem far_next {t : Tab} {p : Option (ByteArray × Int) → Bool} {i : Nat} (h : p (pl t i) = false) (hg : ∃ d, d < t.length ∧ p (pl t (i + d)) = true) : far t p i t.length = far t p (i + 1) t.length + 1 := by
  obtain ⟨d, hd, hp⟩ := hg
  have h1 := far_at hd hp
  have hb := far_before (t := t) (p := p) (i := i) (f := t.length)
  rcases Nat.eq_zero_or_pos (far t p i t.length) with h0 | h0
  · rw [h0, Nat.add_zero] at h1; rw [h] at h1; exact absurd h1.2 (by simp)
  · have := far_eq (t := t) (p := p) (i := i + 1) (f := t.length) (d := far t p i t.length - 1) (by omega) (by rw [show i + 1 + (far t p i t.length - 1) = i + far t p i t.length by omega]; exact h1.2) (fun e he => by
      have := hb (e + 1) (by omega)
      rwa [show i + (e + 1) = i + 1 + e by omega] at this)
    omega
/-- a buffer's block -/
def bcells (kd : Int) (lv : Value) (seed cnt : Int) (pv : Value) : Array Value := #[.int .i64 kd, lv, .int .i64 seed, .int .i64 cnt, pv]
theorem bc_cell {w : World} {g : Nat} {kd seed cnt : Int} {lv pv : Value} (h : w.heap[g]? = some (.cells (bcells kd lv seed cnt pv) 87 (0, 0))) :
    w.cell? ⟨g, 0, none⟩ = some (.int .i64 kd) ∧ w.cell? ⟨g, 1, none⟩ = some lv ∧ w.cell? ⟨g, 2, none⟩ = some (.int .i64 seed) ∧ w.cell? ⟨g, 3, none⟩ = some (.int .i64 cnt) ∧ w.cell? ⟨g, 4, none⟩ = some pv := by
  rw [cell_of_row _ _ _ _ _ _ h, cell_of_row _ _ _ _ _ _ h, cell_of_row _ _ _ _ _ _ h, cell_of_row _ _ _ _ _ _ h, cell_of_row _ _ _ _ _ _ h]
  exact ⟨rfl, rfl, rfl, rfl, rfl⟩
def pair (k : ByteArray) (v : Int) : Array Value := #[.string k, .int .i64 v]
theorem rowPair {w : World} {b : Nat} {k : ByteArray} {v : Int} {t : TypeId} {fr : Nat × Nat} (hb : w.heap[b]? = some (.cells (pair k v) t fr)) : RowAt w 91 ⟨b, 0, none⟩ (pair k v) := row_mid hb (D := pair k v) (n := 2) rfl u91 rfl rfl info91
theorem pair0 {w : World} {b : Nat} {k : ByteArray} {v : Int} {t : TypeId} {fr : Nat × Nat} (hb : w.heap[b]? = some (.cells (pair k v) t fr)) : w.cell? ⟨b, 0, none⟩ = some (.string k) := by rw [cell_of_row _ _ _ _ _ _ hb]; rfl
theorem tmod_nat (a b : Nat) : (a : Int).tmod (b : Int) = ((a % b : Nat) : Int) := by rw [Int.natCast_emod]; exact Int.tmod_eq_emod_of_nonneg (by omega)
theorem emod_nat (a b : Nat) : (a : Int) % (b : Int) = ((a % b : Nat) : Int) := (Int.natCast_emod a b).symm
theorem built95 (k : ByteArray) (v : Int) : Try.prog.built 95 [(0, .bool true), (1, .agg (pair k v))] = some (ecells (some (k, v))) := by kernel_rfl
set_option maxHeartbeats 2000000 in
set_option maxRecDepth 100000 in
theorem put_any (g p cap : Nat) (t : Tab) (kd seed cnt : Int) (lv : Value) (k : ByteArray) (v : Int) (hk : k.size ≤ 1000000000) (hn : 1 ≤ t.length) (hn2 : t.length ≤ 1000000) (hg : ∃ i, i < t.length ∧ occ t i = false) (w : World)
    (h0 : w.heap[g]? = some (.cells (bcells kd lv seed cnt (.slice (some ⟨p, 0, none⟩) t.length cap)) 87 (0, 0))) (hp : PlAt w p cap t) (hgp : g ≠ p) :
    Calls Try.prog 79 #[.pointer (some ⟨g, 0, none⟩), .agg (pair k v)] w fun e w' => e = .returned (.tuple #[]) ∧ PlAt w' p cap (layT (HH seed) t k v) ∧ Kept [p] w w' := by
  have HP := Lib.hid hp
  have HG := Lib.hid hg
  have LP := hp.lt
  have LG := heap_lt h0
  clear hp hg
  go_enter Try.func79, Try.ntmps79
  go_upto_region 1 with (fail)
  refine wp_world (fun W => W.heap[g]? = some (.cells (bcells kd lv seed cnt (.slice (some ⟨p, 0, none⟩) t.length cap)) 87 (0, 0)) ∧ W.heap[w.heap.size]? = some (.cells (pair k v) 91 (0, 0)) ∧ Hid (PlAt W p cap t) ∧ Kept [p] w W ∧ w.heap.size < W.heap.size) ⟨ha_old h0, ha_new rfl, Lib.hid (HP.out.below ((Below.refl _ _).alloc (Nat.le_refl _) _)), (Kept.refl _ _).below ((Below.refl _ _).alloc (Nat.le_refl _) _), by simp⟩ ?_
  clear h0 HP
  rintro W ⟨h0, h3, HP, HK, LW⟩
  have b2 := (bc_cell h0).2.2.1
  have b4 := (bc_cell h0).2.2.2.2
  have p0 := pair0 h3
  replace HP := Lib.hid (HP.out.below (Below.refl _ W).drew)
  refine wp_region_held_drew (S := Kept [p] W) mixed (Kept.drew [p] W) (fun hS => ?_)
  refine hk3 (i := 0) rfl (by kernel_rfl) Zh hS rfl (fun K hK => ?_); go_simp; refine hK _ ?_; clear hK K; try simp only [Zq]
  refine hv3 (i := 1) rfl (by kernel_rfl) Zg hS rfl (fun w' hw' => ex_one rfl (one9 (hw'.cell p0 (by simp <;> omega)))) ?_; try simp only [Zq]
  refine hk3 (i := 2) rfl (by kernel_rfl) Zh hS rfl (fun K hK => ?_); go_simp; refine hK _ ?_; clear hK K; try simp only [Zq]
  refine hk3 (i := 3) rfl (by kernel_rfl) Zh hS rfl (fun K hK => ?_); go_simp; refine hK _ ?_; clear hK K; try simp only [Zq]
  refine hk3 (i := 4) rfl (by kernel_rfl) Zh hS rfl (fun K hK => ?_); go_simp; refine hK _ ?_; clear hK K; try simp only [Zq]
  refine hv3 (i := 5) rfl (by kernel_rfl) Zg hS rfl (fun w' hw' => ex_one rfl (one3 (hw'.cell b2 (by simp <;> omega)))) ?_; try simp only [Zq]
  refine hk3 (i := 7) rfl (by kernel_rfl) Zh hS rfl (fun K hK => ?_); go_simp; refine hK _ ?_; clear hK K; try simp only [Zq]
  refine hk3 (i := 8) rfl (by kernel_rfl) Zh hS rfl (fun K hK => ?_); go_simp; refine hK _ ?_; clear hK K; try simp only [Zq]
  refine hk3 (i := 9) rfl (by kernel_rfl) Zh hS rfl (fun K hK => ?_); go_simp; refine hK _ ?_; clear hK K; try simp only [Zq]
  refine hv3 (i := 10) rfl (by kernel_rfl) Zg hS rfl (fun w' hw' => ex_one rfl (one85 (hw'.cell b4 (by simp <;> omega)))) ?_; try simp only [Zq]
  refine hk3 (i := 11) rfl (by kernel_rfl) Zh hS rfl (fun K hK => ?_); go_simp; refine hK _ ?_; clear hK K; try simp only [Zq]
  have hmod := Lib.hid (tmod_nat (HH seed k) t.length)
  have hne : ¬ t = [] := fun e => by rw [e] at hn; simp at hn
  refine ha_call (i := 6) (by kernel_rfl) rfl rfl (fun K hK => ?_); go_simp; refine ⟨_, _, ⟨rfl, rfl⟩, hK _ _ ⟨_, Hash_b k hk seed _, ?_⟩⟩; clear hK K; rintro e w1 ⟨rfl, hb1⟩; refine ⟨_, rfl, hS.below hb1, ?_⟩; replace hS := hS.below hb1; (replace h0 := below_look hb1 h0; replace h3 := below_look hb1 h3; replace HP := Lib.hid (HP.out.below hb1); clear hb1); try simp only [Zq]
  refine hk3 (i := 12) rfl (by kernel_rfl) Zh hS rfl (fun K hK => ?_); go_simp; refine hK _ ?_; clear hK K; try simp only [Zq]
  refine hk3 (i := 13) rfl (by kernel_rfl) Zh hS rfl (fun K hK => ?_); go_simp; refine hK _ ?_; clear hK K; try simp only [Zq]
  refine wpAnyH_done (by kernel_rfl) ?_ _
  replace HK := HK.trans hS
  clear hS b2 b4 p0
  rw [hmod.out]
  have hj0 : HH seed k % t.length < t.length := Nat.mod_lt _ (by omega)
  have HT : Hid ((HH seed k % t.length + far t free (HH seed k % t.length) t.length) % t.length = slot (HH seed) t k) := Lib.hid (by rw [far_mod, Nat.mod_add_mod]; rfl)
  generalize HH seed k % t.length = j0 at hj0 HT
  clear hmod
  go_wp2_with fail
  go_loop [4] (fun v => ∃ j : Nat, j < t.length ∧ v = .int .i64 (j : Int) ∧ Hid ((j + far t free j t.length) % t.length = slot (HH seed) t k)) (fun v => far t free (intOf v).toNat t.length)
  case atStart => exact ⟨j0, hj0, rfl, HT⟩
  case round =>
    clear HT hj0
    obtain ⟨j, hj, rfl, HT⟩ := hrel
    have b4 := (bc_cell h0).2.2.2.2
    have cu := (HP.out.cell hj).1
    have hgap : ∃ d, d < t.length ∧ free (pl t (j + d)) = true := by
      obtain ⟨x, hx, hxo⟩ := HG.out
      obtain ⟨d, hd, hdx⟩ := off_of j hx
      refine ⟨d, hd, ?_⟩
      rw [← pl_mod, hdx, free_iff]; unfold occ at hxo; simpa using hxo
    cases hu : eb (pl t j)
    · rw [hu] at cu
      have hfj : free (pl t j) = true := by rw [free_iff]; unfold eb at hu; simpa using hu
      have h0f : far t free j t.length = 0 := Nat.le_zero.1 (far_at (t := t) (p := free) (i := j) (f := t.length) (d := 0) (by omega) (by simpa using hfj)).1
      have hsl : j = slot (HH seed) t k := by
        have := HT.out
        rwa [h0f, Nat.add_zero, Nat.mod_eq_of_lt hj] at this
      have HSL := Lib.hid hsl
      clear h0f hfj hu hgap hsl HT
      go_upto_region 4 with (fail)
      replace HP := Lib.hid (HP.out.below (Below.refl _ w1).drew)
      refine wp_region_held_drew (S := Kept [p] w1) mixed (Kept.drew [p] w1) (fun hS => ?_)
      refine hk3 (i := 0) rfl (by kernel_rfl) Zh hS rfl (fun K hK => ?_); go_simp; refine hK _ ?_; clear hK K; try simp only [Zq]
      refine hk3 (i := 1) rfl (by kernel_rfl) Zh hS rfl (fun K hK => ?_); go_simp; refine hK _ ?_; clear hK K; try simp only [Zq]
      refine hk3 (i := 2) rfl (by kernel_rfl) Zh hS rfl (fun K hK => ?_); go_simp; refine hK _ ?_; clear hK K; try simp only [Zq]
      refine hv3 (i := 3) rfl (by kernel_rfl) Zg hS rfl (fun w' hw' => ex_one rfl (one85 (hw'.cell b4 (by simp <;> omega)))) ?_; try simp only [Zq]
      refine hk3 (i := 4) rfl (by kernel_rfl) Zh hS rfl (fun K hK => ?_); go_simp; refine hK _ ?_; clear hK K; try simp only [Zq]
      refine hv3 (i := 5) rfl (by kernel_rfl) Zg hS rfl (fun w' hw' => ex_row rfl (rowPair (hw'.look h3 (by simp <;> omega)))) ?_; try simp only [Zq]
      refine hv3 (i := 6) rfl (by kernel_rfl) Zg hS rfl (fun w' _ => ex_build 95 _ rfl (L := [(0, .bool true), (1, .agg (pair k v))]) rfl (built95 k v)) ?_; try simp only [Zq]
      refine hk3 (i := 7) rfl (by kernel_rfl) Zh hS rfl (fun K hK => ?_); go_simp; refine hK _ ?_; clear hK K; try simp only [Zq]
      refine ha_storeM (i := 8) (by kernel_rfl) rfl rfl 95 _ _ rfl p (j * 3) (ecells (some (k, v))) rfl rfl (HP.out.there hj) info95 (ecells_one _) (Nm.Kept.setCells (by simp) _ _ _ hS) (fun hS => ?_); try simp only [Zq]
      refine wpAnyH_done (by kernel_rfl) ?_ _
      have hfin := HP.out.set hj (some (k, v))
      have hHK := HK.trans hS
      clear HP HK hS
      have HF := Lib.hid (And.intro hfin hHK)
      clear hfin hHK
      go_wp2_with fail
      go_end0
      exact ⟨rfl, by unfold layT; rw [← HSL.out]; exact HF.out.1, HF.out.2⟩

    · rw [hu] at cu
      have hmod : ((j : Int) + 1) % (t.length : Int) = (((j + 1) % t.length : Nat) : Int) := by rw [← emod_nat]; simp
      have HM := Lib.hid hmod
      have hfj : free (pl t j) = false := by rw [free_not]; exact hu
      have HN := Lib.hid (far_next hfj hgap)
      clear hmod hfj hu hgap
      go_wp2_with fail
      go_round
      case rel => exact ⟨(j + 1) % t.length, Nat.mod_lt _ (by omega), by rw [HM.out], Lib.hid (by rw [far_mod, Nat.mod_add_mod, ← HT.out, HN.out]; congr 1; omega)⟩
      case measure =>
        show far t free (intOf (.int .i64 (((j : Int) + 1) % _))).toNat _ < far t free (intOf (.int .i64 (j : Int))).toNat _
        rw [HM.out]
        simp only [intOf, Int.toNat_natCast]
        rw [far_mod, HN.out]; omega
open Go.RowKit Go.Proofs.Ytbhdgeoljlhmcaa.Nm Go.Proofs.Ytbhdgeoljlhmcaa.St
set_option linter.unusedSimpArgs false
/-- where a key is, or -1 -/
def fnd (seed : Int) (t : Tab) (k : ByteArray) : Int := match findT (HH seed) t k with | none => -1 | some i => (i : Int)
theorem hit_iff {k : ByteArray} {o : Option (ByteArray × Int)} : hit k o = true ↔ o = none ∨ ek o = k ∧ eb o = true := by
  unfold hit ek eb; cases o with
  | none => simp
  | some x => simp
set_option maxHeartbeats 2000000 in
set_option maxRecDepth 100000 in
theorem find_any (g p cap : Nat) (t : Tab) (kd seed cnt : Int) (lv : Value) (k : ByteArray) (hk : k.size ≤ 1000000000) (hn : 1 ≤ t.length) (hn2 : t.length ≤ 1000000) (hg : ∃ i, i < t.length ∧ occ t i = false) (w : World)
    (h0 : w.heap[g]? = some (.cells (bcells kd lv seed cnt (.slice (some ⟨p, 0, none⟩) t.length cap)) 87 (0, 0))) (hp : PlAt w p cap t) :
    Calls Try.prog 56 #[.pointer (some ⟨g, 0, none⟩), .string k] w fun e w' => e = .returned (.int .i64 (fnd seed t k)) ∧ Below w.heap.size w w' := by
  have HP := Lib.hid (hp.below (Below.refl _ w).drew)
  have HG := Lib.hid hg
  clear hp hg
  have b2 := (bc_cell h0).2.2.1
  have b4 := (bc_cell h0).2.2.2.2
  have hne : ¬ t = [] := fun e => by rw [e] at hn; simp at hn
  have hmod := Lib.hid (tmod_nat (HH seed k) t.length)
  go_enter Try.func56, Try.ntmps56
  go_upto_region 1 with (fail)
  refine wp_region_held_drew (S := Kept [] w) mixed (Kept.drew [] w) (fun hS => ?_)
  refine hk3 (i := 0) rfl (by kernel_rfl) Zh hS rfl (fun K hK => ?_); go_simp; refine hK _ ?_; clear hK K; try simp only [Zq]
  refine hk3 (i := 1) rfl (by kernel_rfl) Zh hS rfl (fun K hK => ?_); go_simp; refine hK _ ?_; clear hK K; try simp only [Zq]
  refine hk3 (i := 2) rfl (by kernel_rfl) Zh hS rfl (fun K hK => ?_); go_simp; refine hK _ ?_; clear hK K; try simp only [Zq]
  refine hk3 (i := 3) rfl (by kernel_rfl) Zh hS rfl (fun K hK => ?_); go_simp; refine hK _ ?_; clear hK K; try simp only [Zq]
  refine hv3 (i := 4) rfl (by kernel_rfl) Zg hS rfl (fun w' hw' => ex_one rfl (one3 (hw'.cell b2 (by simp <;> omega)))) ?_; try simp only [Zq]
  refine hk3 (i := 6) rfl (by kernel_rfl) Zh hS rfl (fun K hK => ?_); go_simp; refine hK _ ?_; clear hK K; try simp only [Zq]
  refine hk3 (i := 7) rfl (by kernel_rfl) Zh hS rfl (fun K hK => ?_); go_simp; refine hK _ ?_; clear hK K; try simp only [Zq]
  refine hk3 (i := 8) rfl (by kernel_rfl) Zh hS rfl (fun K hK => ?_); go_simp; refine hK _ ?_; clear hK K; try simp only [Zq]
  refine hv3 (i := 9) rfl (by kernel_rfl) Zg hS rfl (fun w' hw' => ex_one rfl (one85 (hw'.cell b4 (by simp <;> omega)))) ?_; try simp only [Zq]
  refine hk3 (i := 10) rfl (by kernel_rfl) Zh hS rfl (fun K hK => ?_); go_simp; refine hK _ ?_; clear hK K; try simp only [Zq]
  refine ha_call (i := 5) (by kernel_rfl) rfl rfl (fun K hK => ?_); go_simp; refine ⟨_, _, ⟨rfl, rfl⟩, hK _ _ ⟨_, Hash_b k hk seed _, ?_⟩⟩; clear hK K; rintro e w1 ⟨rfl, hb1⟩; refine ⟨_, rfl, hS.below hb1, ?_⟩; replace hS := hS.below hb1; (replace h0 := below_look hb1 h0; replace HP := Lib.hid (HP.out.below hb1)); try simp only [Zq]
  refine hk3 (i := 11) rfl (by kernel_rfl) Zh hS rfl (fun K hK => ?_); go_simp; refine hK _ ?_; clear hK K; try simp only [Zq]
  refine hk3 (i := 12) rfl (by kernel_rfl) Zh hS rfl (fun K hK => ?_); go_simp; refine hK _ ?_; clear hK K; try simp only [Zq]
  refine wpAnyH_done (by kernel_rfl) ?_ _
  have hb : Below w.heap.size w w1 := (Below.refl _ w).drew.trans hb1
  clear hS b2 b4 hb1
  rw [hmod.out]
  have hj0 : HH seed k % t.length < t.length := Nat.mod_lt _ (by omega)
  have HT : Hid ((HH seed k % t.length + far t (hit k) (HH seed k % t.length) t.length) % t.length = seek (HH seed) t k) := Lib.hid (by rw [far_mod, Nat.mod_add_mod]; rfl)
  generalize HH seed k % t.length = j0 at hj0 HT
  clear hmod
  go_wp2_with fail
  go_loop [5] (fun v => ∃ j : Nat, j < t.length ∧ v = .int .i64 (j : Int) ∧ Hid ((j + far t (hit k) j t.length) % t.length = seek (HH seed) t k)) (fun v => far t (hit k) (intOf v).toNat t.length)
  case atStart => exact ⟨j0, hj0, rfl, HT⟩
  case round =>
    clear HT hj0
    obtain ⟨j, hj, rfl, HT⟩ := hrel
    have b4 := (bc_cell h0).2.2.2.2
    obtain ⟨cu, ck, _⟩ := HP.out.cell hj
    have hgap : ∃ d, d < t.length ∧ hit k (pl t (j + d)) = true := by
      obtain ⟨x, hx, hxo⟩ := HG.out
      obtain ⟨d, hd, hdx⟩ := off_of j hx
      refine ⟨d, hd, ?_⟩
      rw [← pl_mod, hdx, hit_iff]; unfold occ at hxo; left; simpa using hxo
    by_cases hh : hit k (pl t j) = true
    · have h0f : far t (hit k) j t.length = 0 := Nat.le_zero.1 (far_at (t := t) (p := hit k) (i := j) (f := t.length) (d := 0) (by omega) (by simpa using hh)).1
      have hsl : j = seek (HH seed) t k := by
        have := HT.out
        rwa [h0f, Nat.add_zero, Nat.mod_eq_of_lt hj] at this
      have HSL := Lib.hid hsl
      rcases hit_iff.1 hh with h1 | ⟨h1, h2⟩
      · have HR : Hid (fnd seed t k = -1) := Lib.hid (by
          unfold fnd findT; rw [← hsl, if_neg (by unfold occ; rw [h1]; simp)])
        rw [show eb (pl t j) = false by rw [h1]; rfl] at cu
        clear h0f hsl hh hgap h1 ck
        go_wp2_with fail
        go_ret
        exact ⟨by rw [HR.out]; rfl, hb⟩
      · have HR : Hid (fnd seed t k = (j : Int)) := Lib.hid (by
          unfold fnd findT; rw [← hsl, if_pos (by unfold occ; exact h2)])
        rw [h2] at cu
        rw [h1] at ck
        clear h0f hsl hh hgap h1 h2
        go_wp2_with fail
        go_ret
        exact ⟨by rw [HR.out]; rfl, hb⟩
    · have hmod : ((j : Int) + 1) % (t.length : Int) = (((j + 1) % t.length : Nat) : Int) := by rw [← emod_nat]; simp
      have HM := Lib.hid hmod
      have HN := Lib.hid (far_next (p := hit k) (i := j) (by simpa using hh) hgap)
      have hu : eb (pl t j) = true := by
        cases hq : eb (pl t j)
        · exact absurd (hit_iff.2 (Or.inl (by unfold eb at hq; simpa using hq))) hh
        · rfl
      have hkne : ((ek (pl t j)).toList == k.toList) = false := by
        rw [ByteArray.toList_eq, ByteArray.toList_eq, beq_eq_false_iff_ne]
        exact fun e => hh (hit_iff.2 (Or.inr ⟨ByteArray.ext (Array.toList_inj.1 e), hu⟩))
      rw [hu] at cu
      generalize ek (pl t j) = k' at ck hkne
      clear hmod hu hh hgap
      go_wp2_with fail
      go_round
      case rel => exact ⟨(j + 1) % t.length, Nat.mod_lt _ (by omega), by rw [HM.out], Lib.hid (by rw [far_mod, Nat.mod_add_mod, ← HT.out, HN.out]; congr 1; omega)⟩
      case measure =>
        show far t (hit k) (intOf (.int .i64 (((j : Int) + 1) % _))).toNat _ < far t (hit k) (intOf (.int .i64 (j : Int))).toNat _
        rw [HM.out]
        simp only [intOf, Int.toNat_natCast]
        rw [far_mod, HN.out]; omega
section
variable {ops : Array Oper} {rest : List Oper} {ty ty' : TypeId} {x y : Operand} {pos : String} {after : Array Edge} {a : Act} {w : World} {Q : Exit → Act → World → Prop}
theorem wl_putG (b : Nat) (cells : Array Value) (hx : a.eval x = .pointer (some ⟨b, 0, none⟩)) (hy : a.eval y = .agg cells) (t : TypeId) (old : Array Value) (hb : w.heap[b]? = some (.cells old t (0, 0))) (hi : (Try.prog.info? ty).map (·.size) = some cells.size) (hold : old.size = cells.size) (h1 : cells.all (·.oneCell') = true)
    (h : wpList Try.prog ops Q rest (a.put none undef) (w.setRow b cells)) : wpList Try.prog ops Q (⟨none, .store ty x y, ty', pos, after, none⟩ :: rest) a w :=
  wpList_plain rfl fun _ hK => wp_store_row ty x y rfl b cells hx hy t old hb hi hold h1 (hK _ _ h)
end
theorem ex_alloc91 {o : Oper} (ho : o.op = .alloc 91) (ev : Operand → Value) (w : World) : (execOp ev o).run Try.prog w = .ok (.value (.pointer (some ⟨w.heap.size, 0, none⟩))) (w.alloc (.cells (pair ⟨#[]⟩ 0) 91)) := by
  unfold execOp
  simp only [ho]
  kernel_rfl
theorem built95n : Try.prog.built 95 [] = some (ecells none) := by kernel_rfl
theorem pair_one (k : ByteArray) (v : Int) : (pair k v).all (·.oneCell') = true := by simp [pair, Value.oneCell']
theorem extract2 {cur : Array Value} {o : Nat} {x y : Value} (h1 : cur[o]? = some x) (h2 : cur[o + 1]? = some y) : cur.extract o (o + 2) = #[x, y] := by
  have l2 : o + 1 < cur.size := (Array.getElem?_eq_some_iff.1 h2).1
  apply Array.ext
  · simp; omega
  · intro i hi1 hi2
    simp at hi2
    rw [Array.getElem_extract]
    rcases (show i = 0 ∨ i = 1 by omega) with rfl | rfl
    · simpa using (Array.getElem?_eq_some_iff.1 h1).2
    · simpa using (Array.getElem?_eq_some_iff.1 h2).2
theorem PlAt.row {w : World} {p cap i : Nat} {t : Tab} (h : PlAt w p cap t) (hi : i < t.length) : RowAt w 91 ⟨p, i * 3 + 1, none⟩ (pair (ek (pl t i)) (ev (pl t i))) := by
  obtain ⟨cur, h1, _, _, h2⟩ := h
  obtain ⟨_, hb, hc⟩ := h2 i hi
  exact row_mid h1 (extract2 hb hc) u91 rfl rfl info91
/-- keys are short -/
def Short (t : Tab) : Prop := ∀ j, (ek (pl t j)).size ≤ 1000000000
theorem Short.set {t : Tab} (h : Short t) {i : Nat} (hi : i < t.length) {o : Option (ByteArray × Int)} (ho : (ek o).size ≤ 1000000000) : Short (t.set i o) := fun j => by
  by_cases e : j % t.length = i
  · have : pl (t.set i o) j = o := by rw [← pl_mod, List.length_set, e]; exact pl_set_self hi _
    rw [this]; exact ho
  · rw [pl_set_ne e]; exact h j
theorem off_back {n i s : Nat} (hi : i < n) (hs : s < n) : ((i + s) % n + n - i) % n = s := by
  rcases Nat.lt_or_ge (i + s) n with h | h
  · rw [Nat.mod_eq_of_lt h, show i + s + n - i = s + n by omega, Nat.add_mod_right, Nat.mod_eq_of_lt hs]
  · have e : (i + s) % n = i + s - n := by rw [Nat.mod_eq_sub_mod h, Nat.mod_eq_of_lt (by omega)]
    rw [e, show i + s - n + n - i = s by omega, Nat.mod_eq_of_lt hs]
set_option maxHeartbeats 4000000 in
set_option maxRecDepth 100000 in
theorem remove_any (g p cap : Nat) (t : Tab) (kd seed : Int) (cnt : Int) (lv : Value) (i : Nat) (hw : Wf (HH seed) t) (hsh : Short t) (hi : i < t.length) (hoc : occ t i = true) (hn2 : t.length ≤ 1000000) (hc1 : 1 ≤ cnt) (hc2 : cnt ≤ 1000000) (w : World)
    (h0 : w.heap[g]? = some (.cells (bcells kd lv seed cnt (.slice (some ⟨p, 0, none⟩) t.length cap)) 87 (0, 0))) (hp : PlAt w p cap t) (hgp : g ≠ p) :
    Calls Try.prog 58 #[.pointer (some ⟨g, 0, none⟩), .int .i64 (i : Int)] w fun e w' => e = .returned (.tuple #[]) ∧ w'.heap[g]? = some (.cells (bcells kd lv seed (cnt - 1) (.slice (some ⟨p, 0, none⟩) t.length cap)) 87 (0, 0)) ∧ PlAt w' p cap (removeT (HH seed) t i) ∧ Kept [g, p] w w' := by
  have HP := Lib.hid hp
  have LP := hp.lt
  have LG := heap_lt h0
  have b4 := (bc_cell h0).2.2.2.2
  obtain ⟨m, hm1, hmid⟩ := Mid.start (HH seed) hw hi hoc
  have HM := Lib.hid hmid
  have hmn : m < t.length := by have := hmid.m1; simpa using this
  have HS := Lib.hid hsh
  clear hp hmid hw hsh hoc
  go_enter Try.func58, Try.ntmps58
  go_upto_region 0 with (fail)
  apply wp_region_lit
  iterate 3 (refine wl_k rfl (fun K hK => ?_); go_simp; refine hK _ ?_; clear hK K)
  ((with_reducible apply wl_oneG); exact rfl; exact rfl; exact one85 b4)
  refine wl_k rfl (fun K hK => ?_); go_simp; refine hK _ ?_; clear hK K
  refine wl_val rfl (ex_build 95 _ rfl (L := []) rfl built95n) ?_
  simp only [Zq]
  refine wl_k rfl (fun K hK => ?_); go_simp; refine hK _ ?_; clear hK K
  refine wpList_store_mid rfl 95 _ _ rfl p (i * 3) (ecells none) rfl rfl (HP.out.there hi) info95 (ecells_one _) ?_
  have HK := Lib.hid (Nm.Kept.setCells (D := [g, p]) (p := p) (by simp) (ecells none).toList (i * 3) w (Nm.Kept.refl _ _))
  have HP2 := Lib.hid (HP.out.set hi none)
  have h0' : (w.setCells p (i * 3) (ecells none).toList).heap[g]? = some (.cells (bcells kd lv seed cnt (.slice (some ⟨p, 0, none⟩) t.length cap)) 87 (0, 0)) := hs_old (hs_old (hs_old h0 hgp) hgp) hgp
  clear HP h0 b4
  generalize w.setCells p (i * 3) (ecells none).toList = w1 at *
  have b3 := (bc_cell h0').2.2.2.1
  have b4 := (bc_cell h0').2.2.2.2
  have f3 : w1.frozen? ⟨g, 3, none⟩ = false := frozen_of_row _ _ _ _ _ h0'
  go_upto_region 2 with (fail)
  have h2 : (w1.setCell ⟨g, 3, none⟩ (.int .i64 (cnt - 1))).heap[g]? = some (.cells (bcells kd lv seed (cnt - 1) (.slice (some ⟨p, 0, none⟩) t.length cap)) 87 (0, 0)) := (hs_new h0').trans rfl
  have HP3 := Lib.hid (HP2.out.look (heap_setCell_other w1 ⟨g, 3, none⟩ p (.int .i64 (cnt - 1)) (fun e => hgp e.symm)))
  have HK2 := Lib.hid (HK.out.setCell (p := g) (by simp) 3 (.int .i64 (cnt - 1)))
  clear HK HP2 h0' b3 b4 f3
  generalize w1.setCell ⟨g, 3, none⟩ (.int .i64 (cnt - 1)) = w2 at *
  have b4 := (bc_cell h2).2.2.2.2
  have hne : ¬ t = [] := fun e => by rw [e] at hi; simp at hi
  have hmod : ((i : Int) + 1) % (t.length : Int) = (((i + 1) % t.length : Nat) : Int) := by rw [← emod_nat]; simp
  have HMOD := Lib.hid hmod
  have HSH := Lib.hid (HS.out.set hi (o := none) (by decide))
  have HSW : Hid (sweep (HH seed) (t.set i none) (i + 1) t.length = removeT (HH seed) t i) := Lib.hid rfl
  have hln : (t.set i none).length = t.length := by simp
  generalize t.set i none = t1 at *
  clear hmod HS
  go_wp2_with fail
  rw [HMOD.out]
  obtain ⟨z, hz⟩ : ∃ z : Nat, z = (i + 1) % t.length := ⟨_, rfl⟩
  rw [← hz]
  have HZ := Lib.hid hz
  clear b4 HMOD hz
  go_loopw [4] (fun v wr => ∃ (s : Nat) (ts : Tab), ts.length = t.length ∧ s ≤ m ∧ Hid (Mid (HH seed) ts i s m) ∧ Hid (Short ts) ∧ v = .int .i64 (((i + s) % t.length : Nat) : Int) ∧ Hid (sweep (HH seed) ts (i + s) (t.length + 1 - s) = removeT (HH seed) t i) ∧ wr.heap[g]? = some (.cells (bcells kd lv seed (cnt - 1) (.slice (some ⟨p, 0, none⟩) t.length cap)) 87 (0, 0)) ∧ Hid (PlAt wr p cap ts) ∧ Hid (Kept [g, p] w wr)) (fun v _ => m - ((intOf v).toNat + t.length - i) % t.length)
  case atStart => exact ⟨1, t1, hln, hm1, HM, HSH, by rw [HZ.out], HSW, h2, HP3, HK2⟩
  case round =>
    clear hln HM HSH HSW h2 HP3 HK2
    obtain ⟨s, ts, hln, hs, HM, HSH, rfl, HSW, h2, HP, HK⟩ := hrel
    obtain ⟨j, hj⟩ : ∃ j, j = (i + s) % t.length := ⟨_, rfl⟩
    have hjl : j < ts.length := by rw [hj, hln]; exact Nat.mod_lt _ (by omega)
    have hjt : j < t.length := by rw [← hln]; exact hjl
    have hpl : pl ts j = pl ts (i + s) := by rw [hj, ← hln, pl_mod]
    have HJ := Lib.hid hj
    rw [← hj]
    clear hj
    have b4 := (bc_cell h2).2.2.2.2
    have cu := (HP.out.cell hjl).1
    rw [hpl] at cu
    by_cases hsm : s < m
    · obtain ⟨k, v, hkv⟩ := occ_iff.1 (HM.out.full s (Nat.le_refl _) hsm)
      rw [hkv] at cu hpl
      have HPL := Lib.hid hpl
      have HKV := Lib.hid hkv
      have hks : k.size ≤ 1000000000 := by have := HSH.out (i + s); rw [hkv] at this; exact this
      have LP2 := HP.out.lt
      have LG2 := heap_lt h2
      have LK := HK.out.1
      clear hpl hkv
      go_upto_region 5 with (fail)
      apply wp_region_lit
      iterate 3 (refine wl_k rfl (fun K hK => ?_); go_simp; refine hK _ ?_; clear hK K)
      ((with_reducible apply wl_oneG); exact rfl; exact rfl; exact one85 b4)
      iterate 3 (refine wl_k rfl (fun K hK => ?_); go_simp; refine hK _ ?_; clear hK K)
      ((with_reducible apply wl_rowG); exact rfl; exact rfl; exact HP.out.row hjl)
      rw [HPL.out, show pair (ek (some (k, v))) (ev (some (k, v))) = pair k v from rfl]
      simp only [Zq]
      refine wl_new (fun ev w => ex_alloc91 rfl ev w) ?_
      intro W5 p5 hb5 hl5 h5
      replace h2 := below_look hb5 h2
      replace HP := Lib.hid (HP.out.below hb5)
      replace HK := Lib.hid (HK.out.below hb5)
      have LW := hb5.size
      clear hb5
      refine wl_putG p5 (pair k v) rfl rfl 91 _ h5 info91 rfl (pair_one _ _) ?_
      replace HK := Lib.hid (HK.out.setNew (p := p5) (by omega) (pair k v))
      replace h2 := hr_old (cs := pair k v) h2 (show g ≠ p5 by omega)
      have HP5 := Lib.hid (HP.out.look (w' := W5.setRow p5 (pair k v)) (setRow_other W5 p5 p (pair k v) (by omega)))
      have h5' := hr_new (cs := pair k v) h5
      clear HP h5 cu b4
      generalize W5.setRow p5 (pair k v) = w5 at *
      have b4 := (bc_cell h2).2.2.2.2
      go_upto_region 6 with (fail)
      apply wp_region_lit
      iterate 3 (refine wl_k rfl (fun K hK => ?_); go_simp; refine hK _ ?_; clear hK K)
      ((with_reducible apply wl_oneG); exact rfl; exact rfl; exact one85 b4)
      refine wl_k rfl (fun K hK => ?_); go_simp; refine hK _ ?_; clear hK K
      refine wl_val rfl (ex_build 95 _ rfl (L := []) rfl built95n) ?_
      simp only [Zq]
      refine wl_k rfl (fun K hK => ?_); go_simp; refine hK _ ?_; clear hK K
      refine wpList_store_mid rfl 95 _ _ rfl p (j * 3) (ecells none) rfl rfl (HP5.out.there hjl) info95 (ecells_one _) ?_
      have HP6 := Lib.hid (HP5.out.set hjl none)
      replace HK := Lib.hid (Nm.Kept.setCells (D := [g, p]) (p := p) (by simp) (ecells none).toList (j * 3) w5 HK.out)
      replace h2 : (w5.setCells p (j * 3) (ecells none).toList).heap[g]? = some (.cells (bcells kd lv seed (cnt - 1) (.slice (some ⟨p, 0, none⟩) t.length cap)) 87 (0, 0)) := hs_old (hs_old (hs_old h2 hgp) hgp) hgp
      replace h5' : (w5.setCells p (j * 3) (ecells none).toList).heap[p5]? = some (.cells (pair k v) 91 (0, 0)) := hs_old (hs_old (hs_old h5' (show p5 ≠ p by omega)) (show p5 ≠ p by omega)) (show p5 ≠ p by omega)
      clear HP5 b4
      generalize w5.setCells p (j * 3) (ecells none).toList = w6 at *
      go_upto_region 7 with (fail)
      apply wp_region_lit
      refine wl_k rfl (fun K hK => ?_); go_simp; refine hK _ ?_; clear hK K
      ((with_reducible apply wl_rowG); exact rfl; exact rfl; exact rowPair h5')
      have hl6 : (ts.set j none).length = t.length := by simp [hln]
      have HL6 := Lib.hid hl6
      have hg6 : ∃ x, x < (ts.set j none).length ∧ occ (ts.set j none) x = false := ⟨j, by rw [hl6]; exact hjt, by rw [occ_unset hjl]; simp [Nat.mod_eq_of_lt hjl]⟩
      have HC := Lib.hid (put_any g p cap (ts.set j none) kd seed (cnt - 1) lv k v hks (by rw [hl6]; omega) (by rw [hl6]; omega) hg6 w6 (by rw [hl6]; exact h2) HP6.out hgp)
      clear hl6 hg6
      refine wl_ck rfl (fun K hK => ?_); go_simp; refine ⟨_, _, ⟨rfl, rfl⟩, hK _ _ ⟨_, HC.out, ?_⟩⟩; clear hK K; rintro e w7 ⟨rfl, hp7, hk7⟩; refine ⟨_, rfl, ?_⟩; simp only [Zq]
      replace h2 := hk7.look h2 (by simp [hgp])
      replace HK := Lib.hid (HK.out.trans (hk7.mono (fun x _ hx => by simp at hx ⊢; exact Or.inr hx)))
      have HP7 := Lib.hid hp7
      clear hk7 hp7 HP6 HC h5'
      have b4 := (bc_cell h2).2.2.2.2
      have hmod : ((j : Int) + 1) % (t.length : Int) = (((i + (s + 1)) % t.length : Nat) : Int) := by
        rw [show (j : Int) + 1 = ((j + 1 : Nat) : Int) by simp, emod_nat, HJ.out, Nat.mod_add_mod, Nat.add_assoc]
      have HMOD := Lib.hid hmod
      clear hmod
      go_wp2_with fail
      go_roundw
      case rel =>
        have hstep := HM.out.step (HH seed) hsm HKV.out
        rw [hln, ← HJ.out] at hstep
        have hsw := HSW.out
        rw [show t.length + 1 - s = (t.length + 1 - (s + 1)) + 1 by omega] at hsw
        unfold sweep at hsw
        rw [HKV.out] at hsw
        simp only at hsw
        rw [hln, ← HJ.out] at hsw
        have hss : Short (layT (HH seed) (ts.set j none) k v) := (HSH.out.set hjl (o := none) (by decide)).set (Nat.mod_lt _ (by simp; omega)) hks
        exact ⟨s + 1, layT (HH seed) (ts.set j none) k v, by rw [layT_length, HL6.out], by omega, Lib.hid hstep, Lib.hid hss, by rw [HMOD.out], Lib.hid hsw, h2, HP7, HK⟩
      case measure =>
        show m - ((intOf (.int .i64 (((j : Int) + 1) % _))).toNat + t.length - i) % t.length < m - ((intOf (.int .i64 (j : Int))).toNat + t.length - i) % t.length
        rw [HMOD.out]
        simp only [intOf, Int.toNat_natCast]
        rw [off_back hi (by omega), HJ.out, off_back hi (by omega)]; omega
    · obtain rfl : s = m := by omega
      have htop : pl ts (i + s) = none := by have := HM.out.top; unfold occ at this; simpa using this
      have HR : Hid (ts = removeT (HH seed) t i) := Lib.hid (by
        rw [← HSW.out]
        obtain ⟨f, hf⟩ : ∃ f, t.length + 1 - s = f + 1 := ⟨t.length - s, by omega⟩
        rw [hf]; unfold sweep; rw [htop])
      rw [htop] at cu
      clear hpl htop
      go_wp2_with fail
      go_end0
      exact ⟨rfl, h2, by rw [← HR.out]; exact HP.out, HK.out⟩
end Go.Proofs.Ytbhdgeoljlhmcaa
