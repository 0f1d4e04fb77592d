/- Steps of plain and drawn regions, for any texts of this seat (turned from the writer's texts of another seat). -/
import Derived.Test.YtokmaehefenpmaaDoorProg
import Derived.WalkKit
import Derived.WalkLawsBesides
import Derived.WalkSpells
import Derived.Deep.Quiet
import Derived.StillTail
import Derived.Deep.QuietTactic
import Derived.Deep.MidRow
import Derived.BigQuiet
import Derived.Lib.Hide
import Derived.Deep.Cut
import Derived.ChangeKeysEq
import Derived.Laws.StructEq
import Derived.Deep.RegionHeld
namespace Go.Proofs.YtokmaehefenpmaaDoor.Nm
open Go.RowKit
set_option linter.unusedSimpArgs false

/-- 64 cells of one byte each. -/
def row (f : Nat → Nat) : Array Value := ((List.range 64).map fun i => Value.int .u8 (f i : Int)).toArray
theorem heap_lt {w : World} {g : Nat} {o : Obj} (h : w.heap[g]? = some o) : g < w.heap.size := (Array.getElem?_eq_some_iff.1 h).1

theorem below_cells {B : Nat} {w w' : World} (h : Below B w w') {g : Nat} (hg : g < B) {o : Obj} (ho : w.heap[g]? = some o) : w'.heap[g]? = some o := by rw [h.block g hg, ho]

theorem ha_new {w : World} {o : Obj} {k : Nat} (h : k = w.heap.size) : (w.alloc o).heap[k]? = some o := by subst h; exact heap_alloc_new w o
theorem ha_old {w : World} {o x : Obj} {k : Nat} (h : w.heap[k]? = some x) : (w.alloc o).heap[k]? = some x := by rw [heap_alloc_old w o (heap_lt h)]; exact h
theorem hs_old {w : World} {a : Addr} {v : Value} {x : Obj} {k : Nat} (h : w.heap[k]? = some x) (hne : k ≠ a.block) : (w.setCell a v).heap[k]? = some x := by rw [heap_setCell_other _ _ _ _ hne]; exact h
theorem hs_new {w : World} {g i : Nat} {cs : Array Value} {t : TypeId} {v : Value} (h : w.heap[g]? = some (.cells cs t (0, 0))) : (w.setCell ⟨g, i, none⟩ v).heap[g]? = some (.cells (cs.setIfInBounds i v) t (0, 0)) := heap_setCell_same w g i cs t v h
theorem hr_old {w : World} {g k : Nat} {cs : Array Value} {x : Obj} (h : w.heap[k]? = some x) (hne : k ≠ g) : (w.setRow g cs).heap[k]? = some x := by rw [setRow_other _ _ _ _ hne]; exact h
theorem hr_new {w : World} {g : Nat} {old cs : Array Value} {t : TypeId} (h : w.heap[g]? = some (.cells old t (0, 0))) : (w.setRow g cs).heap[g]? = some (.cells cs t (0, 0)) := setRow_heap w g old cs t (0, 0) h
theorem heap_drewN (w : World) (n : Nat) : (w.drewN n).heap = w.heap := rfl
theorem below_setRow {B : Nat} {a w : World} (h : Below B a w) {g : Nat} (hg : B ≤ g) (cs : Array Value) : Below B a (w.setRow g cs) :=
  h.trans ⟨by simp, rfl, rfl, by simp, fun k hk => setRow_other w g k cs (by omega)⟩
theorem below_drewN {B : Nat} {a w : World} (h : Below B a w) (n : Nat) : Below B a (w.drewN n) :=
  ⟨h.os, h.tape, h.output, h.size, h.block⟩
end Go.Proofs.YtokmaehefenpmaaDoor.Nm
namespace Go.Proofs.YtokmaehefenpmaaDoor.Nm
open Go.RowKit

section
variable {P : Program} {ops : Array Oper} {md : Region.Mode} {C : World → Prop}

def wpAnyK (P : Program) (md : Region.Mode) (ops : Array Oper) (C : World → Prop) (n : Nat) (L : Array Bool → Act → Prop) : Nat → Array Bool → Act → Prop
  | 0, listed, a => L listed a
  | f + 1, listed, a =>
    Region.ready md ops listed ≠ [] ∧ ∀ i ∈ Region.ready md ops listed, i < n ∧ qOp P ops C i (wpAnyK P md ops C n L f (listed.setIfInBounds i true)) a

theorem wpAny_of_headK {n g : Nat} {L : Array Bool → Act → Prop} {Q' : Exit → Act → World → Prop} (hL : ∀ listed a w, C w → L listed a → wpAny P md ops Q' g listed a w) :
    ∀ (f : Nat) (listed : Array Bool) (a : Act) (w : World), C w → wpAnyK P md ops C n L f listed a → wpAny P md ops Q' (f + g) listed a w
  | 0, listed, a, w, hw, h => by rw [Nat.zero_add]; exact hL _ _ _ hw h
  | f + 1, listed, a, w, hw, h => by
    rw [show f + 1 + g = (f + g) + 1 by omega]
    exact ⟨fun h0 => absurd h0 h.1, fun i hi => wpOp_of_qOp hw (fun a' w' hw' h' => wpAny_of_headK hL f _ a' w' hw' h') (h.2 i hi).2⟩

theorem wpAnyK_first {n i : Nat} {oi : Oper} {v : Value} {L : Array Bool → Act → Prop} (hi : ops[i]? = some oi) (hsel : ∀ (j : Nat) (o : Oper) cs b, ops[j]? = some o → o.op ≠ .select cs b)
    (hs : Region.sinkB md ops n = true) (hc : Region.chainB md ops n = true) (hn : n < ops.size) (hin : i < n)
    (hdone : ∀ listed a, L listed a → ∀ j ∈ Region.ready md ops listed, n ≤ j) :
    ∀ (f : Nat) (listed : Array Bool) (a : Act), HeadInv md ops n listed →
      (∀ j oj, ops[j]? = some oj → j ≠ i → listed.getD j true = false → (∀ e ∈ oj.after, Region.binds md e = true → e.on ≠ i) → oi.apart ops oj = true) →
      i ∈ Region.ready md ops listed → YieldsIn P ops C oi v a →
      wpAnyK P md ops C n L f (listed.setIfInBounds i true) (a.put oi.dst v) → wpAnyK P md ops C n L (f + 1) listed a := by
  intro f
  induction f with
  | zero =>
    intro listed a inv _ hr hy H
    have hun := (mem_ready.1 hr).1
    refine ⟨fun h => (by rw [h] at hr; cases hr), fun j hj => ?_⟩
    have hjn : j < n := by
      rcases Nat.lt_or_ge j n with h | h
      · exact h
      · exact absurd hj (tail_waits hs hc hn inv _ i rfl hin hun j h)
    refine ⟨hjn, ?_⟩
    by_cases hji : j = i
    · subst hji; exact hy.qOp hi H
    · have := hdone _ _ H j (ready_mono hj hji)
      omega
  | succ f ih =>
    intro listed a inv hfree hr hy H
    have hun := (mem_ready.1 hr).1
    refine ⟨fun h => (by rw [h] at hr; cases hr), fun j hj => ?_⟩
    have hjn : j < n := by
      rcases Nat.lt_or_ge j n with h | h
      · exact h
      · exact absurd hj (tail_waits hs hc hn inv _ i rfl hin hun j h)
    refine ⟨hjn, ?_⟩
    by_cases hji : j = i
    · subst hji; exact hy.qOp hi H
    · have h1 := (H.2 j (ready_mono hj hji)).2
      obtain ⟨hjun, oj, hoj, hall⟩ := mem_ready.1 hj
      have hnot : ∀ e ∈ oj.after, Region.binds md e = true → e.on ≠ i := fun e he hb heq => by
        have h1 := hall e he hb
        rw [heq, getD_both hun] at h1
        cases h1
      have h2 := qOp_put hoj (hfree j oj hoj hji hjun hnot) (fun cs b => hsel i oi cs b hi) (fun cs b => hsel j oj cs b hoj) hy h1
      have hfree' : ∀ k ok, ops[k]? = some ok → k ≠ i → (listed.setIfInBounds j true).getD k true = false →
          (∀ e ∈ ok.after, Region.binds md e = true → e.on ≠ i) → oi.apart ops ok = true := fun k ok hk hki hun hno => by
        refine hfree k ok hk hki ?_ hno
        by_cases hjk : j = k
        · subst hjk; exact hjun
        · rw [getD_set_ne true hjk] at hun; exact hun
      refine qOp_mono (fun a' h3 => ih (listed.setIfInBounds j true) a' (inv.set hj hjn) hfree' (ready_mono hr (Ne.symm hji)) h3.1 ?_) h2
      rw [Array.setIfInBounds_comm _ _ hji]
      exact h3.2

theorem wpAnyK_lex {n g : Nat} {Lq : Act → Prop} (hsel : Region.noSelect ops = true) (hs : Region.sinkB md ops n = true) (hc : Region.chainB md ops n = true) (hn : n < ops.size) :
    ∀ (l : List Oper) (k : Nat) (listed : Array Bool) (a : Act), (∀ j, j < l.length → l[j]? = ops[k + j]?) → k + l.length = n → HeadInv md ops n listed →
    Region.lexHead md ops g l.length k listed = true → wpQuiet P ops C Lq l a →
    wpAnyK P md ops C n (fun listed' a' => Region.seqB md ops g n listed' = true ∧ Lq a') l.length listed a
  | [], k, listed, a, _, hk, _, hB, h => by
    have : k = n := by simpa using hk
    subst this
    exact ⟨by simpa [Region.lexHead] using hB, h⟩
  | o :: l, k, listed, a, hl, hk, inv, hB, h => by
    have h0 : ops[k]? = some o := by simpa using (hl 0 (by simp)).symm
    simp only [List.length_cons, Region.lexHead, Bool.and_eq_true] at hB
    obtain ⟨⟨hr, hf⟩, hB'⟩ := hB
    have hkn : k < n := by simp only [List.length_cons] at hk; omega
    have hr' : k ∈ Region.ready md ops listed := by simpa using hr
    have hst : qOp P ops C k (wpQuiet P ops C Lq l) a := by unfold qOp; simp only [h0]; exact h
    obtain ⟨v, hy, hK⟩ := yieldsIn_of_qOp h0 hst
    exact wpAnyK_first h0 (Region.noSelect_spec hsel) hs hc hn hkn (fun listed' a' hL => seqB_ready hL.1) l.length listed a inv (Region.free_spec h0 hf) hr' hy
      (wpAnyK_lex hsel hs hc hn l (k + 1) _ _ (fun j hj => by have := hl (j + 1) (by simp; omega); simpa [Nat.add_assoc, Nat.add_comm 1 j] using this) (by simp only [List.length_cons] at hk; omega) (inv.set hr' hkn) hB' hK)

/-- The law. -/
theorem wp_region_tail {id : Nat} {Q : Exit → Act → World → Prop} {a : Act} {w : World} {l : List Oper} (C : World → Prop) (n : Nat) (hm : P.follows .mixedOrders = true) (hB : Region.lexTailB .any l.toArray n = true)
    (hC : C { w with drawn := w.drawn + 1 })
    (h : wpQuiet P l.toArray C (fun a' => ∀ w', C w' → wpList P l.toArray Q (l.drop n) a' w') (l.take n) a) : (Code.region id l.toArray true).wp P Q a w := by
  simp only [Region.lexTailB, Bool.and_eq_true, decide_eq_true_eq] at hB
  obtain ⟨⟨⟨⟨hsel, hn⟩, hs⟩, hc⟩, hlex⟩ := hB
  have hn' : n < l.length := by simpa using hn
  have htl : (l.take n).length = n := by simp; omega
  have hdl : (l.drop n).length = l.toArray.size - n := by simp
  have inv0 : HeadInv .any l.toArray n (Array.replicate l.toArray.size false) :=
    ⟨by simp, fun j oj _ hl => (by rw [getD_replicate_false] at hl; cases hl), fun t _ ht => getD_in (by simpa using ht) (getD_replicate_false _ _)⟩
  have H := wpAnyK_lex (C := C) (md := .any) (g := l.toArray.size - n) hsel hs hc hn (l.take n) 0 _ a (fun j hj => by
    have hj' : j < n := by rw [htl] at hj; exact hj
    simp [hj']) (by simpa using htl) inv0 (by rw [htl]; exact hlex) h
  refine wp_region_any hm ?_
  have := wpAny_of_headK (Q' := Q) (g := l.toArray.size - n) (fun listed a' w' hw' hL => by
    have := wpAny_of_seq (md := .any) (Q' := Q) (l.drop n) n listed a' w' (fun j => by simp [List.getElem?_drop]) (by rw [hdl]; exact hL.1) (hL.2 w' hw')
    rwa [hdl] at this) _ _ _ _ hC H
  rw [htl, show n + (l.toArray.size - n) = l.toArray.size by omega] at this
  exact this

/-- No tail: all operations quiet in the class. -/
theorem wp_region_class {id : Nat} {Q : Exit → Act → World → Prop} {a : Act} {w : World} {l : List Oper} (C : World → Prop) (hm : P.follows .mixedOrders = true) (hB : Region.lexB .any l.toArray = true) (hC : C { w with drawn := w.drawn + 1 })
    (h : wpQuiet P l.toArray C (fun a' => ∀ w', C w' → Q .normal a' w') l a) : (Code.region id l.toArray true).wp P Q a w :=
  wp_region_quiet (C := C) hm hB hC (by simpa using h)

/-- An operation that yields a value and leaves the world. -/
theorem wq_val {Q : Act → Prop} {a : Act} {o : Oper} {rest : List Oper} {v : Value} (hg : o.guard = none) (hv : ∀ w, C w → (execOp a.eval o).run P w = .ok (.value v) w)
    (h : wpQuiet P ops C Q rest (a.put o.dst v)) : wpQuiet P ops C Q (o :: rest) a := by
  unfold wpQuiet
  rw [if_pos (by simp [Region.wanted, hg])]
  exact ⟨v, fun w hw => by unfold Oper.quietAt; rw [hv w hw]; exact ⟨rfl, rfl⟩, h⟩
/-- A call. -/
theorem wq_call {Q : Act → Prop} {a : Act} {o : Oper} {rest : List Oper} {v : Value} {f : FuncId} {args : Array Value} (hg : o.guard = none) (hv : ∀ w, C w → (execOp a.eval o).run P w = .ok (.enter f args) w)
    (hc : ∀ w, C w → Calls P f args w fun e w' => e = .returned v ∧ C w')
    (h : wpQuiet P ops C Q rest (a.put o.dst v)) : wpQuiet P ops C Q (o :: rest) a := by
  unfold wpQuiet
  rw [if_pos (by simp [Region.wanted, hg])]
  exact ⟨v, fun w hw => by unfold Oper.quietAt; rw [hv w hw]; exact ⟨rfl, hc w hw⟩, h⟩
/-- A guarded operation, taken. -/
theorem wq_valG {Q : Act → Prop} {a : Act} {o : Oper} {rest : List Oper} {v : Value} (hg : Region.wanted o (yielded ops a.tmps) = true) (hv : ∀ w, C w → (execOp a.eval o).run P w = .ok (.value v) w)
    (h : wpQuiet P ops C Q rest (a.put o.dst v)) : wpQuiet P ops C Q (o :: rest) a := by
  unfold wpQuiet
  rw [if_pos hg]
  exact ⟨v, fun w hw => by unfold Oper.quietAt; rw [hv w hw]; exact ⟨rfl, rfl⟩, h⟩
theorem wq_callG {Q : Act → Prop} {a : Act} {o : Oper} {rest : List Oper} {v : Value} {f : FuncId} {args : Array Value} (hg : Region.wanted o (yielded ops a.tmps) = true) (hv : ∀ w, C w → (execOp a.eval o).run P w = .ok (.enter f args) w)
    (hc : ∀ w, C w → Calls P f args w fun e w' => e = .returned v ∧ C w')
    (h : wpQuiet P ops C Q rest (a.put o.dst v)) : wpQuiet P ops C Q (o :: rest) a := by
  unfold wpQuiet
  rw [if_pos hg]
  exact ⟨v, fun w hw => by unfold Oper.quietAt; rw [hv w hw]; exact ⟨rfl, hc w hw⟩, h⟩
/-- An operation that only reckons. -/
theorem wq_k {Q : Act → Prop} {a : Act} {o : Oper} {rest : List Oper} (hg : Region.wanted o (yielded ops a.tmps) = true)
    (h : ∀ K : Act → Prop, (∀ a', wpQuiet P ops C Q rest a' → K a') → ∃ v, (∀ w, (execOp a.eval o).run P w = .ok (.value v) w) ∧ K (a.put o.dst v)) : wpQuiet P ops C Q (o :: rest) a := by
  obtain ⟨v, hv, hk⟩ := h _ (fun _ h => h)
  exact wq_valG hg (fun w _ => hv w) hk
/-- A call, found by reckoning. -/
theorem wq_ck {Q : Act → Prop} {a : Act} {o : Oper} {rest : List Oper} (hg : Region.wanted o (yielded ops a.tmps) = true)
    (h : ∀ K : FuncId → Array Value → Prop, (∀ f args, (∃ v, (∀ w, C w → Calls P f args w fun e w' => e = .returned v ∧ C w') ∧ wpQuiet P ops C Q rest (a.put o.dst v)) → K f args) → ∃ f args, (∀ w, (execOp a.eval o).run P w = .ok (.enter f args) w) ∧ K f args) : wpQuiet P ops C Q (o :: rest) a := by
  obtain ⟨f, args, hv, v, hc, hk⟩ := h _ (fun _ _ h => h)
  exact wq_callG hg (fun w _ => hv w) hc hk
/-- A guarded operation, left out. -/
theorem wq_skip {Q : Act → Prop} {a : Act} {o : Oper} {rest : List Oper} (hg : Region.wanted o (yielded ops a.tmps) = false)
    (h : wpQuiet P ops C Q rest (a.put o.dst undef)) : wpQuiet P ops C Q (o :: rest) a := by
  unfold wpQuiet
  rw [if_neg (by simp [hg])]
  exact h
end

section
variable {P : Program}
/-- A whole row or struct, from an offset of a block that is known. -/
theorem ex_loadMid {ev : Operand → Value} {o : Oper} {w : World} (ty : TypeId) (x : Operand) (ho : o.op = .load ty x) (b off n : Nat) (hx : ev x = .pointer (some ⟨b, off, none⟩))
    {Cs : Array Value} {t : TypeId} {fr : Nat × Nat} (hb : w.heap[b]? = some (.cells Cs t fr)) {D : Array Value} (hD : Cs.extract off (off + n) = D) {d : TypeDesc}
    (hu : P.underlying ty = some d) (hd : d.isRow = true) (hn : D.size = n) (hi : (P.info? ty).map (·.size) = some n) :
    (execOp ev o).run P w = .ok (.value (.agg D)) w := by
  have h := World.rangeAt_of_block hb off n
  rw [hD] at h
  unfold execOp
  have := run_loadVar_mid (P := P) w b off ty D.toList d h hu hd (by rw [hi]; simp [hn])
  simp only [ho, hx, Instr.loadAt, Instr.sureAddr, Sem.run_bind, Sem.run_pure, Result.andThen_ok, this]
/-- One cell. -/
theorem ex_load1 {ev : Operand → Value} {o : Oper} {w : World} (ty : TypeId) (x : Operand) (ho : o.op = .load ty x) (ad : Addr) (hx : ev x = .pointer (some ad)) {v : Value} (hc : w.cell? ad = some v)
    {d : TypeDesc} (hu : P.underlying ty = some d) (hd : d.isRow = false) :
    (execOp ev o).run P w = .ok (.value v) w := by
  unfold execOp
  have hagg : (isAgg ty).run P w = .ok false w := by
    unfold isAgg
    rw [Sem.run_bind, run_underlying hu w]
    cases d <;> simp_all
  simp [ho, hx, Instr.loadAt, Instr.sureAddr, Sem.run_bind, Result.andThen_ok, loadVar, hagg, load, Sem.run, hc]
end

section
variable {P : Program}
/-- An operation of a plain region that yields a value and leaves the world. -/
theorem wl_val {ops : Array Oper} {rest : List Oper} {o : Oper} {a : Act} {w : World} {Q : Exit → Act → World → Prop} {v : Value} (hg : o.guard = none) (hv : (execOp a.eval o).run P w = .ok (.value v) w)
    (h : wpList P ops Q rest (a.put o.dst v) w) : wpList P ops Q (o :: rest) a w :=
  wpList_plain hg fun K hK => by unfold Oper.wp; rw [hv]; exact hK _ _ h
theorem wl_mid {ops : Array Oper} {rest : List Oper} {o : Oper} {a : Act} {w : World} {Q : Exit → Act → World → Prop} (hg : o.guard = none) (ty : TypeId) (x : Operand) (ho : o.op = .load ty x) (b off n : Nat) (hx : a.eval x = .pointer (some ⟨b, off, none⟩))
    {Cs : Array Value} {t : TypeId} {fr : Nat × Nat} (hb : w.heap[b]? = some (.cells Cs t fr)) {D : Array Value} (hD : Cs.extract off (off + n) = D) {d : TypeDesc}
    (hu : P.underlying ty = some d) (hd : d.isRow = true) (hn : D.size = n) (hi : (P.info? ty).map (·.size) = some n)
    (h : wpList P ops Q rest (a.put o.dst (.agg D)) w) : wpList P ops Q (o :: rest) a w :=
  wl_val hg (ex_loadMid ty x ho b off n hx hb hD hu hd hn hi) h
end

section
variable {P : Program}
/-- The world of a goal under a name, with what is known of it. -/
theorem wp_world {c : Code} {Q : Exit → Act → World → Prop} {a : Act} {w : World} (F : World → Prop) (hF : F w) (h : ∀ W, F W → c.wp P Q a W) : c.wp P Q a w := h w hF
theorem wl_world {ops : Array Oper} {l : List Oper} {Q : Exit → Act → World → Prop} {a : Act} {w : World} (F : World → Prop) (hF : F w) (h : ∀ W, F W → wpList P ops Q l a W) : wpList P ops Q l a w := h w hF
/-- A drawn region whose last operations stand behind all others, in the class of worlds in which nothing old has turned. -/
theorem wp_region_below {id : Nat} {Q : Exit → Act → World → Prop} {a : Act} {w : World} {l : List Oper} (n : Nat) (hm : P.follows .mixedOrders = true) (hB : Region.lexTailB .any l.toArray n = true)
    (h : wpQuiet P l.toArray (fun w' => Below w.heap.size w w') (fun a' => ∀ w', Below w.heap.size w w' → wpList P l.toArray Q (l.drop n) a' w') (l.take n) a) : (Code.region id l.toArray true).wp P Q a w :=
  wp_region_tail (fun w' => Below w.heap.size w w') n hm hB ((Below.refl _ w).drew) h
theorem wp_region_belowAll {id : Nat} {Q : Exit → Act → World → Prop} {a : Act} {w : World} {l : List Oper} (hm : P.follows .mixedOrders = true) (hB : Region.lexB .any l.toArray = true)
    (h : wpQuiet P l.toArray (fun w' => Below w.heap.size w w') (fun a' => ∀ w', Below w.heap.size w w' → Q .normal a' w') l a) : (Code.region id l.toArray true).wp P Q a w :=
  wp_region_class (fun w' => Below w.heap.size w w') hm hB ((Below.refl _ w).drew) h
theorem put_lit (l : List Value) (df : List Deferred) (d : Nat) (v : Value) : (Act.mk l.toArray df).put (some d) v = Act.mk (l.set d v).toArray df := by simp [Act.put]
theorem put_none (a : Act) (v : Value) : a.put none v = a := rfl
theorem below_look {W w' : World} (h : Below W.heap.size W w') {g : Nat} {o : Obj} (ho : W.heap[g]? = some o) : w'.heap[g]? = some o := below_cells h (heap_lt ho) ho
theorem below_cell {W w' : World} (h : Below W.heap.size W w') {p : Addr} {v : Value} (hc : W.cell? p = some v) : w'.cell? p = some v := by rw [h.cell (block_lt_of_cell hc)]; exact hc
/-- A call in such a class: a contract that keeps what is old. -/
theorem calls_class {f : FuncId} {args : Array Value} {W w : World} {v : Value} (hw : Below W.heap.size W w) (h : Calls P f args w fun e w' => e = .returned v ∧ Below w.heap.size w w') :
    Calls P f args w fun e w' => e = .returned v ∧ Below W.heap.size W w' := h.mono fun _ _ ⟨he, hb⟩ => ⟨he, hw.trans (hb.mono hw.size)⟩
end

end Go.Proofs.YtokmaehefenpmaaDoor.Nm
namespace Go.Proofs.YtokmaehefenpmaaDoor
open Go.RowKit Go.Proofs.YtokmaehefenpmaaDoor.Nm

theorem info_of {P : Program} {t : TypeId} {n : Nat} (h : (P.info? t).map (·.size) = some n) : ∃ i, P.info? t = some i ∧ i.size = n := Option.map_eq_some_iff.1 h
theorem u5 : Tryd.prog.underlying 5 = some (.int .u8) := by kernel_rfl
theorem u4 : Tryd.prog.underlying 4 = some .bool := by kernel_rfl
theorem mixed : Tryd.prog.follows .mixedOrders = true := by kernel_rfl
theorem ex_build {ev : Operand → Value} {o : Oper} {w : World} (t : TypeId) (parts : Array (Nat × Operand)) (ho : o.op = .build t parts) {D : Array Value} {L : List (Nat × Value)}
    (hL : parts.toList.map (fun ix => (ix.1, ev ix.2)) = L) (hb : Tryd.prog.built t L = some D) : (execOp ev o).run Tryd.prog w = .ok (.value (.agg D)) w := by
  unfold execOp
  have := run_build (P := Tryd.prog) w t (parts.map fun (i, x) => (i, ev x)) D (by rw [Array.toList_map]; exact (congrArg _ hL).trans hb)
  simp only [ho, Sem.run_bind, this, Result.andThen_ok]
  rfl

/-- What a load of many cells hands back; of one. -/
@[irreducible] def RowAt (w : World) (ty : TypeId) (ad : Addr) (D : Array Value) : Prop := (loadVar ty ad).run Tryd.prog w = .ok (.agg D) w
@[irreducible] def OneAt (w : World) (ty : TypeId) (ad : Addr) (v : Value) : Prop := (loadVar ty ad).run Tryd.prog w = .ok v w
theorem ex_row {ev : Operand → Value} {dst : Option Tmp} {ty ty' : TypeId} {x : Operand} {pos : String} {after : Array Edge} {g : Option (Nat × Bool)} {w : World} {ad : Addr} {D : Array Value} (hx : ev x = .pointer (some ad)) (hr : RowAt w ty ad D) :
    (execOp ev ⟨dst, .load ty x, ty', pos, after, g⟩).run Tryd.prog w = .ok (.value (.agg D)) w := by
  unfold execOp
  simp only [hx, Instr.loadAt, Instr.sureAddr, Sem.run_bind, Sem.run_pure, Result.andThen_ok]
  unfold RowAt at hr
  rw [hr]
  rfl
theorem ex_one {ev : Operand → Value} {dst : Option Tmp} {ty ty' : TypeId} {x : Operand} {pos : String} {after : Array Edge} {g : Option (Nat × Bool)} {w : World} {ad : Addr} {v : Value} (hx : ev x = .pointer (some ad)) (hr : OneAt w ty ad v) :
    (execOp ev ⟨dst, .load ty x, ty', pos, after, g⟩).run Tryd.prog w = .ok (.value v) w := by
  unfold execOp
  simp only [hx, Instr.loadAt, Instr.sureAddr, Sem.run_bind, Sem.run_pure, Result.andThen_ok]
  unfold OneAt at hr
  rw [hr]
  rfl
section
variable {ops : Array Oper} {rest : List Oper} {dst : Option Tmp} {ty ty' : TypeId} {x : Operand} {pos : String} {after : Array Edge} {g : Option (Nat × Bool)} {a : Act} {w : World} {Q : Exit → Act → World → Prop} {q : Act → Prop} {C : World → Prop} {ad : Addr} {D : Array Value} {v : Value}
theorem wl_row (hx : a.eval x = .pointer (some ad)) (hr : RowAt w ty ad D) (h : wpList Tryd.prog ops Q rest (a.put dst (.agg D)) w) : wpList Tryd.prog ops Q (⟨dst, .load ty x, ty', pos, after, none⟩ :: rest) a w := wl_val rfl (ex_row hx hr) h
theorem wl_one (hx : a.eval x = .pointer (some ad)) (hr : OneAt w ty ad v) (h : wpList Tryd.prog ops Q rest (a.put dst v) w) : wpList Tryd.prog ops Q (⟨dst, .load ty x, ty', pos, after, none⟩ :: rest) a w := wl_val rfl (ex_one hx hr) h
theorem wq_row (hg : Region.wanted ⟨dst, .load ty x, ty', pos, after, g⟩ (yielded ops a.tmps) = true) (hx : a.eval x = .pointer (some ad)) (hr : ∀ w', C w' → RowAt w' ty ad D) (h : wpQuiet Tryd.prog ops C q rest (a.put dst (.agg D))) : wpQuiet Tryd.prog ops C q (⟨dst, .load ty x, ty', pos, after, g⟩ :: rest) a := wq_valG hg (fun w' hw' => ex_row hx (hr w' hw')) h
theorem wq_one (hg : Region.wanted ⟨dst, .load ty x, ty', pos, after, g⟩ (yielded ops a.tmps) = true) (hx : a.eval x = .pointer (some ad)) (hr : ∀ w', C w' → OneAt w' ty ad v) (h : wpQuiet Tryd.prog ops C q rest (a.put dst v)) : wpQuiet Tryd.prog ops C q (⟨dst, .load ty x, ty', pos, after, g⟩ :: rest) a := wq_valG hg (fun w' hw' => ex_one hx (hr w' hw')) h
end
theorem row_mid {w : World} {ty : TypeId} {b off n : Nat} {Cs : Array Value} {t : TypeId} {fr : Nat × Nat} (hb : w.heap[b]? = some (.cells Cs t fr)) {D : Array Value} (hD : Cs.extract off (off + n) = D) {d : TypeDesc}
    (hu : Tryd.prog.underlying ty = some d) (hd : d.isRow = true) (hn : D.size = n) (hi : (Tryd.prog.info? ty).map (·.size) = some n) : RowAt w ty ⟨b, off, none⟩ D := by
  have h := World.rangeAt_of_block hb off n
  rw [hD] at h
  have := run_loadVar_mid (P := Tryd.prog) w b off ty D.toList d h hu hd (by rw [hi]; simp [hn])
  unfold RowAt
  rw [this]
end Go.Proofs.YtokmaehefenpmaaDoor
namespace Go.Proofs.YtokmaehefenpmaaDoor
open Go.RowKit Go.Proofs.YtokmaehefenpmaaDoor.Nm

namespace Nm
end Nm

theorem one_of {w : World} {ty : TypeId} {ad : Addr} {v : Value} {d : TypeDesc} (hu : Tryd.prog.underlying ty = some d) (hd : d.isRow = false) (hc : w.cell? ad = some v) : OneAt w ty ad v := by
  have hagg : (isAgg ty).run Tryd.prog w = .ok false w := by
    unfold isAgg
    rw [Sem.run_bind, run_underlying hu w]
    cases d <;> simp_all
  unfold OneAt
  simp [loadVar, hagg, load, Sem.run, hc]
theorem u3 : Tryd.prog.underlying 3 = some (.int .i64) := by kernel_rfl
section
variable {ops : Array Oper} {rest : List Oper} {dst : Option Tmp} {ty ty' : TypeId} {x ix : Operand} {pos : String} {after : Array Edge} {a : Act} {w : World} {Q : Exit → Act → World → Prop}
end
end Go.Proofs.YtokmaehefenpmaaDoor
namespace Go.Proofs.YtokmaehefenpmaaDoor
open Go.RowKit Go.Proofs.YtokmaehefenpmaaDoor.Nm

section
variable {P : Program} {ops : Array Oper} {rest : List Oper} {dst : Option Tmp} {ty ty' : TypeId} {x y : Operand} {pos : String} {after : Array Edge} {g : Option (Nat × Bool)} {a : Act} {w : World} {Q : Exit → Act → World → Prop} {q : Act → Prop} {C : World → Prop} {ad : Addr} {D : Array Value} {v : Value} {o : Oper}

theorem wl_k (hg : Region.wanted o (yielded ops a.tmps) = true)
    (h : ∀ K : Act → Prop, (∀ a', wpList P ops Q rest a' w → K a') → ∃ v, (execOp a.eval o).run P w = .ok (.value v) w ∧ K (a.put o.dst v)) : wpList P ops Q (o :: rest) a w := by
  obtain ⟨v, hv, hk⟩ := h _ (fun _ h => h)
  refine wpList_step fun K hK => ?_
  rw [if_pos hg]
  unfold Oper.wp; rw [hv]; exact hK _ _ hk
theorem wl_skip (hg : Region.wanted o (yielded ops a.tmps) = false) (h : wpList P ops Q rest (a.put o.dst undef) w) : wpList P ops Q (o :: rest) a w := by
  refine wpList_step fun K hK => ?_
  rw [if_neg (by simp [hg])]
  exact hK _ _ h
theorem wl_ck (hg : Region.wanted o (yielded ops a.tmps) = true)
    (h : ∀ K : FuncId → Array Value → Prop, (∀ f args, (∃ R, Calls P f args w R ∧ ∀ e w1, R e w1 → ∃ v, e = .returned v ∧ wpList P ops Q rest (a.put o.dst v) w1) → K f args) → ∃ f args, (execOp a.eval o).run P w = .ok (.enter f args) w ∧ K f args) : wpList P ops Q (o :: rest) a w := by
  obtain ⟨f, args, hv, R, hc, hk⟩ := h _ (fun _ _ h => h)
  refine wpList_step fun K hK => ?_
  rw [if_pos hg]
  unfold Oper.wp; rw [hv]
  refine hc.mono fun e w1 hr => ?_
  obtain ⟨v, rfl, h2⟩ := hk e w1 hr
  exact hK _ _ h2

theorem wl_rowG (hg : Region.wanted ⟨dst, .load ty x, ty', pos, after, g⟩ (yielded ops a.tmps) = true) (hx : a.eval x = .pointer (some ad)) (hr : RowAt w ty ad D) (h : wpList Tryd.prog ops Q rest (a.put dst (.agg D)) w) : wpList Tryd.prog ops Q (⟨dst, .load ty x, ty', pos, after, g⟩ :: rest) a w := by
  refine wpList_step fun K hK => ?_
  rw [if_pos hg]
  unfold Oper.wp; rw [ex_row hx hr]; exact hK _ _ h
theorem wl_oneG (hg : Region.wanted ⟨dst, .load ty x, ty', pos, after, g⟩ (yielded ops a.tmps) = true) (hx : a.eval x = .pointer (some ad)) (hr : OneAt w ty ad v) (h : wpList Tryd.prog ops Q rest (a.put dst v) w) : wpList Tryd.prog ops Q (⟨dst, .load ty x, ty', pos, after, g⟩ :: rest) a w := by
  refine wpList_step fun K hK => ?_
  rw [if_pos hg]
  unfold Oper.wp; rw [ex_one hx hr]; exact hK _ _ h

/-- A new variable: behind it the world under a name. -/
theorem wl_new {z : Array Value} (hal : ∀ ev w, (execOp ev ⟨dst, .alloc ty, ty', pos, after, none⟩).run Tryd.prog w = .ok (.value (.pointer (some ⟨w.heap.size, 0, none⟩))) (w.alloc (.cells z ty)))
    (h : ∀ W p, Below w.heap.size w W → w.heap.size ≤ p → W.heap[p]? = some (.cells z ty (0, 0)) → wpList Tryd.prog ops Q rest (a.put dst (.pointer (some ⟨p, 0, none⟩))) W) : wpList Tryd.prog ops Q (⟨dst, .alloc ty, ty', pos, after, none⟩ :: rest) a w := by
  refine wpList_plain rfl fun K hK => ?_
  unfold Oper.wp; rw [hal]
  exact hK _ _ (h _ _ ((Below.refl _ w).alloc (Nat.le_refl _) _) (Nat.le_refl _) (ha_new rfl))
end

end Go.Proofs.YtokmaehefenpmaaDoor
namespace Go.Proofs.YtokmaehefenpmaaDoor.Nm
open Go.RowKit

/-- Every block of W but those of D is as it was. -/
structure Kept (D : List Nat) (W w' : World) : Prop where
  size : W.heap.size ≤ w'.heap.size
  block : ∀ k, k < W.heap.size → k ∉ D → w'.heap[k]? = W.heap[k]?
  os : w'.os = W.os
  tape : w'.tape = W.tape
  output : w'.output = W.output
theorem Kept.drew (D : List Nat) (W : World) : Kept D W W.drew :=
  have hb := (Below.refl W.heap.size W).drew
  ⟨Nat.le_refl _, fun _ _ _ => rfl, hb.os, hb.tape, hb.output⟩
theorem Kept.toBelow {D : List Nat} {W w : World} {B : Nat} (h : Kept D W w) (hB : B ≤ W.heap.size) (hd : ∀ k ∈ D, B ≤ k) : Below B W w :=
  ⟨h.os, h.tape, h.output, h.size, fun k hk => h.block k (by omega) (fun hm => by have := hd k hm; omega)⟩
theorem Kept.below {D : List Nat} {W w w' : World} (h : Kept D W w) (hb : Below w.heap.size w w') : Kept D W w' :=
  ⟨Nat.le_trans h.1 hb.size, fun k hk hp => by rw [hb.block k (by have := h.1; omega)]; exact h.2 k hk hp, hb.os.trans h.os, hb.tape.trans h.tape, hb.output.trans h.output⟩
theorem Kept.setRow {D : List Nat} {p : Nat} {W w : World} (h : Kept D W w) (hm : p ∈ D) (cs : Array Value) : Kept D W (w.setRow p cs) :=
  ⟨by simpa using h.1, fun k hk hp => by rw [setRow_other w p k cs (fun e => hp (e ▸ hm))]; exact h.2 k hk hp, by simpa using h.os, by simpa using h.tape, by simpa using h.output⟩
theorem Kept.setCell {D : List Nat} {p : Nat} {W w : World} (h : Kept D W w) (hm : p ∈ D) (i : Nat) (v : Value) : Kept D W (w.setCell ⟨p, i, none⟩ v) :=
  ⟨by simpa using h.1, fun k hk hp => by rw [heap_setCell_other _ _ _ _ (fun e => hp (by simp at e; exact e ▸ hm))]; exact h.2 k hk hp, ((Below.refl 0 w).setCell (p := ⟨p, i, none⟩) (Nat.zero_le _) v).os.trans h.os, ((Below.refl 0 w).setCell (p := ⟨p, i, none⟩) (Nat.zero_le _) v).tape.trans h.tape, ((Below.refl 0 w).setCell (p := ⟨p, i, none⟩) (Nat.zero_le _) v).output.trans h.output⟩
theorem Kept.look {D : List Nat} {W w' : World} (h : Kept D W w') {g : Nat} {o : Obj} (ho : W.heap[g]? = some o) (hp : g ∉ D) : w'.heap[g]? = some o := by rw [h.2 g (heap_lt ho) hp]; exact ho
theorem Kept.cell {D : List Nat} {W w' : World} (h : Kept D W w') {g i : Nat} {v : Value} (hc : W.cell? ⟨g, i, none⟩ = some v) (hp : g ∉ D) : w'.cell? ⟨g, i, none⟩ = some v := by
  have hg : g < W.heap.size := block_lt_of_cell hc
  rw [← hc]
  exact World.cell?_of_block (h.2 g hg hp)

section
variable {P : Program} {ops : Array Oper} {Q : Exit → Act → World → Prop} {md : Region.Mode} {S : World → Prop} {i : Nat} {oi : Oper} {fuel : Nat} {listed : Array Bool} {a : Act} {w : World}

/-- An operation that yields one value in every world of the class. -/
theorem ha_val {v : Value} (hi : ops[i]? = some oi) (hs : Region.noSelect ops = true) (hf : Region.free md ops listed i = true) (hr : (Region.ready md ops listed).contains i = true)
    (hQ : ∀ c a w, Q (.panic c) (a.put oi.dst v) w → Q (.panic c) a w) (hS : S w) (hg : Region.wanted oi (yielded ops a.tmps) = true) (hv : ∀ w, S w → (execOp a.eval oi).run P w = .ok (.value v) w)
    (h : wpAnyH P md ops Q S fuel (listed.setIfInBounds i true) (a.put oi.dst v) w) : wpAnyH P md ops Q S (fuel + 1) listed a w :=
  wpAnyH_take hi hs hf hr hQ (.inl ⟨hg, hv⟩) hS h
/-- An operation that only reckons. -/
theorem ha_k (hi : ops[i]? = some oi) (hs : Region.noSelect ops = true) (hf : Region.free md ops listed i = true) (hr : (Region.ready md ops listed).contains i = true)
    (hQ : ∀ v c a w, Q (.panic c) (a.put oi.dst v) w → Q (.panic c) a w) (hS : S w) (hg : Region.wanted oi (yielded ops a.tmps) = true)
    (h : ∀ K : Act → Prop, (∀ a', wpAnyH P md ops Q S fuel (listed.setIfInBounds i true) a' w → K a') → ∃ v, (∀ w, (execOp a.eval oi).run P w = .ok (.value v) w) ∧ K (a.put oi.dst v)) : wpAnyH P md ops Q S (fuel + 1) listed a w := by
  obtain ⟨v, hv, hk⟩ := h _ (fun _ h => h)
  exact wpAnyH_take hi hs hf hr (hQ v) (.inl ⟨hg, fun w _ => hv w⟩) hS hk
/-- A guarded operation, left out. -/
theorem ha_skip (hi : ops[i]? = some oi) (hs : Region.noSelect ops = true) (hf : Region.free md ops listed i = true) (hr : (Region.ready md ops listed).contains i = true)
    (hQ : ∀ c a w, Q (.panic c) (a.put oi.dst undef) w → Q (.panic c) a w) (hS : S w) (hg : Region.wanted oi (yielded ops a.tmps) = false)
    (h : wpAnyH P md ops Q S fuel (listed.setIfInBounds i true) (a.put oi.dst undef) w) : wpAnyH P md ops Q S (fuel + 1) listed a w :=
  wpAnyH_take hi hs hf hr hQ (.inr ⟨hg, rfl⟩) hS h
/-- A call: whatever its contract says of the result. -/
theorem ha_call (hr : Region.ready md ops listed = [i]) (ho : ops[i]? = some oi) (hg : Region.wanted oi (yielded ops a.tmps) = true)
    (h : ∀ K : FuncId → Array Value → Prop, (∀ f args, (∃ F, Calls P f args w F ∧ ∀ e w', F e w' → ∃ v, e = .returned v ∧ S w' ∧ wpAnyH P md ops Q S fuel (listed.setIfInBounds i true) (a.put oi.dst v) w') → K f args) → ∃ f args, (∀ w, (execOp a.eval oi).run P w = .ok (.enter f args) w) ∧ K f args) :
    wpAnyH P md ops Q S (fuel + 1) listed a w := by
  obtain ⟨f, args, hv, F, hc, hk⟩ := h _ (fun _ _ h => h)
  refine wpAnyH_ready (rs := [i]) hr (by simp) (AllReadyH.cons ho (fun K hK => ?_) AllReadyH.nil)
  rw [if_pos hg]
  unfold Oper.wp
  rw [hv w]
  simp only [Oper.upon]
  refine hc.mono fun e w' hF => ?_
  obtain ⟨v, rfl, hSv, hw⟩ := hk e w' hF
  exact hK.out _ _ hSv (fun _ => hw)
/-- An operation that is carried out now, with what it does to the world. -/
theorem ha_do {v : Value} {w2 : World} (hr : Region.ready md ops listed = [i]) (ho : ops[i]? = some oi) (hg : Region.wanted oi (yielded ops a.tmps) = true) (hx : (execOp a.eval oi).run P w = .ok (.value v) w2) (hS : S w2)
    (h : wpAnyH P md ops Q S fuel (listed.setIfInBounds i true) (a.put oi.dst v) w2) : wpAnyH P md ops Q S (fuel + 1) listed a w := by
  refine wpAnyH_ready (rs := [i]) hr (by simp) (AllReadyH.cons ho (fun K hK => ?_) AllReadyH.nil)
  rw [if_pos hg]
  unfold Oper.wp
  rw [hx]
  exact hK.out _ _ hS (fun _ => h)
/-- A struct stored over a block that is known. -/
theorem ha_store (hr : Region.ready md ops listed = [i]) (ho : ops[i]? = some oi) (hg : Region.wanted oi (yielded ops a.tmps) = true) (ty : TypeId) (x y : Operand) (hop : oi.op = .store ty x y) (g : Nat) (cells : Array Value) (hx : a.eval x = .pointer (some ⟨g, 0, none⟩)) (hy : a.eval y = .agg cells)
    (t : TypeId) (old : Array Value) (hb : w.heap[g]? = some (.cells old t (0, 0))) (hin : (P.info? ty).map (·.size) = some cells.size) (hold : old.size = cells.size) (h1 : cells.all (·.oneCell') = true) (hS : S (w.setRow g cells))
    (h : S (w.setRow g cells) → wpAnyH P md ops Q S fuel (listed.setIfInBounds i true) (a.put oi.dst undef) (w.setRow g cells)) : wpAnyH P md ops Q S (fuel + 1) listed a w := by
  refine wpAnyH_ready (rs := [i]) hr (by simp) (AllReadyH.cons ho (fun K hK => ?_) AllReadyH.nil)
  rw [if_pos hg]
  exact wp_store_row ty x y hop g cells hx hy t old hb hin hold h1 (hK.out _ _ hS h)
/-- One operation carried out now. -/
def StepH (P : Program) (md : Region.Mode) (ops : Array Oper) (Q : Exit → Act → World → Prop) (S : World → Prop) (fuel : Nat) (listed : Array Bool) (a : Act) (w : World) (i : Nat) : Prop :=
  wpOp P ops Q i (fun a' w' => S w' ∧ wpAnyH P md ops Q S fuel (listed.setIfInBounds i true) a' w') a w
/-- Two operations may come up. -/
theorem ha_two {j : Nat} (hr : Region.ready md ops listed = [i, j]) (hi : StepH P md ops Q S fuel listed a w i) (hj : StepH P md ops Q S fuel listed a w j) : wpAnyH P md ops Q S (fuel + 1) listed a w :=
  wpAnyH_all hr (by simp) fun k hk => by
    rcases List.mem_cons.1 hk with rfl | hk
    · exact hi
    · rcases List.mem_cons.1 hk with rfl | hk
      · exact hj
      · cases hk
theorem sh_val {v : Value} (ho : ops[i]? = some oi) (hg : Region.wanted oi (yielded ops a.tmps) = true) (hv : (execOp a.eval oi).run P w = .ok (.value v) w) (hS : S w) (h : wpAnyH P md ops Q S fuel (listed.setIfInBounds i true) (a.put oi.dst v) w) : StepH P md ops Q S fuel listed a w i := by
  unfold StepH wpOp
  simp only [ho]
  rw [if_pos hg]
  refine .inl ?_
  unfold Oper.wp
  rw [hv]
  exact ⟨hS, h⟩
theorem sh_call (ho : ops[i]? = some oi) (hg : Region.wanted oi (yielded ops a.tmps) = true)
    (h : ∀ K : FuncId → Array Value → Prop, (∀ f args, (∃ F, Calls P f args w F ∧ ∀ e w', F e w' → ∃ v, e = .returned v ∧ S w' ∧ wpAnyH P md ops Q S fuel (listed.setIfInBounds i true) (a.put oi.dst v) w') → K f args) → ∃ f args, (∀ w, (execOp a.eval oi).run P w = .ok (.enter f args) w) ∧ K f args) :
    StepH P md ops Q S fuel listed a w i := by
  obtain ⟨f, args, hv, F, hc, hk⟩ := h _ (fun _ _ h => h)
  unfold StepH wpOp
  simp only [ho]
  rw [if_pos hg]
  refine .inl ?_
  unfold Oper.wp
  rw [hv w]
  simp only [Oper.upon]
  refine hc.mono fun e w' hF => ?_
  obtain ⟨v, rfl, hSv, hw⟩ := hk e w' hF
  exact ⟨hSv, hw⟩
end
end Go.Proofs.YtokmaehefenpmaaDoor.Nm
namespace Go.Proofs.YtokmaehefenpmaaDoor.Nm
open Go.RowKit
theorem Kept.setNew {D : List Nat} {p : Nat} {W w : World} (h : Kept D W w) (hm : W.heap.size ≤ p) (cs : Array Value) : Kept D W (w.setRow p cs) :=
  ⟨by simpa using h.1, fun k hk hp => by rw [setRow_other w p k cs (fun e => by omega)]; exact h.2 k hk hp, by simpa using h.os, by simpa using h.tape, by simpa using h.output⟩
section
variable {P : Program} {ops : Array Oper} {Q : Exit → Act → World → Prop} {md : Region.Mode} {D : List Nat} {W : World} {i : Nat} {oi : Oper} {fuel : Nat} {listed : Array Bool} {a : Act} {w : World} {z : Array Value} {ty : TypeId}
theorem ha_mk (hr : Region.ready md ops listed = [i]) (ho : ops[i]? = some oi) (hg : Region.wanted oi (yielded ops a.tmps) = true)
    (hal : ∀ ev w, (execOp ev oi).run P w = .ok (.value (.pointer (some ⟨w.heap.size, 0, none⟩))) (w.alloc (.cells z ty))) (hS : Kept D W w)
    (h : ∀ w' p, Below w.heap.size w w' → W.heap.size ≤ p → w.heap.size ≤ p → w'.heap[p]? = some (.cells z ty) → Kept D W w' → wpAnyH P md ops Q (Kept D W) fuel (listed.setIfInBounds i true) (a.put oi.dst (.pointer (some ⟨p, 0, none⟩))) w') :
    wpAnyH P md ops Q (Kept D W) (fuel + 1) listed a w := by
  have hb : Below w.heap.size w (w.alloc (.cells z ty)) := (Below.refl _ _).alloc (Nat.le_refl _) _
  refine ha_do hr ho hg (hal a.eval w) (hS.below hb) ?_
  exact h _ _ hb hS.1 (Nat.le_refl _) (ha_new rfl) (hS.below hb)
theorem sh_mk (ho : ops[i]? = some oi) (hg : Region.wanted oi (yielded ops a.tmps) = true)
    (hal : ∀ ev w, (execOp ev oi).run P w = .ok (.value (.pointer (some ⟨w.heap.size, 0, none⟩))) (w.alloc (.cells z ty))) (hS : Kept D W w)
    (h : ∀ w' p, Below w.heap.size w w' → W.heap.size ≤ p → w.heap.size ≤ p → w'.heap[p]? = some (.cells z ty) → Kept D W w' → wpAnyH P md ops Q (Kept D W) fuel (listed.setIfInBounds i true) (a.put oi.dst (.pointer (some ⟨p, 0, none⟩))) w') :
    StepH P md ops Q (Kept D W) fuel listed a w i := by
  have hb : Below w.heap.size w (w.alloc (.cells z ty)) := (Below.refl _ _).alloc (Nat.le_refl _) _
  unfold StepH wpOp
  simp only [ho]
  rw [if_pos hg]
  refine .inl ?_
  unfold Oper.wp
  rw [hal]
  exact ⟨hS.below hb, h _ _ hb hS.1 (Nat.le_refl _) (ha_new rfl) (hS.below hb)⟩
end
end Go.Proofs.YtokmaehefenpmaaDoor.Nm
namespace Go.Proofs.YtokmaehefenpmaaDoor.Nm
open Go.RowKit
section
variable {P : Program} {ops : Array Oper} {Q : Exit → Act → World → Prop} {md : Region.Mode} {S : World → Prop} {i : Nat} {fuel : Nat} {listed : Array Bool} {a : Act} {w : World}
theorem ha_three {j k : Nat} (hr : Region.ready md ops listed = [i, j, k]) (hi : StepH P md ops Q S fuel listed a w i) (hj : StepH P md ops Q S fuel listed a w j) (hk : StepH P md ops Q S fuel listed a w k) : wpAnyH P md ops Q S (fuel + 1) listed a w :=
  wpAnyH_all hr (by simp) fun l hl => by
    rcases List.mem_cons.1 hl with rfl | hl
    · exact hi
    · rcases List.mem_cons.1 hl with rfl | hl
      · exact hj
      · rcases List.mem_cons.1 hl with rfl | hl
        · exact hk
        · cases hl
end
end Go.Proofs.YtokmaehefenpmaaDoor.Nm

namespace Go.Proofs.YtokmaehefenpmaaDoor
open Go.RowKit Go.Proofs.YtokmaehefenpmaaDoor.Nm
theorem wl_w {P : Program} {ops : Array Oper} {rest : List Oper} {o : Oper} {a : Act} {w w2 : World} {Q : Exit → Act → World → Prop} {v : Value} (hg : o.guard = none) (hx : (execOp a.eval o).run P w = .ok (.value v) w2)
    (h : wpList P ops Q rest (a.put o.dst v) w2) : wpList P ops Q (o :: rest) a w := by
  refine wpList_plain hg fun K hK => ?_
  unfold Oper.wp; rw [hx]; exact hK _ _ h
theorem run_storeC (b o : Nat) (ty : TypeId) (v : Value) (w : World) (hi : (Tryd.prog.info? ty).map (·.size) = some 1) (h1 : v.oneCell' = true) (hc : (w.cell? ⟨b, o, none⟩).isSome = true) (hf : w.frozen? ⟨b, o, none⟩ = false) :
    (storeVar ty ⟨b, o, none⟩ v).run Tryd.prog w = .ok () (w.setCell ⟨b, o, none⟩ v) := by
  have hst := run_storeCells_cells (P := Tryd.prog) b o [v] 0 w (by intro j hj; simp at hj; subst hj; simpa using hc) (by intro j hj; simp at hj; subst hj; simpa using hf) (by intro u hu; simp at hu; subst hu; exact h1)
  have hcl : v.cells = #[v] := by cases v <;> first | rfl | cases h1
  cases hq : Tryd.prog.info? ty with
  | none => simp [hq] at hi
  | some i =>
    have hs : i.size = 1 := by simpa [hq] using hi
    simp [storeVar, sizeOf, typeInfo, hq, hcl, hs]
    exact (by simpa using hst : _ = Result.ok () (w.setCells b o [v]))
theorem wp_storeC {op : Oper} {a : Act} {w : World} {K : Act → World → Prop} {Q : Exit → Act → World → Prop} (ty : TypeId) (x y : Operand) (ho : op.op = .store ty x y) (b o : Nat) (v : Value)
    (hx : a.eval x = .pointer (some ⟨b, o, none⟩)) (hy : a.eval y = v) (hi : (Tryd.prog.info? ty).map (·.size) = some 1) (h1 : v.oneCell' = true) (hc : (w.cell? ⟨b, o, none⟩).isSome = true) (hf : w.frozen? ⟨b, o, none⟩ = false)
    (h : K (a.put op.dst undef) (w.setCell ⟨b, o, none⟩ v)) : op.wp Tryd.prog a w K Q := by
  unfold Oper.wp execOp
  simp only [ho, hx, hy, Instr.storeAt, Instr.sureAddr, Sem.run_bind, Sem.run_pure, Result.andThen_ok, run_storeC b o ty v w hi h1 hc hf]
  exact h
theorem wl_storeC {ops : Array Oper} {rest : List Oper} {op : Oper} {a : Act} {w : World} {Q : Exit → Act → World → Prop} (hg : op.guard = none) (ty : TypeId) (x y : Operand) (ho : op.op = .store ty x y) (b o : Nat) (v : Value)
    (hx : a.eval x = .pointer (some ⟨b, o, none⟩)) (hy : a.eval y = v) (hi : (Tryd.prog.info? ty).map (·.size) = some 1) (h1 : v.oneCell' = true) (hc : (w.cell? ⟨b, o, none⟩).isSome = true) (hf : w.frozen? ⟨b, o, none⟩ = false)
    (h : wpList Tryd.prog ops Q rest (a.put op.dst undef) (w.setCell ⟨b, o, none⟩ v)) : wpList Tryd.prog ops Q (op :: rest) a w :=
  wpList_plain hg fun _ hK => wp_storeC ty x y ho b o v hx hy hi h1 hc hf (hK _ _ h)
section
variable {md : Region.Mode} {ops : Array Oper} {Q : Exit → Act → World → Prop} {S : World → Prop} {fuel : Nat} {listed : Array Bool} {a : Act} {w : World} {i : Nat} {oi : Oper}
theorem ha_storeC (hr : Region.ready md ops listed = [i]) (ho : ops[i]? = some oi) (hg : Region.wanted oi (yielded ops a.tmps) = true) (ty : TypeId) (x y : Operand) (hop : oi.op = .store ty x y) (b o : Nat) (v : Value)
    (hx : a.eval x = .pointer (some ⟨b, o, none⟩)) (hy : a.eval y = v) (hi : (Tryd.prog.info? ty).map (·.size) = some 1) (h1 : v.oneCell' = true) (hc : (w.cell? ⟨b, o, none⟩).isSome = true) (hf : w.frozen? ⟨b, o, none⟩ = false) (hS : S (w.setCell ⟨b, o, none⟩ v))
    (h : S (w.setCell ⟨b, o, none⟩ v) → wpAnyH Tryd.prog md ops Q S fuel (listed.setIfInBounds i true) (a.put oi.dst undef) (w.setCell ⟨b, o, none⟩ v)) : wpAnyH Tryd.prog md ops Q S (fuel + 1) listed a w := by
  refine wpAnyH_ready (rs := [i]) hr (by simp) (AllReadyH.cons ho (fun K hK => ?_) AllReadyH.nil)
  rw [if_pos hg]
  exact wp_storeC ty x y hop b o v hx hy hi h1 hc hf (hK.out _ _ hS h)
end
theorem put_noneA (a : Act) (v : Value) : a.put none v = a := rfl
end Go.Proofs.YtokmaehefenpmaaDoor
