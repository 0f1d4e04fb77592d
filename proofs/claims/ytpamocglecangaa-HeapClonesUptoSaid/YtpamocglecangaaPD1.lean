/- Steps of plain and drawn regions, for any texts of this seat (turned from the writer's texts of another seat). Trees of api. The plain laws of trees: what 'replaced' gives (repl), what is put in for names and for variables, and that to put in twice is to put in once. The order of trees: two are equal or one is less, and less goes on. No program in sight. The plain laws of matching (TypesMatch, TypesMatches). No program in sight. The plain laws of counting: TypeNodes with its bound, 'each' with a counter, a substitution of names by themselves. Trees in memory: rows of them, lists of the call's own, and the steps of a walk over them. The number of nodes of a tree, up to a bound; small. A tree copied (CopyType, CopyTypes). What stands while some blocks change. The heap of chapter 14, plainly: values, objects, buffers, what is left to be ended. Values in memory: the relation VAt, what keeps it, what is loaded of a value's variable. Values in memory: steps; the document's Nodes. -/
import Derived.Test.YtpamocglecangaaProg
import Derived.WalkKit
import Derived.WalkLawsBesides
import Derived.WalkSpells
import Derived.Deep.Quiet
import Derived.StillTail
import Derived.Deep.QuietTactic
import Derived.Deep.MidRow
import Derived.BigQuiet
import Derived.Lib.Hide
import Derived.Deep.Cut
import Derived.ChangeKeysEq
import Derived.Laws.StructEq
import Derived.Deep.RegionHeld
import Derived.ProofKit
import Derived.Lib.SmallJoins
import Derived.Deep.Strs
import Derived.Deep.Slices
import Derived.Carry
import Derived.IntWalk
import Derived.Outline
import Derived.Deep.DeepCutAuto
set_option maxHeartbeats 16000000
set_option maxRecDepth 100000
namespace Go.Proofs.Ytpamocglecangaa.Nm
open Go.RowKit
set_option linter.unusedSimpArgs false

def row (f : Nat -> Nat) : Array Value := ((List.range 64).map fun i => Value.int .u8 (f i : Int)).toArray
theorem heap_lt {w : World} {g : Nat} {o : Obj} (h : w.heap[g]? = some o) : g < w.heap.size := (Array.getElem?_eq_some_iff.1 h).1

theorem below_cells {B : Nat} {w w' : World} (h : Below B w w') {g : Nat} (hg : g < B) {o : Obj} (ho : w.heap[g]? = some o) : w'.heap[g]? = some o := by rw [h.block g hg, ho]

theorem ha_new {w : World} {o : Obj} {k : Nat} (h : k = w.heap.size) : (w.alloc o).heap[k]? = some o := by subst h; exact heap_alloc_new w o
theorem hs_new {w : World} {g i : Nat} {cs : Array Value} {t : TypeId} {v : Value} (h : w.heap[g]? = some (.cells cs t (0, 0))) : (w.setCell ⟨g, i, none⟩ v).heap[g]? = some (.cells (cs.setIfInBounds i v) t (0, 0)) := heap_setCell_same w g i cs t v h
theorem hr_new {w : World} {g : Nat} {old cs : Array Value} {t : TypeId} (h : w.heap[g]? = some (.cells old t (0, 0))) : (w.setRow g cs).heap[g]? = some (.cells cs t (0, 0)) := setRow_heap w g old cs t (0, 0) h
theorem below_setRow {B : Nat} {a w : World} (h : Below B a w) {g : Nat} (hg : B <= g) (cs : Array Value) : Below B a (w.setRow g cs) :=
 h.trans ⟨by simp, rfl, rfl, by simp, fun k hk => setRow_other w g k cs (by omega)⟩
end Go.Proofs.Ytpamocglecangaa.Nm
namespace Go.Proofs.Ytpamocglecangaa.Nm
open Go.RowKit

section
variable {P : Program} {ops : Array Oper} {md : Region.Mode} {C : World -> Prop}

def wpAnyK (P : Program) (md : Region.Mode) (ops : Array Oper) (C : World -> Prop) (n : Nat) (L : Array Bool -> Act -> Prop) : Nat -> Array Bool -> Act -> Prop
 | 0, listed, a => L listed a
 | f + 1, listed, a =>
  Region.ready md ops listed ≠ [] /\ ∀ i ∈ Region.ready md ops listed, i < n /\ qOp P ops C i (wpAnyK P md ops C n L f (listed.setIfInBounds i true)) a

theorem wpAny_of_headK {n g : Nat} {L : Array Bool -> Act -> Prop} {Q' : Exit -> Act -> World -> Prop} (hL : ∀ listed a w, C w -> L listed a -> wpAny P md ops Q' g listed a w) :
  ∀ (f : Nat) (listed : Array Bool) (a : Act) (w : World), C w -> wpAnyK P md ops C n L f listed a -> wpAny P md ops Q' (f + g) listed a w
 | 0, listed, a, w, hw, h => by rw [Nat.zero_add]; exact hL _ _ _ hw h
 | f + 1, listed, a, w, hw, h => by
  rw [show f + 1 + g = (f + g) + 1 by omega]
  exact ⟨fun h0 => absurd h0 h.1, fun i hi => wpOp_of_qOp hw (fun a' w' hw' h' => wpAny_of_headK hL f _ a' w' hw' h') (h.2 i hi).2⟩

theorem wpAnyK_first {n i : Nat} {oi : Oper} {v : Value} {L : Array Bool -> Act -> Prop} (hi : ops[i]? = some oi) (hsel : ∀ (j : Nat) (o : Oper) cs b, ops[j]? = some o -> o.op ≠ .select cs b)
  (hs : Region.sinkB md ops n = true) (hc : Region.chainB md ops n = true) (hn : n < ops.size) (hin : i < n)
  (hdone : ∀ listed a, L listed a -> ∀ j ∈ Region.ready md ops listed, n <= j) :
  ∀ (f : Nat) (listed : Array Bool) (a : Act), HeadInv md ops n listed ->
   (∀ j oj, ops[j]? = some oj -> j ≠ i -> listed.getD j true = false -> (∀ e ∈ oj.after, Region.binds md e = true -> e.on ≠ i) -> oi.apart ops oj = true) ->
   i ∈ Region.ready md ops listed -> YieldsIn P ops C oi v a ->
   wpAnyK P md ops C n L f (listed.setIfInBounds i true) (a.put oi.dst v) -> wpAnyK P md ops C n L (f + 1) listed a := by
 intro f
 induction f with
 | zero =>
  intro listed a inv _ hr hy H
  have hun := (mem_ready.1 hr).1
  refine ⟨fun h => (by rw [h] at hr; cases hr), fun j hj => ?_⟩
  have hjn : j < n := by
   rcases Nat.lt_or_ge j n with h | h
   ·exact h
   ·exact absurd hj (tail_waits hs hc hn inv _ i rfl hin hun j h)
  refine ⟨hjn, ?_⟩
  by_cases hji : j = i
  ·subst hji; exact hy.qOp hi H
  ·have := hdone _ _ H j (ready_mono hj hji)
   omega
 | succ f ih =>
  intro listed a inv hfree hr hy H
  have hun := (mem_ready.1 hr).1
  refine ⟨fun h => (by rw [h] at hr; cases hr), fun j hj => ?_⟩
  have hjn : j < n := by
   rcases Nat.lt_or_ge j n with h | h
   ·exact h
   ·exact absurd hj (tail_waits hs hc hn inv _ i rfl hin hun j h)
  refine ⟨hjn, ?_⟩
  by_cases hji : j = i
  ·subst hji; exact hy.qOp hi H
  ·have h1 := (H.2 j (ready_mono hj hji)).2
   obtain ⟨hjun, oj, hoj, hall⟩ := mem_ready.1 hj
   have hnot : ∀ e ∈ oj.after, Region.binds md e = true -> e.on ≠ i := fun e he hb heq => by
    have h1 := hall e he hb
    rw [heq, getD_both hun] at h1
    cases h1
   have h2 := qOp_put hoj (hfree j oj hoj hji hjun hnot) (fun cs b => hsel i oi cs b hi) (fun cs b => hsel j oj cs b hoj) hy h1
   have hfree' : ∀ k ok, ops[k]? = some ok -> k ≠ i -> (listed.setIfInBounds j true).getD k true = false ->
     (∀ e ∈ ok.after, Region.binds md e = true -> e.on ≠ i) -> oi.apart ops ok = true := fun k ok hk hki hun hno => by
    refine hfree k ok hk hki ?_ hno
    by_cases hjk : j = k
    ·subst hjk; exact hjun
    ·rw [getD_set_ne true hjk] at hun; exact hun
   refine qOp_mono (fun a' h3 => ih (listed.setIfInBounds j true) a' (inv.set hj hjn) hfree' (ready_mono hr (Ne.symm hji)) h3.1 ?_) h2
   rw [Array.setIfInBounds_comm _ _ hji]
   exact h3.2

theorem wpAnyK_lex {n g : Nat} {Lq : Act -> Prop} (hsel : Region.noSelect ops = true) (hs : Region.sinkB md ops n = true) (hc : Region.chainB md ops n = true) (hn : n < ops.size) :
  ∀ (l : List Oper) (k : Nat) (listed : Array Bool) (a : Act), (∀ j, j < l.length -> l[j]? = ops[k + j]?) -> k + l.length = n -> HeadInv md ops n listed ->
  Region.lexHead md ops g l.length k listed = true -> wpQuiet P ops C Lq l a ->
  wpAnyK P md ops C n (fun listed' a' => Region.seqB md ops g n listed' = true /\ Lq a') l.length listed a
 | [], k, listed, a, _, hk, _, hB, h => by
  have : k = n := by simpa using hk
  subst this
  exact ⟨by simpa [Region.lexHead] using hB, h⟩
 | o :: l, k, listed, a, hl, hk, inv, hB, h => by
  have h0 : ops[k]? = some o := by simpa using (hl 0 (by simp)).symm
  simp only [List.length_cons, Region.lexHead, Bool.and_eq_true] at hB
  obtain ⟨⟨hr, hf⟩, hB'⟩ := hB
  have hkn : k < n := by simp only [List.length_cons] at hk; omega
  have hr' : k ∈ Region.ready md ops listed := by simpa using hr
  have hst : qOp P ops C k (wpQuiet P ops C Lq l) a := by unfold qOp; simp only [h0]; exact h
  obtain ⟨v, hy, hK⟩ := yieldsIn_of_qOp h0 hst
  exact wpAnyK_first h0 (Region.noSelect_spec hsel) hs hc hn hkn (fun listed' a' hL => seqB_ready hL.1) l.length listed a inv (Region.free_spec h0 hf) hr' hy
   (wpAnyK_lex hsel hs hc hn l (k + 1) _ _ (fun j hj => by have := hl (j + 1) (by simp; omega); simpa [Nat.add_assoc, Nat.add_comm 1 j] using this) (by simp only [List.length_cons] at hk; omega) (inv.set hr' hkn) hB' hK)

theorem wp_region_tail {id : Nat} {Q : Exit -> Act -> World -> Prop} {a : Act} {w : World} {l : List Oper} (C : World -> Prop) (n : Nat) (hm : P.follows .mixedOrders = true) (hB : Region.lexTailB .any l.toArray n = true)
  (hC : C { w with drawn := w.drawn + 1 })
  (h : wpQuiet P l.toArray C (fun a' => ∀ w', C w' -> wpList P l.toArray Q (l.drop n) a' w') (l.take n) a) : (Code.region id l.toArray true).wp P Q a w := by
 simp only [Region.lexTailB, Bool.and_eq_true, decide_eq_true_eq] at hB
 obtain ⟨⟨⟨⟨hsel, hn⟩, hs⟩, hc⟩, hlex⟩ := hB
 have hn' : n < l.length := by simpa using hn
 have htl : (l.take n).length = n := by simp; omega
 have hdl : (l.drop n).length = l.toArray.size - n := by simp
 have inv0 : HeadInv .any l.toArray n (Array.replicate l.toArray.size false) :=
  ⟨by simp, fun j oj _ hl => (by rw [getD_replicate_false] at hl; cases hl), fun t _ ht => getD_in (by simpa using ht) (getD_replicate_false _ _)⟩
 have H := wpAnyK_lex (C := C) (md := .any) (g := l.toArray.size - n) hsel hs hc hn (l.take n) 0 _ a (fun j hj => by
  have hj' : j < n := by rw [htl] at hj; exact hj
  simp [hj']) (by simpa using htl) inv0 (by rw [htl]; exact hlex) h
 refine wp_region_any hm ?_
 have := wpAny_of_headK (Q' := Q) (g := l.toArray.size - n) (fun listed a' w' hw' hL => by
  have := wpAny_of_seq (md := .any) (Q' := Q) (l.drop n) n listed a' w' (fun j => by simp [List.getElem?_drop]) (by rw [hdl]; exact hL.1) (hL.2 w' hw')
  rwa [hdl] at this) _ _ _ _ hC H
 rw [htl, show n + (l.toArray.size - n) = l.toArray.size by omega] at this
 exact this

theorem wp_region_class {id : Nat} {Q : Exit -> Act -> World -> Prop} {a : Act} {w : World} {l : List Oper} (C : World -> Prop) (hm : P.follows .mixedOrders = true) (hB : Region.lexB .any l.toArray = true) (hC : C { w with drawn := w.drawn + 1 })
  (h : wpQuiet P l.toArray C (fun a' => ∀ w', C w' -> Q .normal a' w') l a) : (Code.region id l.toArray true).wp P Q a w :=
 wp_region_quiet (C := C) hm hB hC (by simpa using h)

theorem wq_val {Q : Act -> Prop} {a : Act} {o : Oper} {rest : List Oper} {v : Value} (hg : o.guard = none) (hv : ∀ w, C w -> (execOp a.eval o).run P w = .ok (.value v) w)
  (h : wpQuiet P ops C Q rest (a.put o.dst v)) : wpQuiet P ops C Q (o :: rest) a := by
 unfold wpQuiet
 rw [if_pos (by simp [Region.wanted, hg])]
 exact ⟨v, fun w hw => by unfold Oper.quietAt; rw [hv w hw]; exact ⟨rfl, rfl⟩, h⟩
theorem wq_valG {Q : Act -> Prop} {a : Act} {o : Oper} {rest : List Oper} {v : Value} (hg : Region.wanted o (yielded ops a.tmps) = true) (hv : ∀ w, C w -> (execOp a.eval o).run P w = .ok (.value v) w)
  (h : wpQuiet P ops C Q rest (a.put o.dst v)) : wpQuiet P ops C Q (o :: rest) a := by
 unfold wpQuiet
 rw [if_pos hg]
 exact ⟨v, fun w hw => by unfold Oper.quietAt; rw [hv w hw]; exact ⟨rfl, rfl⟩, h⟩
theorem wq_callG {Q : Act -> Prop} {a : Act} {o : Oper} {rest : List Oper} {v : Value} {f : FuncId} {args : Array Value} (hg : Region.wanted o (yielded ops a.tmps) = true) (hv : ∀ w, C w -> (execOp a.eval o).run P w = .ok (.enter f args) w)
  (hc : ∀ w, C w -> Calls P f args w fun e w' => e = .returned v /\ C w')
  (h : wpQuiet P ops C Q rest (a.put o.dst v)) : wpQuiet P ops C Q (o :: rest) a := by
 unfold wpQuiet
 rw [if_pos hg]
 exact ⟨v, fun w hw => by unfold Oper.quietAt; rw [hv w hw]; exact ⟨rfl, hc w hw⟩, h⟩
theorem wq_k {Q : Act -> Prop} {a : Act} {o : Oper} {rest : List Oper} (hg : Region.wanted o (yielded ops a.tmps) = true)
  (h : ∀ K : Act -> Prop, (∀ a', wpQuiet P ops C Q rest a' -> K a') -> ∃ v, (∀ w, (execOp a.eval o).run P w = .ok (.value v) w) /\ K (a.put o.dst v)) : wpQuiet P ops C Q (o :: rest) a := by
 obtain ⟨v, hv, hk⟩ := h _ (fun _ h => h)
 exact wq_valG hg (fun w _ => hv w) hk
theorem Zt {Q : Act -> Prop} {a b : Act} {o : Oper} {rest : List Oper} (h : wpQuiet P ops C Q rest b) (hg : Region.wanted o (yielded ops a.tmps) = true := by with_unfolding_all rfl) (e : ∀ K : Act -> Prop, K b -> ∃ v, (∀ w, (execOp a.eval o).run P w = .ok (.value v) w) /\ K (a.put o.dst v) := by intro K hK; go_simp; exact hK) : wpQuiet P ops C Q (o :: rest) a := by
 obtain ⟨v, e1, e2⟩ := e (fun b => wpQuiet P ops C Q rest b) h
 exact wq_k hg fun K hK => ⟨v, e1, hK _ e2⟩
theorem Zr {Q : Act -> Prop} {a : Act} {o : Oper} {rest : List Oper}
    (h : ∀ K : Act -> Prop, (∀ a', wpQuiet P ops C Q rest a' -> K a') -> ∃ v, (∀ w, (execOp a.eval o).run P w = .ok (.value v) w) /\ K (a.put o.dst v)) (hg : Region.wanted o (yielded ops a.tmps) = true := by with_unfolding_all rfl) : wpQuiet P ops C Q (o :: rest) a := wq_k hg h
theorem wq_ck {Q : Act -> Prop} {a : Act} {o : Oper} {rest : List Oper} (hg : Region.wanted o (yielded ops a.tmps) = true)
  (h : ∀ K : FuncId -> Array Value -> Prop, (∀ f args, (∃ v, (∀ w, C w -> Calls P f args w fun e w' => e = .returned v /\ C w') /\ wpQuiet P ops C Q rest (a.put o.dst v)) -> K f args) -> ∃ f args, (∀ w, (execOp a.eval o).run P w = .ok (.enter f args) w) /\ K f args) : wpQuiet P ops C Q (o :: rest) a := by
 obtain ⟨f, args, hv, v, hc, hk⟩ := h _ (fun _ _ h => h)
 exact wq_callG hg (fun w _ => hv w) hc hk
theorem wq_skip {Q : Act -> Prop} {a : Act} {o : Oper} {rest : List Oper} (hg : Region.wanted o (yielded ops a.tmps) = false)
  (h : wpQuiet P ops C Q rest (a.put o.dst undef)) : wpQuiet P ops C Q (o :: rest) a := by
 unfold wpQuiet
 rw [if_neg (by simp [hg])]
 exact h
end

section
variable {P : Program}
end

section
variable {P : Program}
theorem wl_val {ops : Array Oper} {rest : List Oper} {o : Oper} {a : Act} {w : World} {Q : Exit -> Act -> World -> Prop} {v : Value} (hg : o.guard = none) (hv : (execOp a.eval o).run P w = .ok (.value v) w)
  (h : wpList P ops Q rest (a.put o.dst v) w) : wpList P ops Q (o :: rest) a w :=
 wpList_plain hg fun K hK => by unfold Oper.wp; rw [hv]; exact hK _ _ h
end

section
variable {P : Program}
theorem wp_region_below {id : Nat} {Q : Exit -> Act -> World -> Prop} {a : Act} {w : World} {l : List Oper} (n : Nat) (hm : P.follows .mixedOrders = true) (hB : Region.lexTailB .any l.toArray n = true)
  (h : wpQuiet P l.toArray (fun w' => Below w.heap.size w w') (fun a' => ∀ w', Below w.heap.size w w' -> wpList P l.toArray Q (l.drop n) a' w') (l.take n) a) : (Code.region id l.toArray true).wp P Q a w :=
 wp_region_tail (fun w' => Below w.heap.size w w') n hm hB ((Below.refl _ w).drew) h
theorem wp_region_belowAll {id : Nat} {Q : Exit -> Act -> World -> Prop} {a : Act} {w : World} {l : List Oper} (hm : P.follows .mixedOrders = true) (hB : Region.lexB .any l.toArray = true)
  (h : wpQuiet P l.toArray (fun w' => Below w.heap.size w w') (fun a' => ∀ w', Below w.heap.size w w' -> Q .normal a' w') l a) : (Code.region id l.toArray true).wp P Q a w :=
 wp_region_class (fun w' => Below w.heap.size w w') hm hB ((Below.refl _ w).drew) h
theorem put_lit (l : List Value) (df : List Deferred) (d : Nat) (v : Value) : (Act.mk l.toArray df).put (some d) v = Act.mk (l.set d v).toArray df := by simp [Act.put]
theorem Zi {p : Prop} (h : p) : Hid p := Lib.hid h
theorem Zp (l : List Value) (df : List Deferred) (d : Nat) (v : Value) : (Act.mk l.toArray df).put (some d) v = Act.mk (l.set d v).toArray df := put_lit l df d v
theorem Zz {α : Type} {x a : α} {xs : List α} : (x :: xs).set 0 a = a :: xs := rfl
theorem Zs {α : Type} {x a : α} {xs : List α} {n : Nat} : (x :: xs).set (n + 1) a = x :: xs.set n a := rfl
theorem Za {α : Type} {xs : List α} {i : Nat} (h : i < xs.toArray.size) : xs.toArray[i] = xs[i]'(by simpa using h) := List.getElem_toArray h
theorem Zb {α : Type} {a : α} {l : List α} {i : Nat} (h : i + 1 < (a :: l).length) : (a :: l)[i + 1] = l[i]'(Nat.lt_of_succ_lt_succ h) := rfl
theorem Zc {α : Type} {a : α} {l : List α} (h : 0 < (a :: l).length) : (a :: l)[0] = a := rfl
theorem Zq : (∀ (l : List Value) (df : List Deferred) (d : Nat) (v : Value), (Act.mk l.toArray df).put (some d) v = Act.mk (l.set d v).toArray df) /\ (∀ {α : Type} {x a : α} {xs : List α}, (x :: xs).set 0 a = a :: xs) /\ (∀ {α : Type} {x a : α} {xs : List α} {n : Nat}, (x :: xs).set (n + 1) a = x :: xs.set n a) := ⟨Zp, Zz, Zs⟩
theorem Zy : (∀ {α : Type} {xs : List α} {i : Nat} (h : i < xs.toArray.size), xs.toArray[i] = xs[i]'(by simpa using h)) /\ (∀ {α : Type} {a : α} {l : List α} {i : Nat} (h : i + 1 < (a :: l).length), (a :: l)[i + 1] = l[i]'(Nat.lt_of_succ_lt_succ h)) /\ (∀ {α : Type} {a : α} {l : List α} (h : 0 < (a :: l).length), (a :: l)[0] = a) /\ (∀ (l : List Value) (df : List Deferred) (d : Nat) (v : Value), (Act.mk l.toArray df).put (some d) v = Act.mk (l.set d v).toArray df) /\ (∀ {α : Type} {x a : α} {xs : List α}, (x :: xs).set 0 a = a :: xs) /\ (∀ {α : Type} {x a : α} {xs : List α} {n : Nat}, (x :: xs).set (n + 1) a = x :: xs.set n a) := ⟨Za, Zb, Zc, Zp, Zz, Zs⟩
theorem Zh {A B C D : Type} {p : A -> B -> C -> D -> Prop} (v : A) (c : B) (a : C) (w : D) (h : p v c a w) : p v c a w := h
theorem Zg {B C D : Type} {p : B -> C -> D -> Prop} (c : B) (a : C) (w : D) (h : p c a w) : p c a w := h
theorem below_look {W w' : World} (h : Below W.heap.size W w') {g : Nat} {o : Obj} (ho : W.heap[g]? = some o) : w'.heap[g]? = some o := below_cells h (heap_lt ho) ho
theorem calls_class {f : FuncId} {args : Array Value} {W w : World} {v : Value} (hw : Below W.heap.size W w) (h : Calls P f args w fun e w' => e = .returned v /\ Below w.heap.size w w') :
  Calls P f args w fun e w' => e = .returned v /\ Below W.heap.size W w' := h.mono fun _ _ ⟨he, hb⟩ => ⟨he, hw.trans (hb.mono hw.size)⟩
end

end Go.Proofs.Ytpamocglecangaa.Nm
namespace Go.Proofs.Ytpamocglecangaa
open Go.RowKit Go.Proofs.Ytpamocglecangaa.Nm

theorem mixed : Try.prog.follows .mixedOrders = true := by kernel_rfl
theorem ex_build {ev : Operand -> Value} {o : Oper} {w : World} (t : TypeId) (parts : Array (Nat × Operand)) (ho : o.op = .build t parts) {D : Array Value} {L : List (Nat × Value)}
  (hL : parts.toList.map (fun ix => (ix.1, ev ix.2)) = L) (hb : Try.prog.built t L = some D) : (execOp ev o).run Try.prog w = .ok (.value (.agg D)) w := by
 unfold execOp
 have := run_build (P := Try.prog) w t (parts.map fun (i, x) => (i, ev x)) D (by rw [Array.toList_map]; exact (congrArg _ hL).trans hb)
 simp only [ho, Sem.run_bind, this, Result.andThen_ok]
 rfl

@[irreducible] def RowAt (w : World) (ty : TypeId) (ad : Addr) (D : Array Value) : Prop := (loadVar ty ad).run Try.prog w = .ok (.agg D) w
@[irreducible] def OneAt (w : World) (ty : TypeId) (ad : Addr) (v : Value) : Prop := (loadVar ty ad).run Try.prog w = .ok v w
theorem ex_row {ev : Operand -> Value} {dst : Option Tmp} {ty ty' : TypeId} {x : Operand} {pos : String} {after : Array Edge} {g : Option (Nat × Bool)} {w : World} {ad : Addr} {D : Array Value} (hx : ev x = .pointer (some ad)) (hr : RowAt w ty ad D) :
  (execOp ev ⟨dst, .load ty x, ty', pos, after, g⟩).run Try.prog w = .ok (.value (.agg D)) w := by
 unfold execOp
 simp only [hx, Instr.loadAt, Instr.sureAddr, Sem.run_bind, Sem.run_pure, Result.andThen_ok]
 unfold RowAt at hr
 rw [hr]
 rfl
theorem ex_one {ev : Operand -> Value} {dst : Option Tmp} {ty ty' : TypeId} {x : Operand} {pos : String} {after : Array Edge} {g : Option (Nat × Bool)} {w : World} {ad : Addr} {v : Value} (hx : ev x = .pointer (some ad)) (hr : OneAt w ty ad v) :
  (execOp ev ⟨dst, .load ty x, ty', pos, after, g⟩).run Try.prog w = .ok (.value v) w := by
 unfold execOp
 simp only [hx, Instr.loadAt, Instr.sureAddr, Sem.run_bind, Sem.run_pure, Result.andThen_ok]
 unfold OneAt at hr
 rw [hr]
 rfl
section
variable {ops : Array Oper} {rest : List Oper} {dst : Option Tmp} {ty ty' : TypeId} {x : Operand} {pos : String} {after : Array Edge} {g : Option (Nat × Bool)} {a : Act} {w : World} {Q : Exit -> Act -> World -> Prop} {q : Act -> Prop} {C : World -> Prop} {ad : Addr} {D : Array Value} {v : Value}
theorem wq_row (hg : Region.wanted ⟨dst, .load ty x, ty', pos, after, g⟩ (yielded ops a.tmps) = true) (hx : a.eval x = .pointer (some ad)) (hr : ∀ w', C w' -> RowAt w' ty ad D) (h : wpQuiet Try.prog ops C q rest (a.put dst (.agg D))) : wpQuiet Try.prog ops C q (⟨dst, .load ty x, ty', pos, after, g⟩ :: rest) a := wq_valG hg (fun w' hw' => ex_row hx (hr w' hw')) h
theorem wq_one (hg : Region.wanted ⟨dst, .load ty x, ty', pos, after, g⟩ (yielded ops a.tmps) = true) (hx : a.eval x = .pointer (some ad)) (hr : ∀ w', C w' -> OneAt w' ty ad v) (h : wpQuiet Try.prog ops C q rest (a.put dst v)) : wpQuiet Try.prog ops C q (⟨dst, .load ty x, ty', pos, after, g⟩ :: rest) a := wq_valG hg (fun w' hw' => ex_one hx (hr w' hw')) h
theorem Zv (hx : a.eval x = .pointer (some ad)) (hr : ∀ w', C w' -> OneAt w' ty ad v) (h : wpQuiet Try.prog ops C q rest (a.put dst v)) (hg : Region.wanted ⟨dst, .load ty x, ty', pos, after, g⟩ (yielded ops a.tmps) = true := by with_unfolding_all rfl) : wpQuiet Try.prog ops C q (⟨dst, .load ty x, ty', pos, after, g⟩ :: rest) a := wq_one hg hx hr h
end
theorem row_mid {w : World} {ty : TypeId} {b off n : Nat} {Cs : Array Value} {t : TypeId} {fr : Nat × Nat} (hb : w.heap[b]? = some (.cells Cs t fr)) {D : Array Value} (hD : Cs.extract off (off + n) = D) {d : TypeDesc}
  (hu : Try.prog.underlying ty = some d) (hd : d.isRow = true) (hn : D.size = n) (hi : (Try.prog.info? ty).map (·.size) = some n) : RowAt w ty ⟨b, off, none⟩ D := by
 have h := World.rangeAt_of_block hb off n
 rw [hD] at h
 have := run_loadVar_mid (P := Try.prog) w b off ty D.toList d h hu hd (by rw [hi]; simp [hn])
 unfold RowAt
 rw [this]
open Go.RowKit Go.Proofs.Ytpamocglecangaa.Nm

namespace Nm
end Nm

theorem one_of {w : World} {ty : TypeId} {ad : Addr} {v : Value} {d : TypeDesc} (hu : Try.prog.underlying ty = some d) (hd : d.isRow = false) (hc : w.cell? ad = some v) : OneAt w ty ad v := by
 have hagg : (isAgg ty).run Try.prog w = .ok false w := by
  unfold isAgg
  rw [Sem.run_bind, run_underlying hu w]
  cases d <;> simp_all
 unfold OneAt
 simp [loadVar, hagg, load, Sem.run, hc]
theorem u3 : Try.prog.underlying 3 = some (.int .i64) := by kernel_rfl
section
variable {ops : Array Oper} {rest : List Oper} {dst : Option Tmp} {ty ty' : TypeId} {x ix : Operand} {pos : String} {after : Array Edge} {a : Act} {w : World} {Q : Exit -> Act -> World -> Prop}
end
open Go.RowKit Go.Proofs.Ytpamocglecangaa.Nm

section
variable {P : Program} {ops : Array Oper} {rest : List Oper} {dst : Option Tmp} {ty ty' : TypeId} {x y : Operand} {pos : String} {after : Array Edge} {g : Option (Nat × Bool)} {a : Act} {w : World} {Q : Exit -> Act -> World -> Prop} {q : Act -> Prop} {C : World -> Prop} {ad : Addr} {D : Array Value} {v : Value} {o : Oper}

theorem wl_k (hg : Region.wanted o (yielded ops a.tmps) = true)
  (h : ∀ K : Act -> Prop, (∀ a', wpList P ops Q rest a' w -> K a') -> ∃ v, (execOp a.eval o).run P w = .ok (.value v) w /\ K (a.put o.dst v)) : wpList P ops Q (o :: rest) a w := by
 obtain ⟨v, hv, hk⟩ := h _ (fun _ h => h)
 refine wpList_step fun K hK => ?_
 rw [if_pos hg]
 unfold Oper.wp; rw [hv]; exact hK _ _ hk
theorem Zm {b : Act} (h : wpList P ops Q rest b w) (hg : Region.wanted o (yielded ops a.tmps) = true := by with_unfolding_all rfl) (e : ∀ K : Act -> Prop, K b -> ∃ v, (execOp a.eval o).run P w = .ok (.value v) w /\ K (a.put o.dst v) := by intro K hK; go_simp; exact hK) : wpList P ops Q (o :: rest) a w := by
 obtain ⟨v, e1, e2⟩ := e (fun b => wpList P ops Q rest b w) h
 exact wl_k hg fun K hK => ⟨v, e1, hK _ e2⟩
theorem Zl {l : List Oper} {n : Nat} {b : Act} {v : World} (e : wpList P l.toArray Q l b v) : (Code.region n l.toArray false).wp P Q b v := wp_region_lit e
theorem Zk (h : ∀ K : Act -> Prop, (∀ a', wpList P ops Q rest a' w -> K a') -> ∃ v, (execOp a.eval o).run P w = .ok (.value v) w /\ K (a.put o.dst v)) (hg : Region.wanted o (yielded ops a.tmps) = true := by with_unfolding_all rfl) : wpList P ops Q (o :: rest) a w := wl_k hg h
theorem wl_skip (hg : Region.wanted o (yielded ops a.tmps) = false) (h : wpList P ops Q rest (a.put o.dst undef) w) : wpList P ops Q (o :: rest) a w := by
 refine wpList_step fun K hK => ?_
 rw [if_neg (by simp [hg])]
 exact hK _ _ h
theorem wl_ck (hg : Region.wanted o (yielded ops a.tmps) = true)
  (h : ∀ K : FuncId -> Array Value -> Prop, (∀ f args, (∃ R, Calls P f args w R /\ ∀ e w1, R e w1 -> ∃ v, e = .returned v /\ wpList P ops Q rest (a.put o.dst v) w1) -> K f args) -> ∃ f args, (execOp a.eval o).run P w = .ok (.enter f args) w /\ K f args) : wpList P ops Q (o :: rest) a w := by
 obtain ⟨f, args, hv, R, hc, hk⟩ := h _ (fun _ _ h => h)
 refine wpList_step fun K hK => ?_
 rw [if_pos hg]
 unfold Oper.wp; rw [hv]
 refine hc.mono fun e w1 hr => ?_
 obtain ⟨v, rfl, h2⟩ := hk e w1 hr
 exact hK _ _ h2
theorem Zn {F : Ending -> World -> Prop} {f : FuncId} {xs : Array Value} (hc : Calls P f xs w F) (hF : ∀ e u, F e u -> ∃ v, e = .returned v /\ wpList P ops Q rest (a.put o.dst v) u) (hg : Region.wanted o (yielded ops a.tmps) = true := by with_unfolding_all rfl) (e : ∀ K : FuncId -> Array Value -> Prop, K f xs -> ∃ g bs, (execOp a.eval o).run P w = .ok (.enter g bs) w /\ K g bs := by intro K hK; go_simp; exact ⟨_, _, ⟨rfl, rfl⟩, hK⟩) : wpList P ops Q (o :: rest) a w := by
 obtain ⟨g, bs, e1, e2⟩ := e (fun g bs => Calls P g bs w F) hc
 exact wl_ck hg fun K hK => ⟨g, bs, e1, hK _ _ ⟨F, e2, hF⟩⟩

theorem wl_rowG (hg : Region.wanted ⟨dst, .load ty x, ty', pos, after, g⟩ (yielded ops a.tmps) = true) (hx : a.eval x = .pointer (some ad)) (hr : RowAt w ty ad D) (h : wpList Try.prog ops Q rest (a.put dst (.agg D)) w) : wpList Try.prog ops Q (⟨dst, .load ty x, ty', pos, after, g⟩ :: rest) a w := by
 refine wpList_step fun K hK => ?_
 rw [if_pos hg]
 unfold Oper.wp; rw [ex_row hx hr]; exact hK _ _ h
theorem wl_oneG (hg : Region.wanted ⟨dst, .load ty x, ty', pos, after, g⟩ (yielded ops a.tmps) = true) (hx : a.eval x = .pointer (some ad)) (hr : OneAt w ty ad v) (h : wpList Try.prog ops Q rest (a.put dst v) w) : wpList Try.prog ops Q (⟨dst, .load ty x, ty', pos, after, g⟩ :: rest) a w := by
 refine wpList_step fun K hK => ?_
 rw [if_pos hg]
 unfold Oper.wp; rw [ex_one hx hr]; exact hK _ _ h
theorem Zo (hx : a.eval x = .pointer (some ad)) (hr : OneAt w ty ad v) (h : wpList Try.prog ops Q rest (a.put dst v) w) (hg : Region.wanted ⟨dst, .load ty x, ty', pos, after, g⟩ (yielded ops a.tmps) = true := by with_unfolding_all rfl) : wpList Try.prog ops Q (⟨dst, .load ty x, ty', pos, after, g⟩ :: rest) a w := wl_oneG hg hx hr h
theorem Zw (hx : a.eval x = .pointer (some ad)) (hr : RowAt w ty ad D) (h : wpList Try.prog ops Q rest (a.put dst (.agg D)) w) (hg : Region.wanted ⟨dst, .load ty x, ty', pos, after, g⟩ (yielded ops a.tmps) = true := by with_unfolding_all rfl) : wpList Try.prog ops Q (⟨dst, .load ty x, ty', pos, after, g⟩ :: rest) a w := wl_rowG hg hx hr h

end

end Go.Proofs.Ytpamocglecangaa
namespace Go.Proofs.Ytpamocglecangaa.Nm
open Go.RowKit

structure Kept (D : List Nat) (W w' : World) : Prop where
 size : W.heap.size <= w'.heap.size
 block : ∀ k, k < W.heap.size -> k ∉ D -> w'.heap[k]? = W.heap[k]?
 os : w'.os = W.os
 tape : w'.tape = W.tape
 output : w'.output = W.output
theorem Kept.drew (D : List Nat) (W : World) : Kept D W W.drew :=
 have hb := (Below.refl W.heap.size W).drew
 ⟨Nat.le_refl _, fun _ _ _ => rfl, hb.os, hb.tape, hb.output⟩
theorem Kept.below {D : List Nat} {W w w' : World} (h : Kept D W w) (hb : Below w.heap.size w w') : Kept D W w' :=
 ⟨Nat.le_trans h.1 hb.size, fun k hk hp => by rw [hb.block k (by have := h.1; omega)]; exact h.2 k hk hp, hb.os.trans h.os, hb.tape.trans h.tape, hb.output.trans h.output⟩
theorem Kept.setRow {D : List Nat} {p : Nat} {W w : World} (h : Kept D W w) (hm : p ∈ D) (cs : Array Value) : Kept D W (w.setRow p cs) :=
 ⟨by simpa using h.1, fun k hk hp => by rw [setRow_other w p k cs (fun e => hp (e ▸ hm))]; exact h.2 k hk hp, by simpa using h.os, by simpa using h.tape, by simpa using h.output⟩
theorem Kept.setCell {D : List Nat} {p : Nat} {W w : World} (h : Kept D W w) (hm : p ∈ D) (i : Nat) (v : Value) : Kept D W (w.setCell ⟨p, i, none⟩ v) :=
 ⟨by simpa using h.1, fun k hk hp => by rw [heap_setCell_other _ _ _ _ (fun e => hp (by simp at e; exact e ▸ hm))]; exact h.2 k hk hp, ((Below.refl 0 w).setCell (p := ⟨p, i, none⟩) (Nat.zero_le _) v).os.trans h.os, ((Below.refl 0 w).setCell (p := ⟨p, i, none⟩) (Nat.zero_le _) v).tape.trans h.tape, ((Below.refl 0 w).setCell (p := ⟨p, i, none⟩) (Nat.zero_le _) v).output.trans h.output⟩
theorem Kept.look {D : List Nat} {W w' : World} (h : Kept D W w') {g : Nat} {o : Obj} (ho : W.heap[g]? = some o) (hp : g ∉ D) : w'.heap[g]? = some o := by rw [h.2 g (heap_lt ho) hp]; exact ho
theorem Kept.cell {D : List Nat} {W w' : World} (h : Kept D W w') {g i : Nat} {v : Value} (hc : W.cell? ⟨g, i, none⟩ = some v) (hp : g ∉ D) : w'.cell? ⟨g, i, none⟩ = some v := by
 have hg : g < W.heap.size := block_lt_of_cell hc
 rw [<- hc]
 exact World.cell?_of_block (h.2 g hg hp)

section
variable {P : Program} {ops : Array Oper} {Q : Exit -> Act -> World -> Prop} {md : Region.Mode} {S : World -> Prop} {i : Nat} {oi : Oper} {fuel : Nat} {listed : Array Bool} {a : Act} {w : World}

end
end Go.Proofs.Ytpamocglecangaa.Nm
namespace Go.Proofs.Ytpamocglecangaa.Nm
open Go.RowKit
section
variable {P : Program} {ops : Array Oper} {Q : Exit -> Act -> World -> Prop} {md : Region.Mode} {D : List Nat} {W : World} {i : Nat} {oi : Oper} {fuel : Nat} {listed : Array Bool} {a : Act} {w : World} {z : Array Value} {ty : TypeId}
end
end Go.Proofs.Ytpamocglecangaa.Nm
namespace Go.Proofs.Ytpamocglecangaa.Nm
open Go.RowKit
section
variable {P : Program} {ops : Array Oper} {Q : Exit -> Act -> World -> Prop} {md : Region.Mode} {S : World -> Prop} {i : Nat} {fuel : Nat} {listed : Array Bool} {a : Act} {w : World}
end
end Go.Proofs.Ytpamocglecangaa.Nm

namespace Go.Proofs.Ytpamocglecangaa
open Go.RowKit Go.Proofs.Ytpamocglecangaa.Nm
theorem wl_w {P : Program} {ops : Array Oper} {rest : List Oper} {o : Oper} {a : Act} {w w2 : World} {Q : Exit -> Act -> World -> Prop} {v : Value} (hg : o.guard = none) (hx : (execOp a.eval o).run P w = .ok (.value v) w2)
  (h : wpList P ops Q rest (a.put o.dst v) w2) : wpList P ops Q (o :: rest) a w := by
 refine wpList_plain hg fun K hK => ?_
 unfold Oper.wp; rw [hx]; exact hK _ _ h
theorem run_storeC (b o : Nat) (ty : TypeId) (v : Value) (w : World) (hi : (Try.prog.info? ty).map (·.size) = some 1) (h1 : v.oneCell' = true) (hc : (w.cell? ⟨b, o, none⟩).isSome = true) (hf : w.frozen? ⟨b, o, none⟩ = false) :
  (storeVar ty ⟨b, o, none⟩ v).run Try.prog w = .ok () (w.setCell ⟨b, o, none⟩ v) := by
 have hst := run_storeCells_cells (P := Try.prog) b o [v] 0 w (by intro j hj; simp at hj; subst hj; simpa using hc) (by intro j hj; simp at hj; subst hj; simpa using hf) (by intro u hu; simp at hu; subst hu; exact h1)
 have hcl : v.cells = #[v] := by cases v <;> first | rfl | cases h1
 cases hq : Try.prog.info? ty with
 | none => simp [hq] at hi
 | some i =>
  have hs : i.size = 1 := by simpa [hq] using hi
  simp [storeVar, sizeOf, typeInfo, hq, hcl, hs]
  exact (by simpa using hst : _ = Result.ok () (w.setCells b o [v]))
theorem wp_storeC {op : Oper} {a : Act} {w : World} {K : Act -> World -> Prop} {Q : Exit -> Act -> World -> Prop} (ty : TypeId) (x y : Operand) (ho : op.op = .store ty x y) (b o : Nat) (v : Value)
  (hx : a.eval x = .pointer (some ⟨b, o, none⟩)) (hy : a.eval y = v) (hi : (Try.prog.info? ty).map (·.size) = some 1) (h1 : v.oneCell' = true) (hc : (w.cell? ⟨b, o, none⟩).isSome = true) (hf : w.frozen? ⟨b, o, none⟩ = false)
  (h : K (a.put op.dst undef) (w.setCell ⟨b, o, none⟩ v)) : op.wp Try.prog a w K Q := by
 unfold Oper.wp execOp
 simp only [ho, hx, hy, Instr.storeAt, Instr.sureAddr, Sem.run_bind, Sem.run_pure, Result.andThen_ok, run_storeC b o ty v w hi h1 hc hf]
 exact h
theorem wl_storeC {ops : Array Oper} {rest : List Oper} {op : Oper} {a : Act} {w : World} {Q : Exit -> Act -> World -> Prop} (hg : op.guard = none) (ty : TypeId) (x y : Operand) (ho : op.op = .store ty x y) (b o : Nat) (v : Value)
  (hx : a.eval x = .pointer (some ⟨b, o, none⟩)) (hy : a.eval y = v) (hi : (Try.prog.info? ty).map (·.size) = some 1) (h1 : v.oneCell' = true) (hc : (w.cell? ⟨b, o, none⟩).isSome = true) (hf : w.frozen? ⟨b, o, none⟩ = false)
  (h : wpList Try.prog ops Q rest (a.put op.dst undef) (w.setCell ⟨b, o, none⟩ v)) : wpList Try.prog ops Q (op :: rest) a w :=
 wpList_plain hg fun _ hK => wp_storeC ty x y ho b o v hx hy hi h1 hc hf (hK _ _ h)
section
variable {md : Region.Mode} {ops : Array Oper} {Q : Exit -> Act -> World -> Prop} {S : World -> Prop} {fuel : Nat} {listed : Array Bool} {a : Act} {w : World} {i : Nat} {oi : Oper}
end
theorem put_noneA (a : Act) (v : Value) : a.put none v = a := rfl
open Go.ChangeShapes Go.WideShapes Go.ChangeAt Go.RowKit
structure TyNums (P : Program) (T L S I : TypeId) : Prop where
 uT : P.underlying T = some (.struct (P.fieldsOf T))
 fl : (P.fieldsOf T).toList.map (fun f => (f.type, f.offset)) = [(I, 0), (S, 1), (I, 2), (L, 3)]
 uL : P.underlying L = some (.slice T)
 uS : P.underlying S = some .string
 uI : P.underlying I = some (.int .i64)
 cT : P.cellsOf T = 4
 cL : P.cellsOf L = 1
 cS : P.cellsOf S = 1
 cI : P.cellsOf I = 1
inductive Ty where
 | node (kind : Int) (name : ByteArray) (n : Int) (args : List Ty) : Ty
def cell4 (k : Int) (s : ByteArray) (n : Int) (A : Option Addr) (l c : Nat) : Array Value := #[.int .i64 k, .string s, .int .i64 n, .slice A l c]
def Four (w : World) (D : Nat -> Prop) (A : Option Addr) (i : Nat) (row : Array Value) : Prop :=
 ∃ (b off : Nat) (Cs : Array Value) (t : TypeId) (fr : Nat × Nat), A = some ⟨b, off, none⟩ /\ D b /\ w.heap[b]? = some (.cells Cs t fr) /\ Cs.extract (off + i * 4) (off + i * 4 + 4) = row
inductive TyAt (w : World) (D : Nat -> Prop) : Ty -> Array Value -> Prop where
 | mk {k : Int} {s : ByteArray} {n : Int} {A : Option Addr} {len cap : Nat} {args : List Ty} (rows : Nat -> Array Value)
   (hk : (Lit.int .i64 k).wf = true) (hn : (Lit.int .i64 n).wf = true) (hs : s.size <= maxLen) (hl : args.length = len) (hc : len <= cap) (hm : cap <= maxLen)
   (hf : ∀ i t, args[i]? = some t -> Four w D A i (rows i)) (ht : ∀ i t, args[i]? = some t -> TyAt w D t (rows i)) : TyAt w D (.node k s n args) (cell4 k s n A len cap)
theorem Four.mono {w w' : World} {D D' : Nat -> Prop} {A : Option Addr} {i : Nat} {row : Array Value} (h : Four w D A i row) (hD : ∀ b, D b -> D' b) (hw : ∀ b, D b -> w'.heap[b]? = w.heap[b]?) : Four w' D' A i row := by
 obtain ⟨b, off, Cs, t, fr, h1, h2, h3, h4⟩ := h
 exact ⟨b, off, Cs, t, fr, h1, hD b h2, by rw [hw b h2, h3], h4⟩
theorem TyAt.mono {w w' : World} {D D' : Nat -> Prop} {t : Ty} {row : Array Value} (h : TyAt w D t row) (hD : ∀ b, D b -> D' b) (hw : ∀ b, D b -> w'.heap[b]? = w.heap[b]?) : TyAt w' D' t row := by
 induction h with
 | mk rows hk hn hs hl hc hm hf _ ih => exact .mk rows hk hn hs hl hc hm (fun i t hi => (hf i t hi).mono hD hw) ih
theorem TyAt.size {w : World} {D : Nat -> Prop} {t : Ty} {row : Array Value} (h : TyAt w D t row) : row.size = 4 := by
 cases h; rfl
theorem four_fields {fs : Array Field} {a b c d : Nat × Nat} (h : fs.toList.map (fun f => (f.type, f.offset)) = [a, b, c, d]) : ∃ f0 f1 f2 f3, fs = #[f0, f1, f2, f3] /\ (f0.type, f0.offset) = a /\ (f1.type, f1.offset) = b /\ (f2.type, f2.offset) = c /\ (f3.type, f3.offset) = d := by
 obtain ⟨l⟩ := fs
 match l, h with
 | [f0, f1, f2, f3], h => simp at h; exact ⟨f0, f1, f2, f3, rfl, by simp [h.1], by simp [h.2.1], by simp [h.2.2.1], by simp [h.2.2.2]⟩
theorem choose_list {α : Type} {Q : Nat -> α -> Prop} : ∀ (n : Nat), (∀ i, i < n -> ∃ x, Q i x) -> ∃ l : List α, l.length = n /\ ∀ (i : Nat) (x : α), l[i]? = some x -> Q i x
 | 0, _ => ⟨[], rfl, fun i x h => by simp at h⟩
 | n + 1, h => by
  obtain ⟨l, h1, h2⟩ := choose_list n (fun i hi => h i (by omega))
  obtain ⟨x, hx⟩ := h n (by omega)
  refine ⟨l ++ [x], by simp [h1], fun i y hy => ?_⟩
  by_cases e : i < n
  ·rw [List.getElem?_append_left (by omega)] at hy; exact h2 i y hy
  ·rw [List.getElem?_append_right (by omega)] at hy
   have hm := List.mem_of_getElem? hy
   simp at hm; subst hm
   have hl := (List.getElem?_eq_some_iff.1 hy).1
   simp at hl
   obtain rfl : i = n := by omega
   exact hx
section
variable {P : Program} {T L S I : TypeId} {H : Type} {enc : TypeId × Value -> H} {w : World} {base : Nat} {sp : Nat -> Bool} {held : Bool}
end
end Go.Proofs.Ytpamocglecangaa
namespace Go.Proofs.Ytpamocglecangaa
def Ty.kind : Ty -> Int | .node k _ _ _ => k
def Ty.name : Ty -> ByteArray | .node _ s _ _ => s
def Ty.num : Ty -> Int | .node _ _ n _ => n
def Ty.args : Ty -> List Ty | .node _ _ _ l => l
theorem Ty.ind {Q : Ty -> Prop} (h : ∀ k s n l, (∀ t, t ∈ l -> Q t) -> Q (.node k s n l)) : ∀ t, Q t := fun t => by
 induction t using Ty.rec (motive_2 := fun l => ∀ t, t ∈ l -> Q t) with
 | node k s n l ih => exact h k s n l ih
 | nil => rename_i ht; cases ht
 | cons a l ha hl =>
  rename_i t ht
  rcases List.mem_cons.1 ht with rfl | ht
  ·exact ha
  ·exact hl t ht
mutual
def repl (f : Ty -> Option Ty) : Ty -> Ty
 | .node k s n l => match f (.node k s n l) with | some u => u | none => .node k s n (repls f l)
def repls (f : Ty -> Option Ty) : List Ty -> List Ty
 | [] => []
 | t :: l => repl f t :: repls f l
end
mutual
def Ty.nodes : Ty -> Nat
 | .node _ _ _ l => 1 + nodesL l
def nodesL : List Ty -> Nat
 | [] => 0
 | t :: l => Ty.nodes t + nodesL l
end
mutual
def Ty.pars : Ty -> List ByteArray
 | .node k s _ l => (if k = 7 then [s] else []) ++ parsL l
def parsL : List Ty -> List ByteArray
 | [] => []
 | t :: l => Ty.pars t ++ parsL l
end
def idx (names : List ByteArray) (s : ByteArray) : Option Nat := names.findIdx? fun x => decide (x = s)
end Go.Proofs.Ytpamocglecangaa
namespace Go.Proofs.Ytpamocglecangaa
def cB (x y : ByteArray) : Ordering := if x.data.toList < y.data.toList then .lt else if y.data.toList < x.data.toList then .gt else .eq
def cI (a b : Int) : Ordering := if a < b then .lt else if b < a then .gt else .eq
mutual
def cmpTy : Ty -> Ty -> Ordering
 | .node k s n l, .node k' s' n' l' => (cI k k').then ((cB s s').then ((cI n n').then (cmpTys l l')))
def cmpTys : List Ty -> List Ty -> Ordering
 | [], [] => .eq
 | [], _ :: _ => .lt
 | _ :: _, [] => .gt
 | a :: l, b :: m => (cmpTy a b).then (cmpTys l m)
end
theorem then_eq {a b : Ordering} : a.then b = .eq ↔ a = .eq /\ b = .eq := by cases a <;> simp [Ordering.then]
structure Fine {α : Type} (c : α -> α -> Ordering) (x : α) : Prop where
 sw : ∀ y, c y x = (c x y).swap
 eq : ∀ y, c x y = .eq ↔ x = y
 tr : ∀ y z, c x y = .lt -> c y z = .lt -> c x z = .lt
theorem cI_fine (x : Int) : Fine cI x where
 sw y := by unfold cI; split <;> split <;> simp_all [Ordering.swap] <;> omega
 eq y := by
  unfold cI
  constructor
  ·intro h
   split at h
   ·cases h
   ·split at h
    ·cases h
    ·omega
  ·rintro rfl
   simp
 tr y z h1 h2 := by
  unfold cI at *
  split at h1
  ·split at h2
   ·rw [if_pos (by omega)]
   ·split at h2 <;> cases h2
  ·split at h1 <;> cases h1
theorem cB_fine (x : ByteArray) : Fine cB x where
 sw y := by
  unfold cB
  by_cases h1 : x.data.toList < y.data.toList
  ·rw [if_pos h1, if_neg (fun h => List.lt_irrefl _ (List.lt_trans h h1)), if_pos h1]; rfl
  ·by_cases h2 : y.data.toList < x.data.toList
   ·rw [if_pos h2, if_neg h1, if_pos h2]; rfl
   ·rw [if_neg h2, if_neg h1, if_neg h1, if_neg h2]; rfl
 eq y := by
  unfold cB
  constructor
  ·intro h
   split at h
   ·cases h
   ·rename_i h1
    split at h
    ·cases h
    ·rename_i h2
     have := List.le_antisymm (List.not_lt.1 h2) (List.not_lt.1 h1)
     cases x with | mk dx => cases y with | mk dy => exact congrArg _ (Array.toList_inj.1 this)
  ·rintro rfl
   simp [List.lt_irrefl]
 tr y z h1 h2 := by
  unfold cB at *
  split at h1
  ·rename_i g1
   split at h2
   ·rename_i g2
    rw [if_pos (List.lt_trans g1 g2)]
   ·split at h2 <;> cases h2
  ·split at h1 <;> cases h1
theorem cmpTys_eq : ∀ (l : List Ty), (∀ t, t ∈ l -> ∀ u, cmpTy t u = .eq ↔ t = u) -> ∀ m, cmpTys l m = .eq ↔ l = m
 | [], _, m => by cases m <;> simp [cmpTys]
 | a :: l, h, m => by
  cases m with
  | nil => simp [cmpTys]
  | cons b m => simp only [cmpTys, then_eq, h a (by simp) b, cmpTys_eq l (fun t ht => h t (by simp [ht])) m, List.cons.injEq]
theorem cmpTy_eq : ∀ t u, cmpTy t u = .eq ↔ t = u := Ty.ind fun k s n l ih u => by
 cases u with
 | node k' s' n' l' => simp only [cmpTy, then_eq, (cI_fine k).eq, (cB_fine s).eq, (cI_fine n).eq, cmpTys_eq l ih, Ty.node.injEq]
end Go.Proofs.Ytpamocglecangaa
namespace Go.Proofs.Ytpamocglecangaa
instance : DecidableEq Ty := fun a b => decidable_of_iff _ (cmpTy_eq a b)
def zeroTy : Ty := .node 0 ByteArray.empty 0 []
def place (names : List ByteArray) (k : Int) (s : ByteArray) : Option Nat := if k = 7 then idx names s else none
mutual
def matchTy (names : List ByteArray) : Ty -> Ty -> List (Option Ty) -> Option (List (Option Ty))
 | .node k s n l, t, out =>
  match place names k s with
  | some i => match out[i]? with
   | some (some u) => if u = t then some out else none
   | _ => some (out.set i (some t))
  | none => if k = t.kind /\ s = t.name /\ n = t.num /\ l.length = t.args.length then matchTys names l t.args out else none
def matchTys (names : List ByteArray) : List Ty -> List Ty -> List (Option Ty) -> Option (List (Option Ty))
 | [], _, out => some out
 | _ :: _, [], _ => none
 | a :: l, b :: m, out => match matchTy names a b out with | some o => matchTys names l m o | none => none
end
def Ext (out out' : List (Option Ty)) : Prop := out'.length = out.length /\ ∀ (j : Nat) (u : Ty), out[j]? = some (some u) -> out'[j]? = some (some u)
theorem Ext.refl (o : List (Option Ty)) : Ext o o := ⟨rfl, fun _ _ h => h⟩
theorem Ext.trans {a b c : List (Option Ty)} (h1 : Ext a b) (h2 : Ext b c) : Ext a c := ⟨h2.1.trans h1.1, fun j u h => h2.2 j u (h1.2 j u h)⟩
mutual
def hasAt (names : List ByteArray) (j : Nat) : Ty -> Bool
 | .node k s _ l => match place names k s with | some i => i == j | none => hasAts names j l
def hasAts (names : List ByteArray) (j : Nat) : List Ty -> Bool
 | [] => false
 | t :: l => hasAt names j t || hasAts names j l
end
end Go.Proofs.Ytpamocglecangaa
namespace Go.Proofs.Ytpamocglecangaa
theorem nodes_pos (t : Ty) : 1 <= t.nodes := by cases t; simp only [Ty.nodes]; omega
def tnLoop (most : Nat) : Nat -> List Ty -> Nat
 | n, [] => n
 | n, t :: l => if n <= most then tnLoop most (n + min t.nodes (most + 1)) l else n
theorem tnLoop_min (most : Nat) : ∀ (l : List Ty) (n : Nat), min (tnLoop most n l) (most + 1) = min (n + nodesL l) (most + 1)
 | [], n => by simp [tnLoop, nodesL]
 | t :: l, n => by
  simp only [tnLoop, nodesL]
  split
  ·rw [tnLoop_min most l]; omega
  ·omega
theorem typeNodes (most : Nat) (k : Int) (s : ByteArray) (n : Int) (l : List Ty) : min (tnLoop most 1 l) (most + 1) = min (Ty.node k s n l).nodes (most + 1) := by
 rw [tnLoop_min]; simp only [Ty.nodes]
mutual
def Ty.all (f : Ty -> Bool) : Ty -> Bool
 | .node k s n l => f (.node k s n l) && alls f l
def alls (f : Ty -> Bool) : List Ty -> Bool
 | [] => true
 | t :: l => t.all f && alls f l
end
mutual
def chk (f : Ty -> Bool) : Ty -> Int -> Bool × Int
 | .node k s n l, left => if 0 <= left - 1 /\ f (.node k s n l) = true then chks f l (left - 1) else (false, left - 1)
def chks (f : Ty -> Bool) : List Ty -> Int -> Bool × Int
 | [], left => (true, left)
 | t :: l, left => match chk f t left with | (true, x) => chks f l x | (false, x) => (false, x)
end
open Go.RowKit Go.Proofs.Ytpamocglecangaa.Nm
set_option linter.unusedSimpArgs false
theorem u24 : Try.prog.underlying 32 = some (.struct (Try.prog.fieldsOf 32)) := by kernel_rfl
theorem u22 : Try.prog.underlying 30 = some (.slice 32) := by kernel_rfl
theorem u9 : Try.prog.underlying 9 = some .string := by kernel_rfl
theorem u25 : Try.prog.underlying 22 = some (.slice 9) := by kernel_rfl
theorem tyNums : TyNums Try.prog 32 30 9 3 := ⟨u24, by kernel_rfl, u22, u9, u3, by kernel_rfl, by kernel_rfl, by kernel_rfl, by kernel_rfl⟩
theorem info24 : (Try.prog.info? 32).map (·.size) = some 4 := by kernel_rfl
theorem info24b : (Try.prog.info? 32).map (fun i => (i.zero, i.size, i.bytes)) = some (some (.agg (cell4 0 ⟨#[]⟩ 0 none 0 0)), 4, 56) := by kernel_rfl
theorem info22 : (Try.prog.info? 30).map (·.size) = some 1 := by kernel_rfl
theorem info3 : (Try.prog.info? 3).map (·.size) = some 1 := by kernel_rfl
theorem cell4_one (k : Int) (s : ByteArray) (n : Int) (A : Option Addr) (l c : Nat) : (cell4 k s n A l c).all (·.oneCell') = true := by simp [cell4, Value.oneCell']
structure TysAt (w : World) (D : Nat -> Prop) (ts : List Ty) (A : Option Addr) (l c : Nat) : Prop where
 len : ts.length = l
 cap : l <= c
 max : c <= maxLen
 el : ∃ rows : Nat -> Array Value, (∀ i t, ts[i]? = some t -> Four w D A i (rows i)) /\ ∀ i t, ts[i]? = some t -> TyAt w D t (rows i)
theorem TyAt.parts {w : World} {D : Nat -> Prop} {t : Ty} {row : Array Value} (h : TyAt w D t row) : ∃ k s n A l c ts, t = .node k s n ts /\ row = cell4 k s n A l c /\ (Lit.int .i64 k).wf = true /\ (Lit.int .i64 n).wf = true /\ s.size <= maxLen /\ TysAt w D ts A l c := by
 cases h with
 | mk rows hk hn hs hl hc hm hf ht => exact ⟨_, _, _, _, _, _, _, rfl, rfl, hk, hn, hs, hl, hc, hm, rows, hf, ht⟩
theorem TyAt.of {w : World} {D : Nat -> Prop} {k : Int} {s : ByteArray} {n : Int} {A : Option Addr} {l c : Nat} {ts : List Ty} (hk : (Lit.int .i64 k).wf = true) (hn : (Lit.int .i64 n).wf = true) (hs : s.size <= maxLen) (h : TysAt w D ts A l c) : TyAt w D (.node k s n ts) (cell4 k s n A l c) := by
 obtain ⟨h1, h2, h3, rows, h4, h5⟩ := h
 exact .mk rows hk hn hs h1 h2 h3 h4 h5
theorem TysAt.nil (w : World) (D : Nat -> Prop) : TysAt w D [] none 0 0 := ⟨rfl, Nat.le_refl _, Nat.zero_le _, fun _ => #[], fun i t h => by simp at h, fun i t h => by simp at h⟩
theorem Four.low {w : World} {D : Nat -> Prop} {A : Option Addr} {i : Nat} {row : Array Value} (h : Four w D A i row) : Four w (fun b => D b /\ b < w.heap.size) A i row := by
 obtain ⟨b, off, Cs, t, fr, h1, h2, h3, h4⟩ := h
 exact ⟨b, off, Cs, t, fr, h1, ⟨h2, heap_lt h3⟩, h3, h4⟩
theorem TyAt.low {w : World} {D : Nat -> Prop} {t : Ty} {row : Array Value} (h : TyAt w D t row) : TyAt w (fun b => D b /\ b < w.heap.size) t row := by
 induction h with
 | mk rows hk hn hs hl hc hm hf _ ih => exact .mk rows hk hn hs hl hc hm (fun i t hi => (hf i t hi).low) ih
theorem TyAt.old {w w' : World} {D : Nat -> Prop} {t : Ty} {row : Array Value} (h : TyAt w D t row) (hb : Below w.heap.size w w') : TyAt w' D t row :=
 (h.low.mono (fun _ h => h) (fun b h => hb.block b h.2)).mono (fun _ h => h.1) (fun _ _ => rfl)
theorem TyAt.weak {w : World} {D D' : Nat -> Prop} {t : Ty} {row : Array Value} (h : TyAt w D t row) (hD : ∀ b, D b -> D' b) : TyAt w D' t row := h.mono hD fun _ _ => rfl
theorem TysAt.mono {w w' : World} {D D' : Nat -> Prop} {ts : List Ty} {A : Option Addr} {l c : Nat} (h : TysAt w D ts A l c) (hD : ∀ b, D b -> D' b) (hw : ∀ b, D b -> w'.heap[b]? = w.heap[b]?) : TysAt w' D' ts A l c := by
 obtain ⟨h1, h2, h3, rows, h4, h5⟩ := h
 exact ⟨h1, h2, h3, rows, fun i t hi => (h4 i t hi).mono hD hw, fun i t hi => (h5 i t hi).mono hD hw⟩
theorem TysAt.old {w w' : World} {D : Nat -> Prop} {ts : List Ty} {A : Option Addr} {l c : Nat} (h : TysAt w D ts A l c) (hb : Below w.heap.size w w') : TysAt w' D ts A l c := by
 obtain ⟨h1, h2, h3, rows, h4, h5⟩ := h
 exact ⟨h1, h2, h3, rows, fun i t hi => ((h4 i t hi).low.mono (fun _ h => h) (fun b h => hb.block b h.2)).mono (fun _ h => h.1) (fun _ _ => rfl), fun i t hi => (h5 i t hi).old hb⟩
theorem TysAt.weak {w : World} {D D' : Nat -> Prop} {ts : List Ty} {A : Option Addr} {l c : Nat} (h : TysAt w D ts A l c) (hD : ∀ b, D b -> D' b) : TysAt w D' ts A l c := h.mono hD fun _ _ => rfl
theorem TysAt.get {w : World} {D : Nat -> Prop} {ts : List Ty} {A : Option Addr} {l c : Nat} (h : TysAt w D ts A l c) {i : Nat} (hi : i < l) :
  ∃ b off t row, A = some ⟨b, off, none⟩ /\ D b /\ ts[i]? = some t /\ RowAt w 32 ⟨b, off + i * 4, none⟩ row /\ TyAt w D t row := by
 obtain ⟨h1, h2, h3, rows, h4, h5⟩ := h
 have ht : ts[i]? = some ts[i] := List.getElem?_eq_getElem (by omega)
 obtain ⟨b, off, Cs, t, fr, e1, e2, e3, e4⟩ := h4 i _ ht
 exact ⟨b, off, _, rows i, e1, e2, ht, row_mid e3 e4 u24 rfl (h5 i _ ht).size info24, h5 i _ ht⟩
theorem TysAt.addr {w : World} {D : Nat -> Prop} {ts : List Ty} {A : Option Addr} {l c : Nat} (h : TysAt w D ts A l c) {i : Nat} (hi : i < l) : ∃ b off, A = some ⟨b, off, none⟩ := by
 obtain ⟨b, off, _, _, e, _⟩ := h.get hi
 exact ⟨b, off, e⟩
theorem TysAt.row {w : World} {D : Nat -> Prop} {ts : List Ty} {b off : Nat} {l c : Nat} (h : TysAt w D ts (some ⟨b, off, none⟩) l c) {i : Nat} {t : Ty} (hi : ts[i]? = some t) : ∃ row, RowAt w 32 ⟨b, off + i * 4, none⟩ row /\ TyAt w D t row := by
 have hl : i < l := by rw [<- h.len]; exact (List.getElem?_eq_some_iff.1 hi).1
 obtain ⟨b', off', t', row, e, _, ht, hr, ha⟩ := h.get hl
 cases e; rw [hi] at ht; cases ht
 exact ⟨row, hr, ha⟩
@[irreducible] def RowK (w : World) (ad : Addr) (row : Array Value) : Prop := ∀ w', Below w.heap.size w w' -> RowAt w' 32 ad row
theorem RowK.at {w w' : World} {ad : Addr} {row : Array Value} (h : RowK w ad row) (hb : Below w.heap.size w w') : RowAt w' 32 ad row := by unfold RowK at h; exact h w' hb
theorem RowK.now {w : World} {ad : Addr} {row : Array Value} (h : RowK w ad row) : RowAt w 32 ad row := h.at (Below.refl _ _)
theorem RowK.old {w w' : World} {ad : Addr} {row : Array Value} (h : RowK w ad row) (hb : Below w.heap.size w w') : RowK w' ad row := by
 unfold RowK at *
 exact fun x hx => h x (hb.trans (hx.mono hb.size))
theorem TysAt.rowK {w : World} {D : Nat -> Prop} {ts : List Ty} {b off : Nat} {l c : Nat} (h : TysAt w D ts (some ⟨b, off, none⟩) l c) {i : Nat} {t : Ty} (hi : ts[i]? = some t) : ∃ row, RowK w ⟨b, off + i * 4, none⟩ row /\ TyAt w D t row := by
 obtain ⟨h1, h2, h3, rows, h4, h5⟩ := h
 obtain ⟨b', off', Cs, t', fr, e1, e2, e3, e4⟩ := h4 i _ hi
 cases e1
 exact ⟨rows i, by unfold RowK; exact fun w' hb => row_mid (below_look hb e3) e4 u24 rfl (h5 i _ hi).size info24, h5 i _ hi⟩
section
variable {w : World} {p : Nat} {k : Int} {s : ByteArray} {n : Int} {A : Option Addr} {l c : Nat} {t : TypeId} {fr : Nat × Nat}
theorem f0 (h : w.heap[p]? = some (.cells (cell4 k s n A l c) t fr)) : OneAt w 3 ⟨p, 0, none⟩ (.int .i64 k) := one_of u3 rfl (by rw [cell_of_row _ _ _ _ _ _ h]; rfl)
theorem f1 (h : w.heap[p]? = some (.cells (cell4 k s n A l c) t fr)) : OneAt w 9 ⟨p, 1, none⟩ (.string s) := one_of u9 rfl (by rw [cell_of_row _ _ _ _ _ _ h]; rfl)
theorem f2 (h : w.heap[p]? = some (.cells (cell4 k s n A l c) t fr)) : OneAt w 3 ⟨p, 2, none⟩ (.int .i64 n) := one_of u3 rfl (by rw [cell_of_row _ _ _ _ _ _ h]; rfl)
theorem f3 (h : w.heap[p]? = some (.cells (cell4 k s n A l c) t fr)) : OneAt w 30 ⟨p, 3, none⟩ (.slice A l c) := one_of u22 rfl (by rw [cell_of_row _ _ _ _ _ _ h]; rfl)
theorem f4 (h : w.heap[p]? = some (.cells (cell4 k s n A l c) t fr)) : RowAt w 32 ⟨p, 0, none⟩ (cell4 k s n A l c) := row_mid (n := 4) h (by rfl) u24 rfl rfl info24
end
theorem run_box24 (k : Int) (s : ByteArray) (n : Int) (A : Option Addr) (l c : Nat) (w : World) : (Instr.box 32 (.agg (cell4 k s n A l c))).run Try.prog w = .ok (.pointer (some ⟨w.heap.size, 0, none⟩)) (w.alloc (.cells (cell4 k s n A l c) 32)) := by kernel_rfl
theorem ex_box24 {ev : Operand -> Value} {o : Oper} {w : World} (x : Operand) (ho : o.op = .box 32 x) {k : Int} {s : ByteArray} {n : Int} {A : Option Addr} {l c : Nat} (hx : ev x = .agg (cell4 k s n A l c)) :
  (execOp ev o).run Try.prog w = .ok (.value (.pointer (some ⟨w.heap.size, 0, none⟩))) (w.alloc (.cells (cell4 k s n A l c) 32)) := by
 unfold execOp
 simp [ho, hx, run_box24 k s n A l c w, Result.andThen]
theorem ex_alloc24 {o : Oper} (ho : o.op = .alloc 32) (ev : Operand -> Value) (w : World) : (execOp ev o).run Try.prog w = .ok (.value (.pointer (some ⟨w.heap.size, 0, none⟩))) (w.alloc (.cells (cell4 0 ⟨#[]⟩ 0 none 0 0) 32)) := by
 unfold execOp
 simp only [ho]
 kernel_rfl
theorem run_bs22 (k : Int) (s : ByteArray) (n : Int) (A : Option Addr) (l c : Nat) (w : World) : (Instr.buildSlice 30 1 #[(0, .agg (cell4 k s n A l c))]).run Try.prog w = .ok (.slice (some ⟨w.heap.size, 0, none⟩) 1 1) (w.alloc (.cells (cell4 k s n A l c) 32)) := by kernel_rfl
theorem ex_bs22 {ev : Operand -> Value} {o : Oper} {w : World} (x : Operand) (ho : o.op = .buildSlice 30 1 #[(0, x)]) {k : Int} {s : ByteArray} {n : Int} {A : Option Addr} {l c : Nat} (hx : ev x = .agg (cell4 k s n A l c)) :
  (execOp ev o).run Try.prog w = .ok (.value (.slice (some ⟨w.heap.size, 0, none⟩) 1 1)) (w.alloc (.cells (cell4 k s n A l c) 32)) := by
 unfold execOp
 have := run_bs22 k s n A l c w
 simp [ho, hx, this, Result.andThen]
section
variable {ops : Array Oper} {rest : List Oper} {dst : Option Tmp} {ty ty' : TypeId} {x y : Operand} {pos : String} {after : Array Edge} {a : Act} {w : World} {Q : Exit -> Act -> World -> Prop}
theorem wl_box {k : Int} {s : ByteArray} {n : Int} {A : Option Addr} {l c : Nat} (hx : a.eval x = .agg (cell4 k s n A l c))
  (h : ∀ W p, Below w.heap.size w W -> w.heap.size <= p -> W.heap[p]? = some (.cells (cell4 k s n A l c) 32 (0, 0)) -> wpList Try.prog ops Q rest (a.put dst (.pointer (some ⟨p, 0, none⟩))) W) :
  wpList Try.prog ops Q (⟨dst, .box 32 x, ty', pos, after, none⟩ :: rest) a w :=
 wl_w rfl (ex_box24 x rfl hx) (h _ _ ((Below.refl _ w).alloc (Nat.le_refl _) _) (Nat.le_refl _) (ha_new rfl))
theorem wl_all (h : ∀ W p, Below w.heap.size w W -> w.heap.size <= p -> W.heap[p]? = some (.cells (cell4 0 ⟨#[]⟩ 0 none 0 0) 32 (0, 0)) -> wpList Try.prog ops Q rest (a.put dst (.pointer (some ⟨p, 0, none⟩))) W) :
  wpList Try.prog ops Q (⟨dst, .alloc 32, ty', pos, after, none⟩ :: rest) a w :=
 wl_w rfl (ex_alloc24 rfl _ w) (h _ _ ((Below.refl _ w).alloc (Nat.le_refl _) _) (Nat.le_refl _) (ha_new rfl))
theorem wl_put {k : Int} {s : ByteArray} {n : Int} {A : Option Addr} {l c : Nat} {p : Nat} {k' : Int} {s' : ByteArray} {n' : Int} {A' : Option Addr} {l' c' : Nat} (hx : a.eval x = .pointer (some ⟨p, 0, none⟩)) (hy : a.eval y = .agg (cell4 k s n A l c)) (hp : w.heap[p]? = some (.cells (cell4 k' s' n' A' l' c') 32 (0, 0)))
  (h : ∀ W, (∀ B w0, B <= p -> Below B w0 w -> Below B w0 W) -> W.heap.size = w.heap.size -> (∀ g, g ≠ p -> W.heap[g]? = w.heap[g]?) -> W.heap[p]? = some (.cells (cell4 k s n A l c) 32 (0, 0)) -> wpList Try.prog ops Q rest (a.put none undef) W) :
  wpList Try.prog ops Q (⟨none, .store 32 x y, ty', pos, after, none⟩ :: rest) a w := by
 refine wpList_plain rfl fun _ hK => wp_store_row 32 x y rfl p (cell4 k s n A l c) hx hy 32 _ hp info24 rfl (cell4_one _ _ _ _ _ _) (hK _ _ ?_)
 exact h _ (fun B w0 hB hb => below_setRow hb hB _) (by simp) (fun g hg => setRow_other w p g _ hg) (hr_new hp)
theorem wl_put3 {k : Int} {s : ByteArray} {n : Int} {A : Option Addr} {l c : Nat} {p : Nat} {A' : Option Addr} {l' c' : Nat} (hx : a.eval x = .pointer (some ⟨p, 3, none⟩)) (hy : a.eval y = .slice A' l' c') (hp : w.heap[p]? = some (.cells (cell4 k s n A l c) 32 (0, 0)))
  (h : ∀ W, (∀ B w0, B <= p -> Below B w0 w -> Below B w0 W) -> W.heap.size = w.heap.size -> (∀ g, g ≠ p -> W.heap[g]? = w.heap[g]?) -> W.heap[p]? = some (.cells (cell4 k s n A' l' c') 32 (0, 0)) -> wpList Try.prog ops Q rest (a.put none undef) W) :
  wpList Try.prog ops Q (⟨none, .store 30 x y, ty', pos, after, none⟩ :: rest) a w := by
 refine wl_storeC rfl 30 x y rfl p 3 _ hx hy info22 rfl (by rw [cell_of_row _ _ _ _ _ _ hp]; rfl) (by unfold World.frozen?; rw [hp]; rfl) ?_
 exact h _ (fun B w0 hB hb => hb.setCell hB _) (by simp [World.setCell]) (fun g hg => heap_setCell_other _ _ _ _ hg) (by rw [hs_new hp]; rfl)
end
structure OwnT (w : World) (B : Nat) (v : Value) (ts : List Ty) : Prop where
 own : ∃ rows : List (Array Value), rows.length = ts.length /\ w.ownsRow B 32 4 v ts.length (rows.flatMap (·.toList)) /\ ∀ (i : Nat) (t : Ty) (row : Array Value), ts[i]? = some t -> rows[i]? = some row -> TyAt w (fun b => B <= b /\ v.ownBlock ≠ some b) t row
theorem OwnT.nil (w : World) (B : Nat) : OwnT w B (.slice none 0 0) [] := ⟨[], rfl, World.ownsRow_nil _ _ _ _, fun i t row h => by simp at h⟩
theorem own_same {w w' : World} {b n : Nat} {e : TypeId} {size : Nat} {v : Value} {xs : List Value} (h : w.ownsRow b e size v n xs) (hs : ∀ q, q < w.heap.size -> v.ownBlock = some q -> w'.heap[q]? = w.heap[q]?) : w'.ownsRow b e size v n xs := by
 refine ⟨h.1, ?_⟩
 rcases h.2 with h | ⟨g, cap, cur, rfl, hB, hg, rest⟩
 ·exact Or.inl h
 ·exact Or.inr ⟨g, cap, cur, rfl, hB, by rw [hs g (heap_lt hg) rfl, hg], rest⟩
theorem OwnT.same {w w' : World} {B : Nat} {v : Value} {ts : List Ty} (h : OwnT w B v ts) (hs : ∀ q, B <= q -> q < w.heap.size -> w'.heap[q]? = w.heap[q]?) : OwnT w' B v ts := by
 obtain ⟨rows, h1, h2, h3⟩ := h
 exact ⟨rows, h1, own_same h2 fun q hq hv => hs q (h2.lt q hv).1 hq, fun i t row ht hr => (((h3 i t row ht hr).low).mono (fun _ h => h) (fun b hb => hs b hb.1.1 hb.2)).weak fun _ h => h.1⟩
theorem OwnT.old {w w' : World} {B : Nat} {v : Value} {ts : List Ty} (h : OwnT w B v ts) (hb : Below w.heap.size w w') : OwnT w' B v ts := h.same fun q _ hq => hb.block q hq
theorem flat_get : ∀ {rows : List (Array Value)}, (∀ r, r ∈ rows -> r.size = 4) -> ∀ {i : Nat} {row : Array Value}, rows[i]? = some row -> ((rows.flatMap (·.toList)).drop (i * 4)).take 4 = row.toList
 | [], _, i, row, hi => by simp at hi
 | r :: rows, h, 0, row, hi => by
  have hr : r.toList.length = 4 := by simp [h r (by simp)]
  simp at hi; subst hi
  simp only [List.flatMap_cons, Nat.zero_mul, List.drop_zero]
  rw [List.take_append_of_le_length (by omega), List.take_of_length_le (by omega)]
 | r :: rows, h, i + 1, row, hi => by
  have hr : r.toList.length = 4 := by simp [h r (by simp)]
  simp only [List.flatMap_cons]
  rw [show (i + 1) * 4 = r.toList.length + i * 4 by omega, List.drop_append]
  simp only [Nat.add_sub_cancel_left]
  rw [List.drop_of_length_le (by omega), List.nil_append]
  exact flat_get (fun r hr => h r (by simp [hr])) (by simpa using hi)
theorem OwnT.at {w : World} {B : Nat} {v : Value} {ts : List Ty} (h : OwnT w B v ts) : ∃ A l c, v = .slice A l c /\ TysAt w (fun b => B <= b) ts A l c := by
 obtain ⟨rows, h1, h2, h3⟩ := h
 have h4 : ∀ r, r ∈ rows -> r.size = 4 := fun r hr => by
  obtain ⟨i, hi, rfl⟩ := List.getElem_of_mem hr
  exact (h3 i _ _ (List.getElem?_eq_getElem (by omega)) (List.getElem?_eq_getElem hi)).size
 rcases h2.2 with ⟨rfl, hn⟩ | ⟨g, cap, cur, rfl, hB, hg, hc, hm, hs, hcur⟩
 ·have : ts = [] := by cases ts with | nil => rfl | cons => simp at hn
  subst this
  exact ⟨none, 0, 0, rfl, TysAt.nil _ _⟩
 ·refine ⟨_, _, _, rfl, rfl, hc, hm, fun i => (rows[i]?).getD #[], fun i t ht => ?_, fun i t ht => ?_⟩
  ·have hi : i < ts.length := (List.getElem?_eq_some_iff.1 ht).1
   have hr : rows[i]? = some rows[i] := List.getElem?_eq_getElem (by omega)
   refine ⟨g, 0, cur, 32, (0, 0), rfl, hB, hg, ?_⟩
   have hf := flat_get h4 hr
   rw [<- hcur, List.drop_take, List.take_take] at hf
   simp only [hr, Option.getD_some]
   apply Array.toList_inj.1
   rw [<- hf]
   simp only [Array.toList_extract, List.extract_eq_take_drop, Nat.zero_add]
   rw [show i * 4 + 4 - i * 4 = min 4 (ts.length * 4 - i * 4) by omega]
  ·have hi : i < ts.length := (List.getElem?_eq_some_iff.1 ht).1
   have hr : rows[i]? = some rows[i] := List.getElem?_eq_getElem (by omega)
   simp only [hr, Option.getD_some]
   exact (h3 i t _ ht hr).weak fun _ h => h.1
theorem OwnT.snoc {w w' : World} {B : Nat} {v v' : Value} {ts : List Ty} {t : Ty} {row : Array Value} (rows : List (Array Value)) (h1 : rows.length = ts.length)
  (h3 : ∀ (i : Nat) (t : Ty) (row : Array Value), ts[i]? = some t -> rows[i]? = some row -> TyAt w (fun b => B <= b /\ v.ownBlock ≠ some b) t row) (ht : TyAt w (fun b => B <= b /\ v.ownBlock ≠ some b) t row)
  (ho : w'.ownsRow B 32 4 v' (ts.length + 1) (rows.flatMap (·.toList) ++ row.toList)) (hg : w.grownBy w' v.ownBlock) (hv : ∀ b, v'.ownBlock = some b -> v.ownBlock = some b ∨ w.heap.size <= b) : OwnT w' B v' (ts ++ [t]) := by
 refine ⟨rows ++ [row], by simp [h1], by simpa using ho, fun i u r hu hr => ?_⟩
 have key : ∀ {u : Ty} {r : Array Value}, TyAt w (fun b => B <= b /\ v.ownBlock ≠ some b) u r -> TyAt w' (fun b => B <= b /\ v'.ownBlock ≠ some b) u r := fun h =>
  h.low.mono (fun b hb => ⟨hb.1.1, fun e => (hv b e).elim (fun e => hb.1.2 e) (fun e => absurd hb.2 (by omega))⟩) (fun b hb => hg.block b hb.2 (fun e => hb.1.2 e.symm))
 rcases Nat.lt_or_ge i ts.length with hi | hi
 ·rw [List.getElem?_append_left hi] at hu
  rw [List.getElem?_append_left (by omega)] at hr
  exact key (h3 i u r hu hr)
 ·have hl := (List.getElem?_eq_some_iff.1 hu).1
  simp at hl
  obtain rfl : i = ts.length := by omega
  rw [List.getElem?_append_right (Nat.le_refl _)] at hu
  rw [List.getElem?_append_right (by omega), h1] at hr
  simp at hu hr
  subst hu hr
  exact key ht
theorem run_push {w : World} {B : Nat} {v : Value} {ts : List Ty} {t : Ty} {row : Array Value} (oty : TypeId) (h : OwnT w B v ts) (ht : TyAt w (fun b => B <= b /\ v.ownBlock ≠ some b) t row) {q : Nat} {tq : TypeId} (hq : w.heap[q]? = some (.cells row tq (0, 0))) (hn : ts.length <= 1000000) (hB : B <= w.heap.size) :
  ∃ v' w', (Builtin.append_ #[30, 30] oty #[v, .slice (some ⟨q, 0, none⟩) 1 1]).run Try.prog w = .ok v' w' /\ OwnT w' B v' (ts ++ [t]) /\ (∀ b, b < w.heap.size -> v.ownBlock ≠ some b -> w'.heap[b]? = w.heap[b]?) /\ (∀ B' w0, (∀ b, v.ownBlock = some b -> B' <= b) -> B' <= w.heap.size -> Below B' w0 w -> Below B' w0 w') /\ ∃ A l c, v' = .slice A l c := by
 obtain ⟨i0, hi, hz0, hz1, hz2⟩ := info_parts info24b
 obtain ⟨rows, h1, h2, h3⟩ := h
 obtain ⟨k, s, n, A, l, c, ts', rfl, rfl, -⟩ := ht.parts
 obtain ⟨v', w', hr, g2, g3, g4, g5⟩ := run_append_own_at (P := Try.prog) w B 30 oty 32 i0 _ 4 56 u22 hi hz0 hz1 hz2 rfl (by decide) v ts.length _ h2 ⟨q, 0, none⟩ 1 1 (cell4 k s n A l c).toList rfl (fun j u hj => by
   rw [show (Addr.add ⟨q, 0, none⟩ j) = ⟨q, j, none⟩ by rw [Addr.add_mid]; simp, cell_of_row _ _ _ _ _ _ hq]
   simpa using hj) (fun u hu => by simp [cell4] at hu; rcases hu with rfl | rfl | rfl | rfl <;> rfl) (by unfold maxLen; omega) (by omega) hB
 have hO := OwnT.snoc rows h1 h3 ht (by simpa using g2) g3 (fun b hb => by
  rcases g5 with e | e
  ·rw [e] at hb; exact Or.inl hb
  ·rw [e] at hb; simp at hb; exact Or.inr (by omega))
 obtain ⟨A', l', c', hv', -⟩ := hO.at
 exact ⟨v', w', hr, hO, fun b hb hne => g3.block b hb (fun e => hne e.symm), fun B' w0 hb1 hb2 hb => hb.grown g3 hb2 hb1, A', l', c', hv'⟩
section
variable {ops : Array Oper} {rest : List Oper} {o : Oper} {a : Act} {w : World} {Q : Exit -> Act -> World -> Prop}
theorem wl_push (hg : o.guard = none) (s x : Operand) (ho : o.op = .call { callee := .builtin .append, args := #[s, x], argTypes := #[30, 30] }) {B : Nat} {v : Value} {ts : List Ty} {t : Ty} {row : Array Value} {q : Nat} {tq : TypeId}
  (hs : a.eval s = v) (hx : a.eval x = .slice (some ⟨q, 0, none⟩) 1 1) (h : OwnT w B v ts) (ht : TyAt w (fun b => B <= b /\ v.ownBlock ≠ some b) t row) (hq : w.heap[q]? = some (.cells row tq (0, 0))) (hn : ts.length <= 1000000) (hB : B <= w.heap.size)
  (hK : ∀ A l c w', OwnT w' B (.slice A l c) (ts ++ [t]) -> (∀ b, b < w.heap.size -> v.ownBlock ≠ some b -> w'.heap[b]? = w.heap[b]?) -> (∀ B' w0, (∀ b, v.ownBlock = some b -> B' <= b) -> B' <= w.heap.size -> Below B' w0 w -> Below B' w0 w') -> wpList Try.prog ops Q rest (a.put o.dst (.slice A l c)) w') : wpList Try.prog ops Q (o :: rest) a w := by
 obtain ⟨v', w', hr, h2, h3, h4, A, l, c, rfl⟩ := run_push o.type h ht hq hn hB
 refine wl_w hg ?_ (hK A l c w' h2 h3 h4)
 unfold execOp
 simp only [ho, resolve, invoke, builtin, Sem.run_bind, Sem.run_pure, Result.andThen_ok, List.map_toArray, List.map_cons, List.map_nil, hs, hx, hr]
end
section
variable {md : Region.Mode} {ops : Array Oper} {Q : Exit -> Act -> World -> Prop} {S : World -> Prop} {fuel : Nat} {listed : Array Bool} {a : Act} {w : World} {i : Nat} {oi : Oper}
end
theorem OwnT.lt {w : World} {B : Nat} {v : Value} {ts : List Ty} (h : OwnT w B v ts) : ∀ b, v.ownBlock = some b -> B <= b /\ b < w.heap.size := by
 obtain ⟨rows, _, h2, _⟩ := h
 exact h2.lt
theorem OwnT.apart {w w' : World} {B : Nat} {v : Value} {ts : List Ty} (h : OwnT w B v ts) (hB : B <= w.heap.size) {t : Ty} {row : Array Value} (ht : TyAt w' (fun b => w.heap.size <= b) t row) : TyAt w' (fun b => B <= b /\ v.ownBlock ≠ some b) t row :=
 ht.weak fun b hb => ⟨by omega, fun e => by have := (h.lt b e).2; omega⟩
section
variable {ops : Array Oper} {rest : List Oper} {dst : Option Tmp} {ty' : TypeId} {x : Operand} {pos : String} {after : Array Edge} {a : Act} {w : World} {Q : Exit -> Act -> World -> Prop}
theorem wl_bs {k : Int} {s : ByteArray} {n : Int} {A : Option Addr} {l c : Nat} (hx : a.eval x = .agg (cell4 k s n A l c))
  (h : ∀ W p, Below w.heap.size w W -> w.heap.size <= p -> W.heap[p]? = some (.cells (cell4 k s n A l c) 32 (0, 0)) -> wpList Try.prog ops Q rest (a.put dst (.slice (some ⟨p, 0, none⟩) 1 1)) W) :
  wpList Try.prog ops Q (⟨dst, .buildSlice 30 1 #[(0, x)], ty', pos, after, none⟩ :: rest) a w :=
 wl_w rfl (ex_bs22 x rfl hx) (h _ _ ((Below.refl _ w).alloc (Nat.le_refl _) _) (Nat.le_refl _) (ha_new rfl))
end
def NewTy (w : World) (t : Ty) (e : Ending) (w' : World) : Prop := ∃ row, e = .returned (.agg row) /\ TyAt w' (fun b => w.heap.size <= b) t row /\ Below w.heap.size w w'
theorem res24 {fn : Func} {p : Tmp} (h : fn.results = #[.cell p 32]) (tmps : Array Value) (w : World) (g : Nat) (hp : tmps.getD p undef = .pointer (some ⟨g, 0, none⟩)) {k : Int} {s : ByteArray} {n : Int} {A : Option Addr} {l c : Nat}
  (hg : w.heap[g]? = some (.cells (cell4 k s n A l c) 32 (0, 0))) : (results fn tmps).run Try.prog w = .ok (.agg (cell4 k s n A l c)) w := by
 have hp' : tmps[p]?.getD undef = .pointer (some ⟨g, 0, none⟩) := by simpa using hp
 have l1 : (loadVar 32 ⟨g, 0, none⟩).run Try.prog w = .ok (.agg (cell4 k s n A l c)) w := by have := f4 hg; unfold RowAt at this; exact this
 unfold results
 simp [h, hp', asAddr, l1, Result.andThen]
theorem mem_nodesL {t : Ty} : ∀ {l : List Ty}, t ∈ l -> t.nodes <= nodesL l
 | [], h => by cases h
 | u :: l, h => by
  simp only [nodesL]
  rcases List.mem_cons.1 h with rfl | h
  ·omega
  ·have := mem_nodesL h; omega
theorem len_nodesL : ∀ (l : List Ty), l.length <= nodesL l
 | [] => by simp [nodesL]
 | t :: l => by have := len_nodesL l; have := nodes_pos t; simp only [nodesL, List.length_cons]; omega
theorem TysAt.kind {w : World} {D : Nat -> Prop} {ts : List Ty} {b off : Nat} {l c : Nat} (h : TysAt w D ts (some ⟨b, off, none⟩) l c) {i : Nat} {t : Ty} (hi : ts[i]? = some t) : OneAt w 3 ⟨b, off + i * 4, none⟩ (.int .i64 t.kind) := by
 obtain ⟨h1, h2, h3, rows, h4, h5⟩ := h
 obtain ⟨b', off', Cs, t', fr, e1, e2, e3, e4⟩ := h4 i _ hi
 cases e1
 obtain ⟨k, s, n, A, l', c', ts', rfl, hr, -⟩ := (h5 i _ hi).parts
 rw [hr] at e4
 refine one_of u3 rfl ?_
 rw [cell_of_row _ _ _ _ _ _ e3]
 have := congrArg (fun x : Array Value => x[0]?) e4
 rw [Array.getElem?_extract] at this
 simp [cell4] at this
 simpa [Ty.kind] using this.2
section
variable {ops : Array Oper} {rest : List Oper} {dst : Option Tmp} {ty' : TypeId} {x : Operand} {pos : String} {after : Array Edge} {a : Act} {w : World} {Q : Exit -> Act -> World -> Prop}
end
theorem g22 {w : World} {p : Nat} {A : Option Addr} {l c : Nat} {t : TypeId} {fr : Nat × Nat} (h : w.heap[p]? = some (.cells #[.slice A l c] t fr)) : OneAt w 30 ⟨p, 0, none⟩ (.slice A l c) := one_of u22 rfl (by rw [cell_of_row _ _ _ _ _ _ h]; rfl)
theorem g25 {w : World} {p : Nat} {A : Option Addr} {l c : Nat} {t : TypeId} {fr : Nat × Nat} (h : w.heap[p]? = some (.cells #[.slice A l c] t fr)) : OneAt w 22 ⟨p, 0, none⟩ (.slice A l c) := one_of u25 rfl (by rw [cell_of_row _ _ _ _ _ _ h]; rfl)
theorem put_undef (l : List Value) (df : List Deferred) (d : Nat) (h : l[d]? = some undef) : (Act.mk l.toArray df).put (some d) undef = Act.mk l.toArray df := by
 rw [put_lit]
 congr 2
 apply List.ext_getElem?
 intro i
 rw [List.getElem?_set]
 split
 ·rename_i e; subst e
  split
  ·exact h.symm
  ·rename_i hn; rw [List.getElem?_eq_none (by omega)]
 ·rfl
theorem wl_skipU {P : Program} {ops : Array Oper} {rest : List Oper} {op : Op} {d : Nat} {ty : TypeId} {pos : String} {after : Array Edge} {g : Option (Nat × Bool)} {l : List Value} {df : List Deferred} {w : World} {Q : Exit -> Act -> World -> Prop} (hg : Region.wanted ⟨some d, op, ty, pos, after, g⟩ (yielded ops (Act.mk l.toArray df).tmps) = false) (hu : l[d]? = some undef)
  (h : wpList P ops Q rest (Act.mk l.toArray df) w) : wpList P ops Q (⟨some d, op, ty, pos, after, g⟩ :: rest) (Act.mk l.toArray df) w :=
 wl_skip hg (by rw [put_undef l df d hu]; exact h)
open Go.RowKit Go.Proofs.Ytpamocglecangaa.Nm
set_option linter.unusedSimpArgs false
theorem ret_int {k : IntKind} {a b : Int} (h : a = b) : Ending.returned (.int k a) = .returned (.int k b) := by rw [h]
theorem TypeNodes_any (most : Nat) (hm : most <= 1000) : ∀ (t : Ty) (w : World) (D : Nat -> Prop) (row : Array Value), TyAt w D t row ->
  Calls Try.prog 41 #[.agg row, .int .i64 (most : Int)] w fun e w' => e = .returned (.int .i64 ((min t.nodes (most + 1) : Nat) : Int)) /\ Below w.heap.size w w' := Ty.ind fun k s n ts ih w D row h => by
 obtain ⟨k', s', n', A, l, c, ts', e, rfl, hk, hn, hs, hT⟩ := h.parts
 cases e
 have HT := Zi hT
 have HL := Zi hT.len
 have hcm := hT.cap
 have hmx := hT.max
 unfold maxLen at hmx
 have HS := Zi (typeNodes most k s n ts)
 have HI := Zi ih
 clear h hk hn hs hT ih
 go_enter Try.func41, Try.ntmps41
 go_upto_region 0 with fail
 apply Zl
 (with_reducible refine wl_box rfl ?_); intro W p hbn hlp hp; simp only [Zq]
 have hb := hbn
 clear hbn
 refine Zm ?_
 go_wp2_with fail
 go_loopw [5, 6] (fun v i wr => ∃ j m : Nat, j <= l /\ m <= 2 * (most + 1) /\ i = .int .i64 (j : Int) /\ v = .int .i64 (m : Int) /\ Hid (tnLoop most 1 ts = tnLoop most m (ts.drop j)) /\ Below w.heap.size w wr /\ wr.heap[p]? = some (.cells (cell4 k s n A l c) 32 (0, 0))) (fun _ i _ => l - (intOf i).toNat)
 case atStart => exact ⟨0, 1, by omega, by omega, rfl, rfl, Zi rfl, hb, hp⟩
 case round =>
  clear hb hp
  obtain ⟨j, m, hj, hm2, rfl, rfl, HR, hb, hp⟩ := hrel
  by_cases hlt : j < l
  ·have hltI : (j : Int) < (l : Int) := by omega
   obtain ⟨b, off, t, row, rfl, -, ht, -⟩ := HT.out.get hlt
   obtain ⟨row, hrow, hta⟩ := (HT.out.old (hb.mono (Nat.le_refl _))).row ht
   have hdr : ts.drop j = t :: ts.drop (j + 1) := by rw [List.drop_eq_getElem_cons (by rw [HL.out]; exact hlt)]; rw [List.getElem?_eq_getElem (by rw [HL.out]; exact hlt)] at ht; cases ht; rfl
   have HD := Zi hdr
   have hmem : t ∈ ts := List.mem_of_getElem? ht
   clear hdr
   by_cases hmm : m <= most
   ·have hmI : (m : Int) <= (most : Int) := by omega
    have HR2 : Hid (tnLoop most 1 ts = tnLoop most (m + min t.nodes (most + 1)) (ts.drop (j + 1))) := Zi (by rw [HR.out, HD.out, tnLoop, if_pos hmm])
    have HTA := Zi hta
    have HME := Zi hmem
    clear hta hmem ht HD HR
    go_upto_region 3 with fail
    apply Zl
    iterate 2 refine Zm ?_
    refine Zo rfl (f3 (by assumption)) ?_
    iterate 7 refine Zm ?_
    go_upto_region 5 with fail
    have hC := HI.out t HME.out wr D row HTA.out
    obtain ⟨q, hq⟩ : ∃ q, q = min t.nodes (most + 1) := ⟨_, rfl⟩
    have hq1 : q <= most + 1 := by omega
    rw [<- hq] at hC HR2
    have HC := Zi hC
    have hwr : IntKind.i64.wrap ((m : Int) + (q : Int)) = (m : Int) + (q : Int) := IntWalk.i64_in _ (by omega)
    clear hC hq HTA HME
    apply Zl
    iterate 2 refine Zm ?_
    refine Zo rfl (f3 (by assumption)) ?_
    iterate 2 refine Zm ?_
    (first | ((with_reducible apply wl_oneG); exact rfl; exact rfl; first | exact f0 (by assumption) | exact f1 (by assumption) | exact f2 (by assumption) | exact f3 (by assumption) | with_reducible assumption | exact g22 (by assumption) | exact g25 (by assumption)) | ((with_reducible apply wl_rowG); exact rfl; exact rfl; first | with_reducible assumption | exact RowK.now (by assumption) | exact f4 (by assumption)))
    refine Zm ?_
    refine Zn HC.out ?_; rintro e w7 ⟨rfl, hb7⟩; refine ⟨_, rfl, ?_⟩; simp only [Zq]
    iterate 2 refine Zm ?_
    replace hp := below_look hb7 hp
    replace hb := hb.trans (hb7.mono hb.size)
    clear hb7 HC hrow hwr
    go_wp2_with fail
    go_roundw
    case rel => exact ⟨j + 1, m + q, by omega, by omega, by go_num, by go_num, HR2, hb, hp⟩
    case measure => simp [intOf]; omega
   ·have hmI : ¬ (m : Int) <= (most : Int) := by omega
    have HF : Hid (min m (most + 1) = min (Ty.node k s n ts).nodes (most + 1)) := Zi (by rw [<- HS.out, HR.out, HD.out, tnLoop, if_neg hmm])
    clear ht hta hmem HD HR hrow
    go_upto_region 3 with fail
    apply Zl
    iterate 2 refine Zm ?_
    refine Zo rfl (f3 (by assumption)) ?_
    iterate 7 refine Zm ?_
    go_wp2_with fail
    all_goals (go_ret; exact ⟨ret_int (by rw [<- HF.out]; omega), hb⟩)
  ·have hltI : ¬ (j : Int) < (l : Int) := by omega
   have HF : Hid (min m (most + 1) = min (Ty.node k s n ts).nodes (most + 1)) := Zi (by rw [<- HS.out, HR.out, List.drop_of_length_le (by rw [HL.out]; omega), tnLoop])
   clear HR
   go_upto_region 3 with fail
   apply Zl
   iterate 2 refine Zm ?_
   refine Zo rfl (f3 (by assumption)) ?_
   iterate 3 refine Zm ?_
   iterate 3 ((first | ((with_reducible refine wl_skipU ?_ ?_ ?_); exact rfl; exact rfl) | ((with_reducible refine wl_skip ?_ ?_); exact rfl; simp only [Zq])))
   refine Zm ?_
   go_wp2_with fail
   all_goals (go_ret; exact ⟨ret_int (by rw [<- HF.out]; omega), hb⟩)
def NewOwn (w : World) (ts : List Ty) (e : Ending) (w' : World) : Prop := ∃ A l c, e = .returned (.slice A l c) /\ OwnT w' w.heap.size (.slice A l c) ts /\ Below w.heap.size w w'
def CopyC (t : Ty) : Prop := t.nodes <= 1000000 -> ∀ (w : World) (D : Nat -> Prop) (row : Array Value), TyAt w D t row -> Calls Try.prog 83 #[.agg row] w (NewTy w t)
theorem CopyTypes_of (ts : List Ty) (ih : ∀ t, t ∈ ts -> CopyC t) (hnl : nodesL ts <= 1000000) (A : Option Addr) (l c : Nat) (w : World) (D : Nat -> Prop) (h : TysAt w D ts A l c) :
  Calls Try.prog 105 #[.slice A l c] w (NewOwn w ts) := by
 have HT := Zi h
 have HL := Zi h.len
 have hl6 : l <= 1000000 := by have := len_nodesL ts; have := h.len; omega
 have HI := Zi fun t ht => ih t ht (Nat.le_trans (mem_nodesL ht) hnl)
 have hcm := h.cap
 have hmx := h.max
 unfold maxLen at hmx
 clear h ih hnl
 have hb := Below.refl w.heap.size w
 have HO := Zi (OwnT.nil w w.heap.size)
 go_enter Try.func105, Try.ntmps105
 go_wp2_with fail
 go_loopw [3, 4] (fun v i wr => ∃ j : Nat, j <= l /\ i = .int .i64 (j : Int) /\ Hid (OwnT wr w.heap.size v (ts.take j)) /\ Below w.heap.size w wr) (fun _ i _ => l - (intOf i).toNat)
 case atStart => exact ⟨0, by omega, rfl, HO, hb⟩
 case round =>
  clear hb HO
  obtain ⟨j, hj, rfl, HO, hb⟩ := hrel
  by_cases hlt : j < l
  ·have hltI : (j : Int) < (l : Int) := by omega
   obtain ⟨b, off, t, row, rfl, -, ht, -⟩ := HT.out.get hlt
   obtain ⟨row, hrow, hta⟩ := (HT.out.old hb).rowK ht
   have HC := Zi (HI.out t (List.mem_of_getElem? ht) wr D row hta)
   have HTK : Hid (ts.take (j + 1) = ts.take j ++ [t]) := Zi (by rw [List.take_add_one, ht]; rfl)
   have hlen : (ts.take j).length <= 1000000 := by rw [List.length_take]; omega
   have HLN := Zi hlen
   clear hta ht hlen
   go_upto_region 5 with fail
   apply Zl
   iterate 4 refine Zm ?_
   (first | ((with_reducible apply wl_oneG); exact rfl; exact rfl; first | exact f0 (by assumption) | exact f1 (by assumption) | exact f2 (by assumption) | exact f3 (by assumption) | with_reducible assumption | exact g22 (by assumption) | exact g25 (by assumption)) | ((with_reducible apply wl_rowG); exact rfl; exact rfl; first | with_reducible assumption | exact RowK.now (by assumption) | exact f4 (by assumption)))
   refine Zn HC.out ?_; rintro e w7 ⟨row7, rfl, hta7, hb7⟩; refine ⟨_, rfl, ?_⟩; simp only [Zq]
   obtain ⟨k7, s7, n7, A7, l7, c7, ts7, rfl, rfl, -⟩ := hta7.parts
   have HA7 := Zi (HO.out.apart hb.size hta7)
   replace HO := Zi (HO.out.old hb7)
   clear hta7 HC hrow
   replace hb := hb.trans (hb7.mono hb.size); clear hb7
   have hb8 := Below.refl w7.heap.size w7
   (with_reducible refine wl_bs rfl ?_); intro w8 q hbn hlq hq; replace hb := hb.trans (hbn.mono hb.size); replace hb8 := hb8.trans (hbn.mono hb8.size); clear hbn; simp only [Zq]
   replace HA7 := Zi (HA7.out.old hb8)
   replace HO := Zi (HO.out.old hb8)
   refine wl_push rfl _ _ rfl rfl rfl HO.out HA7.out hq HLN.out hb.size ?_
   intro A9 l9 c9 w9 hown hk9 hbl
   replace hb := hbl _ _ (fun b hb => (HO.out.lt b hb).1) hb.size hb
   rw [<- HTK.out] at hown
   replace HO := Zi hown
   clear hown hk9 hbl HA7 hq hb8
   simp only [Zq]
   refine Zm ?_
   go_wp2_with fail
   go_roundw
   case rel => exact ⟨j + 1, by omega, by go_num, HO, hb⟩
   case measure => simp [intOf]; omega
  ·have hltI : ¬ (j : Int) < (l : Int) := by omega
   replace HO : Hid (OwnT wr w.heap.size _ ts) := Zi (by have := HO.out; rwa [List.take_of_length_le (by rw [HL.out]; omega)] at this)
   obtain ⟨A9, l9, c9, rfl, h9⟩ := HO.out.at
   clear h9
   go_wp2_with fail
   go_ret
   exact ⟨_, _, _, rfl, HO.out, hb⟩
theorem CopyType_any : ∀ t : Ty, CopyC t := Ty.ind fun k s n ts ih hnd w D row h => by
 obtain ⟨k1, s1, n1, A, l, c, ts1, e, rfl, hk, hn, hs, hT⟩ := h.parts
 cases e
 have HT := Zi hT
 have HK := Zi (show (Lit.int .i64 k).wf = true /\ (Lit.int .i64 n).wf = true /\ s.size <= maxLen from ⟨hk, hn, hs⟩)
 have HI := Zi (show ∀ (w' : World), TysAt w' D ts A l c -> Calls Try.prog 105 #[.slice A l c] w' (NewOwn w' ts) from fun w' h' => CopyTypes_of ts ih (by simp only [Ty.nodes] at hnd; omega) A l c w' D h')
 clear h hk hn hs hT ih hnd
 have hb := Below.refl w.heap.size w
 go_enter Try.func83, Try.ntmps83
 go_upto_region 0 with fail
 apply Zl
 (with_reducible refine wl_box rfl ?_); intro W p hbn hlp hp; replace hb := hb.trans (hbn.mono hb.size); clear hbn; simp only [Zq]
 have lthpq := heap_lt hp; (with_reducible refine wl_all ?_); intro W2 q hbn hlq hq; replace hp := below_look hbn hp; replace hb := hb.trans (hbn.mono hb.size); clear hbn; simp only [Zq]
 have HC := Zi (HI.out W2 (HT.out.old hb))
 go_upto_region 1 with fail
 apply Zl
 refine Zm ?_
 refine Zo rfl (f3 (by assumption)) ?_
 refine Zn HC.out ?_; rintro e w7 ⟨A7, l7, c7, rfl, hown7, hb7⟩; refine ⟨_, rfl, ?_⟩; simp only [Zq]
 obtain ⟨A7', l7', c7', he7, hta7⟩ := hown7.at
 cases he7
 clear hown7
 have hlp' := heap_lt hp
 have hlq' := heap_lt hq
 have HA := Zi (hta7.weak (D' := fun b => w.heap.size <= b /\ b ≠ p /\ b ≠ q) fun b (hb : W2.heap.size <= b) => ⟨by have := hb; omega, by omega, by omega⟩)
 clear hta7 HC
 replace hp := below_look hb7 hp; replace hq := below_look hb7 hq; replace hb := hb.trans (hb7.mono hb.size); clear hb7
 refine Zm ?_
 (with_reducible refine wl_put3 rfl rfl hp ?_); rw [put_noneA]; intro W3 hbx hsz hkx hnx; replace hq := (hkx _ (by omega)).trans hq; replace hb := hbx _ _ (by omega) hb; clear hp; have hp := hnx; clear hnx
 replace HA := Zi (HA.out.mono (fun _ h => h) (fun b h => hkx b h.2.1))
 clear hbx hkx hsz
 go_upto_region 2 with fail
 apply Zl
 (first | ((with_reducible apply wl_oneG); exact rfl; exact rfl; first | exact f0 (by assumption) | exact f1 (by assumption) | exact f2 (by assumption) | exact f3 (by assumption) | with_reducible assumption | exact g22 (by assumption) | exact g25 (by assumption)) | ((with_reducible apply wl_rowG); exact rfl; exact rfl; first | with_reducible assumption | exact RowK.now (by assumption) | exact f4 (by assumption)))
 (with_reducible refine wl_put rfl rfl hq ?_); rw [put_noneA]; intro W4 hbx hsz hkx hnx; replace hp := (hkx _ (by omega)).trans hp; replace hb := hbx _ _ (by omega) hb; clear hq; have hq := hnx; clear hnx
 replace HA := Zi (HA.out.mono (fun _ h => h) (fun b h => hkx b h.2.2))
 clear hbx hkx hsz
 have HQ := Zi hq
 clear hp hq
 go_wp2_with fail
 exact bodyPost_ret (res24 rfl _ _ q rfl HQ.out) rfl ⟨_, rfl, TyAt.of HK.out.1 HK.out.2.1 HK.out.2.2 (HA.out.weak fun b h => h.1), hb⟩
theorem CopyTypes_any (ts : List Ty) (hnl : nodesL ts <= 1000000) (A : Option Addr) (l c : Nat) (w : World) (D : Nat -> Prop) (h : TysAt w D ts A l c) :
  Calls Try.prog 105 #[.slice A l c] w (NewOwn w ts) := CopyTypes_of ts (fun t _ => CopyType_any t) hnl A l c w D h
structure Keep (C : Nat -> Prop) (w w' : World) : Prop where
 os : w'.os = w.os
 tape : w'.tape = w.tape
 output : w'.output = w.output
 size : w.heap.size <= w'.heap.size
 block : ∀ b, b < w.heap.size -> ¬ C b -> w'.heap[b]? = w.heap[b]?
theorem Keep.of {C : Nat -> Prop} {w w' : World} (h : Below w.heap.size w w') : Keep C w w' := ⟨h.os, h.tape, h.output, h.size, fun b hb _ => h.block b hb⟩
theorem Keep.refl (C : Nat -> Prop) (w : World) : Keep C w w := Keep.of (Below.refl _ _)
theorem Keep.trans {C C' : Nat -> Prop} {w w1 w2 : World} (h : Keep C w w1) (hC : ∀ b, C' b -> C b ∨ w.heap.size <= b) (h2 : Keep C' w1 w2) : Keep C w w2 :=
 ⟨h2.os.trans h.os, h2.tape.trans h.tape, h2.output.trans h.output, Nat.le_trans h.size h2.size, fun b hb hn => (h2.block b (Nat.lt_of_lt_of_le hb h.size) (fun hc => (hC b hc).elim hn (by omega))).trans (h.block b hb hn)⟩
theorem Keep.look {C : Nat -> Prop} {w w' : World} (h : Keep C w w') {b : Nat} {o : Obj} (ho : w.heap[b]? = some o) (hn : ¬ C b) : w'.heap[b]? = some o := (h.block b (heap_lt ho) hn).trans ho
theorem TyAt.keep {C : Nat -> Prop} {w w' : World} {D : Nat -> Prop} {t : Ty} {row : Array Value} (h : TyAt w D t row) (hk : Keep C w w') (hD : ∀ b, D b -> ¬ C b) : TyAt w' D t row :=
 (h.low.mono (fun _ h => h) (fun b h => hk.block b h.2 (hD b h.1))).weak fun _ h => h.1
theorem TysAt.keep {C : Nat -> Prop} {w w' : World} {D : Nat -> Prop} {ts : List Ty} {A : Option Addr} {l c : Nat} (h : TysAt w D ts A l c) (hk : Keep C w w') (hD : ∀ b, D b -> ¬ C b) : TysAt w' D ts A l c := by
 obtain ⟨h1, h2, h3, rows, h4, h5⟩ := h
 exact ⟨h1, h2, h3, rows, fun i t hi => ((h4 i t hi).low.mono (fun _ h => h) (fun b h => hk.block b h.2 (hD b h.1))).mono (fun _ h => h.1) (fun _ _ => rfl), fun i t hi => (h5 i t hi).keep hk hD⟩
theorem Below.keep {C : Nat -> Prop} {w w1 w2 : World} (h : Below w.heap.size w w1) (hk : Keep C w1 w2) (hC : ∀ b, C b -> w.heap.size <= b) : Below w.heap.size w w2 :=
 ⟨hk.os.trans h.os, hk.tape.trans h.tape, hk.output.trans h.output, Nat.le_trans h.size hk.size, fun b hb => (hk.block b (Nat.lt_of_lt_of_le hb h.size) (fun hc => by have := hC b hc; omega)).trans (h.block b hb)⟩
end Go.Proofs.Ytpamocglecangaa
namespace Go.Proofs.Ytpamocglecangaa
inductive Va where
 | node (k n : Int) (s : ByteArray) (t : Ty) (ts : List Ty) (l : List Va) : Va
namespace Va
def kind : Va -> Int | .node k _ _ _ _ _ => k
def num : Va -> Int | .node _ n _ _ _ _ => n
def txt : Va -> ByteArray | .node _ _ s _ _ _ => s
def typ : Va -> Ty | .node _ _ _ t _ _ => t
def tys : Va -> List Ty | .node _ _ _ _ ts _ => ts
def parts : Va -> List Va | .node _ _ _ _ _ l => l
end Va
def va0 : Va := .node 0 0 ⟨#[]⟩ zeroTy [] []
theorem Va.ind {Q : Va -> Prop} (h : ∀ v : Va, (∀ u, u ∈ v.parts -> Q u) -> Q v) : ∀ v, Q v := fun v =>
 Va.rec (motive_1 := Q) (motive_2 := fun l => ∀ u, u ∈ l -> Q u) (fun k n s t ts l ih => h (.node k n s t ts l) ih) (fun u hu => by cases hu) (fun a l ha hl u hu => by
  rcases List.mem_cons.1 hu with rfl | hu
  ·exact ha
  ·exact hl u hu) v
def hasK (k : Int) : Bool := decide (k = 5) || (decide (k = 6) || (decide (k = 9) || decide (k = 10)))
structure Ob where
 t : Ty
 state : Int
 count : Int
 weak : Int
 fields : List Va
structure Bu where
 count : Int
 elems : List Va
inductive Tk where
 | val (v : Va)
 | flds (o i : Nat)
structure Hp where
 dei : List ByteArray
 obs : List Ob
 bus : List Bu
 lev : List (List Tk)
mutual
def ofV (no nb : Nat) : Va -> Bool
 | .node k n _ _ _ l =>
  if k = 7 ∨ k = 11 then decide (0 <= n /\ n < (no : Int))
  else if k = 8 then decide (0 <= n /\ n < (nb : Int))
  else if hasK k then ofVs no nb l
  else decide (0 <= k /\ k <= 4)
def ofVs (no nb : Nat) : List Va -> Bool
 | [] => true
 | v :: l => ofV no nb v && ofVs no nb l
end
theorem ofVs_iff {no nb : Nat} : ∀ {l : List Va}, ofVs no nb l = true ↔ ∀ v, v ∈ l -> ofV no nb v = true
 | [] => by simp [ofVs]
 | v :: l => by simp [ofVs, ofVs_iff (l := l)]
theorem ofVs_step {no nb : Nat} {l : List Va} {j : Nat} {v : Va} (h : l[j]? = some v) : ofVs no nb (l.drop j) = (ofV no nb v && ofVs no nb (l.drop (j + 1))) := by
 obtain ⟨h1, e1⟩ := List.getElem?_eq_some_iff.1 h
 rw [List.drop_eq_getElem_cons h1, e1, ofVs]
theorem ofV_eq (no nb : Nat) (v : Va) : ofV no nb v = if v.kind = 7 ∨ v.kind = 11 then decide (0 <= v.num /\ v.num < (no : Int)) else if v.kind = 8 then decide (0 <= v.num /\ v.num < (nb : Int)) else if hasK v.kind then ofVs no nb v.parts else decide (0 <= v.kind /\ v.kind <= 4) := by
 cases v; rw [ofV]; rfl
theorem ofV_mono {no nb no' nb' : Nat} (h1 : no <= no') (h2 : nb <= nb') : ∀ v, ofV no nb v = true -> ofV no' nb' v = true := Va.ind fun v ih h => by
 rw [ofV_eq] at h ⊢
 split
 ·rename_i c
  rw [if_pos c] at h
  have := of_decide_eq_true h
  exact decide_eq_true (by omega)
 ·rename_i c
  rw [if_neg c] at h
  split
  ·rename_i c2
   rw [if_pos c2] at h
   have := of_decide_eq_true h
   exact decide_eq_true (by omega)
  ·rename_i c2
   rw [if_neg c2] at h
   split
   ·rename_i c3
    rw [if_pos c3] at h
    exact ofVs_iff.2 fun u hu => ih u hu (ofVs_iff.1 h u hu)
   ·rename_i c3
    rwa [if_neg c3] at h
mutual
def deadV (h : Hp) : Va -> Bool
 | .node k n _ _ _ l =>
  if k = 7 then (match h.obs[n.toNat]? with | some o => decide (o.state = 3) | none => false)
  else if k = 8 then (match h.bus[n.toNat]? with | some b => decide (b.count = 0) | none => false)
  else if hasK k then deadVs h l else false
def deadVs (h : Hp) : List Va -> Bool
 | [] => false
 | v :: l => deadV h v || deadVs h l
end
theorem deadV_eq (h : Hp) (v : Va) : deadV h v = if v.kind = 7 then (match h.obs[v.num.toNat]? with | some o => decide (o.state = 3) | none => false) else if v.kind = 8 then (match h.bus[v.num.toNat]? with | some b => decide (b.count = 0) | none => false) else if hasK v.kind then deadVs h v.parts else false := by
 cases v; rw [deadV]; rfl
theorem deadVs_step {h : Hp} {l : List Va} {j : Nat} {v : Va} (hj : l[j]? = some v) : deadVs h (l.drop j) = (deadV h v || deadVs h (l.drop (j + 1))) := by
 obtain ⟨h1, e1⟩ := List.getElem?_eq_some_iff.1 hj
 rw [List.drop_eq_getElem_cons h1, e1, deadVs]
def w64 (x : Int) : Int := IntKind.i64.wrap x
def addC (by_ : Int) (o : Ob) : Ob := { o with count := w64 (o.count + by_) }
def addW (by_ : Int) (o : Ob) : Ob := { o with weak := w64 (o.weak + by_) }
def addB (by_ : Int) (b : Bu) : Bu := { b with count := w64 (b.count + by_) }
mutual
def cntV (by_ : Int) : Va -> Hp -> Hp
 | .node k n _ _ _ l, h =>
  if k = 7 then { h with obs := h.obs.modify n.toNat (addC by_) }
  else if k = 11 then { h with obs := h.obs.modify n.toNat (addW by_) }
  else if k = 8 then { h with bus := h.bus.modify n.toNat (addB by_) }
  else if hasK k then cntVs by_ l h else h
def cntVs (by_ : Int) : List Va -> Hp -> Hp
 | [], h => h
 | v :: l, h => cntVs by_ l (cntV by_ v h)
end
theorem cntV_eq (by_ : Int) (v : Va) (h : Hp) : cntV by_ v h = if v.kind = 7 then { h with obs := h.obs.modify v.num.toNat (addC by_) } else if v.kind = 11 then { h with obs := h.obs.modify v.num.toNat (addW by_) } else if v.kind = 8 then { h with bus := h.bus.modify v.num.toNat (addB by_) } else if hasK v.kind then cntVs by_ v.parts h else h := by
 cases v; rw [cntV]; rfl
theorem cntVs_cat (by_ : Int) : ∀ (l m : List Va) (h : Hp), cntVs by_ (l ++ m) h = cntVs by_ m (cntVs by_ l h)
 | [], _, _ => rfl
 | v :: l, m, h => by simp only [List.cons_append, cntVs]; exact cntVs_cat by_ l m _
theorem cntVs_take {by_ : Int} {l : List Va} {j : Nat} {v : Va} (hj : l[j]? = some v) (h : Hp) : cntVs by_ (l.take (j + 1)) h = cntV by_ v (cntVs by_ (l.take j) h) := by
 rw [List.take_add_one, hj, cntVs_cat]; rfl
def takenV (h : Hp) (l : List Va) : List Va := l.map fun v => if ofV h.obs.length h.bus.length v then v else va0
def laterV (l : List Va) : List Tk := l.reverse.map .val
def stepV' (h : Hp) (l : List Tk) : Tk -> Hp × List Tk × Option Va
 | .flds o i =>
  match h.obs[o]? with
  | some ob =>
   match ob.fields[i]? with
   | some v => (h, l ++ [.flds o (i + 1), .val v], none)
   | none => ({ h with obs := h.obs.modify o fun ob => { ob with fields := List.replicate ob.fields.length va0, state := 3 } }, l, none)
  | none => (h, l, none)
 | .val v =>
  if v.kind = 7 then
   match h.obs[v.num.toNat]? with
   | some ob =>
    if w64 (ob.count + -1) ≠ 0 ∨ ob.state ≠ 1 then ({ h with obs := h.obs.modify v.num.toNat (addC (-1)) }, l, none)
    else ({ h with obs := h.obs.modify v.num.toNat fun ob => { addC (-1) ob with state := 2 } }, l ++ [.flds v.num.toNat 0], if h.dei.contains ob.t.name then some (.node 7 v.num ⟨#[]⟩ ob.t [] []) else none)
   | none => (h, l, none)
  else if v.kind = 11 then ({ h with obs := h.obs.modify v.num.toNat (addW (-1)) }, l, none)
  else if v.kind = 8 then
   match h.bus[v.num.toNat]? with
   | some b =>
    if w64 (b.count + -1) = 0 then ({ h with bus := h.bus.modify v.num.toNat fun b => { addB (-1) b with elems := [] } }, l ++ laterV b.elems, none)
    else ({ h with bus := h.bus.modify v.num.toNat (addB (-1)) }, l, none)
   | none => (h, l, none)
  else if v.kind = 5 then (h, l ++ laterV v.parts, if h.dei.contains v.typ.name then some v else none)
  else if hasK v.kind then (h, l ++ laterV v.parts, none)
  else (h, l, none)
open Go.RowKit Go.Proofs.Ytpamocglecangaa.Nm
def Nine (w : World) (D : Nat -> Prop) (A : Option Addr) (i : Nat) (row : Array Value) : Prop :=
 ∃ (b off : Nat) (Cs : Array Value) (t : TypeId) (fr : Nat × Nat), A = some ⟨b, off, none⟩ /\ D b /\ w.heap[b]? = some (.cells Cs t fr) /\ Cs.extract (off + i * 9) (off + i * 9 + 9) = row
def cell9 (k n : Int) (s : ByteArray) (r : Array Value) (A2 : Option Addr) (l2 c2 : Nat) (A3 : Option Addr) (l3 c3 : Nat) : Array Value := #[.int .i64 k, .int .i64 n, .string s] ++ r ++ #[.slice A2 l2 c2, .slice A3 l3 c3]
inductive VAt (w : World) (D : Nat -> Prop) : Va -> Array Value -> Prop where
 | mk {k n : Int} {s : ByteArray} {t : Ty} {ts : List Ty} {l : List Va} {r : Array Value} {A2 : Option Addr} {l2 c2 : Nat} {A3 : Option Addr} {l3 c3 : Nat} (rows : Nat -> Array Value)
   (hk : (Lit.int .i64 k).wf = true) (hn : (Lit.int .i64 n).wf = true) (hs : s.size <= maxLen) (ht : TyAt w D t r) (hts : TysAt w D ts A2 l2 c2) (hl : l.length = l3) (hc : l3 <= c3) (hm : c3 <= maxLen)
   (hf : ∀ i v, l[i]? = some v -> Nine w D A3 i (rows i)) (hv : ∀ i v, l[i]? = some v -> VAt w D v (rows i)) : VAt w D (.node k n s t ts l) (cell9 k n s r A2 l2 c2 A3 l3 c3)
structure VsAt (w : World) (D : Nat -> Prop) (l : List Va) (A : Option Addr) (n c : Nat) : Prop where
 len : l.length = n
 cap : n <= c
 max : c <= maxLen
 el : ∃ rows : Nat -> Array Value, (∀ i v, l[i]? = some v -> Nine w D A i (rows i)) /\ ∀ i v, l[i]? = some v -> VAt w D v (rows i)
theorem Nine.mono {w w' : World} {D D' : Nat -> Prop} {A : Option Addr} {i : Nat} {row : Array Value} (h : Nine w D A i row) (hD : ∀ b, D b -> D' b) (hw : ∀ b, D b -> b < w.heap.size -> w'.heap[b]? = w.heap[b]?) : Nine w' D' A i row := by
 obtain ⟨b, off, Cs, t, fr, h1, h2, h3, h4⟩ := h
 exact ⟨b, off, Cs, t, fr, h1, hD b h2, by rw [hw b h2 (heap_lt h3), h3], h4⟩
theorem TysAt.lowT {w : World} {D : Nat -> Prop} {ts : List Ty} {A : Option Addr} {l c : Nat} (h : TysAt w D ts A l c) : TysAt w (fun b => D b /\ b < w.heap.size) ts A l c := by
 obtain ⟨h1, h2, h3, rows, h4, h5⟩ := h
 refine ⟨h1, h2, h3, rows, fun i t hi => ?_, fun i t hi => (h5 i t hi).low⟩
 obtain ⟨b, off, Cs, t', fr, g1, g2, g3, g4⟩ := h4 i t hi
 exact ⟨b, off, Cs, t', fr, g1, ⟨g2, heap_lt g3⟩, g3, g4⟩
theorem VAt.mono {w w' : World} {D D' : Nat -> Prop} {v : Va} {row : Array Value} (h : VAt w D v row) (hD : ∀ b, D b -> D' b) (hw : ∀ b, D b -> b < w.heap.size -> w'.heap[b]? = w.heap[b]?) : VAt w' D' v row := by
 induction h with
 | mk rows hk hn hs ht hts hl hc hm hf _ ih =>
  exact .mk rows hk hn hs ((ht.low.mono (fun _ h => h) fun b hb => hw b hb.1 hb.2).weak fun b hb => hD b hb.1) ((hts.lowT.mono (fun _ h => h) fun b hb => hw b hb.1 hb.2).weak fun b hb => hD b hb.1) hl hc hm (fun i v hi => (hf i v hi).mono hD hw) ih
theorem VAt.old {w w' : World} {D : Nat -> Prop} {v : Va} {row : Array Value} (h : VAt w D v row) (hb : Below w.heap.size w w') : VAt w' D v row := h.mono (fun _ h => h) fun b _ hl => hb.block b hl
theorem VAt.weak {w : World} {D D' : Nat -> Prop} {v : Va} {row : Array Value} (h : VAt w D v row) (hD : ∀ b, D b -> D' b) : VAt w D' v row := h.mono hD fun _ _ _ => rfl
theorem VAt.keep {C : Nat -> Prop} {w w' : World} {D : Nat -> Prop} {v : Va} {row : Array Value} (h : VAt w D v row) (hk : Keep C w w') (hD : ∀ b, D b -> ¬ C b) : VAt w' D v row := h.mono (fun _ h => h) fun b hb hl => hk.block b hl (hD b hb)
theorem VAt.low {w : World} {D : Nat -> Prop} {v : Va} {row : Array Value} (h : VAt w D v row) : VAt w (fun b => D b /\ b < w.heap.size) v row := by
 induction h with
 | mk rows hk hn hs ht hts hl hc hm hf _ ih =>
  refine .mk rows hk hn hs ht.low hts.lowT hl hc hm (fun i v hi => ?_) ih
  obtain ⟨b, off, Cs, t, fr, h1, h2, h3, h4⟩ := hf i v hi
  exact ⟨b, off, Cs, t, fr, h1, ⟨h2, heap_lt h3⟩, h3, h4⟩
theorem VsAt.mono {w w' : World} {D D' : Nat -> Prop} {l : List Va} {A : Option Addr} {n c : Nat} (h : VsAt w D l A n c) (hD : ∀ b, D b -> D' b) (hw : ∀ b, D b -> b < w.heap.size -> w'.heap[b]? = w.heap[b]?) : VsAt w' D' l A n c := by
 obtain ⟨h1, h2, h3, rows, h4, h5⟩ := h
 exact ⟨h1, h2, h3, rows, fun i v hi => (h4 i v hi).mono hD hw, fun i v hi => (h5 i v hi).mono hD hw⟩
theorem VsAt.old {w w' : World} {D : Nat -> Prop} {l : List Va} {A : Option Addr} {n c : Nat} (h : VsAt w D l A n c) (hb : Below w.heap.size w w') : VsAt w' D l A n c := h.mono (fun _ h => h) fun b _ hl => hb.block b hl
theorem VsAt.weak {w : World} {D D' : Nat -> Prop} {l : List Va} {A : Option Addr} {n c : Nat} (h : VsAt w D l A n c) (hD : ∀ b, D b -> D' b) : VsAt w D' l A n c := h.mono hD fun _ _ _ => rfl
theorem VsAt.keep {C : Nat -> Prop} {w w' : World} {D : Nat -> Prop} {l : List Va} {A : Option Addr} {n c : Nat} (h : VsAt w D l A n c) (hk : Keep C w w') (hD : ∀ b, D b -> ¬ C b) : VsAt w' D l A n c := h.mono (fun _ h => h) fun b hb hl => hk.block b hl (hD b hb)
theorem VsAt.low {w : World} {D : Nat -> Prop} {l : List Va} {A : Option Addr} {n c : Nat} (h : VsAt w D l A n c) : VsAt w (fun b => D b /\ b < w.heap.size) l A n c := by
 obtain ⟨h1, h2, h3, rows, h4, h5⟩ := h
 refine ⟨h1, h2, h3, rows, fun i v hi => ?_, fun i v hi => (h5 i v hi).low⟩
 obtain ⟨b, off, Cs, t, fr, g1, g2, g3, g4⟩ := h4 i v hi
 exact ⟨b, off, Cs, t, fr, g1, ⟨g2, heap_lt g3⟩, g3, g4⟩
theorem VsAt.nil (w : World) (D : Nat -> Prop) : VsAt w D [] none 0 0 := ⟨rfl, Nat.le_refl _, Nat.zero_le _, fun _ => #[], fun i v h => by simp at h, fun i v h => by simp at h⟩
theorem VAt.parts {w : World} {D : Nat -> Prop} {v : Va} {row : Array Value} (h : VAt w D v row) : ∃ r A2 l2 c2 A3 l3 c3, row = cell9 v.kind v.num v.txt r A2 l2 c2 A3 l3 c3 /\ TyAt w D v.typ r /\ TysAt w D v.tys A2 l2 c2 /\ VsAt w D v.parts A3 l3 c3 /\ (Lit.int .i64 v.kind).wf = true /\ (Lit.int .i64 v.num).wf = true /\ v.txt.size <= maxLen := by
 cases h with
 | mk rows hk hn hs ht hts hl hc hm hf hv => exact ⟨_, _, _, _, _, _, _, rfl, ht, hts, ⟨hl, hc, hm, rows, hf, hv⟩, hk, hn, hs⟩
theorem VAt.of {w : World} {D : Nat -> Prop} {k n : Int} {s : ByteArray} {t : Ty} {ts : List Ty} {l : List Va} {r : Array Value} {A2 : Option Addr} {l2 c2 : Nat} {A3 : Option Addr} {l3 c3 : Nat} (hk : (Lit.int .i64 k).wf = true) (hn : (Lit.int .i64 n).wf = true) (hs : s.size <= maxLen) (ht : TyAt w D t r) (hts : TysAt w D ts A2 l2 c2) (hv : VsAt w D l A3 l3 c3) : VAt w D (.node k n s t ts l) (cell9 k n s r A2 l2 c2 A3 l3 c3) := by
 obtain ⟨h1, h2, h3, rows, h4, h5⟩ := hv
 exact .mk rows hk hn hs ht hts h1 h2 h3 h4 h5
theorem cell9_size {k n : Int} {s : ByteArray} {r : Array Value} {A2 : Option Addr} {l2 c2 : Nat} {A3 : Option Addr} {l3 c3 : Nat} (h : r.size = 4) : (cell9 k n s r A2 l2 c2 A3 l3 c3).size = 9 := by simp [cell9, h]
theorem VAt.size {w : World} {D : Nat -> Prop} {v : Va} {row : Array Value} (h : VAt w D v row) : row.size = 9 := by
 obtain ⟨r, A2, l2, c2, A3, l3, c3, rfl, ht, -⟩ := h.parts
 exact cell9_size ht.size
theorem r4_cells {w : World} {D : Nat -> Prop} {t : Ty} {r : Array Value} (h : TyAt w D t r) : ∃ k s n A l c, r = cell4 k s n A l c := by
 obtain ⟨k, s, n, A, l, c, ts, -, h2, -⟩ := h.parts
 exact ⟨k, s, n, A, l, c, h2⟩
theorem VAt.one {w : World} {D : Nat -> Prop} {v : Va} {row : Array Value} (h : VAt w D v row) : row.all (·.oneCell') = true := by
 obtain ⟨r, A2, l2, c2, A3, l3, c3, rfl, ht, -⟩ := h.parts
 obtain ⟨k, s, n, A, l, c, rfl⟩ := r4_cells ht
 simp [cell9, cell4, Value.oneCell']
structure VRow (w : World) (D : Nat -> Prop) (v : Va) (row : Array Value) (tr : Array Value) (A2 : Option Addr) (l2 c2 : Nat) (A3 : Option Addr) (l3 c3 : Nat) : Prop where
 eq : row = cell9 v.kind v.num v.txt tr A2 l2 c2 A3 l3 c3
 ty : TyAt w D v.typ tr
 tys : TysAt w D v.tys A2 l2 c2
 vs : VsAt w D v.parts A3 l3 c3
theorem VAt.row {w : World} {D : Nat -> Prop} {v : Va} {row : Array Value} (h : VAt w D v row) : ∃ tr A2 l2 c2 A3 l3 c3, VRow w D v row tr A2 l2 c2 A3 l3 c3 := by
 obtain ⟨r, A2, l2, c2, A3, l3, c3, h1, h2, h3, h4, -⟩ := h.parts
 exact ⟨r, A2, l2, c2, A3, l3, c3, h1, h2, h3, h4⟩
theorem u35 : Try.prog.underlying 35 = some (.struct (Try.prog.fieldsOf 35)) := by kernel_rfl
theorem u33 : Try.prog.underlying 33 = some (.slice 35) := by kernel_rfl
theorem info35 : (Try.prog.info? 35).map (·.size) = some 9 := by kernel_rfl
section
variable {w w' : World} {D : Nat -> Prop} {v : Va} {row tr : Array Value} {A2 : Option Addr} {l2 c2 : Nat} {A3 : Option Addr} {l3 c3 : Nat}
theorem VRow.at0 (h : VRow w D v row tr A2 l2 c2 A3 l3 c3) : row[0]? = some (.int .i64 v.kind) := by rw [h.eq]; obtain ⟨k, s, n, A, l, c, e⟩ := r4_cells h.ty; rw [e]; rfl
theorem VRow.at1 (h : VRow w D v row tr A2 l2 c2 A3 l3 c3) : row[1]? = some (.int .i64 v.num) := by rw [h.eq]; obtain ⟨k, s, n, A, l, c, e⟩ := r4_cells h.ty; rw [e]; rfl
theorem VRow.at2 (h : VRow w D v row tr A2 l2 c2 A3 l3 c3) : row[2]? = some (.string v.txt) := by rw [h.eq]; obtain ⟨k, s, n, A, l, c, e⟩ := r4_cells h.ty; rw [e]; rfl
theorem VRow.at7 (h : VRow w D v row tr A2 l2 c2 A3 l3 c3) : row[7]? = some (.slice A2 l2 c2) := by rw [h.eq]; obtain ⟨k, s, n, A, l, c, e⟩ := r4_cells h.ty; rw [e]; rfl
theorem VRow.at8 (h : VRow w D v row tr A2 l2 c2 A3 l3 c3) : row[8]? = some (.slice A3 l3 c3) := by rw [h.eq]; obtain ⟨k, s, n, A, l, c, e⟩ := r4_cells h.ty; rw [e]; rfl
theorem VRow.at3 (h : VRow w D v row tr A2 l2 c2 A3 l3 c3) : row.extract 3 7 = tr := by rw [h.eq]; obtain ⟨k, s, n, A, l, c, e⟩ := r4_cells h.ty; rw [e]; rfl
theorem VRow.size (h : VRow w D v row tr A2 l2 c2 A3 l3 c3) : row.size = 9 := by rw [h.eq]; exact cell9_size h.ty.size
end
section
variable {w w' : World} {D : Nat -> Prop} {v : Va} {row tr : Array Value} {A2 : Option Addr} {l2 c2 : Nat} {A3 : Option Addr} {l3 c3 : Nat} {p : Nat} {t : TypeId} {fr : Nat × Nat}
theorem vk (hp : w.heap[p]? = some (.cells row t fr)) (h : Hid (VRow w' D v row tr A2 l2 c2 A3 l3 c3)) : OneAt w 3 ⟨p, 0, none⟩ (.int .i64 v.kind) := one_of u3 rfl (by rw [cell_of_row _ _ _ _ _ _ hp]; exact h.out.at0)
theorem vn (hp : w.heap[p]? = some (.cells row t fr)) (h : Hid (VRow w' D v row tr A2 l2 c2 A3 l3 c3)) : OneAt w 3 ⟨p, 1, none⟩ (.int .i64 v.num) := one_of u3 rfl (by rw [cell_of_row _ _ _ _ _ _ hp]; exact h.out.at1)
theorem vs (hp : w.heap[p]? = some (.cells row t fr)) (h : Hid (VRow w' D v row tr A2 l2 c2 A3 l3 c3)) : OneAt w 9 ⟨p, 2, none⟩ (.string v.txt) := one_of u9 rfl (by rw [cell_of_row _ _ _ _ _ _ hp]; exact h.out.at2)
theorem vts (hp : w.heap[p]? = some (.cells row t fr)) (h : Hid (VRow w' D v row tr A2 l2 c2 A3 l3 c3)) : OneAt w 30 ⟨p, 7, none⟩ (.slice A2 l2 c2) := one_of u22 rfl (by rw [cell_of_row _ _ _ _ _ _ hp]; exact h.out.at7)
theorem vl (hp : w.heap[p]? = some (.cells row t fr)) (h : Hid (VRow w' D v row tr A2 l2 c2 A3 l3 c3)) : OneAt w 33 ⟨p, 8, none⟩ (.slice A3 l3 c3) := one_of u33 rfl (by rw [cell_of_row _ _ _ _ _ _ hp]; exact h.out.at8)
theorem vt (hp : w.heap[p]? = some (.cells row t fr)) (h : Hid (VRow w' D v row tr A2 l2 c2 A3 l3 c3)) : RowAt w 32 ⟨p, 3, none⟩ tr := row_mid (n := 4) hp h.out.at3 u24 rfl h.out.ty.size info24
theorem vrow (hp : w.heap[p]? = some (.cells row t fr)) (h : Hid (VRow w' D v row tr A2 l2 c2 A3 l3 c3)) : RowAt w 35 ⟨p, 0, none⟩ row := row_mid (n := 9) hp (by have := h.out.size; simp [<- this]) u35 rfl h.out.size info35
end
theorem run_box35 (row : Array Value) (w : World) : (Instr.box 35 (.agg row)).run Try.prog w = .ok (.pointer (some ⟨w.heap.size, 0, none⟩)) (w.alloc (.cells row 35)) := by kernel_rfl
open Go.RowKit Go.Proofs.Ytpamocglecangaa.Nm
set_option linter.unusedSimpArgs false
def zrow : Array Value := #[.int .i64 0, .int .i64 0, .string ⟨#[]⟩, .int .i64 0, .string ⟨#[]⟩, .int .i64 0, .slice none 0 0, .slice none 0 0, .slice none 0 0]
theorem zero_ty (w : World) (D : Nat -> Prop) : TyAt w D zeroTy (cell4 0 ⟨#[]⟩ 0 none 0 0) := TyAt.of (by rfl) (by rfl) (Nat.zero_le _) (TysAt.nil w D)
theorem zero_va (w : World) (D : Nat -> Prop) : VAt w D va0 zrow := VAt.of (by rfl) (by rfl) (Nat.zero_le _) (zero_ty w D) (TysAt.nil w D) (VsAt.nil w D)
theorem ex_boxV {ev : Operand -> Value} {o : Oper} {w : World} (x : Operand) (ho : o.op = .box 35 x) {row : Array Value} (hx : ev x = .agg row) :
  (execOp ev o).run Try.prog w = .ok (.value (.pointer (some ⟨w.heap.size, 0, none⟩))) (w.alloc (.cells row 35)) := by
 unfold execOp
 simp [ho, hx, run_box35 row w, Result.andThen]
theorem ex_allV {o : Oper} (ho : o.op = .alloc 35) (ev : Operand -> Value) (w : World) : (execOp ev o).run Try.prog w = .ok (.value (.pointer (some ⟨w.heap.size, 0, none⟩))) (w.alloc (.cells zrow 35)) := by
 unfold execOp
 simp only [ho]
 kernel_rfl
theorem run_bsV9 (a0 a1 a2 a3 a4 a5 a6 a7 a8 : Value) (w : World) : (Instr.buildSlice 33 1 #[(0, .agg #[a0, a1, a2, a3, a4, a5, a6, a7, a8])]).run Try.prog w = .ok (.slice (some ⟨w.heap.size, 0, none⟩) 1 1) (w.alloc (.cells #[a0, a1, a2, a3, a4, a5, a6, a7, a8] 35)) := by kernel_rfl
theorem run_bsV (row : Array Value) (h : row.size = 9) (w : World) : (Instr.buildSlice 33 1 #[(0, .agg row)]).run Try.prog w = .ok (.slice (some ⟨w.heap.size, 0, none⟩) 1 1) (w.alloc (.cells row 35)) := by
 obtain ⟨l⟩ := row
 match l, h with
 | [a0, a1, a2, a3, a4, a5, a6, a7, a8], _ => exact run_bsV9 a0 a1 a2 a3 a4 a5 a6 a7 a8 w
theorem ex_bsV {ev : Operand -> Value} {o : Oper} {w : World} (x : Operand) (ho : o.op = .buildSlice 33 1 #[(0, x)]) {row : Array Value} (hx : ev x = .agg row) (h : row.size = 9) :
  (execOp ev o).run Try.prog w = .ok (.value (.slice (some ⟨w.heap.size, 0, none⟩) 1 1)) (w.alloc (.cells row 35)) := by
 unfold execOp
 simp [ho, hx, run_bsV row h w, Result.andThen]
section
variable {ops : Array Oper} {rest : List Oper} {dst : Option Tmp} {ty ty' : TypeId} {x y : Operand} {pos : String} {after : Array Edge} {a : Act} {w : World} {Q : Exit -> Act -> World -> Prop}
theorem wl_boxV {row : Array Value} (hx : a.eval x = .agg row)
  (h : ∀ W p, Below w.heap.size w W -> w.heap.size <= p -> W.heap[p]? = some (.cells row 35 (0, 0)) -> wpList Try.prog ops Q rest (a.put dst (.pointer (some ⟨p, 0, none⟩))) W) :
  wpList Try.prog ops Q (⟨dst, .box 35 x, ty', pos, after, none⟩ :: rest) a w :=
 wl_w rfl (ex_boxV x rfl hx) (h _ _ ((Below.refl _ w).alloc (Nat.le_refl _) _) (Nat.le_refl _) (ha_new rfl))
theorem wl_allV (h : ∀ W p, Below w.heap.size w W -> w.heap.size <= p -> W.heap[p]? = some (.cells zrow 35 (0, 0)) -> wpList Try.prog ops Q rest (a.put dst (.pointer (some ⟨p, 0, none⟩))) W) :
  wpList Try.prog ops Q (⟨dst, .alloc 35, ty', pos, after, none⟩ :: rest) a w :=
 wl_w rfl (ex_allV rfl _ w) (h _ _ ((Below.refl _ w).alloc (Nat.le_refl _) _) (Nat.le_refl _) (ha_new rfl))
theorem wl_bsV {row : Array Value} (hx : a.eval x = .agg row) (hr : row.size = 9) (h : ∀ W p, Below w.heap.size w W -> w.heap.size <= p -> W.heap[p]? = some (.cells row 35 (0, 0)) -> wpList Try.prog ops Q rest (a.put dst (.slice (some ⟨p, 0, none⟩) 1 1)) W) :
  wpList Try.prog ops Q (⟨dst, .buildSlice 33 1 #[(0, x)], ty', pos, after, none⟩ :: rest) a w :=
 wl_w rfl (ex_bsV x rfl hx hr) (h _ _ ((Below.refl _ w).alloc (Nat.le_refl _) _) (Nat.le_refl _) (ha_new rfl))
theorem wl_putV {row old : Array Value} {p : Nat} (hr : row.size = 9) (h1 : row.all (·.oneCell') = true) (ho : old.size = 9) (hx : a.eval x = .pointer (some ⟨p, 0, none⟩)) (hy : a.eval y = .agg row) (hp : w.heap[p]? = some (.cells old 35 (0, 0)))
  (h : ∀ W, (∀ B w0, B <= p -> Below B w0 w -> Below B w0 W) -> W.heap.size = w.heap.size -> (∀ g, g ≠ p -> W.heap[g]? = w.heap[g]?) -> W.heap[p]? = some (.cells row 35 (0, 0)) -> wpList Try.prog ops Q rest (a.put none undef) W) :
  wpList Try.prog ops Q (⟨none, .store 35 x y, ty', pos, after, none⟩ :: rest) a w := by
 refine wpList_plain rfl fun _ hK => wp_store_row 35 x y rfl p row hx hy 35 _ hp (by rw [info35, hr]) (by rw [hr, ho]) h1 (hK _ _ ?_)
 exact h _ (fun B w0 hB hb => below_setRow hb hB _) (by simp) (fun g hg => setRow_other w p g _ hg) (hr_new hp)
end
theorem VsAt.get {w : World} {D : Nat -> Prop} {l : List Va} {A : Option Addr} {n c : Nat} (h : VsAt w D l A n c) {i : Nat} (hi : i < n) {C : Nat -> Prop} (hD : ∀ b, D b -> ¬ C b) :
  ∃ b off v row, A = some ⟨b, off, none⟩ /\ D b /\ l[i]? = some v /\ VAt w D v row /\ ∀ w', Keep C w w' -> RowAt w' 35 ⟨b, off + i * 9, none⟩ row := by
 obtain ⟨h1, h2, h3, rows, h4, h5⟩ := h
 have hv : l[i]? = some l[i] := List.getElem?_eq_getElem (by omega)
 obtain ⟨b, off, Cs, t, fr, e1, e2, e3, e4⟩ := h4 i _ hv
 exact ⟨b, off, _, rows i, e1, e2, hv, h5 i _ hv, fun w' hk => row_mid (n := 9) (hk.look e3 (hD _ e2)) e4 u35 rfl (h5 i _ hv).size info35⟩
theorem VsAt.getB {w : World} {D : Nat -> Prop} {l : List Va} {A : Option Addr} {n c : Nat} (h : VsAt w D l A n c) {i : Nat} (hi : i < n) :
  ∃ b off v row, A = some ⟨b, off, none⟩ /\ D b /\ l[i]? = some v /\ VAt w D v row /\ ∀ w', Below w.heap.size w w' -> RowAt w' 35 ⟨b, off + i * 9, none⟩ row := by
 obtain ⟨h1, h2, h3, rows, h4, h5⟩ := h
 have hv : l[i]? = some l[i] := List.getElem?_eq_getElem (by omega)
 obtain ⟨b, off, Cs, t, fr, e1, e2, e3, e4⟩ := h4 i _ hv
 exact ⟨b, off, _, rows i, e1, e2, hv, h5 i _ hv, fun w' hk => row_mid (n := 9) (below_look hk e3) e4 u35 rfl (h5 i _ hv).size info35⟩
def loopT (most : Nat) : List Ty -> Nat -> Nat
 | [], n => n
 | t :: l, n => if n < most then loopT most l (n + min t.nodes (most - n + 1)) else n
mutual
def nodesV : Va -> Nat -> Nat
 | .node _ _ _ t ts l, most => loopV l most (loopT most ts (1 + min t.nodes (most + 1)))
def loopV : List Va -> Nat -> Nat -> Nat
 | [], _, n => n
 | v :: l, most, n => if n < most then loopV l most (n + nodesV v (most - n)) else n
end
theorem nodesV_eq (v : Va) (most : Nat) : nodesV v most = loopV v.parts most (loopT most v.tys (1 + min v.typ.nodes (most + 1))) := by cases v; rw [nodesV]; rfl
theorem loopT_le {most : Nat} : ∀ (l : List Ty) (n : Nat), n <= loopT most l n /\ loopT most l n <= max n (most + 1)
 | [], n => by simp only [loopT]; omega
 | t :: l, n => by
  simp only [loopT]
  split
  ·have := loopT_le (most := most) l (n + min t.nodes (most - n + 1)); omega
  ·omega
theorem nodesV_le : ∀ (v : Va) (most : Nat), 1 <= nodesV v most /\ nodesV v most <= most + 2 := Va.ind fun v ih most => by
 have hl : ∀ (l : List Va), (∀ u, u ∈ l -> ∀ m, 1 <= nodesV u m /\ nodesV u m <= m + 2) -> ∀ n, n <= most + 2 -> n <= loopV l most n /\ loopV l most n <= most + 2 := by
  intro l
  induction l with
  | nil => intro _ n hn; simp only [loopV]; omega
  | cons u l ihl =>
   intro h n hn
   simp only [loopV]
   split
   ·have h1 := h u (by simp) (most - n)
    have h2 := ihl (fun u hu => h u (by simp [hu])) (n + nodesV u (most - n)) (by omega)
    omega
   ·omega
 rw [nodesV_eq]
 have h1 := loopT_le (most := most) v.tys (1 + min v.typ.nodes (most + 1))
 have h2 := hl v.parts ih (loopT most v.tys (1 + min v.typ.nodes (most + 1))) (by omega)
 have := nodes_pos v.typ
 omega
theorem loopT_step {most : Nat} {l : List Ty} {j n : Nat} {t : Ty} (h : l[j]? = some t) (hn : n < most) : loopT most (l.drop j) n = loopT most (l.drop (j + 1)) (n + min t.nodes (most - n + 1)) := by
 obtain ⟨h1, e1⟩ := List.getElem?_eq_some_iff.1 h
 rw [List.drop_eq_getElem_cons h1, e1, loopT, if_pos hn]
theorem loopT_stop {most : Nat} {l : List Ty} {n : Nat} (hn : ¬ n < most) : loopT most l n = n := by
 cases l with
 | nil => rfl
 | cons t l => rw [loopT, if_neg hn]
theorem loopV_step {most : Nat} {l : List Va} {j n : Nat} {v : Va} (h : l[j]? = some v) (hn : n < most) : loopV (l.drop j) most n = loopV (l.drop (j + 1)) most (n + nodesV v (most - n)) := by
 obtain ⟨h1, e1⟩ := List.getElem?_eq_some_iff.1 h
 rw [List.drop_eq_getElem_cons h1, e1, loopV, if_pos hn]
theorem loopV_stop {most : Nat} {l : List Va} {n : Nat} (hn : ¬ n < most) : loopV l most n = n := by
 cases l with
 | nil => simp only [loopV]
 | cons t l => rw [loopV, if_neg hn]
def NodesC (v : Va) : Prop := ∀ (most : Nat), most <= 500 -> ∀ (w : World) (D : Nat -> Prop) (row : Array Value), VAt w D v row ->
 Calls Try.prog 40 #[.agg row, .int .i64 (most : Int)] w fun e w' => e = .returned (.int .i64 (nodesV v most : Int)) /\ Below w.heap.size w w'
theorem Nodes_any : ∀ v : Va, NodesC v := Va.ind fun v ih most hm w D row h => by
 obtain ⟨tr, A2, l2, c2, A3, l3, c3, hr⟩ := h.row
 have HR := Zi hr
 have HI := Zi ih
 have hcm2 := hr.tys.cap
 have hmx2 := hr.tys.max
 have hcm3 := hr.vs.cap
 have hmx3 := hr.vs.max
 unfold maxLen at hmx2 hmx3
 have HL2 := Zi hr.tys.len
 have HL3 := Zi hr.vs.len
 obtain ⟨tk, ts, tn, tA, tl, tc, htr⟩ := r4_cells hr.ty
 obtain ⟨n0, hn0⟩ : ∃ n, n = min v.typ.nodes (most + 1) := ⟨_, rfl⟩
 have HTN : Hid (∀ w', Below w.heap.size w w' -> Calls Try.prog 41 #[.agg tr, .int .i64 (most : Int)] w' fun e w2 => e = .returned (.int .i64 (n0 : Int)) /\ Below w'.heap.size w' w2) := Zi fun w' hw => by rw [hn0]; exact TypeNodes_any most (by omega) v.typ w' _ _ (hr.ty.old hw)
 have HN0 := Zi hn0
 clear h hr ih htr hn0
 have hb := Below.refl w.heap.size w
 go_enter Try.func40, Try.ntmps40
 go_upto_region 0 with fail
 apply Zl
 (with_reducible refine wl_boxV rfl ?_); intro W p hbn hlp hp; replace hb := hb.trans (hbn.mono hb.size); clear hbn; simp only [Zq]
 refine Zm ?_
 obtain ⟨n1, hn1⟩ : ∃ n1, n1 = 1 + n0 := ⟨_, rfl⟩
 have hn1I : 1 + (n0 : Int) = (n1 : Int) := by omega
 have hn1w : IntKind.i64.wrap (n1 : Int) = (n1 : Int) := IntWalk.i64_in _ (by have := HN0.out; omega)
 have HN1 : Hid (n1 = 1 + min v.typ.nodes (most + 1)) := Zi (by rw [hn1, HN0.out])
 have HTW := Zi (HTN.out W hb)
 clear hn1
 go_upto_region 1 with fail
 apply Zl
 refine Zm ?_
 refine Zw rfl (vt (by assumption) (by assumption)) ?_
 refine Zm ?_
 refine Zn HTW.out ?_; rintro e w7 ⟨rfl, hb7⟩; refine ⟨_, rfl, ?_⟩; simp only [Zq]
 replace hp := below_look hb7 hp; replace hb := hb.trans (hb7.mono hb.size); clear hb7
 iterate 2 refine Zm ?_
 clear HTN HTW hn1I hn1w
 have HF0 : Hid (nodesV v most = loopV v.parts most (loopT most (v.tys.drop 0) n1)) := Zi (by rw [nodesV_eq, HN1.out]; rfl)
 have HB0 : Hid (n1 <= most + 2) := Zi (by have := HN1.out; omega)
 clear HN1 HN0
 go_upto_region 2 with fail
 apply Zl
 refine Zm ?_
 go_wp2_with fail
 go_loopw [5, 6] (fun s i wr => ∃ j n : Nat, j <= l2 /\ i = .int .i64 (j : Int) /\ s = .int .i64 (n : Int) /\ Hid (nodesV v most = loopV v.parts most (loopT most (v.tys.drop j) n)) /\ Hid (n <= most + 2) /\ Below w.heap.size w wr /\ wr.heap[p]? = some (.cells row 35 (0, 0))) (fun _ i _ => l2 - (intOf i).toNat)
 case atStart => exact ⟨0, n1, by omega, rfl, rfl, HF0, HB0, hb, hp⟩
 case round =>
  clear hb hp HF0 HB0
  obtain ⟨j, n, hj, rfl, rfl, HF, HBN, hb, hp⟩ := hrel
  go_upto_region 3 with fail
  by_cases hgo : j < l2 /\ n < most
  ·obtain ⟨hlt, hnm⟩ := hgo
   have hltI : (j : Int) < (l2 : Int) := by omega
   have hnmI : (n : Int) < (most : Int) := by omega
   obtain ⟨b, off, t, rowt, rfl, -, ht, -⟩ := (HR.out.tys.old hb).get hlt
   obtain ⟨rowt, hrt, htt⟩ := (HR.out.tys.old hb).rowK ht
   obtain ⟨m2, hm2⟩ : ∃ m2, m2 = most - n := ⟨_, rfl⟩
   obtain ⟨q, hq⟩ : ∃ q, q = min t.nodes (m2 + 1) := ⟨_, rfl⟩
   obtain ⟨n2, hn2⟩ : ∃ n2, n2 = n + q := ⟨_, rfl⟩
   have hc := TypeNodes_any m2 (by omega) t wr _ _ htt
   rw [<- hq] at hc
   have HC := Zi hc
   have hmI : (most : Int) - (n : Int) = (m2 : Int) := by omega
   have hmw : IntKind.i64.wrap (m2 : Int) = (m2 : Int) := IntWalk.i64_in _ (by omega)
   have hnI : (n : Int) + (q : Int) = (n2 : Int) := by omega
   have hnw : IntKind.i64.wrap (n2 : Int) = (n2 : Int) := IntWalk.i64_in _ (by omega)
   have HF2 : Hid (nodesV v most = loopV v.parts most (loopT most (v.tys.drop (j + 1)) n2)) := Zi (by rw [HF.out, loopT_step ht hnm, hn2, hq, hm2])
   have HB2 : Hid (n2 <= most + 2) := Zi (by omega)
   have HRT := Zi hrt
   clear hc hq hn2 hm2 ht htt hrt
   apply Zl
   iterate 2 refine Zm ?_
   refine Zo rfl (vts (by assumption) (by assumption)) ?_
   iterate 7 refine Zm ?_
   go_upto_region 5 with fail
   apply Zl
   iterate 2 refine Zm ?_
   refine Zo rfl (vts (by assumption) (by assumption)) ?_
   iterate 2 refine Zm ?_
   refine Zw rfl (HRT.out.now) ?_
   iterate 3 refine Zm ?_
   refine Zn HC.out ?_; rintro e w7 ⟨rfl, hb7⟩; refine ⟨_, rfl, ?_⟩; simp only [Zq]
   replace hp := below_look hb7 hp; replace hb := hb.trans (hb7.mono hb.size); clear hb7
   iterate 2 refine Zm ?_
   clear HC HF HBN HRT hmI hmw hnI hnw
   go_wp2_with fail
   go_roundw
   case rel => exact ⟨j + 1, n2, by omega, by go_num, rfl, HF2, HB2, hb, hp⟩
   case measure => simp [intOf]; omega
  ·have HS : Hid (nodesV v most = loopV (v.parts.drop 0) most n) := Zi (by
    rw [HF.out]
    by_cases h1 : n < most
    ·rw [List.drop_of_length_le (by rw [HL2.out]; omega)]; rfl
    ·rw [loopT_stop h1]; rfl)
   go_cut [22] (fun s22 wx => s22 = .bool false /\ Below w.heap.size w wx /\ wx.heap[p]? = some (.cells row 35 (0, 0)))
   case first =>
    by_cases hlt : j < l2
    ·have hltI : (j : Int) < (l2 : Int) := by omega
     have hnmI : ¬ (n : Int) < (most : Int) := by omega
     apply Zl
     iterate 2 refine Zm ?_
     refine Zo rfl (vts (by assumption) (by assumption)) ?_
     iterate 7 refine Zm ?_
     go_wp2_with fail
     go_meet
     exact ⟨rfl, hb, hp⟩
    ·have hltI : ¬ (j : Int) < (l2 : Int) := by omega
     apply Zl
     iterate 2 refine Zm ?_
     refine Zo rfl (vts (by assumption) (by assumption)) ?_
     iterate 3 refine Zm ?_
     iterate 3 ((first | ((with_reducible refine wl_skipU ?_ ?_ ?_); exact rfl; exact rfl) | ((with_reducible refine wl_skip ?_ ?_); exact rfl; simp only [Zq])))
     refine Zm ?_
     go_wp2_with fail
     go_meet
     exact ⟨rfl, hb, hp⟩
   case rest =>
    clear hb hp hgo HF hj
    obtain ⟨rfl, hb, hp⟩ := hcut
    go_wp2_with fail
    go_loopw [5, 7] (fun s i wr => ∃ j n : Nat, j <= l3 /\ i = .int .i64 (j : Int) /\ s = .int .i64 (n : Int) /\ Hid (nodesV v most = loopV (v.parts.drop j) most n) /\ Hid (n <= most + 2) /\ Below w.heap.size w wr /\ wr.heap[p]? = some (.cells row 35 (0, 0))) (fun _ i _ => l3 - (intOf i).toNat)
    case atStart => exact ⟨0, n, by omega, rfl, rfl, HS, HBN, hb, hp⟩
    case round =>
     clear hb hp HS HBN
     obtain ⟨j, n, hj, rfl, rfl, HF, HBN, hb, hp⟩ := hrel
     go_upto_region 7 with fail
     by_cases hgo : j < l3 /\ n < most
     ·obtain ⟨hlt, hnm⟩ := hgo
      have hltI : (j : Int) < (l3 : Int) := by omega
      have hnmI : (n : Int) < (most : Int) := by omega
      obtain ⟨b, off, u, rowu, rfl, -, hu, hua, hrow⟩ := (HR.out.vs.old hb).getB hlt
      obtain ⟨m2, hm2⟩ : ∃ m2, m2 = most - n := ⟨_, rfl⟩
      obtain ⟨q, hq⟩ : ∃ q, q = nodesV u m2 := ⟨_, rfl⟩
      obtain ⟨n2, hn2⟩ : ∃ n2, n2 = n + q := ⟨_, rfl⟩
      have hql := nodesV_le u m2
      rw [<- hq] at hql
      have hc := HI.out u (List.mem_of_getElem? hu) m2 (by omega) wr _ _ hua
      rw [<- hq] at hc
      have HC := Zi hc
      have hmI : (most : Int) - (n : Int) = (m2 : Int) := by omega
      have hmw : IntKind.i64.wrap (m2 : Int) = (m2 : Int) := IntWalk.i64_in _ (by omega)
      have hnI : (n : Int) + (q : Int) = (n2 : Int) := by omega
      have hnw : IntKind.i64.wrap (n2 : Int) = (n2 : Int) := IntWalk.i64_in _ (by omega)
      have HF2 : Hid (nodesV v most = loopV (v.parts.drop (j + 1)) most n2) := Zi (by rw [HF.out, loopV_step hu hnm, hn2, hq, hm2])
      have HB2 : Hid (n2 <= most + 2) := Zi (by omega)
      have HRT := Zi hrow
      clear hc hq hn2 hm2 hu hua hrow hql
      apply Zl
      iterate 2 refine Zm ?_
      refine Zo rfl (vl (by assumption) (by assumption)) ?_
      iterate 7 refine Zm ?_
      go_upto_region 9 with fail
      apply Zl
      iterate 2 refine Zm ?_
      refine Zo rfl (vl (by assumption) (by assumption)) ?_
      iterate 2 refine Zm ?_
      refine Zw rfl (HRT.out _ (Below.refl _ _)) ?_
      iterate 3 refine Zm ?_
      refine Zn HC.out ?_; rintro e w7 ⟨rfl, hb7⟩; refine ⟨_, rfl, ?_⟩; simp only [Zq]
      replace hp := below_look hb7 hp; replace hb := hb.trans (hb7.mono hb.size); clear hb7
      iterate 2 refine Zm ?_
      clear HC HF HBN HRT hmI hmw hnI hnw
      go_wp2_with fail
      go_roundw
      case rel => exact ⟨j + 1, n2, by omega, by go_num, rfl, HF2, HB2, hb, hp⟩
      case measure => simp [intOf]; omega
     ·have HS : Hid (nodesV v most = n) := Zi (by
       rw [HF.out]
       by_cases h1 : n < most
       ·rw [List.drop_of_length_le (by rw [HL3.out]; omega)]; simp only [loopV]
       ·rw [loopV_stop h1])
      go_cut [45] (fun s22 wx => s22 = .bool false /\ Below w.heap.size w wx)
      case first =>
       by_cases hlt : j < l3
       ·have hltI : (j : Int) < (l3 : Int) := by omega
        have hnmI : ¬ (n : Int) < (most : Int) := by omega
        apply Zl
        iterate 2 refine Zm ?_
        refine Zo rfl (vl (by assumption) (by assumption)) ?_
        iterate 7 refine Zm ?_
        go_wp2_with fail
        go_meet
        exact ⟨rfl, hb⟩
       ·have hltI : ¬ (j : Int) < (l3 : Int) := by omega
        apply Zl
        iterate 2 refine Zm ?_
        refine Zo rfl (vl (by assumption) (by assumption)) ?_
        iterate 3 refine Zm ?_
        iterate 3 ((first | ((with_reducible refine wl_skipU ?_ ?_ ?_); exact rfl; exact rfl) | ((with_reducible refine wl_skip ?_ ?_); exact rfl; simp only [Zq])))
        refine Zm ?_
        go_wp2_with fail
        go_meet
        exact ⟨rfl, hb⟩
      case rest =>
       clear hb hp hgo HF hj
       obtain ⟨rfl, hb⟩ := hcut
       go_wp2_with fail
       go_ret
       exact ⟨by rw [HS.out]; rfl, hb⟩
end Go.Proofs.Ytpamocglecangaa
