/- A region that draws its order, whose operations but for the last ones read, or call functions that hand back one value and keep the world in a class: one walk in the order of the text serves every order. -/
import Derived.Test.YtclainfdeghgnaaK1
import Derived.Deep.QuietTactic
import Derived.Deep.MidRow
import Derived.BigQuiet
import Derived.Lib.Hide
import Derived.Deep.Cut
namespace Go.Proofs.Ytclainfdeghgnaa.Nm
open Go.RowKit

section
variable {P : Program} {ops : Array Oper} {md : Region.Mode} {C : World → Prop}

def wpAnyK (P : Program) (md : Region.Mode) (ops : Array Oper) (C : World → Prop) (n : Nat) (L : Array Bool → Act → Prop) : Nat → Array Bool → Act → Prop
  | 0, listed, a => L listed a
  | f + 1, listed, a =>
    Region.ready md ops listed ≠ [] ∧ ∀ i ∈ Region.ready md ops listed, i < n ∧ qOp P ops C i (wpAnyK P md ops C n L f (listed.setIfInBounds i true)) a

theorem wpAny_of_headK {n g : Nat} {L : Array Bool → Act → Prop} {Q' : Exit → Act → World → Prop} (hL : ∀ listed a w, C w → L listed a → wpAny P md ops Q' g listed a w) :
    ∀ (f : Nat) (listed : Array Bool) (a : Act) (w : World), C w → wpAnyK P md ops C n L f listed a → wpAny P md ops Q' (f + g) listed a w
  | 0, listed, a, w, hw, h => by rw [Nat.zero_add]; exact hL _ _ _ hw h
  | f + 1, listed, a, w, hw, h => by
    rw [show f + 1 + g = (f + g) + 1 by omega]
    exact ⟨fun h0 => absurd h0 h.1, fun i hi => wpOp_of_qOp hw (fun a' w' hw' h' => wpAny_of_headK hL f _ a' w' hw' h') (h.2 i hi).2⟩

theorem wpAnyK_first {n i : Nat} {oi : Oper} {v : Value} {L : Array Bool → Act → Prop} (hi : ops[i]? = some oi) (hsel : ∀ (j : Nat) (o : Oper) cs b, ops[j]? = some o → o.op ≠ .select cs b)
    (hs : Region.sinkB md ops n = true) (hc : Region.chainB md ops n = true) (hn : n < ops.size) (hin : i < n)
    (hdone : ∀ listed a, L listed a → ∀ j ∈ Region.ready md ops listed, n ≤ j) :
    ∀ (f : Nat) (listed : Array Bool) (a : Act), HeadInv md ops n listed →
      (∀ j oj, ops[j]? = some oj → j ≠ i → listed.getD j true = false → (∀ e ∈ oj.after, Region.binds md e = true → e.on ≠ i) → oi.apart ops oj = true) →
      i ∈ Region.ready md ops listed → YieldsIn P ops C oi v a →
      wpAnyK P md ops C n L f (listed.setIfInBounds i true) (a.put oi.dst v) → wpAnyK P md ops C n L (f + 1) listed a := by
  intro f
  induction f with
  | zero =>
    intro listed a inv _ hr hy H
    have hun := (mem_ready.1 hr).1
    refine ⟨fun h => (by rw [h] at hr; cases hr), fun j hj => ?_⟩
    have hjn : j < n := by
      rcases Nat.lt_or_ge j n with h | h
      · exact h
      · exact absurd hj (tail_waits hs hc hn inv _ i rfl hin hun j h)
    refine ⟨hjn, ?_⟩
    by_cases hji : j = i
    · subst hji; exact hy.qOp hi H
    · have := hdone _ _ H j (ready_mono hj hji)
      omega
  | succ f ih =>
    intro listed a inv hfree hr hy H
    have hun := (mem_ready.1 hr).1
    refine ⟨fun h => (by rw [h] at hr; cases hr), fun j hj => ?_⟩
    have hjn : j < n := by
      rcases Nat.lt_or_ge j n with h | h
      · exact h
      · exact absurd hj (tail_waits hs hc hn inv _ i rfl hin hun j h)
    refine ⟨hjn, ?_⟩
    by_cases hji : j = i
    · subst hji; exact hy.qOp hi H
    · have h1 := (H.2 j (ready_mono hj hji)).2
      obtain ⟨hjun, oj, hoj, hall⟩ := mem_ready.1 hj
      have hnot : ∀ e ∈ oj.after, Region.binds md e = true → e.on ≠ i := fun e he hb heq => by
        have h1 := hall e he hb
        rw [heq, getD_both hun] at h1
        cases h1
      have h2 := qOp_put hoj (hfree j oj hoj hji hjun hnot) (fun cs b => hsel i oi cs b hi) (fun cs b => hsel j oj cs b hoj) hy h1
      have hfree' : ∀ k ok, ops[k]? = some ok → k ≠ i → (listed.setIfInBounds j true).getD k true = false →
          (∀ e ∈ ok.after, Region.binds md e = true → e.on ≠ i) → oi.apart ops ok = true := fun k ok hk hki hun hno => by
        refine hfree k ok hk hki ?_ hno
        by_cases hjk : j = k
        · subst hjk; exact hjun
        · rw [getD_set_ne true hjk] at hun; exact hun
      refine qOp_mono (fun a' h3 => ih (listed.setIfInBounds j true) a' (inv.set hj hjn) hfree' (ready_mono hr (Ne.symm hji)) h3.1 ?_) h2
      rw [Array.setIfInBounds_comm _ _ hji]
      exact h3.2

theorem wpAnyK_lex {n g : Nat} {Lq : Act → Prop} (hsel : Region.noSelect ops = true) (hs : Region.sinkB md ops n = true) (hc : Region.chainB md ops n = true) (hn : n < ops.size) :
    ∀ (l : List Oper) (k : Nat) (listed : Array Bool) (a : Act), (∀ j, j < l.length → l[j]? = ops[k + j]?) → k + l.length = n → HeadInv md ops n listed →
    Region.lexHead md ops g l.length k listed = true → wpQuiet P ops C Lq l a →
    wpAnyK P md ops C n (fun listed' a' => Region.seqB md ops g n listed' = true ∧ Lq a') l.length listed a
  | [], k, listed, a, _, hk, _, hB, h => by
    have : k = n := by simpa using hk
    subst this
    exact ⟨by simpa [Region.lexHead] using hB, h⟩
  | o :: l, k, listed, a, hl, hk, inv, hB, h => by
    have h0 : ops[k]? = some o := by simpa using (hl 0 (by simp)).symm
    simp only [List.length_cons, Region.lexHead, Bool.and_eq_true] at hB
    obtain ⟨⟨hr, hf⟩, hB'⟩ := hB
    have hkn : k < n := by simp only [List.length_cons] at hk; omega
    have hr' : k ∈ Region.ready md ops listed := by simpa using hr
    have hst : qOp P ops C k (wpQuiet P ops C Lq l) a := by unfold qOp; simp only [h0]; exact h
    obtain ⟨v, hy, hK⟩ := yieldsIn_of_qOp h0 hst
    exact wpAnyK_first h0 (Region.noSelect_spec hsel) hs hc hn hkn (fun listed' a' hL => seqB_ready hL.1) l.length listed a inv (Region.free_spec h0 hf) hr' hy
      (wpAnyK_lex hsel hs hc hn l (k + 1) _ _ (fun j hj => by have := hl (j + 1) (by simp; omega); simpa [Nat.add_assoc, Nat.add_comm 1 j] using this) (by simp only [List.length_cons] at hk; omega) (inv.set hr' hkn) hB' hK)

/-- The law. -/
theorem wp_region_tail {id : Nat} {Q : Exit → Act → World → Prop} {a : Act} {w : World} {l : List Oper} (C : World → Prop) (n : Nat) (hm : P.follows .mixedOrders = true) (hB : Region.lexTailB .any l.toArray n = true)
    (hC : C { w with drawn := w.drawn + 1 })
    (h : wpQuiet P l.toArray C (fun a' => ∀ w', C w' → wpList P l.toArray Q (l.drop n) a' w') (l.take n) a) : (Code.region id l.toArray true).wp P Q a w := by
  simp only [Region.lexTailB, Bool.and_eq_true, decide_eq_true_eq] at hB
  obtain ⟨⟨⟨⟨hsel, hn⟩, hs⟩, hc⟩, hlex⟩ := hB
  have hn' : n < l.length := by simpa using hn
  have htl : (l.take n).length = n := by simp; omega
  have hdl : (l.drop n).length = l.toArray.size - n := by simp
  have inv0 : HeadInv .any l.toArray n (Array.replicate l.toArray.size false) :=
    ⟨by simp, fun j oj _ hl => (by rw [getD_replicate_false] at hl; cases hl), fun t _ ht => getD_in (by simpa using ht) (getD_replicate_false _ _)⟩
  have H := wpAnyK_lex (C := C) (md := .any) (g := l.toArray.size - n) hsel hs hc hn (l.take n) 0 _ a (fun j hj => by
    have hj' : j < n := by rw [htl] at hj; exact hj
    simp [hj']) (by simpa using htl) inv0 (by rw [htl]; exact hlex) h
  refine wp_region_any hm ?_
  have := wpAny_of_headK (Q' := Q) (g := l.toArray.size - n) (fun listed a' w' hw' hL => by
    have := wpAny_of_seq (md := .any) (Q' := Q) (l.drop n) n listed a' w' (fun j => by simp [List.getElem?_drop]) (by rw [hdl]; exact hL.1) (hL.2 w' hw')
    rwa [hdl] at this) _ _ _ _ hC H
  rw [htl, show n + (l.toArray.size - n) = l.toArray.size by omega] at this
  exact this

/-- No tail: all operations quiet in the class. -/
theorem wp_region_class {id : Nat} {Q : Exit → Act → World → Prop} {a : Act} {w : World} {l : List Oper} (C : World → Prop) (hm : P.follows .mixedOrders = true) (hB : Region.lexB .any l.toArray = true) (hC : C { w with drawn := w.drawn + 1 })
    (h : wpQuiet P l.toArray C (fun a' => ∀ w', C w' → Q .normal a' w') l a) : (Code.region id l.toArray true).wp P Q a w :=
  wp_region_quiet (C := C) hm hB hC (by simpa using h)

/-- An operation that yields a value and leaves the world. -/
theorem wq_val {Q : Act → Prop} {a : Act} {o : Oper} {rest : List Oper} {v : Value} (hg : o.guard = none) (hv : ∀ w, C w → (execOp a.eval o).run P w = .ok (.value v) w)
    (h : wpQuiet P ops C Q rest (a.put o.dst v)) : wpQuiet P ops C Q (o :: rest) a := by
  unfold wpQuiet
  rw [if_pos (by simp [Region.wanted, hg])]
  exact ⟨v, fun w hw => by unfold Oper.quietAt; rw [hv w hw]; exact ⟨rfl, rfl⟩, h⟩
/-- A call. -/
theorem wq_call {Q : Act → Prop} {a : Act} {o : Oper} {rest : List Oper} {v : Value} {f : FuncId} {args : Array Value} (hg : o.guard = none) (hv : ∀ w, C w → (execOp a.eval o).run P w = .ok (.enter f args) w)
    (hc : ∀ w, C w → Calls P f args w fun e w' => e = .returned v ∧ C w')
    (h : wpQuiet P ops C Q rest (a.put o.dst v)) : wpQuiet P ops C Q (o :: rest) a := by
  unfold wpQuiet
  rw [if_pos (by simp [Region.wanted, hg])]
  exact ⟨v, fun w hw => by unfold Oper.quietAt; rw [hv w hw]; exact ⟨rfl, hc w hw⟩, h⟩
/-- A guarded operation, taken. -/
theorem wq_valG {Q : Act → Prop} {a : Act} {o : Oper} {rest : List Oper} {v : Value} (hg : Region.wanted o (yielded ops a.tmps) = true) (hv : ∀ w, C w → (execOp a.eval o).run P w = .ok (.value v) w)
    (h : wpQuiet P ops C Q rest (a.put o.dst v)) : wpQuiet P ops C Q (o :: rest) a := by
  unfold wpQuiet
  rw [if_pos hg]
  exact ⟨v, fun w hw => by unfold Oper.quietAt; rw [hv w hw]; exact ⟨rfl, rfl⟩, h⟩
theorem wq_callG {Q : Act → Prop} {a : Act} {o : Oper} {rest : List Oper} {v : Value} {f : FuncId} {args : Array Value} (hg : Region.wanted o (yielded ops a.tmps) = true) (hv : ∀ w, C w → (execOp a.eval o).run P w = .ok (.enter f args) w)
    (hc : ∀ w, C w → Calls P f args w fun e w' => e = .returned v ∧ C w')
    (h : wpQuiet P ops C Q rest (a.put o.dst v)) : wpQuiet P ops C Q (o :: rest) a := by
  unfold wpQuiet
  rw [if_pos hg]
  exact ⟨v, fun w hw => by unfold Oper.quietAt; rw [hv w hw]; exact ⟨rfl, hc w hw⟩, h⟩
/-- An operation that only reckons. -/
theorem wq_k {Q : Act → Prop} {a : Act} {o : Oper} {rest : List Oper} (hg : Region.wanted o (yielded ops a.tmps) = true)
    (h : ∀ K : Act → Prop, (∀ a', wpQuiet P ops C Q rest a' → K a') → ∃ v, (∀ w, (execOp a.eval o).run P w = .ok (.value v) w) ∧ K (a.put o.dst v)) : wpQuiet P ops C Q (o :: rest) a := by
  obtain ⟨v, hv, hk⟩ := h _ (fun _ h => h)
  exact wq_valG hg (fun w _ => hv w) hk
/-- A call, found by reckoning. -/
theorem wq_ck {Q : Act → Prop} {a : Act} {o : Oper} {rest : List Oper} (hg : Region.wanted o (yielded ops a.tmps) = true)
    (h : ∀ K : FuncId → Array Value → Prop, (∀ f args, (∃ v, (∀ w, C w → Calls P f args w fun e w' => e = .returned v ∧ C w') ∧ wpQuiet P ops C Q rest (a.put o.dst v)) → K f args) → ∃ f args, (∀ w, (execOp a.eval o).run P w = .ok (.enter f args) w) ∧ K f args) : wpQuiet P ops C Q (o :: rest) a := by
  obtain ⟨f, args, hv, v, hc, hk⟩ := h _ (fun _ _ h => h)
  exact wq_callG hg (fun w _ => hv w) hc hk
/-- A guarded operation, left out. -/
theorem wq_skip {Q : Act → Prop} {a : Act} {o : Oper} {rest : List Oper} (hg : Region.wanted o (yielded ops a.tmps) = false)
    (h : wpQuiet P ops C Q rest (a.put o.dst undef)) : wpQuiet P ops C Q (o :: rest) a := by
  unfold wpQuiet
  rw [if_neg (by simp [hg])]
  exact h
end

section
variable {P : Program}
/-- A whole row or struct, from an offset of a block that is known. -/
theorem ex_loadMid {ev : Operand → Value} {o : Oper} {w : World} (ty : TypeId) (x : Operand) (ho : o.op = .load ty x) (b off n : Nat) (hx : ev x = .pointer (some ⟨b, off, none⟩))
    {Cs : Array Value} {t : TypeId} {fr : Nat × Nat} (hb : w.heap[b]? = some (.cells Cs t fr)) {D : Array Value} (hD : Cs.extract off (off + n) = D) {d : TypeDesc}
    (hu : P.underlying ty = some d) (hd : d.isRow = true) (hn : D.size = n) (hi : (P.info? ty).map (·.size) = some n) :
    (execOp ev o).run P w = .ok (.value (.agg D)) w := by
  have h := World.rangeAt_of_block hb off n
  rw [hD] at h
  unfold execOp
  have := run_loadVar_mid (P := P) w b off ty D.toList d h hu hd (by rw [hi]; simp [hn])
  simp only [ho, hx, Instr.loadAt, Instr.sureAddr, Sem.run_bind, Sem.run_pure, Result.andThen_ok, this]
/-- One cell. -/
theorem ex_load1 {ev : Operand → Value} {o : Oper} {w : World} (ty : TypeId) (x : Operand) (ho : o.op = .load ty x) (ad : Addr) (hx : ev x = .pointer (some ad)) {v : Value} (hc : w.cell? ad = some v)
    {d : TypeDesc} (hu : P.underlying ty = some d) (hd : d.isRow = false) :
    (execOp ev o).run P w = .ok (.value v) w := by
  unfold execOp
  have hagg : (isAgg ty).run P w = .ok false w := by
    unfold isAgg
    rw [Sem.run_bind, run_underlying hu w]
    cases d <;> simp_all
  simp [ho, hx, Instr.loadAt, Instr.sureAddr, Sem.run_bind, Result.andThen_ok, loadVar, hagg, load, Sem.run, hc]
end

section
variable {P : Program}
/-- An operation of a plain region that yields a value and leaves the world. -/
theorem wl_val {ops : Array Oper} {rest : List Oper} {o : Oper} {a : Act} {w : World} {Q : Exit → Act → World → Prop} {v : Value} (hg : o.guard = none) (hv : (execOp a.eval o).run P w = .ok (.value v) w)
    (h : wpList P ops Q rest (a.put o.dst v) w) : wpList P ops Q (o :: rest) a w :=
  wpList_plain hg fun K hK => by unfold Oper.wp; rw [hv]; exact hK _ _ h
theorem wl_mid {ops : Array Oper} {rest : List Oper} {o : Oper} {a : Act} {w : World} {Q : Exit → Act → World → Prop} (hg : o.guard = none) (ty : TypeId) (x : Operand) (ho : o.op = .load ty x) (b off n : Nat) (hx : a.eval x = .pointer (some ⟨b, off, none⟩))
    {Cs : Array Value} {t : TypeId} {fr : Nat × Nat} (hb : w.heap[b]? = some (.cells Cs t fr)) {D : Array Value} (hD : Cs.extract off (off + n) = D) {d : TypeDesc}
    (hu : P.underlying ty = some d) (hd : d.isRow = true) (hn : D.size = n) (hi : (P.info? ty).map (·.size) = some n)
    (h : wpList P ops Q rest (a.put o.dst (.agg D)) w) : wpList P ops Q (o :: rest) a w :=
  wl_val hg (ex_loadMid ty x ho b off n hx hb hD hu hd hn hi) h
end

section
variable {P : Program}
/-- The world of a goal under a name, with what is known of it. -/
theorem wp_world {c : Code} {Q : Exit → Act → World → Prop} {a : Act} {w : World} (F : World → Prop) (hF : F w) (h : ∀ W, F W → c.wp P Q a W) : c.wp P Q a w := h w hF
theorem wl_world {ops : Array Oper} {l : List Oper} {Q : Exit → Act → World → Prop} {a : Act} {w : World} (F : World → Prop) (hF : F w) (h : ∀ W, F W → wpList P ops Q l a W) : wpList P ops Q l a w := h w hF
/-- A drawn region whose last operations stand behind all others, in the class of worlds in which nothing old has turned. -/
theorem wp_region_below {id : Nat} {Q : Exit → Act → World → Prop} {a : Act} {w : World} {l : List Oper} (n : Nat) (hm : P.follows .mixedOrders = true) (hB : Region.lexTailB .any l.toArray n = true)
    (h : wpQuiet P l.toArray (fun w' => Below w.heap.size w w') (fun a' => ∀ w', Below w.heap.size w w' → wpList P l.toArray Q (l.drop n) a' w') (l.take n) a) : (Code.region id l.toArray true).wp P Q a w :=
  wp_region_tail (fun w' => Below w.heap.size w w') n hm hB ((Below.refl _ w).drew) h
theorem wp_region_belowAll {id : Nat} {Q : Exit → Act → World → Prop} {a : Act} {w : World} {l : List Oper} (hm : P.follows .mixedOrders = true) (hB : Region.lexB .any l.toArray = true)
    (h : wpQuiet P l.toArray (fun w' => Below w.heap.size w w') (fun a' => ∀ w', Below w.heap.size w w' → Q .normal a' w') l a) : (Code.region id l.toArray true).wp P Q a w :=
  wp_region_class (fun w' => Below w.heap.size w w') hm hB ((Below.refl _ w).drew) h
theorem put_lit (l : List Value) (df : List Deferred) (d : Nat) (v : Value) : (Act.mk l.toArray df).put (some d) v = Act.mk (l.set d v).toArray df := by simp [Act.put]
theorem put_none (a : Act) (v : Value) : a.put none v = a := rfl
theorem below_look {W w' : World} (h : Below W.heap.size W w') {g : Nat} {o : Obj} (ho : W.heap[g]? = some o) : w'.heap[g]? = some o := below_cells h (heap_lt ho) ho
theorem below_cell {W w' : World} (h : Below W.heap.size W w') {p : Addr} {v : Value} (hc : W.cell? p = some v) : w'.cell? p = some v := by rw [h.cell (block_lt_of_cell hc)]; exact hc
/-- A call in such a class: a contract that keeps what is old. -/
theorem calls_class {f : FuncId} {args : Array Value} {W w : World} {v : Value} (hw : Below W.heap.size W w) (h : Calls P f args w fun e w' => e = .returned v ∧ Below w.heap.size w w') :
    Calls P f args w fun e w' => e = .returned v ∧ Below W.heap.size W w' := h.mono fun _ _ ⟨he, hb⟩ => ⟨he, hw.trans (hb.mono hw.size)⟩
end

/-- Which of two rows of digits is the greater one: the difference of the first digits that part. -/
def cmpK (a b : Nat) : Nat → Int
  | 0 => 0
  | i + 1 => if dg a i = dg b i then cmpK a b i else (dg a i : Int) - dg b i
def cmpD (a b : Nat) : Int := cmpK a b 64
theorem cmpK_spec (a b : Nat) : ∀ k, (cmpK a b k < 0 → a % 10 ^ k < b % 10 ^ k) ∧ (cmpK a b k = 0 → a % 10 ^ k = b % 10 ^ k) ∧ (0 < cmpK a b k → b % 10 ^ k < a % 10 ^ k)
  | 0 => by simp [cmpK, Nat.mod_one]
  | k + 1 => by
    have ih := cmpK_spec a b k
    rw [mod_succ, mod_succ]
    have h1 := Nat.mod_lt a (p10 k)
    have h2 := Nat.mod_lt b (p10 k)
    unfold cmpK
    split
    · rename_i h; rw [h]
      exact ⟨fun x => by have := ih.1 x; omega, fun x => by have := ih.2.1 x; omega, fun x => by have := ih.2.2 x; omega⟩
    · rename_i h
      refine ⟨fun x => ?_, fun x => by omega, fun x => ?_⟩
      · have := Nat.mul_le_mul_left (10 ^ k) (show dg a k + 1 ≤ dg b k by omega); rw [Nat.mul_add] at this; omega
      · have := Nat.mul_le_mul_left (10 ^ k) (show dg b k + 1 ≤ dg a k by omega); rw [Nat.mul_add] at this; omega
theorem cmpD_spec {a b : Nat} (ha : a < 10 ^ 64) (hb : b < 10 ^ 64) : (cmpD a b < 0 ↔ a < b) ∧ (cmpD a b = 0 ↔ a = b) ∧ (0 < cmpD a b ↔ b < a) := by
  have h := cmpK_spec a b 64
  rw [Nat.mod_eq_of_lt ha, Nat.mod_eq_of_lt hb] at h
  unfold cmpD
  generalize cmpK a b 64 = c at *
  obtain ⟨h1, h2, h3⟩ := h
  rcases Int.lt_trichotomy c 0 with h | h | h
  · have := h1 h; omega
  · have := h2 h; omega
  · have := h3 h; omega
theorem cmpK_bd (a b : Nat) : ∀ k, -9 ≤ cmpK a b k ∧ cmpK a b k ≤ 9
  | 0 => by simp [cmpK]
  | k + 1 => by
    have := dg_lt a k; have := dg_lt b k
    unfold cmpK; split
    · exact cmpK_bd a b k
    · omega
theorem cmpD_bd (a b : Nat) : -9 ≤ cmpD a b ∧ cmpD a b ≤ 9 := cmpK_bd a b 64

/-- Below 0? -/
@[irreducible] def ng (z : Int) : Bool := decide (z < 0)
theorem ng_def (z : Int) : ng z = decide (z < 0) := by unfold ng; rfl
/-- A long number: its sign and its digits. -/
def lv (z : Int) : Array Value := #[.bool (ng z)] ++ dv z.natAbs
theorem lv_size (z : Int) : (lv z).size = 65 := by simp [lv, dv_size]
theorem lv_one (z : Int) : (lv z).all (·.oneCell') = true := by
  rw [Array.all_eq_true_iff_forall_mem]
  intro v hv
  simp only [lv, Array.mem_append] at hv
  rcases hv with hv | hv
  · simp at hv; subst hv; rfl
  · exact (Array.all_eq_true_iff_forall_mem.1 (dv_one z.natAbs)) v hv
theorem lv_neg (z : Int) : (lv z)[0]? = some (.bool (ng z)) := by unfold lv; rw [Array.getElem?_append_left (by simp)]; rfl
theorem lv_dig (z : Int) : (lv z).extract 1 (1 + 64) = dv z.natAbs := by
  unfold lv
  rw [Array.extract_append]
  simp [dv_size]
theorem dv_whole (n : Nat) : (dv n).extract 0 (0 + 64) = dv n := by rw [Array.extract_eq_self_of_le]; rw [dv_size]; omega
theorem lv_whole (z : Int) : (lv z).extract 0 (0 + 65) = lv z := by rw [Array.extract_eq_self_of_le]; rw [lv_size]; omega
/-- A number with a sign. -/
def sg (s : Bool) (n : Nat) : Int := if s then -(n : Int) else n
theorem lv_sg (s : Bool) (n : Nat) : lv (sg s n) = #[.bool (s && decide (n ≠ 0))] ++ dv n := by
  unfold lv sg
  simp only [ng_def]
  cases s
  · have : ¬ ((n : Int) < 0) := by omega
    simp [this]
  · have : (decide (-(n : Int) < 0)) = decide (n ≠ 0) := by rw [decide_eq_decide]; omega
    simp only [if_true, this, Int.natAbs_neg, Int.natAbs_natCast, Bool.true_and]
theorem row_whole (f : Nat → Nat) : (row f).extract 0 (0 + 64) = row f := by rw [Array.extract_eq_self_of_le]; rw [row_size]; omega
end Go.Proofs.Ytclainfdeghgnaa.Nm
