/- A region that draws its order and in which one new variable is made at whatever time, ahead of the last stores: all else reads, or calls functions that hand back one value and leave what is old. -/
import Derived.Test.YtclainfdeghgnaaK2
namespace Go.Proofs.Ytclainfdeghgnaa.Nm
open Go.RowKit

section
variable {P : Program} {ops : Array Oper} {md : Region.Mode} {C : World → Prop}

def stdUpon (P : Program) (w : World) (v : Value) : Result Next → Prop
  | .ok (.value u) w' => w' = w ∧ u = v
  | .ok .skip w' => w' = w ∧ v = undef
  | .ok (.enter f args) w' => w' = w ∧ Calls P f args w (fun e w'' => e = .returned v ∧ Below w.heap.size w w'')
  | _ => False
def stdAt (P : Program) (o : Oper) (a : Act) (C : World → Prop) (v : Value) : Prop := ∀ w, C w → stdUpon P w v ((execOp a.eval o).run P w)

def YieldsS (P : Program) (ops : Array Oper) (C : World → Prop) (o : Oper) (v : Value) (a : Act) : Prop :=
  (Region.wanted o (yielded ops a.tmps) = true ∧ stdAt P o a C v) ∨ (Region.wanted o (yielded ops a.tmps) = false ∧ v = undef)

def sOp (P : Program) (ops : Array Oper) (C : World → Prop) (i : Nat) (K : Act → Prop) (a : Act) : Prop :=
  ∃ o v, ops[i]? = some o ∧ YieldsS P ops C o v a ∧ K (a.put o.dst v)

theorem sOp_mono {i : Nat} {a : Act} {K K' : Act → Prop} (h : ∀ a, K a → K' a) (hh : sOp P ops C i K a) : sOp P ops C i K' a := by
  obtain ⟨o, v, h1, h2, h3⟩ := hh; exact ⟨o, v, h1, h2, h _ h3⟩

theorem YieldsS.of_same {o : Oper} {v : Value} {a a' : Act} (hy : YieldsS P ops C o v a) (he : execOp a'.eval o = execOp a.eval o)
    (hw : Region.wanted o (yielded ops a'.tmps) = Region.wanted o (yielded ops a.tmps)) : YieldsS P ops C o v a' := by
  unfold YieldsS stdAt at *
  rw [he, hw]
  exact hy

theorem sOp_put {j : Nat} {oi oj : Oper} {v : Value} (hj : ops[j]? = some oj) (hap : oi.apart ops oj = true)
    (hsi : ∀ cs b, oi.op ≠ .select cs b) (hsj : ∀ cs b, oj.op ≠ .select cs b) {K : Act → Prop} {a : Act}
    (hy : YieldsS P ops C oi v a) (h : sOp P ops C j K (a.put oi.dst v)) :
    sOp P ops C j (fun a' => YieldsS P ops C oi v a' ∧ K (a'.put oi.dst v)) a := by
  obtain ⟨h1, h2, h3⟩ := Oper.apart_spec hap
  obtain ⟨o, u, ho, hu, hk⟩ := h
  obtain rfl : oj = o := Option.some.inj (hj.symm.trans ho)
  refine ⟨oj, u, ho, hu.of_same (execOp_put oj hsj a oi.dst v h1).symm (wanted_put oj a oi.dst v h1).symm, ?_, ?_⟩
  · exact hy.of_same (execOp_put oi hsi a oj.dst u h3) (wanted_put oi a oj.dst u h3)
  · rw [← Act.put_comm a v u h2]; exact hk

def wpAnyS (P : Program) (md : Region.Mode) (ops : Array Oper) (C : World → Prop) (n : Nat) (L : Array Bool → Act → Prop) : Nat → Array Bool → Act → Prop
  | 0, listed, a => L listed a
  | f + 1, listed, a =>
    Region.ready md ops listed ≠ [] ∧ ∀ i ∈ Region.ready md ops listed, i < n ∧ sOp P ops C i (wpAnyS P md ops C n L f (listed.setIfInBounds i true)) a

theorem wpAnyS_first {n i : Nat} {oi : Oper} {v : Value} {L : Array Bool → Act → Prop} (hi : ops[i]? = some oi) (hsel : ∀ (j : Nat) (o : Oper) cs b, ops[j]? = some o → o.op ≠ .select cs b)
    (hs : Region.sinkB md ops n = true) (hc : Region.chainB md ops n = true) (hn : n < ops.size) (hin : i < n)
    (hdone : ∀ listed a, L listed a → ∀ j ∈ Region.ready md ops listed, n ≤ j) :
    ∀ (f : Nat) (listed : Array Bool) (a : Act), HeadInv md ops n listed →
      (∀ j oj, ops[j]? = some oj → j ≠ i → listed.getD j true = false → (∀ e ∈ oj.after, Region.binds md e = true → e.on ≠ i) → oi.apart ops oj = true) →
      i ∈ Region.ready md ops listed → YieldsS P ops C oi v a →
      wpAnyS P md ops C n L f (listed.setIfInBounds i true) (a.put oi.dst v) → wpAnyS P md ops C n L (f + 1) listed a := by
  intro f
  induction f with
  | zero =>
    intro listed a inv _ hr hy H
    have hun := (mem_ready.1 hr).1
    refine ⟨fun h => (by rw [h] at hr; cases hr), fun j hj => ?_⟩
    have hjn : j < n := by
      rcases Nat.lt_or_ge j n with h | h
      · exact h
      · exact absurd hj (tail_waits hs hc hn inv _ i rfl hin hun j h)
    refine ⟨hjn, ?_⟩
    by_cases hji : j = i
    · subst hji; exact ⟨oi, v, hi, hy, H⟩
    · have := hdone _ _ H j (ready_mono hj hji)
      omega
  | succ f ih =>
    intro listed a inv hfree hr hy H
    have hun := (mem_ready.1 hr).1
    refine ⟨fun h => (by rw [h] at hr; cases hr), fun j hj => ?_⟩
    have hjn : j < n := by
      rcases Nat.lt_or_ge j n with h | h
      · exact h
      · exact absurd hj (tail_waits hs hc hn inv _ i rfl hin hun j h)
    refine ⟨hjn, ?_⟩
    by_cases hji : j = i
    · subst hji; exact ⟨oi, v, hi, hy, H⟩
    · have h1 := (H.2 j (ready_mono hj hji)).2
      obtain ⟨hjun, oj, hoj, hall⟩ := mem_ready.1 hj
      have hnot : ∀ e ∈ oj.after, Region.binds md e = true → e.on ≠ i := fun e he hb heq => by
        have h1 := hall e he hb
        rw [heq, getD_both hun] at h1
        cases h1
      have h2 := sOp_put hoj (hfree j oj hoj hji hjun hnot) (fun cs b => hsel i oi cs b hi) (fun cs b => hsel j oj cs b hoj) hy h1
      have hfree' : ∀ k ok, ops[k]? = some ok → k ≠ i → (listed.setIfInBounds j true).getD k true = false →
          (∀ e ∈ ok.after, Region.binds md e = true → e.on ≠ i) → oi.apart ops ok = true := fun k ok hk hki hun hno => by
        refine hfree k ok hk hki ?_ hno
        by_cases hjk : j = k
        · subst hjk; exact hjun
        · rw [getD_set_ne true hjk] at hun; exact hun
      refine sOp_mono (fun a' h3 => ih (listed.setIfInBounds j true) a' (inv.set hj hjn) hfree' (ready_mono hr (Ne.symm hji)) h3.1 ?_) h2
      rw [Array.setIfInBounds_comm _ _ hji]
      exact h3.2

/-- The walk in the order of the text. -/
def wpStd (P : Program) (ops : Array Oper) (C : World → Prop) (Q : Act → Prop) : List Oper → Act → Prop
  | [], a => Q a
  | o :: rest, a => ∃ v, YieldsS P ops C o v a ∧ wpStd P ops C Q rest (a.put o.dst v)

def lexHeadF (md : Region.Mode) (ops : Array Oper) (g n : Nat) : Nat → Nat → Array Bool → Bool
  | 0, _, listed => Region.seqB md ops g n listed
  | f + 1, k, listed => (Region.ready md ops listed).contains k && Region.free md ops listed k && lexHeadF md ops g n f (k + 1) (listed.setIfInBounds k true)

theorem wpAnyS_lex {n g : Nat} {Lq : Act → Prop} (hsel : Region.noSelect ops = true) (hs : Region.sinkB md ops n = true) (hc : Region.chainB md ops n = true) (hn : n < ops.size) :
    ∀ (l : List Oper) (k : Nat) (listed : Array Bool) (a : Act), (∀ j, j < l.length → l[j]? = ops[k + j]?) → k + l.length ≤ n → HeadInv md ops n listed →
    lexHeadF md ops g n l.length k listed = true → wpStd P ops C Lq l a →
    wpAnyS P md ops C n (fun listed' a' => Region.seqB md ops g n listed' = true ∧ Lq a') l.length listed a
  | [], _, _, _, _, _, _, hB, h => ⟨by simpa [lexHeadF] using hB, h⟩
  | o :: l, k, listed, a, hl, hk, inv, hB, h => by
    have h0 : ops[k]? = some o := by simpa using (hl 0 (by simp)).symm
    simp only [List.length_cons, lexHeadF, Bool.and_eq_true] at hB
    obtain ⟨⟨hr, hf⟩, hB'⟩ := hB
    have hkn : k < n := by simp only [List.length_cons] at hk; omega
    have hr' : k ∈ Region.ready md ops listed := by simpa using hr
    obtain ⟨v, hy, hK⟩ := h
    exact wpAnyS_first h0 (Region.noSelect_spec hsel) hs hc hn hkn (fun listed' a' hL => seqB_ready hL.1) l.length listed a inv (Region.free_spec h0 hf) hr' hy
      (wpAnyS_lex hsel hs hc hn l (k + 1) _ _ (fun j hj => by have := hl (j + 1) (by simp; omega); simpa [Nat.add_assoc, Nat.add_comm 1 j] using this) (by simp only [List.length_cons] at hk; omega) (inv.set hr' hkn) hB' hK)

theorem wpOp_of_yields {C' : World → Prop} {i : Nat} {o : Oper} {v : Value} {a : Act} {w : World} {K : Act → World → Prop} {Q : Exit → Act → World → Prop} (hi : ops[i]? = some o) (hw : C w) (hcl : ∀ w'', Below w.heap.size w w'' → C' w'') (hw' : C' w)
    (hy : YieldsS P ops C o v a) (h : ∀ w'', C' w'' → K (a.put o.dst v) w'') : wpOp P ops Q i K a w := by
  unfold wpOp
  simp only [hi]
  rcases hy with ⟨h1, h2⟩ | ⟨h1, rfl⟩
  · rw [if_pos h1]
    refine .inl ?_
    have h3 := h2 w hw
    unfold Oper.wp
    generalize (execOp a.eval o).run P w = r at *
    cases r with
    | ok x w1 =>
      cases x <;> simp only [stdUpon] at h3 <;> simp only [Oper.upon]
      case value u => obtain ⟨rfl, rfl⟩ := h3; exact h _ hw'
      case skip => obtain ⟨rfl, rfl⟩ := h3; exact h _ hw'
      case enter f args => obtain ⟨rfl, hc⟩ := h3; exact hc.mono fun e w'' ⟨he, hb⟩ => by subst he; exact h _ (hcl _ hb)
    | halt x w1 => simp only [stdUpon] at h3
  · rw [if_neg (by simp [h1])]
    exact h _ hw'

/-- What stands behind the variable's making: the variable 'p' is there, with its first cells. -/
def Made (W : World) (z : Array Value) (ty : TypeId) (p : Nat) (w' : World) : Prop := Below W.heap.size W w' ∧ W.heap.size ≤ p ∧ w'.heap[p]? = some (.cells z ty (0, 0))
theorem Made.below {W : World} {z : Array Value} {ty : TypeId} {p : Nat} {w' w'' : World} (h : Made W z ty p w') (hb : Below w'.heap.size w' w'') : Made W z ty p w'' :=
  ⟨h.1.trans (hb.mono h.1.size), h.2.1, below_look hb h.2.2⟩

theorem phaseB {n m g : Nat} {om : Oper} {dm : Tmp} {L : Array Bool → Act → Prop} {Q' : Exit → Act → World → Prop} {W : World} {z : Array Value} {ty : TypeId} {p : Nat} (hsel : ∀ (j : Nat) (o : Oper) cs b, ops[j]? = some o → o.op ≠ .select cs b)
    (hmn : m < n) (hom : ops[m]? = some om) (hdm : om.dst = some dm) (hap : ∀ i o, i < n → i ≠ m → ops[i]? = some o → om.apart ops o = true)
    (hL : ∀ listed a w, Made W z ty p w → L listed a → wpAny P md ops Q' g listed (a.put (some dm) (.pointer (some ⟨p, 0, none⟩))) w) :
    ∀ (f : Nat) (listed : Array Bool) (a : Act) (w : World), listed.getD m true = true → Made W z ty p w → wpAnyS P md ops (fun w' => Below W.heap.size W w') n L f listed a →
      wpAny P md ops Q' (f + g) listed (a.put (some dm) (.pointer (some ⟨p, 0, none⟩))) w
  | 0, listed, a, w, _, hw, h => by rw [Nat.zero_add]; exact hL _ _ _ hw h
  | f + 1, listed, a, w, hm, hw, h => by
    rw [show f + 1 + g = (f + g) + 1 by omega]
    refine ⟨fun h0 => absurd h0 h.1, fun i hi => ?_⟩
    obtain ⟨hin, o, v, ho, hy, hk⟩ := h.2 i hi
    have hne : i ≠ m := fun e => by subst e; rw [(mem_ready.1 hi).1] at hm; cases hm
    obtain ⟨h1, h2, h3⟩ := Oper.apart_spec (hap i o hin hne ho)
    rw [hdm] at h1 h2
    have hy' : YieldsS P ops (fun w' => Below W.heap.size W w') o v (a.put (some dm) (.pointer (some ⟨p, 0, none⟩))) :=
      hy.of_same (execOp_put o (fun cs b => hsel i o cs b ho) a (some dm) _ h1) (wanted_put o a (some dm) _ h1)
    refine wpOp_of_yields (C' := Made W z ty p) ho hw.1 (fun w'' hb => hw.below hb) hw hy' fun w'' hw'' => ?_
    rw [Act.put_comm a _ v h2]
    refine phaseB hsel hmn hom hdm hap hL f _ _ w'' ?_ hw'' hk
    rw [getD_set_ne true hne]; exact hm

theorem phaseA {n m g : Nat} {om : Oper} {dm : Tmp} {Lq : Act → Prop} {Q' : Exit → Act → World → Prop} {W : World} {z : Array Value} {ty : TypeId} (hsel : ∀ (j : Nat) (o : Oper) cs b, ops[j]? = some o → o.op ≠ .select cs b)
    (hs : Region.sinkB md ops n = true) (hc : Region.chainB md ops n = true) (hn : n < ops.size)
    (hmn : m < n) (hom : ops[m]? = some om) (hdm : om.dst = some dm) (hgd : om.guard = none) (haf : om.after = #[]) (hap : ∀ i o, i < n → i ≠ m → ops[i]? = some o → om.apart ops o = true)
    (hal : ∀ ev w, (execOp ev om).run P w = .ok (.value (.pointer (some ⟨w.heap.size, 0, none⟩))) (w.alloc (.cells z ty)))
    (hL : ∀ p listed a w, Made W z ty p w → (Region.seqB md ops g n listed = true ∧ Lq a) → wpAny P md ops Q' g listed (a.put (some dm) (.pointer (some ⟨p, 0, none⟩))) w) :
    ∀ (f : Nat) (listed : Array Bool) (a : Act) (w : World), HeadInv md ops n listed → listed.getD m true = false → Below W.heap.size W w →
      wpAnyS P md ops (fun w' => Below W.heap.size W w') n (fun l a => Region.seqB md ops g n l = true ∧ Lq a) f (listed.setIfInBounds m true) a →
      wpAny P md ops Q' (f + 1 + g) listed a w := by
  intro f
  induction f with
  | zero =>
    intro listed a w inv hm hw h
    rw [show 0 + 1 + g = g + 1 by omega]
    have hmr : m ∈ Region.ready md ops listed := mem_ready.2 ⟨hm, om, hom, fun e he => by rw [haf] at he; simp at he⟩
    refine ⟨fun h0 => (by rw [h0] at hmr; cases hmr), fun i hi => ?_⟩
    by_cases hne : i = m
    · subst hne
      unfold wpOp
      simp only [hom]
      rw [if_pos (by simp [Region.wanted, hgd])]
      refine .inl ?_
      unfold Oper.wp
      rw [hal]
      simp only [Oper.upon, hdm]
      have := phaseB (g := g) (Q' := Q') hsel hmn hom hdm hap (hL w.heap.size) 0 (listed.setIfInBounds i true) a (w.alloc (.cells z ty)) (by
        have hlt : i < listed.size := by rw [inv.size]; omega
        simp [hlt]) ⟨hw.alloc hw.size _, hw.size, ha_new rfl⟩ h
      rwa [Nat.zero_add] at this
    · have h1 := seqB_ready h.1 i (ready_mono hi hne)
      exact absurd hi (tail_waits hs hc hn inv _ m rfl hmn hm i h1)
  | succ f ih =>
    intro listed a w inv hm hw h
    rw [show f + 1 + 1 + g = (f + 1 + g) + 1 by omega]
    have hmr : m ∈ Region.ready md ops listed := mem_ready.2 ⟨hm, om, hom, fun e he => by rw [haf] at he; simp at he⟩
    refine ⟨fun h0 => (by rw [h0] at hmr; cases hmr), fun i hi => ?_⟩
    by_cases hne : i = m
    · subst hne
      unfold wpOp
      simp only [hom]
      rw [if_pos (by simp [Region.wanted, hgd])]
      refine .inl ?_
      unfold Oper.wp
      rw [hal]
      simp only [Oper.upon, hdm]
      exact phaseB (g := g) (Q' := Q') hsel hmn hom hdm hap (hL w.heap.size) (f + 1) (listed.setIfInBounds i true) a (w.alloc (.cells z ty)) (by
        have hlt : i < listed.size := by rw [inv.size]; omega
        simp [hlt]) ⟨hw.alloc hw.size _, hw.size, ha_new rfl⟩ h
    · obtain ⟨hin, o, v, ho, hy, hk⟩ := h.2 i (ready_mono hi hne)
      refine wpOp_of_yields (C' := fun w' => Below W.heap.size W w') ho hw (fun w'' hb => hw.trans (hb.mono hw.size)) hw hy fun w'' hw'' => ?_
      refine ih _ _ _ (inv.set hi hin) ?_ hw'' ?_
      · rw [getD_set_ne true hne]; exact hm
      · rw [Array.setIfInBounds_comm _ _ hne]; exact hk

def floatB (ops : Array Oper) (m : Nat) : Bool :=
  Region.noSelect ops && decide (m + 1 < ops.size) && Region.sinkB .any ops (m + 1) && Region.chainB .any ops (m + 1) &&
  lexHeadF .any ops (ops.size - (m + 1)) (m + 1) m 0 ((Array.replicate ops.size false).setIfInBounds m true) &&
  (match ops[m]? with
   | some om => om.after.isEmpty && (List.range (m + 1)).all fun i => i == m || (match ops[i]? with | some o => om.apart ops o | none => true)
   | none => false)

/-- The law. -/
theorem wp_region_float {id : Nat} {Q : Exit → Act → World → Prop} {a : Act} {w : World} {l : List Oper} (m : Nat) (dm : Tmp) (z : Array Value) (ty : TypeId) (hm : P.follows .mixedOrders = true) (hB : floatB l.toArray m = true)
    (hom : ∃ om, l[m]? = some om ∧ om.dst = some dm ∧ om.guard = none ∧ ∀ ev w, (execOp ev om).run P w = .ok (.value (.pointer (some ⟨w.heap.size, 0, none⟩))) (w.alloc (.cells z ty)))
    (h : wpStd P l.toArray (fun w' => Below w.heap.size w w') (fun a' => ∀ p w', Made w z ty p w' → wpList P l.toArray Q (l.drop (m + 1)) (a'.put (some dm) (.pointer (some ⟨p, 0, none⟩))) w') (l.take m) a) : (Code.region id l.toArray true).wp P Q a w := by
  obtain ⟨om, hom, hdm, hgd, hal⟩ := hom
  have hom' : l.toArray[m]? = some om := by simpa using hom
  simp only [floatB, Bool.and_eq_true, decide_eq_true_eq, hom', List.all_eq_true, List.mem_range, Bool.or_eq_true, beq_iff_eq] at hB
  obtain ⟨⟨⟨⟨⟨hsel, hn⟩, hs⟩, hc⟩, hlex⟩, haf, hap⟩ := hB
  have haf' : om.after = #[] := by simpa using haf
  have hn' : m + 1 < l.length := by simpa using hn
  have htl : (l.take m).length = m := by simp; omega
  have hdl : (l.drop (m + 1)).length = l.toArray.size - (m + 1) := by simp
  have inv0 : HeadInv .any l.toArray (m + 1) (Array.replicate l.toArray.size false) :=
    ⟨by simp, fun j oj _ hl => (by rw [getD_replicate_false] at hl; cases hl), fun t _ ht => getD_in (by simpa using ht) (getD_replicate_false _ _)⟩
  have hm0 : (Array.replicate l.toArray.size false).getD m true = false := getD_in (by simp; omega) (getD_replicate_false _ _)
  have hmr : m ∈ Region.ready .any l.toArray (Array.replicate l.toArray.size false) := mem_ready.2 ⟨hm0, om, hom', fun e he => by rw [haf'] at he; simp at he⟩
  have inv1 := inv0.set hmr (by omega : m < m + 1)
  have H := wpAnyS_lex (P := P) (C := fun w' => Below w.heap.size w w') (md := .any) (g := l.toArray.size - (m + 1)) hsel hs hc hn (l.take m) 0 _ a (fun j hj => by
    have hj' : j < m := by rw [htl] at hj; exact hj
    simp [hj']) (by rw [htl]; omega) inv1 (by rw [htl]; exact hlex) h
  refine wp_region_any hm ?_
  have := phaseA (P := P) (Q' := Q) (g := l.toArray.size - (m + 1)) (W := w) (z := z) (ty := ty) (Region.noSelect_spec hsel) hs hc hn (by omega) hom' hdm hgd haf' (fun i o hi hne ho => by
      have := hap i hi
      rcases this with h | h
      · exact absurd h hne
      · simpa [ho] using h) hal (fun p listed a' w' hw' hL => by
    have := wpAny_of_seq (md := .any) (Q' := Q) (l.drop (m + 1)) (m + 1) listed _ w' (fun j => by simp [List.getElem?_drop]) (by rw [hdl]; exact hL.1) (hL.2 p w' hw')
    rwa [hdl] at this) _ _ a { w with drawn := w.drawn + 1 } inv0 hm0 ((Below.refl _ w).drew) H
  rw [htl, show m + 1 + (l.toArray.size - (m + 1)) = l.toArray.size by omega] at this
  exact this

/-- The steps of the walk. -/
theorem ws_k {Q : Act → Prop} {a : Act} {o : Oper} {rest : List Oper} (hg : Region.wanted o (yielded ops a.tmps) = true)
    (h : ∀ K : Act → Prop, (∀ a', wpStd P ops C Q rest a' → K a') → ∃ v, (∀ w, (execOp a.eval o).run P w = .ok (.value v) w) ∧ K (a.put o.dst v)) : wpStd P ops C Q (o :: rest) a := by
  obtain ⟨v, hv, hk⟩ := h _ (fun _ h => h)
  exact ⟨v, .inl ⟨hg, fun w _ => by rw [hv w]; exact ⟨rfl, rfl⟩⟩, hk⟩
theorem ws_val {Q : Act → Prop} {a : Act} {o : Oper} {rest : List Oper} {v : Value} (hg : Region.wanted o (yielded ops a.tmps) = true) (hv : ∀ w, C w → (execOp a.eval o).run P w = .ok (.value v) w)
    (h : wpStd P ops C Q rest (a.put o.dst v)) : wpStd P ops C Q (o :: rest) a :=
  ⟨v, .inl ⟨hg, fun w hw => by rw [hv w hw]; exact ⟨rfl, rfl⟩⟩, h⟩
theorem ws_ck {Q : Act → Prop} {a : Act} {o : Oper} {rest : List Oper} (hg : Region.wanted o (yielded ops a.tmps) = true)
    (h : ∀ K : FuncId → Array Value → Prop, (∀ f args, (∃ v, (∀ w, C w → Calls P f args w fun e w' => e = .returned v ∧ Below w.heap.size w w') ∧ wpStd P ops C Q rest (a.put o.dst v)) → K f args) → ∃ f args, (∀ w, (execOp a.eval o).run P w = .ok (.enter f args) w) ∧ K f args) : wpStd P ops C Q (o :: rest) a := by
  obtain ⟨f, args, hv, v, hc, hk⟩ := h _ (fun _ _ h => h)
  exact ⟨v, .inl ⟨hg, fun w hw => by rw [hv w]; exact ⟨rfl, hc w hw⟩⟩, hk⟩
end
end Go.Proofs.Ytclainfdeghgnaa.Nm
