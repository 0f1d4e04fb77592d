/- A region that draws its order and in which one new variable is made at whatever time, and one part of a tuple is taken ahead of a store or behind it. -/
import Derived.Test.YtclainfdeghgnaaK6
namespace Go.Proofs.Ytclainfdeghgnaa.Nm
open Go.RowKit

/-- What stands behind the region where it ends without more ado. -/
def OnlyN (Q : Exit → Act → World → Prop) : Exit → Act → World → Prop := fun e a w => e = .normal ∧ Q .normal a w
theorem OnlyN.up {Q : Exit → Act → World → Prop} (e : Exit) (a : Act) (w : World) (h : OnlyN Q e a w) : Q e a w := by
  obtain ⟨rfl, h⟩ := h; exact h
theorem onlyN_out {Q : Exit → Act → World → Prop} : ¬ LetsOut (OnlyN Q) := by
  rintro ⟨a, w, h, _⟩; cases h
theorem onlyN_panic {Q : Exit → Act → World → Prop} (c) (a a' : Act) (w : World) (h : OnlyN Q (.panic c) a' w) : OnlyN Q (.panic c) a w := by
  obtain ⟨h, _⟩ := h; cases h
theorem onlyN_nil {P : Program} {ops : Array Oper} {Q : Exit → Act → World → Prop} {a : Act} {w : World} (h : Q .normal a w) : wpList P ops (OnlyN Q) [] a w := ⟨rfl, h⟩

section
variable {P : Program} {ops : Array Oper} {Q : Exit → Act → World → Prop}

def lateB (ops : Array Oper) (d : Nat) : Bool :=
  match ops[d]? with
  | some od => od.guard.isNone && (match od.op with | .extract _ _ => true | _ => false) &&
    (List.range ops.size).all fun j => match ops[j]? with
      | none => true
      | some oj => (j == d || od.after.any (fun e => Region.binds .any e && e.on == j) || oj.after.any (fun e => Region.binds .any e && e.on == d) || od.apart ops oj) &&
        oj.after.all fun e => Region.binds .any e || !Region.binds .text e || (e.on == d && od.after.all fun e' => !Region.binds .text e' || oj.after.any fun e'' => Region.binds .any e'' && e''.on == e'.on)
  | none => false

theorem text_of_any {e : Edge} (h : Region.binds .any e = true) : Region.binds .text e = true := by
  unfold Region.binds at *
  cases hg : e.ground <;> simp_all

theorem ready_sub {listed : Array Bool} {i : Nat} (h : i ∈ Region.ready .text ops listed) : i ∈ Region.ready .any ops listed := by
  rw [mem_ready] at *
  obtain ⟨h0, o, ho, hall⟩ := h
  exact ⟨h0, o, ho, fun e he hb => hall e he (text_of_any hb)⟩

theorem extract_run {od : Oper} {x : Operand} {k : Nat} (hop : od.op = .extract x k) (ev : Operand → Value) :
    (∃ v, ∀ w, (execOp ev od).run P w = .ok (.value v) w) ∨ (∀ (w : World) (a : Act) (next : Act → World → Prop) (Q : Exit → Act → World → Prop), ¬ od.upon P a next Q ((execOp ev od).run P w)) := by
  unfold execOp
  simp only [hop]
  unfold Instr.extract
  cases hx : ev x
  case tuple vs =>
    cases hv : vs[k]? with
    | some v => left; refine ⟨v, fun w => ?_⟩; simp [hv]
    | none => right; intro w a next Q h; simp [hv, Oper.upon] at h
  all_goals
    right; intro w a next Q h; simp [Oper.upon] at h

theorem late_any {d : Nat} {od : Oper} (hd : ops[d]? = some od) (hsel : ∀ (j : Nat) (o : Oper) cs b, ops[j]? = some o → o.op ≠ .select cs b) (hB : lateB ops d = true) :
    ∀ (fuel : Nat) (listed : Array Bool) (a : Act) (w : World), listed.size = ops.size → wpAny P .text ops (OnlyN Q) fuel listed a w → wpAny P .any ops (OnlyN Q) fuel listed a w := by
  unfold lateB at hB
  simp only [hd, Bool.and_eq_true] at hB
  obtain ⟨⟨hgn, hex⟩, hall⟩ := hB
  have hdl : d < ops.size := (Array.getElem?_eq_some_iff.1 hd).1
  have hst : ∀ (j : Nat) (oj : Oper), ops[j]? = some oj → (j == d || od.after.any (fun e => Region.binds .any e && e.on == j) || oj.after.any (fun e => Region.binds .any e && e.on == d) || od.apart ops oj) = true ∧
      (oj.after.all fun e => Region.binds .any e || !Region.binds .text e || (e.on == d && od.after.all fun e' => !Region.binds .text e' || oj.after.any fun e'' => Region.binds .any e'' && e''.on == e'.on)) = true := by
    intro j oj hj
    have hlt : j < ops.size := (Array.getElem?_eq_some_iff.1 hj).1
    have := List.all_eq_true.1 hall j (List.mem_range.2 hlt)
    simp only [hj, Bool.and_eq_true] at this
    exact this
  have hgd : od.guard = none := by simpa using hgn
  obtain ⟨x, k, hop⟩ : ∃ x k, od.op = .extract x k := by
    cases ho : od.op <;> simp [ho] at hex
    exact ⟨_, _, rfl⟩
  -- what is ready in the one mode alone waits for d, and d is ready
  have hkey : ∀ (listed : Array Bool) (j : Nat), listed.size = ops.size → j ∈ Region.ready .any ops listed → j ∉ Region.ready .text ops listed → d ∈ Region.ready .text ops listed := by
    intro listed j hsz hj hn
    obtain ⟨h0, oj, hoj, hal⟩ := mem_ready.1 hj
    have h2 := (hst j oj hoj).2
    rw [Array.all_eq_true_iff_forall_mem] at h2
    have hx : ∃ e ∈ oj.after, Region.binds .text e = true ∧ listed.getD e.on false ≠ true := by
      refine Classical.byContradiction fun hno => hn (mem_ready.2 ⟨h0, oj, hoj, fun e he hb => ?_⟩)
      exact Classical.byContradiction fun hne => hno ⟨e, he, hb, hne⟩
    obtain ⟨e, he, hb, hne⟩ := hx
    have h3 := h2 e he
    simp only [Bool.or_eq_true, Bool.and_eq_true, Bool.not_eq_true', beq_iff_eq] at h3
    rcases h3 with (h3 | h3) | ⟨h3, h4⟩
    · exact absurd (hal e he h3) hne
    · rw [hb] at h3; cases h3
    · rw [h3] at hne
      refine mem_ready.2 ⟨getD_in (by rw [hsz]; exact hdl) (by simpa using hne), od, hd, fun e' he' hb' => ?_⟩
      rw [Array.all_eq_true_iff_forall_mem] at h4
      have h5 := h4 e' he'
      simp only [Bool.or_eq_true, Bool.not_eq_true'] at h5
      rcases h5 with h5 | h5
      · rw [hb'] at h5; cases h5
      · rw [Array.any_eq_true'] at h5
        obtain ⟨e'', he'', h6⟩ := h5
        simp only [Bool.and_eq_true, beq_iff_eq] at h6
        rw [← h6.2]
        exact hal e'' he'' h6.1
  intro fuel
  induction fuel with
  | zero =>
    intro listed a w hsz h
    refine ⟨List.eq_nil_iff_forall_not_mem.2 fun j hj => ?_, h.2⟩
    by_cases ht : j ∈ Region.ready .text ops listed
    · rw [h.1] at ht; cases ht
    · have := hkey listed j hsz hj ht; rw [h.1] at this; cases this
  | succ f ih =>
    intro listed a w hsz h
    have hz : ∀ i, (listed.setIfInBounds i true).size = ops.size := fun i => by simpa using hsz
    refine ⟨fun h0 => h.1 (List.eq_nil_iff_forall_not_mem.2 fun j hj => ?_), fun i hi => ?_⟩
    · have := ready_sub hj; rw [h0] at this; cases this
    by_cases ht : i ∈ Region.ready .text ops listed
    · exact wpOp_mono (fun a' w' h' => ih _ a' w' (hz i) h') (h.2 i ht)
    · have hdr := hkey listed i hsz hi ht
      have h1 := h.2 d hdr
      unfold wpOp at h1
      simp only [hd] at h1
      rw [if_pos (by simp [Region.wanted, hgd])] at h1
      rcases h1 with h1 | ⟨_, h1⟩
      case inr => exact absurd h1 onlyN_out
      rcases extract_run (P := P) hop a.eval with ⟨v, hv⟩ | hv
      case inr => exact absurd h1 (hv w a _ _)
      unfold Oper.wp at h1
      rw [hv w] at h1
      simp only [Oper.upon] at h1
      have h2 := ih _ _ _ (hz d) h1
      have hda := ready_sub hdr
      refine (wpAny_first (md := .any) hd hsel (fun c a w => onlyN_panic c a _ w) f listed a w (fun j oj hoj hji hun hno => ?_) hda (.inl ⟨by simp [Region.wanted, hgd], hv⟩) h2).2 i hi
      have h3 := (hst j oj hoj).1
      simp only [Bool.or_eq_true, beq_iff_eq] at h3
      rcases h3 with ((h3 | h3) | h3) | h3
      · exact absurd h3 hji
      · rw [Array.any_eq_true'] at h3
        obtain ⟨e, he, h4⟩ := h3
        simp only [Bool.and_eq_true, beq_iff_eq] at h4
        obtain ⟨_, o', ho', hal⟩ := mem_ready.1 hda
        obtain rfl : od = o' := Option.some.inj (hd.symm.trans ho')
        have h5 := hal e he h4.1
        rw [h4.2, getD_both hun] at h5
        cases h5
      · rw [Array.any_eq_true'] at h3
        obtain ⟨e, he, h4⟩ := h3
        simp only [Bool.and_eq_true, beq_iff_eq] at h4
        exact absurd h4.2 (hno e he h4.1)
      · exact h3

def floatT (ops : Array Oper) (m : Nat) : Bool :=
  Region.noSelect ops && decide (m + 1 < ops.size) && Region.sinkB .text ops (m + 1) && Region.chainB .text ops (m + 1) &&
  lexHeadF .text ops (ops.size - (m + 1)) (m + 1) m 0 ((Array.replicate ops.size false).setIfInBounds m true) &&
  (match ops[m]? with
   | some om => om.after.isEmpty && (List.range (m + 1)).all fun i => i == m || (match ops[i]? with | some o => om.apart ops o | none => true)
   | none => false)

/-- The law. -/
theorem wp_region_late {id : Nat} {Q : Exit → Act → World → Prop} {a : Act} {w : World} {l : List Oper} (m d : Nat) (dm : Tmp) (z : Array Value) (ty : TypeId) (hm : P.follows .mixedOrders = true) (hB : floatT l.toArray m = true) (hD : lateB l.toArray d = true)
    (hom : ∃ om, l[m]? = some om ∧ om.dst = some dm ∧ om.guard = none ∧ ∀ ev w, (execOp ev om).run P w = .ok (.value (.pointer (some ⟨w.heap.size, 0, none⟩))) (w.alloc (.cells z ty)))
    (h : wpStd P l.toArray (fun w' => Below w.heap.size w w') (fun a' => ∀ p w', Made w z ty p w' → wpList P l.toArray (OnlyN Q) (l.drop (m + 1)) (a'.put (some dm) (.pointer (some ⟨p, 0, none⟩))) w') (l.take m) a) : (Code.region id l.toArray true).wp P Q a w := by
  obtain ⟨om, hom, hdm, hgd, hal⟩ := hom
  have hom' : l.toArray[m]? = some om := by simpa using hom
  simp only [floatT, Bool.and_eq_true, decide_eq_true_eq, hom', List.all_eq_true, List.mem_range, Bool.or_eq_true, beq_iff_eq] at hB
  obtain ⟨⟨⟨⟨⟨hsel, hn⟩, hs⟩, hc⟩, hlex⟩, haf, hap⟩ := hB
  have haf' : om.after = #[] := by simpa using haf
  have hn' : m + 1 < l.length := by simpa using hn
  have htl : (l.take m).length = m := by simp; omega
  have hdl : (l.drop (m + 1)).length = l.toArray.size - (m + 1) := by simp
  have inv0 : HeadInv .text l.toArray (m + 1) (Array.replicate l.toArray.size false) :=
    ⟨by simp, fun j oj _ hl => (by rw [getD_replicate_false] at hl; cases hl), fun t _ ht => getD_in (by simpa using ht) (getD_replicate_false _ _)⟩
  have hm0 : (Array.replicate l.toArray.size false).getD m true = false := getD_in (by simp; omega) (getD_replicate_false _ _)
  have hmr : m ∈ Region.ready .text l.toArray (Array.replicate l.toArray.size false) := mem_ready.2 ⟨hm0, om, hom', fun e he => by rw [haf'] at he; simp at he⟩
  have inv1 := inv0.set hmr (by omega : m < m + 1)
  have H := wpAnyS_lex (P := P) (C := fun w' => Below w.heap.size w w') (md := .text) (g := l.toArray.size - (m + 1)) hsel hs hc hn (l.take m) 0 _ a (fun j hj => by
    have hj' : j < m := by rw [htl] at hj; exact hj
    simp [hj']) (by rw [htl]; omega) inv1 (by rw [htl]; exact hlex) h
  refine Code.wp_mono (Q := OnlyN Q) OnlyN.up (wp_region_any hm ?_)
  obtain ⟨od, hod⟩ : ∃ od, l.toArray[d]? = some od := by
    unfold lateB at hD
    cases hx : l.toArray[d]? with
    | none => rw [hx] at hD; cases hD
    | some od => exact ⟨od, rfl⟩
  refine late_any hod (Region.noSelect_spec hsel) hD _ _ _ _ (by simp) ?_
  have := phaseA (P := P) (Q' := OnlyN Q) (md := .text) (g := l.toArray.size - (m + 1)) (W := w) (z := z) (ty := ty) (Region.noSelect_spec hsel) hs hc hn (by omega) hom' hdm hgd haf' (fun i o hi hne ho => by
      have := hap i hi
      rcases this with h | h
      · exact absurd h hne
      · simpa [ho] using h) hal (fun p listed a' w' hw' hL => by
    have := wpAny_of_seq (md := .text) (Q' := OnlyN Q) (l.drop (m + 1)) (m + 1) listed _ w' (fun j => by simp [List.getElem?_drop]) (by rw [hdl]; exact hL.1) (hL.2 p w' hw')
    rwa [hdl] at this) _ _ a { w with drawn := w.drawn + 1 } inv0 hm0 ((Below.refl _ w).drew) H
  rw [htl, show m + 1 + (l.toArray.size - (m + 1)) = l.toArray.size by omega] at this
  exact this
end
end Go.Proofs.Ytclainfdeghgnaa.Nm
