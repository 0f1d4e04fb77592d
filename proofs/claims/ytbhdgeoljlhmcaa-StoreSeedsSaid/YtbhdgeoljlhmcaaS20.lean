/- What an operation does, by the program: facts for all kinds. -/
import Derived.Test.YtbhdgeoljlhmcaaS17
import Derived.Test.YtbhdgeoljlhmcaaS19
import Derived.Outline
namespace Go.Proofs.Ytbhdgeoljlhmcaa
open Go.RowKit Go.Proofs.Ytbhdgeoljlhmcaa.Nm Go.Proofs.Ytbhdgeoljlhmcaa.St
set_option linter.unusedSimpArgs false
theorem change_eq {A : Sto} {n : Int} {k : Nat} (h : (A.own n).id n = some k) (b : Buf) : A.change n b = { A.own n with bufs := (A.own n).bufs.set k b } := by unfold Sto.change Sto.put; rw [h]
theorem Nm.Kept.grownO {D : List Nat} {row : Option Nat} {W w w' : World} (h : Kept D W w) (hg : w.grownBy w' row) (hm : ∀ p, row = some p → p ∈ D) : Kept D W w' :=
  ⟨Nat.le_trans h.1 hg.size, fun k hk hp => by rw [hg.block k (by have := h.1; omega) (fun e => hp (hm k e.symm))]; exact h.2 k hk hp, hg.os.trans h.os, hg.tape.trans h.tape, hg.output.trans h.output⟩
/-- one buffer's change behind own: the whole store -/
theorem StoreAt.changed {W w' : World} {s : Nat} {A : Sto} {n : Int} {rs : List Row} (h : StoreAt W s (A.own n) rs) {k : Nat} {r r' : Row} {b b' : Buf} {D : List Nat} (hid : (A.own n).id n = some k) (hr : rs[k]? = some r) (hb : (A.own n).bufs[k]? = some b)
    (hK : Kept D W w') (hD : ∀ q ∈ D, q = r.g ∨ r.lv.ownBlock = some q ∨ r.pv.ownBlock = some q) (hg : r'.g = r.g)
    (hl : r'.lv.ownBlock = r.lv.ownBlock ∨ ∀ q, r'.lv.ownBlock = some q → W.heap.size ≤ q) (hp : r'.pv.ownBlock = r.pv.ownBlock ∨ ∀ q, r'.pv.ownBlock = some q → W.heap.size ≤ q) (hB : BufAt w' r' b') :
    StoreAt w' s (A.change n b') (rs.set k r') ∧ Ran s rs W (rs.set k r') w' := by
  rw [change_eq hid]
  refine ⟨h.mod hr hb (fun q hq h1 h2 h3 => hK.block q hq (fun hm => by rcases hD q hm with e | e | e; exact h1 e; exact h2 e; exact h3 e)) hg hl hp hB, ?_⟩
  refine Ran.of hK (fun q hq => Or.inl (Or.inr ⟨k, r, hr, hD q hq⟩)) (fun q hq => ?_)
  rcases foot_set hq with hq | e | e | e
  · exact Or.inl hq
  · rw [e, hg]; exact Or.inl (foot_row hr)
  · rcases hl with hl | hl
    · rw [hl] at e; exact Or.inl (Or.inr ⟨k, r, hr, Or.inr (Or.inl e)⟩)
    · exact Or.inr (hl q e)
  · rcases hp with hp | hp
    · rw [hp] at e; exact Or.inl (Or.inr ⟨k, r, hr, Or.inr (Or.inr e)⟩)
    · exact Or.inr (hp q e)
theorem BufAt.listIn {w w1 : World} {r : Row} {b : Buf} {l' : List ByteArray} (h : BufAt w r b) (hs : ∀ q, q < w.heap.size → r.lv.ownBlock ≠ some q → w1.heap[q]? = w.heap[q]?) (ho : w1.ownsRow 0 9 1 r.lv l'.length (strs l')) : BufAt w1 r { b with l := l' } := by
  obtain ⟨h1, h2, h3, h4⟩ := h
  refine ⟨?_, ho, ?_, h4⟩
  · rw [hs _ (heap_lt h1) (fun e => by obtain ⟨_, c, hc⟩ := own_block h2 e; rw [h1] at hc; simp only [Option.some.injEq, Obj.cells.injEq] at hc; exact absurd hc.2.1 (by decide))]; exact h1
  · refine own_same h3 (fun q hq he => hs q hq (fun e => ?_))
    obtain ⟨_, c, hc⟩ := own_block h2 e
    obtain ⟨_, c', hc'⟩ := own_block h3 he
    rw [hc] at hc'; simp only [Option.some.injEq, Obj.cells.injEq] at hc'; exact absurd hc'.2.1 (by decide)
theorem BufAt.gAt1 {w w1 : World} {r : Row} {b : Buf} (h : BufAt w r b) (hs : ∀ q, q < w.heap.size → r.lv.ownBlock ≠ some q → w1.heap[q]? = w.heap[q]?) : w1.heap[r.g]? = some (.cells (bcells b.kd r.lv b.seed (cn b.t : Int) r.pv) 87 (0, 0)) := by
  obtain ⟨h1, h2, h3, h4⟩ := h
  rw [hs _ (heap_lt h1) (fun e => by obtain ⟨_, c, hc⟩ := own_block h2 e; rw [h1] at hc; simp only [Option.some.injEq, Obj.cells.injEq] at hc; exact absurd hc.2.1 (by decide))]; exact h1
/-- a list put in the place of another one -/
theorem BufAt.setList {w w1 : World} {r : Row} {b : Buf} {v' : Value} {l' : List ByteArray} (h : BufAt w r b) (hs : ∀ q, q < w.heap.size → r.lv.ownBlock ≠ some q → w1.heap[q]? = w.heap[q]?) (ho : w1.ownsRow 0 9 1 v' l'.length (strs l')) :
    BufAt (w1.setCell ⟨r.g, 1, none⟩ v') ⟨r.g, v', r.pv⟩ { b with l := l' } := by
  have hg := h.gAt1 hs
  obtain ⟨h1, h2, h3, h4⟩ := h
  refine ⟨(hs_new hg).trans (by rw [bcells_set1]), ?_, ?_, h4⟩
  · refine own_same ho (fun q hq he => heap_setCell_other _ _ _ _ (fun e => ?_))
    have e' : q = r.g := e
    obtain ⟨_, c, hc⟩ := own_block ho he
    rw [e', hg] at hc; simp only [Option.some.injEq, Obj.cells.injEq] at hc; exact absurd hc.2.1 (by decide)
  · refine own_same h3 (fun q hq he => ?_)
    obtain ⟨_, c', hc'⟩ := own_block h3 he
    rw [heap_setCell_other _ _ _ _ (fun e => by have e' : q = r.g := e; rw [e', h1] at hc'; simp only [Option.some.injEq, Obj.cells.injEq] at hc'; exact absurd hc'.2.1 (by decide))]
    refine hs q hq (fun e => ?_)
    obtain ⟨_, c, hc⟩ := own_block h2 e
    rw [hc] at hc'; simp only [Option.some.injEq, Obj.cells.injEq] at hc'; exact absurd hc'.2.1 (by decide)
section
variable {P : Program} {ops : Array Oper} {Q : Exit → Act → World → Prop} {md : Region.Mode} {S : World → Prop} {i : Nat} {oi : Oper} {fuel : Nat} {listed : Array Bool} {a : Act} {w : World}
theorem sh_w {v : Value} {w2 : World} (ho : ops[i]? = some oi) (hg : Region.wanted oi (yielded ops a.tmps) = true) (hv : (execOp a.eval oi).run P w = .ok (.value v) w2) (hS : S w2) (h : wpAnyH P md ops Q S fuel (listed.setIfInBounds i true) (a.put oi.dst v) w2) : StepH P md ops Q S fuel listed a w i := by
  unfold StepH wpOp
  simp only [ho]
  rw [if_pos hg]
  refine .inl ?_
  unfold Oper.wp
  rw [hv]
  exact ⟨hS, h⟩
end
/-- what Do ends with -/
def DoPost (s : Nat) (A : Sto) (rs : List Row) (o : OpV) (w : World) (e : Ending) (w' : World) : Prop :=
  e = .returned (.int .i64 (refA A o)) ∧ ∃ rs', StoreAt w' s (doA A o) rs' ∧ Ran s rs w rs' w'
theorem doA_ok {A : Sto} {o : OpV} (h : refA A o = 0) : doA A o = A.does o := by unfold doA; rw [if_pos h]
set_option maxHeartbeats 4000000 in
set_option maxRecDepth 100000 in
theorem Do_err (s : Nat) (A : Sto) (rs : List Row) (hA : Good A) (o : OpV) (hr : refA A o ≠ 0) (w : World) (h : StoreAt w s A rs) :
    Calls Try.prog 19 #[.pointer (some ⟨s, 0, none⟩), .agg o.cells] w fun e w' => DoPost s A rs o w e w' := by
  have HS := Lib.hid h
  have HA := Lib.hid hA
  obtain ⟨R, hR⟩ : ∃ R, Hid (R = refA A o) := ⟨_, Lib.hid rfl⟩
  rw [← hR.out] at hr
  clear h hA
  go_enter Try.func19, Try.ntmps19
  go_upto_region 1 with (fail)
  have hb0 := (Below.refl w.heap.size w).alloc (Nat.le_refl _) (.cells o.cells 39 (0, 0))
  refine wp_world (fun W => Below w.heap.size w W ∧ W.heap[w.heap.size]? = some (.cells o.cells 39 (0, 0))) ⟨hb0, ha_new rfl⟩ ?_
  clear hb0
  rintro W ⟨hb, h1⟩
  replace HS := Lib.hid (HS.out.below hb)
  apply wp_region_lit
  refine wl_k rfl (fun K hK => ?_); go_simp; refine hK _ ?_; clear hK K
  ((with_reducible apply wl_rowG); exact rfl; exact rfl; exact rowO h1)
  simp only [put_lit, List.set_cons_zero, List.set_cons_succ]
  refine wl_ck rfl (fun K hK => ?_); go_simp; refine ⟨_, _, ⟨rfl, rfl⟩, hK _ _ ⟨_, refused_any s A rs HA.out o _ HS.out, ?_⟩⟩; clear hK K; rintro e w1 ⟨rfl, hb1⟩; refine ⟨_, rfl, ?_⟩; simp only [put_lit, List.set_cons_zero, List.set_cons_succ]
  rw [← hR.out]
  replace HS := Lib.hid (HS.out.below (hb1.mono (Nat.le_refl _)))
  replace hb := hb.trans (hb1.mono hb.size)
  clear hb1
  go_wp2_with fail
  go_ret
  refine ⟨congrArg (fun z => Ending.returned (Value.int .i64 z)) hR.out, rs, ?_, Ran.ofBelow hb⟩
  unfold doA; rw [if_neg (by rw [← hR.out]; exact hr)]; exact HS.out
end Go.Proofs.Ytbhdgeoljlhmcaa
