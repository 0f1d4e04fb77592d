/- A decimal of units that may be too many. -/
import Derived.Test.YtclainfdeghgnaaW27
import Derived.Outline
namespace Go.Proofs.Ytclainfdeghgnaa
open Go.RowKit Go.Proofs.Ytclainfdeghgnaa.Nm

theorem res_decErr {fn : Func} {p q : Tmp} (h : fn.results = #[.cell p 33, .tmp q]) (tmps : Array Value) (w : World) (g : Nat) (hp : tmps.getD p undef = .pointer (some ⟨g, 0, none⟩)) {u k : Int}
    (hg : w.heap[g]? = some (.cells (dc u k) 33 (0, 0))) : (results fn tmps).run Try.prog w = .ok (.tuple #[.agg (dc u k), tmps.getD q undef]) w := by
  have hp' : tmps[p]?.getD undef = .pointer (some ⟨g, 0, none⟩) := by simpa using hp
  have l1 : (loadVar 33 ⟨g, 0, none⟩).run Try.prog w = .ok (.agg (dc u k)) w := by have := rowDc hg; unfold RowAt at this; exact this
  rw [results_cell_tmp h]
  simp [hp', asAddr, l1, Result.andThen]
theorem run_fld (w : World) (b : Bool) (f : Nat → Nat) : (Instr.field 75 (.agg (#[.bool b] ++ row f)) 1).run Try.prog w = .ok (.agg (row f)) w := by kernel_rfl
theorem ex_fld {ev : Operand → Value} {o : Oper} (x : Operand) (ho : o.op = .field 75 x 1) {z : Int} (hx : ev x = .agg (lv z)) (w : World) :
    (execOp ev o).run Try.prog w = .ok (.value (.agg (dv z.natAbs))) w := by
  have h := run_fld w (ng z) (dg z.natAbs)
  unfold execOp
  simp only [ho]
  simp [hx]
  rw [show lv z = #[.bool (ng z)] ++ row (dg z.natAbs) from rfl, h]
  rfl
theorem cmp_over {z : Int} (hz : z.natAbs < 10 ^ 64) (hc : 100000000000000000 < z.natAbs) : 0 < cmpD z.natAbs (100000000000000000 : Int).natAbs := by
  have h := cmpD_spec (b := (100000000000000000 : Int).natAbs) hz (by decide)
  exact h.2.2.2 (by simpa using hc)
theorem cmp_under {z : Int} (hz : z.natAbs < 10 ^ 64) (hc : z.natAbs ≤ 100000000000000000) : cmpD z.natAbs (100000000000000000 : Int).natAbs ≤ 0 := by
  have h := cmpD_spec (b := (100000000000000000 : Int).natAbs) hz (by decide)
  have h2 := h.2.2
  have h3 : ¬ (100000000000000000 : Int).natAbs < z.natAbs := by simpa using hc
  omega
set_option maxHeartbeats 400000 in
theorem made_over (z : Int) (scale : Int) (hz : Hid (z.natAbs < 10 ^ 64)) (hc : Hid (100000000000000000 < z.natAbs)) (w : World) :
    Calls Try.prog 75 #[.agg (lv z), .int .i64 scale] w fun e w' => e = .returned (.tuple #[.agg (dc 0 0), .int .i64 2]) ∧ Below w.heap.size w w' := by
  have hq := cmp_over hz.out hc.out
  generalize hB : (100000000000000000 : Int).natAbs = B at hq
  go_enter Try.func75, Try.ntmps75
  go_upto_region 1 with (fail)
  refine wp_world (fun W => W.heap[w.heap.size]? = some (.cells (lv z) 75 (0, 0)) ∧ W.heap[w.heap.size + 1]? = some (.cells (dc 0 0) 33 (0, 0)) ∧ Below w.heap.size w W) ⟨ha_old (ha_new rfl), ha_new (by simp), ((Below.refl _ _).alloc (Nat.le_refl _) _).alloc (by simp) _⟩ ?_
  rintro W ⟨h0, h1, hb⟩
  refine wp_region_belowAll mixed (by kernel_rfl) ?_
  refine wq_k rfl (fun K hK => ?_); go_simp; refine hK _ ?_; clear hK K
  ((with_reducible apply wq_row); exact rfl; exact rfl; (intro w' hw'; first | exact rowL (below_look hw' (by with_reducible assumption)) | exact rowD (below_look hw' (by with_reducible assumption)) | exact rowR (below_look hw' (by with_reducible assumption))))
  refine wq_ck rfl (fun K hK => ?_); go_simp; refine ⟨_, _, ⟨rfl, rfl⟩, hK _ _ ⟨_, fun w' hw' => calls_class hw' (small_any _ (by decide) (by decide) w'), ?_⟩⟩; clear hK K; simp only [put_lit, List.set_cons_zero, List.set_cons_succ]
  refine wq_val rfl (fun w' _ => ex_fld _ rfl rfl w') ?_; simp only [put_lit, List.set_cons_zero, List.set_cons_succ]
  refine wq_ck rfl (fun K hK => ?_); go_simp; refine ⟨_, _, ⟨rfl, rfl⟩, hK _ _ ⟨_, fun w' hw' => calls_class hw' (compareDigits_any _ _ w'), ?_⟩⟩; clear hK K; simp only [put_lit, List.set_cons_zero, List.set_cons_succ]
  refine wq_k rfl (fun K hK => ?_); go_simp; refine hK _ ?_; clear hK K
  intro w1 hb1
  replace h0 := below_look hb1 h0; replace h1 := below_look hb1 h1; replace hb := hb.trans (hb1.mono hb.size); clear hb1
  clear hq hB
  have c0 := dc0 h1
  have c1 := dc1 h1
  have f0 : w1.frozen? ⟨w.heap.size + 1, 0, none⟩ = false := frozen_of_row _ _ _ _ _ h1
  have f1 : w1.frozen? ⟨w.heap.size + 1, 1, none⟩ = false := frozen_of_row _ _ _ _ _ h1
  go_wp2_with fail
  exact bodyPost_ret (res_decErr rfl _ _ (w.heap.size + 1) rfl ((hs_new (hs_new h1)).trans rfl)) rfl ⟨rfl, (hb.setCell (by simp) _).setCell (by simp) _⟩
set_option maxHeartbeats 400000 in
theorem made_ok (z : Int) (scale : Int) (hz : Hid (z.natAbs < 10 ^ 64)) (hc : Hid (z.natAbs ≤ 100000000000000000)) (w : World) :
    Calls Try.prog 75 #[.agg (lv z), .int .i64 scale] w fun e w' => e = .returned (.tuple #[.agg (dc z scale), .int .i64 0]) ∧ Below w.heap.size w w' := by
  have hq := cmp_under hz.out hc.out
  generalize hB : (100000000000000000 : Int).natAbs = B at hq
  go_enter Try.func75, Try.ntmps75
  go_upto_region 1 with (fail)
  refine wp_world (fun W => W.heap[w.heap.size]? = some (.cells (lv z) 75 (0, 0)) ∧ W.heap[w.heap.size + 1]? = some (.cells (dc 0 0) 33 (0, 0)) ∧ Below w.heap.size w W) ⟨ha_old (ha_new rfl), ha_new (by simp), ((Below.refl _ _).alloc (Nat.le_refl _) _).alloc (by simp) _⟩ ?_
  rintro W ⟨h0, h1, hb⟩
  refine wp_region_belowAll mixed (by kernel_rfl) ?_
  refine wq_k rfl (fun K hK => ?_); go_simp; refine hK _ ?_; clear hK K
  ((with_reducible apply wq_row); exact rfl; exact rfl; (intro w' hw'; first | exact rowL (below_look hw' (by with_reducible assumption)) | exact rowD (below_look hw' (by with_reducible assumption)) | exact rowR (below_look hw' (by with_reducible assumption))))
  refine wq_ck rfl (fun K hK => ?_); go_simp; refine ⟨_, _, ⟨rfl, rfl⟩, hK _ _ ⟨_, fun w' hw' => calls_class hw' (small_any _ (by decide) (by decide) w'), ?_⟩⟩; clear hK K; simp only [put_lit, List.set_cons_zero, List.set_cons_succ]
  refine wq_val rfl (fun w' _ => ex_fld _ rfl rfl w') ?_; simp only [put_lit, List.set_cons_zero, List.set_cons_succ]
  refine wq_ck rfl (fun K hK => ?_); go_simp; refine ⟨_, _, ⟨rfl, rfl⟩, hK _ _ ⟨_, fun w' hw' => calls_class hw' (compareDigits_any _ _ w'), ?_⟩⟩; clear hK K; simp only [put_lit, List.set_cons_zero, List.set_cons_succ]
  refine wq_k rfl (fun K hK => ?_); go_simp; refine hK _ ?_; clear hK K
  intro w1 hb1
  replace h0 := below_look hb1 h0; replace h1 := below_look hb1 h1; replace hb := hb.trans (hb1.mono hb.size); clear hb1
  clear hB
  go_upto_region 3 with (fail)
  clear hq
  apply wp_region_lit
  ((with_reducible apply wl_rowG); exact rfl; exact rfl; (first | exact rowL (by with_reducible assumption) | exact rowD (by with_reducible assumption) | exact rowR (by with_reducible assumption)))
  refine wl_ck rfl (fun K hK => ?_); go_simp; refine ⟨_, _, ⟨rfl, rfl⟩, hK _ _ ⟨_, toInt_any _ (by have := hc.out; omega) _, ?_⟩⟩; clear hK K; rintro e w2 ⟨rfl, hb1⟩; refine ⟨_, rfl, ?_⟩; simp only [put_lit, List.set_cons_zero, List.set_cons_succ]
  replace h0 := below_look hb1 h0; replace h1 := below_look hb1 h1; replace hb := hb.trans (hb1.mono hb.size); clear hb1
  have c0 := dc0 h1
  have c1 := dc1 h1
  have f0 : w2.frozen? ⟨w.heap.size + 1, 0, none⟩ = false := frozen_of_row _ _ _ _ _ h1
  have f1 : w2.frozen? ⟨w.heap.size + 1, 1, none⟩ = false := frozen_of_row _ _ _ _ _ h1
  go_wp2_with fail
  exact bodyPost_ret (res_decErr rfl _ _ (w.heap.size + 1) rfl ((hs_new (hs_new h1)).trans rfl)) rfl ⟨rfl, (hb.setCell (by simp) _).setCell (by simp) _⟩
end Go.Proofs.Ytclainfdeghgnaa
