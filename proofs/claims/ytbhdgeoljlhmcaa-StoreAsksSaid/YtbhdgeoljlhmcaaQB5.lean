/- The form of an operation, by the program. -/
import Derived.Outline
import Derived.Test.YtbhdgeoljlhmcaaQB4
namespace Go.Proofs.Ytbhdgeoljlhmcaa
open Go.RowKit Go.Proofs.Ytbhdgeoljlhmcaa.Nm Go.Proofs.Ytbhdgeoljlhmcaa.St
set_option linter.unusedSimpArgs false
/-- an operation -/
structure OpV where
  kind : Int
  fr : Int
  to : Int
  at_ : Int
  n : Int
  key : ByteArray
def OpV.cells (o : OpV) : Array Value := #[.int .i64 o.kind, .int .i64 o.fr, .int .i64 o.to, .int .i64 o.at_, .int .i64 o.n, .string o.key]
def formS (o : OpV) : Bool := (useS o.kind).isSome && nmOk (useG o.kind).fr o.fr && nmOk (useG o.kind).to o.to && ((useG o.kind).at_ || (o.at_ == 0)) && ((useG o.kind).n || (o.n == 0)) && ((useG o.kind).key || o.key.toList.isEmpty)
theorem u39 : Try.prog.underlying 39 = some (.struct (Try.prog.fieldsOf 39)) := by kernel_rfl
theorem info39 : (Try.prog.info? 39).map (·.size) = some 6 := by kernel_rfl
theorem op_cell {w : World} {g : Nat} {o : OpV} (h : w.heap[g]? = some (.cells o.cells 39 (0, 0))) :
    w.cell? ⟨g, 0, none⟩ = some (.int .i64 o.kind) ∧ w.cell? ⟨g, 1, none⟩ = some (.int .i64 o.fr) ∧ w.cell? ⟨g, 2, none⟩ = some (.int .i64 o.to) ∧ w.cell? ⟨g, 3, none⟩ = some (.int .i64 o.at_) ∧ w.cell? ⟨g, 4, none⟩ = some (.int .i64 o.n) ∧ w.cell? ⟨g, 5, none⟩ = some (.string o.key) := by
  rw [cell_of_row _ _ _ _ _ _ h, cell_of_row _ _ _ _ _ _ h, cell_of_row _ _ _ _ _ _ h, cell_of_row _ _ _ _ _ _ h, cell_of_row _ _ _ _ _ _ h, cell_of_row _ _ _ _ _ _ h]
  exact ⟨rfl, rfl, rfl, rfl, rfl, rfl⟩
theorem use_cell {w : World} {g : Nat} {u : Use} (h : w.heap[g]? = some (.cells u.cells 118 (0, 0))) :
    w.cell? ⟨g, 0, none⟩ = some (.bool u.fr) ∧ w.cell? ⟨g, 1, none⟩ = some (.bool u.to) ∧ w.cell? ⟨g, 2, none⟩ = some (.bool u.at_) ∧ w.cell? ⟨g, 3, none⟩ = some (.bool u.n) ∧ w.cell? ⟨g, 4, none⟩ = some (.bool u.key) ∧ w.cell? ⟨g, 5, none⟩ = some (.int .i64 u.kind) := by
  rw [cell_of_row _ _ _ _ _ _ h, cell_of_row _ _ _ _ _ _ h, cell_of_row _ _ _ _ _ _ h, cell_of_row _ _ _ _ _ _ h, cell_of_row _ _ _ _ _ _ h, cell_of_row _ _ _ _ _ _ h]
  exact ⟨rfl, rfl, rfl, rfl, rfl, rfl⟩
theorem rowO {w : World} {g : Nat} {o : OpV} (h : w.heap[g]? = some (.cells o.cells 39 (0, 0))) : RowAt w 39 ⟨g, 0, none⟩ o.cells := row_mid h (D := o.cells) (n := 6) rfl u39 rfl rfl info39
theorem nm_b (used : Bool) (n : Int) (w : World) : Calls Try.prog 90 #[.bool used, .int .i64 n] w fun e w' => e = .returned (.bool (nmOk used n)) ∧ Below w.heap.size w w' := nmOk_any used n w
set_option linter.unusedSimpArgs false in
set_option maxHeartbeats 8000000 in
set_option maxRecDepth 100000 in
theorem formed_any (o : OpV) (w : World) :
    Calls Try.prog 75 #[.agg o.cells] w fun e w' => e = .returned (.tuple #[.agg (useG o.kind).cells, .bool (formS o)]) ∧ Below w.heap.size w w' := by
  go_enter Try.func75, Try.ntmps75
  go_upto_region 1 with (fail)
  have hb0 := (Below.refl w.heap.size w).alloc (Nat.le_refl _) (.cells o.cells 39 (0, 0))
  have hb00 := hb0.alloc (by simp) (.cells noUse.cells 118 (0, 0))
  refine wp_world (fun W => Below w.heap.size w W ∧ W.heap[w.heap.size]? = some (.cells o.cells 39 (0, 0)) ∧ W.heap[w.heap.size + 1]? = some (.cells noUse.cells 118 (0, 0))) ⟨hb00, ha_old (ha_new rfl), ha_new (by simp)⟩ ?_
  clear hb0 hb00
  rintro W ⟨hb, h1, h2⟩
  obtain ⟨q, hq⟩ : ∃ q, q = w.heap.size + 1 := ⟨_, rfl⟩
  rw [← hq] at h2 ⊢
  have hq1 : w.heap.size < q := by omega
  clear hq
  have c1 := (op_cell h1).1
  apply wp_region_lit
  refine wl_k rfl (fun K hK => ?_); go_simp; refine hK _ ?_; clear hK K
  ((with_reducible apply wl_oneG); exact rfl; exact rfl; exact one3 c1)
  refine wl_ck rfl (fun K hK => ?_); go_simp; refine ⟨_, _, ⟨rfl, rfl⟩, hK _ _ ⟨_, useOf_any o.kind _, ?_⟩⟩; clear hK K; rintro e w1 ⟨rfl, hb1⟩; refine ⟨_, rfl, ?_⟩; simp only [Zq]
  replace h1 := below_look hb1 h1
  replace h2 := below_look hb1 h2
  replace hb := hb.trans (hb1.mono hb.size)
  clear hb1 c1
  iterate 3 (refine wl_k rfl (fun K hK => ?_); go_simp; refine hK _ ?_; clear hK K)
  refine wl_new (fun ev w => ex_alloc118 rfl ev w) ?_
  intro W2 p hb2 hl2 h4
  have Lq := heap_lt h2
  have L1 := heap_lt h1
  replace h1 := below_look hb2 h1
  replace h2 := below_look hb2 h2
  replace hb := hb.trans (hb2.mono hb.size)
  clear hb2
  refine wl_putG p (useG o.kind).cells rfl rfl 118 _ h4 info118 rfl (use_one _) ?_
  replace hb := below_setRow hb (g := p) (by omega) (useG o.kind).cells
  replace h1 := hr_old (cs := (useG o.kind).cells) h1 (show w.heap.size ≠ p by omega)
  replace h2 := hr_old (cs := (useG o.kind).cells) h2 (show q ≠ p by omega)
  replace h4 := hr_new (cs := (useG o.kind).cells) h4
  generalize W2.setRow p (useG o.kind).cells = w3 at *
  rw [put_noneA]
  have hqp : p ≠ q := by omega
  have hwq : w.heap.size ≠ q := by omega
  clear Lq L1 hl2
  go_upto_region 3 with (fail)
  obtain ⟨a0, a1, a2, a3, a4, a5⟩ := op_cell h1
  obtain ⟨b0, b1, b2, b3, b4, b5⟩ := use_cell h4
  refine wp_region_held_drew (S := Kept [q] w3) mixed (Kept.drew [q] w3) (fun hS => ?_)
  refine hv3 (i := 0) rfl (by kernel_rfl) Zg hS rfl (fun w' hw' => ex_row rfl (rowU (hw'.look h4 (by simp <;> omega)))) ?_; try simp only [Zq]
  refine hk3 (i := 1) rfl (by kernel_rfl) Zh hS rfl (fun K hK => ?_); go_simp; refine hK _ ?_; clear hK K; try simp only [Zq]
  refine hk3 (i := 2) rfl (by kernel_rfl) Zh hS rfl (fun K hK => ?_); go_simp; refine hK _ ?_; clear hK K; try simp only [Zq]
  cases hk : (useS o.kind).isSome with
  | true =>
    refine hk3 (i := 3) rfl (by kernel_rfl) Zh hS rfl (fun K hK => ?_); go_simp; refine hK _ ?_; clear hK K; try simp only [Zq]
    refine hk3 (i := 4) rfl (by kernel_rfl) Zh hS rfl (fun K hK => ?_); go_simp; refine hK _ ?_; clear hK K; try simp only [Zq]
    refine hv3 (i := 5) rfl (by kernel_rfl) Zg hS rfl (fun w' hw' => ex_one rfl (one4 (hw'.cell b0 (by simp <;> omega)))) ?_; try simp only [Zq]
    refine hk3 (i := 6) rfl (by kernel_rfl) Zh hS rfl (fun K hK => ?_); go_simp; refine hK _ ?_; clear hK K; try simp only [Zq]
    refine hv3 (i := 7) rfl (by kernel_rfl) Zg hS rfl (fun w' hw' => ex_one rfl (one3 (hw'.cell a1 (by simp <;> omega)))) ?_; try simp only [Zq]
    refine ha_call (i := 8) (by kernel_rfl) rfl rfl (fun K hK => ?_); go_simp; refine ⟨_, _, ⟨rfl, rfl⟩, hK _ _ ⟨_, nm_b (useG o.kind).fr o.fr _, ?_⟩⟩; clear hK K; rintro e w3 ⟨rfl, hb1⟩; refine ⟨_, rfl, hS.below hb1, ?_⟩; replace hS := hS.below hb1; (replace h1 := below_look hb1 h1; replace h2 := below_look hb1 h2; replace h4 := below_look hb1 h4; clear hb1); try simp only [Zq]
    refine hk3 (i := 9) rfl (by kernel_rfl) Zh hS rfl (fun K hK => ?_); go_simp; refine hK _ ?_; clear hK K; try simp only [Zq]
    refine hk3 (i := 10) rfl (by kernel_rfl) Zh hS rfl (fun K hK => ?_); go_simp; refine hK _ ?_; clear hK K; try simp only [Zq]
    cases hn1 : nmOk (useG o.kind).fr o.fr with
    | true =>
      refine hk3 (i := 11) rfl (by kernel_rfl) Zh hS rfl (fun K hK => ?_); go_simp; refine hK _ ?_; clear hK K; try simp only [Zq]
      refine hk3 (i := 12) rfl (by kernel_rfl) Zh hS rfl (fun K hK => ?_); go_simp; refine hK _ ?_; clear hK K; try simp only [Zq]
      refine hv3 (i := 13) rfl (by kernel_rfl) Zg hS rfl (fun w' hw' => ex_one rfl (one4 (hw'.cell b1 (by simp <;> omega)))) ?_; try simp only [Zq]
      refine hk3 (i := 14) rfl (by kernel_rfl) Zh hS rfl (fun K hK => ?_); go_simp; refine hK _ ?_; clear hK K; try simp only [Zq]
      refine hv3 (i := 15) rfl (by kernel_rfl) Zg hS rfl (fun w' hw' => ex_one rfl (one3 (hw'.cell a2 (by simp <;> omega)))) ?_; try simp only [Zq]
      refine ha_call (i := 16) (by kernel_rfl) rfl rfl (fun K hK => ?_); go_simp; refine ⟨_, _, ⟨rfl, rfl⟩, hK _ _ ⟨_, nm_b (useG o.kind).to o.to _, ?_⟩⟩; clear hK K; rintro e w11 ⟨rfl, hb1⟩; refine ⟨_, rfl, hS.below hb1, ?_⟩; replace hS := hS.below hb1; (replace h1 := below_look hb1 h1; replace h2 := below_look hb1 h2; replace h4 := below_look hb1 h4; clear hb1); try simp only [Zq]
      refine hk3 (i := 17) rfl (by kernel_rfl) Zh hS rfl (fun K hK => ?_); go_simp; refine hK _ ?_; clear hK K; try simp only [Zq]
      refine hk3 (i := 18) rfl (by kernel_rfl) Zh hS rfl (fun K hK => ?_); go_simp; refine hK _ ?_; clear hK K; try simp only [Zq]
      cases hn2 : nmOk (useG o.kind).to o.to with
      | true =>
        refine hk3 (i := 19) rfl (by kernel_rfl) Zh hS rfl (fun K hK => ?_); go_simp; refine hK _ ?_; clear hK K; try simp only [Zq]
        refine hv3 (i := 20) rfl (by kernel_rfl) Zg hS rfl (fun w' hw' => ex_one rfl (one4 (hw'.cell b2 (by simp <;> omega)))) ?_; try simp only [Zq]
        refine hk3 (i := 21) rfl (by kernel_rfl) Zh hS rfl (fun K hK => ?_); go_simp; refine hK _ ?_; clear hK K; try simp only [Zq]
        cases hu19 : (useG o.kind).at_ with
        | true =>
          refine hs3 (i := 22) rfl (by kernel_rfl) Zg hS rfl ?_; simp only [Zy]
          refine hs3 (i := 23) rfl (by kernel_rfl) Zg hS rfl ?_; simp only [Zy]
          refine hs3 (i := 24) rfl (by kernel_rfl) Zg hS rfl ?_; simp only [Zy]
          refine hk3 (i := 25) rfl (by kernel_rfl) Zh hS rfl (fun K hK => ?_); go_simp; refine hK _ ?_; clear hK K; try simp only [Zq]
          refine hk3 (i := 26) rfl (by kernel_rfl) Zh hS rfl (fun K hK => ?_); go_simp; refine hK _ ?_; clear hK K; try simp only [Zq]
          refine hk3 (i := 27) rfl (by kernel_rfl) Zh hS rfl (fun K hK => ?_); go_simp; refine hK _ ?_; clear hK K; try simp only [Zq]
          refine hk3 (i := 28) rfl (by kernel_rfl) Zh hS rfl (fun K hK => ?_); go_simp; refine hK _ ?_; clear hK K; try simp only [Zq]
          refine hv3 (i := 29) rfl (by kernel_rfl) Zg hS rfl (fun w' hw' => ex_one rfl (one4 (hw'.cell b3 (by simp <;> omega)))) ?_; try simp only [Zq]
          refine hk3 (i := 30) rfl (by kernel_rfl) Zh hS rfl (fun K hK => ?_); go_simp; refine hK _ ?_; clear hK K; try simp only [Zq]
          cases hu28 : (useG o.kind).n with
          | true =>
            refine hs3 (i := 31) rfl (by kernel_rfl) Zg hS rfl ?_; simp only [Zy]
            refine hs3 (i := 32) rfl (by kernel_rfl) Zg hS rfl ?_; simp only [Zy]
            refine hs3 (i := 33) rfl (by kernel_rfl) Zg hS rfl ?_; simp only [Zy]
            refine hk3 (i := 34) rfl (by kernel_rfl) Zh hS rfl (fun K hK => ?_); go_simp; refine hK _ ?_; clear hK K; try simp only [Zq]
            refine hk3 (i := 35) rfl (by kernel_rfl) Zh hS rfl (fun K hK => ?_); go_simp; refine hK _ ?_; clear hK K; try simp only [Zq]
            refine hk3 (i := 36) rfl (by kernel_rfl) Zh hS rfl (fun K hK => ?_); go_simp; refine hK _ ?_; clear hK K; try simp only [Zq]
            refine hk3 (i := 37) rfl (by kernel_rfl) Zh hS rfl (fun K hK => ?_); go_simp; refine hK _ ?_; clear hK K; try simp only [Zq]
            refine hv3 (i := 38) rfl (by kernel_rfl) Zg hS rfl (fun w' hw' => ex_one rfl (one4 (hw'.cell b4 (by simp <;> omega)))) ?_; try simp only [Zq]
            refine hk3 (i := 39) rfl (by kernel_rfl) Zh hS rfl (fun K hK => ?_); go_simp; refine hK _ ?_; clear hK K; try simp only [Zq]
            cases hu37 : (useG o.kind).key with
            | true =>
              refine hs3 (i := 40) rfl (by kernel_rfl) Zg hS rfl ?_; simp only [Zy]
              refine hs3 (i := 41) rfl (by kernel_rfl) Zg hS rfl ?_; simp only [Zy]
              refine hs3 (i := 42) rfl (by kernel_rfl) Zg hS rfl ?_; simp only [Zy]
              refine hk3 (i := 43) rfl (by kernel_rfl) Zh hS rfl (fun K hK => ?_); go_simp; refine hK _ ?_; clear hK K; try simp only [Zq]
              refine hk3 (i := 44) rfl (by kernel_rfl) Zh hS rfl (fun K hK => ?_); go_simp; refine hK _ ?_; clear hK K; try simp only [Zq]
              refine ha_store (i := 45) (by kernel_rfl) rfl rfl 118 _ _ rfl q (useG o.kind).cells rfl rfl 118 _ h2 info118 rfl (use_one _) (hS.setRow (by simp) _) (fun hS => ?_); try simp only [Zq]
              replace h2 := hr_new (cs := (useG o.kind).cells) h2
              refine hk3 (i := 46) rfl (by kernel_rfl) Zh hS rfl (fun K hK => ?_); go_simp; refine hK _ ?_; clear hK K; try simp only [Zq]
              refine wpAnyH_done (by kernel_rfl) ?_ _
              replace hb := hb.trans (hS.toBelow (B := w.heap.size) hb.size (by simp; omega))
              go_wp2_with fail
              exact bodyPost_ret (res_useT rfl _ _ q rfl h2) rfl ⟨by unfold formS; simp only [hk, hn1, hn2, hu19, Bool.true_or, hu28, Bool.true_or, hu37, Bool.true_or]; rfl, hb⟩
            | false =>
              refine hk3 (i := 40) rfl (by kernel_rfl) Zh hS rfl (fun K hK => ?_); go_simp; refine hK _ ?_; clear hK K; try simp only [Zq]
              refine hv3 (i := 41) rfl (by kernel_rfl) Zg hS rfl (fun w' hw' => ex_one rfl (one9 (hw'.cell a5 (by simp <;> omega)))) ?_; try simp only [Zq]
              refine hk3 (i := 42) rfl (by kernel_rfl) Zh hS rfl (fun K hK => ?_); go_simp; refine hK _ ?_; clear hK K; try simp only [Zq]
              refine hk3 (i := 43) rfl (by kernel_rfl) Zh hS rfl (fun K hK => ?_); go_simp; refine hK _ ?_; clear hK K; try simp only [Zq]
              refine hk3 (i := 44) rfl (by kernel_rfl) Zh hS rfl (fun K hK => ?_); go_simp; refine hK _ ?_; clear hK K; try simp only [Zq]
              cases he37 : o.key.toList.isEmpty with
              | true =>
                refine ha_store (i := 45) (by kernel_rfl) rfl rfl 118 _ _ rfl q (useG o.kind).cells rfl rfl 118 _ h2 info118 rfl (use_one _) (hS.setRow (by simp) _) (fun hS => ?_); try simp only [Zq]
                replace h2 := hr_new (cs := (useG o.kind).cells) h2
                refine hk3 (i := 46) rfl (by kernel_rfl) Zh hS rfl (fun K hK => ?_); go_simp; refine hK _ ?_; clear hK K; try simp only [Zq]
                refine wpAnyH_done (by kernel_rfl) ?_ _
                replace hb := hb.trans (hS.toBelow (B := w.heap.size) hb.size (by simp; omega))
                go_wp2_with fail
                exact bodyPost_ret (res_useT rfl _ _ q rfl h2) rfl ⟨by unfold formS; simp only [hk, hn1, hn2, hu19, Bool.true_or, hu28, Bool.true_or, hu37, he37]; rfl, hb⟩
              | false =>
                refine ha_store (i := 45) (by kernel_rfl) rfl rfl 118 _ _ rfl q (useG o.kind).cells rfl rfl 118 _ h2 info118 rfl (use_one _) (hS.setRow (by simp) _) (fun hS => ?_); try simp only [Zq]
                replace h2 := hr_new (cs := (useG o.kind).cells) h2
                refine hk3 (i := 46) rfl (by kernel_rfl) Zh hS rfl (fun K hK => ?_); go_simp; refine hK _ ?_; clear hK K; try simp only [Zq]
                refine wpAnyH_done (by kernel_rfl) ?_ _
                replace hb := hb.trans (hS.toBelow (B := w.heap.size) hb.size (by simp; omega))
                go_wp2_with fail
                exact bodyPost_ret (res_useT rfl _ _ q rfl h2) rfl ⟨by unfold formS; simp only [hk, hn1, hn2, hu19, Bool.true_or, hu28, Bool.true_or, hu37, he37]; rfl, hb⟩
          | false =>
            refine hk3 (i := 31) rfl (by kernel_rfl) Zh hS rfl (fun K hK => ?_); go_simp; refine hK _ ?_; clear hK K; try simp only [Zq]
            refine hv3 (i := 32) rfl (by kernel_rfl) Zg hS rfl (fun w' hw' => ex_one rfl (one3 (hw'.cell a4 (by simp <;> omega)))) ?_; try simp only [Zq]
            refine hk3 (i := 33) rfl (by kernel_rfl) Zh hS rfl (fun K hK => ?_); go_simp; refine hK _ ?_; clear hK K; try simp only [Zq]
            refine hk3 (i := 34) rfl (by kernel_rfl) Zh hS rfl (fun K hK => ?_); go_simp; refine hK _ ?_; clear hK K; try simp only [Zq]
            refine hk3 (i := 35) rfl (by kernel_rfl) Zh hS rfl (fun K hK => ?_); go_simp; refine hK _ ?_; clear hK K; try simp only [Zq]
            refine hk3 (i := 36) rfl (by kernel_rfl) Zh hS rfl (fun K hK => ?_); go_simp; refine hK _ ?_; clear hK K; try simp only [Zq]
            cases he28 : (o.n == 0) with
            | true =>
              refine hk3 (i := 37) rfl (by kernel_rfl) Zh hS rfl (fun K hK => ?_); go_simp; refine hK _ ?_; clear hK K; try simp only [Zq]
              refine hv3 (i := 38) rfl (by kernel_rfl) Zg hS rfl (fun w' hw' => ex_one rfl (one4 (hw'.cell b4 (by simp <;> omega)))) ?_; try simp only [Zq]
              refine hk3 (i := 39) rfl (by kernel_rfl) Zh hS rfl (fun K hK => ?_); go_simp; refine hK _ ?_; clear hK K; try simp only [Zq]
              cases hu37 : (useG o.kind).key with
              | true =>
                refine hs3 (i := 40) rfl (by kernel_rfl) Zg hS rfl ?_; simp only [Zy]
                refine hs3 (i := 41) rfl (by kernel_rfl) Zg hS rfl ?_; simp only [Zy]
                refine hs3 (i := 42) rfl (by kernel_rfl) Zg hS rfl ?_; simp only [Zy]
                refine hk3 (i := 43) rfl (by kernel_rfl) Zh hS rfl (fun K hK => ?_); go_simp; refine hK _ ?_; clear hK K; try simp only [Zq]
                refine hk3 (i := 44) rfl (by kernel_rfl) Zh hS rfl (fun K hK => ?_); go_simp; refine hK _ ?_; clear hK K; try simp only [Zq]
                refine ha_store (i := 45) (by kernel_rfl) rfl rfl 118 _ _ rfl q (useG o.kind).cells rfl rfl 118 _ h2 info118 rfl (use_one _) (hS.setRow (by simp) _) (fun hS => ?_); try simp only [Zq]
                replace h2 := hr_new (cs := (useG o.kind).cells) h2
                refine hk3 (i := 46) rfl (by kernel_rfl) Zh hS rfl (fun K hK => ?_); go_simp; refine hK _ ?_; clear hK K; try simp only [Zq]
                refine wpAnyH_done (by kernel_rfl) ?_ _
                replace hb := hb.trans (hS.toBelow (B := w.heap.size) hb.size (by simp; omega))
                go_wp2_with fail
                exact bodyPost_ret (res_useT rfl _ _ q rfl h2) rfl ⟨by unfold formS; simp only [hk, hn1, hn2, hu19, Bool.true_or, hu28, he28, hu37, Bool.true_or]; rfl, hb⟩
              | false =>
                refine hk3 (i := 40) rfl (by kernel_rfl) Zh hS rfl (fun K hK => ?_); go_simp; refine hK _ ?_; clear hK K; try simp only [Zq]
                refine hv3 (i := 41) rfl (by kernel_rfl) Zg hS rfl (fun w' hw' => ex_one rfl (one9 (hw'.cell a5 (by simp <;> omega)))) ?_; try simp only [Zq]
                refine hk3 (i := 42) rfl (by kernel_rfl) Zh hS rfl (fun K hK => ?_); go_simp; refine hK _ ?_; clear hK K; try simp only [Zq]
                refine hk3 (i := 43) rfl (by kernel_rfl) Zh hS rfl (fun K hK => ?_); go_simp; refine hK _ ?_; clear hK K; try simp only [Zq]
                refine hk3 (i := 44) rfl (by kernel_rfl) Zh hS rfl (fun K hK => ?_); go_simp; refine hK _ ?_; clear hK K; try simp only [Zq]
                cases he37 : o.key.toList.isEmpty with
                | true =>
                  refine ha_store (i := 45) (by kernel_rfl) rfl rfl 118 _ _ rfl q (useG o.kind).cells rfl rfl 118 _ h2 info118 rfl (use_one _) (hS.setRow (by simp) _) (fun hS => ?_); try simp only [Zq]
                  replace h2 := hr_new (cs := (useG o.kind).cells) h2
                  refine hk3 (i := 46) rfl (by kernel_rfl) Zh hS rfl (fun K hK => ?_); go_simp; refine hK _ ?_; clear hK K; try simp only [Zq]
                  refine wpAnyH_done (by kernel_rfl) ?_ _
                  replace hb := hb.trans (hS.toBelow (B := w.heap.size) hb.size (by simp; omega))
                  go_wp2_with fail
                  exact bodyPost_ret (res_useT rfl _ _ q rfl h2) rfl ⟨by unfold formS; simp only [hk, hn1, hn2, hu19, Bool.true_or, hu28, he28, hu37, he37]; rfl, hb⟩
                | false =>
                  refine ha_store (i := 45) (by kernel_rfl) rfl rfl 118 _ _ rfl q (useG o.kind).cells rfl rfl 118 _ h2 info118 rfl (use_one _) (hS.setRow (by simp) _) (fun hS => ?_); try simp only [Zq]
                  replace h2 := hr_new (cs := (useG o.kind).cells) h2
                  refine hk3 (i := 46) rfl (by kernel_rfl) Zh hS rfl (fun K hK => ?_); go_simp; refine hK _ ?_; clear hK K; try simp only [Zq]
                  refine wpAnyH_done (by kernel_rfl) ?_ _
                  replace hb := hb.trans (hS.toBelow (B := w.heap.size) hb.size (by simp; omega))
                  go_wp2_with fail
                  exact bodyPost_ret (res_useT rfl _ _ q rfl h2) rfl ⟨by unfold formS; simp only [hk, hn1, hn2, hu19, Bool.true_or, hu28, he28, hu37, he37]; rfl, hb⟩
            | false =>
              refine hs3 (i := 37) rfl (by kernel_rfl) Zg hS rfl ?_; simp only [Zy]
              refine hs3 (i := 38) rfl (by kernel_rfl) Zg hS rfl ?_; simp only [Zy]
              refine hs3 (i := 39) rfl (by kernel_rfl) Zg hS rfl ?_; simp only [Zy]
              refine hs3 (i := 40) rfl (by kernel_rfl) Zg hS rfl ?_; simp only [Zy]
              refine hs3 (i := 41) rfl (by kernel_rfl) Zg hS rfl ?_; simp only [Zy]
              refine hs3 (i := 42) rfl (by kernel_rfl) Zg hS rfl ?_; simp only [Zy]
              refine hs3 (i := 43) rfl (by kernel_rfl) Zg hS rfl ?_; simp only [Zy]
              refine hk3 (i := 44) rfl (by kernel_rfl) Zh hS rfl (fun K hK => ?_); go_simp; refine hK _ ?_; clear hK K; try simp only [Zq]
              refine ha_store (i := 45) (by kernel_rfl) rfl rfl 118 _ _ rfl q (useG o.kind).cells rfl rfl 118 _ h2 info118 rfl (use_one _) (hS.setRow (by simp) _) (fun hS => ?_); try simp only [Zq]
              replace h2 := hr_new (cs := (useG o.kind).cells) h2
              refine hk3 (i := 46) rfl (by kernel_rfl) Zh hS rfl (fun K hK => ?_); go_simp; refine hK _ ?_; clear hK K; try simp only [Zq]
              refine wpAnyH_done (by kernel_rfl) ?_ _
              replace hb := hb.trans (hS.toBelow (B := w.heap.size) hb.size (by simp; omega))
              go_wp2_with fail
              exact bodyPost_ret (res_useT rfl _ _ q rfl h2) rfl ⟨by unfold formS; simp only [hk, hn1, hn2, hu19, Bool.true_or, hu28, he28]; rfl, hb⟩
        | false =>
          refine hk3 (i := 22) rfl (by kernel_rfl) Zh hS rfl (fun K hK => ?_); go_simp; refine hK _ ?_; clear hK K; try simp only [Zq]
          refine hv3 (i := 23) rfl (by kernel_rfl) Zg hS rfl (fun w' hw' => ex_one rfl (one3 (hw'.cell a3 (by simp <;> omega)))) ?_; try simp only [Zq]
          refine hk3 (i := 24) rfl (by kernel_rfl) Zh hS rfl (fun K hK => ?_); go_simp; refine hK _ ?_; clear hK K; try simp only [Zq]
          refine hk3 (i := 25) rfl (by kernel_rfl) Zh hS rfl (fun K hK => ?_); go_simp; refine hK _ ?_; clear hK K; try simp only [Zq]
          refine hk3 (i := 26) rfl (by kernel_rfl) Zh hS rfl (fun K hK => ?_); go_simp; refine hK _ ?_; clear hK K; try simp only [Zq]
          refine hk3 (i := 27) rfl (by kernel_rfl) Zh hS rfl (fun K hK => ?_); go_simp; refine hK _ ?_; clear hK K; try simp only [Zq]
          cases he19 : (o.at_ == 0) with
          | true =>
            refine hk3 (i := 28) rfl (by kernel_rfl) Zh hS rfl (fun K hK => ?_); go_simp; refine hK _ ?_; clear hK K; try simp only [Zq]
            refine hv3 (i := 29) rfl (by kernel_rfl) Zg hS rfl (fun w' hw' => ex_one rfl (one4 (hw'.cell b3 (by simp <;> omega)))) ?_; try simp only [Zq]
            refine hk3 (i := 30) rfl (by kernel_rfl) Zh hS rfl (fun K hK => ?_); go_simp; refine hK _ ?_; clear hK K; try simp only [Zq]
            cases hu28 : (useG o.kind).n with
            | true =>
              refine hs3 (i := 31) rfl (by kernel_rfl) Zg hS rfl ?_; simp only [Zy]
              refine hs3 (i := 32) rfl (by kernel_rfl) Zg hS rfl ?_; simp only [Zy]
              refine hs3 (i := 33) rfl (by kernel_rfl) Zg hS rfl ?_; simp only [Zy]
              refine hk3 (i := 34) rfl (by kernel_rfl) Zh hS rfl (fun K hK => ?_); go_simp; refine hK _ ?_; clear hK K; try simp only [Zq]
              refine hk3 (i := 35) rfl (by kernel_rfl) Zh hS rfl (fun K hK => ?_); go_simp; refine hK _ ?_; clear hK K; try simp only [Zq]
              refine hk3 (i := 36) rfl (by kernel_rfl) Zh hS rfl (fun K hK => ?_); go_simp; refine hK _ ?_; clear hK K; try simp only [Zq]
              refine hk3 (i := 37) rfl (by kernel_rfl) Zh hS rfl (fun K hK => ?_); go_simp; refine hK _ ?_; clear hK K; try simp only [Zq]
              refine hv3 (i := 38) rfl (by kernel_rfl) Zg hS rfl (fun w' hw' => ex_one rfl (one4 (hw'.cell b4 (by simp <;> omega)))) ?_; try simp only [Zq]
              refine hk3 (i := 39) rfl (by kernel_rfl) Zh hS rfl (fun K hK => ?_); go_simp; refine hK _ ?_; clear hK K; try simp only [Zq]
              cases hu37 : (useG o.kind).key with
              | true =>
                refine hs3 (i := 40) rfl (by kernel_rfl) Zg hS rfl ?_; simp only [Zy]
                refine hs3 (i := 41) rfl (by kernel_rfl) Zg hS rfl ?_; simp only [Zy]
                refine hs3 (i := 42) rfl (by kernel_rfl) Zg hS rfl ?_; simp only [Zy]
                refine hk3 (i := 43) rfl (by kernel_rfl) Zh hS rfl (fun K hK => ?_); go_simp; refine hK _ ?_; clear hK K; try simp only [Zq]
                refine hk3 (i := 44) rfl (by kernel_rfl) Zh hS rfl (fun K hK => ?_); go_simp; refine hK _ ?_; clear hK K; try simp only [Zq]
                refine ha_store (i := 45) (by kernel_rfl) rfl rfl 118 _ _ rfl q (useG o.kind).cells rfl rfl 118 _ h2 info118 rfl (use_one _) (hS.setRow (by simp) _) (fun hS => ?_); try simp only [Zq]
                replace h2 := hr_new (cs := (useG o.kind).cells) h2
                refine hk3 (i := 46) rfl (by kernel_rfl) Zh hS rfl (fun K hK => ?_); go_simp; refine hK _ ?_; clear hK K; try simp only [Zq]
                refine wpAnyH_done (by kernel_rfl) ?_ _
                replace hb := hb.trans (hS.toBelow (B := w.heap.size) hb.size (by simp; omega))
                go_wp2_with fail
                exact bodyPost_ret (res_useT rfl _ _ q rfl h2) rfl ⟨by unfold formS; simp only [hk, hn1, hn2, hu19, he19, hu28, Bool.true_or, hu37, Bool.true_or]; rfl, hb⟩
              | false =>
                refine hk3 (i := 40) rfl (by kernel_rfl) Zh hS rfl (fun K hK => ?_); go_simp; refine hK _ ?_; clear hK K; try simp only [Zq]
                refine hv3 (i := 41) rfl (by kernel_rfl) Zg hS rfl (fun w' hw' => ex_one rfl (one9 (hw'.cell a5 (by simp <;> omega)))) ?_; try simp only [Zq]
                refine hk3 (i := 42) rfl (by kernel_rfl) Zh hS rfl (fun K hK => ?_); go_simp; refine hK _ ?_; clear hK K; try simp only [Zq]
                refine hk3 (i := 43) rfl (by kernel_rfl) Zh hS rfl (fun K hK => ?_); go_simp; refine hK _ ?_; clear hK K; try simp only [Zq]
                refine hk3 (i := 44) rfl (by kernel_rfl) Zh hS rfl (fun K hK => ?_); go_simp; refine hK _ ?_; clear hK K; try simp only [Zq]
                cases he37 : o.key.toList.isEmpty with
                | true =>
                  refine ha_store (i := 45) (by kernel_rfl) rfl rfl 118 _ _ rfl q (useG o.kind).cells rfl rfl 118 _ h2 info118 rfl (use_one _) (hS.setRow (by simp) _) (fun hS => ?_); try simp only [Zq]
                  replace h2 := hr_new (cs := (useG o.kind).cells) h2
                  refine hk3 (i := 46) rfl (by kernel_rfl) Zh hS rfl (fun K hK => ?_); go_simp; refine hK _ ?_; clear hK K; try simp only [Zq]
                  refine wpAnyH_done (by kernel_rfl) ?_ _
                  replace hb := hb.trans (hS.toBelow (B := w.heap.size) hb.size (by simp; omega))
                  go_wp2_with fail
                  exact bodyPost_ret (res_useT rfl _ _ q rfl h2) rfl ⟨by unfold formS; simp only [hk, hn1, hn2, hu19, he19, hu28, Bool.true_or, hu37, he37]; rfl, hb⟩
                | false =>
                  refine ha_store (i := 45) (by kernel_rfl) rfl rfl 118 _ _ rfl q (useG o.kind).cells rfl rfl 118 _ h2 info118 rfl (use_one _) (hS.setRow (by simp) _) (fun hS => ?_); try simp only [Zq]
                  replace h2 := hr_new (cs := (useG o.kind).cells) h2
                  refine hk3 (i := 46) rfl (by kernel_rfl) Zh hS rfl (fun K hK => ?_); go_simp; refine hK _ ?_; clear hK K; try simp only [Zq]
                  refine wpAnyH_done (by kernel_rfl) ?_ _
                  replace hb := hb.trans (hS.toBelow (B := w.heap.size) hb.size (by simp; omega))
                  go_wp2_with fail
                  exact bodyPost_ret (res_useT rfl _ _ q rfl h2) rfl ⟨by unfold formS; simp only [hk, hn1, hn2, hu19, he19, hu28, Bool.true_or, hu37, he37]; rfl, hb⟩
            | false =>
              refine hk3 (i := 31) rfl (by kernel_rfl) Zh hS rfl (fun K hK => ?_); go_simp; refine hK _ ?_; clear hK K; try simp only [Zq]
              refine hv3 (i := 32) rfl (by kernel_rfl) Zg hS rfl (fun w' hw' => ex_one rfl (one3 (hw'.cell a4 (by simp <;> omega)))) ?_; try simp only [Zq]
              refine hk3 (i := 33) rfl (by kernel_rfl) Zh hS rfl (fun K hK => ?_); go_simp; refine hK _ ?_; clear hK K; try simp only [Zq]
              refine hk3 (i := 34) rfl (by kernel_rfl) Zh hS rfl (fun K hK => ?_); go_simp; refine hK _ ?_; clear hK K; try simp only [Zq]
              refine hk3 (i := 35) rfl (by kernel_rfl) Zh hS rfl (fun K hK => ?_); go_simp; refine hK _ ?_; clear hK K; try simp only [Zq]
              refine hk3 (i := 36) rfl (by kernel_rfl) Zh hS rfl (fun K hK => ?_); go_simp; refine hK _ ?_; clear hK K; try simp only [Zq]
              cases he28 : (o.n == 0) with
              | true =>
                refine hk3 (i := 37) rfl (by kernel_rfl) Zh hS rfl (fun K hK => ?_); go_simp; refine hK _ ?_; clear hK K; try simp only [Zq]
                refine hv3 (i := 38) rfl (by kernel_rfl) Zg hS rfl (fun w' hw' => ex_one rfl (one4 (hw'.cell b4 (by simp <;> omega)))) ?_; try simp only [Zq]
                refine hk3 (i := 39) rfl (by kernel_rfl) Zh hS rfl (fun K hK => ?_); go_simp; refine hK _ ?_; clear hK K; try simp only [Zq]
                cases hu37 : (useG o.kind).key with
                | true =>
                  refine hs3 (i := 40) rfl (by kernel_rfl) Zg hS rfl ?_; simp only [Zy]
                  refine hs3 (i := 41) rfl (by kernel_rfl) Zg hS rfl ?_; simp only [Zy]
                  refine hs3 (i := 42) rfl (by kernel_rfl) Zg hS rfl ?_; simp only [Zy]
                  refine hk3 (i := 43) rfl (by kernel_rfl) Zh hS rfl (fun K hK => ?_); go_simp; refine hK _ ?_; clear hK K; try simp only [Zq]
                  refine hk3 (i := 44) rfl (by kernel_rfl) Zh hS rfl (fun K hK => ?_); go_simp; refine hK _ ?_; clear hK K; try simp only [Zq]
                  refine ha_store (i := 45) (by kernel_rfl) rfl rfl 118 _ _ rfl q (useG o.kind).cells rfl rfl 118 _ h2 info118 rfl (use_one _) (hS.setRow (by simp) _) (fun hS => ?_); try simp only [Zq]
                  replace h2 := hr_new (cs := (useG o.kind).cells) h2
                  refine hk3 (i := 46) rfl (by kernel_rfl) Zh hS rfl (fun K hK => ?_); go_simp; refine hK _ ?_; clear hK K; try simp only [Zq]
                  refine wpAnyH_done (by kernel_rfl) ?_ _
                  replace hb := hb.trans (hS.toBelow (B := w.heap.size) hb.size (by simp; omega))
                  go_wp2_with fail
                  exact bodyPost_ret (res_useT rfl _ _ q rfl h2) rfl ⟨by unfold formS; simp only [hk, hn1, hn2, hu19, he19, hu28, he28, hu37, Bool.true_or]; rfl, hb⟩
                | false =>
                  refine hk3 (i := 40) rfl (by kernel_rfl) Zh hS rfl (fun K hK => ?_); go_simp; refine hK _ ?_; clear hK K; try simp only [Zq]
                  refine hv3 (i := 41) rfl (by kernel_rfl) Zg hS rfl (fun w' hw' => ex_one rfl (one9 (hw'.cell a5 (by simp <;> omega)))) ?_; try simp only [Zq]
                  refine hk3 (i := 42) rfl (by kernel_rfl) Zh hS rfl (fun K hK => ?_); go_simp; refine hK _ ?_; clear hK K; try simp only [Zq]
                  refine hk3 (i := 43) rfl (by kernel_rfl) Zh hS rfl (fun K hK => ?_); go_simp; refine hK _ ?_; clear hK K; try simp only [Zq]
                  refine hk3 (i := 44) rfl (by kernel_rfl) Zh hS rfl (fun K hK => ?_); go_simp; refine hK _ ?_; clear hK K; try simp only [Zq]
                  cases he37 : o.key.toList.isEmpty with
                  | true =>
                    refine ha_store (i := 45) (by kernel_rfl) rfl rfl 118 _ _ rfl q (useG o.kind).cells rfl rfl 118 _ h2 info118 rfl (use_one _) (hS.setRow (by simp) _) (fun hS => ?_); try simp only [Zq]
                    replace h2 := hr_new (cs := (useG o.kind).cells) h2
                    refine hk3 (i := 46) rfl (by kernel_rfl) Zh hS rfl (fun K hK => ?_); go_simp; refine hK _ ?_; clear hK K; try simp only [Zq]
                    refine wpAnyH_done (by kernel_rfl) ?_ _
                    replace hb := hb.trans (hS.toBelow (B := w.heap.size) hb.size (by simp; omega))
                    go_wp2_with fail
                    exact bodyPost_ret (res_useT rfl _ _ q rfl h2) rfl ⟨by unfold formS; simp only [hk, hn1, hn2, hu19, he19, hu28, he28, hu37, he37]; rfl, hb⟩
                  | false =>
                    refine ha_store (i := 45) (by kernel_rfl) rfl rfl 118 _ _ rfl q (useG o.kind).cells rfl rfl 118 _ h2 info118 rfl (use_one _) (hS.setRow (by simp) _) (fun hS => ?_); try simp only [Zq]
                    replace h2 := hr_new (cs := (useG o.kind).cells) h2
                    refine hk3 (i := 46) rfl (by kernel_rfl) Zh hS rfl (fun K hK => ?_); go_simp; refine hK _ ?_; clear hK K; try simp only [Zq]
                    refine wpAnyH_done (by kernel_rfl) ?_ _
                    replace hb := hb.trans (hS.toBelow (B := w.heap.size) hb.size (by simp; omega))
                    go_wp2_with fail
                    exact bodyPost_ret (res_useT rfl _ _ q rfl h2) rfl ⟨by unfold formS; simp only [hk, hn1, hn2, hu19, he19, hu28, he28, hu37, he37]; rfl, hb⟩
              | false =>
                refine hs3 (i := 37) rfl (by kernel_rfl) Zg hS rfl ?_; simp only [Zy]
                refine hs3 (i := 38) rfl (by kernel_rfl) Zg hS rfl ?_; simp only [Zy]
                refine hs3 (i := 39) rfl (by kernel_rfl) Zg hS rfl ?_; simp only [Zy]
                refine hs3 (i := 40) rfl (by kernel_rfl) Zg hS rfl ?_; simp only [Zy]
                refine hs3 (i := 41) rfl (by kernel_rfl) Zg hS rfl ?_; simp only [Zy]
                refine hs3 (i := 42) rfl (by kernel_rfl) Zg hS rfl ?_; simp only [Zy]
                refine hs3 (i := 43) rfl (by kernel_rfl) Zg hS rfl ?_; simp only [Zy]
                refine hk3 (i := 44) rfl (by kernel_rfl) Zh hS rfl (fun K hK => ?_); go_simp; refine hK _ ?_; clear hK K; try simp only [Zq]
                refine ha_store (i := 45) (by kernel_rfl) rfl rfl 118 _ _ rfl q (useG o.kind).cells rfl rfl 118 _ h2 info118 rfl (use_one _) (hS.setRow (by simp) _) (fun hS => ?_); try simp only [Zq]
                replace h2 := hr_new (cs := (useG o.kind).cells) h2
                refine hk3 (i := 46) rfl (by kernel_rfl) Zh hS rfl (fun K hK => ?_); go_simp; refine hK _ ?_; clear hK K; try simp only [Zq]
                refine wpAnyH_done (by kernel_rfl) ?_ _
                replace hb := hb.trans (hS.toBelow (B := w.heap.size) hb.size (by simp; omega))
                go_wp2_with fail
                exact bodyPost_ret (res_useT rfl _ _ q rfl h2) rfl ⟨by unfold formS; simp only [hk, hn1, hn2, hu19, he19, hu28, he28]; rfl, hb⟩
          | false =>
            refine hs3 (i := 28) rfl (by kernel_rfl) Zg hS rfl ?_; simp only [Zy]
            refine hs3 (i := 29) rfl (by kernel_rfl) Zg hS rfl ?_; simp only [Zy]
            refine hs3 (i := 30) rfl (by kernel_rfl) Zg hS rfl ?_; simp only [Zy]
            refine hs3 (i := 31) rfl (by kernel_rfl) Zg hS rfl ?_; simp only [Zy]
            refine hs3 (i := 32) rfl (by kernel_rfl) Zg hS rfl ?_; simp only [Zy]
            refine hs3 (i := 33) rfl (by kernel_rfl) Zg hS rfl ?_; simp only [Zy]
            refine hs3 (i := 34) rfl (by kernel_rfl) Zg hS rfl ?_; simp only [Zy]
            refine hk3 (i := 35) rfl (by kernel_rfl) Zh hS rfl (fun K hK => ?_); go_simp; refine hK _ ?_; clear hK K; try simp only [Zq]
            refine hk3 (i := 36) rfl (by kernel_rfl) Zh hS rfl (fun K hK => ?_); go_simp; refine hK _ ?_; clear hK K; try simp only [Zq]
            refine hs3 (i := 37) rfl (by kernel_rfl) Zg hS rfl ?_; simp only [Zy]
            refine hs3 (i := 38) rfl (by kernel_rfl) Zg hS rfl ?_; simp only [Zy]
            refine hs3 (i := 39) rfl (by kernel_rfl) Zg hS rfl ?_; simp only [Zy]
            refine hs3 (i := 40) rfl (by kernel_rfl) Zg hS rfl ?_; simp only [Zy]
            refine hs3 (i := 41) rfl (by kernel_rfl) Zg hS rfl ?_; simp only [Zy]
            refine hs3 (i := 42) rfl (by kernel_rfl) Zg hS rfl ?_; simp only [Zy]
            refine hs3 (i := 43) rfl (by kernel_rfl) Zg hS rfl ?_; simp only [Zy]
            refine hk3 (i := 44) rfl (by kernel_rfl) Zh hS rfl (fun K hK => ?_); go_simp; refine hK _ ?_; clear hK K; try simp only [Zq]
            refine ha_store (i := 45) (by kernel_rfl) rfl rfl 118 _ _ rfl q (useG o.kind).cells rfl rfl 118 _ h2 info118 rfl (use_one _) (hS.setRow (by simp) _) (fun hS => ?_); try simp only [Zq]
            replace h2 := hr_new (cs := (useG o.kind).cells) h2
            refine hk3 (i := 46) rfl (by kernel_rfl) Zh hS rfl (fun K hK => ?_); go_simp; refine hK _ ?_; clear hK K; try simp only [Zq]
            refine wpAnyH_done (by kernel_rfl) ?_ _
            replace hb := hb.trans (hS.toBelow (B := w.heap.size) hb.size (by simp; omega))
            go_wp2_with fail
            exact bodyPost_ret (res_useT rfl _ _ q rfl h2) rfl ⟨by unfold formS; simp only [hk, hn1, hn2, hu19, he19]; rfl, hb⟩
      | false =>
        refine hs3 (i := 19) rfl (by kernel_rfl) Zg hS rfl ?_; simp only [Zy]
        refine hs3 (i := 20) rfl (by kernel_rfl) Zg hS rfl ?_; simp only [Zy]
        refine hs3 (i := 21) rfl (by kernel_rfl) Zg hS rfl ?_; simp only [Zy]
        refine hs3 (i := 22) rfl (by kernel_rfl) Zg hS rfl ?_; simp only [Zy]
        refine hs3 (i := 23) rfl (by kernel_rfl) Zg hS rfl ?_; simp only [Zy]
        refine hs3 (i := 24) rfl (by kernel_rfl) Zg hS rfl ?_; simp only [Zy]
        refine hs3 (i := 25) rfl (by kernel_rfl) Zg hS rfl ?_; simp only [Zy]
        refine hk3 (i := 26) rfl (by kernel_rfl) Zh hS rfl (fun K hK => ?_); go_simp; refine hK _ ?_; clear hK K; try simp only [Zq]
        refine hk3 (i := 27) rfl (by kernel_rfl) Zh hS rfl (fun K hK => ?_); go_simp; refine hK _ ?_; clear hK K; try simp only [Zq]
        refine hs3 (i := 28) rfl (by kernel_rfl) Zg hS rfl ?_; simp only [Zy]
        refine hs3 (i := 29) rfl (by kernel_rfl) Zg hS rfl ?_; simp only [Zy]
        refine hs3 (i := 30) rfl (by kernel_rfl) Zg hS rfl ?_; simp only [Zy]
        refine hs3 (i := 31) rfl (by kernel_rfl) Zg hS rfl ?_; simp only [Zy]
        refine hs3 (i := 32) rfl (by kernel_rfl) Zg hS rfl ?_; simp only [Zy]
        refine hs3 (i := 33) rfl (by kernel_rfl) Zg hS rfl ?_; simp only [Zy]
        refine hs3 (i := 34) rfl (by kernel_rfl) Zg hS rfl ?_; simp only [Zy]
        refine hk3 (i := 35) rfl (by kernel_rfl) Zh hS rfl (fun K hK => ?_); go_simp; refine hK _ ?_; clear hK K; try simp only [Zq]
        refine hk3 (i := 36) rfl (by kernel_rfl) Zh hS rfl (fun K hK => ?_); go_simp; refine hK _ ?_; clear hK K; try simp only [Zq]
        refine hs3 (i := 37) rfl (by kernel_rfl) Zg hS rfl ?_; simp only [Zy]
        refine hs3 (i := 38) rfl (by kernel_rfl) Zg hS rfl ?_; simp only [Zy]
        refine hs3 (i := 39) rfl (by kernel_rfl) Zg hS rfl ?_; simp only [Zy]
        refine hs3 (i := 40) rfl (by kernel_rfl) Zg hS rfl ?_; simp only [Zy]
        refine hs3 (i := 41) rfl (by kernel_rfl) Zg hS rfl ?_; simp only [Zy]
        refine hs3 (i := 42) rfl (by kernel_rfl) Zg hS rfl ?_; simp only [Zy]
        refine hs3 (i := 43) rfl (by kernel_rfl) Zg hS rfl ?_; simp only [Zy]
        refine hk3 (i := 44) rfl (by kernel_rfl) Zh hS rfl (fun K hK => ?_); go_simp; refine hK _ ?_; clear hK K; try simp only [Zq]
        refine ha_store (i := 45) (by kernel_rfl) rfl rfl 118 _ _ rfl q (useG o.kind).cells rfl rfl 118 _ h2 info118 rfl (use_one _) (hS.setRow (by simp) _) (fun hS => ?_); try simp only [Zq]
        replace h2 := hr_new (cs := (useG o.kind).cells) h2
        refine hk3 (i := 46) rfl (by kernel_rfl) Zh hS rfl (fun K hK => ?_); go_simp; refine hK _ ?_; clear hK K; try simp only [Zq]
        refine wpAnyH_done (by kernel_rfl) ?_ _
        replace hb := hb.trans (hS.toBelow (B := w.heap.size) hb.size (by simp; omega))
        go_wp2_with fail
        exact bodyPost_ret (res_useT rfl _ _ q rfl h2) rfl ⟨by unfold formS; simp only [hk, hn1, hn2]; rfl, hb⟩
    | false =>
      refine hs3 (i := 11) rfl (by kernel_rfl) Zg hS rfl ?_; simp only [Zy]
      refine hs3 (i := 12) rfl (by kernel_rfl) Zg hS rfl ?_; simp only [Zy]
      refine hs3 (i := 13) rfl (by kernel_rfl) Zg hS rfl ?_; simp only [Zy]
      refine hs3 (i := 14) rfl (by kernel_rfl) Zg hS rfl ?_; simp only [Zy]
      refine hs3 (i := 15) rfl (by kernel_rfl) Zg hS rfl ?_; simp only [Zy]
      refine hs3 (i := 16) rfl (by kernel_rfl) Zg hS rfl ?_; simp only [Zy]
      refine hk3 (i := 17) rfl (by kernel_rfl) Zh hS rfl (fun K hK => ?_); go_simp; refine hK _ ?_; clear hK K; try simp only [Zq]
      refine hk3 (i := 18) rfl (by kernel_rfl) Zh hS rfl (fun K hK => ?_); go_simp; refine hK _ ?_; clear hK K; try simp only [Zq]
      refine hs3 (i := 19) rfl (by kernel_rfl) Zg hS rfl ?_; simp only [Zy]
      refine hs3 (i := 20) rfl (by kernel_rfl) Zg hS rfl ?_; simp only [Zy]
      refine hs3 (i := 21) rfl (by kernel_rfl) Zg hS rfl ?_; simp only [Zy]
      refine hs3 (i := 22) rfl (by kernel_rfl) Zg hS rfl ?_; simp only [Zy]
      refine hs3 (i := 23) rfl (by kernel_rfl) Zg hS rfl ?_; simp only [Zy]
      refine hs3 (i := 24) rfl (by kernel_rfl) Zg hS rfl ?_; simp only [Zy]
      refine hs3 (i := 25) rfl (by kernel_rfl) Zg hS rfl ?_; simp only [Zy]
      refine hk3 (i := 26) rfl (by kernel_rfl) Zh hS rfl (fun K hK => ?_); go_simp; refine hK _ ?_; clear hK K; try simp only [Zq]
      refine hk3 (i := 27) rfl (by kernel_rfl) Zh hS rfl (fun K hK => ?_); go_simp; refine hK _ ?_; clear hK K; try simp only [Zq]
      refine hs3 (i := 28) rfl (by kernel_rfl) Zg hS rfl ?_; simp only [Zy]
      refine hs3 (i := 29) rfl (by kernel_rfl) Zg hS rfl ?_; simp only [Zy]
      refine hs3 (i := 30) rfl (by kernel_rfl) Zg hS rfl ?_; simp only [Zy]
      refine hs3 (i := 31) rfl (by kernel_rfl) Zg hS rfl ?_; simp only [Zy]
      refine hs3 (i := 32) rfl (by kernel_rfl) Zg hS rfl ?_; simp only [Zy]
      refine hs3 (i := 33) rfl (by kernel_rfl) Zg hS rfl ?_; simp only [Zy]
      refine hs3 (i := 34) rfl (by kernel_rfl) Zg hS rfl ?_; simp only [Zy]
      refine hk3 (i := 35) rfl (by kernel_rfl) Zh hS rfl (fun K hK => ?_); go_simp; refine hK _ ?_; clear hK K; try simp only [Zq]
      refine hk3 (i := 36) rfl (by kernel_rfl) Zh hS rfl (fun K hK => ?_); go_simp; refine hK _ ?_; clear hK K; try simp only [Zq]
      refine hs3 (i := 37) rfl (by kernel_rfl) Zg hS rfl ?_; simp only [Zy]
      refine hs3 (i := 38) rfl (by kernel_rfl) Zg hS rfl ?_; simp only [Zy]
      refine hs3 (i := 39) rfl (by kernel_rfl) Zg hS rfl ?_; simp only [Zy]
      refine hs3 (i := 40) rfl (by kernel_rfl) Zg hS rfl ?_; simp only [Zy]
      refine hs3 (i := 41) rfl (by kernel_rfl) Zg hS rfl ?_; simp only [Zy]
      refine hs3 (i := 42) rfl (by kernel_rfl) Zg hS rfl ?_; simp only [Zy]
      refine hs3 (i := 43) rfl (by kernel_rfl) Zg hS rfl ?_; simp only [Zy]
      refine hk3 (i := 44) rfl (by kernel_rfl) Zh hS rfl (fun K hK => ?_); go_simp; refine hK _ ?_; clear hK K; try simp only [Zq]
      refine ha_store (i := 45) (by kernel_rfl) rfl rfl 118 _ _ rfl q (useG o.kind).cells rfl rfl 118 _ h2 info118 rfl (use_one _) (hS.setRow (by simp) _) (fun hS => ?_); try simp only [Zq]
      replace h2 := hr_new (cs := (useG o.kind).cells) h2
      refine hk3 (i := 46) rfl (by kernel_rfl) Zh hS rfl (fun K hK => ?_); go_simp; refine hK _ ?_; clear hK K; try simp only [Zq]
      refine wpAnyH_done (by kernel_rfl) ?_ _
      replace hb := hb.trans (hS.toBelow (B := w.heap.size) hb.size (by simp; omega))
      go_wp2_with fail
      exact bodyPost_ret (res_useT rfl _ _ q rfl h2) rfl ⟨by unfold formS; simp only [hk, hn1]; rfl, hb⟩
  | false =>
    refine hs3 (i := 3) rfl (by kernel_rfl) Zg hS rfl ?_; simp only [Zy]
    refine hs3 (i := 4) rfl (by kernel_rfl) Zg hS rfl ?_; simp only [Zy]
    refine hs3 (i := 5) rfl (by kernel_rfl) Zg hS rfl ?_; simp only [Zy]
    refine hs3 (i := 6) rfl (by kernel_rfl) Zg hS rfl ?_; simp only [Zy]
    refine hs3 (i := 7) rfl (by kernel_rfl) Zg hS rfl ?_; simp only [Zy]
    refine hs3 (i := 8) rfl (by kernel_rfl) Zg hS rfl ?_; simp only [Zy]
    refine hk3 (i := 9) rfl (by kernel_rfl) Zh hS rfl (fun K hK => ?_); go_simp; refine hK _ ?_; clear hK K; try simp only [Zq]
    refine hk3 (i := 10) rfl (by kernel_rfl) Zh hS rfl (fun K hK => ?_); go_simp; refine hK _ ?_; clear hK K; try simp only [Zq]
    refine hs3 (i := 11) rfl (by kernel_rfl) Zg hS rfl ?_; simp only [Zy]
    refine hs3 (i := 12) rfl (by kernel_rfl) Zg hS rfl ?_; simp only [Zy]
    refine hs3 (i := 13) rfl (by kernel_rfl) Zg hS rfl ?_; simp only [Zy]
    refine hs3 (i := 14) rfl (by kernel_rfl) Zg hS rfl ?_; simp only [Zy]
    refine hs3 (i := 15) rfl (by kernel_rfl) Zg hS rfl ?_; simp only [Zy]
    refine hs3 (i := 16) rfl (by kernel_rfl) Zg hS rfl ?_; simp only [Zy]
    refine hk3 (i := 17) rfl (by kernel_rfl) Zh hS rfl (fun K hK => ?_); go_simp; refine hK _ ?_; clear hK K; try simp only [Zq]
    refine hk3 (i := 18) rfl (by kernel_rfl) Zh hS rfl (fun K hK => ?_); go_simp; refine hK _ ?_; clear hK K; try simp only [Zq]
    refine hs3 (i := 19) rfl (by kernel_rfl) Zg hS rfl ?_; simp only [Zy]
    refine hs3 (i := 20) rfl (by kernel_rfl) Zg hS rfl ?_; simp only [Zy]
    refine hs3 (i := 21) rfl (by kernel_rfl) Zg hS rfl ?_; simp only [Zy]
    refine hs3 (i := 22) rfl (by kernel_rfl) Zg hS rfl ?_; simp only [Zy]
    refine hs3 (i := 23) rfl (by kernel_rfl) Zg hS rfl ?_; simp only [Zy]
    refine hs3 (i := 24) rfl (by kernel_rfl) Zg hS rfl ?_; simp only [Zy]
    refine hs3 (i := 25) rfl (by kernel_rfl) Zg hS rfl ?_; simp only [Zy]
    refine hk3 (i := 26) rfl (by kernel_rfl) Zh hS rfl (fun K hK => ?_); go_simp; refine hK _ ?_; clear hK K; try simp only [Zq]
    refine hk3 (i := 27) rfl (by kernel_rfl) Zh hS rfl (fun K hK => ?_); go_simp; refine hK _ ?_; clear hK K; try simp only [Zq]
    refine hs3 (i := 28) rfl (by kernel_rfl) Zg hS rfl ?_; simp only [Zy]
    refine hs3 (i := 29) rfl (by kernel_rfl) Zg hS rfl ?_; simp only [Zy]
    refine hs3 (i := 30) rfl (by kernel_rfl) Zg hS rfl ?_; simp only [Zy]
    refine hs3 (i := 31) rfl (by kernel_rfl) Zg hS rfl ?_; simp only [Zy]
    refine hs3 (i := 32) rfl (by kernel_rfl) Zg hS rfl ?_; simp only [Zy]
    refine hs3 (i := 33) rfl (by kernel_rfl) Zg hS rfl ?_; simp only [Zy]
    refine hs3 (i := 34) rfl (by kernel_rfl) Zg hS rfl ?_; simp only [Zy]
    refine hk3 (i := 35) rfl (by kernel_rfl) Zh hS rfl (fun K hK => ?_); go_simp; refine hK _ ?_; clear hK K; try simp only [Zq]
    refine hk3 (i := 36) rfl (by kernel_rfl) Zh hS rfl (fun K hK => ?_); go_simp; refine hK _ ?_; clear hK K; try simp only [Zq]
    refine hs3 (i := 37) rfl (by kernel_rfl) Zg hS rfl ?_; simp only [Zy]
    refine hs3 (i := 38) rfl (by kernel_rfl) Zg hS rfl ?_; simp only [Zy]
    refine hs3 (i := 39) rfl (by kernel_rfl) Zg hS rfl ?_; simp only [Zy]
    refine hs3 (i := 40) rfl (by kernel_rfl) Zg hS rfl ?_; simp only [Zy]
    refine hs3 (i := 41) rfl (by kernel_rfl) Zg hS rfl ?_; simp only [Zy]
    refine hs3 (i := 42) rfl (by kernel_rfl) Zg hS rfl ?_; simp only [Zy]
    refine hs3 (i := 43) rfl (by kernel_rfl) Zg hS rfl ?_; simp only [Zy]
    refine hk3 (i := 44) rfl (by kernel_rfl) Zh hS rfl (fun K hK => ?_); go_simp; refine hK _ ?_; clear hK K; try simp only [Zq]
    refine ha_store (i := 45) (by kernel_rfl) rfl rfl 118 _ _ rfl q (useG o.kind).cells rfl rfl 118 _ h2 info118 rfl (use_one _) (hS.setRow (by simp) _) (fun hS => ?_); try simp only [Zq]
    replace h2 := hr_new (cs := (useG o.kind).cells) h2
    refine hk3 (i := 46) rfl (by kernel_rfl) Zh hS rfl (fun K hK => ?_); go_simp; refine hK _ ?_; clear hK K; try simp only [Zq]
    refine wpAnyH_done (by kernel_rfl) ?_ _
    replace hb := hb.trans (hS.toBelow (B := w.heap.size) hb.size (by simp; omega))
    go_wp2_with fail
    exact bodyPost_ret (res_useT rfl _ _ q rfl h2) rfl ⟨by unfold formS; simp only [hk]; rfl, hb⟩
end Go.Proofs.Ytbhdgeoljlhmcaa
