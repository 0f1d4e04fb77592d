/- The error of an operation, by the program. -/
import Derived.Outline
import Derived.Test.YtbhdgeoljlhmcaaQB7
namespace Go.Proofs.Ytbhdgeoljlhmcaa
open Go.RowKit Go.Proofs.Ytbhdgeoljlhmcaa.Nm Go.Proofs.Ytbhdgeoljlhmcaa.St
set_option linter.unusedSimpArgs false
theorem formS_kind {o : OpV} (h : formS o = true) : o.kind = 1 ∨ o.kind = 2 ∨ o.kind = 3 ∨ o.kind = 4 ∨ o.kind = 5 ∨ o.kind = 6 ∨ o.kind = 7 ∨ o.kind = 8 ∨ o.kind = 9 ∨ o.kind = 10 ∨ o.kind = 11 := by
  rcases use_cases o.kind with h1 | h1
  · exact h1
  · unfold formS at h; rw [useS_none h1] at h; simp at h
theorem form_fr {o : OpV} (h : formS o = true) : 0 ≤ o.fr ∧ o.fr < 8 := by
  unfold formS at h
  simp only [Bool.and_eq_true] at h
  have := h.1.1.1.1.2
  unfold nmOk isNm at this
  simp only [Bool.or_eq_true, Bool.and_eq_true, Bool.not_eq_true', decide_eq_true_eq] at this
  omega
set_option maxHeartbeats 8000000 in
set_option maxRecDepth 100000 in
theorem refused_any (s : Nat) (A : Sto) (rs : List Row) (hA : Good A) (o : OpV) (w : World) (h : StoreAt w s A rs) :
    Calls Try.prog 50 #[.pointer (some ⟨s, 0, none⟩), .agg o.cells] w fun e w' => e = .returned (.int .i64 (refA A o)) ∧ Below w.heap.size w w' := by
  have HS := Lib.hid h
  have HA := Lib.hid hA
  clear h hA
  go_enter Try.func50, Try.ntmps50
  go_upto_region 1 with (fail)
  have hb0 := (Below.refl w.heap.size w).alloc (Nat.le_refl _) (.cells o.cells 39 (0, 0))
  refine wp_world (fun W => Below w.heap.size w W ∧ W.heap[w.heap.size]? = some (.cells o.cells 39 (0, 0))) ⟨hb0, ha_new rfl⟩ ?_
  clear hb0
  rintro W ⟨hb, h1⟩
  replace HS := Lib.hid (HS.out.below hb)
  go_upto_region 3 with (fail)
  apply wp_region_lit
  ((with_reducible apply wl_rowG); exact rfl; exact rfl; exact rowO h1)
  simp only [Zq]
  refine wl_ck rfl (fun K hK => ?_); go_simp; refine ⟨_, _, ⟨rfl, rfl⟩, hK _ _ ⟨_, formed_any o _, ?_⟩⟩; clear hK K; rintro e w1 ⟨rfl, hb1⟩; refine ⟨_, rfl, ?_⟩; simp only [Zq]
  replace h1 := below_look hb1 h1
  replace HS := Lib.hid (HS.out.below (hb1.mono (Nat.le_refl _)))
  replace hb := hb.trans (hb1.mono hb.size)
  clear hb1
  iterate 3 (refine wl_k rfl (fun K hK => ?_); go_simp; refine hK _ ?_; clear hK K)
  refine wl_new (fun ev w => ex_alloc118 rfl ev w) ?_
  intro W2 p hb2 hl2 h2
  have L1 := heap_lt h1
  replace h1 := below_look hb2 h1
  have hnf : ¬ Foot s rs p := fun hf => by have := HS.out.lt hf; omega
  replace HS := Lib.hid (HS.out.below hb2)
  replace hb := hb.trans (hb2.mono hb.size)
  clear hb2
  refine wl_putG p (useG o.kind).cells rfl rfl 118 _ h2 info118 rfl (use_one _) ?_
  have hpw : w.heap.size < p := by omega
  have hw1 := hb.size
  have LP := heap_lt h2
  replace h1 := hr_old (cs := (useG o.kind).cells) h1 (show w.heap.size ≠ p by omega)
  replace h2 := hr_new (cs := (useG o.kind).cells) h2
  replace HS := Lib.hid (HS.out.same (w' := W2.setRow p (useG o.kind).cells) (fun q hq hf => setRow_other W2 p q _ (fun e => hnf (e ▸ hf))))
  replace hb := below_setRow hb (g := p) (by omega) (useG o.kind).cells
  generalize W2.setRow p (useG o.kind).cells = W3 at *
  clear LP hnf hl2 L1 hw1
  go_upto_region 4 with (fail)
  cases hf : formS o with
  | false =>
    go_wp2_with fail
    go_ret
    exact ⟨by unfold refA; rw [hf]; rfl, hb⟩
  | true =>
    have hfr := form_fr hf
    obtain ⟨kind, fr, to, at_, n, key⟩ := o
    simp only at hfr
    obtain ⟨f, rfl⟩ : ∃ f : Nat, fr = (f : Int) := ⟨fr.toNat, by omega⟩
    have hf8 : (f : Int) < 8 := by omega
    have hnm := nsOf_get (rs := rs) (id_names HA.out hfr.1 hfr.2)
    rw [Int.toNat_natCast] at hnm
    clear hfr
    by_cases hku : (useG kind).kind = 0
    · rcases formS_kind hf with hk | hk | hk | hk | hk | hk | hk | hk | hk | hk | hk <;> simp only at hk <;> subst hk
      · replace h2 : W3.heap[p]? = some (.cells (Use.cells ⟨false, true, false, false, false, 0⟩) 118 (0, 0)) := h2
        have c0 := (op_cell h1).1
        have c1 := (op_cell h1).2.1
        have c3 := (op_cell h1).2.2.2.1
        have c4 := (op_cell h1).2.2.2.2.1
        have c5 := (op_cell h1).2.2.2.2.2
        have x4 := (use_cell h2).2.2.2.2.1
        have x5 := (use_cell h2).2.2.2.2.2
        simp only at c0 c1 c3 c4 c5 x4 x5
        clear h1 h2
        go_upto_region 6 with (fail)
        refine wp_region_held_drew (S := Kept [] W3) mixed (Kept.drew [] W3) (fun hS => ?_)
        refine hk3 (i := 0) rfl (by kernel_rfl) Zh hS rfl (fun K hK => ?_); go_simp; refine hK _ ?_; clear hK K; try simp only [Zq]
        refine hv3 (i := 1) rfl (by kernel_rfl) Zg hS rfl (fun w' hw' => ex_one rfl (one3 (hw'.cell x5 (by simp <;> omega)))) ?_; try simp only [Zq]
        refine hk3 (i := 2) rfl (by kernel_rfl) Zh hS rfl (fun K hK => ?_); go_simp; refine hK _ ?_; clear hK K; try simp only [Zq]
        refine hk3 (i := 3) rfl (by kernel_rfl) Zh hS rfl (fun K hK => ?_); go_simp; refine hK _ ?_; clear hK K; try simp only [Zq]
        refine hs3 (i := 4) rfl (by kernel_rfl) Zg hS rfl ?_; simp only [Zy]
        refine hs3 (i := 5) rfl (by kernel_rfl) Zg hS rfl ?_; simp only [Zy]
        refine hs3 (i := 6) rfl (by kernel_rfl) Zg hS rfl ?_; simp only [Zy]
        refine hs3 (i := 7) rfl (by kernel_rfl) Zg hS rfl ?_; simp only [Zy]
        refine hs3 (i := 8) rfl (by kernel_rfl) Zg hS rfl ?_; simp only [Zy]
        refine hs3 (i := 9) rfl (by kernel_rfl) Zg hS rfl ?_; simp only [Zy]
        refine hs3 (i := 10) rfl (by kernel_rfl) Zg hS rfl ?_; simp only [Zy]
        refine hk3 (i := 11) rfl (by kernel_rfl) Zh hS rfl (fun K hK => ?_); go_simp; refine hK _ ?_; clear hK K; try simp only [Zq]
        refine wpAnyH_done (by kernel_rfl) ?_ _
        replace c0 : W3.drew.cell? ⟨w.heap.size, 0, none⟩ = _ := c0
        replace c1 : W3.drew.cell? ⟨w.heap.size, 1, none⟩ = _ := c1
        replace c3 : W3.drew.cell? ⟨w.heap.size, 3, none⟩ = _ := c3
        replace c4 : W3.drew.cell? ⟨w.heap.size, 4, none⟩ = _ := c4
        replace c5 : W3.drew.cell? ⟨w.heap.size, 5, none⟩ = _ := c5
        replace x4 : W3.drew.cell? ⟨p, 4, none⟩ = _ := x4
        replace x5 : W3.drew.cell? ⟨p, 5, none⟩ = _ := x5
        replace HS := Lib.hid (HS.out.below (Below.refl W3.heap.size W3).drew)
        replace hb := hb.drew
        generalize W3.drew = W4 at *
        have c6 := sc_name HS.out.main hnm
        go_upto_region 10 with (fail)
        refine wp_region_held_drew (S := Kept [] W4) mixed (Kept.drew [] W4) (fun hS => ?_)
        refine hk3 (i := 0) rfl (by kernel_rfl) Zh hS rfl (fun K hK => ?_); go_simp; refine hK _ ?_; clear hK K; try simp only [Zq]
        refine hk3 (i := 1) rfl (by kernel_rfl) Zh hS rfl (fun K hK => ?_); go_simp; refine hK _ ?_; clear hK K; try simp only [Zq]
        refine hv3 (i := 2) rfl (by kernel_rfl) Zg hS rfl (fun w' hw' => ex_one rfl (one3 (hw'.cell c1 (by simp <;> omega)))) ?_; try simp only [Zq]
        refine hk3 (i := 3) rfl (by kernel_rfl) Zh hS rfl (fun K hK => ?_); go_simp; refine hK _ ?_; clear hK K; try simp only [Zq]
        refine hk3 (i := 4) rfl (by kernel_rfl) Zh hS rfl (fun K hK => ?_); go_simp; refine hK _ ?_; clear hK K; try simp only [Zq]
        refine hk3 (i := 5) rfl (by kernel_rfl) Zh hS rfl (fun K hK => ?_); go_simp; refine hK _ ?_; clear hK K; try simp only [Zq]
        refine hv3 (i := 6) rfl (by kernel_rfl) Zg hS rfl (fun w' hw' => ex_one rfl (one80 (hw'.cell c6 (by simp <;> omega)))) ?_; try simp only [Zq]
        refine hk3 (i := 7) rfl (by kernel_rfl) Zh hS rfl (fun K hK => ?_); go_simp; refine hK _ ?_; clear hK K; try simp only [Zq]
        refine wpAnyH_done (by kernel_rfl) ?_ _
        clear hS
        replace c0 : W4.drew.cell? ⟨w.heap.size, 0, none⟩ = _ := c0
        replace c3 : W4.drew.cell? ⟨w.heap.size, 3, none⟩ = _ := c3
        replace c4 : W4.drew.cell? ⟨w.heap.size, 4, none⟩ = _ := c4
        replace c5 : W4.drew.cell? ⟨w.heap.size, 5, none⟩ = _ := c5
        replace HS := Lib.hid (HS.out.below (Below.refl W4.heap.size W4).drew)
        replace hb := hb.drew
        clear c1 c6 x4 x5
        generalize W4.drew = W5 at *
        go_wp2_with fail
        go_ret
        exact ⟨by simp [refA, hf, show useG 1 = ⟨false, true, false, false, false, 0⟩ from rfl], hb⟩
      · replace h2 : W3.heap[p]? = some (.cells (Use.cells ⟨true, true, false, false, false, 0⟩) 118 (0, 0)) := h2
        have c0 := (op_cell h1).1
        have c1 := (op_cell h1).2.1
        have c3 := (op_cell h1).2.2.2.1
        have c4 := (op_cell h1).2.2.2.2.1
        have c5 := (op_cell h1).2.2.2.2.2
        have x4 := (use_cell h2).2.2.2.2.1
        have x5 := (use_cell h2).2.2.2.2.2
        simp only at c0 c1 c3 c4 c5 x4 x5
        clear h1 h2
        go_upto_region 6 with (fail)
        refine wp_region_held_drew (S := Kept [] W3) mixed (Kept.drew [] W3) (fun hS => ?_)
        refine hk3 (i := 0) rfl (by kernel_rfl) Zh hS rfl (fun K hK => ?_); go_simp; refine hK _ ?_; clear hK K; try simp only [Zq]
        refine hv3 (i := 1) rfl (by kernel_rfl) Zg hS rfl (fun w' hw' => ex_one rfl (one3 (hw'.cell x5 (by simp <;> omega)))) ?_; try simp only [Zq]
        refine hk3 (i := 2) rfl (by kernel_rfl) Zh hS rfl (fun K hK => ?_); go_simp; refine hK _ ?_; clear hK K; try simp only [Zq]
        refine hk3 (i := 3) rfl (by kernel_rfl) Zh hS rfl (fun K hK => ?_); go_simp; refine hK _ ?_; clear hK K; try simp only [Zq]
        refine hs3 (i := 4) rfl (by kernel_rfl) Zg hS rfl ?_; simp only [Zy]
        refine hs3 (i := 5) rfl (by kernel_rfl) Zg hS rfl ?_; simp only [Zy]
        refine hs3 (i := 6) rfl (by kernel_rfl) Zg hS rfl ?_; simp only [Zy]
        refine hs3 (i := 7) rfl (by kernel_rfl) Zg hS rfl ?_; simp only [Zy]
        refine hs3 (i := 8) rfl (by kernel_rfl) Zg hS rfl ?_; simp only [Zy]
        refine hs3 (i := 9) rfl (by kernel_rfl) Zg hS rfl ?_; simp only [Zy]
        refine hs3 (i := 10) rfl (by kernel_rfl) Zg hS rfl ?_; simp only [Zy]
        refine hk3 (i := 11) rfl (by kernel_rfl) Zh hS rfl (fun K hK => ?_); go_simp; refine hK _ ?_; clear hK K; try simp only [Zq]
        refine wpAnyH_done (by kernel_rfl) ?_ _
        replace c0 : W3.drew.cell? ⟨w.heap.size, 0, none⟩ = _ := c0
        replace c1 : W3.drew.cell? ⟨w.heap.size, 1, none⟩ = _ := c1
        replace c3 : W3.drew.cell? ⟨w.heap.size, 3, none⟩ = _ := c3
        replace c4 : W3.drew.cell? ⟨w.heap.size, 4, none⟩ = _ := c4
        replace c5 : W3.drew.cell? ⟨w.heap.size, 5, none⟩ = _ := c5
        replace x4 : W3.drew.cell? ⟨p, 4, none⟩ = _ := x4
        replace x5 : W3.drew.cell? ⟨p, 5, none⟩ = _ := x5
        replace HS := Lib.hid (HS.out.below (Below.refl W3.heap.size W3).drew)
        replace hb := hb.drew
        generalize W3.drew = W4 at *
        have c6 := sc_name HS.out.main hnm
        go_upto_region 10 with (fail)
        refine wp_region_held_drew (S := Kept [] W4) mixed (Kept.drew [] W4) (fun hS => ?_)
        refine hk3 (i := 0) rfl (by kernel_rfl) Zh hS rfl (fun K hK => ?_); go_simp; refine hK _ ?_; clear hK K; try simp only [Zq]
        refine hk3 (i := 1) rfl (by kernel_rfl) Zh hS rfl (fun K hK => ?_); go_simp; refine hK _ ?_; clear hK K; try simp only [Zq]
        refine hv3 (i := 2) rfl (by kernel_rfl) Zg hS rfl (fun w' hw' => ex_one rfl (one3 (hw'.cell c1 (by simp <;> omega)))) ?_; try simp only [Zq]
        refine hk3 (i := 3) rfl (by kernel_rfl) Zh hS rfl (fun K hK => ?_); go_simp; refine hK _ ?_; clear hK K; try simp only [Zq]
        refine hk3 (i := 4) rfl (by kernel_rfl) Zh hS rfl (fun K hK => ?_); go_simp; refine hK _ ?_; clear hK K; try simp only [Zq]
        refine hk3 (i := 5) rfl (by kernel_rfl) Zh hS rfl (fun K hK => ?_); go_simp; refine hK _ ?_; clear hK K; try simp only [Zq]
        refine hv3 (i := 6) rfl (by kernel_rfl) Zg hS rfl (fun w' hw' => ex_one rfl (one80 (hw'.cell c6 (by simp <;> omega)))) ?_; try simp only [Zq]
        refine hk3 (i := 7) rfl (by kernel_rfl) Zh hS rfl (fun K hK => ?_); go_simp; refine hK _ ?_; clear hK K; try simp only [Zq]
        refine wpAnyH_done (by kernel_rfl) ?_ _
        clear hS
        replace c0 : W4.drew.cell? ⟨w.heap.size, 0, none⟩ = _ := c0
        replace c3 : W4.drew.cell? ⟨w.heap.size, 3, none⟩ = _ := c3
        replace c4 : W4.drew.cell? ⟨w.heap.size, 4, none⟩ = _ := c4
        replace c5 : W4.drew.cell? ⟨w.heap.size, 5, none⟩ = _ := c5
        replace HS := Lib.hid (HS.out.below (Below.refl W4.heap.size W4).drew)
        replace hb := hb.drew
        clear c1 c6 x4 x5
        generalize W4.drew = W5 at *
        go_wp2_with fail
        go_ret
        exact ⟨by simp [refA, hf, show useG 2 = ⟨true, true, false, false, false, 0⟩ from rfl], hb⟩
      · exact absurd hku (by decide)
      · exact absurd hku (by decide)
      · exact absurd hku (by decide)
      · exact absurd hku (by decide)
      · exact absurd hku (by decide)
      · replace h2 : W3.heap[p]? = some (.cells (Use.cells ⟨false, true, false, true, false, 0⟩) 118 (0, 0)) := h2
        have c0 := (op_cell h1).1
        have c1 := (op_cell h1).2.1
        have c3 := (op_cell h1).2.2.2.1
        have c4 := (op_cell h1).2.2.2.2.1
        have c5 := (op_cell h1).2.2.2.2.2
        have x4 := (use_cell h2).2.2.2.2.1
        have x5 := (use_cell h2).2.2.2.2.2
        simp only at c0 c1 c3 c4 c5 x4 x5
        clear h1 h2
        go_upto_region 6 with (fail)
        refine wp_region_held_drew (S := Kept [] W3) mixed (Kept.drew [] W3) (fun hS => ?_)
        refine hk3 (i := 0) rfl (by kernel_rfl) Zh hS rfl (fun K hK => ?_); go_simp; refine hK _ ?_; clear hK K; try simp only [Zq]
        refine hv3 (i := 1) rfl (by kernel_rfl) Zg hS rfl (fun w' hw' => ex_one rfl (one3 (hw'.cell x5 (by simp <;> omega)))) ?_; try simp only [Zq]
        refine hk3 (i := 2) rfl (by kernel_rfl) Zh hS rfl (fun K hK => ?_); go_simp; refine hK _ ?_; clear hK K; try simp only [Zq]
        refine hk3 (i := 3) rfl (by kernel_rfl) Zh hS rfl (fun K hK => ?_); go_simp; refine hK _ ?_; clear hK K; try simp only [Zq]
        refine hs3 (i := 4) rfl (by kernel_rfl) Zg hS rfl ?_; simp only [Zy]
        refine hs3 (i := 5) rfl (by kernel_rfl) Zg hS rfl ?_; simp only [Zy]
        refine hs3 (i := 6) rfl (by kernel_rfl) Zg hS rfl ?_; simp only [Zy]
        refine hs3 (i := 7) rfl (by kernel_rfl) Zg hS rfl ?_; simp only [Zy]
        refine hs3 (i := 8) rfl (by kernel_rfl) Zg hS rfl ?_; simp only [Zy]
        refine hs3 (i := 9) rfl (by kernel_rfl) Zg hS rfl ?_; simp only [Zy]
        refine hs3 (i := 10) rfl (by kernel_rfl) Zg hS rfl ?_; simp only [Zy]
        refine hk3 (i := 11) rfl (by kernel_rfl) Zh hS rfl (fun K hK => ?_); go_simp; refine hK _ ?_; clear hK K; try simp only [Zq]
        refine wpAnyH_done (by kernel_rfl) ?_ _
        replace c0 : W3.drew.cell? ⟨w.heap.size, 0, none⟩ = _ := c0
        replace c1 : W3.drew.cell? ⟨w.heap.size, 1, none⟩ = _ := c1
        replace c3 : W3.drew.cell? ⟨w.heap.size, 3, none⟩ = _ := c3
        replace c4 : W3.drew.cell? ⟨w.heap.size, 4, none⟩ = _ := c4
        replace c5 : W3.drew.cell? ⟨w.heap.size, 5, none⟩ = _ := c5
        replace x4 : W3.drew.cell? ⟨p, 4, none⟩ = _ := x4
        replace x5 : W3.drew.cell? ⟨p, 5, none⟩ = _ := x5
        replace HS := Lib.hid (HS.out.below (Below.refl W3.heap.size W3).drew)
        replace hb := hb.drew
        generalize W3.drew = W4 at *
        have c6 := sc_name HS.out.main hnm
        have hu : useG 8 = ⟨false, true, false, true, false, 0⟩ := rfl
        by_cases hn0 : n < 0
        · go_wp2_with fail
          go_ret
          exact ⟨by simp [refA, hf, hu, hn0], hb⟩
        · by_cases hn1 : 2147483647 < n
          · go_wp2_with fail
            go_ret
            exact ⟨by simp [refA, hf, hu, hn1], hb⟩
          · go_upto_region 10 with (fail)
            refine wp_region_held_drew (S := Kept [] W4) mixed (Kept.drew [] W4) (fun hS => ?_)
            refine hk3 (i := 0) rfl (by kernel_rfl) Zh hS rfl (fun K hK => ?_); go_simp; refine hK _ ?_; clear hK K; try simp only [Zq]
            refine hk3 (i := 1) rfl (by kernel_rfl) Zh hS rfl (fun K hK => ?_); go_simp; refine hK _ ?_; clear hK K; try simp only [Zq]
            refine hv3 (i := 2) rfl (by kernel_rfl) Zg hS rfl (fun w' hw' => ex_one rfl (one3 (hw'.cell c1 (by simp <;> omega)))) ?_; try simp only [Zq]
            refine hk3 (i := 3) rfl (by kernel_rfl) Zh hS rfl (fun K hK => ?_); go_simp; refine hK _ ?_; clear hK K; try simp only [Zq]
            refine hk3 (i := 4) rfl (by kernel_rfl) Zh hS rfl (fun K hK => ?_); go_simp; refine hK _ ?_; clear hK K; try simp only [Zq]
            refine hk3 (i := 5) rfl (by kernel_rfl) Zh hS rfl (fun K hK => ?_); go_simp; refine hK _ ?_; clear hK K; try simp only [Zq]
            refine hv3 (i := 6) rfl (by kernel_rfl) Zg hS rfl (fun w' hw' => ex_one rfl (one80 (hw'.cell c6 (by simp <;> omega)))) ?_; try simp only [Zq]
            refine hk3 (i := 7) rfl (by kernel_rfl) Zh hS rfl (fun K hK => ?_); go_simp; refine hK _ ?_; clear hK K; try simp only [Zq]
            refine wpAnyH_done (by kernel_rfl) ?_ _
            clear hS
            replace c0 : W4.drew.cell? ⟨w.heap.size, 0, none⟩ = _ := c0
            replace c3 : W4.drew.cell? ⟨w.heap.size, 3, none⟩ = _ := c3
            replace c4 : W4.drew.cell? ⟨w.heap.size, 4, none⟩ = _ := c4
            replace c5 : W4.drew.cell? ⟨w.heap.size, 5, none⟩ = _ := c5
            replace HS := Lib.hid (HS.out.below (Below.refl W4.heap.size W4).drew)
            replace hb := hb.drew
            clear c1 c6 x4 x5
            generalize W4.drew = W5 at *
            go_wp2_with fail
            go_ret
            exact ⟨by simp [refA, hf, hu, hn0, hn1], hb⟩
      · exact absurd hku (by decide)
      · exact absurd hku (by decide)
      · exact absurd hku (by decide)
    · have HK := Lib.hid (formS_kind hf)
      have hk1 : (kind != 1) = true := by
        have := HK.out
        simp only at this
        rcases this with h | h | h | h | h | h | h | h | h | h | h <;> rw [h] at hku ⊢ <;> first | rfl | exact absurd rfl hku
      have hk8 : (kind == 8) = false := by
        have := HK.out
        simp only at this
        rcases this with h | h | h | h | h | h | h | h | h | h | h <;> rw [h] at hku ⊢ <;> first | rfl | exact absurd rfl hku
      obtain ⟨U, hU⟩ : ∃ U, U = useG kind := ⟨_, rfl⟩
      have HU := Lib.hid hU
      rw [← hU] at h2
      have hUK : (U.kind != 0) = true := by rw [hU]; simpa using hku
      clear hU
      obtain ⟨kd, HKD⟩ : ∃ kd, Hid (kd = (A.buf (f : Int)).kd) := ⟨_, Lib.hid rfl⟩
      have x5 := (use_cell h2).2.2.2.2.2
      have c1 := (op_cell h1).2.1
      simp only at x5 c1
      have HSd := Lib.hid (HS.out.below (Below.refl W3.heap.size W3).drew)
      have HCK := Lib.hid (kind_at s A rs HA.out (f : Int) (by omega) hf8 _ HSd.out)
      rw [← HKD.out] at HCK
      go_upto_region 6 with (fail)
      refine wp_region_held_drew (S := Kept [] W3) mixed (Kept.drew [] W3) (fun hS => ?_)
      refine hk3 (i := 0) rfl (by kernel_rfl) Zh hS rfl (fun K hK => ?_); go_simp; refine hK _ ?_; clear hK K; try simp only [Zq]
      refine hv3 (i := 1) rfl (by kernel_rfl) Zg hS rfl (fun w' hw' => ex_one rfl (one3 (hw'.cell x5 (by simp <;> omega)))) ?_; try simp only [Zq]
      refine hk3 (i := 2) rfl (by kernel_rfl) Zh hS rfl (fun K hK => ?_); go_simp; refine hK _ ?_; clear hK K; try simp only [Zq]
      refine hk3 (i := 3) rfl (by kernel_rfl) Zh hS rfl (fun K hK => ?_); go_simp; refine hK _ ?_; clear hK K; try simp only [Zq]
      refine hk3 (i := 4) rfl (by kernel_rfl) Zh hS rfl (fun K hK => ?_); go_simp; refine hK _ ?_; clear hK K; try simp only [Zq]
      refine hk3 (i := 5) rfl (by kernel_rfl) Zh hS rfl (fun K hK => ?_); go_simp; refine hK _ ?_; clear hK K; try simp only [Zq]
      refine hv3 (i := 6) rfl (by kernel_rfl) Zg hS rfl (fun w' hw' => ex_one rfl (one3 (hw'.cell c1 (by simp <;> omega)))) ?_; try simp only [Zq]
      refine hk3 (i := 8) rfl (by kernel_rfl) Zh hS rfl (fun K hK => ?_); go_simp; refine hK _ ?_; clear hK K; try simp only [Zq]
      refine hv3 (i := 9) rfl (by kernel_rfl) Zg hS rfl (fun w' hw' => ex_one rfl (one3 (hw'.cell x5 (by simp <;> omega)))) ?_; try simp only [Zq]
      refine ha_call (i := 7) (by kernel_rfl) rfl rfl (fun K hK => ?_); go_simp; refine ⟨_, _, ⟨rfl, rfl⟩, hK _ _ ⟨_, HCK.out, ?_⟩⟩; clear hK K; rintro e w4 ⟨rfl, hb1⟩; refine ⟨_, rfl, hS.below hb1, ?_⟩; replace hS := hS.below hb1; (replace h1 := below_look hb1 h1; replace h2 := below_look hb1 h2; replace HS := Lib.hid (HSd.out.below hb1); replace hb := hb.drew.trans (hb1.mono hb.size); clear hb1); try simp only [Zq]
      refine hk3 (i := 10) rfl (by kernel_rfl) Zh hS rfl (fun K hK => ?_); go_simp; refine hK _ ?_; clear hK K; try simp only [Zq]
      refine hk3 (i := 11) rfl (by kernel_rfl) Zh hS rfl (fun K hK => ?_); go_simp; refine hK _ ?_; clear hK K; try simp only [Zq]
      refine wpAnyH_done (by kernel_rfl) ?_ _
      clear hS HCK HSd x5 c1
      obtain ⟨W4, hW4⟩ : ∃ W4, W4 = w4 := ⟨_, rfl⟩
      subst hW4
      have c0 := (op_cell h1).1
      have c1 := (op_cell h1).2.1
      have c3 := (op_cell h1).2.2.2.1
      have c4 := (op_cell h1).2.2.2.2.1
      have c5 := (op_cell h1).2.2.2.2.2
      have x4 := (use_cell h2).2.2.2.2.1
      have x5 := (use_cell h2).2.2.2.2.2
      simp only at c0 c1 c3 c4 c5 x4 x5
      clear h1 h2
      have c6 := sc_name HS.out.main hnm
      rcases Bool.eq_false_or_eq_true (kd != U.kind) with hkd | hkd
      · go_wp2_with fail
        go_ret
        have h3 : ¬ kd = U.kind := by simpa using hkd
        rw [HKD.out, HU.out] at h3
        exact ⟨by simp [refA, hf, hku, h3], hb⟩
      have HKU : Hid (kd = U.kind) := Lib.hid (by simpa using hkd)
      obtain ⟨k, hk⟩ : ∃ k, A.id (f : Int) = some k := by
        cases hq : A.id (f : Int) with
        | none => exact absurd (by have h1 := HKD.out; rw [buf_none hq] at h1; rw [← HU.out, ← HKU.out, h1]; rfl) hku
        | some k => exact ⟨k, rfl⟩
      obtain ⟨r, hr, hbk, hB, hG, hns⟩ := HS.out.row HA.out hk
      rw [hk] at c6
      simp only [Option.map_some, gAt_eq hr] at c6
      rw [show bp (some r.g) = .pointer (some ⟨r.g, 0, none⟩) from rfl] at c6
      have HR := Lib.hid hr
      have HKk := Lib.hid hk
      have HBk := Lib.hid hbk
      have HG := Lib.hid hG
      clear hr hk hbk hG hns
      obtain ⟨hb0, hl, ht, hnil⟩ := hB
      obtain ⟨A1, cp1, e1, hl1⟩ := own_str hl rfl
      obtain ⟨A2, cp2, e2, ht1⟩ := own_vt ht hnil
      have hlen := HG.out.len
      rw [e1, e2, ← HKD.out] at hb0
      have b1 := (bc_cell hb0).2.1
      have b3 := (bc_cell hb0).2.2.2.1
      have HB0 := Lib.hid hb0
      have HL1 := Lib.hid hl1
      have HT1 := Lib.hid ht1
      clear hb0 hl ht hnil hl1 ht1 e1 e2
      obtain ⟨B, hBd⟩ : ∃ B, Hid (B = A.buf (f : Int)) := ⟨_, Lib.hid rfl⟩
      rw [← hBd.out] at hlen b1 b3 HB0 HL1 HT1 HG
      obtain ⟨L, hL⟩ : ∃ L, Hid (L = B.l.length) := ⟨_, Lib.hid rfl⟩
      rw [← hL.out] at b1 hlen
      cases hky : U.key with
      | true =>
        rw [hky] at x4
        by_cases hks : 24 < (key.size : Int)
        · go_wp2_with fail
          go_ret
          have h3 := HKU.out
          have h4 := hky
          rw [HKD.out, HU.out] at h3
          rw [HU.out] at h4
          exact ⟨by simp [refA, hf, h3, h4, show 24 < key.size by omega], hb⟩
        go_upto_region 10 with (fail)
        have bb1 : W4.drew.cell? _ = _ := b1
        have bb3 : W4.drew.cell? _ = _ := b3
        replace HB0 : Hid (W4.drew.heap[r.g]? = _) := Lib.hid HB0.out
        replace HL1 := Lib.hid (HL1.out.below (Below.refl W4.heap.size W4).drew)
        replace HT1 := Lib.hid (HT1.out.below (Below.refl W4.heap.size W4).drew)
        clear b1 b3
        refine wp_region_held_drew (S := Kept [] W4) mixed (Kept.drew [] W4) (fun hS => ?_)
        refine hk3 (i := 0) rfl (by kernel_rfl) Zh hS rfl (fun K hK => ?_); go_simp; refine hK _ ?_; clear hK K; try simp only [Zq]
        refine hk3 (i := 1) rfl (by kernel_rfl) Zh hS rfl (fun K hK => ?_); go_simp; refine hK _ ?_; clear hK K; try simp only [Zq]
        refine hv3 (i := 2) rfl (by kernel_rfl) Zg hS rfl (fun w' hw' => ex_one rfl (one3 (hw'.cell c1 (by simp <;> omega)))) ?_; try simp only [Zq]
        refine hk3 (i := 3) rfl (by kernel_rfl) Zh hS rfl (fun K hK => ?_); go_simp; refine hK _ ?_; clear hK K; try simp only [Zq]
        refine hk3 (i := 4) rfl (by kernel_rfl) Zh hS rfl (fun K hK => ?_); go_simp; refine hK _ ?_; clear hK K; try simp only [Zq]
        refine hk3 (i := 5) rfl (by kernel_rfl) Zh hS rfl (fun K hK => ?_); go_simp; refine hK _ ?_; clear hK K; try simp only [Zq]
        refine hv3 (i := 6) rfl (by kernel_rfl) Zg hS rfl (fun w' hw' => ex_one rfl (one80 (hw'.cell c6 (by simp <;> omega)))) ?_; try simp only [Zq]
        refine hk3 (i := 7) rfl (by kernel_rfl) Zh hS rfl (fun K hK => ?_); go_simp; refine hK _ ?_; clear hK K; try simp only [Zq]
        refine wpAnyH_done (by kernel_rfl) ?_ _
        clear hS
        replace c0 : W4.drew.cell? ⟨w.heap.size, 0, none⟩ = _ := c0
        replace c3 : W4.drew.cell? ⟨w.heap.size, 3, none⟩ = _ := c3
        replace c4 : W4.drew.cell? ⟨w.heap.size, 4, none⟩ = _ := c4
        replace c5 : W4.drew.cell? ⟨w.heap.size, 5, none⟩ = _ := c5
        replace HS := Lib.hid (HS.out.below (Below.refl W4.heap.size W4).drew)
        replace hb := hb.drew
        clear c1 c6 x4 x5
        generalize W4.drew = W5 at *
        have HK2 := HK.out
        simp only at HK2
        rcases HK2 with hk | hk | hk | hk | hk | hk | hk | hk | hk | hk | hk <;> subst hk
        · exact absurd hky (by rw [HU.out]; decide)
        · exact absurd hky (by rw [HU.out]; decide)
        · have hu : useG 3 = ⟨true, false, false, false, true, 1⟩ := rfl
          obtain rfl : kd = 1 := by rw [HKU.out, HU.out]; rfl
          by_cases hlim : 100 ≤ (L : Int)
          · go_wp2_with fail
            go_ret
            exact ⟨by have := HKD.out; have h2 := hL.out; have h3 := hBd.out; subst h3; simp [refA, hf, hu, ← this, show ¬ 24 < key.size by omega, show 100 ≤ (A.buf (f : Int)).l.length by omega], hb⟩
          · go_wp2_with fail
            go_ret
            exact ⟨by have := HKD.out; have h2 := hL.out; have h3 := hBd.out; subst h3; simp [refA, hf, hu, ← this, show ¬ 24 < key.size by omega, show ¬ 100 ≤ (A.buf (f : Int)).l.length by omega], hb⟩
        · have hu : useG 4 = ⟨true, false, true, false, true, 1⟩ := rfl
          obtain rfl : kd = 1 := by rw [HKU.out, HU.out]; rfl
          go_upto_region 14 with (fail)
          refine wp_region_held_drew (S := Kept [] W5) mixed (Kept.drew [] W5) (fun hS => ?_)
          refine hk3 (i := 0) rfl (by kernel_rfl) Zh hS rfl (fun K hK => ?_); go_simp; refine hK _ ?_; clear hK K; try simp only [Zq]
          refine hv3 (i := 1) rfl (by kernel_rfl) Zg hS rfl (fun w' hw' => ex_one rfl (one3 (hw'.cell c3 (by simp <;> omega)))) ?_; try simp only [Zq]
          by_cases hneg : at_ < 0
          · have hd : decide (at_ < 0) = true := by simpa using hneg
            refine hk3 (i := 2) rfl (by kernel_rfl) Zh hS rfl (fun K hK => ?_); go_simp; refine hK _ ?_; clear hK K; try simp only [Zq]
            try rw [hd]
            refine hk3 (i := 3) rfl (by kernel_rfl) Zh hS rfl (fun K hK => ?_); go_simp; refine hK _ ?_; clear hK K; try simp only [Zq]
            refine hs3 (i := 4) rfl (by kernel_rfl) Zg hS rfl ?_; simp only [Zy]
            refine hs3 (i := 5) rfl (by kernel_rfl) Zg hS rfl ?_; simp only [Zy]
            refine hs3 (i := 6) rfl (by kernel_rfl) Zg hS rfl ?_; simp only [Zy]
            refine hs3 (i := 7) rfl (by kernel_rfl) Zg hS rfl ?_; simp only [Zy]
            refine hs3 (i := 8) rfl (by kernel_rfl) Zg hS rfl ?_; simp only [Zy]
            refine hs3 (i := 9) rfl (by kernel_rfl) Zg hS rfl ?_; simp only [Zy]
            refine hs3 (i := 10) rfl (by kernel_rfl) Zg hS rfl ?_; simp only [Zy]
            refine hs3 (i := 11) rfl (by kernel_rfl) Zg hS rfl ?_; simp only [Zy]
            refine hk3 (i := 12) rfl (by kernel_rfl) Zh hS rfl (fun K hK => ?_); go_simp; refine hK _ ?_; clear hK K; try simp only [Zq]
            refine wpAnyH_done (by kernel_rfl) ?_ _
            clear hS
            replace HS := Lib.hid (HS.out.below (Below.refl W5.heap.size W5).drew)
            replace hb := hb.drew
            clear c0 c3 c4 c5 bb1 bb3
            go_wp2_with fail
            go_ret
            exact ⟨by have := HKD.out; simp [refA, hf, hu, ← this, hneg, show ¬ 24 < key.size by omega], hb⟩
          · have hd : decide (at_ < 0) = false := by simpa using hneg
            refine hk3 (i := 2) rfl (by kernel_rfl) Zh hS rfl (fun K hK => ?_); go_simp; refine hK _ ?_; clear hK K; try simp only [Zq]
            try rw [hd]
            refine hk3 (i := 3) rfl (by kernel_rfl) Zh hS rfl (fun K hK => ?_); go_simp; refine hK _ ?_; clear hK K; try simp only [Zq]
            refine hk3 (i := 4) rfl (by kernel_rfl) Zh hS rfl (fun K hK => ?_); go_simp; refine hK _ ?_; clear hK K; try simp only [Zq]
            refine hv3 (i := 5) rfl (by kernel_rfl) Zg hS rfl (fun w' hw' => ex_one rfl (one3 (hw'.cell c3 (by simp <;> omega)))) ?_; try simp only [Zq]
            refine hk3 (i := 6) rfl (by kernel_rfl) Zh hS rfl (fun K hK => ?_); go_simp; refine hK _ ?_; clear hK K; try simp only [Zq]
            refine hk3 (i := 7) rfl (by kernel_rfl) Zh hS rfl (fun K hK => ?_); go_simp; refine hK _ ?_; clear hK K; try simp only [Zq]
            refine hk3 (i := 8) rfl (by kernel_rfl) Zh hS rfl (fun K hK => ?_); go_simp; refine hK _ ?_; clear hK K; try simp only [Zq]
            refine hv3 (i := 9) rfl (by kernel_rfl) Zg hS rfl (fun w' hw' => ex_one rfl (one29 (hw'.cell bb1 (by simp <;> omega)))) ?_; try simp only [Zq]
            refine hk3 (i := 10) rfl (by kernel_rfl) Zh hS rfl (fun K hK => ?_); go_simp; refine hK _ ?_; clear hK K; try simp only [Zq]
            refine hk3 (i := 11) rfl (by kernel_rfl) Zh hS rfl (fun K hK => ?_); go_simp; refine hK _ ?_; clear hK K; try simp only [Zq]
            refine hk3 (i := 12) rfl (by kernel_rfl) Zh hS rfl (fun K hK => ?_); go_simp; refine hK _ ?_; clear hK K; try simp only [Zq]
            refine wpAnyH_done (by kernel_rfl) ?_ _
            clear hS
            replace HS := Lib.hid (HS.out.below (Below.refl W5.heap.size W5).drew)
            replace hb := hb.drew
            clear c0 c3 c4 c5 bb1 bb3
            by_cases hge : (L : Int) ≤ at_
            · have hd2 : decide ((L : Int) ≤ at_) = true := by simpa using hge
              go_wp2_with fail
              go_ret
              exact ⟨by have := HKD.out; have h2 := hL.out; have h3 := hBd.out; subst h3; simp [refA, hf, hu, ← this, show ((A.buf (f : Int)).l.length : Int) ≤ at_ by omega, show ¬ 24 < key.size by omega], hb⟩
            · have hd2 : decide ((L : Int) ≤ at_) = false := by simpa using hge
              go_wp2_with fail
              go_ret
              exact ⟨by have := HKD.out; have h2 := hL.out; have h3 := hBd.out; subst h3; simp [refA, hf, hu, ← this, hneg, show ¬ ((A.buf (f : Int)).l.length : Int) ≤ at_ by omega, show ¬ 24 < key.size by omega], hb⟩
        · exact absurd hky (by rw [HU.out]; decide)
        · exact absurd hky (by rw [HU.out]; decide)
        · exact absurd hky (by rw [HU.out]; decide)
        · exact absurd hky (by rw [HU.out]; decide)
        · have hu : useG 9 = ⟨true, false, false, true, true, 2⟩ := rfl
          obtain rfl : kd = 2 := by rw [HKU.out, HU.out]; rfl
          obtain ⟨p2, cap2, hA2, hpl, ht4, ht264, hgap⟩ : ∃ p2 cap2, (A2 = some ⟨p2, 0, none⟩ ∧ cp2 = cap2) ∧ PlAt W5 p2 cap2 B.t ∧ 4 ≤ B.t.length ∧ B.t.length ≤ 264 ∧ ∃ i, i < B.t.length ∧ occ B.t i = false := by
            rcases HG.out with ⟨h1, _⟩ | ⟨_, _, _, _, h2, _, h3, h4, _⟩
            · have := HKD.out; rw [← hBd.out, h1] at this; exact absurd this (by decide)
            · rcases HT1.out with ⟨e, _⟩ | ⟨q, h5, _, _, h6⟩
              · rw [e] at h3; simp at h3
              · exact ⟨q, cp2, ⟨h5, rfl⟩, h6, h3, h4, h2.gap⟩
          obtain ⟨rfl, rfl⟩ := hA2
          obtain ⟨F, HFe⟩ : ∃ F, Hid (F = fnd B.seed B.t key) := ⟨_, Lib.hid rfl⟩
          have HF := Lib.hid (find_any r.g p2 cp2 B.t _ B.seed _ _ key (by omega) (by omega) (by omega) hgap W5 HB0.out hpl)
          rw [← HFe.out] at HF
          clear hpl
          obtain ⟨C, HCn⟩ : ∃ C, Hid (C = cn B.t) := ⟨_, Lib.hid rfl⟩
          rw [← HCn.out] at bb3
          go_upto_region 26 with (fail)
          apply wp_region_lit
          iterate 3 (refine wl_k rfl (fun K hK => ?_); go_simp; refine hK _ ?_; clear hK K)
          ((with_reducible apply wl_oneG); exact rfl; exact rfl; exact one3 bb3)
          by_cases hlim : 100 ≤ (C : Int)
          · have hd : decide (100 ≤ (C : Int)) = true := by simpa using hlim
            refine wl_k rfl (fun K hK => ?_); go_simp; refine hK _ ?_; clear hK K
            try rw [hd]
            iterate 3 (refine wl_k rfl (fun K hK => ?_); go_simp; refine hK _ ?_; clear hK K)
            ((with_reducible apply wl_oneG); exact rfl; exact rfl; exact one9 c5)
            refine wl_ck rfl (fun K hK => ?_); go_simp; refine ⟨_, _, ⟨rfl, rfl⟩, hK _ _ ⟨_, HF.out, ?_⟩⟩; clear hK K; rintro e w6 ⟨rfl, hb1⟩; refine ⟨_, rfl, ?_⟩; simp only [Zq]
            replace hb := hb.trans (hb1.mono hb.size)
            clear c0 c3 c4 c5 bb1 bb3 HF
            by_cases hneg : F < 0
            · have hd2 : decide (F < 0) = true := by simpa using hneg
              go_wp2_with fail
              go_ret
              exact ⟨by have := HKD.out; have h2 := HFe.out; have h3 := hBd.out; have h4 := HCn.out; subst h3; simp [refA, hf, hu, ← this, show ¬ 24 < key.size by omega, ← h2, hneg, ← h4, show 100 ≤ C by omega], hb⟩
            · have hd2 : decide (F < 0) = false := by simpa using hneg
              go_wp2_with fail
              go_ret
              exact ⟨by have := HKD.out; have h2 := HFe.out; have h3 := hBd.out; have h4 := HCn.out; subst h3; simp [refA, hf, hu, ← this, show ¬ 24 < key.size by omega, ← h2, hneg], hb⟩
          · have hd : decide (100 ≤ (C : Int)) = false := by simpa using hlim
            refine wl_k rfl (fun K hK => ?_); go_simp; refine hK _ ?_; clear hK K
            try rw [hd]
            clear HF
            go_wp2_with fail
            go_ret
            exact ⟨by have := HKD.out; have h2 := HFe.out; have h3 := hBd.out; have h4 := HCn.out; subst h3; simp [refA, hf, hu, ← this, show ¬ 24 < key.size by omega, ← h4, show ¬ 100 ≤ C by omega], hb⟩
        · have hu : useG 10 = ⟨true, false, false, false, true, 2⟩ := rfl
          obtain rfl : kd = 2 := by rw [HKU.out, HU.out]; rfl
          obtain ⟨p2, cap2, hA2, hpl, ht4, ht264, hgap⟩ : ∃ p2 cap2, (A2 = some ⟨p2, 0, none⟩ ∧ cp2 = cap2) ∧ PlAt W5 p2 cap2 B.t ∧ 4 ≤ B.t.length ∧ B.t.length ≤ 264 ∧ ∃ i, i < B.t.length ∧ occ B.t i = false := by
            rcases HG.out with ⟨h1, _⟩ | ⟨_, _, _, _, h2, _, h3, h4, _⟩
            · have := HKD.out; rw [← hBd.out, h1] at this; exact absurd this (by decide)
            · rcases HT1.out with ⟨e, _⟩ | ⟨q, h5, _, _, h6⟩
              · rw [e] at h3; simp at h3
              · exact ⟨q, cp2, ⟨h5, rfl⟩, h6, h3, h4, h2.gap⟩
          obtain ⟨rfl, rfl⟩ := hA2
          obtain ⟨F, HFe⟩ : ∃ F, Hid (F = fnd B.seed B.t key) := ⟨_, Lib.hid rfl⟩
          have HF := Lib.hid (find_any r.g p2 cp2 B.t _ B.seed _ _ key (by omega) (by omega) (by omega) hgap W5 HB0.out hpl)
          rw [← HFe.out] at HF
          clear hpl
          go_upto_region 20 with (fail)
          apply wp_region_lit
          iterate 2 (refine wl_k rfl (fun K hK => ?_); go_simp; refine hK _ ?_; clear hK K)
          ((with_reducible apply wl_oneG); exact rfl; exact rfl; exact one9 c5)
          refine wl_ck rfl (fun K hK => ?_); go_simp; refine ⟨_, _, ⟨rfl, rfl⟩, hK _ _ ⟨_, HF.out, ?_⟩⟩; clear hK K; rintro e w6 ⟨rfl, hb1⟩; refine ⟨_, rfl, ?_⟩; simp only [Zq]
          replace hb := hb.trans (hb1.mono hb.size)
          clear c0 c3 c4 c5 bb1 bb3 HF
          by_cases hneg : F < 0
          · go_wp2_with fail
            go_ret
            exact ⟨by have := HKD.out; have h2 := HFe.out; have h3 := hBd.out; subst h3; simp [refA, hf, hu, ← this, show ¬ 24 < key.size by omega, ← h2, hneg], hb⟩
          · go_wp2_with fail
            go_ret
            exact ⟨by have := HKD.out; have h2 := HFe.out; have h3 := hBd.out; subst h3; simp [refA, hf, hu, ← this, show ¬ 24 < key.size by omega, ← h2, hneg], hb⟩
        · exact absurd hky (by rw [HU.out]; decide)
      | false =>
        rw [hky] at x4
        go_upto_region 10 with (fail)
        have bb1 : W4.drew.cell? _ = _ := b1
        have bb3 : W4.drew.cell? _ = _ := b3
        replace HB0 : Hid (W4.drew.heap[r.g]? = _) := Lib.hid HB0.out
        replace HL1 := Lib.hid (HL1.out.below (Below.refl W4.heap.size W4).drew)
        replace HT1 := Lib.hid (HT1.out.below (Below.refl W4.heap.size W4).drew)
        clear b1 b3
        refine wp_region_held_drew (S := Kept [] W4) mixed (Kept.drew [] W4) (fun hS => ?_)
        refine hk3 (i := 0) rfl (by kernel_rfl) Zh hS rfl (fun K hK => ?_); go_simp; refine hK _ ?_; clear hK K; try simp only [Zq]
        refine hk3 (i := 1) rfl (by kernel_rfl) Zh hS rfl (fun K hK => ?_); go_simp; refine hK _ ?_; clear hK K; try simp only [Zq]
        refine hv3 (i := 2) rfl (by kernel_rfl) Zg hS rfl (fun w' hw' => ex_one rfl (one3 (hw'.cell c1 (by simp <;> omega)))) ?_; try simp only [Zq]
        refine hk3 (i := 3) rfl (by kernel_rfl) Zh hS rfl (fun K hK => ?_); go_simp; refine hK _ ?_; clear hK K; try simp only [Zq]
        refine hk3 (i := 4) rfl (by kernel_rfl) Zh hS rfl (fun K hK => ?_); go_simp; refine hK _ ?_; clear hK K; try simp only [Zq]
        refine hk3 (i := 5) rfl (by kernel_rfl) Zh hS rfl (fun K hK => ?_); go_simp; refine hK _ ?_; clear hK K; try simp only [Zq]
        refine hv3 (i := 6) rfl (by kernel_rfl) Zg hS rfl (fun w' hw' => ex_one rfl (one80 (hw'.cell c6 (by simp <;> omega)))) ?_; try simp only [Zq]
        refine hk3 (i := 7) rfl (by kernel_rfl) Zh hS rfl (fun K hK => ?_); go_simp; refine hK _ ?_; clear hK K; try simp only [Zq]
        refine wpAnyH_done (by kernel_rfl) ?_ _
        clear hS
        replace c0 : W4.drew.cell? ⟨w.heap.size, 0, none⟩ = _ := c0
        replace c3 : W4.drew.cell? ⟨w.heap.size, 3, none⟩ = _ := c3
        replace c4 : W4.drew.cell? ⟨w.heap.size, 4, none⟩ = _ := c4
        replace c5 : W4.drew.cell? ⟨w.heap.size, 5, none⟩ = _ := c5
        replace HS := Lib.hid (HS.out.below (Below.refl W4.heap.size W4).drew)
        replace hb := hb.drew
        clear c1 c6 x4 x5
        generalize W4.drew = W5 at *
        have HK2 := HK.out
        simp only at HK2
        rcases HK2 with hk | hk | hk | hk | hk | hk | hk | hk | hk | hk | hk <;> subst hk
        · exact absurd rfl hku
        · exact absurd rfl hku
        · exact absurd hky (by rw [HU.out]; decide)
        · exact absurd hky (by rw [HU.out]; decide)
        · have hu : useG 5 = ⟨true, false, true, false, false, 1⟩ := rfl
          obtain rfl : kd = 1 := by rw [HKU.out, HU.out]; rfl
          go_upto_region 14 with (fail)
          refine wp_region_held_drew (S := Kept [] W5) mixed (Kept.drew [] W5) (fun hS => ?_)
          refine hk3 (i := 0) rfl (by kernel_rfl) Zh hS rfl (fun K hK => ?_); go_simp; refine hK _ ?_; clear hK K; try simp only [Zq]
          refine hv3 (i := 1) rfl (by kernel_rfl) Zg hS rfl (fun w' hw' => ex_one rfl (one3 (hw'.cell c3 (by simp <;> omega)))) ?_; try simp only [Zq]
          by_cases hneg : at_ < 0
          · have hd : decide (at_ < 0) = true := by simpa using hneg
            refine hk3 (i := 2) rfl (by kernel_rfl) Zh hS rfl (fun K hK => ?_); go_simp; refine hK _ ?_; clear hK K; try simp only [Zq]
            try rw [hd]
            refine hk3 (i := 3) rfl (by kernel_rfl) Zh hS rfl (fun K hK => ?_); go_simp; refine hK _ ?_; clear hK K; try simp only [Zq]
            refine hs3 (i := 4) rfl (by kernel_rfl) Zg hS rfl ?_; simp only [Zy]
            refine hs3 (i := 5) rfl (by kernel_rfl) Zg hS rfl ?_; simp only [Zy]
            refine hs3 (i := 6) rfl (by kernel_rfl) Zg hS rfl ?_; simp only [Zy]
            refine hs3 (i := 7) rfl (by kernel_rfl) Zg hS rfl ?_; simp only [Zy]
            refine hs3 (i := 8) rfl (by kernel_rfl) Zg hS rfl ?_; simp only [Zy]
            refine hs3 (i := 9) rfl (by kernel_rfl) Zg hS rfl ?_; simp only [Zy]
            refine hs3 (i := 10) rfl (by kernel_rfl) Zg hS rfl ?_; simp only [Zy]
            refine hs3 (i := 11) rfl (by kernel_rfl) Zg hS rfl ?_; simp only [Zy]
            refine hk3 (i := 12) rfl (by kernel_rfl) Zh hS rfl (fun K hK => ?_); go_simp; refine hK _ ?_; clear hK K; try simp only [Zq]
            refine wpAnyH_done (by kernel_rfl) ?_ _
            clear hS
            replace HS := Lib.hid (HS.out.below (Below.refl W5.heap.size W5).drew)
            replace hb := hb.drew
            clear c0 c3 c4 c5 bb1 bb3
            go_wp2_with fail
            go_ret
            exact ⟨by have := HKD.out; simp [refA, hf, hu, ← this, hneg], hb⟩
          · have hd : decide (at_ < 0) = false := by simpa using hneg
            refine hk3 (i := 2) rfl (by kernel_rfl) Zh hS rfl (fun K hK => ?_); go_simp; refine hK _ ?_; clear hK K; try simp only [Zq]
            try rw [hd]
            refine hk3 (i := 3) rfl (by kernel_rfl) Zh hS rfl (fun K hK => ?_); go_simp; refine hK _ ?_; clear hK K; try simp only [Zq]
            refine hk3 (i := 4) rfl (by kernel_rfl) Zh hS rfl (fun K hK => ?_); go_simp; refine hK _ ?_; clear hK K; try simp only [Zq]
            refine hv3 (i := 5) rfl (by kernel_rfl) Zg hS rfl (fun w' hw' => ex_one rfl (one3 (hw'.cell c3 (by simp <;> omega)))) ?_; try simp only [Zq]
            refine hk3 (i := 6) rfl (by kernel_rfl) Zh hS rfl (fun K hK => ?_); go_simp; refine hK _ ?_; clear hK K; try simp only [Zq]
            refine hk3 (i := 7) rfl (by kernel_rfl) Zh hS rfl (fun K hK => ?_); go_simp; refine hK _ ?_; clear hK K; try simp only [Zq]
            refine hk3 (i := 8) rfl (by kernel_rfl) Zh hS rfl (fun K hK => ?_); go_simp; refine hK _ ?_; clear hK K; try simp only [Zq]
            refine hv3 (i := 9) rfl (by kernel_rfl) Zg hS rfl (fun w' hw' => ex_one rfl (one29 (hw'.cell bb1 (by simp <;> omega)))) ?_; try simp only [Zq]
            refine hk3 (i := 10) rfl (by kernel_rfl) Zh hS rfl (fun K hK => ?_); go_simp; refine hK _ ?_; clear hK K; try simp only [Zq]
            refine hk3 (i := 11) rfl (by kernel_rfl) Zh hS rfl (fun K hK => ?_); go_simp; refine hK _ ?_; clear hK K; try simp only [Zq]
            refine hk3 (i := 12) rfl (by kernel_rfl) Zh hS rfl (fun K hK => ?_); go_simp; refine hK _ ?_; clear hK K; try simp only [Zq]
            refine wpAnyH_done (by kernel_rfl) ?_ _
            clear hS
            replace HS := Lib.hid (HS.out.below (Below.refl W5.heap.size W5).drew)
            replace hb := hb.drew
            clear c0 c3 c4 c5 bb1 bb3
            by_cases hge : (L : Int) ≤ at_
            · have hd2 : decide ((L : Int) ≤ at_) = true := by simpa using hge
              go_wp2_with fail
              go_ret
              exact ⟨by have := HKD.out; have h2 := hL.out; have h3 := hBd.out; subst h3; simp [refA, hf, hu, ← this, show ((A.buf (f : Int)).l.length : Int) ≤ at_ by omega], hb⟩
            · have hd2 : decide ((L : Int) ≤ at_) = false := by simpa using hge
              go_wp2_with fail
              go_ret
              exact ⟨by have := HKD.out; have h2 := hL.out; have h3 := hBd.out; subst h3; simp [refA, hf, hu, ← this, hneg, show ¬ ((A.buf (f : Int)).l.length : Int) ≤ at_ by omega], hb⟩
        · have hu : useG 6 = ⟨true, true, true, true, false, 1⟩ := rfl
          obtain rfl : kd = 1 := by rw [HKU.out, HU.out]; rfl
          go_upto_region 17 with (fail)
          refine wp_region_held_drew (S := Kept [] W5) mixed (Kept.drew [] W5) (fun hS => ?_)
          refine hk3 (i := 0) rfl (by kernel_rfl) Zh hS rfl (fun K hK => ?_); go_simp; refine hK _ ?_; clear hK K; try simp only [Zq]
          refine hv3 (i := 1) rfl (by kernel_rfl) Zg hS rfl (fun w' hw' => ex_one rfl (one3 (hw'.cell c3 (by simp <;> omega)))) ?_; try simp only [Zq]
          by_cases hneg : at_ < 0
          · have hd : decide (at_ < 0) = true := by simpa using hneg
            refine hk3 (i := 2) rfl (by kernel_rfl) Zh hS rfl (fun K hK => ?_); go_simp; refine hK _ ?_; clear hK K; try simp only [Zq]
            try rw [hd]
            refine hk3 (i := 3) rfl (by kernel_rfl) Zh hS rfl (fun K hK => ?_); go_simp; refine hK _ ?_; clear hK K; try simp only [Zq]
            refine hs3 (i := 4) rfl (by kernel_rfl) Zg hS rfl ?_; simp only [Zy]
            refine hs3 (i := 5) rfl (by kernel_rfl) Zg hS rfl ?_; simp only [Zy]
            refine hs3 (i := 6) rfl (by kernel_rfl) Zg hS rfl ?_; simp only [Zy]
            refine hk3 (i := 7) rfl (by kernel_rfl) Zh hS rfl (fun K hK => ?_); go_simp; refine hK _ ?_; clear hK K; try simp only [Zq]
            refine hk3 (i := 8) rfl (by kernel_rfl) Zh hS rfl (fun K hK => ?_); go_simp; refine hK _ ?_; clear hK K; try simp only [Zq]
            refine hs3 (i := 9) rfl (by kernel_rfl) Zg hS rfl ?_; simp only [Zy]
            refine hs3 (i := 10) rfl (by kernel_rfl) Zg hS rfl ?_; simp only [Zy]
            refine hs3 (i := 11) rfl (by kernel_rfl) Zg hS rfl ?_; simp only [Zy]
            refine hs3 (i := 12) rfl (by kernel_rfl) Zg hS rfl ?_; simp only [Zy]
            refine hs3 (i := 13) rfl (by kernel_rfl) Zg hS rfl ?_; simp only [Zy]
            refine hs3 (i := 14) rfl (by kernel_rfl) Zg hS rfl ?_; simp only [Zy]
            refine hs3 (i := 15) rfl (by kernel_rfl) Zg hS rfl ?_; simp only [Zy]
            refine hs3 (i := 16) rfl (by kernel_rfl) Zg hS rfl ?_; simp only [Zy]
            refine hk3 (i := 17) rfl (by kernel_rfl) Zh hS rfl (fun K hK => ?_); go_simp; refine hK _ ?_; clear hK K; try simp only [Zq]
            refine hk3 (i := 18) rfl (by kernel_rfl) Zh hS rfl (fun K hK => ?_); go_simp; refine hK _ ?_; clear hK K; try simp only [Zq]
            refine hs3 (i := 19) rfl (by kernel_rfl) Zg hS rfl ?_; simp only [Zy]
            refine hs3 (i := 20) rfl (by kernel_rfl) Zg hS rfl ?_; simp only [Zy]
            refine hs3 (i := 21) rfl (by kernel_rfl) Zg hS rfl ?_; simp only [Zy]
            refine hs3 (i := 22) rfl (by kernel_rfl) Zg hS rfl ?_; simp only [Zy]
            refine hs3 (i := 23) rfl (by kernel_rfl) Zg hS rfl ?_; simp only [Zy]
            refine hs3 (i := 24) rfl (by kernel_rfl) Zg hS rfl ?_; simp only [Zy]
            refine hs3 (i := 25) rfl (by kernel_rfl) Zg hS rfl ?_; simp only [Zy]
            refine hs3 (i := 26) rfl (by kernel_rfl) Zg hS rfl ?_; simp only [Zy]
            refine hs3 (i := 27) rfl (by kernel_rfl) Zg hS rfl ?_; simp only [Zy]
            refine hs3 (i := 28) rfl (by kernel_rfl) Zg hS rfl ?_; simp only [Zy]
            refine hs3 (i := 29) rfl (by kernel_rfl) Zg hS rfl ?_; simp only [Zy]
            refine hk3 (i := 30) rfl (by kernel_rfl) Zh hS rfl (fun K hK => ?_); go_simp; refine hK _ ?_; clear hK K; try simp only [Zq]
            refine wpAnyH_done (by kernel_rfl) ?_ _
            clear hS
            replace HS := Lib.hid (HS.out.below (Below.refl W5.heap.size W5).drew)
            replace hb := hb.drew
            clear c0 c3 c4 c5 bb1 bb3
            go_wp2_with fail
            go_ret
            exact ⟨by have := HKD.out; simp [refA, hf, hu, ← this, hneg], hb⟩
          have hd : decide (at_ < 0) = false := by simpa using hneg
          refine hk3 (i := 2) rfl (by kernel_rfl) Zh hS rfl (fun K hK => ?_); go_simp; refine hK _ ?_; clear hK K; try simp only [Zq]
          try rw [hd]
          refine hk3 (i := 3) rfl (by kernel_rfl) Zh hS rfl (fun K hK => ?_); go_simp; refine hK _ ?_; clear hK K; try simp only [Zq]
          refine hk3 (i := 4) rfl (by kernel_rfl) Zh hS rfl (fun K hK => ?_); go_simp; refine hK _ ?_; clear hK K; try simp only [Zq]
          refine hv3 (i := 5) rfl (by kernel_rfl) Zg hS rfl (fun w' hw' => ex_one rfl (one3 (hw'.cell c4 (by simp <;> omega)))) ?_; try simp only [Zq]
          by_cases hnn : n < 0
          · have hd2 : decide (n < 0) = true := by simpa using hnn
            refine hk3 (i := 6) rfl (by kernel_rfl) Zh hS rfl (fun K hK => ?_); go_simp; refine hK _ ?_; clear hK K; try simp only [Zq]
            try rw [hd2]
            refine hk3 (i := 7) rfl (by kernel_rfl) Zh hS rfl (fun K hK => ?_); go_simp; refine hK _ ?_; clear hK K; try simp only [Zq]
            refine hk3 (i := 8) rfl (by kernel_rfl) Zh hS rfl (fun K hK => ?_); go_simp; refine hK _ ?_; clear hK K; try simp only [Zq]
            refine hs3 (i := 9) rfl (by kernel_rfl) Zg hS rfl ?_; simp only [Zy]
            refine hs3 (i := 10) rfl (by kernel_rfl) Zg hS rfl ?_; simp only [Zy]
            refine hs3 (i := 11) rfl (by kernel_rfl) Zg hS rfl ?_; simp only [Zy]
            refine hs3 (i := 12) rfl (by kernel_rfl) Zg hS rfl ?_; simp only [Zy]
            refine hs3 (i := 13) rfl (by kernel_rfl) Zg hS rfl ?_; simp only [Zy]
            refine hs3 (i := 14) rfl (by kernel_rfl) Zg hS rfl ?_; simp only [Zy]
            refine hs3 (i := 15) rfl (by kernel_rfl) Zg hS rfl ?_; simp only [Zy]
            refine hs3 (i := 16) rfl (by kernel_rfl) Zg hS rfl ?_; simp only [Zy]
            refine hk3 (i := 17) rfl (by kernel_rfl) Zh hS rfl (fun K hK => ?_); go_simp; refine hK _ ?_; clear hK K; try simp only [Zq]
            refine hk3 (i := 18) rfl (by kernel_rfl) Zh hS rfl (fun K hK => ?_); go_simp; refine hK _ ?_; clear hK K; try simp only [Zq]
            refine hs3 (i := 19) rfl (by kernel_rfl) Zg hS rfl ?_; simp only [Zy]
            refine hs3 (i := 20) rfl (by kernel_rfl) Zg hS rfl ?_; simp only [Zy]
            refine hs3 (i := 21) rfl (by kernel_rfl) Zg hS rfl ?_; simp only [Zy]
            refine hs3 (i := 22) rfl (by kernel_rfl) Zg hS rfl ?_; simp only [Zy]
            refine hs3 (i := 23) rfl (by kernel_rfl) Zg hS rfl ?_; simp only [Zy]
            refine hs3 (i := 24) rfl (by kernel_rfl) Zg hS rfl ?_; simp only [Zy]
            refine hs3 (i := 25) rfl (by kernel_rfl) Zg hS rfl ?_; simp only [Zy]
            refine hs3 (i := 26) rfl (by kernel_rfl) Zg hS rfl ?_; simp only [Zy]
            refine hs3 (i := 27) rfl (by kernel_rfl) Zg hS rfl ?_; simp only [Zy]
            refine hs3 (i := 28) rfl (by kernel_rfl) Zg hS rfl ?_; simp only [Zy]
            refine hs3 (i := 29) rfl (by kernel_rfl) Zg hS rfl ?_; simp only [Zy]
            refine hk3 (i := 30) rfl (by kernel_rfl) Zh hS rfl (fun K hK => ?_); go_simp; refine hK _ ?_; clear hK K; try simp only [Zq]
            refine wpAnyH_done (by kernel_rfl) ?_ _
            clear hS
            replace HS := Lib.hid (HS.out.below (Below.refl W5.heap.size W5).drew)
            replace hb := hb.drew
            clear c0 c3 c4 c5 bb1 bb3
            go_wp2_with fail
            go_ret
            exact ⟨by have := HKD.out; simp [refA, hf, hu, ← this, hnn], hb⟩
          have hd2 : decide (n < 0) = false := by simpa using hnn
          refine hk3 (i := 6) rfl (by kernel_rfl) Zh hS rfl (fun K hK => ?_); go_simp; refine hK _ ?_; clear hK K; try simp only [Zq]
          try rw [hd2]
          refine hk3 (i := 7) rfl (by kernel_rfl) Zh hS rfl (fun K hK => ?_); go_simp; refine hK _ ?_; clear hK K; try simp only [Zq]
          refine hk3 (i := 8) rfl (by kernel_rfl) Zh hS rfl (fun K hK => ?_); go_simp; refine hK _ ?_; clear hK K; try simp only [Zq]
          refine hk3 (i := 9) rfl (by kernel_rfl) Zh hS rfl (fun K hK => ?_); go_simp; refine hK _ ?_; clear hK K; try simp only [Zq]
          refine hv3 (i := 10) rfl (by kernel_rfl) Zg hS rfl (fun w' hw' => ex_one rfl (one3 (hw'.cell c3 (by simp <;> omega)))) ?_; try simp only [Zq]
          refine hk3 (i := 11) rfl (by kernel_rfl) Zh hS rfl (fun K hK => ?_); go_simp; refine hK _ ?_; clear hK K; try simp only [Zq]
          refine hk3 (i := 12) rfl (by kernel_rfl) Zh hS rfl (fun K hK => ?_); go_simp; refine hK _ ?_; clear hK K; try simp only [Zq]
          refine hk3 (i := 13) rfl (by kernel_rfl) Zh hS rfl (fun K hK => ?_); go_simp; refine hK _ ?_; clear hK K; try simp only [Zq]
          refine hv3 (i := 14) rfl (by kernel_rfl) Zg hS rfl (fun w' hw' => ex_one rfl (one29 (hw'.cell bb1 (by simp <;> omega)))) ?_; try simp only [Zq]
          refine hk3 (i := 15) rfl (by kernel_rfl) Zh hS rfl (fun K hK => ?_); go_simp; refine hK _ ?_; clear hK K; try simp only [Zq]
          by_cases hgt : (L : Int) < at_
          · have hd3 : decide ((L : Int) < at_) = true := by simpa using hgt
            refine hk3 (i := 16) rfl (by kernel_rfl) Zh hS rfl (fun K hK => ?_); go_simp; refine hK _ ?_; clear hK K; try simp only [Zq]
            try rw [hd3]
            refine hk3 (i := 17) rfl (by kernel_rfl) Zh hS rfl (fun K hK => ?_); go_simp; refine hK _ ?_; clear hK K; try simp only [Zq]
            refine hk3 (i := 18) rfl (by kernel_rfl) Zh hS rfl (fun K hK => ?_); go_simp; refine hK _ ?_; clear hK K; try simp only [Zq]
            refine hs3 (i := 19) rfl (by kernel_rfl) Zg hS rfl ?_; simp only [Zy]
            refine hs3 (i := 20) rfl (by kernel_rfl) Zg hS rfl ?_; simp only [Zy]
            refine hs3 (i := 21) rfl (by kernel_rfl) Zg hS rfl ?_; simp only [Zy]
            refine hs3 (i := 22) rfl (by kernel_rfl) Zg hS rfl ?_; simp only [Zy]
            refine hs3 (i := 23) rfl (by kernel_rfl) Zg hS rfl ?_; simp only [Zy]
            refine hs3 (i := 24) rfl (by kernel_rfl) Zg hS rfl ?_; simp only [Zy]
            refine hs3 (i := 25) rfl (by kernel_rfl) Zg hS rfl ?_; simp only [Zy]
            refine hs3 (i := 26) rfl (by kernel_rfl) Zg hS rfl ?_; simp only [Zy]
            refine hs3 (i := 27) rfl (by kernel_rfl) Zg hS rfl ?_; simp only [Zy]
            refine hs3 (i := 28) rfl (by kernel_rfl) Zg hS rfl ?_; simp only [Zy]
            refine hs3 (i := 29) rfl (by kernel_rfl) Zg hS rfl ?_; simp only [Zy]
            refine hk3 (i := 30) rfl (by kernel_rfl) Zh hS rfl (fun K hK => ?_); go_simp; refine hK _ ?_; clear hK K; try simp only [Zq]
            refine wpAnyH_done (by kernel_rfl) ?_ _
            clear hS
            replace HS := Lib.hid (HS.out.below (Below.refl W5.heap.size W5).drew)
            replace hb := hb.drew
            clear c0 c3 c4 c5 bb1 bb3
            go_wp2_with fail
            go_ret
            exact ⟨by have := HKD.out; have h2 := hL.out; have h3 := hBd.out; subst h3; simp [refA, hf, hu, ← this, show ((A.buf (f : Int)).l.length : Int) < at_ by omega], hb⟩
          have hd3 : decide ((L : Int) < at_) = false := by simpa using hgt
          refine hk3 (i := 16) rfl (by kernel_rfl) Zh hS rfl (fun K hK => ?_); go_simp; refine hK _ ?_; clear hK K; try simp only [Zq]
          try rw [hd3]
          refine hk3 (i := 17) rfl (by kernel_rfl) Zh hS rfl (fun K hK => ?_); go_simp; refine hK _ ?_; clear hK K; try simp only [Zq]
          refine hk3 (i := 18) rfl (by kernel_rfl) Zh hS rfl (fun K hK => ?_); go_simp; refine hK _ ?_; clear hK K; try simp only [Zq]
          refine hk3 (i := 19) rfl (by kernel_rfl) Zh hS rfl (fun K hK => ?_); go_simp; refine hK _ ?_; clear hK K; try simp only [Zq]
          refine hv3 (i := 20) rfl (by kernel_rfl) Zg hS rfl (fun w' hw' => ex_one rfl (one3 (hw'.cell c4 (by simp <;> omega)))) ?_; try simp only [Zq]
          refine hk3 (i := 21) rfl (by kernel_rfl) Zh hS rfl (fun K hK => ?_); go_simp; refine hK _ ?_; clear hK K; try simp only [Zq]
          refine hk3 (i := 22) rfl (by kernel_rfl) Zh hS rfl (fun K hK => ?_); go_simp; refine hK _ ?_; clear hK K; try simp only [Zq]
          refine hk3 (i := 23) rfl (by kernel_rfl) Zh hS rfl (fun K hK => ?_); go_simp; refine hK _ ?_; clear hK K; try simp only [Zq]
          refine hv3 (i := 24) rfl (by kernel_rfl) Zg hS rfl (fun w' hw' => ex_one rfl (one29 (hw'.cell bb1 (by simp <;> omega)))) ?_; try simp only [Zq]
          refine hk3 (i := 25) rfl (by kernel_rfl) Zh hS rfl (fun K hK => ?_); go_simp; refine hK _ ?_; clear hK K; try simp only [Zq]
          refine hk3 (i := 26) rfl (by kernel_rfl) Zh hS rfl (fun K hK => ?_); go_simp; refine hK _ ?_; clear hK K; try simp only [Zq]
          refine hv3 (i := 27) rfl (by kernel_rfl) Zg hS rfl (fun w' hw' => ex_one rfl (one3 (hw'.cell c3 (by simp <;> omega)))) ?_; try simp only [Zq]
          have hwr : IntKind.i64.wrap ((L : Int) - at_) = (L : Int) - at_ := wrap_small _ (by omega) (by omega)
          refine hk3 (i := 28) rfl (by kernel_rfl) Zh hS rfl (fun K hK => ?_); go_simp; refine hK _ ?_; clear hK K; try simp only [Zq]
          refine hk3 (i := 29) rfl (by kernel_rfl) Zh hS rfl (fun K hK => ?_); go_simp; refine hK _ ?_; clear hK K; try simp only [Zq]
          refine hk3 (i := 30) rfl (by kernel_rfl) Zh hS rfl (fun K hK => ?_); go_simp; refine hK _ ?_; clear hK K; try simp only [Zq]
          refine wpAnyH_done (by kernel_rfl) ?_ _
          try rw [hwr]
          clear hS
          replace HS := Lib.hid (HS.out.below (Below.refl W5.heap.size W5).drew)
          replace hb := hb.drew
          clear c0 c3 c4 c5 bb1 bb3
          by_cases hmore : (L : Int) - at_ < n
          · go_wp2_with fail
            go_ret
            exact ⟨by have := HKD.out; have h2 := hL.out; have h3 := hBd.out; subst h3; simp [refA, hf, hu, ← this, show ((A.buf (f : Int)).l.length : Int) - at_ < n by omega], hb⟩
          · go_wp2_with fail
            go_ret
            exact ⟨by have := HKD.out; have h2 := hL.out; have h3 := hBd.out; subst h3; simp [refA, hf, hu, ← this, hneg, hnn, show ¬ ((A.buf (f : Int)).l.length : Int) < at_ by omega, show ¬ ((A.buf (f : Int)).l.length : Int) - at_ < n by omega], hb⟩
        · have hu : useG 7 = ⟨true, false, false, false, false, 1⟩ := rfl
          obtain rfl : kd = 1 := by rw [HKU.out, HU.out]; rfl
          go_wp2_with fail
          go_ret
          exact ⟨by have := HKD.out; simp [refA, hf, hu, ← this], hb⟩
        · exact absurd rfl hku
        · exact absurd hky (by rw [HU.out]; decide)
        · exact absurd hky (by rw [HU.out]; decide)
        · have hu : useG 11 = ⟨true, true, false, false, false, 2⟩ := rfl
          obtain rfl : kd = 2 := by rw [HKU.out, HU.out]; rfl
          go_wp2_with fail
          go_ret
          exact ⟨by have := HKD.out; simp [refA, hf, hu, ← this], hb⟩
end Go.Proofs.Ytbhdgeoljlhmcaa
