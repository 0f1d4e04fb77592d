/- What an operation does, by the program: keys. -/
import Derived.Test.YtbhdgeoljlhmcaaS22
import Derived.Outline
namespace Go.Proofs.Ytbhdgeoljlhmcaa
open Go.RowKit Go.Proofs.Ytbhdgeoljlhmcaa.Nm Go.Proofs.Ytbhdgeoljlhmcaa.St
set_option linter.unusedSimpArgs false
theorem keys_take (l : List (ByteArray × Int)) {j : Nat} {k : ByteArray} {v : Int} (h : l[j]? = some (k, v)) : (l.take (j + 1)).map (·.1) = (l.take j).map (·.1) ++ [k] := by
  rw [List.take_add_one, h]; simp
set_option maxHeartbeats 4000000 in
set_option maxRecDepth 100000 in
theorem Do_11 (s : Nat) (A : Sto) (rs : List Row) (hA : Good A) (hm : A.bufs.length ≤ 100000) (o : OpV) (hk : o.kind = 11) (hr : refA A o = 0) (w : World) (h : StoreAt w s A rs) :
    Calls Try.prog 19 #[.pointer (some ⟨s, 0, none⟩), .agg o.cells] w fun e w' => DoPost s A rs o w e w' := by
  have HS := Lib.hid h
  have HA := Lib.hid hA
  have HR := Lib.hid hr
  have hf : formS o = true := by
    cases hq : formS o with
    | true => rfl
    | false => unfold refA at hr; rw [hq] at hr; simp at hr
  have hfr := form_fr hf
  have HF := Lib.hid hf
  have HFT : Hid (∀ q, Foot s rs q → q < w.heap.size) := Lib.hid (fun q hq => h.lt hq)
  have hsw : s < w.heap.size := HFT.out s (Or.inl rfl)
  clear h hA hf
  go_enter Try.func19, Try.ntmps19
  go_upto_region 1 with (fail)
  have hb0 := (Below.refl w.heap.size w).alloc (Nat.le_refl _) (.cells o.cells 39 (0, 0))
  refine wp_world (fun W => Below w.heap.size w W ∧ W.heap[w.heap.size]? = some (.cells o.cells 39 (0, 0))) ⟨hb0, ha_new rfl⟩ ?_
  clear hb0
  rintro W ⟨hb, h1⟩
  replace HS := Lib.hid (HS.out.below hb)
  apply wp_region_lit
  refine wl_k rfl (fun K hK => ?_); go_simp; refine hK _ ?_; clear hK K
  ((with_reducible apply wl_rowG); exact rfl; exact rfl; exact rowO h1)
  simp only [put_lit, List.set_cons_zero, List.set_cons_succ]
  refine wl_ck rfl (fun K hK => ?_); go_simp; refine ⟨_, _, ⟨rfl, rfl⟩, hK _ _ ⟨_, refused_any s A rs HA.out o _ HS.out, ?_⟩⟩; clear hK K; rintro e w1 ⟨rfl, hb1⟩; refine ⟨_, rfl, ?_⟩; simp only [put_lit, List.set_cons_zero, List.set_cons_succ]
  rw [hr]
  replace h1 := below_look hb1 h1
  replace HS := Lib.hid (HS.out.below (hb1.mono (Nat.le_refl _)))
  replace hb := hb.trans (hb1.mono hb.size)
  clear hb1 hr
  obtain ⟨kind, fr, to, at_, n, key⟩ := o
  simp only at hk
  subst hk
  simp only at hfr
  obtain ⟨f, rfl⟩ : ∃ f : Nat, fr = (f : Int) := ⟨fr.toNat, by omega⟩
  have hf8 : (f : Int) < 8 := by omega
  have hnm := nsOf_get (rs := rs) (id_names HA.out hfr.1 hfr.2)
  rw [Int.toNat_natCast] at hnm
  clear hfr
  have c1 := (op_cell h1).2.1
  have c6 := sc_name HS.out.main hnm
  go_upto_region 4 with (fail)
  refine wp_region_held_drew (S := Kept [] w1) mixed (Kept.drew [] w1) (fun hS => ?_)
  refine ha_k (i := 0) rfl (by kernel_rfl) (by kernel_rfl) (by kernel_rfl) (fun _ _ _ _ h => h) hS rfl (fun K hK => ?_); go_simp; refine hK _ ?_; clear hK K; try simp only [put_lit, List.set_cons_zero, List.set_cons_succ]
  refine ha_k (i := 1) rfl (by kernel_rfl) (by kernel_rfl) (by kernel_rfl) (fun _ _ _ _ h => h) hS rfl (fun K hK => ?_); go_simp; refine hK _ ?_; clear hK K; try simp only [put_lit, List.set_cons_zero, List.set_cons_succ]
  refine ha_val (i := 2) rfl (by kernel_rfl) (by kernel_rfl) (by kernel_rfl) (fun _ _ _ h => h) hS rfl (fun w' hw' => ex_one rfl (one3 (hw'.cell c1 (by simp <;> omega)))) ?_; try simp only [put_lit, List.set_cons_zero, List.set_cons_succ]
  refine ha_k (i := 3) rfl (by kernel_rfl) (by kernel_rfl) (by kernel_rfl) (fun _ _ _ _ h => h) hS rfl (fun K hK => ?_); go_simp; refine hK _ ?_; clear hK K; try simp only [put_lit, List.set_cons_zero, List.set_cons_succ]
  refine ha_k (i := 4) rfl (by kernel_rfl) (by kernel_rfl) (by kernel_rfl) (fun _ _ _ _ h => h) hS rfl (fun K hK => ?_); go_simp; refine hK _ ?_; clear hK K; try simp only [put_lit, List.set_cons_zero, List.set_cons_succ]
  refine ha_k (i := 5) rfl (by kernel_rfl) (by kernel_rfl) (by kernel_rfl) (fun _ _ _ _ h => h) hS rfl (fun K hK => ?_); go_simp; refine hK _ ?_; clear hK K; try simp only [put_lit, List.set_cons_zero, List.set_cons_succ]
  refine ha_val (i := 6) rfl (by kernel_rfl) (by kernel_rfl) (by kernel_rfl) (fun _ _ _ h => h) hS rfl (fun w' hw' => ex_one rfl (one80 (hw'.cell c6 (by simp <;> omega)))) ?_; try simp only [put_lit, List.set_cons_zero, List.set_cons_succ]
  refine ha_k (i := 7) rfl (by kernel_rfl) (by kernel_rfl) (by kernel_rfl) (fun _ _ _ _ h => h) hS rfl (fun K hK => ?_); go_simp; refine hK _ ?_; clear hK K; try simp only [put_lit, List.set_cons_zero, List.set_cons_succ]
  refine wpAnyH_done (by kernel_rfl) ?_ _
  replace HS := Lib.hid (HS.out.below (Below.refl w1.heap.size w1).drew)
  replace hb := hb.drew
  replace h1 : w1.drew.heap[w.heap.size]? = _ := h1
  clear c1 c6 hS
  generalize w1.drew = W at *
  have hcs := op_cell h1
  obtain ⟨c0, c1, c2, c3, c4, c5⟩ := hcs
  simp only at c0 c1 c2 c3 c4 c5
  have hkd : (A.buf (f : Int)).kd = 2 := by
    have := HR.out
    apply Classical.byContradiction
    intro hne
    unfold refA at this
    rw [HF.out] at this
    simp only [Bool.true_eq_false, if_false] at this
    rw [if_pos ⟨by decide, hne⟩] at this
    cases this
  obtain ⟨k, hk⟩ : ∃ k, A.id (f : Int) = some k := by
    cases hq : A.id (f : Int) with
    | none => rw [buf_none hq] at hkd; simp [noBuf] at hkd
    | some k => exact ⟨k, rfl⟩
  rw [hk]
  obtain ⟨r, hr, hbk, hB, hG, hns⟩ := HS.out.row HA.out hk
  simp only [Option.map_some, gAt_eq hr]
  rw [show bp (some r.g) = .pointer (some ⟨r.g, 0, none⟩) from rfl]
  have HRw := Lib.hid hr
  have HKk := Lib.hid hk
  have HBk := Lib.hid hbk
  have HB := Lib.hid hB
  have HG := Lib.hid hG
  have HKD := Lib.hid hkd
  clear hr hk hbk hB hG hns hkd hnm
  have hto := form_to HF.out
  simp only at hto
  have hlen := HG.out.len.2
  obtain ⟨P, hP⟩ : ∃ P, P = pairsT (A.buf (f : Int)).t := ⟨_, rfl⟩
  have hPl : P.length ≤ 264 := by rw [hP]; exact Nat.le_trans (pairsT_le _) hlen
  obtain ⟨A2, cp2, e2, hvt⟩ := own_vt HB.out.2.2.1 HB.out.2.2.2
  have hg0 := HB.out.1
  rw [e2] at hg0
  have HG0 := Lib.hid hg0
  have HVT := Lib.hid hvt
  have HP := Lib.hid hP
  clear hg0 hvt e2 hP HB HBk HRw HKk
  have hoW := heap_lt h1
  go_upto_region 39 with (fail)
  apply wp_region_lit
  refine wl_val rfl (ex_build 87 _ rfl (L := [(0, .int .i64 1)]) rfl built87_1) ?_
  simp only [put_lit, List.set_cons_zero, List.set_cons_succ]
  refine wl_w rfl (ex_box87 _ rfl rfl) ?_
  simp only [put_lit, List.set_cons_zero, List.set_cons_succ]
  have hbn := (Below.refl W.heap.size W).alloc (Nat.le_refl _) (.cells (bcells 1 (.slice none 0 0) 0 0 (.slice none 0 0)) 87)
  have hgc : (W.alloc (.cells (bcells 1 (.slice none 0 0) 0 0 (.slice none 0 0)) 87)).heap[W.heap.size]? = _ := ha_new rfl
  replace h1 := below_look hbn h1
  replace HG0 := Lib.hid (below_look hbn HG0.out)
  replace HVT := Lib.hid (HVT.out.below hbn)
  have hgz := heap_lt hgc
  generalize W.alloc (.cells (bcells 1 (.slice none 0 0) 0 0 (.slice none 0 0)) 87) = W2 at *
  clear c0 c1 c2 c3 c4 c5
  refine wl_k rfl (fun K hK => ?_); go_simp; refine hK _ ?_; clear hK K
  go_upto_region 40 with (fail)
  apply wp_region_lit
  refine wl_k rfl (fun K hK => ?_); go_simp; refine hK _ ?_; clear hK K
  refine wl_ck rfl (fun K hK => ?_); go_simp; refine ⟨_, _, ⟨rfl, rfl⟩, hK _ _ ⟨_, pairs_any r.g A2 cp2 (A.buf (f : Int)).t _ _ _ _ (by omega) W2 HG0.out HVT.out, ?_⟩⟩; clear hK K; rintro e w3 ⟨sv, rfl, ho, hb1⟩; refine ⟨_, rfl, ?_⟩; simp only [put_lit, List.set_cons_zero, List.set_cons_succ]
  rw [← HP.out] at ho
  obtain ⟨sA, sc, rfl⟩ := own_shape ho
  replace h1 := below_look hb1 h1
  replace hgc := below_look hb1 hgc
  have hbW : Below W.heap.size W w3 := hbn.trans (hb1.mono (by omega))
  have HO := Lib.hid (own_weak ho (show W.heap.size + 1 ≤ W2.heap.size by omega))
  clear hb1 ho HG0 HVT hbn
  go_wp2_with fail
  have hpre : Hid (w3.ownsRow W.heap.size 9 1 (.slice none 0 0) 0 (strs ((P.take 0).map (·.1)))) := Lib.hid (own_nil _ _ _ _)
  go_loopw [224] (fun i wr => ∃ (j : Nat) (lv : Value), j ≤ P.length ∧ i = .int .i64 (j : Int) ∧ wr.heap[w.heap.size]? = some (.cells (OpV.cells ⟨11, f, to, at_, n, key⟩) 39 (0, 0)) ∧ wr.heap[W.heap.size]? = some (.cells (bcells 1 lv 0 0 (.slice none 0 0)) 87 (0, 0)) ∧
    Hid (wr.ownsRow W.heap.size 9 1 lv j (strs ((P.take j).map (·.1)))) ∧ Hid (wr.ownsRow (W.heap.size + 1) 91 2 (.slice sA P.length sc) P.length (prow P)) ∧ Below W.heap.size W wr) (fun i _ => P.length - (intOf i).toNat)
  case atStart => exact ⟨0, .slice none 0 0, by omega, rfl, h1, hgc, hpre, HO, hbW⟩
  case round =>
    clear h1 hgc HO hbW hpre
    obtain ⟨j, lv, hj, rfl, h1, hgc, HL, HO, hbW⟩ := hrel
    by_cases hlt : j < P.length
    · obtain ⟨⟨k', v'⟩, hkv⟩ : ∃ e, P[j]? = some e := ⟨_, List.getElem?_eq_getElem hlt⟩
      obtain ⟨q, cq, hsl, hBq, hrow⟩ := own_pairs HO.out hkv
      simp only [Value.slice.injEq] at hsl
      obtain ⟨rfl, -, rfl⟩ := hsl
      have HR3 := Lib.hid hrow
      have HKT := Lib.hid (keys_take P hkv)
      clear hrow hkv
      have hz1 := heap_lt h1
      have hz2 := heap_lt hgc
      have hz3 := hbW.size
      go_upto_region 42 with (fail)
      apply wp_region_lit
      refine wl_k rfl (fun K hK => ?_); go_simp; refine hK _ ?_; clear hK K
      ((with_reducible apply wl_rowG); exact rfl; exact rfl; exact HR3.out)
      simp only [put_lit, List.set_cons_zero, List.set_cons_succ]
      refine wl_new (fun ev w => ex_alloc91 rfl ev w) ?_
      intro W5 p5 hb5 hl5 h5
      refine wl_putG p5 (pair k' v') rfl rfl 91 _ h5 info91 rfl (pair_one _ _) ?_
      rw [put_noneA]
      have hbb := below_setRow hb5 (g := p5) hl5 (pair k' v')
      replace h1 := below_look hbb h1
      replace hgc := below_look hbb hgc
      replace HO := Lib.hid (own_below HO.out hbb)
      replace HL := Lib.hid (own_below HL.out hbb)
      replace hbW := hbW.trans (hbb.mono hbW.size)
      have h5' := hr_new (cs := pair k' v') h5
      clear hb5 h5 hbb HR3
      generalize W5.setRow p5 (pair k' v') = w6 at *
      obtain ⟨D, hD⟩ : ∃ D, D = W.heap.size :: lv.ownBlock.toList := ⟨_, rfl⟩
      have hgD : W.heap.size ∈ D := by rw [hD]; simp
      have hlD : ∀ p, lv.ownBlock = some p → p ∈ D := fun p hp => by rw [hD, hp]; simp
      have hDf : ∀ q ∈ D, q = W.heap.size ∨ lv.ownBlock = some q := fun q hq => by
        rw [hD] at hq
        rcases List.mem_cons.1 hq with e | e
        · exact Or.inl e
        · exact Or.inr (by simpa [Option.mem_toList] using e)
      have hWz := hb.size
      have hoD : w.heap.size ∉ D := fun hm => by
        rcases hDf _ hm with e | e
        · omega
        · have := (own_block HL.out e).1; omega
      have hpD : p5 ∉ D := fun hm => by
        rcases hDf _ hm with e | e
        · omega
        · obtain ⟨_, c, hc⟩ := own_block HL.out e
          rw [h5'] at hc; simp only [Option.some.injEq, Obj.cells.injEq] at hc; exact absurd hc.2.1 (by decide)
      have hlg : lv.ownBlock ≠ some W.heap.size := fun e => by
        obtain ⟨_, c, hc⟩ := own_block HL.out e
        rw [hgc] at hc; simp only [Option.some.injEq, Obj.cells.injEq] at hc; exact absurd hc.2.1 (by decide)
      have hgc6 : w6.drew.heap[W.heap.size]? = _ := hgc
      have hz6 := heap_lt hgc6
      have g1 := (bc_cell hgc6).2.1
      have k5 : w6.cell? ⟨p5, 0, none⟩ = some (.string k') := by rw [cell_of_row _ _ _ _ _ _ h5']; rfl
      go_upto_region 43 with (fail)
      refine wp_region_held_drew (S := Kept D w6) mixed (Kept.drew D w6) (fun hS => ?_)
      refine ha_k (i := 0) rfl (by kernel_rfl) (by kernel_rfl) (by kernel_rfl) (fun _ _ _ _ h => h) hS rfl (fun K hK => ?_); go_simp; refine hK _ ?_; clear hK K; try simp only [put_lit, List.set_cons_zero, List.set_cons_succ]
      refine ha_k (i := 1) rfl (by kernel_rfl) (by kernel_rfl) (by kernel_rfl) (fun _ _ _ _ h => h) hS rfl (fun K hK => ?_); go_simp; refine hK _ ?_; clear hK K; try simp only [put_lit, List.set_cons_zero, List.set_cons_succ]
      refine ha_k (i := 2) rfl (by kernel_rfl) (by kernel_rfl) (by kernel_rfl) (fun _ _ _ _ h => h) hS rfl (fun K hK => ?_); go_simp; refine hK _ ?_; clear hK K; try simp only [put_lit, List.set_cons_zero, List.set_cons_succ]
      refine ha_k (i := 3) rfl (by kernel_rfl) (by kernel_rfl) (by kernel_rfl) (fun _ _ _ _ h => h) hS rfl (fun K hK => ?_); go_simp; refine hK _ ?_; clear hK K; try simp only [put_lit, List.set_cons_zero, List.set_cons_succ]
      refine ha_k (i := 5) rfl (by kernel_rfl) (by kernel_rfl) (by kernel_rfl) (fun _ _ _ _ h => h) hS rfl (fun K hK => ?_); go_simp; refine hK _ ?_; clear hK K; try simp only [put_lit, List.set_cons_zero, List.set_cons_succ]
      (refine ha_val (i := 6) rfl (by kernel_rfl) (by kernel_rfl) (by kernel_rfl) (fun _ _ _ h => h) hS rfl (fun w' hw' => ex_one rfl (one9 (hw'.cell k5 hpD))) ?_; try simp only [put_lit, List.set_cons_zero, List.set_cons_succ])
      clear k5 hpD
      obtain ⟨v9, w9, hr, hown, hgr, -⟩ := run_push29 k' 29 (w := w6.drew) (B := W.heap.size) (own_below HL.out (Below.refl _ w6).drew) hbW.size (show j ≤ 1000000 by omega)
      have hal := (Below.refl w6.drew.heap.size w6.drew).alloc (Nat.le_refl _) (.cells #[.string k'] 9)
      have hSa := hS.below hal
      refine ha_two (i := 4) (j := 7) (by kernel_rfl) ?_ ?_
      · refine sh_val (i := 4) rfl rfl (ex_one rfl (one29 g1)) hS ?_; try simp only [put_lit, List.set_cons_zero, List.set_cons_succ]
        refine ha_do (i := 7) (by kernel_rfl) rfl rfl (ex_bs29_1 _ rfl rfl) hSa ?_; try simp only [put_lit, List.set_cons_zero, List.set_cons_succ]
        refine ha_do (i := 8) (by kernel_rfl) rfl rfl (ex_app29 _ _ rfl rfl rfl hr) (hSa.grownO hgr hlD) ?_; try simp only [put_lit, List.set_cons_zero, List.set_cons_succ]
        replace hS := hSa.grownO hgr hlD
        have hg5 := (hgr.block (W.heap.size) (by have := hal.size; omega) (fun e => hlg e.symm)).trans ((hal.block (W.heap.size) hz6).trans hgc6)
        refine ha_k (i := 9) rfl (by kernel_rfl) (by kernel_rfl) (by kernel_rfl) (fun _ _ _ _ h => h) hS rfl (fun K hK => ?_); go_simp; refine hK _ ?_; clear hK K; try simp only [put_lit, List.set_cons_zero, List.set_cons_succ]
        refine ha_k (i := 10) rfl (by kernel_rfl) (by kernel_rfl) (by kernel_rfl) (fun _ _ _ _ h => h) hS rfl (fun K hK => ?_); go_simp; refine hK _ ?_; clear hK K; try simp only [put_lit, List.set_cons_zero, List.set_cons_succ]
        refine ha_storeC (i := 11) (by kernel_rfl) rfl rfl 29 _ _ rfl (W.heap.size) 1 v9 rfl rfl info29 (own_one hown) (by rw [(bc_cell hg5).2.1]; rfl) (frozen_of_row _ _ _ _ _ hg5) (hS.setCell hgD 1 v9) (fun hS => ?_); try simp only [put_lit, List.set_cons_zero, List.set_cons_succ]
        refine wpAnyH_done (by kernel_rfl) ?_ _
        have hgN : (w9.setCell ⟨W.heap.size, 1, none⟩ v9).heap[W.heap.size]? = some (.cells (bcells 1 v9 0 0 (.slice none 0 0)) 87 (0, 0)) := (hs_new hg5).trans (by rw [bcells_set1])
        have hoN : (w9.setCell ⟨W.heap.size, 1, none⟩ v9).ownsRow W.heap.size 9 1 v9 (j + 1) (strs ((P.take (j + 1)).map (·.1))) := by
          rw [HKT.out]
          refine own_same hown (fun q hq he => heap_setCell_other _ _ _ _ (fun e => ?_))
          have e' : q = W.heap.size := e
          obtain ⟨_, c, hc⟩ := own_block hown he
          rw [e', hg5] at hc; simp only [Option.some.injEq, Obj.cells.injEq] at hc; exact absurd hc.2.1 (by decide)
        have h1N := hS.look h1 hoD
        have hOP := own_same HO.out (w' := w9.setCell ⟨W.heap.size, 1, none⟩ v9) (fun q hq he => hS.block q hq (fun hm => by
          obtain ⟨h8, c, hc⟩ := own_block HO.out he
          rcases hDf q hm with e | e
          · omega
          · obtain ⟨_, c', hc'⟩ := own_block HL.out e
            rw [hc] at hc'; simp only [Option.some.injEq, Obj.cells.injEq] at hc'; exact absurd hc'.2.1 (by decide)))
        have hbN := hbW.trans (hS.toBelow (B := W.heap.size) hbW.size (fun q hq => by
          rcases hDf q hq with e | e
          · omega
          · exact (own_block HL.out e).1))
        have HLN := Lib.hid hoN
        have HON := Lib.hid hOP
        clear hoN hOP hg5 hown hgr hr hal hSa hS hgc6 hz6 HO HL hbW hgc h1 hD hgD hlD hDf hlg g1 h5'
        go_wp2_with fail
        go_roundw
        case rel => exact ⟨j + 1, v9, by omega, by go_num, h1N, hgN, HLN, HON, hbN⟩
        case measure => simp [intOf]; omega
      · refine sh_w (i := 7) rfl rfl (ex_bs29_1 _ rfl rfl) hSa ?_; try simp only [put_lit, List.set_cons_zero, List.set_cons_succ]
        refine ha_do (i := 4) (by kernel_rfl) rfl rfl (ex_one rfl (one29 (below_cell hal g1))) hSa ?_; try simp only [put_lit, List.set_cons_zero, List.set_cons_succ]
        refine ha_do (i := 8) (by kernel_rfl) rfl rfl (ex_app29 _ _ rfl rfl rfl hr) (hSa.grownO hgr hlD) ?_; try simp only [put_lit, List.set_cons_zero, List.set_cons_succ]
        replace hS := hSa.grownO hgr hlD
        have hg5 := (hgr.block (W.heap.size) (by have := hal.size; omega) (fun e => hlg e.symm)).trans ((hal.block (W.heap.size) hz6).trans hgc6)
        refine ha_k (i := 9) rfl (by kernel_rfl) (by kernel_rfl) (by kernel_rfl) (fun _ _ _ _ h => h) hS rfl (fun K hK => ?_); go_simp; refine hK _ ?_; clear hK K; try simp only [put_lit, List.set_cons_zero, List.set_cons_succ]
        refine ha_k (i := 10) rfl (by kernel_rfl) (by kernel_rfl) (by kernel_rfl) (fun _ _ _ _ h => h) hS rfl (fun K hK => ?_); go_simp; refine hK _ ?_; clear hK K; try simp only [put_lit, List.set_cons_zero, List.set_cons_succ]
        refine ha_storeC (i := 11) (by kernel_rfl) rfl rfl 29 _ _ rfl (W.heap.size) 1 v9 rfl rfl info29 (own_one hown) (by rw [(bc_cell hg5).2.1]; rfl) (frozen_of_row _ _ _ _ _ hg5) (hS.setCell hgD 1 v9) (fun hS => ?_); try simp only [put_lit, List.set_cons_zero, List.set_cons_succ]
        refine wpAnyH_done (by kernel_rfl) ?_ _
        have hgN : (w9.setCell ⟨W.heap.size, 1, none⟩ v9).heap[W.heap.size]? = some (.cells (bcells 1 v9 0 0 (.slice none 0 0)) 87 (0, 0)) := (hs_new hg5).trans (by rw [bcells_set1])
        have hoN : (w9.setCell ⟨W.heap.size, 1, none⟩ v9).ownsRow W.heap.size 9 1 v9 (j + 1) (strs ((P.take (j + 1)).map (·.1))) := by
          rw [HKT.out]
          refine own_same hown (fun q hq he => heap_setCell_other _ _ _ _ (fun e => ?_))
          have e' : q = W.heap.size := e
          obtain ⟨_, c, hc⟩ := own_block hown he
          rw [e', hg5] at hc; simp only [Option.some.injEq, Obj.cells.injEq] at hc; exact absurd hc.2.1 (by decide)
        have h1N := hS.look h1 hoD
        have hOP := own_same HO.out (w' := w9.setCell ⟨W.heap.size, 1, none⟩ v9) (fun q hq he => hS.block q hq (fun hm => by
          obtain ⟨h8, c, hc⟩ := own_block HO.out he
          rcases hDf q hm with e | e
          · omega
          · obtain ⟨_, c', hc'⟩ := own_block HL.out e
            rw [hc] at hc'; simp only [Option.some.injEq, Obj.cells.injEq] at hc'; exact absurd hc'.2.1 (by decide)))
        have hbN := hbW.trans (hS.toBelow (B := W.heap.size) hbW.size (fun q hq => by
          rcases hDf q hq with e | e
          · omega
          · exact (own_block HL.out e).1))
        have HLN := Lib.hid hoN
        have HON := Lib.hid hOP
        clear hoN hOP hg5 hown hgr hr hal hSa hS hgc6 hz6 HO HL hbW hgc h1 hD hgD hlD hDf hlg g1 h5'
        go_wp2_with fail
        go_roundw
        case rel => exact ⟨j + 1, v9, by omega, by go_num, h1N, hgN, HLN, HON, hbN⟩
        case measure => simp [intOf]; omega
    · obtain rfl : j = P.length := by omega
      rw [List.take_length] at HL
      have hBt := bufAt_nil (w := wr) (g := W.heap.size) (lv := lv) (l := P.map (·.1)) (kd := 1) (seed := 0) hgc (by rw [List.length_map]; exact own_weak HL.out (Nat.zero_le _))
      have HC := Lib.hid (made_at s A rs HA.out to hto.1 hto.2 hm W wr HS.out hbW _ _ hBt (by simp only; omega) (fun q hq => (own_block HL.out hq).1) (by simp [Value.ownBlock]))
      have c2 := (op_cell h1).2.2.1
      simp only at c2
      clear hBt HL HO hgc h1
      go_upto_region 45 with (fail)
      apply wp_region_lit
      refine wl_k rfl (fun K hK => ?_); go_simp; refine hK _ ?_; clear hK K
      refine wl_k rfl (fun K hK => ?_); go_simp; refine hK _ ?_; clear hK K
      ((with_reducible apply wl_oneG); exact rfl; exact rfl; exact one3 c2)
      refine wl_k rfl (fun K hK => ?_); go_simp; refine hK _ ?_; clear hK K
      refine wl_ck rfl (fun K hK => ?_); go_simp; refine ⟨_, _, ⟨rfl, rfl⟩, hK _ _ ⟨_, HC.out, ?_⟩⟩; clear hK K; rintro e w8 ⟨rfl, hfin, -⟩; refine ⟨_, rfl, ?_⟩; simp only [put_lit, List.set_cons_zero, List.set_cons_succ]
      clear HC c2
      rw [HP.out] at hfin
      have HFIN := Lib.hid hfin
      clear hfin
      go_wp2_with fail
      go_ret
      exact ⟨congrArg (fun z => Ending.returned (Value.int .i64 z)) HR.out.symm, _, by rw [doA_ok HR.out]; exact HFIN.out.1, (Ran.ofBelow hb).trans HFIN.out.2⟩
end Go.Proofs.Ytbhdgeoljlhmcaa
