/- What an operation does, by the program: append. -/
import Derived.Test.YtbhdgeoljlhmcaaS20
import Derived.Outline
namespace Go.Proofs.Ytbhdgeoljlhmcaa
open Go.RowKit Go.Proofs.Ytbhdgeoljlhmcaa.Nm Go.Proofs.Ytbhdgeoljlhmcaa.St
set_option linter.unusedSimpArgs false
set_option maxHeartbeats 4000000 in
set_option maxRecDepth 100000 in
theorem Do_3 (s : Nat) (A : Sto) (rs : List Row) (hA : Good A) (hm : A.bufs.length ≤ 100000) (hs0 : 0 ≤ A.shared) (hs1 : A.shared ≤ 100000) (o : OpV) (hk : o.kind = 3) (hr : refA A o = 0) (w : World) (h : StoreAt w s A rs) :
    Calls Try.prog 19 #[.pointer (some ⟨s, 0, none⟩), .agg o.cells] w fun e w' => DoPost s A rs o w e w' := by
  have HS := Lib.hid h
  have HA := Lib.hid hA
  have HR := Lib.hid hr
  have hf : formS o = true := by
    cases hq : formS o with
    | true => rfl
    | false => unfold refA at hr; rw [hq] at hr; simp at hr
  have hfr := form_fr hf
  have HF := Lib.hid hf
  have HFT : Hid (∀ q, Foot s rs q → q < w.heap.size) := Lib.hid (fun q hq => h.lt hq)
  have hsw : s < w.heap.size := HFT.out s (Or.inl rfl)
  clear h hA hf
  go_enter Try.func19, Try.ntmps19
  go_upto_region 1 with (fail)
  have hb0 := (Below.refl w.heap.size w).alloc (Nat.le_refl _) (.cells o.cells 39 (0, 0))
  refine wp_world (fun W => Below w.heap.size w W ∧ W.heap[w.heap.size]? = some (.cells o.cells 39 (0, 0))) ⟨hb0, ha_new rfl⟩ ?_
  clear hb0
  rintro W ⟨hb, h1⟩
  replace HS := Lib.hid (HS.out.below hb)
  apply wp_region_lit
  refine wl_k rfl (fun K hK => ?_); go_simp; refine hK _ ?_; clear hK K
  ((with_reducible apply wl_rowG); exact rfl; exact rfl; exact rowO h1)
  simp only [put_lit, List.set_cons_zero, List.set_cons_succ]
  refine wl_ck rfl (fun K hK => ?_); go_simp; refine ⟨_, _, ⟨rfl, rfl⟩, hK _ _ ⟨_, refused_any s A rs HA.out o _ HS.out, ?_⟩⟩; clear hK K; rintro e w1 ⟨rfl, hb1⟩; refine ⟨_, rfl, ?_⟩; simp only [put_lit, List.set_cons_zero, List.set_cons_succ]
  rw [hr]
  replace h1 := below_look hb1 h1
  replace HS := Lib.hid (HS.out.below (hb1.mono (Nat.le_refl _)))
  replace hb := hb.trans (hb1.mono hb.size)
  clear hb1 hr
  obtain ⟨kind, fr, to, at_, n, key⟩ := o
  simp only at hk
  subst hk
  simp only at hfr
  obtain ⟨f, rfl⟩ : ∃ f : Nat, fr = (f : Int) := ⟨fr.toNat, by omega⟩
  have hf8 : (f : Int) < 8 := by omega
  have hnm := nsOf_get (rs := rs) (id_names HA.out hfr.1 hfr.2)
  rw [Int.toNat_natCast] at hnm
  clear hfr
  have c1 := (op_cell h1).2.1
  have c6 := sc_name HS.out.main hnm
  go_upto_region 4 with (fail)
  refine wp_region_held_drew (S := Kept [] w1) mixed (Kept.drew [] w1) (fun hS => ?_)
  refine ha_k (i := 0) rfl (by kernel_rfl) (by kernel_rfl) (by kernel_rfl) (fun _ _ _ _ h => h) hS rfl (fun K hK => ?_); go_simp; refine hK _ ?_; clear hK K; try simp only [put_lit, List.set_cons_zero, List.set_cons_succ]
  refine ha_k (i := 1) rfl (by kernel_rfl) (by kernel_rfl) (by kernel_rfl) (fun _ _ _ _ h => h) hS rfl (fun K hK => ?_); go_simp; refine hK _ ?_; clear hK K; try simp only [put_lit, List.set_cons_zero, List.set_cons_succ]
  refine ha_val (i := 2) rfl (by kernel_rfl) (by kernel_rfl) (by kernel_rfl) (fun _ _ _ h => h) hS rfl (fun w' hw' => ex_one rfl (one3 (hw'.cell c1 (by simp <;> omega)))) ?_; try simp only [put_lit, List.set_cons_zero, List.set_cons_succ]
  refine ha_k (i := 3) rfl (by kernel_rfl) (by kernel_rfl) (by kernel_rfl) (fun _ _ _ _ h => h) hS rfl (fun K hK => ?_); go_simp; refine hK _ ?_; clear hK K; try simp only [put_lit, List.set_cons_zero, List.set_cons_succ]
  refine ha_k (i := 4) rfl (by kernel_rfl) (by kernel_rfl) (by kernel_rfl) (fun _ _ _ _ h => h) hS rfl (fun K hK => ?_); go_simp; refine hK _ ?_; clear hK K; try simp only [put_lit, List.set_cons_zero, List.set_cons_succ]
  refine ha_k (i := 5) rfl (by kernel_rfl) (by kernel_rfl) (by kernel_rfl) (fun _ _ _ _ h => h) hS rfl (fun K hK => ?_); go_simp; refine hK _ ?_; clear hK K; try simp only [put_lit, List.set_cons_zero, List.set_cons_succ]
  refine ha_val (i := 6) rfl (by kernel_rfl) (by kernel_rfl) (by kernel_rfl) (fun _ _ _ h => h) hS rfl (fun w' hw' => ex_one rfl (one80 (hw'.cell c6 (by simp <;> omega)))) ?_; try simp only [put_lit, List.set_cons_zero, List.set_cons_succ]
  refine ha_k (i := 7) rfl (by kernel_rfl) (by kernel_rfl) (by kernel_rfl) (fun _ _ _ _ h => h) hS rfl (fun K hK => ?_); go_simp; refine hK _ ?_; clear hK K; try simp only [put_lit, List.set_cons_zero, List.set_cons_succ]
  refine wpAnyH_done (by kernel_rfl) ?_ _
  replace HS := Lib.hid (HS.out.below (Below.refl w1.heap.size w1).drew)
  replace hb := hb.drew
  replace h1 : w1.drew.heap[w.heap.size]? = _ := h1
  clear c1 c6 hS
  generalize w1.drew = W at *
  have hcs := op_cell h1
  obtain ⟨c0, c1, c2, c3, c4, c5⟩ := hcs
  simp only at c0 c1 c2 c3 c4 c5
  have hkd : (A.buf (f : Int)).kd = 1 := by
    have := HR.out
    apply Classical.byContradiction
    intro hne
    unfold refA at this
    rw [HF.out] at this
    simp only [Bool.true_eq_false, if_false] at this
    rw [if_pos ⟨by decide, hne⟩] at this
    cases this
  obtain ⟨k, hk⟩ : ∃ k, A.id (f : Int) = some k := by
    cases hq : A.id (f : Int) with
    | none => rw [buf_none hq] at hkd; simp [noBuf] at hkd
    | some k => exact ⟨k, rfl⟩
  rw [hk]
  obtain ⟨r, hr, hbk, hB, hG, hns⟩ := HS.out.row HA.out hk
  simp only [Option.map_some, gAt_eq hr]
  rw [show bp (some r.g) = .pointer (some ⟨r.g, 0, none⟩) from rfl]
  have HRw := Lib.hid hr
  have HKk := Lib.hid hk
  have HBk := Lib.hid hbk
  have HB := Lib.hid hB
  have HG := Lib.hid hG
  have HKD := Lib.hid hkd
  clear hr hk hbk hB hG hns hkd hnm
  go_upto_region 11 with (fail)
  apply wp_region_lit
  refine wl_k rfl (fun K hK => ?_); go_simp; refine hK _ ?_; clear hK K
  refine wl_k rfl (fun K hK => ?_); go_simp; refine hK _ ?_; clear hK K
  ((with_reducible apply wl_oneG); exact rfl; exact rfl; exact one3 c1)
  refine wl_ck rfl (fun K hK => ?_); go_simp; refine ⟨_, _, ⟨rfl, rfl⟩, hK _ _ ⟨_, own_at s A rs HA.out (f : Int) (by omega) hf8 k HKk.out hm hs0 hs1 _ HS.out, ?_⟩⟩; clear hK K; rintro e w2 ⟨rs2, k2, r2, rfl, hs2, hid2, hr2, hb2, hran2⟩; refine ⟨_, rfl, ?_⟩; simp only [put_lit, List.set_cons_zero, List.set_cons_succ]
  have hne : ∀ q, Foot s rs2 q → q ≠ w.heap.size := fun q hq e => by
    have hz := heap_lt h1
    rcases hran2.foot q hq with h9 | h9
    · have := HFT.out q h9; omega
    · omega
  replace h1 := (hran2.block w.heap.size (heap_lt h1) (fun hq => by have := HFT.out _ hq; omega)).trans h1
  have HRAN := Lib.hid ((Ran.ofBelow hb).trans hran2)
  have HS2 := Lib.hid hs2
  have HID := Lib.hid hid2
  have HR2 := Lib.hid hr2
  have HB2 := Lib.hid hb2
  have hbf := hs2.rows k2 r2 _ hr2 hb2
  have hgo : r2.g ≠ w.heap.size := hne _ (foot_row hr2)
  have hlo : r2.lv.ownBlock ≠ some w.heap.size := fun e => hne _ (Or.inr ⟨k2, r2, hr2, Or.inr (Or.inl e)⟩) rfl
  have hpo : r2.pv.ownBlock ≠ some w.heap.size := fun e => hne _ (Or.inr ⟨k2, r2, hr2, Or.inr (Or.inr e)⟩) rfl
  clear hs2 hid2 hr2 hb2 hran2 hne HS HRw HKk HBk HB hb c0 c1 c2 c3 c4 c5 hm hs0 hs1 HFT
  have hcs := op_cell h1
  obtain ⟨c0, c1, c2, c3, c4, c5⟩ := hcs
  simp only at c0 c1 c2 c3 c4 c5
  have HBF := Lib.hid hbf
  clear hbf
  refine wl_k rfl (fun K hK => ?_); go_simp; refine hK _ ?_; clear hK K
  have hlen := HG.out.len.1
  obtain ⟨D, hDe⟩ : ∃ D, D = r2.g :: r2.lv.ownBlock.toList := ⟨_, rfl⟩
  have hgD : r2.g ∈ D := by rw [hDe]; simp
  have hlD : ∀ p, r2.lv.ownBlock = some p → p ∈ D := fun p hp => by rw [hDe, hp]; simp
  have hDf : ∀ q ∈ D, q = r2.g ∨ r2.lv.ownBlock = some q ∨ r2.pv.ownBlock = some q := fun q hq => by
    rw [hDe] at hq
    rcases List.mem_cons.1 hq with e | e
    · exact Or.inl e
    · exact Or.inr (Or.inl (by simpa [Option.mem_toList] using e))
  have hoD : w.heap.size ∉ D := fun hm => by
    rcases hDf _ hm with e | e | e
    · exact hgo e.symm
    · exact hlo e
    · exact hpo e
  have HD := Lib.hid hDf
  clear hDe hDf hgo hlo hpo
  have HBD := Lib.hid (HBF.out.same (w' := w2.drew) (fun q _ _ => rfl))
  have g1 := (bc_cell HBD.out.1).2.1
  go_upto_region 12 with (fail)
  refine wp_region_held_drew (S := Kept D w2) mixed (Kept.drew D w2) (fun hS => ?_)
  refine ha_k (i := 0) rfl (by kernel_rfl) (by kernel_rfl) (by kernel_rfl) (fun _ _ _ _ h => h) hS rfl (fun K hK => ?_); go_simp; refine hK _ ?_; clear hK K; try simp only [put_lit, List.set_cons_zero, List.set_cons_succ]
  refine ha_k (i := 1) rfl (by kernel_rfl) (by kernel_rfl) (by kernel_rfl) (fun _ _ _ _ h => h) hS rfl (fun K hK => ?_); go_simp; refine hK _ ?_; clear hK K; try simp only [put_lit, List.set_cons_zero, List.set_cons_succ]
  refine ha_k (i := 2) rfl (by kernel_rfl) (by kernel_rfl) (by kernel_rfl) (fun _ _ _ _ h => h) hS rfl (fun K hK => ?_); go_simp; refine hK _ ?_; clear hK K; try simp only [put_lit, List.set_cons_zero, List.set_cons_succ]
  refine ha_k (i := 3) rfl (by kernel_rfl) (by kernel_rfl) (by kernel_rfl) (fun _ _ _ _ h => h) hS rfl (fun K hK => ?_); go_simp; refine hK _ ?_; clear hK K; try simp only [put_lit, List.set_cons_zero, List.set_cons_succ]
  refine ha_k (i := 5) rfl (by kernel_rfl) (by kernel_rfl) (by kernel_rfl) (fun _ _ _ _ h => h) hS rfl (fun K hK => ?_); go_simp; refine hK _ ?_; clear hK K; try simp only [put_lit, List.set_cons_zero, List.set_cons_succ]
  (refine ha_val (i := 6) rfl (by kernel_rfl) (by kernel_rfl) (by kernel_rfl) (fun _ _ _ h => h) hS rfl (fun w' hw' => ex_one rfl (one9 (hw'.cell c5 hoD))) ?_; try simp only [put_lit, List.set_cons_zero, List.set_cons_succ])
  obtain ⟨v', w', hr, hown, hgr, hloc⟩ := run_push29 key 29 (w := w2.drew) (B := 0) HBD.out.2.1 (Nat.zero_le _) (show (A.buf (f : Int)).l.length ≤ 1000000 by omega)
  have hSa := hS.below ((Below.refl w2.drew.heap.size w2.drew).alloc (Nat.le_refl _) (.cells #[.string key] 9))
  refine ha_two (i := 4) (j := 7) (by kernel_rfl) ?_ ?_
  · refine sh_val (i := 4) rfl rfl (ex_one rfl (one29 g1)) hS ?_; try simp only [put_lit, List.set_cons_zero, List.set_cons_succ]
    refine ha_do (i := 7) (by kernel_rfl) rfl rfl (ex_bs29_1 _ rfl rfl) hSa ?_; try simp only [put_lit, List.set_cons_zero, List.set_cons_succ]
    refine ha_do (i := 8) (by kernel_rfl) rfl rfl (ex_app29 _ _ rfl rfl rfl hr) (hSa.grownO hgr hlD) ?_; try simp only [put_lit, List.set_cons_zero, List.set_cons_succ]
    replace hS := hSa.grownO hgr hlD
    have hsame : ∀ q, q < w2.heap.size → r2.lv.ownBlock ≠ some q → w'.heap[q]? = w2.heap[q]? := fun q hq hne => by
      have hal := (Below.refl w2.drew.heap.size w2.drew).alloc (Nat.le_refl _) (.cells #[.string key] 9)
      rw [hgr.block q (Nat.lt_of_lt_of_le hq hal.size) (fun e => hne e.symm), hal.block q hq]; rfl
    have hg := HBF.out.gAt1 hsame
    refine ha_k (i := 9) rfl (by kernel_rfl) (by kernel_rfl) (by kernel_rfl) (fun _ _ _ _ h => h) hS rfl (fun K hK => ?_); go_simp; refine hK _ ?_; clear hK K; try simp only [put_lit, List.set_cons_zero, List.set_cons_succ]
    refine ha_k (i := 10) rfl (by kernel_rfl) (by kernel_rfl) (by kernel_rfl) (fun _ _ _ _ h => h) hS rfl (fun K hK => ?_); go_simp; refine hK _ ?_; clear hK K; try simp only [put_lit, List.set_cons_zero, List.set_cons_succ]
    refine ha_storeC (i := 11) (by kernel_rfl) rfl rfl 29 _ _ rfl r2.g 1 v' rfl rfl info29 (own_one hown) (by rw [(bc_cell hg).2.1]; rfl) (frozen_of_row _ _ _ _ _ hg) (hS.setCell hgD 1 v') (fun hS => ?_); try simp only [put_lit, List.set_cons_zero, List.set_cons_succ]
    refine wpAnyH_done (by kernel_rfl) ?_ _
    have hfin := HS2.out.changed HID.out HR2.out HB2.out hS HD.out (r' := ⟨r2.g, v', r2.pv⟩) rfl (hloc.imp id (fun e q hq => by rw [e] at hq; cases hq; exact Nat.le_succ _)) (Or.inl rfl) (HBF.out.setList hsame (l' := (A.buf (f : Int)).l ++ [key]) (by simpa using hown))
    have HFIN := Lib.hid hfin
    clear hfin hsame hg hr hown hgr hloc hSa hS g1 c0 c1 c2 c3 c4 c5 h1 hgD hlD hoD
    go_wp2_with fail
    go_ret
    exact ⟨congrArg (fun z => Ending.returned (Value.int .i64 z)) HR.out.symm, rs2.set k2 ⟨r2.g, v', r2.pv⟩, by rw [doA_ok HR.out]; exact HFIN.out.1, HRAN.out.trans HFIN.out.2⟩
  · refine sh_w (i := 7) rfl rfl (ex_bs29_1 _ rfl rfl) hSa ?_; try simp only [put_lit, List.set_cons_zero, List.set_cons_succ]
    refine ha_do (i := 4) (by kernel_rfl) rfl rfl (ex_one rfl (one29 (below_cell ((Below.refl w2.drew.heap.size w2.drew).alloc (Nat.le_refl _) (.cells #[.string key] 9)) g1))) hSa ?_; try simp only [put_lit, List.set_cons_zero, List.set_cons_succ]
    refine ha_do (i := 8) (by kernel_rfl) rfl rfl (ex_app29 _ _ rfl rfl rfl hr) (hSa.grownO hgr hlD) ?_; try simp only [put_lit, List.set_cons_zero, List.set_cons_succ]
    replace hS := hSa.grownO hgr hlD
    have hsame : ∀ q, q < w2.heap.size → r2.lv.ownBlock ≠ some q → w'.heap[q]? = w2.heap[q]? := fun q hq hne => by
      have hal := (Below.refl w2.drew.heap.size w2.drew).alloc (Nat.le_refl _) (.cells #[.string key] 9)
      rw [hgr.block q (Nat.lt_of_lt_of_le hq hal.size) (fun e => hne e.symm), hal.block q hq]; rfl
    have hg := HBF.out.gAt1 hsame
    refine ha_k (i := 9) rfl (by kernel_rfl) (by kernel_rfl) (by kernel_rfl) (fun _ _ _ _ h => h) hS rfl (fun K hK => ?_); go_simp; refine hK _ ?_; clear hK K; try simp only [put_lit, List.set_cons_zero, List.set_cons_succ]
    refine ha_k (i := 10) rfl (by kernel_rfl) (by kernel_rfl) (by kernel_rfl) (fun _ _ _ _ h => h) hS rfl (fun K hK => ?_); go_simp; refine hK _ ?_; clear hK K; try simp only [put_lit, List.set_cons_zero, List.set_cons_succ]
    refine ha_storeC (i := 11) (by kernel_rfl) rfl rfl 29 _ _ rfl r2.g 1 v' rfl rfl info29 (own_one hown) (by rw [(bc_cell hg).2.1]; rfl) (frozen_of_row _ _ _ _ _ hg) (hS.setCell hgD 1 v') (fun hS => ?_); try simp only [put_lit, List.set_cons_zero, List.set_cons_succ]
    refine wpAnyH_done (by kernel_rfl) ?_ _
    have hfin := HS2.out.changed HID.out HR2.out HB2.out hS HD.out (r' := ⟨r2.g, v', r2.pv⟩) rfl (hloc.imp id (fun e q hq => by rw [e] at hq; cases hq; exact Nat.le_succ _)) (Or.inl rfl) (HBF.out.setList hsame (l' := (A.buf (f : Int)).l ++ [key]) (by simpa using hown))
    have HFIN := Lib.hid hfin
    clear hfin hsame hg hr hown hgr hloc hSa hS g1 c0 c1 c2 c3 c4 c5 h1 hgD hlD hoD
    go_wp2_with fail
    go_ret
    exact ⟨congrArg (fun z => Ending.returned (Value.int .i64 z)) HR.out.symm, rs2.set k2 ⟨r2.g, v', r2.pv⟩, by rw [doA_ok HR.out]; exact HFIN.out.1, HRAN.out.trans HFIN.out.2⟩
end Go.Proofs.Ytbhdgeoljlhmcaa
