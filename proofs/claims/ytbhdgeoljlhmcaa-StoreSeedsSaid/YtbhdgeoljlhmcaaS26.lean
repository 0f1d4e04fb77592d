/- What an operation does, by the program: put, sort. -/
import Derived.Test.YtbhdgeoljlhmcaaS25
import Derived.Outline
namespace Go.Proofs.Ytbhdgeoljlhmcaa
open Go.RowKit Go.Proofs.Ytbhdgeoljlhmcaa.Nm Go.Proofs.Ytbhdgeoljlhmcaa.St
set_option linter.unusedSimpArgs false
set_option maxHeartbeats 4000000 in
set_option maxRecDepth 100000 in
theorem Do_4 (s : Nat) (A : Sto) (rs : List Row) (hA : Good A) (hm : A.bufs.length ≤ 100000) (hs0 : 0 ≤ A.shared) (hs1 : A.shared ≤ 100000) (o : OpV) (hk : o.kind = 4) (hr : refA A o = 0) (w : World) (h : StoreAt w s A rs) :
    Calls Try.prog 19 #[.pointer (some ⟨s, 0, none⟩), .agg o.cells] w fun e w' => DoPost s A rs o w e w' := by
  have hlim : formS o = true → (A.buf o.fr).kd = 1 → 0 ≤ o.at_ ∧ o.at_ < ((A.buf o.fr).l.length : Int) := fun hf hkd => by
    have h2 := hr
    unfold refA at h2
    simp only [hf, hk, show useG 4 = ⟨true, false, true, false, true, 1⟩ from rfl, hkd] at h2
    simp at h2
    omega
  have HLM := Lib.hid hlim
  clear hlim
  have HS := Lib.hid h
  have HA := Lib.hid hA
  have HR := Lib.hid hr
  have hf : formS o = true := by
    cases hq : formS o with
    | true => rfl
    | false => unfold refA at hr; rw [hq] at hr; simp at hr
  have hfr := form_fr hf
  have HF := Lib.hid hf
  have HFT : Hid (∀ q, Foot s rs q → q < w.heap.size) := Lib.hid (fun q hq => h.lt hq)
  have hsw : s < w.heap.size := HFT.out s (Or.inl rfl)
  clear h hA hf
  go_enter Try.func19, Try.ntmps19
  go_upto_region 1 with (fail)
  have hb0 := (Below.refl w.heap.size w).alloc (Nat.le_refl _) (.cells o.cells 39 (0, 0))
  refine wp_world (fun W => Below w.heap.size w W ∧ W.heap[w.heap.size]? = some (.cells o.cells 39 (0, 0))) ⟨hb0, ha_new rfl⟩ ?_
  clear hb0
  rintro W ⟨hb, h1⟩
  replace HS := Lib.hid (HS.out.below hb)
  apply wp_region_lit
  refine wl_k rfl (fun K hK => ?_); go_simp; refine hK _ ?_; clear hK K
  ((with_reducible apply wl_rowG); exact rfl; exact rfl; exact rowO h1)
  simp only [put_lit, List.set_cons_zero, List.set_cons_succ]
  refine wl_ck rfl (fun K hK => ?_); go_simp; refine ⟨_, _, ⟨rfl, rfl⟩, hK _ _ ⟨_, refused_any s A rs HA.out o _ HS.out, ?_⟩⟩; clear hK K; rintro e w1 ⟨rfl, hb1⟩; refine ⟨_, rfl, ?_⟩; simp only [put_lit, List.set_cons_zero, List.set_cons_succ]
  rw [hr]
  replace h1 := below_look hb1 h1
  replace HS := Lib.hid (HS.out.below (hb1.mono (Nat.le_refl _)))
  replace hb := hb.trans (hb1.mono hb.size)
  clear hb1 hr
  obtain ⟨kind, fr, to, at_, n, key⟩ := o
  simp only at hk
  subst hk
  simp only at hfr
  obtain ⟨f, rfl⟩ : ∃ f : Nat, fr = (f : Int) := ⟨fr.toNat, by omega⟩
  have hf8 : (f : Int) < 8 := by omega
  have hnm := nsOf_get (rs := rs) (id_names HA.out hfr.1 hfr.2)
  rw [Int.toNat_natCast] at hnm
  clear hfr
  have c1 := (op_cell h1).2.1
  have c6 := sc_name HS.out.main hnm
  go_upto_region 4 with (fail)
  refine wp_region_held_drew (S := Kept [] w1) mixed (Kept.drew [] w1) (fun hS => ?_)
  refine ha_k (i := 0) rfl (by kernel_rfl) (by kernel_rfl) (by kernel_rfl) (fun _ _ _ _ h => h) hS rfl (fun K hK => ?_); go_simp; refine hK _ ?_; clear hK K; try simp only [put_lit, List.set_cons_zero, List.set_cons_succ]
  refine ha_k (i := 1) rfl (by kernel_rfl) (by kernel_rfl) (by kernel_rfl) (fun _ _ _ _ h => h) hS rfl (fun K hK => ?_); go_simp; refine hK _ ?_; clear hK K; try simp only [put_lit, List.set_cons_zero, List.set_cons_succ]
  refine ha_val (i := 2) rfl (by kernel_rfl) (by kernel_rfl) (by kernel_rfl) (fun _ _ _ h => h) hS rfl (fun w' hw' => ex_one rfl (one3 (hw'.cell c1 (by simp <;> omega)))) ?_; try simp only [put_lit, List.set_cons_zero, List.set_cons_succ]
  refine ha_k (i := 3) rfl (by kernel_rfl) (by kernel_rfl) (by kernel_rfl) (fun _ _ _ _ h => h) hS rfl (fun K hK => ?_); go_simp; refine hK _ ?_; clear hK K; try simp only [put_lit, List.set_cons_zero, List.set_cons_succ]
  refine ha_k (i := 4) rfl (by kernel_rfl) (by kernel_rfl) (by kernel_rfl) (fun _ _ _ _ h => h) hS rfl (fun K hK => ?_); go_simp; refine hK _ ?_; clear hK K; try simp only [put_lit, List.set_cons_zero, List.set_cons_succ]
  refine ha_k (i := 5) rfl (by kernel_rfl) (by kernel_rfl) (by kernel_rfl) (fun _ _ _ _ h => h) hS rfl (fun K hK => ?_); go_simp; refine hK _ ?_; clear hK K; try simp only [put_lit, List.set_cons_zero, List.set_cons_succ]
  refine ha_val (i := 6) rfl (by kernel_rfl) (by kernel_rfl) (by kernel_rfl) (fun _ _ _ h => h) hS rfl (fun w' hw' => ex_one rfl (one80 (hw'.cell c6 (by simp <;> omega)))) ?_; try simp only [put_lit, List.set_cons_zero, List.set_cons_succ]
  refine ha_k (i := 7) rfl (by kernel_rfl) (by kernel_rfl) (by kernel_rfl) (fun _ _ _ _ h => h) hS rfl (fun K hK => ?_); go_simp; refine hK _ ?_; clear hK K; try simp only [put_lit, List.set_cons_zero, List.set_cons_succ]
  refine wpAnyH_done (by kernel_rfl) ?_ _
  replace HS := Lib.hid (HS.out.below (Below.refl w1.heap.size w1).drew)
  replace hb := hb.drew
  replace h1 : w1.drew.heap[w.heap.size]? = _ := h1
  clear c1 c6 hS
  generalize w1.drew = W at *
  have hcs := op_cell h1
  obtain ⟨c0, c1, c2, c3, c4, c5⟩ := hcs
  simp only at c0 c1 c2 c3 c4 c5
  have hkd : (A.buf (f : Int)).kd = 1 := by
    have := HR.out
    apply Classical.byContradiction
    intro hne
    unfold refA at this
    rw [HF.out] at this
    simp only [Bool.true_eq_false, if_false] at this
    rw [if_pos ⟨by decide, hne⟩] at this
    cases this
  obtain ⟨k, hk⟩ : ∃ k, A.id (f : Int) = some k := by
    cases hq : A.id (f : Int) with
    | none => rw [buf_none hq] at hkd; simp [noBuf] at hkd
    | some k => exact ⟨k, rfl⟩
  rw [hk]
  obtain ⟨r, hr, hbk, hB, hG, hns⟩ := HS.out.row HA.out hk
  simp only [Option.map_some, gAt_eq hr]
  rw [show bp (some r.g) = .pointer (some ⟨r.g, 0, none⟩) from rfl]
  have HRw := Lib.hid hr
  have HKk := Lib.hid hk
  have HBk := Lib.hid hbk
  have HB := Lib.hid hB
  have HG := Lib.hid hG
  have HKD := Lib.hid hkd
  clear hr hk hbk hB hG hns hkd hnm
  have hlm := HLM.out HF.out HKD.out
  simp only at hlm
  have hlen := HG.out.len.1
  obtain ⟨a, rfl⟩ : ∃ a : Nat, at_ = (a : Int) := ⟨at_.toNat, by omega⟩
  have ham : a < (A.buf (f : Int)).l.length := by omega
  clear hlm HLM
  obtain ⟨g, lv, pv⟩ := r
  simp only
  obtain ⟨p, cap, rfl, hcap⟩ := own_s HB.out.2.1 (by omega)
  obtain ⟨x, hx⟩ : ∃ x, x = (A.buf (f : Int)).l.getD a ByteArray.empty := ⟨_, rfl⟩
  have hxa : (A.buf (f : Int)).l[a]? = some x := by rw [hx, List.getD_eq_getElem?_getD, List.getElem?_eq_getElem ham]; rfl
  have HX := Lib.hid hx
  have hcell : W.cell? ⟨p, a, none⟩ = some (.string x) := by
    have := HB.out.2.1.cellAt a (by omega)
    rw [this]; exact strs_get hxa
  have g1 := (bc_cell HB.out.1).2.1
  clear hx hxa
  go_upto_region 14 with (fail)
  refine wp_region_held_drew (S := Kept [] W) mixed (Kept.drew [] W) (fun hS => ?_)
  refine ha_k (i := 0) rfl (by kernel_rfl) (by kernel_rfl) (by kernel_rfl) (fun _ _ _ _ h => h) hS rfl (fun K hK => ?_); go_simp; refine hK _ ?_; clear hK K; try simp only [put_lit, List.set_cons_zero, List.set_cons_succ]
  refine ha_k (i := 1) rfl (by kernel_rfl) (by kernel_rfl) (by kernel_rfl) (fun _ _ _ _ h => h) hS rfl (fun K hK => ?_); go_simp; refine hK _ ?_; clear hK K; try simp only [put_lit, List.set_cons_zero, List.set_cons_succ]
  refine ha_k (i := 2) rfl (by kernel_rfl) (by kernel_rfl) (by kernel_rfl) (fun _ _ _ _ h => h) hS rfl (fun K hK => ?_); go_simp; refine hK _ ?_; clear hK K; try simp only [put_lit, List.set_cons_zero, List.set_cons_succ]
  refine ha_val (i := 3) rfl (by kernel_rfl) (by kernel_rfl) (by kernel_rfl) (fun _ _ _ h => h) hS rfl (fun w' hw' => ex_one rfl (one29 (hw'.cell g1 (by simp <;> omega)))) ?_; try simp only [put_lit, List.set_cons_zero, List.set_cons_succ]
  refine ha_k (i := 4) rfl (by kernel_rfl) (by kernel_rfl) (by kernel_rfl) (fun _ _ _ _ h => h) hS rfl (fun K hK => ?_); go_simp; refine hK _ ?_; clear hK K; try simp only [put_lit, List.set_cons_zero, List.set_cons_succ]
  refine ha_val (i := 5) rfl (by kernel_rfl) (by kernel_rfl) (by kernel_rfl) (fun _ _ _ h => h) hS rfl (fun w' hw' => ex_one rfl (one3 (hw'.cell c3 (by simp <;> omega)))) ?_; try simp only [put_lit, List.set_cons_zero, List.set_cons_succ]
  refine ha_val (i := 6) (v := .pointer (some ⟨p, a, none⟩)) rfl (by kernel_rfl) (by kernel_rfl) (by kernel_rfl) (fun _ _ _ h => h) hS rfl (fun w' _ => (ex_ixS (j := a) _ _ rfl rfl rfl ham).trans (by rw [Addr.add_mid, Nat.zero_add])) ?_; try simp only [put_lit, List.set_cons_zero, List.set_cons_succ]
  refine ha_val (i := 7) rfl (by kernel_rfl) (by kernel_rfl) (by kernel_rfl) (fun _ _ _ h => h) hS rfl (fun w' hw' => ex_one rfl (one9 (hw'.cell hcell (by simp <;> omega)))) ?_; try simp only [put_lit, List.set_cons_zero, List.set_cons_succ]
  refine ha_k (i := 8) rfl (by kernel_rfl) (by kernel_rfl) (by kernel_rfl) (fun _ _ _ _ h => h) hS rfl (fun K hK => ?_); go_simp; refine hK _ ?_; clear hK K; try simp only [put_lit, List.set_cons_zero, List.set_cons_succ]
  refine ha_val (i := 9) rfl (by kernel_rfl) (by kernel_rfl) (by kernel_rfl) (fun _ _ _ h => h) hS rfl (fun w' hw' => ex_one rfl (one9 (hw'.cell c5 (by simp <;> omega)))) ?_; try simp only [put_lit, List.set_cons_zero, List.set_cons_succ]
  refine ha_k (i := 10) rfl (by kernel_rfl) (by kernel_rfl) (by kernel_rfl) (fun _ _ _ _ h => h) hS rfl (fun K hK => ?_); go_simp; refine hK _ ?_; clear hK K; try simp only [put_lit, List.set_cons_zero, List.set_cons_succ]
  refine wpAnyH_done (by kernel_rfl) ?_ _
  rw [ba_beq]
  replace HS := Lib.hid (HS.out.below (Below.refl W.heap.size W).drew)
  replace hb := hb.drew
  replace h1 : W.drew.heap[w.heap.size]? = _ := h1
  replace HB : Hid (BufAt W.drew _ _) := Lib.hid (HB.out.same (fun q _ _ => rfl))
  clear c0 c1 c2 c3 c4 c5 hcell g1 hS
  generalize W.drew = W at *
  obtain ⟨c0, c1, c2, c3, c4, c5⟩ := op_cell h1
  simp only at c0 c1 c2 c3 c4 c5
  by_cases hxk : x = key
  · rw [show decide (x = key) = true by simpa using hxk]
    have hfin : StoreAt W s A rs := HS.out
    have HFIN := Lib.hid hfin
    clear hfin
    go_wp2_with fail
    go_ret
    refine ⟨congrArg (fun z => Ending.returned (Value.int .i64 z)) HR.out.symm, rs, ?_, Ran.ofBelow hb⟩
    rw [doA_ok HR.out]
    have h9 : (A.buf (f : Int)).l.getD (Int.toNat (a : Int)) ByteArray.empty = key := by rw [Int.toNat_natCast, ← HX.out]; exact hxk
    simp only [Sto.does]
    rw [if_neg (by decide), if_neg (by decide), if_neg (by decide), if_pos trivial, if_pos h9]
    exact HFIN.out
  · rw [show decide (x = key) = false by simpa using hxk]
    have HN := Lib.hid hxk
    clear hxk
    go_upto_region 15 with (fail)
    apply wp_region_lit
    refine wl_k rfl (fun K hK => ?_); go_simp; refine hK _ ?_; clear hK K
    refine wl_k rfl (fun K hK => ?_); go_simp; refine hK _ ?_; clear hK K
    ((with_reducible apply wl_oneG); exact rfl; exact rfl; exact one3 c1)
    refine wl_ck rfl (fun K hK => ?_); go_simp; refine ⟨_, _, ⟨rfl, rfl⟩, hK _ _ ⟨_, own_at s A rs HA.out (f : Int) (by omega) hf8 k HKk.out hm hs0 hs1 _ HS.out, ?_⟩⟩; clear hK K; rintro e w2 ⟨rs2, k2, r2, rfl, hs2, hid2, hr2, hb2, hran2⟩; refine ⟨_, rfl, ?_⟩; simp only [put_lit, List.set_cons_zero, List.set_cons_succ]
    have hne : ∀ q, Foot s rs2 q → q ≠ w.heap.size := fun q hq e => by
      have hz := heap_lt h1
      rcases hran2.foot q hq with h9 | h9
      · have := HFT.out q h9; omega
      · omega
    replace h1 := (hran2.block w.heap.size (heap_lt h1) (fun hq => by have := HFT.out _ hq; omega)).trans h1
    have HRAN := Lib.hid ((Ran.ofBelow hb).trans hran2)
    have HS2 := Lib.hid hs2
    have HID := Lib.hid hid2
    have HR2 := Lib.hid hr2
    have HB2 := Lib.hid hb2
    have hbf := hs2.rows k2 r2 _ hr2 hb2
    have hgo : r2.g ≠ w.heap.size := hne _ (foot_row hr2)
    have hlo : r2.lv.ownBlock ≠ some w.heap.size := fun e => hne _ (Or.inr ⟨k2, r2, hr2, Or.inr (Or.inl e)⟩) rfl
    have hpo : r2.pv.ownBlock ≠ some w.heap.size := fun e => hne _ (Or.inr ⟨k2, r2, hr2, Or.inr (Or.inr e)⟩) rfl
    clear hs2 hid2 hr2 hb2 hran2 hne HS HRw HKk HBk HB hb c0 c1 c2 c3 c4 c5 hm hs0 hs1 HFT
    have hcs := op_cell h1
    obtain ⟨c0, c1, c2, c3, c4, c5⟩ := hcs
    simp only at c0 c1 c2 c3 c4 c5
    have HBF := Lib.hid hbf
    clear hbf
    refine wl_k rfl (fun K hK => ?_); go_simp; refine hK _ ?_; clear hK K
    obtain ⟨g2, lv2, pv2⟩ := r2
    simp only at hgo hlo hpo
    obtain ⟨p2, cap2, rfl, hcap2⟩ := own_s HBF.out.2.1 (by omega)
    have hpo2 : p2 ≠ w.heap.size := by simpa [Value.ownBlock] using hlo
    have hgp : g2 ≠ p2 := fun e => by
      obtain ⟨_, c, hc⟩ := own_block HBF.out.2.1 (q := p2) rfl
      have := HBF.out.1
      rw [show (Row.g ⟨g2, .slice (some ⟨p2, 0, none⟩) (A.buf (f : Int)).l.length cap2, pv2⟩) = p2 from e, hc] at this
      simp only [Option.some.injEq, Obj.cells.injEq] at this; exact absurd this.2.1 (by decide)
    have hoD : w.heap.size ∉ [p2] := by simp; exact fun e => hpo2 e.symm
    have hgD : g2 ∉ [p2] := by simpa using hgp
    have g1 := (bc_cell HBF.out.1).2.1
    have hcl := HBF.out.2.1.cellAt a (by omega)
    obtain ⟨_, cur, hcur⟩ := own_block HBF.out.2.1 (q := p2) rfl
    have hfro : w2.frozen? ⟨p2, a, none⟩ = false := frozen_of_row _ _ _ _ _ hcur
    have hthere : (w2.cell? ⟨p2, a, none⟩).isSome = true := by
      rw [hcl]; unfold strs; rw [List.getElem?_map, List.getElem?_eq_getElem ham]; rfl
    clear hlo hpo hgo hpo2 hcl hcur
    go_upto_region 16 with (fail)
    refine wp_region_held_drew (S := Kept [p2] w2) mixed (Kept.drew [p2] w2) (fun hS => ?_)
    refine ha_k (i := 0) rfl (by kernel_rfl) (by kernel_rfl) (by kernel_rfl) (fun _ _ _ _ h => h) hS rfl (fun K hK => ?_); go_simp; refine hK _ ?_; clear hK K; try simp only [put_lit, List.set_cons_zero, List.set_cons_succ]
    refine ha_k (i := 1) rfl (by kernel_rfl) (by kernel_rfl) (by kernel_rfl) (fun _ _ _ _ h => h) hS rfl (fun K hK => ?_); go_simp; refine hK _ ?_; clear hK K; try simp only [put_lit, List.set_cons_zero, List.set_cons_succ]
    refine ha_k (i := 2) rfl (by kernel_rfl) (by kernel_rfl) (by kernel_rfl) (fun _ _ _ _ h => h) hS rfl (fun K hK => ?_); go_simp; refine hK _ ?_; clear hK K; try simp only [put_lit, List.set_cons_zero, List.set_cons_succ]
    (refine ha_val (i := 3) rfl (by kernel_rfl) (by kernel_rfl) (by kernel_rfl) (fun _ _ _ h => h) hS rfl (fun w' hw' => ex_one rfl (one29 (hw'.cell g1 hgD))) ?_; try simp only [put_lit, List.set_cons_zero, List.set_cons_succ])
    refine ha_k (i := 4) rfl (by kernel_rfl) (by kernel_rfl) (by kernel_rfl) (fun _ _ _ _ h => h) hS rfl (fun K hK => ?_); go_simp; refine hK _ ?_; clear hK K; try simp only [put_lit, List.set_cons_zero, List.set_cons_succ]
    (refine ha_val (i := 5) rfl (by kernel_rfl) (by kernel_rfl) (by kernel_rfl) (fun _ _ _ h => h) hS rfl (fun w' hw' => ex_one rfl (one3 (hw'.cell c3 hoD))) ?_; try simp only [put_lit, List.set_cons_zero, List.set_cons_succ])
    refine ha_k (i := 6) rfl (by kernel_rfl) (by kernel_rfl) (by kernel_rfl) (fun _ _ _ _ h => h) hS rfl (fun K hK => ?_); go_simp; refine hK _ ?_; clear hK K; try simp only [put_lit, List.set_cons_zero, List.set_cons_succ]
    (refine ha_val (i := 7) rfl (by kernel_rfl) (by kernel_rfl) (by kernel_rfl) (fun _ _ _ h => h) hS rfl (fun w' hw' => ex_one rfl (one9 (hw'.cell c5 hoD))) ?_; try simp only [put_lit, List.set_cons_zero, List.set_cons_succ])
    refine ha_val (i := 8) (v := .pointer (some ⟨p2, a, none⟩)) rfl (by kernel_rfl) (by kernel_rfl) (by kernel_rfl) (fun _ _ _ h => h) hS rfl (fun w' _ => (ex_ixS (j := a) _ _ rfl rfl rfl ham).trans (by rw [Addr.add_mid, Nat.zero_add])) ?_; try simp only [put_lit, List.set_cons_zero, List.set_cons_succ]
    refine ha_storeC (i := 9) (by kernel_rfl) rfl rfl 9 _ _ rfl p2 a (.string key) rfl rfl (by kernel_rfl) rfl hthere hfro (hS.setCell (by simp) a _) (fun hS => ?_); try simp only [put_lit, List.set_cons_zero, List.set_cons_succ]
    refine wpAnyH_done (by kernel_rfl) ?_ _
    have hsame : ∀ q, q < w2.heap.size → (Value.slice (some ⟨p2, 0, none⟩) (A.buf (f : Int)).l.length cap2).ownBlock ≠ some q → (w2.drew.setCell ⟨p2, a, none⟩ (.string key)).heap[q]? = w2.heap[q]? := fun q hq hne => by
      rw [heap_setCell_other _ _ _ _ (fun e => hne (by have e' : q = p2 := e; rw [e']; rfl))]; rfl
    have hown : (w2.drew.setCell ⟨p2, a, none⟩ (.string key)).ownsRow 0 9 1 (.slice (some ⟨p2, 0, none⟩) (A.buf (f : Int)).l.length cap2) ((A.buf (f : Int)).l.set a key).length (strs ((A.buf (f : Int)).l.set a key)) :=
      own_setS (own_below HBF.out.2.1 (Below.refl _ w2).drew) a key
    have hfin := HS2.out.changed HID.out HR2.out HB2.out hS (fun q hq => by simp only [List.mem_cons, List.not_mem_nil, or_false] at hq; exact Or.inr (Or.inl (by rw [hq]; rfl))) (r' := ⟨g2, .slice (some ⟨p2, 0, none⟩) (A.buf (f : Int)).l.length cap2, pv2⟩) rfl (Or.inl rfl) (Or.inl rfl) (HBF.out.listIn hsame hown)
    clear hsame hown hS g1 c0 c1 c2 c3 c4 c5 h1 hoD hgD hthere hfro hgp
    have h9 : Hid (¬ (A.buf (f : Int)).l.getD (Int.toNat (a : Int)) ByteArray.empty = key) := Lib.hid (by rw [Int.toNat_natCast, ← HX.out]; exact HN.out)
    have HFIN := Lib.hid hfin
    clear hfin
    go_wp2_with fail
    go_ret
    exact ⟨congrArg (fun z => Ending.returned (Value.int .i64 z)) HR.out.symm, _, by rw [doA_ok HR.out]; simp only [Sto.does]; rw [if_neg (by decide), if_neg (by decide), if_neg (by decide), if_pos trivial, if_neg h9.out]; exact HFIN.out.1, HRAN.out.trans HFIN.out.2⟩
end Go.Proofs.Ytbhdgeoljlhmcaa
