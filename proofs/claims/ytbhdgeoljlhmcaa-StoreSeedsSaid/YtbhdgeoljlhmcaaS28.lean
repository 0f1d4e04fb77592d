/- What an operation does, by the program: delete. -/
import Derived.Test.YtbhdgeoljlhmcaaS25
import Derived.Outline
namespace Go.Proofs.Ytbhdgeoljlhmcaa
open Go.RowKit Go.Proofs.Ytbhdgeoljlhmcaa.Nm Go.Proofs.Ytbhdgeoljlhmcaa.St
set_option linter.unusedSimpArgs false
theorem PlAt.setPair {w : World} {p cap i : Nat} {t : Tab} (h : PlAt w p cap t) (hi : i < t.length) (ho : eb (pl t i) = true) (k : ByteArray) (v : Int) : PlAt (w.setCells p (i * 3 + 1) (pair k v).toList) p cap (t.set i (some (k, v))) := by
  obtain ⟨cur, h1, h2, h3, h4⟩ := h
  obtain ⟨cur', g1, g2, g3⟩ := heap_setCells_row p 95 (pair k v).toList (i * 3 + 1) w cur h1
  refine ⟨cur', g1, by omega, by simpa using h3, fun j hj => ?_⟩
  simp only [List.length_set] at hj
  have hl : (pair k v).toList.length = 2 := rfl
  rw [pl_set hi hj, g3, g3, g3, hl]
  obtain ⟨a, b, c⟩ := h4 j hj
  by_cases e : j = i
  · subst e
    rw [if_pos rfl, if_neg (by omega), if_pos (by omega), if_pos (by omega)]
    refine ⟨by rw [a, ho]; rfl, ?_, ?_⟩
    · rw [show j * 3 + 1 - (j * 3 + 1) = 0 by omega]; rfl
    · rw [show j * 3 + 2 - (j * 3 + 1) = 1 by omega]; rfl
  · rw [if_neg e, if_neg (by omega), if_neg (by omega), if_neg (by omega)]
    exact ⟨a, b, c⟩
theorem BufAt.setTab {w w' : World} {r : Row} {b : Buf} {D : List Nat} {t' : Tab} {p' cap' : Nat} (h : BufAt w r b) (hK : Kept D w w') (hD : ∀ q ∈ D, q = r.g ∨ r.pv.ownBlock = some q)
    (hg : w'.heap[r.g]? = some (.cells (bcells b.kd r.lv b.seed (cn t' : Int) (.slice (some ⟨p', 0, none⟩) t'.length cap')) 87 (0, 0))) (hp : PlAt w' p' cap' t') (hc : cap' ≤ maxLen) (hn : 1 ≤ t'.length) :
    BufAt w' ⟨r.g, r.lv, .slice (some ⟨p', 0, none⟩) t'.length cap'⟩ { b with t := t' } := by
  obtain ⟨h1, h2, h3, h4⟩ := h
  refine ⟨hg, own_same h2 (fun q hq he => hK.block q hq (fun hm => ?_)), hp.own hc (Nat.zero_le _), fun e => by rw [show t' = [] from e] at hn; simp at hn⟩
  obtain ⟨_, c, hc2⟩ := own_block h2 he
  rcases hD q hm with e | e
  · rw [e, h1] at hc2; simp only [Option.some.injEq, Obj.cells.injEq] at hc2; exact absurd hc2.2.1 (by decide)
  · obtain ⟨_, c', hc3⟩ := own_block h3 e
    rw [hc2] at hc3; simp only [Option.some.injEq, Obj.cells.injEq] at hc3; exact absurd hc3.2.1 (by decide)
theorem BufAt.gp {w : World} {g p n cap : Nat} {lv : Value} {b : Buf} (h : BufAt w ⟨g, lv, .slice (some ⟨p, 0, none⟩) n cap⟩ b) : g ≠ p := fun e => by
  obtain ⟨_, c, hc⟩ := own_block h.2.2.1 (q := p) rfl
  have := h.1
  rw [show (Row.g ⟨g, lv, .slice (some ⟨p, 0, none⟩) n cap⟩) = p from e, hc] at this
  simp only [Option.some.injEq, Obj.cells.injEq] at this; exact absurd this.2.1 (by decide)
theorem GoodB.dict {b : Buf} (h : GoodB b) (hk : b.kd = 2) : 0 ≤ b.seed ∧ b.seed ≤ 2147483647 ∧ b.l = [] ∧ Wf (HH b.seed) b.t ∧ Short b.t ∧ 4 ≤ b.t.length ∧ b.t.length ≤ 264 ∧ cn b.t ≤ 100 := by
  rcases h with ⟨h1, _⟩ | ⟨_, h⟩
  · rw [hk] at h1; exact absurd h1 (by decide)
  · exact h
set_option maxHeartbeats 4000000 in
set_option maxRecDepth 100000 in
theorem Do_10 (s : Nat) (A : Sto) (rs : List Row) (hA : Good A) (hm : A.bufs.length ≤ 100000) (hs0 : 0 ≤ A.shared) (hs1 : A.shared ≤ 100000) (o : OpV) (hk : o.kind = 10) (hr : refA A o = 0) (w : World) (h : StoreAt w s A rs) :
    Calls Try.prog 19 #[.pointer (some ⟨s, 0, none⟩), .agg o.cells] w fun e w' => DoPost s A rs o w e w' := by
  have hlim : formS o = true → (A.buf o.fr).kd = 2 → o.key.size ≤ 24 ∧ ¬ fnd (A.buf o.fr).seed (A.buf o.fr).t o.key < 0 := fun hf hkd => by
    have h2 := hr
    unfold refA at h2
    simp only [hf, hk, show useG 10 = ⟨true, false, false, false, true, 2⟩ from rfl, hkd] at h2
    simp at h2
    omega
  have HLM := Lib.hid hlim
  clear hlim
  have HS := Lib.hid h
  have HA := Lib.hid hA
  have HR := Lib.hid hr
  have hf : formS o = true := by
    cases hq : formS o with
    | true => rfl
    | false => unfold refA at hr; rw [hq] at hr; simp at hr
  have hfr := form_fr hf
  have HF := Lib.hid hf
  have HFT : Hid (∀ q, Foot s rs q → q < w.heap.size) := Lib.hid (fun q hq => h.lt hq)
  have hsw : s < w.heap.size := HFT.out s (Or.inl rfl)
  clear h hA hf
  go_enter Try.func19, Try.ntmps19
  go_upto_region 1 with (fail)
  have hb0 := (Below.refl w.heap.size w).alloc (Nat.le_refl _) (.cells o.cells 39 (0, 0))
  refine wp_world (fun W => Below w.heap.size w W ∧ W.heap[w.heap.size]? = some (.cells o.cells 39 (0, 0))) ⟨hb0, ha_new rfl⟩ ?_
  clear hb0
  rintro W ⟨hb, h1⟩
  replace HS := Lib.hid (HS.out.below hb)
  apply wp_region_lit
  refine wl_k rfl (fun K hK => ?_); go_simp; refine hK _ ?_; clear hK K
  ((with_reducible apply wl_rowG); exact rfl; exact rfl; exact rowO h1)
  simp only [put_lit, List.set_cons_zero, List.set_cons_succ]
  refine wl_ck rfl (fun K hK => ?_); go_simp; refine ⟨_, _, ⟨rfl, rfl⟩, hK _ _ ⟨_, refused_any s A rs HA.out o _ HS.out, ?_⟩⟩; clear hK K; rintro e w1 ⟨rfl, hb1⟩; refine ⟨_, rfl, ?_⟩; simp only [put_lit, List.set_cons_zero, List.set_cons_succ]
  rw [hr]
  replace h1 := below_look hb1 h1
  replace HS := Lib.hid (HS.out.below (hb1.mono (Nat.le_refl _)))
  replace hb := hb.trans (hb1.mono hb.size)
  clear hb1 hr
  obtain ⟨kind, fr, to, at_, n, key⟩ := o
  simp only at hk
  subst hk
  simp only at hfr
  obtain ⟨f, rfl⟩ : ∃ f : Nat, fr = (f : Int) := ⟨fr.toNat, by omega⟩
  have hf8 : (f : Int) < 8 := by omega
  have hnm := nsOf_get (rs := rs) (id_names HA.out hfr.1 hfr.2)
  rw [Int.toNat_natCast] at hnm
  clear hfr
  have c1 := (op_cell h1).2.1
  have c6 := sc_name HS.out.main hnm
  go_upto_region 4 with (fail)
  refine wp_region_held_drew (S := Kept [] w1) mixed (Kept.drew [] w1) (fun hS => ?_)
  refine ha_k (i := 0) rfl (by kernel_rfl) (by kernel_rfl) (by kernel_rfl) (fun _ _ _ _ h => h) hS rfl (fun K hK => ?_); go_simp; refine hK _ ?_; clear hK K; try simp only [put_lit, List.set_cons_zero, List.set_cons_succ]
  refine ha_k (i := 1) rfl (by kernel_rfl) (by kernel_rfl) (by kernel_rfl) (fun _ _ _ _ h => h) hS rfl (fun K hK => ?_); go_simp; refine hK _ ?_; clear hK K; try simp only [put_lit, List.set_cons_zero, List.set_cons_succ]
  refine ha_val (i := 2) rfl (by kernel_rfl) (by kernel_rfl) (by kernel_rfl) (fun _ _ _ h => h) hS rfl (fun w' hw' => ex_one rfl (one3 (hw'.cell c1 (by simp <;> omega)))) ?_; try simp only [put_lit, List.set_cons_zero, List.set_cons_succ]
  refine ha_k (i := 3) rfl (by kernel_rfl) (by kernel_rfl) (by kernel_rfl) (fun _ _ _ _ h => h) hS rfl (fun K hK => ?_); go_simp; refine hK _ ?_; clear hK K; try simp only [put_lit, List.set_cons_zero, List.set_cons_succ]
  refine ha_k (i := 4) rfl (by kernel_rfl) (by kernel_rfl) (by kernel_rfl) (fun _ _ _ _ h => h) hS rfl (fun K hK => ?_); go_simp; refine hK _ ?_; clear hK K; try simp only [put_lit, List.set_cons_zero, List.set_cons_succ]
  refine ha_k (i := 5) rfl (by kernel_rfl) (by kernel_rfl) (by kernel_rfl) (fun _ _ _ _ h => h) hS rfl (fun K hK => ?_); go_simp; refine hK _ ?_; clear hK K; try simp only [put_lit, List.set_cons_zero, List.set_cons_succ]
  refine ha_val (i := 6) rfl (by kernel_rfl) (by kernel_rfl) (by kernel_rfl) (fun _ _ _ h => h) hS rfl (fun w' hw' => ex_one rfl (one80 (hw'.cell c6 (by simp <;> omega)))) ?_; try simp only [put_lit, List.set_cons_zero, List.set_cons_succ]
  refine ha_k (i := 7) rfl (by kernel_rfl) (by kernel_rfl) (by kernel_rfl) (fun _ _ _ _ h => h) hS rfl (fun K hK => ?_); go_simp; refine hK _ ?_; clear hK K; try simp only [put_lit, List.set_cons_zero, List.set_cons_succ]
  refine wpAnyH_done (by kernel_rfl) ?_ _
  replace HS := Lib.hid (HS.out.below (Below.refl w1.heap.size w1).drew)
  replace hb := hb.drew
  replace h1 : w1.drew.heap[w.heap.size]? = _ := h1
  clear c1 c6 hS
  generalize w1.drew = W at *
  have hcs := op_cell h1
  obtain ⟨c0, c1, c2, c3, c4, c5⟩ := hcs
  simp only at c0 c1 c2 c3 c4 c5
  have hkd : (A.buf (f : Int)).kd = 2 := by
    have := HR.out
    apply Classical.byContradiction
    intro hne
    unfold refA at this
    rw [HF.out] at this
    simp only [Bool.true_eq_false, if_false] at this
    rw [if_pos ⟨by decide, hne⟩] at this
    cases this
  obtain ⟨k, hk⟩ : ∃ k, A.id (f : Int) = some k := by
    cases hq : A.id (f : Int) with
    | none => rw [buf_none hq] at hkd; simp [noBuf] at hkd
    | some k => exact ⟨k, rfl⟩
  rw [hk]
  obtain ⟨r, hr, hbk, hB, hG, hns⟩ := HS.out.row HA.out hk
  simp only [Option.map_some, gAt_eq hr]
  rw [show bp (some r.g) = .pointer (some ⟨r.g, 0, none⟩) from rfl]
  have HRw := Lib.hid hr
  have HKk := Lib.hid hk
  have HBk := Lib.hid hbk
  have HB := Lib.hid hB
  have HG := Lib.hid hG
  have HKD := Lib.hid hkd
  clear hr hk hbk hB hG hns hkd hnm
  have hlm := HLM.out HF.out HKD.out
  simp only at hlm
  obtain ⟨hks, hfn⟩ := hlm
  obtain ⟨hsd0, hsd1, hnl, hwf, hsh, ht4, ht264, hcn⟩ := HG.out.dict HKD.out
  obtain ⟨i, hi⟩ : ∃ i, findT (HH (A.buf (f : Int)).seed) (A.buf (f : Int)).t key = some i := by
    unfold fnd at hfn
    cases hq : findT (HH (A.buf (f : Int)).seed) (A.buf (f : Int)).t key with
    | none => rw [hq] at hfn; exact absurd (show (-1 : Int) < 0 by decide) hfn
    | some i => exact ⟨i, rfl⟩
  have hfi : fnd (A.buf (f : Int)).seed (A.buf (f : Int)).t key = (i : Int) := by unfold fnd; rw [hi]
  obtain ⟨hil, v0, hpv⟩ := find_of (HH (A.buf (f : Int)).seed) hwf.gap hi
  have hocc : occ (A.buf (f : Int)).t i = true := by unfold occ; rw [hpv]; rfl
  have HFI := Lib.hid hi
  have HW := Lib.hid hwf
  have HSH := Lib.hid hsh
  have HOC := Lib.hid hocc
  have hc1 : 1 ≤ cn (A.buf (f : Int)).t := by have := cn_remove (HH (A.buf (f : Int)).seed) hil hocc; omega
  obtain ⟨g, lv, pv⟩ := r
  simp only
  obtain ⟨p, cap, rfl, _, hpl⟩ := own_pl HB.out.2.2.1 (by omega)
  have HFC := Lib.hid (find_any g p cap (A.buf (f : Int)).t _ (A.buf (f : Int)).seed _ lv key (by omega) (by omega) (by omega) hwf.gap W HB.out.1 hpl)
  rw [hfi] at HFC
  clear HLM hfn hi hfi hpv hwf hsh hocc hnl hpl
  go_upto_region 36 with (fail)
  apply wp_region_lit
  refine wl_k rfl (fun K hK => ?_); go_simp; refine hK _ ?_; clear hK K
  refine wl_k rfl (fun K hK => ?_); go_simp; refine hK _ ?_; clear hK K
  ((with_reducible apply wl_oneG); exact rfl; exact rfl; exact one9 c5)
  refine wl_ck rfl (fun K hK => ?_); go_simp; refine ⟨_, _, ⟨rfl, rfl⟩, hK _ _ ⟨_, HFC.out, ?_⟩⟩; clear hK K; rintro e w3 ⟨rfl, hb1⟩; refine ⟨_, rfl, ?_⟩; simp only [put_lit, List.set_cons_zero, List.set_cons_succ]
  replace HS := Lib.hid (HS.out.below hb1)
  replace h1 := below_look hb1 h1
  replace hb := hb.trans (hb1.mono hb.size)
  clear c0 c1 c2 c3 c4 c5 HFC hb1 HB
  obtain ⟨c0, c1, c2, c3, c4, c5⟩ := op_cell h1
  simp only at c0 c1 c2 c3 c4 c5
  refine wl_k rfl (fun K hK => ?_); go_simp; refine hK _ ?_; clear hK K
  go_upto_region 37 with (fail)
  apply wp_region_lit
  refine wl_k rfl (fun K hK => ?_); go_simp; refine hK _ ?_; clear hK K
  refine wl_k rfl (fun K hK => ?_); go_simp; refine hK _ ?_; clear hK K
  ((with_reducible apply wl_oneG); exact rfl; exact rfl; exact one3 c1)
  have HB : Hid True := Lib.hid trivial
  refine wl_ck rfl (fun K hK => ?_); go_simp; refine ⟨_, _, ⟨rfl, rfl⟩, hK _ _ ⟨_, own_at s A rs HA.out (f : Int) (by omega) hf8 k HKk.out hm hs0 hs1 _ HS.out, ?_⟩⟩; clear hK K; rintro e w2 ⟨rs2, k2, r2, rfl, hs2, hid2, hr2, hb2, hran2⟩; refine ⟨_, rfl, ?_⟩; simp only [put_lit, List.set_cons_zero, List.set_cons_succ]
  have hne : ∀ q, Foot s rs2 q → q ≠ w.heap.size := fun q hq e => by
    have hz := heap_lt h1
    rcases hran2.foot q hq with h9 | h9
    · have := HFT.out q h9; omega
    · omega
  replace h1 := (hran2.block w.heap.size (heap_lt h1) (fun hq => by have := HFT.out _ hq; omega)).trans h1
  have HRAN := Lib.hid ((Ran.ofBelow hb).trans hran2)
  have HS2 := Lib.hid hs2
  have HID := Lib.hid hid2
  have HR2 := Lib.hid hr2
  have HB2 := Lib.hid hb2
  have hbf := hs2.rows k2 r2 _ hr2 hb2
  have hgo : r2.g ≠ w.heap.size := hne _ (foot_row hr2)
  have hlo : r2.lv.ownBlock ≠ some w.heap.size := fun e => hne _ (Or.inr ⟨k2, r2, hr2, Or.inr (Or.inl e)⟩) rfl
  have hpo : r2.pv.ownBlock ≠ some w.heap.size := fun e => hne _ (Or.inr ⟨k2, r2, hr2, Or.inr (Or.inr e)⟩) rfl
  clear hs2 hid2 hr2 hb2 hran2 hne HS HRw HKk HBk HB hb c0 c1 c2 c3 c4 c5 hm hs0 hs1 HFT
  have hcs := op_cell h1
  obtain ⟨c0, c1, c2, c3, c4, c5⟩ := hcs
  simp only at c0 c1 c2 c3 c4 c5
  have HBF := Lib.hid hbf
  clear hbf
  obtain ⟨g2, lv2, pv2⟩ := r2
  obtain ⟨p2, cap2, rfl, _, hpl⟩ := own_pl HBF.out.2.2.1 (by omega)
  have hgp := HBF.out.gp
  have hcm := own_cap HBF.out.2.2.1
  have HRM := Lib.hid (remove_any g2 p2 cap2 (A.buf (f : Int)).t _ (A.buf (f : Int)).seed _ lv2 i HW.out HSH.out hil HOC.out (by omega) (by omega) (by omega) w2 HBF.out.1 hpl hgp)
  clear hpl hgo hlo hpo c0 c1 c2 c3 c4 c5 h1
  refine wl_k rfl (fun K hK => ?_); go_simp; refine hK _ ?_; clear hK K
  refine wl_ck rfl (fun K hK => ?_); go_simp; refine ⟨_, _, ⟨rfl, rfl⟩, hK _ _ ⟨_, HRM.out, ?_⟩⟩; clear hK K; rintro e w4 ⟨rfl, hg4, hp4, hK4⟩; refine ⟨_, rfl, ?_⟩; simp only [put_lit, List.set_cons_zero, List.set_cons_succ]
  have hcr := cn_remove (HH (A.buf (f : Int)).seed) hil HOC.out
  have hlr := removeT_length (HH (A.buf (f : Int)).seed) (A.buf (f : Int)).t i
  have hcz : ((cn (A.buf (f : Int)).t : Int) - 1) = (cn (removeT (HH (A.buf (f : Int)).seed) (A.buf (f : Int)).t i) : Int) := by omega
  rw [hcz] at hg4
  have hfin := HS2.out.changed HID.out HR2.out HB2.out hK4 (fun q hq => by simp only [List.mem_cons, List.not_mem_nil, or_false] at hq; rcases hq with e | e; exact Or.inl e; exact Or.inr (Or.inr (by rw [e]; rfl))) (r' := ⟨g2, lv2, .slice (some ⟨p2, 0, none⟩) (removeT (HH (A.buf (f : Int)).seed) (A.buf (f : Int)).t i).length cap2⟩) rfl (Or.inl rfl) (Or.inl rfl)
    (HBF.out.setTab hK4 (fun q hq => by simp only [List.mem_cons, List.not_mem_nil, or_false] at hq; rcases hq with e | e; exact Or.inl e; exact Or.inr (by rw [e]; rfl)) (by rw [hlr]; exact hg4) hp4 hcm (by rw [hlr]; omega))
  clear hg4 hp4 hK4 hcr hlr hcz HRM
  have HFIN := Lib.hid hfin
  clear hfin
  go_wp2_with fail
  go_ret
  exact ⟨congrArg (fun z => Ending.returned (Value.int .i64 z)) HR.out.symm, _, by rw [doA_ok HR.out]; simp only [Sto.does]; rw [if_neg (by decide), if_neg (by decide), if_neg (by decide), if_neg (by decide), if_neg (by decide), if_neg (by decide), if_neg (by decide), if_neg (by decide), if_neg (by decide), if_pos trivial, HFI.out]; exact HFIN.out.1, HRAN.out.trans HFIN.out.2⟩
end Go.Proofs.Ytbhdgeoljlhmcaa
