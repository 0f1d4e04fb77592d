/- What an operation does, by the program: set. -/
import Derived.Test.YtbhdgeoljlhmcaaS28
import Derived.Outline
namespace Go.Proofs.Ytbhdgeoljlhmcaa
open Go.RowKit Go.Proofs.Ytbhdgeoljlhmcaa.Nm Go.Proofs.Ytbhdgeoljlhmcaa.St
set_option linter.unusedSimpArgs false
/-- the blocks of the operation and of its entry are as they were -/
def Two (q : Nat) (oc : Array Value) (p : Nat) (pc : Array Value) (w : World) : Prop := w.heap[q]? = some (.cells oc 39 (0, 0)) ∧ w.heap[p]? = some (.cells pc 91 (0, 0))
set_option maxHeartbeats 4000000 in
set_option maxRecDepth 100000 in
theorem Do_9 (s : Nat) (A : Sto) (rs : List Row) (hA : Good A) (hm : A.bufs.length ≤ 100000) (hs0 : 0 ≤ A.shared) (hs1 : A.shared ≤ 100000) (o : OpV) (hk : o.kind = 9) (hr : refA A o = 0) (w : World) (h : StoreAt w s A rs) :
    Calls Try.prog 19 #[.pointer (some ⟨s, 0, none⟩), .agg o.cells] w fun e w' => DoPost s A rs o w e w' := by
  have hlim : formS o = true → (A.buf o.fr).kd = 2 → o.key.size ≤ 24 ∧ (100 ≤ cn (A.buf o.fr).t → ¬ fnd (A.buf o.fr).seed (A.buf o.fr).t o.key < 0) := fun hf hkd => by
    have h2 := hr
    unfold refA at h2
    simp only [hf, hk, show useG 9 = ⟨true, false, false, true, true, 2⟩ from rfl, hkd] at h2
    simp at h2
    by_cases h5 : 24 < o.key.size
    · rw [if_pos h5] at h2; exact absurd h2 (by decide)
    · rw [if_neg h5] at h2
      exact ⟨by omega, fun h3 h4 => by rw [if_pos ⟨h3, h4⟩] at h2; exact absurd h2 (by decide)⟩
  have HLM := Lib.hid hlim
  clear hlim
  have HS := Lib.hid h
  have HA := Lib.hid hA
  have HR := Lib.hid hr
  have hf : formS o = true := by
    cases hq : formS o with
    | true => rfl
    | false => unfold refA at hr; rw [hq] at hr; simp at hr
  have hfr := form_fr hf
  have HF := Lib.hid hf
  have HFT : Hid (∀ q, Foot s rs q → q < w.heap.size) := Lib.hid (fun q hq => h.lt hq)
  have hsw : s < w.heap.size := HFT.out s (Or.inl rfl)
  clear h hA hf
  go_enter Try.func19, Try.ntmps19
  go_upto_region 1 with (fail)
  have hb0 := (Below.refl w.heap.size w).alloc (Nat.le_refl _) (.cells o.cells 39 (0, 0))
  refine wp_world (fun W => Below w.heap.size w W ∧ W.heap[w.heap.size]? = some (.cells o.cells 39 (0, 0))) ⟨hb0, ha_new rfl⟩ ?_
  clear hb0
  rintro W ⟨hb, h1⟩
  replace HS := Lib.hid (HS.out.below hb)
  apply wp_region_lit
  refine wl_k rfl (fun K hK => ?_); go_simp; refine hK _ ?_; clear hK K
  ((with_reducible apply wl_rowG); exact rfl; exact rfl; exact rowO h1)
  simp only [put_lit, List.set_cons_zero, List.set_cons_succ]
  refine wl_ck rfl (fun K hK => ?_); go_simp; refine ⟨_, _, ⟨rfl, rfl⟩, hK _ _ ⟨_, refused_any s A rs HA.out o _ HS.out, ?_⟩⟩; clear hK K; rintro e w1 ⟨rfl, hb1⟩; refine ⟨_, rfl, ?_⟩; simp only [put_lit, List.set_cons_zero, List.set_cons_succ]
  rw [hr]
  replace h1 := below_look hb1 h1
  replace HS := Lib.hid (HS.out.below (hb1.mono (Nat.le_refl _)))
  replace hb := hb.trans (hb1.mono hb.size)
  clear hb1 hr
  obtain ⟨kind, fr, to, at_, n, key⟩ := o
  simp only at hk
  subst hk
  simp only at hfr
  obtain ⟨f, rfl⟩ : ∃ f : Nat, fr = (f : Int) := ⟨fr.toNat, by omega⟩
  have hf8 : (f : Int) < 8 := by omega
  have hnm := nsOf_get (rs := rs) (id_names HA.out hfr.1 hfr.2)
  rw [Int.toNat_natCast] at hnm
  clear hfr
  have c1 := (op_cell h1).2.1
  have c6 := sc_name HS.out.main hnm
  go_upto_region 4 with (fail)
  refine wp_region_held_drew (S := Kept [] w1) mixed (Kept.drew [] w1) (fun hS => ?_)
  refine ha_k (i := 0) rfl (by kernel_rfl) (by kernel_rfl) (by kernel_rfl) (fun _ _ _ _ h => h) hS rfl (fun K hK => ?_); go_simp; refine hK _ ?_; clear hK K; try simp only [put_lit, List.set_cons_zero, List.set_cons_succ]
  refine ha_k (i := 1) rfl (by kernel_rfl) (by kernel_rfl) (by kernel_rfl) (fun _ _ _ _ h => h) hS rfl (fun K hK => ?_); go_simp; refine hK _ ?_; clear hK K; try simp only [put_lit, List.set_cons_zero, List.set_cons_succ]
  refine ha_val (i := 2) rfl (by kernel_rfl) (by kernel_rfl) (by kernel_rfl) (fun _ _ _ h => h) hS rfl (fun w' hw' => ex_one rfl (one3 (hw'.cell c1 (by simp <;> omega)))) ?_; try simp only [put_lit, List.set_cons_zero, List.set_cons_succ]
  refine ha_k (i := 3) rfl (by kernel_rfl) (by kernel_rfl) (by kernel_rfl) (fun _ _ _ _ h => h) hS rfl (fun K hK => ?_); go_simp; refine hK _ ?_; clear hK K; try simp only [put_lit, List.set_cons_zero, List.set_cons_succ]
  refine ha_k (i := 4) rfl (by kernel_rfl) (by kernel_rfl) (by kernel_rfl) (fun _ _ _ _ h => h) hS rfl (fun K hK => ?_); go_simp; refine hK _ ?_; clear hK K; try simp only [put_lit, List.set_cons_zero, List.set_cons_succ]
  refine ha_k (i := 5) rfl (by kernel_rfl) (by kernel_rfl) (by kernel_rfl) (fun _ _ _ _ h => h) hS rfl (fun K hK => ?_); go_simp; refine hK _ ?_; clear hK K; try simp only [put_lit, List.set_cons_zero, List.set_cons_succ]
  refine ha_val (i := 6) rfl (by kernel_rfl) (by kernel_rfl) (by kernel_rfl) (fun _ _ _ h => h) hS rfl (fun w' hw' => ex_one rfl (one80 (hw'.cell c6 (by simp <;> omega)))) ?_; try simp only [put_lit, List.set_cons_zero, List.set_cons_succ]
  refine ha_k (i := 7) rfl (by kernel_rfl) (by kernel_rfl) (by kernel_rfl) (fun _ _ _ _ h => h) hS rfl (fun K hK => ?_); go_simp; refine hK _ ?_; clear hK K; try simp only [put_lit, List.set_cons_zero, List.set_cons_succ]
  refine wpAnyH_done (by kernel_rfl) ?_ _
  replace HS := Lib.hid (HS.out.below (Below.refl w1.heap.size w1).drew)
  replace hb := hb.drew
  replace h1 : w1.drew.heap[w.heap.size]? = _ := h1
  clear c1 c6 hS
  generalize w1.drew = W at *
  have hcs := op_cell h1
  obtain ⟨c0, c1, c2, c3, c4, c5⟩ := hcs
  simp only at c0 c1 c2 c3 c4 c5
  have hkd : (A.buf (f : Int)).kd = 2 := by
    have := HR.out
    apply Classical.byContradiction
    intro hne
    unfold refA at this
    rw [HF.out] at this
    simp only [Bool.true_eq_false, if_false] at this
    rw [if_pos ⟨by decide, hne⟩] at this
    cases this
  obtain ⟨k, hk⟩ : ∃ k, A.id (f : Int) = some k := by
    cases hq : A.id (f : Int) with
    | none => rw [buf_none hq] at hkd; simp [noBuf] at hkd
    | some k => exact ⟨k, rfl⟩
  rw [hk]
  obtain ⟨r, hr, hbk, hB, hG, hns⟩ := HS.out.row HA.out hk
  simp only [Option.map_some, gAt_eq hr]
  rw [show bp (some r.g) = .pointer (some ⟨r.g, 0, none⟩) from rfl]
  have HRw := Lib.hid hr
  have HKk := Lib.hid hk
  have HBk := Lib.hid hbk
  have HB := Lib.hid hB
  have HG := Lib.hid hG
  have HKD := Lib.hid hkd
  clear hr hk hbk hB hG hns hkd hnm
  have hlm := HLM.out HF.out HKD.out
  simp only at hlm
  obtain ⟨hks, hfn⟩ := hlm
  obtain ⟨hsd0, hsd1, hnl, hwf, hsh, ht4, ht264, hcn⟩ := HG.out.dict HKD.out
  have HW := Lib.hid hwf
  have HSH := Lib.hid hsh
  obtain ⟨g, lv, pv⟩ := r
  simp only
  obtain ⟨p, cap, rfl, _, hpl⟩ := own_pl HB.out.2.2.1 (by omega)
  clear hwf hsh hnl hpl HLM hfn
  go_upto_region 29 with (fail)
  apply wp_region_lit
  refine wl_k rfl (fun K hK => ?_); go_simp; refine hK _ ?_; clear hK K
  ((with_reducible apply wl_oneG); exact rfl; exact rfl; exact one9 c5)
  refine wl_k rfl (fun K hK => ?_); go_simp; refine hK _ ?_; clear hK K
  ((with_reducible apply wl_oneG); exact rfl; exact rfl; exact one3 c4)
  simp only [put_lit, List.set_cons_zero, List.set_cons_succ]
  refine wl_val rfl (ex_build 91 _ rfl (L := [(0, .string key), (1, .int .i64 n)]) rfl (by kernel_rfl : Try.prog.built 91 [(0, .string key), (1, .int .i64 n)] = some (pair key n))) ?_
  simp only [put_lit, List.set_cons_zero, List.set_cons_succ]
  refine wl_new (fun ev w => ex_alloc91 rfl ev w) ?_
  intro W2 pp hb2 hl2 h3
  have hpw := hb2.size
  refine wl_putG pp (pair key n) rfl rfl 91 _ h3 info91 rfl (pair_one _ _) ?_
  rw [put_noneA]
  have hLo := heap_lt h1
  have hbb := below_setRow hb2 (g := pp) hl2 (pair key n)
  replace HS := Lib.hid (HS.out.below hbb)
  replace HB := Lib.hid (HB.out.same (w' := W2.setRow pp (pair key n)) (fun q hq _ => hbb.block q hq))
  replace h1 := below_look hbb h1
  replace h3 := hr_new (cs := pair key n) h3
  replace hb := hb.trans (hbb.mono hb.size)
  have hopp : w.heap.size < pp := by omega
  have hrp : ∀ q, Foot s rs q → q ≠ pp := fun q hq => by have := HFT.out q hq; omega
  generalize W2.setRow pp (pair key n) = W3 at *
  clear c0 c1 c2 c3 c4 c5 hbb hb2 hl2 hpw hLo
  obtain ⟨c0, c1, c2, c3, c4, c5⟩ := op_cell h1
  simp only at c0 c1 c2 c3 c4 c5
  obtain ⟨p', cap', e9, _, hpl⟩ := own_pl HB.out.2.2.1 (by omega)
  have HPL := Lib.hid hpl
  simp only [Value.slice.injEq, Option.some.injEq, Addr.mk.injEq, true_and, and_true] at e9
  obtain ⟨rfl, rfl⟩ := e9
  have HFC := Lib.hid (find_any g p cap (A.buf (f : Int)).t _ (A.buf (f : Int)).seed _ lv key (by omega) (by omega) (by omega) HW.out.gap W3 HB.out.1 hpl)
  clear hpl
  have hcases : (findT (HH (A.buf (f : Int)).seed) (A.buf (f : Int)).t key = none ∧ fnd (A.buf (f : Int)).seed (A.buf (f : Int)).t key = -1) ∨ ∃ i, findT (HH (A.buf (f : Int)).seed) (A.buf (f : Int)).t key = some i ∧ fnd (A.buf (f : Int)).seed (A.buf (f : Int)).t key = (i : Int) := by
    unfold fnd
    cases findT (HH (A.buf (f : Int)).seed) (A.buf (f : Int)).t key with
    | none => exact Or.inl ⟨rfl, rfl⟩
    | some i => exact Or.inr ⟨i, rfl, rfl⟩
  rcases hcases with ⟨hfi, hfn⟩ | ⟨i, hfi, hfn⟩
  · have HFI := Lib.hid hfi
    rw [hfn] at HFC
    clear hfi hfn
    go_upto_region 30 with (fail)
    apply wp_region_lit
    refine wl_k rfl (fun K hK => ?_); go_simp; refine hK _ ?_; clear hK K
    refine wl_k rfl (fun K hK => ?_); go_simp; refine hK _ ?_; clear hK K
    ((with_reducible apply wl_oneG); exact rfl; exact rfl; exact one9 c5)
    refine wl_ck rfl (fun K hK => ?_); go_simp; refine ⟨_, _, ⟨rfl, rfl⟩, hK _ _ ⟨_, HFC.out, ?_⟩⟩; clear hK K; rintro e w3 ⟨rfl, hb1⟩; refine ⟨_, rfl, ?_⟩; simp only [put_lit, List.set_cons_zero, List.set_cons_succ]
    replace HS := Lib.hid (HS.out.below hb1)
    replace h1 := below_look hb1 h1
    replace h3 := below_look hb1 h3
    replace hb := hb.trans (hb1.mono hb.size)
    clear c0 c1 c2 c3 c4 c5 HFC hb1 HB HPL
    refine wl_k rfl (fun K hK => ?_); go_simp; refine hK _ ?_; clear hK K
    go_upto_region 32 with (fail)
    have HHA : Hid (∀ v, ¬ Has (A.buf (f : Int)).t key v) := Lib.hid (fun v ⟨j, hj, hjp⟩ => by have := find_some (HH (A.buf (f : Int)).seed) HW.out hj hjp; rw [HFI.out] at this; cases this)
    have HT2 : Hid (Two w.heap.size _ pp (pair key n) w3.drew) := Lib.hid ⟨h1, h3⟩
    have HSd := Lib.hid (HS.out.below (Below.refl w3.heap.size w3).drew)
    replace hb := hb.drew
    refine wp_region_held_drew (S := Two w.heap.size (OpV.cells ⟨9, f, to, at_, n, key⟩) pp (pair key n)) mixed HT2.out (fun hS => ?_)
    refine ha_k (i := 0) rfl (by kernel_rfl) (by kernel_rfl) (by kernel_rfl) (fun _ _ _ _ h => h) hS rfl (fun K hK => ?_); go_simp; refine hK _ ?_; clear hK K; try simp only [put_lit, List.set_cons_zero, List.set_cons_succ]
    refine ha_k (i := 1) rfl (by kernel_rfl) (by kernel_rfl) (by kernel_rfl) (fun _ _ _ _ h => h) hS rfl (fun K hK => ?_); go_simp; refine hK _ ?_; clear hK K; try simp only [put_lit, List.set_cons_zero, List.set_cons_succ]
    (refine ha_val (i := 2) rfl (by kernel_rfl) (by kernel_rfl) (by kernel_rfl) (fun _ _ _ h => h) hS rfl (fun w' hw' => ex_one rfl (one3 (op_cell hw'.1).2.1)) ?_; try simp only [put_lit, List.set_cons_zero, List.set_cons_succ])
    (refine ha_val (i := 4) rfl (by kernel_rfl) (by kernel_rfl) (by kernel_rfl) (fun _ _ _ h => h) hS rfl (fun w' hw' => ex_row rfl (rowPair hw'.2)) ?_; try simp only [put_lit, List.set_cons_zero, List.set_cons_succ])
    refine ha_call (i := 3) (by kernel_rfl) rfl rfl (fun K hK => ?_); go_simp; refine ⟨_, _, ⟨rfl, rfl⟩, hK _ _ ⟨_, own_at s A rs HA.out (f : Int) (by omega) hf8 k HKk.out hm hs0 hs1 _ HSd.out, ?_⟩⟩; clear hK K; rintro e w4 ⟨rs2, k2, r2, rfl, hs2, hid2, hr2, hb2, hran2⟩
    have hz1 : w3.drew.heap.size = w3.heap.size := rfl
    have hz2 := heap_lt hS.1
    have hz3 := heap_lt hS.2
    have hT4 : Two w.heap.size (OpV.cells ⟨9, f, to, at_, n, key⟩) pp (pair key n) w4 := ⟨(hran2.block _ hz2 (fun hq => by have := HFT.out _ hq; omega)).trans hS.1, (hran2.block _ hz3 (fun hq => by have := HFT.out _ hq; omega)).trans hS.2⟩
    refine ⟨_, rfl, hT4, ?_⟩
    have HRAN := Lib.hid ((Ran.ofBelow hb).trans hran2)
    have HS2 := Lib.hid hs2
    have HID := Lib.hid hid2
    have HR2 := Lib.hid hr2
    have HB2 := Lib.hid hb2
    have HBF := Lib.hid (hs2.rows k2 r2 _ hr2 hb2)
    have hne : ∀ q, Foot s rs2 q → q ≠ w.heap.size ∧ q ≠ pp := fun q hq => by
      rcases hran2.foot q hq with h9 | h9
      · have := HFT.out q h9; omega
      · omega
    obtain ⟨g2, lv2, pv2⟩ := r2
    obtain ⟨p2, cap2, rfl, _, hpl⟩ := own_pl HBF.out.2.2.1 (by omega)
    have hgn := hne g2 (Or.inr ⟨k2, _, hr2, Or.inl rfl⟩)
    have hpn := hne p2 (Or.inr ⟨k2, _, hr2, Or.inr (Or.inr rfl)⟩)
    have hgp := HBF.out.gp
    have hcm := own_cap HBF.out.2.2.1
    have HAD := Lib.hid (add_any g2 p2 cap2 (A.buf (f : Int)).t _ (A.buf (f : Int)).seed lv2 key n HW.out HSH.out (by omega) ht4 (by omega) w4 (Nat.zero_le _) hcm HBF.out.1 hpl hgp)
    clear hs2 hid2 hr2 hb2 hran2 hne hpl hS HT2 HSd h1 h3 HS HRw HKk HBk hb hm hs0 hs1 hz1 hz2 hz3
    try simp only [put_lit, List.set_cons_zero, List.set_cons_succ]
    refine ha_call (i := 5) (by kernel_rfl) rfl rfl (fun K hK => ?_); go_simp; refine ⟨_, _, ⟨rfl, rfl⟩, hK _ _ ⟨_, HAD.out, ?_⟩⟩; clear hK K; rintro e w5 ⟨rfl, p5, cap5, hg5, hp5, hloc5, hcm5, hK5⟩
    refine ⟨_, rfl, ⟨hK5.look hT4.1 (by simp; exact ⟨fun e => hgn.1 e.symm, fun e => hpn.1 e.symm⟩), hK5.look hT4.2 (by simp; exact ⟨fun e => hgn.2 e.symm, fun e => hpn.2 e.symm⟩)⟩, ?_⟩
    try simp only [put_lit, List.set_cons_zero, List.set_cons_succ]
    refine wpAnyH_done (by kernel_rfl) ?_ _
    obtain ⟨_, hac, hal4, _⟩ := add_good (HH (A.buf (f : Int)).seed) HW.out ht4 n HHA.out
    rw [show ((cn (A.buf (f : Int)).t : Int) + 1) = (cn (addT (HH (A.buf (f : Int)).seed) (A.buf (f : Int)).t key n) : Int) by omega] at hg5
    have hfin := HS2.out.changed HID.out HR2.out HB2.out hK5 (fun q hq => by simp only [List.mem_cons, List.not_mem_nil, or_false] at hq; rcases hq with e | e; exact Or.inl e; exact Or.inr (Or.inr (by rw [e]; rfl))) (r' := ⟨g2, lv2, .slice (some ⟨p5, 0, none⟩) (addT (HH (A.buf (f : Int)).seed) (A.buf (f : Int)).t key n).length cap5⟩) rfl (Or.inl rfl)
      (hloc5.elim (fun e => Or.inl (by rw [e]; rfl)) (fun e => Or.inr (fun q hq => by simp [Value.ownBlock] at hq; omega)))
      (HBF.out.setTab hK5 (fun q hq => by simp only [List.mem_cons, List.not_mem_nil, or_false] at hq; rcases hq with e | e; exact Or.inl e; exact Or.inr (by rw [e]; rfl)) hg5 hp5 hcm5 (by omega))
    clear hg5 hp5 hloc5 hcm5 hK5 hac hal4 HAD hT4 hgn hpn hgp hcm
    have HFIN := Lib.hid hfin
    clear hfin
    go_wp2_with fail
    go_ret
    exact ⟨congrArg (fun z => Ending.returned (Value.int .i64 z)) HR.out.symm, _, by rw [doA_ok HR.out]; simp only [Sto.does]; rw [if_neg (by decide), if_neg (by decide), if_neg (by decide), if_neg (by decide), if_neg (by decide), if_neg (by decide), if_neg (by decide), if_neg (by decide), if_pos trivial, HFI.out]; exact HFIN.out.1, HRAN.out.trans HFIN.out.2⟩
  · have HFI := Lib.hid hfi
    rw [hfn] at HFC
    obtain ⟨hil, v0, hpv⟩ := find_of (HH (A.buf (f : Int)).seed) HW.out.gap hfi
    have HPV := Lib.hid hpv
    clear hfi hfn hpv
    go_upto_region 30 with (fail)
    apply wp_region_lit
    refine wl_k rfl (fun K hK => ?_); go_simp; refine hK _ ?_; clear hK K
    refine wl_k rfl (fun K hK => ?_); go_simp; refine hK _ ?_; clear hK K
    ((with_reducible apply wl_oneG); exact rfl; exact rfl; exact one9 c5)
    refine wl_ck rfl (fun K hK => ?_); go_simp; refine ⟨_, _, ⟨rfl, rfl⟩, hK _ _ ⟨_, HFC.out, ?_⟩⟩; clear hK K; rintro e w3 ⟨rfl, hb1⟩; refine ⟨_, rfl, ?_⟩; simp only [put_lit, List.set_cons_zero, List.set_cons_succ]
    replace HS := Lib.hid (HS.out.below hb1)
    replace h1 := below_look hb1 h1
    replace h3 := below_look hb1 h3
    replace HB := Lib.hid (HB.out.same (w' := w3) (fun q hq _ => hb1.block q hq))
    replace HPL := Lib.hid (HPL.out.below hb1)
    replace hb := hb.trans (hb1.mono hb.size)
    clear c0 c1 c2 c3 c4 c5 HFC hb1
    obtain ⟨c0, c1, c2, c3, c4, c5⟩ := op_cell h1
    simp only at c0 c1 c2 c3 c4 c5
    have g4 := (bc_cell HB.out.1).2.2.2.2
    have hvc := (HPL.out.cell hil).2.2
    rw [HPV.out, show ev (some (key, v0)) = v0 from rfl] at hvc
    refine wl_k rfl (fun K hK => ?_); go_simp; refine hK _ ?_; clear hK K
    go_upto_region 33 with (fail)
    refine wp_region_held_drew (S := Kept [] w3) mixed (Kept.drew [] w3) (fun hS => ?_)
    refine ha_k (i := 0) rfl (by kernel_rfl) (by kernel_rfl) (by kernel_rfl) (fun _ _ _ _ h => h) hS rfl (fun K hK => ?_); go_simp; refine hK _ ?_; clear hK K; try simp only [put_lit, List.set_cons_zero, List.set_cons_succ]
    refine ha_k (i := 1) rfl (by kernel_rfl) (by kernel_rfl) (by kernel_rfl) (fun _ _ _ _ h => h) hS rfl (fun K hK => ?_); go_simp; refine hK _ ?_; clear hK K; try simp only [put_lit, List.set_cons_zero, List.set_cons_succ]
    refine ha_k (i := 2) rfl (by kernel_rfl) (by kernel_rfl) (by kernel_rfl) (fun _ _ _ _ h => h) hS rfl (fun K hK => ?_); go_simp; refine hK _ ?_; clear hK K; try simp only [put_lit, List.set_cons_zero, List.set_cons_succ]
    refine ha_val (i := 3) rfl (by kernel_rfl) (by kernel_rfl) (by kernel_rfl) (fun _ _ _ h => h) hS rfl (fun w' hw' => ex_one rfl (one85 (hw'.cell g4 (by simp <;> omega)))) ?_; try simp only [put_lit, List.set_cons_zero, List.set_cons_succ]
    refine ha_k (i := 4) rfl (by kernel_rfl) (by kernel_rfl) (by kernel_rfl) (fun _ _ _ _ h => h) hS rfl (fun K hK => ?_); go_simp; refine hK _ ?_; clear hK K; try simp only [put_lit, List.set_cons_zero, List.set_cons_succ]
    refine ha_k (i := 5) rfl (by kernel_rfl) (by kernel_rfl) (by kernel_rfl) (fun _ _ _ _ h => h) hS rfl (fun K hK => ?_); go_simp; refine hK _ ?_; clear hK K; try simp only [put_lit, List.set_cons_zero, List.set_cons_succ]
    refine ha_k (i := 6) rfl (by kernel_rfl) (by kernel_rfl) (by kernel_rfl) (fun _ _ _ _ h => h) hS rfl (fun K hK => ?_); go_simp; refine hK _ ?_; clear hK K; try simp only [put_lit, List.set_cons_zero, List.set_cons_succ]
    refine ha_k (i := 7) rfl (by kernel_rfl) (by kernel_rfl) (by kernel_rfl) (fun _ _ _ _ h => h) hS rfl (fun K hK => ?_); go_simp; refine hK _ ?_; clear hK K; try simp only [put_lit, List.set_cons_zero, List.set_cons_succ]
    refine ha_val (i := 8) rfl (by kernel_rfl) (by kernel_rfl) (by kernel_rfl) (fun _ _ _ h => h) hS rfl (fun w' hw' => ex_one rfl (one3 (hw'.cell hvc (by simp <;> omega)))) ?_; try simp only [put_lit, List.set_cons_zero, List.set_cons_succ]
    refine ha_k (i := 9) rfl (by kernel_rfl) (by kernel_rfl) (by kernel_rfl) (fun _ _ _ _ h => h) hS rfl (fun K hK => ?_); go_simp; refine hK _ ?_; clear hK K; try simp only [put_lit, List.set_cons_zero, List.set_cons_succ]
    refine ha_val (i := 10) rfl (by kernel_rfl) (by kernel_rfl) (by kernel_rfl) (fun _ _ _ h => h) hS rfl (fun w' hw' => ex_one rfl (one3 (hw'.cell c4 (by simp <;> omega)))) ?_; try simp only [put_lit, List.set_cons_zero, List.set_cons_succ]
    refine ha_k (i := 11) rfl (by kernel_rfl) (by kernel_rfl) (by kernel_rfl) (fun _ _ _ _ h => h) hS rfl (fun K hK => ?_); go_simp; refine hK _ ?_; clear hK K; try simp only [put_lit, List.set_cons_zero, List.set_cons_succ]
    refine wpAnyH_done (by kernel_rfl) ?_ _
    replace HS := Lib.hid (HS.out.below (Below.refl w3.heap.size w3).drew)
    replace hb := hb.drew
    replace h1 : w3.drew.heap[w.heap.size]? = _ := h1
    replace h3 : w3.drew.heap[pp]? = _ := h3
    clear c0 c1 c2 c3 c4 c5 hvc hS g4 HB HPL
    generalize w3.drew = w3 at *
    obtain ⟨c0, c1, c2, c3, c4, c5⟩ := op_cell h1
    simp only at c0 c1 c2 c3 c4 c5
    by_cases hvn : v0 = n
    · have hd : (v0 == n) = true := by simpa using hvn
      have HFIN : Hid (StoreAt w3 s A rs) := HS
      go_wp2_with fail
      go_ret
      refine ⟨congrArg (fun z => Ending.returned (Value.int .i64 z)) HR.out.symm, rs, ?_, Ran.ofBelow hb⟩
      rw [doA_ok HR.out]
      simp only [Sto.does]; rw [if_neg (by decide), if_neg (by decide), if_neg (by decide), if_neg (by decide), if_neg (by decide), if_neg (by decide), if_neg (by decide), if_neg (by decide), if_pos trivial, HFI.out]
      simp only
      rw [if_pos (by rw [HPV.out]; exact hvn)]
      exact HFIN.out
    · have hd : (v0 == n) = false := by simpa using hvn
      have HN := Lib.hid hvn
      clear hvn
      have HT2 : Hid (Two w.heap.size _ pp (pair key n) w3.drew) := Lib.hid ⟨h1, h3⟩
      have HSd := Lib.hid (HS.out.below (Below.refl w3.heap.size w3).drew)
      replace hb := hb.drew
      go_upto_region 34 with (fail)
      refine wp_region_held_drew (S := Two w.heap.size (OpV.cells ⟨9, f, to, at_, n, key⟩) pp (pair key n)) mixed HT2.out (fun hS => ?_)
      refine ha_k (i := 0) rfl (by kernel_rfl) (by kernel_rfl) (by kernel_rfl) (fun _ _ _ _ h => h) hS rfl (fun K hK => ?_); go_simp; refine hK _ ?_; clear hK K; try simp only [put_lit, List.set_cons_zero, List.set_cons_succ]
      refine ha_k (i := 1) rfl (by kernel_rfl) (by kernel_rfl) (by kernel_rfl) (fun _ _ _ _ h => h) hS rfl (fun K hK => ?_); go_simp; refine hK _ ?_; clear hK K; try simp only [put_lit, List.set_cons_zero, List.set_cons_succ]
      (refine ha_val (i := 2) rfl (by kernel_rfl) (by kernel_rfl) (by kernel_rfl) (fun _ _ _ h => h) hS rfl (fun w' hw' => ex_one rfl (one3 (op_cell hw'.1).2.1)) ?_; try simp only [put_lit, List.set_cons_zero, List.set_cons_succ])
      refine ha_k (i := 7) rfl (by kernel_rfl) (by kernel_rfl) (by kernel_rfl) (fun _ _ _ _ h => h) hS rfl (fun K hK => ?_); go_simp; refine hK _ ?_; clear hK K; try simp only [put_lit, List.set_cons_zero, List.set_cons_succ]
      (refine ha_val (i := 8) rfl (by kernel_rfl) (by kernel_rfl) (by kernel_rfl) (fun _ _ _ h => h) hS rfl (fun w' hw' => ex_row rfl (rowPair hw'.2)) ?_; try simp only [put_lit, List.set_cons_zero, List.set_cons_succ])
      refine ha_call (i := 3) (by kernel_rfl) rfl rfl (fun K hK => ?_); go_simp; refine ⟨_, _, ⟨rfl, rfl⟩, hK _ _ ⟨_, own_at s A rs HA.out (f : Int) (by omega) hf8 k HKk.out hm hs0 hs1 _ HSd.out, ?_⟩⟩; clear hK K; rintro e w4 ⟨rs2, k2, r2, rfl, hs2, hid2, hr2, hb2, hran2⟩
      have hz1 : w3.drew.heap.size = w3.heap.size := rfl
      have hz2 := heap_lt hS.1
      have hz3 := heap_lt hS.2
      have hT4 : Two w.heap.size (OpV.cells ⟨9, f, to, at_, n, key⟩) pp (pair key n) w4 := ⟨(hran2.block _ hz2 (fun hq => by have := HFT.out _ hq; omega)).trans hS.1, (hran2.block _ hz3 (fun hq => by have := HFT.out _ hq; omega)).trans hS.2⟩
      refine ⟨_, rfl, hT4, ?_⟩
      have HRAN := Lib.hid ((Ran.ofBelow hb).trans hran2)
      have HS2 := Lib.hid hs2
      have HID := Lib.hid hid2
      have HR2 := Lib.hid hr2
      have HB2 := Lib.hid hb2
      have HBF := Lib.hid (hs2.rows k2 r2 _ hr2 hb2)
      have hne : ∀ q, Foot s rs2 q → q ≠ w.heap.size ∧ q ≠ pp := fun q hq => by
        rcases hran2.foot q hq with h9 | h9
        · have := HFT.out q h9; omega
        · omega
      obtain ⟨g2, lv2, pv2⟩ := r2
      obtain ⟨p2, cap2, rfl, _, hpl⟩ := own_pl HBF.out.2.2.1 (by omega)
      have hpn := hne p2 (Or.inr ⟨k2, _, hr2, Or.inr (Or.inr rfl)⟩)
      have hgp := HBF.out.gp
      have hcm := own_cap HBF.out.2.2.1
      have g4 := (bc_cell HBF.out.1).2.2.2.2
      have HPL := Lib.hid hpl
      clear hs2 hid2 hr2 hb2 hran2 hne hpl hS HT2 HSd h1 h3 HS HRw HKk HBk hb hm hs0 hs1 hz1 hz2 hz3 c0 c1 c2 c3 c4 c5
      try simp only [put_lit, List.set_cons_zero, List.set_cons_succ]
      replace hS := hT4
      refine ha_k (i := 4) rfl (by kernel_rfl) (by kernel_rfl) (by kernel_rfl) (fun _ _ _ _ h => h) hS rfl (fun K hK => ?_); go_simp; refine hK _ ?_; clear hK K; try simp only [put_lit, List.set_cons_zero, List.set_cons_succ]
      refine ha_k (i := 5) rfl (by kernel_rfl) (by kernel_rfl) (by kernel_rfl) (fun _ _ _ _ h => h) hS rfl (fun K hK => ?_); go_simp; refine hK _ ?_; clear hK K; try simp only [put_lit, List.set_cons_zero, List.set_cons_succ]
      refine ha_do (i := 6) (by kernel_rfl) rfl rfl (ex_one rfl (one85 g4)) hS ?_; try simp only [put_lit, List.set_cons_zero, List.set_cons_succ]
      refine ha_k (i := 9) rfl (by kernel_rfl) (by kernel_rfl) (by kernel_rfl) (fun _ _ _ _ h => h) hS rfl (fun K hK => ?_); go_simp; refine hK _ ?_; clear hK K; try simp only [put_lit, List.set_cons_zero, List.set_cons_succ]
      refine ha_k (i := 10) rfl (by kernel_rfl) (by kernel_rfl) (by kernel_rfl) (fun _ _ _ _ h => h) hS rfl (fun K hK => ?_); go_simp; refine hK _ ?_; clear hK K; try simp only [put_lit, List.set_cons_zero, List.set_cons_succ]
      have hthere : w4.there p2 (i * 3 + 1) 2 := fun j hj => by
        have h9 := HPL.out.there hil (j + 1) (by omega)
        rw [show i * 3 + (j + 1) = i * 3 + 1 + j by omega] at h9
        exact h9
      have hsub : ∀ q, q ≠ p2 → (w4.setCells p2 (i * 3 + 1) (pair key n).toList).heap[q]? = w4.heap[q]? := fun q hq =>
        (heap_setCell_other (w4.setCell ⟨p2, i * 3 + 1, none⟩ (.string key)) ⟨p2, i * 3 + 1 + 1, none⟩ q (.int .i64 n) hq).trans (heap_setCell_other w4 ⟨p2, i * 3 + 1, none⟩ q (.string key) hq)
      refine ha_storeM (i := 11) (by kernel_rfl) rfl rfl 91 _ _ rfl p2 (i * 3 + 1) (pair key n) rfl rfl hthere info91 (pair_one _ _) ⟨(hsub _ (fun e => hpn.1 e.symm)).trans hS.1, (hsub _ (fun e => hpn.2 e.symm)).trans hS.2⟩ (fun hS => ?_); try simp only [put_lit, List.set_cons_zero, List.set_cons_succ]
      refine wpAnyH_done (by kernel_rfl) ?_ _
      have hoc : eb (pl (A.buf (f : Int)).t i) = true := by rw [HPV.out]; rfl
      have hps := HPL.out.setPair hil hoc key n
      have hK5 : Kept [p2] w4 (w4.setCells p2 (i * 3 + 1) (pair key n).toList) := Nm.Kept.setCells (by simp) _ _ _ (Nm.Kept.refl [p2] w4)
      have hlen5 : ((A.buf (f : Int)).t.set i (some (key, n))).length = (A.buf (f : Int)).t.length := List.length_set
      have hcn5 : cn ((A.buf (f : Int)).t.set i (some (key, n))) = cn (A.buf (f : Int)).t := by
        have := cn_set hil (some (key, n))
        rw [show occ (A.buf (f : Int)).t i = true from hoc] at this
        simp at this; exact this
      have hfin := HS2.out.changed HID.out HR2.out HB2.out hK5 (fun q hq => by simp only [List.mem_cons, List.not_mem_nil, or_false] at hq; exact Or.inr (Or.inr (by rw [hq]; rfl))) (r' := ⟨g2, lv2, .slice (some ⟨p2, 0, none⟩) ((A.buf (f : Int)).t.set i (some (key, n))).length cap2⟩) rfl (Or.inl rfl) (Or.inl rfl)
        (HBF.out.setTab hK5 (fun q hq => by simp only [List.mem_cons, List.not_mem_nil, or_false] at hq; exact Or.inr (by rw [hq]; rfl)) (by rw [hlen5, hcn5, hsub _ hgp]; exact HBF.out.1) hps hcm (by rw [hlen5]; omega))
      clear hoc hps hK5 hlen5 hcn5 hsub hthere hpn hgp hcm g4 hT4 hS
      have HNV : Hid (¬ ev (pl (A.buf (f : Int)).t i) = n) := Lib.hid (by rw [HPV.out]; exact HN.out)
      have HFIN := Lib.hid hfin
      clear hfin
      go_wp2_with fail
      go_ret
      exact ⟨congrArg (fun z => Ending.returned (Value.int .i64 z)) HR.out.symm, _, by rw [doA_ok HR.out]; simp only [Sto.does]; rw [if_neg (by decide), if_neg (by decide), if_neg (by decide), if_neg (by decide), if_neg (by decide), if_neg (by decide), if_neg (by decide), if_neg (by decide), if_pos trivial, HFI.out]; simp only; rw [if_neg HNV.out]; exact HFIN.out.1, HRAN.out.trans HFIN.out.2⟩
end Go.Proofs.Ytbhdgeoljlhmcaa
