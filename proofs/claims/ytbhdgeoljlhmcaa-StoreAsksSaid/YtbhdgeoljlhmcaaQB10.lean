/- What an operation does, by the program: sort. What an operation does, by the program: delete. What an operation does, by the program: set. What an operation does, by the program: keys. What an operation does, by the program: all kinds; the store stays good. New stores, counters, a name's item, by the program. S33, S34 in one text. What the rows of this seat share: scripts taken out of a row as values. -/
import Derived.Outline
import Derived.Test.YtbhdgeoljlhmcaaQB9
import Derived.ProofKit
import Derived.Lib.SmallJoins
import Derived.Deep.Strs
import Derived.Deep.SlicePairs
import Derived.Carry
import Derived.IntWalk
namespace Go.Proofs.Ytbhdgeoljlhmcaa
open Go.RowKit Go.Proofs.Ytbhdgeoljlhmcaa.Nm Go.Proofs.Ytbhdgeoljlhmcaa.St
set_option linter.unusedSimpArgs false
set_option maxHeartbeats 4000000 in
set_option maxRecDepth 100000 in
theorem Do_7 (s : Nat) (A : Sto) (rs : List Row) (hA : Good A) (hm : A.bufs.length ≤ 100000) (hs0 : 0 ≤ A.shared) (hs1 : A.shared ≤ 100000) (o : OpV) (hk : o.kind = 7) (hr : refA A o = 0) (w : World) (h : StoreAt w s A rs) :
    Calls Try.prog 19 #[.pointer (some ⟨s, 0, none⟩), .agg o.cells] w fun e w' => DoPost s A rs o w e w' := by
  have HS := Lib.hid h
  have HA := Lib.hid hA
  have HR := Lib.hid hr
  have hf : formS o = true := by
    cases hq : formS o with
    | true => rfl
    | false => unfold refA at hr; rw [hq] at hr; simp at hr
  have hfr := form_fr hf
  have HF := Lib.hid hf
  have HFT : Hid (∀ q, Foot s rs q → q < w.heap.size) := Lib.hid (fun q hq => h.lt hq)
  have hsw : s < w.heap.size := HFT.out s (Or.inl rfl)
  clear h hA hf
  go_enter Try.func19, Try.ntmps19
  go_upto_region 1 with (fail)
  have hb0 := (Below.refl w.heap.size w).alloc (Nat.le_refl _) (.cells o.cells 39 (0, 0))
  refine wp_world (fun W => Below w.heap.size w W ∧ W.heap[w.heap.size]? = some (.cells o.cells 39 (0, 0))) ⟨hb0, ha_new rfl⟩ ?_
  clear hb0
  rintro W ⟨hb, h1⟩
  replace HS := Lib.hid (HS.out.below hb)
  apply wp_region_lit
  refine wl_k rfl (fun K hK => ?_); go_simp; refine hK _ ?_; clear hK K
  ((with_reducible apply wl_rowG); exact rfl; exact rfl; exact rowO h1)
  simp only [Zq]
  refine wl_ck rfl (fun K hK => ?_); go_simp; refine ⟨_, _, ⟨rfl, rfl⟩, hK _ _ ⟨_, refused_any s A rs HA.out o _ HS.out, ?_⟩⟩; clear hK K; rintro e w1 ⟨rfl, hb1⟩; refine ⟨_, rfl, ?_⟩; simp only [Zq]
  rw [hr]
  replace h1 := below_look hb1 h1
  replace HS := Lib.hid (HS.out.below (hb1.mono (Nat.le_refl _)))
  replace hb := hb.trans (hb1.mono hb.size)
  clear hb1 hr
  obtain ⟨kind, fr, to, at_, n, key⟩ := o
  simp only at hk
  subst hk
  simp only at hfr
  obtain ⟨f, rfl⟩ : ∃ f : Nat, fr = (f : Int) := ⟨fr.toNat, by omega⟩
  have hf8 : (f : Int) < 8 := by omega
  have hnm := nsOf_get (rs := rs) (id_names HA.out hfr.1 hfr.2)
  rw [Int.toNat_natCast] at hnm
  clear hfr
  have c1 := (op_cell h1).2.1
  have c6 := sc_name HS.out.main hnm
  go_upto_region 4 with (fail)
  refine wp_region_held_drew (S := Kept [] w1) mixed (Kept.drew [] w1) (fun hS => ?_)
  refine hk3 (i := 0) rfl (by kernel_rfl) Zh hS rfl (fun K hK => ?_); go_simp; refine hK _ ?_; clear hK K; try simp only [Zq]
  refine hk3 (i := 1) rfl (by kernel_rfl) Zh hS rfl (fun K hK => ?_); go_simp; refine hK _ ?_; clear hK K; try simp only [Zq]
  refine hv3 (i := 2) rfl (by kernel_rfl) Zg hS rfl (fun w' hw' => ex_one rfl (one3 (hw'.cell c1 (by simp <;> omega)))) ?_; try simp only [Zq]
  refine hk3 (i := 3) rfl (by kernel_rfl) Zh hS rfl (fun K hK => ?_); go_simp; refine hK _ ?_; clear hK K; try simp only [Zq]
  refine hk3 (i := 4) rfl (by kernel_rfl) Zh hS rfl (fun K hK => ?_); go_simp; refine hK _ ?_; clear hK K; try simp only [Zq]
  refine hk3 (i := 5) rfl (by kernel_rfl) Zh hS rfl (fun K hK => ?_); go_simp; refine hK _ ?_; clear hK K; try simp only [Zq]
  refine hv3 (i := 6) rfl (by kernel_rfl) Zg hS rfl (fun w' hw' => ex_one rfl (one80 (hw'.cell c6 (by simp <;> omega)))) ?_; try simp only [Zq]
  refine hk3 (i := 7) rfl (by kernel_rfl) Zh hS rfl (fun K hK => ?_); go_simp; refine hK _ ?_; clear hK K; try simp only [Zq]
  refine wpAnyH_done (by kernel_rfl) ?_ _
  replace HS := Lib.hid (HS.out.below (Below.refl w1.heap.size w1).drew)
  replace hb := hb.drew
  replace h1 : w1.drew.heap[w.heap.size]? = _ := h1
  clear c1 c6 hS
  generalize w1.drew = W at *
  have hcs := op_cell h1
  obtain ⟨c0, c1, c2, c3, c4, c5⟩ := hcs
  simp only at c0 c1 c2 c3 c4 c5
  have hkd : (A.buf (f : Int)).kd = 1 := by
    have := HR.out
    apply Classical.byContradiction
    intro hne
    unfold refA at this
    rw [HF.out] at this
    simp only [Bool.true_eq_false, if_false] at this
    rw [if_pos ⟨by decide, hne⟩] at this
    cases this
  obtain ⟨k, hk⟩ : ∃ k, A.id (f : Int) = some k := by
    cases hq : A.id (f : Int) with
    | none => rw [buf_none hq] at hkd; simp [noBuf] at hkd
    | some k => exact ⟨k, rfl⟩
  rw [hk]
  obtain ⟨r, hr, hbk, hB, hG, hns⟩ := HS.out.row HA.out hk
  simp only [Option.map_some, gAt_eq hr]
  rw [show bp (some r.g) = .pointer (some ⟨r.g, 0, none⟩) from rfl]
  have HRw := Lib.hid hr
  have HKk := Lib.hid hk
  have HBk := Lib.hid hbk
  have HB := Lib.hid hB
  have HG := Lib.hid hG
  have HKD := Lib.hid hkd
  clear hr hk hbk hB hG hns hkd hnm
  have hlen := HG.out.len.1
  have g1 := (bc_cell HB.out.1).2.1
  obtain ⟨q, hq⟩ : ∃ q, q = sortedB (A.buf (f : Int)).l := ⟨_, rfl⟩
  have HIS := Lib.hid (IsSorted_any (A.buf (f : Int)).l r.lv 0 (by omega) W HB.out.2.1)
  rw [← hq] at HIS
  have HQ := Lib.hid hq
  clear hq
  go_upto_region 23 with (fail)
  apply wp_region_lit
  iterate 3 (refine wl_k rfl (fun K hK => ?_); go_simp; refine hK _ ?_; clear hK K)
  ((with_reducible apply wl_oneG); exact rfl; exact rfl; exact one29 g1)
  refine wl_ck rfl (fun K hK => ?_); go_simp; refine ⟨_, _, ⟨rfl, rfl⟩, hK _ _ ⟨_, HIS.out, ?_⟩⟩; clear hK K; rintro e w3 ⟨rfl, hb1⟩; refine ⟨_, rfl, ?_⟩; simp only [Zq]
  replace HS := Lib.hid (HS.out.below hb1)
  replace h1 := below_look hb1 h1
  replace HB := Lib.hid (HB.out.same (w' := w3) (fun q hq _ => hb1.block q hq))
  replace hb := hb.trans (hb1.mono hb.size)
  clear c0 c1 c2 c3 c4 c5 g1 HIS hb1
  obtain ⟨c0, c1, c2, c3, c4, c5⟩ := op_cell h1
  simp only at c0 c1 c2 c3 c4 c5
  cases q with
  | true =>
    have hfin : StoreAt w3 s A rs := HS.out
    have HFIN := Lib.hid hfin
    clear hfin
    go_wp2_with fail
    go_ret
    refine ⟨congrArg (fun z => Ending.returned (Value.int .i64 z)) HR.out.symm, rs, ?_, Ran.ofBelow hb⟩
    rw [doA_ok HR.out]
    simp only [Sto.does]
    rw [if_neg (by decide), if_neg (by decide), if_neg (by decide), if_neg (by decide), if_neg (by decide), if_neg (by decide), if_pos trivial, if_pos HQ.out.symm]
    exact HFIN.out
  | false =>
    go_upto_region 24 with (fail)
    apply wp_region_lit
    iterate 2 (refine wl_k rfl (fun K hK => ?_); go_simp; refine hK _ ?_; clear hK K)
    ((with_reducible apply wl_oneG); exact rfl; exact rfl; exact one3 c1)
    refine wl_ck rfl (fun K hK => ?_); go_simp; refine ⟨_, _, ⟨rfl, rfl⟩, hK _ _ ⟨_, own_at s A rs HA.out (f : Int) (by omega) hf8 k HKk.out hm hs0 hs1 _ HS.out, ?_⟩⟩; clear hK K; rintro e w2 ⟨rs2, k2, r2, rfl, hs2, hid2, hr2, hb2, hran2⟩; refine ⟨_, rfl, ?_⟩; simp only [Zq]
    have hne : ∀ q, Foot s rs2 q → q ≠ w.heap.size := fun q hq e => by
      have hz := heap_lt h1
      rcases hran2.foot q hq with h9 | h9
      · have := HFT.out q h9; omega
      · omega
    replace h1 := (hran2.block w.heap.size (heap_lt h1) (fun hq => by have := HFT.out _ hq; omega)).trans h1
    have HRAN := Lib.hid ((Ran.ofBelow hb).trans hran2)
    have HS2 := Lib.hid hs2
    have HID := Lib.hid hid2
    have HR2 := Lib.hid hr2
    have HB2 := Lib.hid hb2
    have hbf := hs2.rows k2 r2 _ hr2 hb2
    have hgo : r2.g ≠ w.heap.size := hne _ (foot_row hr2)
    have hlo : r2.lv.ownBlock ≠ some w.heap.size := fun e => hne _ (Or.inr ⟨k2, r2, hr2, Or.inr (Or.inl e)⟩) rfl
    have hpo : r2.pv.ownBlock ≠ some w.heap.size := fun e => hne _ (Or.inr ⟨k2, r2, hr2, Or.inr (Or.inr e)⟩) rfl
    clear hs2 hid2 hr2 hb2 hran2 hne HS HRw HKk HBk HB hb c0 c1 c2 c3 c4 c5 hm hs0 hs1 HFT
    have hcs := op_cell h1
    obtain ⟨c0, c1, c2, c3, c4, c5⟩ := hcs
    simp only at c0 c1 c2 c3 c4 c5
    have HBF := Lib.hid hbf
    clear hbf
    refine wl_k rfl (fun K hK => ?_); go_simp; refine hK _ ?_; clear hK K
    have g1 := (bc_cell HBF.out.1).2.1
    obtain ⟨L1, cp1, e1, hcp, hl1⟩ := own_str2 HBF.out.2.1 rfl
    have HST := Lib.hid (Sorted_any _ L1 (A.buf (f : Int)).l.length cp1 (A.buf (f : Int)).l w2 (Nat.le_refl _) (by omega) hcp hl1)
    rw [← e1] at HST
    clear e1 hl1 hcp
    go_upto_region 25 with (fail)
    apply wp_region_lit
    iterate 4 (refine wl_k rfl (fun K hK => ?_); go_simp; refine hK _ ?_; clear hK K)
    ((with_reducible apply wl_oneG); exact rfl; exact rfl; exact one29 g1)
    refine wl_ck rfl (fun K hK => ?_); go_simp; refine ⟨_, _, ⟨rfl, rfl⟩, hK _ _ ⟨_, HST.out, ?_⟩⟩; clear hK K; rintro e w4 ⟨v', rfl, hown, hb1⟩; refine ⟨_, rfl, ?_⟩; simp only [Zq]
    have hsame : ∀ q, q < w2.heap.size → r2.lv.ownBlock ≠ some q → w4.heap[q]? = w2.heap[q]? := fun q hq _ => hb1.block q hq
    have hg := HBF.out.gAt1 hsame
    have hls : (sortL (A.buf (f : Int)).l).length = (A.buf (f : Int)).l.length := sortL_length _
    have hfin := HS2.out.changed HID.out HR2.out HB2.out (D := [r2.g]) (((Nm.Kept.refl [r2.g] w2).below hb1).setCell (p := r2.g) (by simp) 1 v') (fun q hq => Or.inl (by simpa using hq)) (r' := ⟨r2.g, v', r2.pv⟩) rfl (Or.inr (fun q hq => (own_block hown hq).1)) (Or.inl rfl) (HBF.out.setList hsame (l' := sortL (A.buf (f : Int)).l) (by rw [hls]; exact own_weak hown (Nat.zero_le _)))
    have h29 := own_one hown
    have hth : (w4.cell? ⟨r2.g, 1, none⟩).isSome = true := by rw [(bc_cell hg).2.1]; rfl
    have hfr : w4.frozen? ⟨r2.g, 1, none⟩ = false := frozen_of_row _ _ _ _ _ hg
    clear hown hb1 hsame hg hls g1 HST c0 c1 c2 c3 c4 c5 h1 hgo hlo hpo
    iterate 2 (refine wl_k rfl (fun K hK => ?_); go_simp; refine hK _ ?_; clear hK K)
    refine wl_storeC rfl 29 _ _ rfl r2.g 1 v' rfl rfl info29 h29 hth hfr ?_
    rw [put_noneA]
    have HFIN := Lib.hid hfin
    clear hfin
    go_wp2_with fail
    go_ret
    exact ⟨congrArg (fun z => Ending.returned (Value.int .i64 z)) HR.out.symm, _, by rw [doA_ok HR.out]; simp only [Sto.does]; rw [if_neg (by decide), if_neg (by decide), if_neg (by decide), if_neg (by decide), if_neg (by decide), if_neg (by decide), if_pos trivial, if_neg (by rw [← HQ.out]; decide)]; exact HFIN.out.1, HRAN.out.trans HFIN.out.2⟩
theorem PlAt.setPair {w : World} {p cap i : Nat} {t : Tab} (h : PlAt w p cap t) (hi : i < t.length) (ho : eb (pl t i) = true) (k : ByteArray) (v : Int) : PlAt (w.setCells p (i * 3 + 1) (pair k v).toList) p cap (t.set i (some (k, v))) := by
  obtain ⟨cur, h1, h2, h3, h4⟩ := h
  obtain ⟨cur', g1, g2, g3⟩ := heap_setCells_row p 95 (pair k v).toList (i * 3 + 1) w cur h1
  refine ⟨cur', g1, by omega, by simpa using h3, fun j hj => ?_⟩
  simp only [List.length_set] at hj
  have hl : (pair k v).toList.length = 2 := rfl
  rw [pl_set hi hj, g3, g3, g3, hl]
  obtain ⟨a, b, c⟩ := h4 j hj
  by_cases e : j = i
  · subst e
    rw [if_pos rfl, if_neg (by omega), if_pos (by omega), if_pos (by omega)]
    refine ⟨by rw [a, ho]; rfl, ?_, ?_⟩
    · rw [show j * 3 + 1 - (j * 3 + 1) = 0 by omega]; rfl
    · rw [show j * 3 + 2 - (j * 3 + 1) = 1 by omega]; rfl
  · rw [if_neg e, if_neg (by omega), if_neg (by omega), if_neg (by omega)]
    exact ⟨a, b, c⟩
theorem BufAt.setTab {w w' : World} {r : Row} {b : Buf} {D : List Nat} {t' : Tab} {p' cap' : Nat} (h : BufAt w r b) (hK : Kept D w w') (hD : ∀ q ∈ D, q = r.g ∨ r.pv.ownBlock = some q)
    (hg : w'.heap[r.g]? = some (.cells (bcells b.kd r.lv b.seed (cn t' : Int) (.slice (some ⟨p', 0, none⟩) t'.length cap')) 87 (0, 0))) (hp : PlAt w' p' cap' t') (hc : cap' ≤ maxLen) (hn : 1 ≤ t'.length) :
    BufAt w' ⟨r.g, r.lv, .slice (some ⟨p', 0, none⟩) t'.length cap'⟩ { b with t := t' } := by
  obtain ⟨h1, h2, h3, h4⟩ := h
  refine ⟨hg, own_same h2 (fun q hq he => hK.block q hq (fun hm => ?_)), hp.own hc (Nat.zero_le _), fun e => by rw [show t' = [] from e] at hn; simp at hn⟩
  obtain ⟨_, c, hc2⟩ := own_block h2 he
  rcases hD q hm with e | e
  · rw [e, h1] at hc2; simp only [Option.some.injEq, Obj.cells.injEq] at hc2; exact absurd hc2.2.1 (by decide)
  · obtain ⟨_, c', hc3⟩ := own_block h3 e
    rw [hc2] at hc3; simp only [Option.some.injEq, Obj.cells.injEq] at hc3; exact absurd hc3.2.1 (by decide)
theorem BufAt.gp {w : World} {g p n cap : Nat} {lv : Value} {b : Buf} (h : BufAt w ⟨g, lv, .slice (some ⟨p, 0, none⟩) n cap⟩ b) : g ≠ p := fun e => by
  obtain ⟨_, c, hc⟩ := own_block h.2.2.1 (q := p) rfl
  have := h.1
  rw [show (Row.g ⟨g, lv, .slice (some ⟨p, 0, none⟩) n cap⟩) = p from e, hc] at this
  simp only [Option.some.injEq, Obj.cells.injEq] at this; exact absurd this.2.1 (by decide)
theorem GoodB.dict {b : Buf} (h : GoodB b) (hk : b.kd = 2) : 0 ≤ b.seed ∧ b.seed ≤ 2147483647 ∧ b.l = [] ∧ Wf (HH b.seed) b.t ∧ Short b.t ∧ 4 ≤ b.t.length ∧ b.t.length ≤ 264 ∧ cn b.t ≤ 100 := by
  rcases h with ⟨h1, _⟩ | ⟨_, h⟩
  · rw [hk] at h1; exact absurd h1 (by decide)
  · exact h
set_option maxHeartbeats 4000000 in
set_option maxRecDepth 100000 in
theorem Do_10 (s : Nat) (A : Sto) (rs : List Row) (hA : Good A) (hm : A.bufs.length ≤ 100000) (hs0 : 0 ≤ A.shared) (hs1 : A.shared ≤ 100000) (o : OpV) (hk : o.kind = 10) (hr : refA A o = 0) (w : World) (h : StoreAt w s A rs) :
    Calls Try.prog 19 #[.pointer (some ⟨s, 0, none⟩), .agg o.cells] w fun e w' => DoPost s A rs o w e w' := by
  have hlim : formS o = true → (A.buf o.fr).kd = 2 → o.key.size ≤ 24 ∧ ¬ fnd (A.buf o.fr).seed (A.buf o.fr).t o.key < 0 := fun hf hkd => by
    have h2 := hr
    unfold refA at h2
    simp only [hf, hk, show useG 10 = ⟨true, false, false, false, true, 2⟩ from rfl, hkd] at h2
    simp at h2
    omega
  have HLM := Lib.hid hlim
  clear hlim
  have HS := Lib.hid h
  have HA := Lib.hid hA
  have HR := Lib.hid hr
  have hf : formS o = true := by
    cases hq : formS o with
    | true => rfl
    | false => unfold refA at hr; rw [hq] at hr; simp at hr
  have hfr := form_fr hf
  have HF := Lib.hid hf
  have HFT : Hid (∀ q, Foot s rs q → q < w.heap.size) := Lib.hid (fun q hq => h.lt hq)
  have hsw : s < w.heap.size := HFT.out s (Or.inl rfl)
  clear h hA hf
  go_enter Try.func19, Try.ntmps19
  go_upto_region 1 with (fail)
  have hb0 := (Below.refl w.heap.size w).alloc (Nat.le_refl _) (.cells o.cells 39 (0, 0))
  refine wp_world (fun W => Below w.heap.size w W ∧ W.heap[w.heap.size]? = some (.cells o.cells 39 (0, 0))) ⟨hb0, ha_new rfl⟩ ?_
  clear hb0
  rintro W ⟨hb, h1⟩
  replace HS := Lib.hid (HS.out.below hb)
  apply wp_region_lit
  refine wl_k rfl (fun K hK => ?_); go_simp; refine hK _ ?_; clear hK K
  ((with_reducible apply wl_rowG); exact rfl; exact rfl; exact rowO h1)
  simp only [Zq]
  refine wl_ck rfl (fun K hK => ?_); go_simp; refine ⟨_, _, ⟨rfl, rfl⟩, hK _ _ ⟨_, refused_any s A rs HA.out o _ HS.out, ?_⟩⟩; clear hK K; rintro e w1 ⟨rfl, hb1⟩; refine ⟨_, rfl, ?_⟩; simp only [Zq]
  rw [hr]
  replace h1 := below_look hb1 h1
  replace HS := Lib.hid (HS.out.below (hb1.mono (Nat.le_refl _)))
  replace hb := hb.trans (hb1.mono hb.size)
  clear hb1 hr
  obtain ⟨kind, fr, to, at_, n, key⟩ := o
  simp only at hk
  subst hk
  simp only at hfr
  obtain ⟨f, rfl⟩ : ∃ f : Nat, fr = (f : Int) := ⟨fr.toNat, by omega⟩
  have hf8 : (f : Int) < 8 := by omega
  have hnm := nsOf_get (rs := rs) (id_names HA.out hfr.1 hfr.2)
  rw [Int.toNat_natCast] at hnm
  clear hfr
  have c1 := (op_cell h1).2.1
  have c6 := sc_name HS.out.main hnm
  go_upto_region 4 with (fail)
  refine wp_region_held_drew (S := Kept [] w1) mixed (Kept.drew [] w1) (fun hS => ?_)
  refine hk3 (i := 0) rfl (by kernel_rfl) Zh hS rfl (fun K hK => ?_); go_simp; refine hK _ ?_; clear hK K; try simp only [Zq]
  refine hk3 (i := 1) rfl (by kernel_rfl) Zh hS rfl (fun K hK => ?_); go_simp; refine hK _ ?_; clear hK K; try simp only [Zq]
  refine hv3 (i := 2) rfl (by kernel_rfl) Zg hS rfl (fun w' hw' => ex_one rfl (one3 (hw'.cell c1 (by simp <;> omega)))) ?_; try simp only [Zq]
  refine hk3 (i := 3) rfl (by kernel_rfl) Zh hS rfl (fun K hK => ?_); go_simp; refine hK _ ?_; clear hK K; try simp only [Zq]
  refine hk3 (i := 4) rfl (by kernel_rfl) Zh hS rfl (fun K hK => ?_); go_simp; refine hK _ ?_; clear hK K; try simp only [Zq]
  refine hk3 (i := 5) rfl (by kernel_rfl) Zh hS rfl (fun K hK => ?_); go_simp; refine hK _ ?_; clear hK K; try simp only [Zq]
  refine hv3 (i := 6) rfl (by kernel_rfl) Zg hS rfl (fun w' hw' => ex_one rfl (one80 (hw'.cell c6 (by simp <;> omega)))) ?_; try simp only [Zq]
  refine hk3 (i := 7) rfl (by kernel_rfl) Zh hS rfl (fun K hK => ?_); go_simp; refine hK _ ?_; clear hK K; try simp only [Zq]
  refine wpAnyH_done (by kernel_rfl) ?_ _
  replace HS := Lib.hid (HS.out.below (Below.refl w1.heap.size w1).drew)
  replace hb := hb.drew
  replace h1 : w1.drew.heap[w.heap.size]? = _ := h1
  clear c1 c6 hS
  generalize w1.drew = W at *
  have hcs := op_cell h1
  obtain ⟨c0, c1, c2, c3, c4, c5⟩ := hcs
  simp only at c0 c1 c2 c3 c4 c5
  have hkd : (A.buf (f : Int)).kd = 2 := by
    have := HR.out
    apply Classical.byContradiction
    intro hne
    unfold refA at this
    rw [HF.out] at this
    simp only [Bool.true_eq_false, if_false] at this
    rw [if_pos ⟨by decide, hne⟩] at this
    cases this
  obtain ⟨k, hk⟩ : ∃ k, A.id (f : Int) = some k := by
    cases hq : A.id (f : Int) with
    | none => rw [buf_none hq] at hkd; simp [noBuf] at hkd
    | some k => exact ⟨k, rfl⟩
  rw [hk]
  obtain ⟨r, hr, hbk, hB, hG, hns⟩ := HS.out.row HA.out hk
  simp only [Option.map_some, gAt_eq hr]
  rw [show bp (some r.g) = .pointer (some ⟨r.g, 0, none⟩) from rfl]
  have HRw := Lib.hid hr
  have HKk := Lib.hid hk
  have HBk := Lib.hid hbk
  have HB := Lib.hid hB
  have HG := Lib.hid hG
  have HKD := Lib.hid hkd
  clear hr hk hbk hB hG hns hkd hnm
  have hlm := HLM.out HF.out HKD.out
  simp only at hlm
  obtain ⟨hks, hfn⟩ := hlm
  obtain ⟨hsd0, hsd1, hnl, hwf, hsh, ht4, ht264, hcn⟩ := HG.out.dict HKD.out
  obtain ⟨i, hi⟩ : ∃ i, findT (HH (A.buf (f : Int)).seed) (A.buf (f : Int)).t key = some i := by
    unfold fnd at hfn
    cases hq : findT (HH (A.buf (f : Int)).seed) (A.buf (f : Int)).t key with
    | none => rw [hq] at hfn; exact absurd (show (-1 : Int) < 0 by decide) hfn
    | some i => exact ⟨i, rfl⟩
  have hfi : fnd (A.buf (f : Int)).seed (A.buf (f : Int)).t key = (i : Int) := by unfold fnd; rw [hi]
  obtain ⟨hil, v0, hpv⟩ := find_of (HH (A.buf (f : Int)).seed) hwf.gap hi
  have hocc : occ (A.buf (f : Int)).t i = true := by unfold occ; rw [hpv]; rfl
  have HFI := Lib.hid hi
  have HW := Lib.hid hwf
  have HSH := Lib.hid hsh
  have HOC := Lib.hid hocc
  have hc1 : 1 ≤ cn (A.buf (f : Int)).t := by have := cn_remove (HH (A.buf (f : Int)).seed) hil hocc; omega
  obtain ⟨g, lv, pv⟩ := r
  simp only
  obtain ⟨p, cap, rfl, _, hpl⟩ := own_pl HB.out.2.2.1 (by omega)
  have HFC := Lib.hid (find_any g p cap (A.buf (f : Int)).t _ (A.buf (f : Int)).seed _ lv key (by omega) (by omega) (by omega) hwf.gap W HB.out.1 hpl)
  rw [hfi] at HFC
  clear HLM hfn hi hfi hpv hwf hsh hocc hnl hpl
  go_upto_region 36 with (fail)
  apply wp_region_lit
  iterate 2 (refine wl_k rfl (fun K hK => ?_); go_simp; refine hK _ ?_; clear hK K)
  ((with_reducible apply wl_oneG); exact rfl; exact rfl; exact one9 c5)
  refine wl_ck rfl (fun K hK => ?_); go_simp; refine ⟨_, _, ⟨rfl, rfl⟩, hK _ _ ⟨_, HFC.out, ?_⟩⟩; clear hK K; rintro e w3 ⟨rfl, hb1⟩; refine ⟨_, rfl, ?_⟩; simp only [Zq]
  replace HS := Lib.hid (HS.out.below hb1)
  replace h1 := below_look hb1 h1
  replace hb := hb.trans (hb1.mono hb.size)
  clear c0 c1 c2 c3 c4 c5 HFC hb1 HB
  obtain ⟨c0, c1, c2, c3, c4, c5⟩ := op_cell h1
  simp only at c0 c1 c2 c3 c4 c5
  refine wl_k rfl (fun K hK => ?_); go_simp; refine hK _ ?_; clear hK K
  go_upto_region 37 with (fail)
  apply wp_region_lit
  iterate 2 (refine wl_k rfl (fun K hK => ?_); go_simp; refine hK _ ?_; clear hK K)
  ((with_reducible apply wl_oneG); exact rfl; exact rfl; exact one3 c1)
  have HB : Hid True := Lib.hid trivial
  refine wl_ck rfl (fun K hK => ?_); go_simp; refine ⟨_, _, ⟨rfl, rfl⟩, hK _ _ ⟨_, own_at s A rs HA.out (f : Int) (by omega) hf8 k HKk.out hm hs0 hs1 _ HS.out, ?_⟩⟩; clear hK K; rintro e w2 ⟨rs2, k2, r2, rfl, hs2, hid2, hr2, hb2, hran2⟩; refine ⟨_, rfl, ?_⟩; simp only [Zq]
  have hne : ∀ q, Foot s rs2 q → q ≠ w.heap.size := fun q hq e => by
    have hz := heap_lt h1
    rcases hran2.foot q hq with h9 | h9
    · have := HFT.out q h9; omega
    · omega
  replace h1 := (hran2.block w.heap.size (heap_lt h1) (fun hq => by have := HFT.out _ hq; omega)).trans h1
  have HRAN := Lib.hid ((Ran.ofBelow hb).trans hran2)
  have HS2 := Lib.hid hs2
  have HID := Lib.hid hid2
  have HR2 := Lib.hid hr2
  have HB2 := Lib.hid hb2
  have hbf := hs2.rows k2 r2 _ hr2 hb2
  have hgo : r2.g ≠ w.heap.size := hne _ (foot_row hr2)
  have hlo : r2.lv.ownBlock ≠ some w.heap.size := fun e => hne _ (Or.inr ⟨k2, r2, hr2, Or.inr (Or.inl e)⟩) rfl
  have hpo : r2.pv.ownBlock ≠ some w.heap.size := fun e => hne _ (Or.inr ⟨k2, r2, hr2, Or.inr (Or.inr e)⟩) rfl
  clear hs2 hid2 hr2 hb2 hran2 hne HS HRw HKk HBk HB hb c0 c1 c2 c3 c4 c5 hm hs0 hs1 HFT
  have hcs := op_cell h1
  obtain ⟨c0, c1, c2, c3, c4, c5⟩ := hcs
  simp only at c0 c1 c2 c3 c4 c5
  have HBF := Lib.hid hbf
  clear hbf
  obtain ⟨g2, lv2, pv2⟩ := r2
  obtain ⟨p2, cap2, rfl, _, hpl⟩ := own_pl HBF.out.2.2.1 (by omega)
  have hgp := HBF.out.gp
  have hcm := own_cap HBF.out.2.2.1
  have HRM := Lib.hid (remove_any g2 p2 cap2 (A.buf (f : Int)).t _ (A.buf (f : Int)).seed _ lv2 i HW.out HSH.out hil HOC.out (by omega) (by omega) (by omega) w2 HBF.out.1 hpl hgp)
  clear hpl hgo hlo hpo c0 c1 c2 c3 c4 c5 h1
  refine wl_k rfl (fun K hK => ?_); go_simp; refine hK _ ?_; clear hK K
  refine wl_ck rfl (fun K hK => ?_); go_simp; refine ⟨_, _, ⟨rfl, rfl⟩, hK _ _ ⟨_, HRM.out, ?_⟩⟩; clear hK K; rintro e w4 ⟨rfl, hg4, hp4, hK4⟩; refine ⟨_, rfl, ?_⟩; simp only [Zq]
  have hcr := cn_remove (HH (A.buf (f : Int)).seed) hil HOC.out
  have hlr := removeT_length (HH (A.buf (f : Int)).seed) (A.buf (f : Int)).t i
  have hcz : ((cn (A.buf (f : Int)).t : Int) - 1) = (cn (removeT (HH (A.buf (f : Int)).seed) (A.buf (f : Int)).t i) : Int) := by omega
  rw [hcz] at hg4
  have hfin := HS2.out.changed HID.out HR2.out HB2.out hK4 (fun q hq => by simp only [List.mem_cons, List.not_mem_nil, or_false] at hq; rcases hq with e | e; exact Or.inl e; exact Or.inr (Or.inr (by rw [e]; rfl))) (r' := ⟨g2, lv2, .slice (some ⟨p2, 0, none⟩) (removeT (HH (A.buf (f : Int)).seed) (A.buf (f : Int)).t i).length cap2⟩) rfl (Or.inl rfl) (Or.inl rfl)
    (HBF.out.setTab hK4 (fun q hq => by simp only [List.mem_cons, List.not_mem_nil, or_false] at hq; rcases hq with e | e; exact Or.inl e; exact Or.inr (by rw [e]; rfl)) (by rw [hlr]; exact hg4) hp4 hcm (by rw [hlr]; omega))
  clear hg4 hp4 hK4 hcr hlr hcz HRM
  have HFIN := Lib.hid hfin
  clear hfin
  go_wp2_with fail
  go_ret
  exact ⟨congrArg (fun z => Ending.returned (Value.int .i64 z)) HR.out.symm, _, by rw [doA_ok HR.out]; simp only [Sto.does]; rw [if_neg (by decide), if_neg (by decide), if_neg (by decide), if_neg (by decide), if_neg (by decide), if_neg (by decide), if_neg (by decide), if_neg (by decide), if_neg (by decide), if_pos trivial, HFI.out]; exact HFIN.out.1, HRAN.out.trans HFIN.out.2⟩
/-- the blocks of the operation and of its entry are as they were -/
def Two (q : Nat) (oc : Array Value) (p : Nat) (pc : Array Value) (w : World) : Prop := w.heap[q]? = some (.cells oc 39 (0, 0)) ∧ w.heap[p]? = some (.cells pc 91 (0, 0))
set_option maxHeartbeats 4000000 in
set_option maxRecDepth 100000 in
theorem Do_9 (s : Nat) (A : Sto) (rs : List Row) (hA : Good A) (hm : A.bufs.length ≤ 100000) (hs0 : 0 ≤ A.shared) (hs1 : A.shared ≤ 100000) (o : OpV) (hk : o.kind = 9) (hr : refA A o = 0) (w : World) (h : StoreAt w s A rs) :
    Calls Try.prog 19 #[.pointer (some ⟨s, 0, none⟩), .agg o.cells] w fun e w' => DoPost s A rs o w e w' := by
  have hlim : formS o = true → (A.buf o.fr).kd = 2 → o.key.size ≤ 24 ∧ (100 ≤ cn (A.buf o.fr).t → ¬ fnd (A.buf o.fr).seed (A.buf o.fr).t o.key < 0) := fun hf hkd => by
    have h2 := hr
    unfold refA at h2
    simp only [hf, hk, show useG 9 = ⟨true, false, false, true, true, 2⟩ from rfl, hkd] at h2
    simp at h2
    by_cases h5 : 24 < o.key.size
    · rw [if_pos h5] at h2; exact absurd h2 (by decide)
    · rw [if_neg h5] at h2
      exact ⟨by omega, fun h3 h4 => by rw [if_pos ⟨h3, h4⟩] at h2; exact absurd h2 (by decide)⟩
  have HLM := Lib.hid hlim
  clear hlim
  have HS := Lib.hid h
  have HA := Lib.hid hA
  have HR := Lib.hid hr
  have hf : formS o = true := by
    cases hq : formS o with
    | true => rfl
    | false => unfold refA at hr; rw [hq] at hr; simp at hr
  have hfr := form_fr hf
  have HF := Lib.hid hf
  have HFT : Hid (∀ q, Foot s rs q → q < w.heap.size) := Lib.hid (fun q hq => h.lt hq)
  have hsw : s < w.heap.size := HFT.out s (Or.inl rfl)
  clear h hA hf
  go_enter Try.func19, Try.ntmps19
  go_upto_region 1 with (fail)
  have hb0 := (Below.refl w.heap.size w).alloc (Nat.le_refl _) (.cells o.cells 39 (0, 0))
  refine wp_world (fun W => Below w.heap.size w W ∧ W.heap[w.heap.size]? = some (.cells o.cells 39 (0, 0))) ⟨hb0, ha_new rfl⟩ ?_
  clear hb0
  rintro W ⟨hb, h1⟩
  replace HS := Lib.hid (HS.out.below hb)
  apply wp_region_lit
  refine wl_k rfl (fun K hK => ?_); go_simp; refine hK _ ?_; clear hK K
  ((with_reducible apply wl_rowG); exact rfl; exact rfl; exact rowO h1)
  simp only [Zq]
  refine wl_ck rfl (fun K hK => ?_); go_simp; refine ⟨_, _, ⟨rfl, rfl⟩, hK _ _ ⟨_, refused_any s A rs HA.out o _ HS.out, ?_⟩⟩; clear hK K; rintro e w1 ⟨rfl, hb1⟩; refine ⟨_, rfl, ?_⟩; simp only [Zq]
  rw [hr]
  replace h1 := below_look hb1 h1
  replace HS := Lib.hid (HS.out.below (hb1.mono (Nat.le_refl _)))
  replace hb := hb.trans (hb1.mono hb.size)
  clear hb1 hr
  obtain ⟨kind, fr, to, at_, n, key⟩ := o
  simp only at hk
  subst hk
  simp only at hfr
  obtain ⟨f, rfl⟩ : ∃ f : Nat, fr = (f : Int) := ⟨fr.toNat, by omega⟩
  have hf8 : (f : Int) < 8 := by omega
  have hnm := nsOf_get (rs := rs) (id_names HA.out hfr.1 hfr.2)
  rw [Int.toNat_natCast] at hnm
  clear hfr
  have c1 := (op_cell h1).2.1
  have c6 := sc_name HS.out.main hnm
  go_upto_region 4 with (fail)
  refine wp_region_held_drew (S := Kept [] w1) mixed (Kept.drew [] w1) (fun hS => ?_)
  refine hk3 (i := 0) rfl (by kernel_rfl) Zh hS rfl (fun K hK => ?_); go_simp; refine hK _ ?_; clear hK K; try simp only [Zq]
  refine hk3 (i := 1) rfl (by kernel_rfl) Zh hS rfl (fun K hK => ?_); go_simp; refine hK _ ?_; clear hK K; try simp only [Zq]
  refine hv3 (i := 2) rfl (by kernel_rfl) Zg hS rfl (fun w' hw' => ex_one rfl (one3 (hw'.cell c1 (by simp <;> omega)))) ?_; try simp only [Zq]
  refine hk3 (i := 3) rfl (by kernel_rfl) Zh hS rfl (fun K hK => ?_); go_simp; refine hK _ ?_; clear hK K; try simp only [Zq]
  refine hk3 (i := 4) rfl (by kernel_rfl) Zh hS rfl (fun K hK => ?_); go_simp; refine hK _ ?_; clear hK K; try simp only [Zq]
  refine hk3 (i := 5) rfl (by kernel_rfl) Zh hS rfl (fun K hK => ?_); go_simp; refine hK _ ?_; clear hK K; try simp only [Zq]
  refine hv3 (i := 6) rfl (by kernel_rfl) Zg hS rfl (fun w' hw' => ex_one rfl (one80 (hw'.cell c6 (by simp <;> omega)))) ?_; try simp only [Zq]
  refine hk3 (i := 7) rfl (by kernel_rfl) Zh hS rfl (fun K hK => ?_); go_simp; refine hK _ ?_; clear hK K; try simp only [Zq]
  refine wpAnyH_done (by kernel_rfl) ?_ _
  replace HS := Lib.hid (HS.out.below (Below.refl w1.heap.size w1).drew)
  replace hb := hb.drew
  replace h1 : w1.drew.heap[w.heap.size]? = _ := h1
  clear c1 c6 hS
  generalize w1.drew = W at *
  have hcs := op_cell h1
  obtain ⟨c0, c1, c2, c3, c4, c5⟩ := hcs
  simp only at c0 c1 c2 c3 c4 c5
  have hkd : (A.buf (f : Int)).kd = 2 := by
    have := HR.out
    apply Classical.byContradiction
    intro hne
    unfold refA at this
    rw [HF.out] at this
    simp only [Bool.true_eq_false, if_false] at this
    rw [if_pos ⟨by decide, hne⟩] at this
    cases this
  obtain ⟨k, hk⟩ : ∃ k, A.id (f : Int) = some k := by
    cases hq : A.id (f : Int) with
    | none => rw [buf_none hq] at hkd; simp [noBuf] at hkd
    | some k => exact ⟨k, rfl⟩
  rw [hk]
  obtain ⟨r, hr, hbk, hB, hG, hns⟩ := HS.out.row HA.out hk
  simp only [Option.map_some, gAt_eq hr]
  rw [show bp (some r.g) = .pointer (some ⟨r.g, 0, none⟩) from rfl]
  have HRw := Lib.hid hr
  have HKk := Lib.hid hk
  have HBk := Lib.hid hbk
  have HB := Lib.hid hB
  have HG := Lib.hid hG
  have HKD := Lib.hid hkd
  clear hr hk hbk hB hG hns hkd hnm
  have hlm := HLM.out HF.out HKD.out
  simp only at hlm
  obtain ⟨hks, hfn⟩ := hlm
  obtain ⟨hsd0, hsd1, hnl, hwf, hsh, ht4, ht264, hcn⟩ := HG.out.dict HKD.out
  have HW := Lib.hid hwf
  have HSH := Lib.hid hsh
  obtain ⟨g, lv, pv⟩ := r
  simp only
  obtain ⟨p, cap, rfl, _, hpl⟩ := own_pl HB.out.2.2.1 (by omega)
  clear hwf hsh hnl hpl HLM hfn
  go_upto_region 29 with (fail)
  apply wp_region_lit
  refine wl_k rfl (fun K hK => ?_); go_simp; refine hK _ ?_; clear hK K
  ((with_reducible apply wl_oneG); exact rfl; exact rfl; exact one9 c5)
  refine wl_k rfl (fun K hK => ?_); go_simp; refine hK _ ?_; clear hK K
  ((with_reducible apply wl_oneG); exact rfl; exact rfl; exact one3 c4)
  simp only [Zq]
  refine wl_val rfl (ex_build 91 _ rfl (L := [(0, .string key), (1, .int .i64 n)]) rfl (by kernel_rfl : Try.prog.built 91 [(0, .string key), (1, .int .i64 n)] = some (pair key n))) ?_
  simp only [Zq]
  refine wl_new (fun ev w => ex_alloc91 rfl ev w) ?_
  intro W2 pp hb2 hl2 h3
  have hpw := hb2.size
  refine wl_putG pp (pair key n) rfl rfl 91 _ h3 info91 rfl (pair_one _ _) ?_
  rw [put_noneA]
  have hLo := heap_lt h1
  have hbb := below_setRow hb2 (g := pp) hl2 (pair key n)
  replace HS := Lib.hid (HS.out.below hbb)
  replace HB := Lib.hid (HB.out.same (w' := W2.setRow pp (pair key n)) (fun q hq _ => hbb.block q hq))
  replace h1 := below_look hbb h1
  replace h3 := hr_new (cs := pair key n) h3
  replace hb := hb.trans (hbb.mono hb.size)
  have hopp : w.heap.size < pp := by omega
  have hrp : ∀ q, Foot s rs q → q ≠ pp := fun q hq => by have := HFT.out q hq; omega
  generalize W2.setRow pp (pair key n) = W3 at *
  clear c0 c1 c2 c3 c4 c5 hbb hb2 hl2 hpw hLo
  obtain ⟨c0, c1, c2, c3, c4, c5⟩ := op_cell h1
  simp only at c0 c1 c2 c3 c4 c5
  obtain ⟨p', cap', e9, _, hpl⟩ := own_pl HB.out.2.2.1 (by omega)
  have HPL := Lib.hid hpl
  simp only [Value.slice.injEq, Option.some.injEq, Addr.mk.injEq, true_and, and_true] at e9
  obtain ⟨rfl, rfl⟩ := e9
  have HFC := Lib.hid (find_any g p cap (A.buf (f : Int)).t _ (A.buf (f : Int)).seed _ lv key (by omega) (by omega) (by omega) HW.out.gap W3 HB.out.1 hpl)
  clear hpl
  have hcases : (findT (HH (A.buf (f : Int)).seed) (A.buf (f : Int)).t key = none ∧ fnd (A.buf (f : Int)).seed (A.buf (f : Int)).t key = -1) ∨ ∃ i, findT (HH (A.buf (f : Int)).seed) (A.buf (f : Int)).t key = some i ∧ fnd (A.buf (f : Int)).seed (A.buf (f : Int)).t key = (i : Int) := by
    unfold fnd
    cases findT (HH (A.buf (f : Int)).seed) (A.buf (f : Int)).t key with
    | none => exact Or.inl ⟨rfl, rfl⟩
    | some i => exact Or.inr ⟨i, rfl, rfl⟩
  rcases hcases with ⟨hfi, hfn⟩ | ⟨i, hfi, hfn⟩
  · have HFI := Lib.hid hfi
    rw [hfn] at HFC
    clear hfi hfn
    go_upto_region 30 with (fail)
    apply wp_region_lit
    iterate 2 (refine wl_k rfl (fun K hK => ?_); go_simp; refine hK _ ?_; clear hK K)
    ((with_reducible apply wl_oneG); exact rfl; exact rfl; exact one9 c5)
    refine wl_ck rfl (fun K hK => ?_); go_simp; refine ⟨_, _, ⟨rfl, rfl⟩, hK _ _ ⟨_, HFC.out, ?_⟩⟩; clear hK K; rintro e w3 ⟨rfl, hb1⟩; refine ⟨_, rfl, ?_⟩; simp only [Zq]
    replace HS := Lib.hid (HS.out.below hb1)
    replace h1 := below_look hb1 h1
    replace h3 := below_look hb1 h3
    replace hb := hb.trans (hb1.mono hb.size)
    clear c0 c1 c2 c3 c4 c5 HFC hb1 HB HPL
    refine wl_k rfl (fun K hK => ?_); go_simp; refine hK _ ?_; clear hK K
    go_upto_region 32 with (fail)
    have HHA : Hid (∀ v, ¬ Has (A.buf (f : Int)).t key v) := Lib.hid (fun v ⟨j, hj, hjp⟩ => by have := find_some (HH (A.buf (f : Int)).seed) HW.out hj hjp; rw [HFI.out] at this; cases this)
    have HT2 : Hid (Two w.heap.size _ pp (pair key n) w3.drew) := Lib.hid ⟨h1, h3⟩
    have HSd := Lib.hid (HS.out.below (Below.refl w3.heap.size w3).drew)
    replace hb := hb.drew
    refine wp_region_held_drew (S := Two w.heap.size (OpV.cells ⟨9, f, to, at_, n, key⟩) pp (pair key n)) mixed HT2.out (fun hS => ?_)
    refine hk3 (i := 0) rfl (by kernel_rfl) Zh hS rfl (fun K hK => ?_); go_simp; refine hK _ ?_; clear hK K; try simp only [Zq]
    refine hk3 (i := 1) rfl (by kernel_rfl) Zh hS rfl (fun K hK => ?_); go_simp; refine hK _ ?_; clear hK K; try simp only [Zq]
    (refine hv3 (i := 2) rfl (by kernel_rfl) Zg hS rfl (fun w' hw' => ex_one rfl (one3 (op_cell hw'.1).2.1)) ?_; try simp only [Zq])
    (refine hv3 (i := 4) rfl (by kernel_rfl) Zg hS rfl (fun w' hw' => ex_row rfl (rowPair hw'.2)) ?_; try simp only [Zq])
    refine ha_call (i := 3) (by kernel_rfl) rfl rfl (fun K hK => ?_); go_simp; refine ⟨_, _, ⟨rfl, rfl⟩, hK _ _ ⟨_, own_at s A rs HA.out (f : Int) (by omega) hf8 k HKk.out hm hs0 hs1 _ HSd.out, ?_⟩⟩; clear hK K; rintro e w4 ⟨rs2, k2, r2, rfl, hs2, hid2, hr2, hb2, hran2⟩
    have hz1 : w3.drew.heap.size = w3.heap.size := rfl
    have hz2 := heap_lt hS.1
    have hz3 := heap_lt hS.2
    have hT4 : Two w.heap.size (OpV.cells ⟨9, f, to, at_, n, key⟩) pp (pair key n) w4 := ⟨(hran2.block _ hz2 (fun hq => by have := HFT.out _ hq; omega)).trans hS.1, (hran2.block _ hz3 (fun hq => by have := HFT.out _ hq; omega)).trans hS.2⟩
    refine ⟨_, rfl, hT4, ?_⟩
    have HRAN := Lib.hid ((Ran.ofBelow hb).trans hran2)
    have HS2 := Lib.hid hs2
    have HID := Lib.hid hid2
    have HR2 := Lib.hid hr2
    have HB2 := Lib.hid hb2
    have HBF := Lib.hid (hs2.rows k2 r2 _ hr2 hb2)
    have hne : ∀ q, Foot s rs2 q → q ≠ w.heap.size ∧ q ≠ pp := fun q hq => by
      rcases hran2.foot q hq with h9 | h9
      · have := HFT.out q h9; omega
      · omega
    obtain ⟨g2, lv2, pv2⟩ := r2
    obtain ⟨p2, cap2, rfl, _, hpl⟩ := own_pl HBF.out.2.2.1 (by omega)
    have hgn := hne g2 (Or.inr ⟨k2, _, hr2, Or.inl rfl⟩)
    have hpn := hne p2 (Or.inr ⟨k2, _, hr2, Or.inr (Or.inr rfl)⟩)
    have hgp := HBF.out.gp
    have hcm := own_cap HBF.out.2.2.1
    have HAD := Lib.hid (add_any g2 p2 cap2 (A.buf (f : Int)).t _ (A.buf (f : Int)).seed lv2 key n HW.out HSH.out (by omega) ht4 (by omega) w4 (Nat.zero_le _) hcm HBF.out.1 hpl hgp)
    clear hs2 hid2 hr2 hb2 hran2 hne hpl hS HT2 HSd h1 h3 HS HRw HKk HBk hb hm hs0 hs1 hz1 hz2 hz3
    try simp only [Zq]
    refine ha_call (i := 5) (by kernel_rfl) rfl rfl (fun K hK => ?_); go_simp; refine ⟨_, _, ⟨rfl, rfl⟩, hK _ _ ⟨_, HAD.out, ?_⟩⟩; clear hK K; rintro e w5 ⟨rfl, p5, cap5, hg5, hp5, hloc5, hcm5, hK5⟩
    refine ⟨_, rfl, ⟨hK5.look hT4.1 (by simp; exact ⟨fun e => hgn.1 e.symm, fun e => hpn.1 e.symm⟩), hK5.look hT4.2 (by simp; exact ⟨fun e => hgn.2 e.symm, fun e => hpn.2 e.symm⟩)⟩, ?_⟩
    try simp only [Zq]
    refine wpAnyH_done (by kernel_rfl) ?_ _
    obtain ⟨_, hac, hal4, _⟩ := add_good (HH (A.buf (f : Int)).seed) HW.out ht4 n HHA.out
    rw [show ((cn (A.buf (f : Int)).t : Int) + 1) = (cn (addT (HH (A.buf (f : Int)).seed) (A.buf (f : Int)).t key n) : Int) by omega] at hg5
    have hfin := HS2.out.changed HID.out HR2.out HB2.out hK5 (fun q hq => by simp only [List.mem_cons, List.not_mem_nil, or_false] at hq; rcases hq with e | e; exact Or.inl e; exact Or.inr (Or.inr (by rw [e]; rfl))) (r' := ⟨g2, lv2, .slice (some ⟨p5, 0, none⟩) (addT (HH (A.buf (f : Int)).seed) (A.buf (f : Int)).t key n).length cap5⟩) rfl (Or.inl rfl)
      (hloc5.elim (fun e => Or.inl (by rw [e]; rfl)) (fun e => Or.inr (fun q hq => by simp [Value.ownBlock] at hq; omega)))
      (HBF.out.setTab hK5 (fun q hq => by simp only [List.mem_cons, List.not_mem_nil, or_false] at hq; rcases hq with e | e; exact Or.inl e; exact Or.inr (by rw [e]; rfl)) hg5 hp5 hcm5 (by omega))
    clear hg5 hp5 hloc5 hcm5 hK5 hac hal4 HAD hT4 hgn hpn hgp hcm
    have HFIN := Lib.hid hfin
    clear hfin
    go_wp2_with fail
    go_ret
    exact ⟨congrArg (fun z => Ending.returned (Value.int .i64 z)) HR.out.symm, _, by rw [doA_ok HR.out]; simp only [Sto.does]; rw [if_neg (by decide), if_neg (by decide), if_neg (by decide), if_neg (by decide), if_neg (by decide), if_neg (by decide), if_neg (by decide), if_neg (by decide), if_pos trivial, HFI.out]; exact HFIN.out.1, HRAN.out.trans HFIN.out.2⟩
  · have HFI := Lib.hid hfi
    rw [hfn] at HFC
    obtain ⟨hil, v0, hpv⟩ := find_of (HH (A.buf (f : Int)).seed) HW.out.gap hfi
    have HPV := Lib.hid hpv
    clear hfi hfn hpv
    go_upto_region 30 with (fail)
    apply wp_region_lit
    iterate 2 (refine wl_k rfl (fun K hK => ?_); go_simp; refine hK _ ?_; clear hK K)
    ((with_reducible apply wl_oneG); exact rfl; exact rfl; exact one9 c5)
    refine wl_ck rfl (fun K hK => ?_); go_simp; refine ⟨_, _, ⟨rfl, rfl⟩, hK _ _ ⟨_, HFC.out, ?_⟩⟩; clear hK K; rintro e w3 ⟨rfl, hb1⟩; refine ⟨_, rfl, ?_⟩; simp only [Zq]
    replace HS := Lib.hid (HS.out.below hb1)
    replace h1 := below_look hb1 h1
    replace h3 := below_look hb1 h3
    replace HB := Lib.hid (HB.out.same (w' := w3) (fun q hq _ => hb1.block q hq))
    replace HPL := Lib.hid (HPL.out.below hb1)
    replace hb := hb.trans (hb1.mono hb.size)
    clear c0 c1 c2 c3 c4 c5 HFC hb1
    obtain ⟨c0, c1, c2, c3, c4, c5⟩ := op_cell h1
    simp only at c0 c1 c2 c3 c4 c5
    have g4 := (bc_cell HB.out.1).2.2.2.2
    have hvc := (HPL.out.cell hil).2.2
    rw [HPV.out, show ev (some (key, v0)) = v0 from rfl] at hvc
    refine wl_k rfl (fun K hK => ?_); go_simp; refine hK _ ?_; clear hK K
    go_upto_region 33 with (fail)
    refine wp_region_held_drew (S := Kept [] w3) mixed (Kept.drew [] w3) (fun hS => ?_)
    refine hk3 (i := 0) rfl (by kernel_rfl) Zh hS rfl (fun K hK => ?_); go_simp; refine hK _ ?_; clear hK K; try simp only [Zq]
    refine hk3 (i := 1) rfl (by kernel_rfl) Zh hS rfl (fun K hK => ?_); go_simp; refine hK _ ?_; clear hK K; try simp only [Zq]
    refine hk3 (i := 2) rfl (by kernel_rfl) Zh hS rfl (fun K hK => ?_); go_simp; refine hK _ ?_; clear hK K; try simp only [Zq]
    refine hv3 (i := 3) rfl (by kernel_rfl) Zg hS rfl (fun w' hw' => ex_one rfl (one85 (hw'.cell g4 (by simp <;> omega)))) ?_; try simp only [Zq]
    refine hk3 (i := 4) rfl (by kernel_rfl) Zh hS rfl (fun K hK => ?_); go_simp; refine hK _ ?_; clear hK K; try simp only [Zq]
    refine hk3 (i := 5) rfl (by kernel_rfl) Zh hS rfl (fun K hK => ?_); go_simp; refine hK _ ?_; clear hK K; try simp only [Zq]
    refine hk3 (i := 6) rfl (by kernel_rfl) Zh hS rfl (fun K hK => ?_); go_simp; refine hK _ ?_; clear hK K; try simp only [Zq]
    refine hk3 (i := 7) rfl (by kernel_rfl) Zh hS rfl (fun K hK => ?_); go_simp; refine hK _ ?_; clear hK K; try simp only [Zq]
    refine hv3 (i := 8) rfl (by kernel_rfl) Zg hS rfl (fun w' hw' => ex_one rfl (one3 (hw'.cell hvc (by simp <;> omega)))) ?_; try simp only [Zq]
    refine hk3 (i := 9) rfl (by kernel_rfl) Zh hS rfl (fun K hK => ?_); go_simp; refine hK _ ?_; clear hK K; try simp only [Zq]
    refine hv3 (i := 10) rfl (by kernel_rfl) Zg hS rfl (fun w' hw' => ex_one rfl (one3 (hw'.cell c4 (by simp <;> omega)))) ?_; try simp only [Zq]
    refine hk3 (i := 11) rfl (by kernel_rfl) Zh hS rfl (fun K hK => ?_); go_simp; refine hK _ ?_; clear hK K; try simp only [Zq]
    refine wpAnyH_done (by kernel_rfl) ?_ _
    replace HS := Lib.hid (HS.out.below (Below.refl w3.heap.size w3).drew)
    replace hb := hb.drew
    replace h1 : w3.drew.heap[w.heap.size]? = _ := h1
    replace h3 : w3.drew.heap[pp]? = _ := h3
    clear c0 c1 c2 c3 c4 c5 hvc hS g4 HB HPL
    generalize w3.drew = w3 at *
    obtain ⟨c0, c1, c2, c3, c4, c5⟩ := op_cell h1
    simp only at c0 c1 c2 c3 c4 c5
    by_cases hvn : v0 = n
    · have hd : (v0 == n) = true := by simpa using hvn
      have HFIN : Hid (StoreAt w3 s A rs) := HS
      go_wp2_with fail
      go_ret
      refine ⟨congrArg (fun z => Ending.returned (Value.int .i64 z)) HR.out.symm, rs, ?_, Ran.ofBelow hb⟩
      rw [doA_ok HR.out]
      simp only [Sto.does]; rw [if_neg (by decide), if_neg (by decide), if_neg (by decide), if_neg (by decide), if_neg (by decide), if_neg (by decide), if_neg (by decide), if_neg (by decide), if_pos trivial, HFI.out]
      simp only
      rw [if_pos (by rw [HPV.out]; exact hvn)]
      exact HFIN.out
    · have hd : (v0 == n) = false := by simpa using hvn
      have HN := Lib.hid hvn
      clear hvn
      have HT2 : Hid (Two w.heap.size _ pp (pair key n) w3.drew) := Lib.hid ⟨h1, h3⟩
      have HSd := Lib.hid (HS.out.below (Below.refl w3.heap.size w3).drew)
      replace hb := hb.drew
      go_upto_region 34 with (fail)
      refine wp_region_held_drew (S := Two w.heap.size (OpV.cells ⟨9, f, to, at_, n, key⟩) pp (pair key n)) mixed HT2.out (fun hS => ?_)
      refine hk3 (i := 0) rfl (by kernel_rfl) Zh hS rfl (fun K hK => ?_); go_simp; refine hK _ ?_; clear hK K; try simp only [Zq]
      refine hk3 (i := 1) rfl (by kernel_rfl) Zh hS rfl (fun K hK => ?_); go_simp; refine hK _ ?_; clear hK K; try simp only [Zq]
      (refine hv3 (i := 2) rfl (by kernel_rfl) Zg hS rfl (fun w' hw' => ex_one rfl (one3 (op_cell hw'.1).2.1)) ?_; try simp only [Zq])
      refine hk3 (i := 7) rfl (by kernel_rfl) Zh hS rfl (fun K hK => ?_); go_simp; refine hK _ ?_; clear hK K; try simp only [Zq]
      (refine hv3 (i := 8) rfl (by kernel_rfl) Zg hS rfl (fun w' hw' => ex_row rfl (rowPair hw'.2)) ?_; try simp only [Zq])
      refine ha_call (i := 3) (by kernel_rfl) rfl rfl (fun K hK => ?_); go_simp; refine ⟨_, _, ⟨rfl, rfl⟩, hK _ _ ⟨_, own_at s A rs HA.out (f : Int) (by omega) hf8 k HKk.out hm hs0 hs1 _ HSd.out, ?_⟩⟩; clear hK K; rintro e w4 ⟨rs2, k2, r2, rfl, hs2, hid2, hr2, hb2, hran2⟩
      have hz1 : w3.drew.heap.size = w3.heap.size := rfl
      have hz2 := heap_lt hS.1
      have hz3 := heap_lt hS.2
      have hT4 : Two w.heap.size (OpV.cells ⟨9, f, to, at_, n, key⟩) pp (pair key n) w4 := ⟨(hran2.block _ hz2 (fun hq => by have := HFT.out _ hq; omega)).trans hS.1, (hran2.block _ hz3 (fun hq => by have := HFT.out _ hq; omega)).trans hS.2⟩
      refine ⟨_, rfl, hT4, ?_⟩
      have HRAN := Lib.hid ((Ran.ofBelow hb).trans hran2)
      have HS2 := Lib.hid hs2
      have HID := Lib.hid hid2
      have HR2 := Lib.hid hr2
      have HB2 := Lib.hid hb2
      have HBF := Lib.hid (hs2.rows k2 r2 _ hr2 hb2)
      have hne : ∀ q, Foot s rs2 q → q ≠ w.heap.size ∧ q ≠ pp := fun q hq => by
        rcases hran2.foot q hq with h9 | h9
        · have := HFT.out q h9; omega
        · omega
      obtain ⟨g2, lv2, pv2⟩ := r2
      obtain ⟨p2, cap2, rfl, _, hpl⟩ := own_pl HBF.out.2.2.1 (by omega)
      have hpn := hne p2 (Or.inr ⟨k2, _, hr2, Or.inr (Or.inr rfl)⟩)
      have hgp := HBF.out.gp
      have hcm := own_cap HBF.out.2.2.1
      have g4 := (bc_cell HBF.out.1).2.2.2.2
      have HPL := Lib.hid hpl
      clear hs2 hid2 hr2 hb2 hran2 hne hpl hS HT2 HSd h1 h3 HS HRw HKk HBk hb hm hs0 hs1 hz1 hz2 hz3 c0 c1 c2 c3 c4 c5
      try simp only [Zq]
      replace hS := hT4
      refine hk3 (i := 4) rfl (by kernel_rfl) Zh hS rfl (fun K hK => ?_); go_simp; refine hK _ ?_; clear hK K; try simp only [Zq]
      refine hk3 (i := 5) rfl (by kernel_rfl) Zh hS rfl (fun K hK => ?_); go_simp; refine hK _ ?_; clear hK K; try simp only [Zq]
      refine ha_do (i := 6) (by kernel_rfl) rfl rfl (ex_one rfl (one85 g4)) hS ?_; try simp only [Zq]
      refine hk3 (i := 9) rfl (by kernel_rfl) Zh hS rfl (fun K hK => ?_); go_simp; refine hK _ ?_; clear hK K; try simp only [Zq]
      refine hk3 (i := 10) rfl (by kernel_rfl) Zh hS rfl (fun K hK => ?_); go_simp; refine hK _ ?_; clear hK K; try simp only [Zq]
      have hthere : w4.there p2 (i * 3 + 1) 2 := fun j hj => by
        have h9 := HPL.out.there hil (j + 1) (by omega)
        rw [show i * 3 + (j + 1) = i * 3 + 1 + j by omega] at h9
        exact h9
      have hsub : ∀ q, q ≠ p2 → (w4.setCells p2 (i * 3 + 1) (pair key n).toList).heap[q]? = w4.heap[q]? := fun q hq =>
        (heap_setCell_other (w4.setCell ⟨p2, i * 3 + 1, none⟩ (.string key)) ⟨p2, i * 3 + 1 + 1, none⟩ q (.int .i64 n) hq).trans (heap_setCell_other w4 ⟨p2, i * 3 + 1, none⟩ q (.string key) hq)
      refine ha_storeM (i := 11) (by kernel_rfl) rfl rfl 91 _ _ rfl p2 (i * 3 + 1) (pair key n) rfl rfl hthere info91 (pair_one _ _) ⟨(hsub _ (fun e => hpn.1 e.symm)).trans hS.1, (hsub _ (fun e => hpn.2 e.symm)).trans hS.2⟩ (fun hS => ?_); try simp only [Zq]
      refine wpAnyH_done (by kernel_rfl) ?_ _
      have hoc : eb (pl (A.buf (f : Int)).t i) = true := by rw [HPV.out]; rfl
      have hps := HPL.out.setPair hil hoc key n
      have hK5 : Kept [p2] w4 (w4.setCells p2 (i * 3 + 1) (pair key n).toList) := Nm.Kept.setCells (by simp) _ _ _ (Nm.Kept.refl [p2] w4)
      have hlen5 : ((A.buf (f : Int)).t.set i (some (key, n))).length = (A.buf (f : Int)).t.length := List.length_set
      have hcn5 : cn ((A.buf (f : Int)).t.set i (some (key, n))) = cn (A.buf (f : Int)).t := by
        have := cn_set hil (some (key, n))
        rw [show occ (A.buf (f : Int)).t i = true from hoc] at this
        simp at this; exact this
      have hfin := HS2.out.changed HID.out HR2.out HB2.out hK5 (fun q hq => by simp only [List.mem_cons, List.not_mem_nil, or_false] at hq; exact Or.inr (Or.inr (by rw [hq]; rfl))) (r' := ⟨g2, lv2, .slice (some ⟨p2, 0, none⟩) ((A.buf (f : Int)).t.set i (some (key, n))).length cap2⟩) rfl (Or.inl rfl) (Or.inl rfl)
        (HBF.out.setTab hK5 (fun q hq => by simp only [List.mem_cons, List.not_mem_nil, or_false] at hq; exact Or.inr (by rw [hq]; rfl)) (by rw [hlen5, hcn5, hsub _ hgp]; exact HBF.out.1) hps hcm (by rw [hlen5]; omega))
      clear hoc hps hK5 hlen5 hcn5 hsub hthere hpn hgp hcm g4 hT4 hS
      have HNV : Hid (¬ ev (pl (A.buf (f : Int)).t i) = n) := Lib.hid (by rw [HPV.out]; exact HN.out)
      have HFIN := Lib.hid hfin
      clear hfin
      go_wp2_with fail
      go_ret
      exact ⟨congrArg (fun z => Ending.returned (Value.int .i64 z)) HR.out.symm, _, by rw [doA_ok HR.out]; simp only [Sto.does]; rw [if_neg (by decide), if_neg (by decide), if_neg (by decide), if_neg (by decide), if_neg (by decide), if_neg (by decide), if_neg (by decide), if_neg (by decide), if_pos trivial, HFI.out]; simp only; rw [if_neg HNV.out]; exact HFIN.out.1, HRAN.out.trans HFIN.out.2⟩
theorem keys_take (l : List (ByteArray × Int)) {j : Nat} {k : ByteArray} {v : Int} (h : l[j]? = some (k, v)) : (l.take (j + 1)).map (·.1) = (l.take j).map (·.1) ++ [k] := by
  rw [List.take_add_one, h]; simp
set_option maxHeartbeats 4000000 in
set_option maxRecDepth 100000 in
theorem Do_11 (s : Nat) (A : Sto) (rs : List Row) (hA : Good A) (hm : A.bufs.length ≤ 100000) (o : OpV) (hk : o.kind = 11) (hr : refA A o = 0) (w : World) (h : StoreAt w s A rs) :
    Calls Try.prog 19 #[.pointer (some ⟨s, 0, none⟩), .agg o.cells] w fun e w' => DoPost s A rs o w e w' := by
  have HS := Lib.hid h
  have HA := Lib.hid hA
  have HR := Lib.hid hr
  have hf : formS o = true := by
    cases hq : formS o with
    | true => rfl
    | false => unfold refA at hr; rw [hq] at hr; simp at hr
  have hfr := form_fr hf
  have HF := Lib.hid hf
  have HFT : Hid (∀ q, Foot s rs q → q < w.heap.size) := Lib.hid (fun q hq => h.lt hq)
  have hsw : s < w.heap.size := HFT.out s (Or.inl rfl)
  clear h hA hf
  go_enter Try.func19, Try.ntmps19
  go_upto_region 1 with (fail)
  have hb0 := (Below.refl w.heap.size w).alloc (Nat.le_refl _) (.cells o.cells 39 (0, 0))
  refine wp_world (fun W => Below w.heap.size w W ∧ W.heap[w.heap.size]? = some (.cells o.cells 39 (0, 0))) ⟨hb0, ha_new rfl⟩ ?_
  clear hb0
  rintro W ⟨hb, h1⟩
  replace HS := Lib.hid (HS.out.below hb)
  apply wp_region_lit
  refine wl_k rfl (fun K hK => ?_); go_simp; refine hK _ ?_; clear hK K
  ((with_reducible apply wl_rowG); exact rfl; exact rfl; exact rowO h1)
  simp only [Zq]
  refine wl_ck rfl (fun K hK => ?_); go_simp; refine ⟨_, _, ⟨rfl, rfl⟩, hK _ _ ⟨_, refused_any s A rs HA.out o _ HS.out, ?_⟩⟩; clear hK K; rintro e w1 ⟨rfl, hb1⟩; refine ⟨_, rfl, ?_⟩; simp only [Zq]
  rw [hr]
  replace h1 := below_look hb1 h1
  replace HS := Lib.hid (HS.out.below (hb1.mono (Nat.le_refl _)))
  replace hb := hb.trans (hb1.mono hb.size)
  clear hb1 hr
  obtain ⟨kind, fr, to, at_, n, key⟩ := o
  simp only at hk
  subst hk
  simp only at hfr
  obtain ⟨f, rfl⟩ : ∃ f : Nat, fr = (f : Int) := ⟨fr.toNat, by omega⟩
  have hf8 : (f : Int) < 8 := by omega
  have hnm := nsOf_get (rs := rs) (id_names HA.out hfr.1 hfr.2)
  rw [Int.toNat_natCast] at hnm
  clear hfr
  have c1 := (op_cell h1).2.1
  have c6 := sc_name HS.out.main hnm
  go_upto_region 4 with (fail)
  refine wp_region_held_drew (S := Kept [] w1) mixed (Kept.drew [] w1) (fun hS => ?_)
  refine hk3 (i := 0) rfl (by kernel_rfl) Zh hS rfl (fun K hK => ?_); go_simp; refine hK _ ?_; clear hK K; try simp only [Zq]
  refine hk3 (i := 1) rfl (by kernel_rfl) Zh hS rfl (fun K hK => ?_); go_simp; refine hK _ ?_; clear hK K; try simp only [Zq]
  refine hv3 (i := 2) rfl (by kernel_rfl) Zg hS rfl (fun w' hw' => ex_one rfl (one3 (hw'.cell c1 (by simp <;> omega)))) ?_; try simp only [Zq]
  refine hk3 (i := 3) rfl (by kernel_rfl) Zh hS rfl (fun K hK => ?_); go_simp; refine hK _ ?_; clear hK K; try simp only [Zq]
  refine hk3 (i := 4) rfl (by kernel_rfl) Zh hS rfl (fun K hK => ?_); go_simp; refine hK _ ?_; clear hK K; try simp only [Zq]
  refine hk3 (i := 5) rfl (by kernel_rfl) Zh hS rfl (fun K hK => ?_); go_simp; refine hK _ ?_; clear hK K; try simp only [Zq]
  refine hv3 (i := 6) rfl (by kernel_rfl) Zg hS rfl (fun w' hw' => ex_one rfl (one80 (hw'.cell c6 (by simp <;> omega)))) ?_; try simp only [Zq]
  refine hk3 (i := 7) rfl (by kernel_rfl) Zh hS rfl (fun K hK => ?_); go_simp; refine hK _ ?_; clear hK K; try simp only [Zq]
  refine wpAnyH_done (by kernel_rfl) ?_ _
  replace HS := Lib.hid (HS.out.below (Below.refl w1.heap.size w1).drew)
  replace hb := hb.drew
  replace h1 : w1.drew.heap[w.heap.size]? = _ := h1
  clear c1 c6 hS
  generalize w1.drew = W at *
  have hcs := op_cell h1
  obtain ⟨c0, c1, c2, c3, c4, c5⟩ := hcs
  simp only at c0 c1 c2 c3 c4 c5
  have hkd : (A.buf (f : Int)).kd = 2 := by
    have := HR.out
    apply Classical.byContradiction
    intro hne
    unfold refA at this
    rw [HF.out] at this
    simp only [Bool.true_eq_false, if_false] at this
    rw [if_pos ⟨by decide, hne⟩] at this
    cases this
  obtain ⟨k, hk⟩ : ∃ k, A.id (f : Int) = some k := by
    cases hq : A.id (f : Int) with
    | none => rw [buf_none hq] at hkd; simp [noBuf] at hkd
    | some k => exact ⟨k, rfl⟩
  rw [hk]
  obtain ⟨r, hr, hbk, hB, hG, hns⟩ := HS.out.row HA.out hk
  simp only [Option.map_some, gAt_eq hr]
  rw [show bp (some r.g) = .pointer (some ⟨r.g, 0, none⟩) from rfl]
  have HRw := Lib.hid hr
  have HKk := Lib.hid hk
  have HBk := Lib.hid hbk
  have HB := Lib.hid hB
  have HG := Lib.hid hG
  have HKD := Lib.hid hkd
  clear hr hk hbk hB hG hns hkd hnm
  have hto := form_to HF.out
  simp only at hto
  have hlen := HG.out.len.2
  obtain ⟨P, hP⟩ : ∃ P, P = pairsT (A.buf (f : Int)).t := ⟨_, rfl⟩
  have hPl : P.length ≤ 264 := by rw [hP]; exact Nat.le_trans (pairsT_le _) hlen
  obtain ⟨A2, cp2, e2, hvt⟩ := own_vt HB.out.2.2.1 HB.out.2.2.2
  have hg0 := HB.out.1
  rw [e2] at hg0
  have HG0 := Lib.hid hg0
  have HVT := Lib.hid hvt
  have HP := Lib.hid hP
  clear hg0 hvt e2 hP HB HBk HRw HKk
  have hoW := heap_lt h1
  go_upto_region 39 with (fail)
  apply wp_region_lit
  refine wl_val rfl (ex_build 87 _ rfl (L := [(0, .int .i64 1)]) rfl built87_1) ?_
  simp only [Zq]
  refine wl_w rfl (ex_box87 _ rfl rfl) ?_
  simp only [Zq]
  have hbn := (Below.refl W.heap.size W).alloc (Nat.le_refl _) (.cells (bcells 1 (.slice none 0 0) 0 0 (.slice none 0 0)) 87)
  have hgc : (W.alloc (.cells (bcells 1 (.slice none 0 0) 0 0 (.slice none 0 0)) 87)).heap[W.heap.size]? = _ := ha_new rfl
  replace h1 := below_look hbn h1
  replace HG0 := Lib.hid (below_look hbn HG0.out)
  replace HVT := Lib.hid (HVT.out.below hbn)
  have hgz := heap_lt hgc
  generalize W.alloc (.cells (bcells 1 (.slice none 0 0) 0 0 (.slice none 0 0)) 87) = W2 at *
  clear c0 c1 c2 c3 c4 c5
  refine wl_k rfl (fun K hK => ?_); go_simp; refine hK _ ?_; clear hK K
  go_upto_region 40 with (fail)
  apply wp_region_lit
  refine wl_k rfl (fun K hK => ?_); go_simp; refine hK _ ?_; clear hK K
  refine wl_ck rfl (fun K hK => ?_); go_simp; refine ⟨_, _, ⟨rfl, rfl⟩, hK _ _ ⟨_, pairs_any r.g A2 cp2 (A.buf (f : Int)).t _ _ _ _ (by omega) W2 HG0.out HVT.out, ?_⟩⟩; clear hK K; rintro e w3 ⟨sv, rfl, ho, hb1⟩; refine ⟨_, rfl, ?_⟩; simp only [Zq]
  rw [← HP.out] at ho
  obtain ⟨sA, sc, rfl⟩ := own_shape ho
  replace h1 := below_look hb1 h1
  replace hgc := below_look hb1 hgc
  have hbW : Below W.heap.size W w3 := hbn.trans (hb1.mono (by omega))
  have HO := Lib.hid (own_weak ho (show W.heap.size + 1 ≤ W2.heap.size by omega))
  clear hb1 ho HG0 HVT hbn
  go_wp2_with fail
  have hpre : Hid (w3.ownsRow W.heap.size 9 1 (.slice none 0 0) 0 (strs ((P.take 0).map (·.1)))) := Lib.hid (own_nil _ _ _ _)
  go_loopw [224] (fun i wr => ∃ (j : Nat) (lv : Value), j ≤ P.length ∧ i = .int .i64 (j : Int) ∧ wr.heap[w.heap.size]? = some (.cells (OpV.cells ⟨11, f, to, at_, n, key⟩) 39 (0, 0)) ∧ wr.heap[W.heap.size]? = some (.cells (bcells 1 lv 0 0 (.slice none 0 0)) 87 (0, 0)) ∧
    Hid (wr.ownsRow W.heap.size 9 1 lv j (strs ((P.take j).map (·.1)))) ∧ Hid (wr.ownsRow (W.heap.size + 1) 91 2 (.slice sA P.length sc) P.length (prow P)) ∧ Below W.heap.size W wr) (fun i _ => P.length - (intOf i).toNat)
  case atStart => exact ⟨0, .slice none 0 0, by omega, rfl, h1, hgc, hpre, HO, hbW⟩
  case round =>
    clear h1 hgc HO hbW hpre
    obtain ⟨j, lv, hj, rfl, h1, hgc, HL, HO, hbW⟩ := hrel
    by_cases hlt : j < P.length
    · obtain ⟨⟨k', v'⟩, hkv⟩ : ∃ e, P[j]? = some e := ⟨_, List.getElem?_eq_getElem hlt⟩
      obtain ⟨q, cq, hsl, hBq, hrow⟩ := own_pairs HO.out hkv
      simp only [Value.slice.injEq] at hsl
      obtain ⟨rfl, -, rfl⟩ := hsl
      have HR3 := Lib.hid hrow
      have HKT := Lib.hid (keys_take P hkv)
      clear hrow hkv
      have hz1 := heap_lt h1
      have hz2 := heap_lt hgc
      have hz3 := hbW.size
      go_upto_region 42 with (fail)
      apply wp_region_lit
      refine wl_k rfl (fun K hK => ?_); go_simp; refine hK _ ?_; clear hK K
      ((with_reducible apply wl_rowG); exact rfl; exact rfl; exact HR3.out)
      simp only [Zq]
      refine wl_new (fun ev w => ex_alloc91 rfl ev w) ?_
      intro W5 p5 hb5 hl5 h5
      refine wl_putG p5 (pair k' v') rfl rfl 91 _ h5 info91 rfl (pair_one _ _) ?_
      rw [put_noneA]
      have hbb := below_setRow hb5 (g := p5) hl5 (pair k' v')
      replace h1 := below_look hbb h1
      replace hgc := below_look hbb hgc
      replace HO := Lib.hid (own_below HO.out hbb)
      replace HL := Lib.hid (own_below HL.out hbb)
      replace hbW := hbW.trans (hbb.mono hbW.size)
      have h5' := hr_new (cs := pair k' v') h5
      clear hb5 h5 hbb HR3
      generalize W5.setRow p5 (pair k' v') = w6 at *
      obtain ⟨D, hD⟩ : ∃ D, D = W.heap.size :: lv.ownBlock.toList := ⟨_, rfl⟩
      have hgD : W.heap.size ∈ D := by rw [hD]; simp
      have hlD : ∀ p, lv.ownBlock = some p → p ∈ D := fun p hp => by rw [hD, hp]; simp
      have hDf : ∀ q ∈ D, q = W.heap.size ∨ lv.ownBlock = some q := fun q hq => by
        rw [hD] at hq
        rcases List.mem_cons.1 hq with e | e
        · exact Or.inl e
        · exact Or.inr (by simpa [Option.mem_toList] using e)
      have hWz := hb.size
      have hoD : w.heap.size ∉ D := fun hm => by
        rcases hDf _ hm with e | e
        · omega
        · have := (own_block HL.out e).1; omega
      have hpD : p5 ∉ D := fun hm => by
        rcases hDf _ hm with e | e
        · omega
        · obtain ⟨_, c, hc⟩ := own_block HL.out e
          rw [h5'] at hc; simp only [Option.some.injEq, Obj.cells.injEq] at hc; exact absurd hc.2.1 (by decide)
      have hlg : lv.ownBlock ≠ some W.heap.size := fun e => by
        obtain ⟨_, c, hc⟩ := own_block HL.out e
        rw [hgc] at hc; simp only [Option.some.injEq, Obj.cells.injEq] at hc; exact absurd hc.2.1 (by decide)
      have hgc6 : w6.drew.heap[W.heap.size]? = _ := hgc
      have hz6 := heap_lt hgc6
      have g1 := (bc_cell hgc6).2.1
      have k5 : w6.cell? ⟨p5, 0, none⟩ = some (.string k') := by rw [cell_of_row _ _ _ _ _ _ h5']; rfl
      go_upto_region 43 with (fail)
      refine wp_region_held_drew (S := Kept D w6) mixed (Kept.drew D w6) (fun hS => ?_)
      refine hk3 (i := 0) rfl (by kernel_rfl) Zh hS rfl (fun K hK => ?_); go_simp; refine hK _ ?_; clear hK K; try simp only [Zq]
      refine hk3 (i := 1) rfl (by kernel_rfl) Zh hS rfl (fun K hK => ?_); go_simp; refine hK _ ?_; clear hK K; try simp only [Zq]
      refine hk3 (i := 2) rfl (by kernel_rfl) Zh hS rfl (fun K hK => ?_); go_simp; refine hK _ ?_; clear hK K; try simp only [Zq]
      refine hk3 (i := 3) rfl (by kernel_rfl) Zh hS rfl (fun K hK => ?_); go_simp; refine hK _ ?_; clear hK K; try simp only [Zq]
      refine hk3 (i := 5) rfl (by kernel_rfl) Zh hS rfl (fun K hK => ?_); go_simp; refine hK _ ?_; clear hK K; try simp only [Zq]
      (refine hv3 (i := 6) rfl (by kernel_rfl) Zg hS rfl (fun w' hw' => ex_one rfl (one9 (hw'.cell k5 hpD))) ?_; try simp only [Zq])
      clear k5 hpD
      obtain ⟨v9, w9, hr, hown, hgr, -⟩ := run_push29 k' 29 (w := w6.drew) (B := W.heap.size) (own_below HL.out (Below.refl _ w6).drew) hbW.size (show j ≤ 1000000 by omega)
      have hal := (Below.refl w6.drew.heap.size w6.drew).alloc (Nat.le_refl _) (.cells #[.string k'] 9)
      have hSa := hS.below hal
      refine ha_two (i := 4) (j := 7) (by kernel_rfl) ?_ ?_
      · refine sh_val (i := 4) rfl rfl (ex_one rfl (one29 g1)) hS ?_; try simp only [Zq]
        refine ha_do (i := 7) (by kernel_rfl) rfl rfl (ex_bs29_1 _ rfl rfl) hSa ?_; try simp only [Zq]
        refine ha_do (i := 8) (by kernel_rfl) rfl rfl (ex_app29 _ _ rfl rfl rfl hr) (hSa.grownO hgr hlD) ?_; try simp only [Zq]
        replace hS := hSa.grownO hgr hlD
        have hg5 := (hgr.block (W.heap.size) (by have := hal.size; omega) (fun e => hlg e.symm)).trans ((hal.block (W.heap.size) hz6).trans hgc6)
        refine hk3 (i := 9) rfl (by kernel_rfl) Zh hS rfl (fun K hK => ?_); go_simp; refine hK _ ?_; clear hK K; try simp only [Zq]
        refine hk3 (i := 10) rfl (by kernel_rfl) Zh hS rfl (fun K hK => ?_); go_simp; refine hK _ ?_; clear hK K; try simp only [Zq]
        refine ha_storeC (i := 11) (by kernel_rfl) rfl rfl 29 _ _ rfl (W.heap.size) 1 v9 rfl rfl info29 (own_one hown) (by rw [(bc_cell hg5).2.1]; rfl) (frozen_of_row _ _ _ _ _ hg5) (hS.setCell hgD 1 v9) (fun hS => ?_); try simp only [Zq]
        refine wpAnyH_done (by kernel_rfl) ?_ _
        have hgN : (w9.setCell ⟨W.heap.size, 1, none⟩ v9).heap[W.heap.size]? = some (.cells (bcells 1 v9 0 0 (.slice none 0 0)) 87 (0, 0)) := (hs_new hg5).trans (by rw [bcells_set1])
        have hoN : (w9.setCell ⟨W.heap.size, 1, none⟩ v9).ownsRow W.heap.size 9 1 v9 (j + 1) (strs ((P.take (j + 1)).map (·.1))) := by
          rw [HKT.out]
          refine own_same hown (fun q hq he => heap_setCell_other _ _ _ _ (fun e => ?_))
          have e' : q = W.heap.size := e
          obtain ⟨_, c, hc⟩ := own_block hown he
          rw [e', hg5] at hc; simp only [Option.some.injEq, Obj.cells.injEq] at hc; exact absurd hc.2.1 (by decide)
        have h1N := hS.look h1 hoD
        have hOP := own_same HO.out (w' := w9.setCell ⟨W.heap.size, 1, none⟩ v9) (fun q hq he => hS.block q hq (fun hm => by
          obtain ⟨h8, c, hc⟩ := own_block HO.out he
          rcases hDf q hm with e | e
          · omega
          · obtain ⟨_, c', hc'⟩ := own_block HL.out e
            rw [hc] at hc'; simp only [Option.some.injEq, Obj.cells.injEq] at hc'; exact absurd hc'.2.1 (by decide)))
        have hbN := hbW.trans (hS.toBelow (B := W.heap.size) hbW.size (fun q hq => by
          rcases hDf q hq with e | e
          · omega
          · exact (own_block HL.out e).1))
        have HLN := Lib.hid hoN
        have HON := Lib.hid hOP
        clear hoN hOP hg5 hown hgr hr hal hSa hS hgc6 hz6 HO HL hbW hgc h1 hD hgD hlD hDf hlg g1 h5'
        go_wp2_with fail
        go_roundw
        case rel => exact ⟨j + 1, v9, by omega, by go_num, h1N, hgN, HLN, HON, hbN⟩
        case measure => simp [intOf]; omega
      · refine sh_w (i := 7) rfl rfl (ex_bs29_1 _ rfl rfl) hSa ?_; try simp only [Zq]
        refine ha_do (i := 4) (by kernel_rfl) rfl rfl (ex_one rfl (one29 (below_cell hal g1))) hSa ?_; try simp only [Zq]
        refine ha_do (i := 8) (by kernel_rfl) rfl rfl (ex_app29 _ _ rfl rfl rfl hr) (hSa.grownO hgr hlD) ?_; try simp only [Zq]
        replace hS := hSa.grownO hgr hlD
        have hg5 := (hgr.block (W.heap.size) (by have := hal.size; omega) (fun e => hlg e.symm)).trans ((hal.block (W.heap.size) hz6).trans hgc6)
        refine hk3 (i := 9) rfl (by kernel_rfl) Zh hS rfl (fun K hK => ?_); go_simp; refine hK _ ?_; clear hK K; try simp only [Zq]
        refine hk3 (i := 10) rfl (by kernel_rfl) Zh hS rfl (fun K hK => ?_); go_simp; refine hK _ ?_; clear hK K; try simp only [Zq]
        refine ha_storeC (i := 11) (by kernel_rfl) rfl rfl 29 _ _ rfl (W.heap.size) 1 v9 rfl rfl info29 (own_one hown) (by rw [(bc_cell hg5).2.1]; rfl) (frozen_of_row _ _ _ _ _ hg5) (hS.setCell hgD 1 v9) (fun hS => ?_); try simp only [Zq]
        refine wpAnyH_done (by kernel_rfl) ?_ _
        have hgN : (w9.setCell ⟨W.heap.size, 1, none⟩ v9).heap[W.heap.size]? = some (.cells (bcells 1 v9 0 0 (.slice none 0 0)) 87 (0, 0)) := (hs_new hg5).trans (by rw [bcells_set1])
        have hoN : (w9.setCell ⟨W.heap.size, 1, none⟩ v9).ownsRow W.heap.size 9 1 v9 (j + 1) (strs ((P.take (j + 1)).map (·.1))) := by
          rw [HKT.out]
          refine own_same hown (fun q hq he => heap_setCell_other _ _ _ _ (fun e => ?_))
          have e' : q = W.heap.size := e
          obtain ⟨_, c, hc⟩ := own_block hown he
          rw [e', hg5] at hc; simp only [Option.some.injEq, Obj.cells.injEq] at hc; exact absurd hc.2.1 (by decide)
        have h1N := hS.look h1 hoD
        have hOP := own_same HO.out (w' := w9.setCell ⟨W.heap.size, 1, none⟩ v9) (fun q hq he => hS.block q hq (fun hm => by
          obtain ⟨h8, c, hc⟩ := own_block HO.out he
          rcases hDf q hm with e | e
          · omega
          · obtain ⟨_, c', hc'⟩ := own_block HL.out e
            rw [hc] at hc'; simp only [Option.some.injEq, Obj.cells.injEq] at hc'; exact absurd hc'.2.1 (by decide)))
        have hbN := hbW.trans (hS.toBelow (B := W.heap.size) hbW.size (fun q hq => by
          rcases hDf q hq with e | e
          · omega
          · exact (own_block HL.out e).1))
        have HLN := Lib.hid hoN
        have HON := Lib.hid hOP
        clear hoN hOP hg5 hown hgr hr hal hSa hS hgc6 hz6 HO HL hbW hgc h1 hD hgD hlD hDf hlg g1 h5'
        go_wp2_with fail
        go_roundw
        case rel => exact ⟨j + 1, v9, by omega, by go_num, h1N, hgN, HLN, HON, hbN⟩
        case measure => simp [intOf]; omega
    · obtain rfl : j = P.length := by omega
      rw [List.take_length] at HL
      have hBt := bufAt_nil (w := wr) (g := W.heap.size) (lv := lv) (l := P.map (·.1)) (kd := 1) (seed := 0) hgc (by rw [List.length_map]; exact own_weak HL.out (Nat.zero_le _))
      have HC := Lib.hid (made_at s A rs HA.out to hto.1 hto.2 hm W wr HS.out hbW _ _ hBt (by simp only; omega) (fun q hq => (own_block HL.out hq).1) (by simp [Value.ownBlock]))
      have c2 := (op_cell h1).2.2.1
      simp only at c2
      clear hBt HL HO hgc h1
      go_upto_region 45 with (fail)
      apply wp_region_lit
      iterate 2 (refine wl_k rfl (fun K hK => ?_); go_simp; refine hK _ ?_; clear hK K)
      ((with_reducible apply wl_oneG); exact rfl; exact rfl; exact one3 c2)
      refine wl_k rfl (fun K hK => ?_); go_simp; refine hK _ ?_; clear hK K
      refine wl_ck rfl (fun K hK => ?_); go_simp; refine ⟨_, _, ⟨rfl, rfl⟩, hK _ _ ⟨_, HC.out, ?_⟩⟩; clear hK K; rintro e w8 ⟨rfl, hfin, -⟩; refine ⟨_, rfl, ?_⟩; simp only [Zq]
      clear HC c2
      rw [HP.out] at hfin
      have HFIN := Lib.hid hfin
      clear hfin
      go_wp2_with fail
      go_ret
      exact ⟨congrArg (fun z => Ending.returned (Value.int .i64 z)) HR.out.symm, _, by rw [doA_ok HR.out]; exact HFIN.out.1, (Ran.ofBelow hb).trans HFIN.out.2⟩
theorem ref_form {A : Sto} {o : OpV} (h : refA A o = 0) : formS o = true := by
  cases hq : formS o with
  | true => rfl
  | false => unfold refA at h; rw [hq] at h; simp at h
theorem Do_any (s : Nat) (A : Sto) (rs : List Row) (hA : Good A) (hm : A.bufs.length ≤ 100000) (hs0 : 0 ≤ A.shared) (hs1 : A.shared ≤ 100000) (o : OpV) (w : World) (h : StoreAt w s A rs) :
    Calls Try.prog 19 #[.pointer (some ⟨s, 0, none⟩), .agg o.cells] w fun e w' => DoPost s A rs o w e w' := by
  by_cases hr : refA A o = 0
  · rcases formS_kind (ref_form hr) with hk | hk | hk | hk | hk | hk | hk | hk | hk | hk | hk
    · exact Do_1 s A rs hA hm o hk hr w h
    · exact Do_2 s A rs hA o hk hr w h
    · exact Do_3 s A rs hA hm hs0 hs1 o hk hr w h
    · exact Do_4 s A rs hA hm hs0 hs1 o hk hr w h
    · exact Do_5 s A rs hA hm hs0 hs1 o hk hr w h
    · exact Do_6 s A rs hA hm o hk hr w h
    · exact Do_7 s A rs hA hm hs0 hs1 o hk hr w h
    · exact Do_8 s A rs hA hm o hk hr w h
    · exact Do_9 s A rs hA hm hs0 hs1 o hk hr w h
    · exact Do_10 s A rs hA hm hs0 hs1 o hk hr w h
    · exact Do_11 s A rs hA hm o hk hr w h
  · exact Do_err s A rs hA o hr w h
/-- what is known where an operation is not refused -/
theorem ref_key {A : Sto} {o : OpV} (h : refA A o = 0) (hk : (useG o.kind).key = true) : o.key.size ≤ 24 := by
  have hf := ref_form h
  unfold refA at h
  rw [hf] at h
  simp only [Bool.true_eq_false, if_false] at h
  split at h
  · cases h
  · split at h
    · cases h
    · rename_i h2; rw [not_or] at h2; have := h2.1; simp only [hk, true_and] at this; omega
theorem ref_kd {A : Sto} {o : OpV} (h : refA A o = 0) (hk : (useG o.kind).kind ≠ 0) : (A.buf o.fr).kd = (useG o.kind).kind := by
  have hf := ref_form h
  apply Classical.byContradiction
  intro hne
  unfold refA at h
  rw [hf] at h
  simp only [Bool.true_eq_false, if_false] at h
  rw [if_pos ⟨hk, hne⟩] at h
  cases h
theorem id_of_kd {A : Sto} {n : Int} (h : (A.buf n).kd ≠ 0) : ∃ k, A.id n = some k := by
  cases hq : A.id n with
  | none => rw [buf_none hq] at h; exact absurd rfl h
  | some k => exact ⟨k, rfl⟩
theorem Good.buf {A : Sto} (hA : Good A) {n : Int} (h0 : 0 ≤ n) (h8 : n < 8) (h : (A.buf n).kd ≠ 0) : GoodB (A.buf n) := by
  obtain ⟨k, hk⟩ := id_of_kd h
  have hn : A.names[n.toNat]? = some (some k) := by rw [id_names hA h0 h8, hk]
  have hl := hA.there _ _ hn
  refine hA.bufs k _ ?_
  unfold Sto.buf; rw [hk]; show A.bufs[k]? = some (A.bufs.getD k noBuf); rw [List.getD_eq_getElem?_getD, List.getElem?_eq_getElem hl]; rfl
theorem good_change {A : Sto} (hA : Good A) {n : Int} (h0 : GoodB (A.buf n)) {b : Buf} (hb : GoodB b) : Good (A.change n b) := by
  unfold Sto.change
  exact good_put (good_own hA h0) hb
theorem short_of {t : Tab} (h : ∀ k v, Has t k v → k.size ≤ 1000000000) : Short t := by
  intro j
  cases hq : pl t j with
  | none => exact Nat.zero_le _
  | some x =>
    obtain ⟨k, v⟩ := x
    refine h k v ?_
    by_cases hl : t.length = 0
    · have : t = [] := List.length_eq_zero_iff.1 hl
      subst this; simp [pl] at hq
    · exact ⟨j % t.length, Nat.mod_lt _ (by omega), by rw [pl_mod]; exact hq⟩
theorem short_has {t : Tab} (h : Short t) {k : ByteArray} {v : Int} (hh : Has t k v) : k.size ≤ 1000000000 := by
  obtain ⟨i, hi, hp⟩ := hh
  have := h i
  rw [hp] at this
  exact this
theorem wf_setv {H : ByteArray → Nat} {t : Tab} (hw : Wf H t) {i : Nat} (hi : i < t.length) {k : ByteArray} {v0 : Int} (hp : pl t i = some (k, v0)) (v : Int) : Wf H (t.set i (some (k, v))) := by
  have hoc : ∀ j, occ (t.set i (some (k, v))) j = occ t j := fun j => by
    rw [occ_set hi]
    by_cases e : j % t.length = i
    · rw [← occ_mod t j, e]; unfold occ; rw [hp]; simp
    · simp [e]
  have hpl : ∀ j k' v', j < t.length → pl (t.set i (some (k, v))) j = some (k', v') → ∃ v2, pl t j = some (k', v2) := fun j k' v' hj h => by
    rw [pl_set hi hj] at h
    by_cases e : j = i
    · rw [if_pos e] at h; cases h; subst e; exact ⟨_, hp⟩
    · rw [if_neg e] at h; exact ⟨_, h⟩
  refine ⟨fun j k' v' hj h => ?_, fun j l k' v1 v2 hj hl h1 h2 => ?_, ?_⟩
  · simp only [List.length_set] at hj ⊢
    obtain ⟨v2, h2⟩ := hpl j k' v' hj h
    obtain ⟨d, h3, h4, h5⟩ := hw.way j k' v2 hj h2
    exact ⟨d, h3, h4, fun e he => by rw [hoc]; exact h5 e he⟩
  · simp only [List.length_set] at hj hl
    obtain ⟨a, ha⟩ := hpl j k' v1 hj h1
    obtain ⟨b, hb⟩ := hpl l k' v2 hl h2
    exact hw.one j l k' a b hj hl ha hb
  · obtain ⟨j, hj, h⟩ := hw.gap
    exact ⟨j, by simpa using hj, by rw [hoc]; exact h⟩
theorem addT_length (H : ByteArray → Nat) (t : Tab) (k : ByteArray) (v : Int) : (addT H t k v).length = if 3 * t.length ≤ 4 * cn t then 2 * t.length else t.length := by
  unfold addT
  rw [layT_length]
  split
  · rw [growT_length]
  · rfl
theorem good_add {b : Buf} (h : GoodB b) (hk : b.kd = 2) (hc : cn b.t < 100) {k : ByteArray} (v : Int) (hks : k.size ≤ 24) (hn : ∀ v, ¬ Has b.t k v) : GoodB { b with t := addT (HH b.seed) b.t k v } := by
  obtain ⟨h0, h1, h2, hw, hs, h4, h264, hcn⟩ := h.dict hk
  obtain ⟨g1, g2, g3, g4⟩ := add_good (HH b.seed) hw h4 v hn
  refine Or.inr ⟨hk, h0, h1, h2, g1, short_of (fun k' v' hh => ?_), g3, ?_, by simp only; omega⟩
  · rcases (g4 k' v').1 hh with ⟨e, _⟩ | hh
    · rw [e]; omega
    · exact short_has hs hh
  · simp only
    rw [addT_length]
    split <;> omega
theorem good_setv {b : Buf} (h : GoodB b) (hk : b.kd = 2) {i : Nat} (hi : i < b.t.length) {k : ByteArray} {v0 : Int} (hp : pl b.t i = some (k, v0)) (v : Int) : GoodB { b with t := setT b.t i k v } := by
  obtain ⟨h0, h1, h2, hw, hs, h4, h264, hcn⟩ := h.dict hk
  have hc := cn_set hi (some (k, v))
  rw [show occ b.t i = true by unfold occ; rw [hp]; rfl] at hc
  simp at hc
  refine Or.inr ⟨hk, h0, h1, h2, wf_setv hw hi hp v, ?_, by simp [setT]; exact h4, by simp [setT]; exact h264, by simp only [setT]; omega⟩
  refine short_of (fun k' v' hh => ?_)
  obtain ⟨j, hj, hpj⟩ := hh
  simp only [setT, List.length_set] at hj
  simp only [setT] at hpj
  rw [pl_set hi hj] at hpj
  by_cases e : j = i
  · rw [if_pos e] at hpj; cases hpj; exact short_has hs ⟨i, hi, hp⟩
  · rw [if_neg e] at hpj; exact short_has hs ⟨j, hj, hpj⟩
theorem good_rem {b : Buf} (h : GoodB b) (hk : b.kd = 2) {i : Nat} (hi : i < b.t.length) {k : ByteArray} {v0 : Int} (hp : pl b.t i = some (k, v0)) : GoodB { b with t := removeT (HH b.seed) b.t i } := by
  obtain ⟨h0, h1, h2, hw, hs, h4, h264, hcn⟩ := h.dict hk
  have hoc : occ b.t i = true := by unfold occ; rw [hp]; rfl
  have hc := cn_remove (HH b.seed) hi hoc
  refine Or.inr ⟨hk, h0, h1, h2, remove_wf (HH b.seed) hw hi hoc, short_of (fun k' v' hh => short_has hs ((remove_has (HH b.seed) hw hi hp k' v').1 hh).1), ?_, ?_, ?_⟩
  · simp only; rw [removeT_length]; exact h4
  · simp only; rw [removeT_length]; exact h264
  · simp only; omega
theorem good_arr {l : List ByteArray} (h : l.length ≤ 100) : GoodB ⟨1, l, 0, []⟩ := Or.inl ⟨rfl, rfl, rfl, h⟩
theorem good_list {b : Buf} (h : GoodB b) (hk : b.kd = 1) {l : List ByteArray} (hl : l.length ≤ 100) : GoodB { b with l := l } := by
  rcases h with ⟨h1, h2, h3, h4⟩ | ⟨h1, _⟩
  · exact Or.inl ⟨h1, h2, h3, hl⟩
  · rw [hk] at h1; exact absurd h1 (by decide)
theorem good_new {n : Int} (h0 : 0 ≤ n) (h1 : n ≤ 2147483647) : GoodB ⟨2, [], n, List.replicate 4 none⟩ :=
  Or.inr ⟨rfl, h0, h1, rfl, wf_none _ (by omega), short_of (fun k v hh => absurd hh (has_none 4 k v)), by simp, by simp, by rw [cn_none]; omega⟩
theorem ref_last {A : Sto} {o : OpV} (h : refA A o = 0) : ¬ (o.kind = 8 ∧ (o.n < 0 ∨ 2147483647 < o.n)) ∧ ¬ (o.kind = 3 ∧ 100 ≤ (A.buf o.fr).l.length) ∧ ¬ (o.kind = 9 ∧ 100 ≤ cn (A.buf o.fr).t ∧ fnd (A.buf o.fr).seed (A.buf o.fr).t o.key < 0) ∧ ¬ (o.kind = 10 ∧ fnd (A.buf o.fr).seed (A.buf o.fr).t o.key < 0) := by
  have hf := ref_form h
  unfold refA at h
  rw [hf] at h
  simp only [Bool.true_eq_false, if_false] at h
  split at h; cases h
  split at h; cases h
  rename_i h2
  split at h; cases h
  split at h; cases h
  split at h; cases h
  rename_i h5
  split at h; cases h
  rename_i h6
  split at h; cases h
  rename_i h7
  exact ⟨fun hc => h2 (Or.inr hc), h6, h7, h5⟩
theorem fnd_neg {seed : Int} {t : Tab} {k : ByteArray} (h : findT (HH seed) t k = none) : fnd seed t k < 0 := by unfold fnd; rw [h]; decide
theorem good_do {A : Sto} (hA : Good A) (o : OpV) : Good (doA A o) := by
  unfold doA
  split
  · rename_i hr
    have hf := ref_form hr
    have hfr := form_fr hf
    have hl := ref_last hr
    have hkd : (useG o.kind).kind ≠ 0 → GoodB (A.buf o.fr) := fun hk => hA.buf hfr.1 hfr.2 (by rw [ref_kd hr hk]; exact hk)
    unfold Sto.does
    rcases formS_kind hf with hk | hk | hk | hk | hk | hk | hk | hk | hk | hk | hk
    · rw [if_pos hk]; exact good_fresh hA _ (good_arr (by simp)) _
    · rw [if_neg (by omega), if_pos hk]
      refine ⟨by simp [hA.eight], fun i k h => ?_, hA.bufs, hA.off⟩
      simp only [List.getElem?_set] at h
      split at h
      · split at h
        · simp only [Option.some.injEq] at h
          refine hA.there o.fr.toNat k ?_
          rw [id_names hA hfr.1 hfr.2, h]
        · cases h
      · exact hA.there i k h
    · rw [if_neg (by omega), if_neg (by omega), if_pos hk]
      have hg := hkd (by rw [hk]; decide)
      exact good_change hA hg (good_list hg (by rw [ref_kd hr (by rw [hk]; decide), hk]; rfl) (by have := hl.2.1; simp; omega))
    · rw [if_neg (by omega), if_neg (by omega), if_neg (by omega), if_pos hk]
      have hg := hkd (by rw [hk]; decide)
      split
      · exact hA
      · exact good_change hA hg (good_list hg (by rw [ref_kd hr (by rw [hk]; decide), hk]; rfl) (by rw [List.length_set]; exact hg.len.1))
    · rw [if_neg (by omega), if_neg (by omega), if_neg (by omega), if_neg (by omega), if_pos hk]
      have hg := hkd (by rw [hk]; decide)
      exact good_change hA hg (good_list hg (by rw [ref_kd hr (by rw [hk]; decide), hk]; rfl) (by have := hg.len.1; rw [List.length_eraseIdx]; split <;> omega))
    · rw [if_neg (by omega), if_neg (by omega), if_neg (by omega), if_neg (by omega), if_neg (by omega), if_pos hk]
      have hg := hkd (by rw [hk]; decide)
      exact good_fresh hA _ (good_arr (by have := hg.len.1; simp; omega)) _
    · rw [if_neg (by omega), if_neg (by omega), if_neg (by omega), if_neg (by omega), if_neg (by omega), if_neg (by omega), if_pos hk]
      have hg := hkd (by rw [hk]; decide)
      split
      · exact hA
      · exact good_change hA hg (good_list hg (by rw [ref_kd hr (by rw [hk]; decide), hk]; rfl) (by rw [sortL_length]; exact hg.len.1))
    · rw [if_neg (by omega), if_neg (by omega), if_neg (by omega), if_neg (by omega), if_neg (by omega), if_neg (by omega), if_neg (by omega), if_pos hk]
      have := hl.1
      exact good_fresh hA _ (good_new (by omega) (by omega)) _
    · rw [if_neg (by omega), if_neg (by omega), if_neg (by omega), if_neg (by omega), if_neg (by omega), if_neg (by omega), if_neg (by omega), if_neg (by omega), if_pos hk]
      have hg := hkd (by rw [hk]; decide)
      have h2 : (A.buf o.fr).kd = 2 := by rw [ref_kd hr (by rw [hk]; decide), hk]; rfl
      have hd := hg.dict h2
      split
      · rename_i hfi
        refine good_change hA hg (good_add hg h2 ?_ _ (ref_key hr (by rw [hk]; decide)) (fun v ⟨j, hj, hjp⟩ => ?_))
        · have := fnd_neg hfi; have := hl.2.2.1; omega
        · have := find_some (HH (A.buf o.fr).seed) hd.2.2.2.1 hj hjp; rw [hfi] at this; cases this
      · rename_i i hfi
        obtain ⟨hi, v0, hp⟩ := find_of (HH (A.buf o.fr).seed) hd.2.2.2.1.gap hfi
        split
        · exact hA
        · exact good_change hA hg (good_setv hg h2 hi hp _)
    · rw [if_neg (by omega), if_neg (by omega), if_neg (by omega), if_neg (by omega), if_neg (by omega), if_neg (by omega), if_neg (by omega), if_neg (by omega), if_neg (by omega), if_pos hk]
      have hg := hkd (by rw [hk]; decide)
      have h2 : (A.buf o.fr).kd = 2 := by rw [ref_kd hr (by rw [hk]; decide), hk]; rfl
      have hd := hg.dict h2
      split
      · exact hA
      · rename_i i hfi
        obtain ⟨hi, v0, hp⟩ := find_of (HH (A.buf o.fr).seed) hd.2.2.2.1.gap hfi
        exact good_change hA hg (good_rem hg h2 hi hp)
    · rw [if_neg (by omega), if_neg (by omega), if_neg (by omega), if_neg (by omega), if_neg (by omega), if_neg (by omega), if_neg (by omega), if_neg (by omega), if_neg (by omega), if_neg (by omega)]
      have hg := hkd (by rw [hk]; decide)
      have h2 : (A.buf o.fr).kd = 2 := by rw [ref_kd hr (by rw [hk]; decide), hk]; rfl
      have hd := hg.dict h2
      refine good_fresh hA _ (good_arr ?_) _
      rw [List.length_map, show pairsT (A.buf o.fr).t = ents (A.buf o.fr).t from rfl, ents_length]
      exact hd.2.2.2.2.2.2.2
  · exact hA
theorem put_counts (A : Sto) (n : Int) (b : Buf) : (A.put n b).bufs.length = A.bufs.length ∧ (A.put n b).shared = A.shared := by
  unfold Sto.put
  split
  · exact ⟨rfl, rfl⟩
  · exact ⟨by simp, rfl⟩
theorem change_counts (A : Sto) (n : Int) (b : Buf) : (A.change n b).bufs.length = (if A.others n.toNat then A.bufs.length + 1 else A.bufs.length) ∧ (A.change n b).shared = (if A.others n.toNat then A.shared + 1 else A.shared) := by
  unfold Sto.change Sto.own
  by_cases h : A.others n.toNat
  · rw [if_pos h, if_pos h, if_pos h]
    obtain ⟨h1, h2⟩ := put_counts { A.fresh n (A.buf n) with shared := A.shared + 1 } n b
    exact ⟨h1.trans (by simp [Sto.fresh]), h2⟩
  · rw [if_neg h, if_neg h, if_neg h]
    exact put_counts A n b
theorem does_cases' {Φ : Sto → Prop} (A : Sto) (o : OpV) (h1 : ∀ n b, Φ (A.fresh n b)) (h2 : o.kind = 2 → Φ { A with names := A.names.set o.to.toNat (A.id o.fr) }) (h3 : ∀ b, Φ (A.change o.fr b)) (h4 : Φ A) : Φ (A.does o) := by
  unfold Sto.does
  by_cases k1 : o.kind = 1
  · rw [if_pos k1]; exact h1 _ _
  rw [if_neg k1]
  by_cases k2 : o.kind = 2
  · rw [if_pos k2]; exact h2 k2
  rw [if_neg k2]
  by_cases k3 : o.kind = 3
  · rw [if_pos k3]; exact h3 _
  rw [if_neg k3]
  by_cases k4 : o.kind = 4
  · rw [if_pos k4]
    split
    · exact h4
    · exact h3 _
  rw [if_neg k4]
  by_cases k5 : o.kind = 5
  · rw [if_pos k5]; exact h3 _
  rw [if_neg k5]
  by_cases k6 : o.kind = 6
  · rw [if_pos k6]; exact h1 _ _
  rw [if_neg k6]
  by_cases k7 : o.kind = 7
  · rw [if_pos k7]
    split
    · exact h4
    · exact h3 _
  rw [if_neg k7]
  by_cases k8 : o.kind = 8
  · rw [if_pos k8]; exact h1 _ _
  rw [if_neg k8]
  by_cases k9 : o.kind = 9
  · rw [if_pos k9]
    split
    · exact h3 _
    · split
      · exact h4
      · exact h3 _
  rw [if_neg k9]
  by_cases k10 : o.kind = 10
  · rw [if_pos k10]
    split
    · exact h4
    · exact h3 _
  rw [if_neg k10]
  exact h1 _ _
theorem does_cases {Φ : Sto → Prop} (A : Sto) (o : OpV) (h1 : ∀ n b, Φ (A.fresh n b)) (h2 : Φ { A with names := A.names.set o.to.toNat (A.id o.fr) }) (h3 : ∀ b, Φ (A.change o.fr b)) (h4 : Φ A) : Φ (A.does o) := does_cases' A o h1 (fun _ => h2) h3 h4
theorem do_counts (A : Sto) (o : OpV) : ((doA A o).bufs.length = A.bufs.length ∧ (doA A o).shared = A.shared) ∨ (refA A o = 0 ∧ (doA A o).bufs.length = A.bufs.length + 1 ∧ ((doA A o).shared = A.shared ∨ (doA A o).shared = A.shared + 1 ∧ A.others o.fr.toNat)) := by
  have hc : ∀ b, ((A.change o.fr b).bufs.length = A.bufs.length ∧ (A.change o.fr b).shared = A.shared) ∨ ((A.change o.fr b).bufs.length = A.bufs.length + 1 ∧ ((A.change o.fr b).shared = A.shared ∨ (A.change o.fr b).shared = A.shared + 1 ∧ A.others o.fr.toNat)) := fun b => by
    obtain ⟨h1, h2⟩ := change_counts A o.fr b
    by_cases h : A.others o.fr.toNat
    · rw [if_pos h] at h1 h2; exact Or.inr ⟨h1, Or.inr ⟨h2, h⟩⟩
    · rw [if_neg h] at h1 h2; exact Or.inl ⟨h1, h2⟩
  have hfr : ∀ n b, (A.fresh n b).bufs.length = A.bufs.length + 1 ∧ (A.fresh n b).shared = A.shared := fun n b => ⟨List.length_append, rfl⟩
  unfold doA
  by_cases hr : refA A o = 0
  · rw [if_pos hr]
    refine does_cases (Φ := fun X => (X.bufs.length = A.bufs.length ∧ X.shared = A.shared) ∨ (refA A o = 0 ∧ X.bufs.length = A.bufs.length + 1 ∧ (X.shared = A.shared ∨ X.shared = A.shared + 1 ∧ A.others o.fr.toNat))) A o ?_ ?_ ?_ ?_
    · exact fun n b => Or.inr ⟨hr, (hfr n b).1, Or.inl (hfr n b).2⟩
    · exact Or.inl ⟨rfl, rfl⟩
    · exact fun b => (hc b).imp id (fun h => ⟨hr, h⟩)
    · exact Or.inl ⟨rfl, rfl⟩
  · rw [if_neg hr]; exact Or.inl ⟨rfl, rfl⟩
def newA : Sto := ⟨List.replicate 8 none, [], 0, 0⟩
theorem run_build83 : Try.prog.built 83 [] = some (scells (List.replicate 8 none) 0 0) := by kernel_rfl
theorem run_box83 (w : World) : (Instr.box 83 (.agg (scells (List.replicate 8 none) 0 0))).run Try.prog w = .ok (.pointer (some ⟨w.heap.size, 0, none⟩)) (w.alloc (.cells (scells (List.replicate 8 none) 0 0) 83)) := by kernel_rfl
theorem ex_box83 {ev : Operand → Value} {o : Oper} {w : World} (x : Operand) (ho : o.op = .box 83 x) (hx : ev x = .agg (scells (List.replicate 8 none) 0 0)) :
    (execOp ev o).run Try.prog w = .ok (.value (.pointer (some ⟨w.heap.size, 0, none⟩))) (w.alloc (.cells (scells (List.replicate 8 none) 0 0) 83)) := by
  unfold execOp
  simp only [ho, hx, run_box83 w, Sem.run_bind, Result.andThen_ok]
  rfl
theorem storeAt_new {w : World} {s : Nat} (h : w.heap[s]? = some (.cells (scells (List.replicate 8 none) 0 0) 83 (0, 0))) : StoreAt w s newA [] :=
  ⟨h, rfl, fun k r b hr => by simp at hr, fun j k r r' hr => by simp at hr, fun j k r r' q hr => by simp at hr, fun j k r r' q hr => by simp at hr⟩
set_option maxRecDepth 100000 in
theorem New_any (w : World) : Calls Try.prog 18 #[] w fun e w' => e = .returned (.pointer (some ⟨w.heap.size, 0, none⟩)) ∧ StoreAt w' w.heap.size newA [] ∧ Below w.heap.size w w' := by
  go_enter Try.func18, Try.ntmps18
  go_upto_region 1 with (fail)
  apply wp_region_lit
  refine wl_val rfl (ex_build 83 _ rfl (L := []) rfl run_build83) ?_
  simp only [Zq]
  refine wl_w rfl (ex_box83 _ rfl rfl) ?_
  simp only [Zq]
  have hfin : (w.alloc (.cells (scells (List.replicate 8 none) 0 0) 83)).heap[w.heap.size]? = _ := ha_new rfl
  have hb := (Below.refl w.heap.size w).alloc (Nat.le_refl _) (.cells (scells (List.replicate 8 none) 0 0) 83)
  generalize w.alloc (.cells (scells (List.replicate 8 none) 0 0) 83) = w2 at *
  have HF := Lib.hid hfin
  clear hfin
  go_wp2_with fail
  go_ret
  exact ⟨rfl, storeAt_new HF.out, hb⟩
theorem Buffers_any (s : Nat) (A : Sto) (rs : List Row) (hA : Good A) (w : World) (h : StoreAt w s A rs) : Calls Try.prog 23 #[.pointer (some ⟨s, 0, none⟩)] w fun e w' => e = .returned (.int .i64 A.made) ∧ Below w.heap.size w w' := by
  have c8 := (sc_made h.main (by rw [nsOf_length]; exact hA.eight)).1
  clear h hA
  go_enter Try.func23, Try.ntmps23
  go_wp2_with fail
  go_ret
  exact ⟨rfl, Below.refl _ _⟩
theorem Shared_any (s : Nat) (A : Sto) (rs : List Row) (hA : Good A) (w : World) (h : StoreAt w s A rs) : Calls Try.prog 24 #[.pointer (some ⟨s, 0, none⟩)] w fun e w' => e = .returned (.int .i64 A.shared) ∧ Below w.heap.size w w' := by
  have c9 := (sc_made h.main (by rw [nsOf_length]; exact hA.eight)).2
  clear h hA
  go_enter Try.func24, Try.ntmps24
  go_wp2_with fail
  go_ret
  exact ⟨rfl, Below.refl _ _⟩
set_option maxRecDepth 100000 in
theorem of_no (s : Nat) (n : Int) (hn : isNm n = false) (w : World) : Calls Try.prog 61 #[.pointer (some ⟨s, 0, none⟩), .int .i64 n] w fun e w' => e = .returned (.tuple #[.pointer none, .int .i64 4]) ∧ Below w.heap.size w w' := by
  have HN := Lib.hid hn
  clear hn
  go_enter Try.func61, Try.ntmps61
  go_upto_region 1 with (fail)
  apply wp_region_lit
  iterate 4 (refine wl_k rfl (fun K hK => ?_); go_simp; refine hK _ ?_; clear hK K)
  refine wl_ck rfl (fun K hK => ?_); go_simp; refine ⟨_, _, ⟨rfl, rfl⟩, hK _ _ ⟨_, isName_any n _, ?_⟩⟩; clear hK K; rintro e w1 ⟨rfl, hb1⟩; refine ⟨_, rfl, ?_⟩; simp only [Zq]
  rw [HN.out]
  go_wp2_with fail
  go_ret2
  exact ⟨rfl, hb1⟩
set_option maxRecDepth 100000 in
theorem of_yes (s : Nat) (A : Sto) (rs : List Row) (hA : Good A) (f : Nat) (hf : (f : Int) < 8) (w : World) (h : StoreAt w s A rs) : Calls Try.prog 61 #[.pointer (some ⟨s, 0, none⟩), .int .i64 (f : Int)] w fun e w' => e = .returned (.tuple #[bp ((A.id (f : Int)).map fun k => gAt rs k), .int .i64 0]) ∧ Below w.heap.size w w' := by
  have hnm := nsOf_get (rs := rs) (id_names hA (show (0 : Int) ≤ f by omega) hf)
  rw [Int.toNat_natCast] at hnm
  have c6 := sc_name h.main hnm
  have HN : Hid (isNm (f : Int) = true) := Lib.hid (by unfold isNm; simp; omega)
  clear hnm h hA
  go_enter Try.func61, Try.ntmps61
  go_upto_region 1 with (fail)
  apply wp_region_lit
  iterate 4 (refine wl_k rfl (fun K hK => ?_); go_simp; refine hK _ ?_; clear hK K)
  refine wl_ck rfl (fun K hK => ?_); go_simp; refine ⟨_, _, ⟨rfl, rfl⟩, hK _ _ ⟨_, isName_any (f : Int) _, ?_⟩⟩; clear hK K; rintro e w1 ⟨rfl, hb1⟩; refine ⟨_, rfl, ?_⟩; simp only [Zq]
  rw [HN.out]
  replace c6 := below_cell hb1 c6
  go_wp2_with fail
  go_ret2
  exact ⟨rfl, hb1⟩
/-- an item as cells -/
def icells (kd : Int) (lv : Value) (seed : Int) (pv : Value) : Array Value := #[.int .i64 kd, lv, .int .i64 seed, pv]
theorem u32 : Try.prog.underlying 32 = some (.struct (Try.prog.fieldsOf 32)) := by kernel_rfl
theorem info32 : (Try.prog.info? 32).map (·.size) = some 4 := by kernel_rfl
theorem ex_alloc32 {o : Oper} (ho : o.op = .alloc 32) (ev : Operand → Value) (w : World) : (execOp ev o).run Try.prog w = .ok (.value (.pointer (some ⟨w.heap.size, 0, none⟩))) (w.alloc (.cells (icells 0 (.slice none 0 0) 0 (.slice none 0 0)) 32)) := by
  unfold execOp
  simp only [ho]
  kernel_rfl
theorem rowIt {w : World} {g : Nat} {kd seed : Int} {lv pv : Value} (h : w.heap[g]? = some (.cells (icells kd lv seed pv) 32 (0, 0))) : RowAt w 32 ⟨g, 0, none⟩ (icells kd lv seed pv) := row_mid h (D := icells kd lv seed pv) (n := 4) rfl u32 rfl rfl info32
theorem built32_0 : Try.prog.built 32 [] = some (icells 0 (.slice none 0 0) 0 (.slice none 0 0)) := by kernel_rfl
theorem built32 (kd seed : Int) (A : Option Addr) (n c : Nat) (A2 : Option Addr) (n2 c2 : Nat) : Try.prog.built 32 [(0, .int .i64 kd), (1, .slice A n c), (2, .int .i64 seed), (3, .slice A2 n2 c2)] = some (icells kd (.slice A n c) seed (.slice A2 n2 c2)) := by kernel_rfl
theorem icells_one (kd seed : Int) (A : Option Addr) (n c : Nat) (A2 : Option Addr) (n2 c2 : Nat) : (icells kd (.slice A n c) seed (.slice A2 n2 c2)).all (·.oneCell') = true := by simp [icells, Value.oneCell']
theorem res_item {fn : Func} {p q : Tmp} (h : fn.results = #[.cell p 32, .tmp q]) (tmps : Array Value) (w : World) (g : Nat) (hp : tmps.getD p undef = .pointer (some ⟨g, 0, none⟩)) {kd seed : Int} {lv pv : Value}
    (hg : w.heap[g]? = some (.cells (icells kd lv seed pv) 32 (0, 0))) : (results fn tmps).run Try.prog w = .ok (.tuple #[.agg (icells kd lv seed pv), tmps.getD q undef]) w := by
  have hp' : tmps[p]?.getD undef = .pointer (some ⟨g, 0, none⟩) := by simpa using hp
  have l1 : (loadVar 32 ⟨g, 0, none⟩).run Try.prog w = .ok (.agg (icells kd lv seed pv)) w := by have := rowIt hg; unfold RowAt at this; exact this
  unfold results
  simp [h, hp', asAddr, l1, Result.andThen]
/-- an item in memory of the call's own -/
def ItemAt (w : World) (B : Nat) (v : Value) (b : Buf) : Prop := ∃ lv pv, v = .agg (icells b.kd lv b.seed pv) ∧ w.ownsRow B 9 1 lv b.l.length (strs b.l) ∧ w.ownsRow B 91 2 pv (pairsT b.t).length (prow (pairsT b.t))
theorem ItemAt.below {w w' : World} {B : Nat} {v : Value} {b : Buf} (h : ItemAt w B v b) (hb : Below w.heap.size w w') : ItemAt w' B v b := by
  obtain ⟨lv, pv, h1, h2, h3⟩ := h
  exact ⟨lv, pv, h1, own_below h2 hb, own_below h3 hb⟩
theorem ItemAt.weak {w : World} {B B' : Nat} {v : Value} {b : Buf} (h : ItemAt w B v b) (hb : B' ≤ B) : ItemAt w B' v b := by
  obtain ⟨lv, pv, h1, h2, h3⟩ := h
  exact ⟨lv, pv, h1, own_weak h2 hb, own_weak h3 hb⟩
theorem itemAt_no (w : World) (B : Nat) : ItemAt w B (.agg (icells 0 (.slice none 0 0) 0 (.slice none 0 0))) noBuf :=
  ⟨.slice none 0 0, .slice none 0 0, rfl, ⟨by simp [strs, noBuf], Or.inl ⟨rfl, rfl⟩⟩, ⟨by simp [prow, pairsT, noBuf], Or.inl ⟨rfl, rfl⟩⟩⟩
set_option maxHeartbeats 2000000 in
set_option maxRecDepth 100000 in
theorem Item_yes (s : Nat) (A : Sto) (rs : List Row) (hA : Good A) (f : Nat) (hf : (f : Int) < 8) (w : World) (h : StoreAt w s A rs) : Calls Try.prog 22 #[.pointer (some ⟨s, 0, none⟩), .int .i64 (f : Int)] w fun e w' => ∃ v, e = .returned (.tuple #[v, .int .i64 0]) ∧ ItemAt w' w.heap.size v (A.buf (f : Int)) ∧ Below w.heap.size w w' := by
  have HS := Lib.hid h
  have HA := Lib.hid hA
  clear h hA
  go_enter Try.func22, Try.ntmps22
  go_upto_region 1 with (fail)
  have hb0 := (Below.refl w.heap.size w).alloc (Nat.le_refl _) (.cells (icells 0 (.slice none 0 0) 0 (.slice none 0 0)) 32)
  refine wp_world (fun W => Below w.heap.size w W ∧ W.heap[w.heap.size]? = some (.cells (icells 0 (.slice none 0 0) 0 (.slice none 0 0)) 32 (0, 0))) ⟨hb0, ha_new rfl⟩ ?_
  clear hb0
  rintro W ⟨hb, h1⟩
  have HFT : Hid (∀ q, Foot s rs q → q < w.heap.size) := Lib.hid (fun q hq => HS.out.lt hq)
  replace HS := Lib.hid (HS.out.below hb)
  apply wp_region_lit
  iterate 2 (refine wl_k rfl (fun K hK => ?_); go_simp; refine hK _ ?_; clear hK K)
  refine wl_ck rfl (fun K hK => ?_); go_simp; refine ⟨_, _, ⟨rfl, rfl⟩, hK _ _ ⟨_, of_yes s A rs HA.out f hf _ HS.out, ?_⟩⟩; clear hK K; rintro e w1 ⟨rfl, hb1⟩; refine ⟨_, rfl, ?_⟩; simp only [Zq]
  replace h1 := below_look hb1 h1
  replace HS := Lib.hid (HS.out.below hb1)
  replace hb := hb.trans (hb1.mono hb.size)
  clear hb1
  cases hk : A.id (f : Int) with
  | none =>
    have HB : Hid (A.buf (f : Int) = noBuf) := Lib.hid (buf_none hk)
    simp only [Option.map_none]
    rw [show bp none = .pointer none from rfl]
    clear hk
    go_upto_region 3 with (fail)
    apply wp_region_lit
    refine wl_val rfl (ex_build 32 _ rfl (L := []) rfl built32_0) ?_
    simp only [Zq]
    refine wl_k rfl (fun K hK => ?_); go_simp; refine hK _ ?_; clear hK K
    refine wl_putG w.heap.size (icells 0 (.slice none 0 0) 0 (.slice none 0 0)) rfl rfl 32 _ h1 info32 rfl (icells_one _ _ _ _ _ _ _ _) ?_
    rw [put_noneA]
    replace hb := below_setRow hb (g := w.heap.size) (Nat.le_refl _) (icells 0 (.slice none 0 0) 0 (.slice none 0 0))
    replace h1 := hr_new (cs := icells 0 (.slice none 0 0) 0 (.slice none 0 0)) h1
    generalize w1.setRow w.heap.size (icells 0 (.slice none 0 0) 0 (.slice none 0 0)) = w2 at *
    have RI := rowIt h1
    go_wp2_with fail
    exact bodyPost_ret (res_item rfl _ _ w.heap.size rfl h1) rfl ⟨_, rfl, by rw [HB.out]; exact itemAt_no _ _, hb⟩
  | some k =>
    obtain ⟨r, hr, hbk, hB, hG, hns⟩ := HS.out.row HA.out hk
    simp only [Option.map_some, gAt_eq hr]
    rw [show bp (some r.g) = .pointer (some ⟨r.g, 0, none⟩) from rfl]
    have hgw := HFT.out _ (foot_row hr)
    have hlen := hG.len
    obtain ⟨hb0, hl, ht, hnil⟩ := hB
    obtain ⟨A1, cp1, e1, hl1⟩ := own_str hl rfl
    obtain ⟨A2, cp2, e2, ht1⟩ := own_vt ht hnil
    rw [e1, e2] at hb0
    have g0 := (bc_cell hb0).1
    have g1 := (bc_cell hb0).2.1
    have g2 := (bc_cell hb0).2.2.1
    have hgr : r.g ≠ w.heap.size := by omega
    have HL := Lib.hid (hl1.below (Below.refl _ w1).drew)
    have HT := Lib.hid (ht1.below (Below.refl _ w1).drew)
    have HB0 : Hid (w1.drew.heap[r.g]? = _) := Lib.hid hb0
    have hop : w.heap.size < w1.heap.size := heap_lt h1
    replace h1 : w1.drew.heap[w.heap.size]? = _ := h1
    clear hk hr hbk hG hns hb0 hl ht hnil e1 e2 hl1 ht1
    go_upto_region 4 with (fail)
    refine wp_region_held_drew (S := Kept [w.heap.size] w1) mixed (Kept.drew [w.heap.size] w1) (fun hS => ?_)
    refine hk3 (i := 0) rfl (by kernel_rfl) Zh hS rfl (fun K hK => ?_); go_simp; refine hK _ ?_; clear hK K; try simp only [Zq]
    refine hk3 (i := 1) rfl (by kernel_rfl) Zh hS rfl (fun K hK => ?_); go_simp; refine hK _ ?_; clear hK K; try simp only [Zq]
    refine hk3 (i := 2) rfl (by kernel_rfl) Zh hS rfl (fun K hK => ?_); go_simp; refine hK _ ?_; clear hK K; try simp only [Zq]
    refine hv3 (i := 3) rfl (by kernel_rfl) Zg hS rfl (fun w' hw' => ex_one rfl (one3 (hw'.cell g0 (by simp <;> omega)))) ?_; try simp only [Zq]
    refine hk3 (i := 4) rfl (by kernel_rfl) Zh hS rfl (fun K hK => ?_); go_simp; refine hK _ ?_; clear hK K; try simp only [Zq]
    refine hk3 (i := 5) rfl (by kernel_rfl) Zh hS rfl (fun K hK => ?_); go_simp; refine hK _ ?_; clear hK K; try simp only [Zq]
    refine hk3 (i := 6) rfl (by kernel_rfl) Zh hS rfl (fun K hK => ?_); go_simp; refine hK _ ?_; clear hK K; try simp only [Zq]
    refine hv3 (i := 7) rfl (by kernel_rfl) Zg hS rfl (fun w' hw' => ex_one rfl (one29 (hw'.cell g1 (by simp <;> omega)))) ?_; try simp only [Zq]
    refine hk3 (i := 9) rfl (by kernel_rfl) Zh hS rfl (fun K hK => ?_); go_simp; refine hK _ ?_; clear hK K; try simp only [Zq]
    refine hk3 (i := 10) rfl (by kernel_rfl) Zh hS rfl (fun K hK => ?_); go_simp; refine hK _ ?_; clear hK K; try simp only [Zq]
    refine hk3 (i := 11) rfl (by kernel_rfl) Zh hS rfl (fun K hK => ?_); go_simp; refine hK _ ?_; clear hK K; try simp only [Zq]
    refine hv3 (i := 12) rfl (by kernel_rfl) Zg hS rfl (fun w' hw' => ex_one rfl (one3 (hw'.cell g2 (by simp <;> omega)))) ?_; try simp only [Zq]
    refine hk3 (i := 13) rfl (by kernel_rfl) Zh hS rfl (fun K hK => ?_); go_simp; refine hK _ ?_; clear hK K; try simp only [Zq]
    refine ha_call (i := 8) (by kernel_rfl) rfl rfl (fun K hK => ?_); go_simp; refine ⟨_, _, ⟨rfl, rfl⟩, hK _ _ ⟨_, CloneS_any A1 _ cp1 (A.buf (f : Int)).l (by omega) _ HL.out, ?_⟩⟩; clear hK K; rintro e w3 ⟨lv, rfl, ho1, hb1⟩; refine ⟨_, rfl, hS.below hb1, ?_⟩; replace hS := hS.below hb1; have hz1 := hb1.size; replace h1 := below_look hb1 h1; replace HB0 := Lib.hid (below_look hb1 HB0.out); replace HT := Lib.hid (HT.out.below hb1); have HO1 := Lib.hid ho1; clear ho1 hb1; try simp only [Zq]
    refine ha_call (i := 14) (by kernel_rfl) rfl rfl (fun K hK => ?_); go_simp; refine ⟨_, _, ⟨rfl, rfl⟩, hK _ _ ⟨_, pairs_any r.g A2 cp2 (A.buf (f : Int)).t _ _ _ _ (by omega) _ HB0.out HT.out, ?_⟩⟩; clear hK K; rintro e w4 ⟨pv, rfl, ho2, hb1⟩; refine ⟨_, rfl, hS.below hb1, ?_⟩; replace hS := hS.below hb1; have hz2 := hb1.size; replace h1 := below_look hb1 h1; replace HO1 := Lib.hid (own_below HO1.out hb1); have HO2 := Lib.hid ho2; clear ho2 hb1; try simp only [Zq]
    obtain ⟨B1, d1, rfl⟩ := own_shape HO1.out
    obtain ⟨B2, d2, rfl⟩ := own_shape HO2.out
    refine hv3 (i := 15) rfl (by kernel_rfl) Zg hS rfl (fun w' _ => ex_build 32 _ rfl (L := [(0, .int .i64 _), (1, .slice B1 _ d1), (2, .int .i64 _), (3, .slice B2 _ d2)]) rfl (built32 _ _ B1 _ d1 B2 _ d2)) ?_; try simp only [Zq]
    refine ha_store (i := 16) (by kernel_rfl) rfl rfl 32 _ _ rfl w.heap.size (icells (A.buf (f : Int)).kd (.slice B1 (A.buf (f : Int)).l.length d1) (A.buf (f : Int)).seed (.slice B2 (pairsT (A.buf (f : Int)).t).length d2)) rfl rfl 32 _ h1 info32 rfl (icells_one _ _ _ _ _ _ _ _) (hS.setRow (by simp) _) (fun hS => ?_); try simp only [Zq]
    refine hk3 (i := 17) rfl (by kernel_rfl) Zh hS rfl (fun K hK => ?_); go_simp; refine hK _ ?_; clear hK K; try simp only [Zq]
    refine wpAnyH_done (by kernel_rfl) ?_ _
    have hz0 := hb.size
    have hzd : w1.drew.heap.size = w1.heap.size := rfl
    have hz8 := heap_lt HB0.out
    have h2 := hr_new (cs := icells (A.buf (f : Int)).kd (.slice B1 (A.buf (f : Int)).l.length d1) (A.buf (f : Int)).seed (.slice B2 (pairsT (A.buf (f : Int)).t).length d2)) h1
    replace hb := hb.trans (hS.toBelow (B := w.heap.size) hz0 (by simp))
    have HO3 := Lib.hid (own_setRow HO1.out (p := w.heap.size) (fun e => by have := (own_block HO1.out e).1; omega) (icells (A.buf (f : Int)).kd (.slice B1 (A.buf (f : Int)).l.length d1) (A.buf (f : Int)).seed (.slice B2 (pairsT (A.buf (f : Int)).t).length d2)))
    have HO4 := Lib.hid (own_setRow HO2.out (p := w.heap.size) (fun e => by have := (own_block HO2.out e).1; omega) (icells (A.buf (f : Int)).kd (.slice B1 (A.buf (f : Int)).l.length d1) (A.buf (f : Int)).seed (.slice B2 (pairsT (A.buf (f : Int)).t).length d2)))
    clear h1 hS g0 g1 g2 HO1 HO2
    generalize w4.setRow w.heap.size (icells (A.buf (f : Int)).kd (.slice B1 (A.buf (f : Int)).l.length d1) (A.buf (f : Int)).seed (.slice B2 (pairsT (A.buf (f : Int)).t).length d2)) = w5 at *
    have RI := rowIt h2
    go_wp2_with fail
    exact bodyPost_ret (res_item rfl _ _ w.heap.size rfl h2) rfl ⟨_, rfl, ⟨_, _, rfl, own_weak HO3.out (by omega), own_weak HO4.out (by omega)⟩, hb⟩
/-- a script in memory -/
def OpsAt (w : World) (A : Option Addr) (n : Nat) (l : List OpV) : Prop := l.length = n ∧ ∀ (i : Nat) (o : OpV), l[i]? = some o → ∃ (b off : Nat) (Cs : Array Value) (t : TypeId) (fr : Nat × Nat), A = some ⟨b, off, none⟩ ∧ w.heap[b]? = some (.cells Cs t fr) ∧ Cs.extract (off + i * 6) (off + i * 6 + 6) = o.cells
theorem OpsAt.below {w w' : World} {A : Option Addr} {n : Nat} {l : List OpV} (h : OpsAt w A n l) (hb : Below w.heap.size w w') : OpsAt w' A n l :=
  ⟨h.1, fun i o ho => by obtain ⟨b, off, Cs, t, fr, h1, h2, h3⟩ := h.2 i o ho; exact ⟨b, off, Cs, t, fr, h1, below_look hb h2, h3⟩⟩
theorem u22 : Try.prog.underlying 22 = some (.slice 39) := by kernel_rfl
theorem OpsAt.row {w : World} {b off n : Nat} {l : List OpV} (h : OpsAt w (some ⟨b, off, none⟩) n l) {i : Nat} {o : OpV} (hi : l[i]? = some o) : RowAt w 39 ⟨b, off + i * 6, none⟩ o.cells := by
  obtain ⟨b', off', Cs, t, fr, h1, h2, h3⟩ := h.2 i o hi
  cases h1
  exact row_mid h2 h3 u39 rfl rfl info39
theorem OpsAt.addr {w : World} {A : Option Addr} {n : Nat} {l : List OpV} (h : OpsAt w A n l) {i : Nat} (hi : i < n) : ∃ b off, A = some ⟨b, off, none⟩ := by
  obtain ⟨b', off', Cs, t, fr, h1, h2, h3⟩ := h.2 i _ (List.getElem?_eq_getElem (show i < l.length by rw [h.1]; exact hi))
  exact ⟨b', off', h1⟩
theorem OpsAt.key {w : World} {b off n : Nat} {l : List OpV} (h : OpsAt w (some ⟨b, off, none⟩) n l) {i : Nat} {o : OpV} (hi : l[i]? = some o) : w.cell? ⟨b, off + i * 6 + 5, none⟩ = some (.string o.key) := by
  obtain ⟨b', off', Cs, t, fr, h1, h2, h3⟩ := h.2 i o hi
  cases h1
  have h4 : (Cs.extract (off + i * 6) (off + i * 6 + 6))[5]? = some (.string o.key) := by rw [h3]; rfl
  rw [Array.getElem?_extract] at h4
  split at h4
  · unfold World.cell?
    rw [h2]
    simpa using h4
  · cases h4
set_option maxHeartbeats 2000000 in
set_option maxRecDepth 100000 in
theorem heavy_any (A : Option Addr) (n c : Nat) (l : List OpV) (w : World) (h : OpsAt w A n l) :
    Calls Try.prog 13 #[.slice A n c] w fun e w' => ∃ b, e = .returned (.bool b) ∧ (b = false → n ≤ 200) ∧ Below w.heap.size w w' := by
  have HO := Lib.hid h
  clear h
  go_enter Try.func13, Try.ntmps13
  go_wp2_with fail
  go_loopw [3, 4] (fun m i wr => ∃ (j k : Nat), j ≤ n ∧ j ≤ 200 ∧ k ≤ 8000 ∧ i = .int .i64 (j : Int) ∧ m = .int .i64 (k : Int) ∧ Below w.heap.size w wr) (fun _ i _ => n - (intOf i).toNat)
  case atStart => exact ⟨0, 0, by omega, by omega, by omega, rfl, rfl, Below.refl _ _⟩
  case round =>
    obtain ⟨j, k, hj, hj2, hk, rfl, rfl, hb⟩ := hrel
    by_cases hlt : j < n
    · have hltI : (j : Int) < (n : Int) := by omega
      by_cases h200 : j = 200
      · have hd : ((j : Int) == 200) = true := by simp; omega
        go_wp2_with fail
        go_ret
        exact ⟨_, rfl, by simp, hb⟩
      · have hd : ((j : Int) == 200) = false := by simp; omega
        obtain ⟨b, off, rfl⟩ := HO.out.addr hlt
        obtain ⟨o, ho⟩ : ∃ o, l[j]? = some o := ⟨_, List.getElem?_eq_getElem (by rw [HO.out.1]; exact hlt)⟩
        have hkey := below_cell hb (HO.out.key ho)
        have hwr : IntKind.i64.wrap (8000 - (k : Int)) = 8000 - (k : Int) := wrap_small _ (by omega) (by omega)
        clear ho
        by_cases hgt : 8000 - (k : Int) < (o.key.size : Int)
        · go_wp2_with fail
          go_ret
          exact ⟨_, rfl, by simp, hb⟩
        · have hwr2 : IntKind.i64.wrap ((k : Int) + (o.key.size : Int)) = ((k + o.key.size : Nat) : Int) := by rw [wrap_small _ (by omega) (by omega)]; omega
          go_wp2_with fail
          go_roundw
          case rel => exact ⟨j + 1, k + o.key.size, by omega, by omega, by omega, by go_num, by first | rfl | (rw [hwr2]) | (congr 1), hb⟩
          case measure => simp [intOf]; omega
    · obtain rfl : j = n := by omega
      go_wp2_with fail
      go_ret
      exact ⟨_, rfl, fun _ => by omega, hb⟩
theorem u25 : Try.prog.underlying 25 = some (.slice 33) := by kernel_rfl
theorem u24 : Try.prog.underlying 24 = some (.slice 32) := by kernel_rfl
theorem info33b : (Try.prog.info? 33).map (fun i => (i.zero, i.size, i.bytes)) = some (some (.int .i64 0), 1, 8) := by kernel_rfl
theorem info32b : (Try.prog.info? 32).map (fun i => (i.zero, i.size, i.bytes)) = some (some (.agg (icells 0 (.slice none 0 0) 0 (.slice none 0 0))), 4, 64) := by kernel_rfl
def ints (l : List Int) : List Value := l.map (.int .i64)
theorem ints_length (l : List Int) : (ints l).length = l.length := by simp [ints]
/-- a value's own block is none of a store's -/
def Clear (s : Nat) (rs : List Row) (v : Value) : Prop := ∀ q, v.ownBlock = some q → ¬ Foot s rs q
theorem Clear.ran {s : Nat} {rs rs' : List Row} {w w' : World} {v : Value} (h : Clear s rs v) (hl : ∀ q, v.ownBlock = some q → q < w.heap.size) (hr : Ran s rs w rs' w') : Clear s rs' v := fun q hq hf => by
  rcases hr.foot q hf with e | e
  · exact h q hq e
  · have := hl q hq; omega
theorem own_lt {w : World} {b n : Nat} {e : TypeId} {size : Nat} {v : Value} {xs : List Value} (h : w.ownsRow b e size v n xs) : ∀ q, v.ownBlock = some q → q < w.heap.size := fun q hq => by
  obtain ⟨_, c, hc⟩ := own_block h hq
  exact heap_lt hc
theorem own_ran {s : Nat} {rs rs' : List Row} {w w' : World} {b n : Nat} {e : TypeId} {size : Nat} {v : Value} {xs : List Value} (h : w.ownsRow b e size v n xs) (hc : Clear s rs v) (hr : Ran s rs w rs' w') : w'.ownsRow b e size v n xs :=
  own_same h (fun q hq he => hr.block q hq (hc q he))
theorem run_bs25_1 (k : Int) (w : World) : (Instr.buildSlice 25 1 #[(0, .int .i64 k)]).run Try.prog w = .ok (.slice (some ⟨w.heap.size, 0, none⟩) 1 1) (w.alloc (.cells #[.int .i64 k] 33)) := by kernel_rfl
theorem ex_bs25_1 {ev : Operand → Value} {o : Oper} {w : World} (x : Operand) (ho : o.op = .buildSlice 25 1 #[(0, x)]) {k : Int} (hx : ev x = .int .i64 k) :
    (execOp ev o).run Try.prog w = .ok (.value (.slice (some ⟨w.heap.size, 0, none⟩) 1 1)) (w.alloc (.cells #[.int .i64 k] 33)) := by
  unfold execOp
  simp [ho, hx, run_bs25_1 k w, Result.andThen]
theorem ex_app {ev : Operand → Value} {op : Oper} {w w' : World} {v v' s : Value} {T : TypeId} (x y : Operand) (ho : op.op = .call { callee := .builtin .append, args := #[x, y], argTypes := #[T, T] }) (hx : ev x = v) (hy : ev y = s)
    (hr : (Builtin.append_ #[T, T] op.type #[v, s]).run Try.prog w = .ok v' w') : (execOp ev op).run Try.prog w = .ok (.value v') w' := by
  unfold execOp
  simp only [ho, resolve, invoke, builtin, Sem.run_bind, Sem.run_pure, Result.andThen_ok, List.map_toArray, List.map_cons, List.map_nil, hx, hy, hr]
theorem cells_at {w : World} {q : Nat} {cs : List Value} {t : TypeId} (h : w.heap[q]? = some (.cells cs.toArray t (0, 0))) : ∀ j u, cs[j]? = some u → w.cell? ((⟨q, 0, none⟩ : Addr).add j) = some u := fun j u hj => by
  rw [Addr.add_mid, Nat.zero_add, cell_of_row _ _ _ _ _ _ h]
  simpa using hj
theorem run_push25 {w : World} {B n : Nat} {v : Value} {l : List Int} (k : Int) (ty : TypeId) (ho : w.ownsRow B 33 1 v n (ints l)) (hB : B ≤ w.heap.size) (h1 : n ≤ 1000000) :
    ∃ v' w', (Builtin.append_ #[25, 25] ty #[v, .slice (some ⟨w.heap.size, 0, none⟩) 1 1]).run Try.prog (w.alloc (.cells #[.int .i64 k] 33)) = .ok v' w' ∧ w'.ownsRow B 33 1 v' (n + 1) (ints (l ++ [k])) ∧ (w.alloc (.cells #[.int .i64 k] 33)).grownBy w' v.ownBlock ∧ (v'.ownBlock = v.ownBlock ∨ v'.ownBlock = some (w.heap.size + 1)) := by
  obtain ⟨i0, hi, hz0, hz1, hz2⟩ := info_parts info33b
  have hb := (Below.refl w.heap.size w).alloc (Nat.le_refl _) (.cells #[.int .i64 k] 33)
  have e : (w.alloc (.cells #[.int .i64 k] 33)).heap.size = w.heap.size + 1 := by simp
  obtain ⟨v', w', hr, h3, h4, _, h5⟩ := run_append_own_at (P := Try.prog) (w.alloc (.cells #[.int .i64 k] 33)) B 25 ty 33 i0 _ 1 8 u25 hi hz0 hz1 hz2 rfl (by decide) v n (ints l) (own_below ho hb) ⟨w.heap.size, 0, none⟩ 1 1 [.int .i64 k] rfl (cells_at (ha_new rfl)) (by intro u hu; simp at hu; subst hu; rfl) (by unfold maxLen; omega) (by omega) (by omega)
  refine ⟨v', w', hr, by unfold ints at *; rw [List.map_append]; exact h3, h4, by rwa [e] at h5⟩
/-- items as cells -/
def itRow : List Buf → List (Value × Value) → List Value
  | b :: bs, p :: ps => (icells b.kd p.1 b.seed p.2).toList ++ itRow bs ps
  | _, _ => []
theorem itRow_snoc (b : Buf) (p : Value × Value) : ∀ (bs : List Buf) (ps : List (Value × Value)), bs.length = ps.length → itRow (bs ++ [b]) (ps ++ [p]) = itRow bs ps ++ (icells b.kd p.1 b.seed p.2).toList
  | [], [], _ => by simp [itRow]
  | x :: bs, y :: ps, h => by simp only [List.cons_append, itRow, itRow_snoc b p bs ps (by simpa using h), List.append_assoc]
  | [], y :: ps, h => by simp at h
  | x :: bs, [], h => by simp at h
/-- a list of items in memory of the call's own -/
def ItemsAt (w : World) (B : Nat) (v : Value) (bs : List Buf) : Prop := ∃ ps : List (Value × Value), ps.length = bs.length ∧ w.ownsRow B 32 4 v bs.length (itRow bs ps) ∧
  ∀ (i : Nat) (b : Buf) (p : Value × Value), bs[i]? = some b → ps[i]? = some p → w.ownsRow B 9 1 p.1 b.l.length (strs b.l) ∧ w.ownsRow B 91 2 p.2 (pairsT b.t).length (prow (pairsT b.t))
theorem ItemsAt.below {w w' : World} {B : Nat} {v : Value} {bs : List Buf} (h : ItemsAt w B v bs) (hb : Below w.heap.size w w') : ItemsAt w' B v bs := by
  obtain ⟨ps, h1, h2, h3⟩ := h
  exact ⟨ps, h1, own_below h2 hb, fun i b p hi hp => ⟨own_below (h3 i b p hi hp).1 hb, own_below (h3 i b p hi hp).2 hb⟩⟩
theorem ItemsAt.weak {w : World} {B B' : Nat} {v : Value} {bs : List Buf} (h : ItemsAt w B v bs) (hb : B' ≤ B) : ItemsAt w B' v bs := by
  obtain ⟨ps, h1, h2, h3⟩ := h
  exact ⟨ps, h1, own_weak h2 hb, fun i b p hi hp => ⟨own_weak (h3 i b p hi hp).1 hb, own_weak (h3 i b p hi hp).2 hb⟩⟩
theorem itemsAt_nil (w : World) (B : Nat) : ItemsAt w B (.slice none 0 0) [] := ⟨[], rfl, ⟨rfl, Or.inl ⟨rfl, rfl⟩⟩, fun i b p hi => by simp at hi⟩
theorem run_bs24_1 (kd seed : Int) (A : Option Addr) (n c : Nat) (A2 : Option Addr) (n2 c2 : Nat) (w : World) : (Instr.buildSlice 24 1 #[(0, .agg (icells kd (.slice A n c) seed (.slice A2 n2 c2)))]).run Try.prog w = .ok (.slice (some ⟨w.heap.size, 0, none⟩) 1 1) (w.alloc (.cells (icells kd (.slice A n c) seed (.slice A2 n2 c2)) 32)) := by kernel_rfl
theorem ex_bs24_1 {ev : Operand → Value} {o : Oper} {w : World} (x : Operand) (ho : o.op = .buildSlice 24 1 #[(0, x)]) {kd seed : Int} {A : Option Addr} {n c : Nat} {A2 : Option Addr} {n2 c2 : Nat} (hx : ev x = .agg (icells kd (.slice A n c) seed (.slice A2 n2 c2))) :
    (execOp ev o).run Try.prog w = .ok (.value (.slice (some ⟨w.heap.size, 0, none⟩) 1 1)) (w.alloc (.cells (icells kd (.slice A n c) seed (.slice A2 n2 c2)) 32)) := by
  unfold execOp
  simp [ho, hx, run_bs24_1, Result.andThen]
theorem ItemAt.shape {w : World} {B : Nat} {v : Value} {b : Buf} (h : ItemAt w B v b) : ∃ (A : Option Addr) (c : Nat) (A2 : Option Addr) (c2 : Nat), v = .agg (icells b.kd (.slice A b.l.length c) b.seed (.slice A2 (pairsT b.t).length c2)) ∧
    w.ownsRow B 9 1 (.slice A b.l.length c) b.l.length (strs b.l) ∧ w.ownsRow B 91 2 (.slice A2 (pairsT b.t).length c2) (pairsT b.t).length (prow (pairsT b.t)) := by
  obtain ⟨lv, pv, rfl, h2, h3⟩ := h
  obtain ⟨A, c, rfl⟩ := own_shape h2
  obtain ⟨A2, c2, rfl⟩ := own_shape h3
  exact ⟨A, c, A2, c2, rfl, h2, h3⟩
/-- an item pushed behind a list of items -/
theorem run_push24 {w : World} {B : Nat} {v : Value} {bs : List Buf} {b : Buf} {A : Option Addr} {c : Nat} {A2 : Option Addr} {c2 : Nat} (ty : TypeId) (ho : ItemsAt w B v bs) (hB : B ≤ w.heap.size) (h1 : bs.length ≤ 1000000)
    (hl : w.ownsRow B 9 1 (.slice A b.l.length c) b.l.length (strs b.l)) (hp : w.ownsRow B 91 2 (.slice A2 (pairsT b.t).length c2) (pairsT b.t).length (prow (pairsT b.t))) :
    ∃ v' w', (Builtin.append_ #[24, 24] ty #[v, .slice (some ⟨w.heap.size, 0, none⟩) 1 1]).run Try.prog (w.alloc (.cells (icells b.kd (.slice A b.l.length c) b.seed (.slice A2 (pairsT b.t).length c2)) 32)) = .ok v' w' ∧ ItemsAt w' B v' (bs ++ [b]) ∧ Below B w w' := by
  obtain ⟨i0, hi, hz0, hz1, hz2⟩ := info_parts info32b
  obtain ⟨ps, hps, hr, hall⟩ := ho
  have hb := (Below.refl w.heap.size w).alloc (Nat.le_refl _) (.cells (icells b.kd (.slice A b.l.length c) b.seed (.slice A2 (pairsT b.t).length c2)) 32)
  obtain ⟨v', w', h2, h3, h4, _, h5⟩ := run_append_own_at (P := Try.prog) (w.alloc (.cells (icells b.kd (.slice A b.l.length c) b.seed (.slice A2 (pairsT b.t).length c2)) 32)) B 24 ty 32 i0 _ 4 64 u24 hi hz0 hz1 hz2 rfl (by decide) v bs.length (itRow bs ps) (own_below hr hb) ⟨w.heap.size, 0, none⟩ 1 1 (icells b.kd (.slice A b.l.length c) b.seed (.slice A2 (pairsT b.t).length c2)).toList rfl (cells_at (ha_new rfl))
    (by intro u hu; simp [icells] at hu; rcases hu with rfl | rfl | rfl | rfl <;> rfl) (by unfold maxLen; omega) (by omega) (by have := hb.size; omega)
  have hsame : ∀ q, q < w.heap.size → v.ownBlock ≠ some q → w'.heap[q]? = w.heap[q]? := fun q hq hne => by
    rw [h4.block q (Nat.lt_of_lt_of_le hq hb.size) (fun e => hne e.symm), hb.block q hq]
  have hoth : ∀ {e : TypeId} {size n : Nat} {x : Value} {xs : List Value}, w.ownsRow B e size x n xs → e ≠ 32 → w'.ownsRow B e size x n xs := fun h he => own_same h (fun q hq hx => hsame q hq (fun e2 => by
    obtain ⟨_, c1, hc1⟩ := own_block h hx
    obtain ⟨_, c2, hc2⟩ := own_block hr e2
    rw [hc1] at hc2; simp only [Option.some.injEq, Obj.cells.injEq] at hc2; exact he hc2.2.1))
  refine ⟨v', w', h2, ⟨ps ++ [(.slice A b.l.length c, .slice A2 (pairsT b.t).length c2)], by simp [hps], by rw [itRow_snoc _ _ _ _ hps.symm, List.length_append]; exact h3, fun i x p hi hp2 => ?_⟩, (hb.mono hB).grown h4 (by have := hb.size; omega) (fun q hq => (own_block hr hq).1)⟩
  by_cases e : i < bs.length
  · rw [List.getElem?_append_left e] at hi
    rw [List.getElem?_append_left (by omega)] at hp2
    exact ⟨hoth (hall i x p hi hp2).1 (by decide), hoth (hall i x p hi hp2).2 (by decide)⟩
  · rw [List.getElem?_append_right (by omega)] at hi hp2
    have e1 := List.mem_of_getElem? hi
    have e2 := List.mem_of_getElem? hp2
    simp at e1 e2
    subst e1 e2
    exact ⟨hoth hl (by decide), hoth hp (by decide)⟩
/-- the store behind the first operations of a script, and the errors, at most 200 operations -/
def stA (l : List OpV) : Nat → Sto
  | 0 => newA
  | j + 1 => match l[j]? with
    | none => stA l j
    | some o => if j < 200 then doA (stA l j) o else stA l j
def errA (l : List OpV) (j : Nat) : Int := match l[j]? with
  | none => 0
  | some o => if j < 200 then refA (stA l j) o else 2
theorem good_new0 : Good newA := GoodB.no
theorem stA_good (l : List OpV) (j : Nat) : Good (stA l j) := by
  induction j with
  | zero => exact good_new0
  | succ j ih =>
    unfold stA
    split
    · exact ih
    · split
      · exact good_do ih _
      · exact ih
theorem doA_bound (A : Sto) (o : OpV) : (doA A o).bufs.length ≤ A.bufs.length + 1 ∧ A.shared ≤ (doA A o).shared ∧ (doA A o).shared ≤ A.shared + 1 := by
  rcases do_counts A o with ⟨h1, h2⟩ | ⟨_, h1, h2 | ⟨h2, _⟩⟩ <;> omega
theorem stA_bound (l : List OpV) (j : Nat) : (stA l j).bufs.length ≤ j ∧ 0 ≤ (stA l j).shared ∧ (stA l j).shared ≤ (j : Int) := by
  induction j with
  | zero => exact ⟨Nat.le_refl _, Int.le_refl _, Int.le_refl _⟩
  | succ j ih =>
    unfold stA
    split
    · omega
    · split
      · have := doA_bound (stA l j) ‹_›; omega
      · omega
open Go.ChangeShapes Go.WideShapes Go.ChangeAt Go.RowKit
open Go.ChangeMaps (open_string shut_string)
theorem own0 : ownKnob Try.prog.godebug = none := by kernel_rfl
theorem row_u9 : Try.prog.underlying 9 = some .string := by kernel_rfl
theorem row_u3 : Try.prog.underlying 3 = some (.int .i64) := by kernel_rfl
theorem row_u4 : Try.prog.underlying 4 = some .bool := by kernel_rfl
theorem laidOut0 : laidOutB Try.prog = true := by kernel_rfl
theorem cells39 : Try.prog.cellsOf 39 = 6 := by kernel_rfl
theorem cells9 : Try.prog.cellsOf 9 = 1 := by kernel_rfl
theorem cells3 : Try.prog.cellsOf 3 = 1 := by kernel_rfl
theorem flds39 : (Try.prog.fieldsOf 39).toList.map (fun f => (f.type, f.offset)) = [(3, 0), (3, 1), (3, 2), (3, 3), (3, 4), (9, 5)] := by kernel_rfl
theorem fields6 {fs : Array Field} {a b c d e g : Nat × Nat} (h : fs.toList.map (fun f => (f.type, f.offset)) = [a, b, c, d, e, g]) : ∃ f0 f1 f2 f3 f4 f5, fs = #[f0, f1, f2, f3, f4, f5] ∧ (f0.type, f0.offset) = a ∧ (f1.type, f1.offset) = b ∧ (f2.type, f2.offset) = c ∧ (f3.type, f3.offset) = d ∧ (f4.type, f4.offset) = e ∧ (f5.type, f5.offset) = g := by
  obtain ⟨l⟩ := fs
  match l, h with
  | [f0, f1, f2, f3, f4, f5], h => simp at h; exact ⟨f0, f1, f2, f3, f4, f5, rfl, by simp [h.1], by simp [h.2.1], by simp [h.2.2.1], by simp [h.2.2.2.1], by simp [h.2.2.2.2.1], by simp [h.2.2.2.2.2]⟩
theorem six_row {w : World} {a : Addr} {i : Nat} {cs : List Value} (hl : cs.length = 6) (h : ∀ j, j < 6 → w.cell? (a.add (i * 6 + j)) = cs[j]?) (hs : a.spot = none) :
    ∃ Cs t fr, w.heap[a.block]? = some (.cells Cs t fr) ∧ Cs.extract (a.off + i * 6) (a.off + i * 6 + 6) = cs.toArray := by
  have e : ∀ n, a.add n = ⟨a.block, a.off + n, none⟩ := fun n => by
    obtain ⟨b, o, s⟩ := a
    unfold Addr.add
    split
    · rename_i h; subst h; simp at hs; simp [hs]
    · rfl
  have h0 := h 0 (by omega)
  rw [e] at h0
  unfold World.cell? at h0
  simp only [] at h0
  cases hc : w.heap[a.block]? with
  | none => rw [hc, List.getElem?_eq_getElem (show 0 < cs.length by omega)] at h0; cases h0
  | some o =>
    cases o with
    | cells Cs t fr =>
      refine ⟨Cs, t, fr, rfl, ?_⟩
      have hj : ∀ j, j < 6 → Cs[a.off + i * 6 + j]? = cs[j]? := fun j hj => by
        have := h j hj
        rw [e] at this
        unfold World.cell? at this
        rw [hc] at this
        simpa [Nat.add_assoc] using this
      have h5 := hj 5 (by omega)
      rw [List.getElem?_eq_getElem (show 5 < cs.length by omega)] at h5
      have hz := (Array.getElem?_eq_some_iff.1 h5).1
      apply Array.ext_getElem?
      intro j
      by_cases hlt : j < 6
      · rw [Array.getElem?_extract, if_pos (by omega), hj j hlt]; simp
      · rw [Array.getElem?_eq_none (by simp; omega), Array.getElem?_eq_none (by simp; omega)]
    | _ => rw [hc, List.getElem?_eq_getElem (show 0 < cs.length by omega)] at h0; cases h0
section
variable {H : Type} {enc : TypeId × Value → H} {w : World} {base b0 : Nat} {sp : Nat → Bool} {held : Bool} {r : Reach} {v : Value} {d : DataW H} {p : List MemPlace}
set_option maxRecDepth 100000 in
theorem op_of {n : Nat} {cs : List Value} {x : DataW H × List MemPlace} (hl : cs.length = 6) (h : DataW.trod enc Try.prog w base sp held n 39 cs = some x) : ∃ o : OpV, cs.toArray = o.cells := by
  obtain ⟨f0, f1, f2, f3, f4, f5, hfs, e0, e1, e2, e3, e4, e5⟩ := fields6 flds39
  simp only [Prod.mk.injEq] at e0 e1 e2 e3 e4 e5
  have hu := u39
  rw [hfs] at hu
  obtain ⟨xs, k, hk, hxy, _, hxl, hf⟩ := DataW.trod_struct hu h
  match cs, hl with
  | [v0, v1, v2, v3, v4, v5], _ =>
    match xs, hxl with
    | [y0, y1, y2, y3, y4, y5], _ =>
      have g0 := hf 0 f0 rfl
      have g1 := hf 1 f1 rfl
      have g2 := hf 2 f2 rfl
      have g3 := hf 3 f3 rfl
      have g4 := hf 4 f4 rfl
      have g5 := hf 5 f5 rfl
      simp [e0, e1, e2, e3, e4, e5, cells3, cells9] at g0 g1 g2 g3 g4 g5
      obtain ⟨n0, q0, _, _⟩ := DataW.trod_int row_u3 g0
      obtain ⟨n1, q1, _, _⟩ := DataW.trod_int row_u3 g1
      obtain ⟨n2, q2, _, _⟩ := DataW.trod_int row_u3 g2
      obtain ⟨n3, q3, _, _⟩ := DataW.trod_int row_u3 g3
      obtain ⟨n4, q4, _, _⟩ := DataW.trod_int row_u3 g4
      obtain ⟨k5, q5, _⟩ := DataW.trod_string row_u9 g5
      simp at q0 q1 q2 q3 q4 q5
      subst q0 q1 q2 q3 q4 q5
      exact ⟨⟨n0, n1, n2, n3, n4, k5⟩, rfl⟩
theorem choose_list {α : Type} {P : Nat → α → Prop} : ∀ (n : Nat), (∀ i, i < n → ∃ x, P i x) → ∃ l : List α, l.length = n ∧ ∀ (i : Nat) (x : α), l[i]? = some x → P i x
  | 0, _ => ⟨[], rfl, fun i x h => by simp at h⟩
  | n + 1, h => by
    obtain ⟨l, h1, h2⟩ := choose_list n (fun i hi => h i (by omega))
    obtain ⟨x, hx⟩ := h n (by omega)
    refine ⟨l ++ [x], by simp [h1], fun i y hy => ?_⟩
    by_cases e : i < n
    · rw [List.getElem?_append_left (by omega)] at hy; exact h2 i y hy
    · rw [List.getElem?_append_right (by omega)] at hy
      have hm := List.mem_of_getElem? hy
      simp at hm; subst hm
      have hl := (List.getElem?_eq_some_iff.1 hy).1
      simp at hl
      obtain rfl : i = n := by omega
      exact hx
set_option maxRecDepth 100000 in
theorem open_ops (hv : Value.okWide Try.prog w r b0 22 v) (h : DataW.Trod enc Try.prog w base sp held 22 v d p) :
    ∃ (A : Option Addr) (n c : Nat) (l : List OpV), v = .slice A n c ∧ OpsAt w A n l ∧ n ≤ c := by
  obtain ⟨A, n, c, rfl⟩ := okWide_slice u22 hv
  obtain ⟨fuel, hf⟩ := h
  rcases Deep.open_slice u22 hf with ⟨hc, _⟩ | ⟨a, len, cap, m, k, D, Pl, hc, _, hl, _, hmm, _, hall⟩
  · simp [Value.cells] at hc
    obtain ⟨rfl, rfl, rfl⟩ := hc
    exact ⟨_, _, _, [], rfl, ⟨rfl, fun i o hi => by simp at hi⟩, Nat.le_refl _⟩
  · simp [Value.cells] at hc
    obtain ⟨rfl, rfl, rfl⟩ := hc
    have hlm : n ≤ m := by rw [hmm]; split <;> omega
    have each : ∀ i, i < n → ∃ o : OpV, ∃ (b off : Nat) (Cs : Array Value) (t : TypeId) (fr : Nat × Nat), some a = some ⟨b, off, none⟩ ∧ w.heap[b]? = some (.cells Cs t fr) ∧ Cs.extract (off + i * 6) (off + i * 6 + 6) = o.cells := fun i hi => by
      obtain ⟨cs', h1, h2⟩ := hall i (by omega)
      rw [cells39] at h1
      obtain ⟨_, hlen, hcell⟩ := World.cells?_some h1
      obtain ⟨o, ho⟩ := op_of hlen h2
      have hs : a.spot = none := by
        obtain ⟨cs0, k1, _⟩ := hall 0 (by omega)
        rw [cells39] at k1
        obtain ⟨_, hlen0, hcell0⟩ := World.cells?_some k1
        have z0 := hcell0 0 (by omega)
        rw [List.getElem?_eq_getElem (show 0 < cs0.length by omega)] at z0
        unfold World.cell? at z0
        simp [Addr.add] at z0
        split at z0
        · split at z0
          · cases z0
          · rename_i h; simpa using h
        · cases z0
      obtain ⟨Cs, t, fr, q1, q2⟩ := six_row (w := w) (a := a) (i := i) hlen (fun j hj => by rw [← hcell j (by omega), Addr.add_add]) hs
      refine ⟨o, a.block, a.off, Cs, t, fr, ?_, q1, by rw [q2, ho]⟩
      obtain ⟨b, off, s⟩ := a
      simp at hs; simp [hs]
    obtain ⟨l, hln, hall2⟩ := choose_list n each
    exact ⟨_, _, _, l, rfl, ⟨hln, hall2⟩, hl⟩
end
end Go.Proofs.Ytbhdgeoljlhmcaa
