/- S24, S25 in one text. -/
import Derived.Test.YtbhdgeoljlhmcaaS22
import Derived.Outline
/- What an operation does, by the program: put, remove, sort. -/
namespace Go.Proofs.Ytbhdgeoljlhmcaa
open Go.RowKit Go.Proofs.Ytbhdgeoljlhmcaa.Nm Go.Proofs.Ytbhdgeoljlhmcaa.St
theorem ba_beq (x y : ByteArray) : (x.toList == y.toList) = decide (x = y) := by
  rw [ByteArray.toList_eq, ByteArray.toList_eq]
  by_cases h : x = y
  · subst h; simp
  · rw [decide_eq_false h, beq_eq_false_iff_ne]
    exact fun e => h (ByteArray.ext (Array.toList_inj.1 e))
theorem strs_get {l : List ByteArray} {j : Nat} {x : ByteArray} (h : l[j]? = some x) : (strs l)[j]? = some (.string x) := by unfold strs; rw [List.getElem?_map, h]; rfl
/-- a text of a row of one's own changed -/
theorem own_setS {w : World} {B p cap : Nat} {l : List ByteArray} (h : w.ownsRow B 9 1 (.slice (some ⟨p, 0, none⟩) l.length cap) l.length (strs l)) (i : Nat) (k : ByteArray) :
    (w.setCell ⟨p, i, none⟩ (.string k)).ownsRow B 9 1 (.slice (some ⟨p, 0, none⟩) l.length cap) (l.set i k).length (strs (l.set i k)) := by
  rcases h.2 with ⟨h0, _⟩ | ⟨p0, cap0, cur, hv, hB, hg, h1, h2, h3, h4⟩
  · cases h0
  · cases hv
    refine ⟨by simp [strs], Or.inr ⟨p, cap, cur.setIfInBounds i (.string k), by simp, hB, hs_new hg, by simpa using h1, h2, by simpa using h3, ?_⟩⟩
    rw [Array.toList_setIfInBounds, List.length_set, List.take_set, h4]
    unfold strs
    rw [List.map_set]
theorem Delete_any (p cap B : Nat) (l : List ByteArray) (i : Nat) (hi : i < l.length) (w : World) (ho : w.ownsRow B 9 1 (.slice (some ⟨p, 0, none⟩) l.length cap) l.length (strs l)) :
    Calls Try.prog 53 #[.slice (some ⟨p, 0, none⟩) l.length cap, .int .i64 (i : Int), .int .i64 ((i + 1 : Nat) : Int)] w fun e w' => e = .returned (.slice (some ⟨p, 0, none⟩) (l.length - 1) cap) ∧
      w'.ownsRow B 9 1 (.slice (some ⟨p, 0, none⟩) (l.length - 1) cap) (l.eraseIdx i).length (strs (l.eraseIdx i)) ∧ Kept [p] w w' := by
  rcases ho.2 with ⟨h0, _⟩ | ⟨p0, cap0, cur, hv, hB, hg, h1, h2, h3, h4⟩
  · cases h0
  · cases hv
    have hcell : ∀ j, j < l.length → w.cell? ⟨p, 0 + j, none⟩ = some (.string (l.getD j ByteArray.empty)) := fun j hj => by
      rw [Nat.zero_add, cell_of_row _ _ _ _ _ _ hg, ← Array.getElem?_toList]
      have h5 := strs_get (l := l) (j := j) (x := l.getD j ByteArray.empty) (by rw [List.getD_eq_getElem?_getD, List.getElem?_eq_getElem hj]; rfl)
      rw [← h4, List.getElem?_take_of_lt (by omega)] at h5
      exact h5
    have HC := Try.slices_Delete_string_cells p 0 l.length cap i (i + 1) (fun j => l.getD j ByteArray.empty) w h1 (by unfold maxLen at h2; omega) (by omega) hi hcell (fun j hj => frozen_of_row _ _ _ _ _ hg)
    refine HC.mono ?_
    rintro e w' ⟨rfl, q, rfl⟩
    have hall : ((Lib.strsOf (fun j => l.getD j ByteArray.empty) l.length).map Go.Proofs.encStr) = strs l := by
      unfold Lib.strsOf strs
      apply List.ext_getElem?
      intro j
      by_cases hj : j < l.length
      · simp [hj, Go.Proofs.encStr]
      · rw [List.getElem?_eq_none (by simp; omega), List.getElem?_eq_none (by simp; omega)]
    have hvs : (((Lib.strsOf (fun j => l.getD j ByteArray.empty) l.length).take i ++ (Lib.strsOf (fun j => l.getD j ByteArray.empty) l.length).drop (i + 1) ++ List.replicate (i + 1 - i) []).map Go.Proofs.encStr) = strs (l.eraseIdx i) ++ [Go.Proofs.encStr []] := by
      rw [List.map_append, List.map_append, List.map_take, List.map_drop, hall, Nat.add_sub_cancel_left]
      unfold strs
      rw [List.eraseIdx_eq_take_drop_succ, List.map_append, List.map_take, List.map_drop]
      rfl
    rw [hvs]
    have hle : (l.eraseIdx i).length = l.length - 1 := by rw [List.length_eraseIdx, if_pos hi]
    have hg' : (w.drewN q).heap[p]? = some (.cells cur 9 (0, 0)) := hg
    obtain ⟨cur', g1, g2, g3⟩ := heap_setCells_row p 9 (strs (l.eraseIdx i) ++ [Go.Proofs.encStr []]) 0 (w.drewN q) cur hg'
    refine ⟨by rw [Nat.add_sub_cancel_left], ⟨by rw [strs_length, Nat.mul_one], Or.inr ⟨p, cap, cur', by rw [hle], hB, g1, by omega, h2, by rw [g2]; exact h3, ?_⟩⟩, Nm.Kept.setCells (by simp) _ _ _ ((Nm.Kept.refl [p] w).below (below_drewN (Below.refl _ _) q))⟩
    apply List.ext_getElem?
    intro j
    rw [hle, Nat.mul_one]
    by_cases hj : j < l.length - 1
    · rw [List.getElem?_take_of_lt hj, Array.getElem?_toList, g3, if_pos (by refine ⟨Nat.zero_le _, ?_, by omega⟩; simp [strs, hle]; omega), Nat.sub_zero, List.getElem?_append_left (by rw [strs_length, hle]; exact hj)]
    · rw [List.getElem?_eq_none (by simp; omega), List.getElem?_eq_none (by rw [strs_length, hle]; omega)]
theorem own_s {w : World} {b n : Nat} {v : Value} {xs : List Value} (h : w.ownsRow b 9 1 v n xs) (hn : 1 ≤ n) : ∃ p cap, v = .slice (some ⟨p, 0, none⟩) n cap ∧ n ≤ cap := by
  rcases h.2 with ⟨_, h0⟩ | ⟨p, cap, cur, hv, _, _, h1, _⟩
  · omega
  · exact ⟨p, cap, hv, h1⟩
theorem IsSorted_any (l : List ByteArray) (v : Value) (B : Nat) (hl : l.length ≤ 1000000) (w : World) (ho : w.ownsRow B 9 1 v l.length (strs l)) :
    Calls Try.prog 55 #[v] w fun e w' => e = .returned (.bool (sortedB l)) ∧ Below w.heap.size w w' := by
  rcases ho.2 with ⟨rfl, h0⟩ | ⟨p, cap, cur, rfl, hB, hg, h1, h2, h3, h4⟩
  · obtain rfl := List.length_eq_zero_iff.1 h0
    refine (Try.slices_IsSorted_string_none none 0 w).mono ?_
    rintro e w' ⟨rfl, rfl⟩
    exact ⟨rfl, Below.refl _ _⟩
  · have HC := Try.slices_IsSorted_string p 0 cap l.toArray w (fun j hj => by
      have hj' : j < l.length := by simpa using hj
      rw [Nat.zero_add, cell_of_row _ _ _ _ _ _ hg, ← Array.getElem?_toList]
      have h5 := strs_get (l := l) (j := j) (x := l.toArray[j]!) (by rw [getElem!_pos l.toArray j hj, List.getElem?_eq_getElem hj']; simp)
      rw [← h4, List.getElem?_take_of_lt (by omega)] at h5
      exact h5) (by simpa using (show l.length < 4611686018427387904 by omega))
    rw [List.size_toArray] at HC
    refine HC.mono ?_
    rintro e w' ⟨rfl, q, rfl⟩
    refine ⟨?_, below_drewN (Below.refl _ _) q⟩
    unfold sortedB
    rw [List.size_toArray]
end Go.Proofs.Ytbhdgeoljlhmcaa
/- What an operation does, by the program: put, remove, sort, walked. -/
namespace Go.Proofs.Ytbhdgeoljlhmcaa
open Go.RowKit Go.Proofs.Ytbhdgeoljlhmcaa.Nm Go.Proofs.Ytbhdgeoljlhmcaa.St
set_option linter.unusedSimpArgs false
set_option maxHeartbeats 4000000 in
set_option maxRecDepth 100000 in
theorem Do_5 (s : Nat) (A : Sto) (rs : List Row) (hA : Good A) (hm : A.bufs.length ≤ 100000) (hs0 : 0 ≤ A.shared) (hs1 : A.shared ≤ 100000) (o : OpV) (hk : o.kind = 5) (hr : refA A o = 0) (w : World) (h : StoreAt w s A rs) :
    Calls Try.prog 19 #[.pointer (some ⟨s, 0, none⟩), .agg o.cells] w fun e w' => DoPost s A rs o w e w' := by
  have hlim : formS o = true → (A.buf o.fr).kd = 1 → 0 ≤ o.at_ ∧ o.at_ < ((A.buf o.fr).l.length : Int) := fun hf hkd => by
    have h2 := hr
    unfold refA at h2
    simp only [hf, hk, show useG 5 = ⟨true, false, true, false, false, 1⟩ from rfl, hkd] at h2
    simp at h2
    omega
  have HLM := Lib.hid hlim
  clear hlim
  have HS := Lib.hid h
  have HA := Lib.hid hA
  have HR := Lib.hid hr
  have hf : formS o = true := by
    cases hq : formS o with
    | true => rfl
    | false => unfold refA at hr; rw [hq] at hr; simp at hr
  have hfr := form_fr hf
  have HF := Lib.hid hf
  have HFT : Hid (∀ q, Foot s rs q → q < w.heap.size) := Lib.hid (fun q hq => h.lt hq)
  have hsw : s < w.heap.size := HFT.out s (Or.inl rfl)
  clear h hA hf
  go_enter Try.func19, Try.ntmps19
  go_upto_region 1 with (fail)
  have hb0 := (Below.refl w.heap.size w).alloc (Nat.le_refl _) (.cells o.cells 39 (0, 0))
  refine wp_world (fun W => Below w.heap.size w W ∧ W.heap[w.heap.size]? = some (.cells o.cells 39 (0, 0))) ⟨hb0, ha_new rfl⟩ ?_
  clear hb0
  rintro W ⟨hb, h1⟩
  replace HS := Lib.hid (HS.out.below hb)
  apply wp_region_lit
  refine wl_k rfl (fun K hK => ?_); go_simp; refine hK _ ?_; clear hK K
  ((with_reducible apply wl_rowG); exact rfl; exact rfl; exact rowO h1)
  simp only [put_lit, List.set_cons_zero, List.set_cons_succ]
  refine wl_ck rfl (fun K hK => ?_); go_simp; refine ⟨_, _, ⟨rfl, rfl⟩, hK _ _ ⟨_, refused_any s A rs HA.out o _ HS.out, ?_⟩⟩; clear hK K; rintro e w1 ⟨rfl, hb1⟩; refine ⟨_, rfl, ?_⟩; simp only [put_lit, List.set_cons_zero, List.set_cons_succ]
  rw [hr]
  replace h1 := below_look hb1 h1
  replace HS := Lib.hid (HS.out.below (hb1.mono (Nat.le_refl _)))
  replace hb := hb.trans (hb1.mono hb.size)
  clear hb1 hr
  obtain ⟨kind, fr, to, at_, n, key⟩ := o
  simp only at hk
  subst hk
  simp only at hfr
  obtain ⟨f, rfl⟩ : ∃ f : Nat, fr = (f : Int) := ⟨fr.toNat, by omega⟩
  have hf8 : (f : Int) < 8 := by omega
  have hnm := nsOf_get (rs := rs) (id_names HA.out hfr.1 hfr.2)
  rw [Int.toNat_natCast] at hnm
  clear hfr
  have c1 := (op_cell h1).2.1
  have c6 := sc_name HS.out.main hnm
  go_upto_region 4 with (fail)
  refine wp_region_held_drew (S := Kept [] w1) mixed (Kept.drew [] w1) (fun hS => ?_)
  refine ha_k (i := 0) rfl (by kernel_rfl) (by kernel_rfl) (by kernel_rfl) (fun _ _ _ _ h => h) hS rfl (fun K hK => ?_); go_simp; refine hK _ ?_; clear hK K; try simp only [put_lit, List.set_cons_zero, List.set_cons_succ]
  refine ha_k (i := 1) rfl (by kernel_rfl) (by kernel_rfl) (by kernel_rfl) (fun _ _ _ _ h => h) hS rfl (fun K hK => ?_); go_simp; refine hK _ ?_; clear hK K; try simp only [put_lit, List.set_cons_zero, List.set_cons_succ]
  refine ha_val (i := 2) rfl (by kernel_rfl) (by kernel_rfl) (by kernel_rfl) (fun _ _ _ h => h) hS rfl (fun w' hw' => ex_one rfl (one3 (hw'.cell c1 (by simp <;> omega)))) ?_; try simp only [put_lit, List.set_cons_zero, List.set_cons_succ]
  refine ha_k (i := 3) rfl (by kernel_rfl) (by kernel_rfl) (by kernel_rfl) (fun _ _ _ _ h => h) hS rfl (fun K hK => ?_); go_simp; refine hK _ ?_; clear hK K; try simp only [put_lit, List.set_cons_zero, List.set_cons_succ]
  refine ha_k (i := 4) rfl (by kernel_rfl) (by kernel_rfl) (by kernel_rfl) (fun _ _ _ _ h => h) hS rfl (fun K hK => ?_); go_simp; refine hK _ ?_; clear hK K; try simp only [put_lit, List.set_cons_zero, List.set_cons_succ]
  refine ha_k (i := 5) rfl (by kernel_rfl) (by kernel_rfl) (by kernel_rfl) (fun _ _ _ _ h => h) hS rfl (fun K hK => ?_); go_simp; refine hK _ ?_; clear hK K; try simp only [put_lit, List.set_cons_zero, List.set_cons_succ]
  refine ha_val (i := 6) rfl (by kernel_rfl) (by kernel_rfl) (by kernel_rfl) (fun _ _ _ h => h) hS rfl (fun w' hw' => ex_one rfl (one80 (hw'.cell c6 (by simp <;> omega)))) ?_; try simp only [put_lit, List.set_cons_zero, List.set_cons_succ]
  refine ha_k (i := 7) rfl (by kernel_rfl) (by kernel_rfl) (by kernel_rfl) (fun _ _ _ _ h => h) hS rfl (fun K hK => ?_); go_simp; refine hK _ ?_; clear hK K; try simp only [put_lit, List.set_cons_zero, List.set_cons_succ]
  refine wpAnyH_done (by kernel_rfl) ?_ _
  replace HS := Lib.hid (HS.out.below (Below.refl w1.heap.size w1).drew)
  replace hb := hb.drew
  replace h1 : w1.drew.heap[w.heap.size]? = _ := h1
  clear c1 c6 hS
  generalize w1.drew = W at *
  have hcs := op_cell h1
  obtain ⟨c0, c1, c2, c3, c4, c5⟩ := hcs
  simp only at c0 c1 c2 c3 c4 c5
  have hkd : (A.buf (f : Int)).kd = 1 := by
    have := HR.out
    apply Classical.byContradiction
    intro hne
    unfold refA at this
    rw [HF.out] at this
    simp only [Bool.true_eq_false, if_false] at this
    rw [if_pos ⟨by decide, hne⟩] at this
    cases this
  obtain ⟨k, hk⟩ : ∃ k, A.id (f : Int) = some k := by
    cases hq : A.id (f : Int) with
    | none => rw [buf_none hq] at hkd; simp [noBuf] at hkd
    | some k => exact ⟨k, rfl⟩
  rw [hk]
  obtain ⟨r, hr, hbk, hB, hG, hns⟩ := HS.out.row HA.out hk
  simp only [Option.map_some, gAt_eq hr]
  rw [show bp (some r.g) = .pointer (some ⟨r.g, 0, none⟩) from rfl]
  have HRw := Lib.hid hr
  have HKk := Lib.hid hk
  have HBk := Lib.hid hbk
  have HB := Lib.hid hB
  have HG := Lib.hid hG
  have HKD := Lib.hid hkd
  clear hr hk hbk hB hG hns hkd hnm
  have hlm := HLM.out HF.out HKD.out
  simp only at hlm
  have hlen := HG.out.len.1
  obtain ⟨a, rfl⟩ : ∃ a : Nat, at_ = (a : Int) := ⟨at_.toNat, by omega⟩
  have ham : a < (A.buf (f : Int)).l.length := by omega
  clear hlm HLM
  go_upto_region 18 with (fail)
  apply wp_region_lit
  refine wl_k rfl (fun K hK => ?_); go_simp; refine hK _ ?_; clear hK K
  refine wl_k rfl (fun K hK => ?_); go_simp; refine hK _ ?_; clear hK K
  ((with_reducible apply wl_oneG); exact rfl; exact rfl; exact one3 c1)
  refine wl_ck rfl (fun K hK => ?_); go_simp; refine ⟨_, _, ⟨rfl, rfl⟩, hK _ _ ⟨_, own_at s A rs HA.out (f : Int) (by omega) hf8 k HKk.out hm hs0 hs1 _ HS.out, ?_⟩⟩; clear hK K; rintro e w2 ⟨rs2, k2, r2, rfl, hs2, hid2, hr2, hb2, hran2⟩; refine ⟨_, rfl, ?_⟩; simp only [put_lit, List.set_cons_zero, List.set_cons_succ]
  have hne : ∀ q, Foot s rs2 q → q ≠ w.heap.size := fun q hq e => by
    have hz := heap_lt h1
    rcases hran2.foot q hq with h9 | h9
    · have := HFT.out q h9; omega
    · omega
  replace h1 := (hran2.block w.heap.size (heap_lt h1) (fun hq => by have := HFT.out _ hq; omega)).trans h1
  have HRAN := Lib.hid ((Ran.ofBelow hb).trans hran2)
  have HS2 := Lib.hid hs2
  have HID := Lib.hid hid2
  have HR2 := Lib.hid hr2
  have HB2 := Lib.hid hb2
  have hbf := hs2.rows k2 r2 _ hr2 hb2
  have hgo : r2.g ≠ w.heap.size := hne _ (foot_row hr2)
  have hlo : r2.lv.ownBlock ≠ some w.heap.size := fun e => hne _ (Or.inr ⟨k2, r2, hr2, Or.inr (Or.inl e)⟩) rfl
  have hpo : r2.pv.ownBlock ≠ some w.heap.size := fun e => hne _ (Or.inr ⟨k2, r2, hr2, Or.inr (Or.inr e)⟩) rfl
  clear hs2 hid2 hr2 hb2 hran2 hne HS HRw HKk HBk HB hb c0 c1 c2 c3 c4 c5 hm hs0 hs1 HFT
  have hcs := op_cell h1
  obtain ⟨c0, c1, c2, c3, c4, c5⟩ := hcs
  simp only at c0 c1 c2 c3 c4 c5
  have HBF := Lib.hid hbf
  clear hbf
  refine wl_k rfl (fun K hK => ?_); go_simp; refine hK _ ?_; clear hK K
  obtain ⟨g, lv, pv⟩ := r2
  simp only at hgo hlo hpo
  obtain ⟨p, cap, rfl, hcap⟩ := own_s HBF.out.2.1 (by omega)
  have hpo2 : p ≠ w.heap.size := by simpa [Value.ownBlock] using hlo
  have hoD : w.heap.size ∉ [g, p] := by simp; exact ⟨fun e => hgo e.symm, fun e => hpo2 e.symm⟩
  have HBD := Lib.hid (HBF.out.same (w' := w2.drew) (fun q _ _ => rfl))
  have g1 := (bc_cell HBD.out.1).2.1
  have HDL := Lib.hid (Delete_any p cap 0 (A.buf (f : Int)).l a ham w2.drew HBD.out.2.1)
  have hwr : IntKind.i64.wrap ((a : Int) + 1) = ((a + 1 : Nat) : Int) := by rw [wrap_small _ (by omega) (by omega)]; omega
  clear hlo hpo hgo hpo2
  go_upto_region 19 with (fail)
  refine wp_region_held_drew (S := Kept [g, p] w2) mixed (Kept.drew [g, p] w2) (fun hS => ?_)
  refine ha_k (i := 0) rfl (by kernel_rfl) (by kernel_rfl) (by kernel_rfl) (fun _ _ _ _ h => h) hS rfl (fun K hK => ?_); go_simp; refine hK _ ?_; clear hK K; try simp only [put_lit, List.set_cons_zero, List.set_cons_succ]
  refine ha_k (i := 1) rfl (by kernel_rfl) (by kernel_rfl) (by kernel_rfl) (fun _ _ _ _ h => h) hS rfl (fun K hK => ?_); go_simp; refine hK _ ?_; clear hK K; try simp only [put_lit, List.set_cons_zero, List.set_cons_succ]
  refine ha_k (i := 2) rfl (by kernel_rfl) (by kernel_rfl) (by kernel_rfl) (fun _ _ _ _ h => h) hS rfl (fun K hK => ?_); go_simp; refine hK _ ?_; clear hK K; try simp only [put_lit, List.set_cons_zero, List.set_cons_succ]
  refine ha_k (i := 3) rfl (by kernel_rfl) (by kernel_rfl) (by kernel_rfl) (fun _ _ _ _ h => h) hS rfl (fun K hK => ?_); go_simp; refine hK _ ?_; clear hK K; try simp only [put_lit, List.set_cons_zero, List.set_cons_succ]
  refine ha_k (i := 5) rfl (by kernel_rfl) (by kernel_rfl) (by kernel_rfl) (fun _ _ _ _ h => h) hS rfl (fun K hK => ?_); go_simp; refine hK _ ?_; clear hK K; try simp only [put_lit, List.set_cons_zero, List.set_cons_succ]
  (refine ha_val (i := 6) rfl (by kernel_rfl) (by kernel_rfl) (by kernel_rfl) (fun _ _ _ h => h) hS rfl (fun w' hw' => ex_one rfl (one3 (hw'.cell c3 hoD))) ?_; try simp only [put_lit, List.set_cons_zero, List.set_cons_succ])
  refine ha_k (i := 7) rfl (by kernel_rfl) (by kernel_rfl) (by kernel_rfl) (fun _ _ _ _ h => h) hS rfl (fun K hK => ?_); go_simp; refine hK _ ?_; clear hK K; try simp only [put_lit, List.set_cons_zero, List.set_cons_succ]
  (refine ha_val (i := 8) rfl (by kernel_rfl) (by kernel_rfl) (by kernel_rfl) (fun _ _ _ h => h) hS rfl (fun w' hw' => ex_one rfl (one3 (hw'.cell c3 hoD))) ?_; try simp only [put_lit, List.set_cons_zero, List.set_cons_succ])
  refine ha_k (i := 9) rfl (by kernel_rfl) (by kernel_rfl) (by kernel_rfl) (fun _ _ _ _ h => h) hS rfl (fun K hK => ?_); go_simp; refine hK _ ?_; clear hK K; try simp only [put_lit, List.set_cons_zero, List.set_cons_succ]
  try rw [hwr]
  refine ha_do (i := 4) (by kernel_rfl) rfl rfl (ex_one rfl (one29 g1)) hS ?_; try simp only [put_lit, List.set_cons_zero, List.set_cons_succ]
  refine ha_call (i := 10) (by kernel_rfl) rfl rfl (fun K hK => ?_); go_simp; refine ⟨_, _, ⟨rfl, rfl⟩, hK _ _ ⟨_, HDL.out, ?_⟩⟩; clear hK K; rintro e w3 ⟨rfl, hown, hK3⟩
  refine ⟨_, rfl, hS.also hK3 (by simp), ?_⟩
  replace hS := hS.also hK3 (D := [g, p]) (by simp)
  try simp only [put_lit, List.set_cons_zero, List.set_cons_succ]
  have hsame : ∀ q, q < w2.heap.size → (Value.slice (some ⟨p, 0, none⟩) (A.buf (f : Int)).l.length cap).ownBlock ≠ some q → w3.heap[q]? = w2.heap[q]? := fun q hq hne => by
    have := hK3.block q hq (by simp; intro e; exact hne (by rw [e]; rfl))
    exact this
  have hg := HBF.out.gAt1 hsame
  refine ha_k (i := 11) rfl (by kernel_rfl) (by kernel_rfl) (by kernel_rfl) (fun _ _ _ _ h => h) hS rfl (fun K hK => ?_); go_simp; refine hK _ ?_; clear hK K; try simp only [put_lit, List.set_cons_zero, List.set_cons_succ]
  refine ha_k (i := 12) rfl (by kernel_rfl) (by kernel_rfl) (by kernel_rfl) (fun _ _ _ _ h => h) hS rfl (fun K hK => ?_); go_simp; refine hK _ ?_; clear hK K; try simp only [put_lit, List.set_cons_zero, List.set_cons_succ]
  refine ha_storeC (i := 13) (by kernel_rfl) rfl rfl 29 _ _ rfl g 1 (.slice (some ⟨p, 0, none⟩) ((A.buf (f : Int)).l.length - 1) cap) rfl rfl info29 rfl (by rw [(bc_cell hg).2.1]; rfl) (frozen_of_row _ _ _ _ _ hg) (hS.setCell (by simp) 1 _) (fun hS => ?_); try simp only [put_lit, List.set_cons_zero, List.set_cons_succ]
  refine wpAnyH_done (by kernel_rfl) ?_ _
  have hfin := HS2.out.changed HID.out HR2.out HB2.out hS (fun q hq => by simp only [List.mem_cons, List.not_mem_nil, or_false] at hq; rcases hq with e | e; exact Or.inl e; exact Or.inr (Or.inl (by rw [e]; rfl))) (r' := ⟨g, .slice (some ⟨p, 0, none⟩) ((A.buf (f : Int)).l.length - 1) cap, pv⟩) rfl (Or.inl rfl) (Or.inl rfl) (HBF.out.setList hsame (l' := (A.buf (f : Int)).l.eraseIdx a) (by have h9 : ((A.buf (f : Int)).l.eraseIdx a).length = (A.buf (f : Int)).l.length - 1 := by { rw [List.length_eraseIdx, if_pos ham] }; rw [h9] at hown ⊢; exact hown))
  clear hsame hg hown hK3 hS g1 c0 c1 c2 c3 c4 c5 h1 hoD HDL HBD
  have HFIN := Lib.hid hfin
  clear hfin
  go_wp2_with fail
  go_ret
  exact ⟨congrArg (fun z => Ending.returned (Value.int .i64 z)) HR.out.symm, _, by rw [doA_ok HR.out]; skip; exact HFIN.out.1, HRAN.out.trans HFIN.out.2⟩
end Go.Proofs.Ytbhdgeoljlhmcaa
