/- The order of trees: compare and lists. -/
import Derived.Test.YtokmaehefenpmaaDoorO1
import Derived.Test.YtokmaehefenpmaaDoorA3
namespace Go.Proofs.YtokmaehefenpmaaDoor
open Go.RowKit Go.Proofs.YtokmaehefenpmaaDoor.Nm
set_option linter.unusedSimpArgs false
def CmpC (t : Ty) : Prop := ∀ (u : Ty) (w : World) (D D' : Nat → Prop) (row row' : Array Value), TyAt w D t row → TyAt w D' u row' →
  Calls Tryd.prog 55 #[.agg row, .agg row'] w fun e w' => e = .returned (.int .i64 (sg (cmpTy t u))) ∧ Below w.heap.size w w'
theorem cmpTys_step {ts us : List Ty} {j : Nat} {t u : Ty} (ht : ts[j]? = some t) (hu : us[j]? = some u) : cmpTys (ts.drop j) (us.drop j) = (cmpTy t u).then (cmpTys (ts.drop (j + 1)) (us.drop (j + 1))) := by
  obtain ⟨h1, e1⟩ := List.getElem?_eq_some_iff.1 ht
  obtain ⟨h2, e2⟩ := List.getElem?_eq_some_iff.1 hu
  rw [List.drop_eq_getElem_cons h1, List.drop_eq_getElem_cons h2, e1, e2, cmpTys]
theorem cmpTys_end {ts us : List Ty} {j : Nat} (h : ts.length ≤ j ∨ us.length ≤ j) (h1 : j ≤ ts.length) (h2 : j ≤ us.length) : sg (cmpTys (ts.drop j) (us.drop j)) = sg (cI ts.length us.length) := by
  unfold cI
  by_cases e1 : ts.length ≤ j
  · rw [List.drop_of_length_le e1]
    by_cases e2 : us.length ≤ j
    · rw [List.drop_of_length_le e2, if_neg (by omega), if_neg (by omega)]; rfl
    · rw [List.drop_eq_getElem_cons (by omega), if_pos (by omega)]; rfl
  · have e2 : us.length ≤ j := by omega
    rw [List.drop_of_length_le e2, List.drop_eq_getElem_cons (show j < ts.length by omega), if_neg (by omega), if_pos (by omega)]; rfl
set_option maxHeartbeats 2000000 in
set_option maxRecDepth 100000 in
theorem lists_of (ts us : List Ty) (ih : ∀ t, t ∈ ts → CmpC t) (A A' : Option Addr) (l c l' c' : Nat) (w : World) (D D' : Nat → Prop) (h : TysAt w D ts A l c) (h' : TysAt w D' us A' l' c') :
    Calls Tryd.prog 79 #[.slice A l c, .slice A' l' c', .func (.func 55) #[] #[]] w fun e w' => e = .returned (.int .i64 (sg (cmpTys ts us))) ∧ Below w.heap.size w w' := by
  have HT := Lib.hid h
  have HU := Lib.hid h'
  have HL := Lib.hid h.len
  have HL' := Lib.hid h'.len
  have HI := Lib.hid ih
  have hcm := h.cap
  have hmx := h.max
  have hcm' := h'.cap
  have hmx' := h'.max
  unfold maxLen at hmx hmx'
  clear h h' ih
  have hb := Below.refl w.heap.size w
  go_enter Tryd.func79, Tryd.ntmps79
  go_wp2_with fail
  go_loopw [7] (fun i wr => ∃ j : Nat, j ≤ l ∧ j ≤ l' ∧ i = .int .i64 (j : Int) ∧ Hid (cmpTys ts us = cmpTys (ts.drop j) (us.drop j)) ∧ Below w.heap.size w wr) (fun i _ => l - (intOf i).toNat)
  case atStart => exact ⟨0, by omega, by omega, rfl, Lib.hid rfl, hb⟩
  case round =>
    clear hb
    obtain ⟨j, hj, hj', rfl, HR, hb⟩ := hrel
    by_cases hlt : j < l
    · have hltI : (j : Int) < (l : Int) := by omega
      by_cases hlt' : j < l'
      · have hltJ : (j : Int) < (l' : Int) := by omega
        obtain ⟨b, off, t, row, rfl, -, ht, -⟩ := HT.out.get hlt
        obtain ⟨b', off', u, row', rfl, -, hu, -⟩ := HU.out.get hlt'
        obtain ⟨row, hrow, hta⟩ := (HT.out.old hb).rowK ht
        obtain ⟨row', hrow', hua⟩ := (HU.out.old hb).rowK hu
        have HTA := Lib.hid hta
        have HUA := Lib.hid hua
        have HE := Lib.hid (HI.out t (List.mem_of_getElem? ht) u)
        have HS := Lib.hid (cmpTys_step ht hu)
        obtain ⟨v, hv⟩ : ∃ v, v = sg (cmpTy t u) := ⟨_, rfl⟩
        have HC : Hid (∀ w', Below wr.heap.size wr w' → Calls Tryd.prog 55 #[.agg row, .agg row'] w' fun e w2 => e = .returned (.int .i64 v) ∧ Below w'.heap.size w' w2) := Lib.hid fun w' hw' => by
          rw [hv]
          exact HE.out w' D D' row row' (HTA.out.old hw') (HUA.out.old hw')
        by_cases h0 : v = 0
        · have e1 : (v != 0) = false := by simp [h0]
          have HR2 : Hid (cmpTys ts us = cmpTys (ts.drop (j + 1)) (us.drop (j + 1))) := Lib.hid (by
            rw [HR.out, HS.out]
            cases hq : cmpTy t u with
            | lt => rw [hv, hq] at h0; exact absurd h0 (by decide)
            | gt => rw [hv, hq] at h0; exact absurd h0 (by decide)
            | eq => rfl)
          clear hta hua ht hu HE HTA HUA HR HS hv h0
          go_upto_region 4 with (fail)
          refine wp_region_belowAll mixed (by kernel_rfl) ?_
          (with_reducible refine wq_k ?_ ?_); exact rfl; intro K hK; go_simp; (with_reducible refine hK _ ?_); clear hK K
          (with_reducible refine wq_k ?_ ?_); exact rfl; intro K hK; go_simp; (with_reducible refine hK _ ?_); clear hK K
          (with_reducible refine wq_k ?_ ?_); exact rfl; intro K hK; go_simp; (with_reducible refine hK _ ?_); clear hK K
          (with_reducible refine wq_k ?_ ?_); exact rfl; intro K hK; go_simp; (with_reducible refine hK _ ?_); clear hK K
          (first | ((with_reducible apply wq_one); exact rfl; exact rfl; intro w' hw'; first | exact f0 (below_look hw' (by with_reducible assumption)) | exact f1 (below_look hw' (by with_reducible assumption)) | exact f2 (below_look hw' (by with_reducible assumption)) | exact f3 (below_look hw' (by with_reducible assumption)) ) | ((with_reducible apply wq_row); exact rfl; exact rfl; intro w' hw'; first | exact RowK.at (by with_reducible assumption) hw' | exact f4 (below_look hw' (by with_reducible assumption))))
          (with_reducible refine wq_k ?_ ?_); exact rfl; intro K hK; go_simp; (with_reducible refine hK _ ?_); clear hK K
          (with_reducible refine wq_k ?_ ?_); exact rfl; intro K hK; go_simp; (with_reducible refine hK _ ?_); clear hK K
          (with_reducible refine wq_k ?_ ?_); exact rfl; intro K hK; go_simp; (with_reducible refine hK _ ?_); clear hK K
          (first | ((with_reducible apply wq_one); exact rfl; exact rfl; intro w' hw'; first | exact f0 (below_look hw' (by with_reducible assumption)) | exact f1 (below_look hw' (by with_reducible assumption)) | exact f2 (below_look hw' (by with_reducible assumption)) | exact f3 (below_look hw' (by with_reducible assumption)) ) | ((with_reducible apply wq_row); exact rfl; exact rfl; intro w' hw'; first | exact RowK.at (by with_reducible assumption) hw' | exact f4 (below_look hw' (by with_reducible assumption))))
          refine wq_ck rfl (fun K hK => ?_); go_simp; refine ⟨_, _, ⟨rfl, rfl⟩, hK _ _ ⟨_, fun w' hw' => calls_class hw' (HC.out w' hw'), ?_⟩⟩; clear hK K; simp only [put_lit, List.set_cons_zero, List.set_cons_succ]
          (with_reducible refine wq_k ?_ ?_); exact rfl; intro K hK; go_simp; (with_reducible refine hK _ ?_); clear hK K
          intro w7 hb7
          replace hb := hb.trans (hb7.mono hb.size)
          clear hb7 HC hrow hrow'
          go_wp2_with fail
          go_roundw
          case rel => exact ⟨j + 1, by omega, by omega, by go_num, HR2, hb⟩
          case measure => simp [intOf]; omega
        · have e1 : (v != 0) = true := by simp [h0]
          have HF : Hid (sg (cmpTys ts us) = v) := Lib.hid (by
            rw [HR.out, HS.out, hv]
            cases hq : cmpTy t u with
            | lt => rfl
            | gt => rfl
            | eq => rw [hv, hq] at h0; exact absurd rfl h0)
          clear hta hua ht hu HE HTA HUA HR HS hv h0
          go_upto_region 4 with (fail)
          refine wp_region_belowAll mixed (by kernel_rfl) ?_
          (with_reducible refine wq_k ?_ ?_); exact rfl; intro K hK; go_simp; (with_reducible refine hK _ ?_); clear hK K
          (with_reducible refine wq_k ?_ ?_); exact rfl; intro K hK; go_simp; (with_reducible refine hK _ ?_); clear hK K
          (with_reducible refine wq_k ?_ ?_); exact rfl; intro K hK; go_simp; (with_reducible refine hK _ ?_); clear hK K
          (with_reducible refine wq_k ?_ ?_); exact rfl; intro K hK; go_simp; (with_reducible refine hK _ ?_); clear hK K
          (first | ((with_reducible apply wq_one); exact rfl; exact rfl; intro w' hw'; first | exact f0 (below_look hw' (by with_reducible assumption)) | exact f1 (below_look hw' (by with_reducible assumption)) | exact f2 (below_look hw' (by with_reducible assumption)) | exact f3 (below_look hw' (by with_reducible assumption)) ) | ((with_reducible apply wq_row); exact rfl; exact rfl; intro w' hw'; first | exact RowK.at (by with_reducible assumption) hw' | exact f4 (below_look hw' (by with_reducible assumption))))
          (with_reducible refine wq_k ?_ ?_); exact rfl; intro K hK; go_simp; (with_reducible refine hK _ ?_); clear hK K
          (with_reducible refine wq_k ?_ ?_); exact rfl; intro K hK; go_simp; (with_reducible refine hK _ ?_); clear hK K
          (with_reducible refine wq_k ?_ ?_); exact rfl; intro K hK; go_simp; (with_reducible refine hK _ ?_); clear hK K
          (first | ((with_reducible apply wq_one); exact rfl; exact rfl; intro w' hw'; first | exact f0 (below_look hw' (by with_reducible assumption)) | exact f1 (below_look hw' (by with_reducible assumption)) | exact f2 (below_look hw' (by with_reducible assumption)) | exact f3 (below_look hw' (by with_reducible assumption)) ) | ((with_reducible apply wq_row); exact rfl; exact rfl; intro w' hw'; first | exact RowK.at (by with_reducible assumption) hw' | exact f4 (below_look hw' (by with_reducible assumption))))
          refine wq_ck rfl (fun K hK => ?_); go_simp; refine ⟨_, _, ⟨rfl, rfl⟩, hK _ _ ⟨_, fun w' hw' => calls_class hw' (HC.out w' hw'), ?_⟩⟩; clear hK K; simp only [put_lit, List.set_cons_zero, List.set_cons_succ]
          (with_reducible refine wq_k ?_ ?_); exact rfl; intro K hK; go_simp; (with_reducible refine hK _ ?_); clear hK K
          intro w7 hb7
          replace hb := hb.trans (hb7.mono hb.size)
          clear hb7 HC hrow hrow'
          go_wp2_with fail
          go_ret
          exact ⟨ret_int HF.out.symm, hb⟩
      · have hltJ : ¬ (j : Int) < (l' : Int) := by omega
        have HF : Hid (sg (cI (l : Int) (l' : Int)) = sg (cmpTys ts us)) := Lib.hid (by rw [HR.out, cmpTys_end (Or.inr (by rw [HL'.out]; omega)) (by rw [HL.out]; omega) (by rw [HL'.out]; omega), HL.out, HL'.out])
        clear HR
        go_upto_region 7 with (fail)
        apply wp_region_lit
        (with_reducible refine wl_k ?_ ?_); exact rfl; intro K hK; go_simp; refine hK _ ?_; clear hK K
        (with_reducible refine wl_k ?_ ?_); exact rfl; intro K hK; go_simp; refine hK _ ?_; clear hK K
        (with_reducible refine wl_k ?_ ?_); exact rfl; intro K hK; go_simp; refine hK _ ?_; clear hK K
        (with_reducible refine wl_k ?_ ?_); exact rfl; intro K hK; go_simp; refine hK _ ?_; clear hK K
        (with_reducible refine wl_ck ?_ ?_); exact rfl; intro K hK; go_simp; refine ⟨_, _, ⟨rfl, rfl⟩, hK _ _ ⟨_, cmpI_any _ _ _, ?_⟩⟩; clear hK K; rintro e w7 ⟨rfl, hb7⟩; refine ⟨_, rfl, ?_⟩; simp only [put_lit, List.set_cons_zero, List.set_cons_succ]
        (with_reducible refine wl_k ?_ ?_); exact rfl; intro K hK; go_simp; refine hK _ ?_; clear hK K
        replace hb := hb.trans (hb7.mono hb.size)
        clear hb7
        go_wp2_with fail
        go_ret
        exact ⟨ret_int HF.out, hb⟩
    · have hltI : ¬ (j : Int) < (l : Int) := by omega
      have HF : Hid (sg (cI (l : Int) (l' : Int)) = sg (cmpTys ts us)) := Lib.hid (by rw [HR.out, cmpTys_end (Or.inl (by rw [HL.out]; omega)) (by rw [HL.out]; omega) (by rw [HL'.out]; omega), HL.out, HL'.out])
      clear HR
      go_upto_region 7 with (fail)
      apply wp_region_lit
      (with_reducible refine wl_k ?_ ?_); exact rfl; intro K hK; go_simp; refine hK _ ?_; clear hK K
      (with_reducible refine wl_k ?_ ?_); exact rfl; intro K hK; go_simp; refine hK _ ?_; clear hK K
      (with_reducible refine wl_k ?_ ?_); exact rfl; intro K hK; go_simp; refine hK _ ?_; clear hK K
      (with_reducible refine wl_k ?_ ?_); exact rfl; intro K hK; go_simp; refine hK _ ?_; clear hK K
      (with_reducible refine wl_ck ?_ ?_); exact rfl; intro K hK; go_simp; refine ⟨_, _, ⟨rfl, rfl⟩, hK _ _ ⟨_, cmpI_any _ _ _, ?_⟩⟩; clear hK K; rintro e w7 ⟨rfl, hb7⟩; refine ⟨_, rfl, ?_⟩; simp only [put_lit, List.set_cons_zero, List.set_cons_succ]
      (with_reducible refine wl_k ?_ ?_); exact rfl; intro K hK; go_simp; refine hK _ ?_; clear hK K
      replace hb := hb.trans (hb7.mono hb.size)
      clear hb7
      go_wp2_with fail
      go_ret
      exact ⟨ret_int HF.out, hb⟩
set_option maxHeartbeats 4000000 in
set_option maxRecDepth 100000 in
theorem compare_any : ∀ t : Ty, CmpC t := Ty.ind fun k s n ts ih u w D D' row row' h h' => by
  obtain ⟨k1, s1, n1, A, l, c, ts1, e, rfl, hk, hn, hs, hT⟩ := h.parts
  cases e
  obtain ⟨k', s', n', A', l', c', us, rfl, rfl, hk', hn', hs', hU⟩ := h'.parts
  have HT := Lib.hid hT
  have HU := Lib.hid hU
  have HI := Lib.hid ih
  clear h h' hk hn hs hT ih hk' hn' hs' hU
  have HB := Lib.hid (sg_then3 (cI k k') (cB s s') (cI n n') (cmpTys ts us))
  obtain ⟨v, hv⟩ : ∃ v, v = orI [sg (cI k k'), sg (cB s s'), sg (cI n n')] := ⟨_, rfl⟩
  rw [← hv] at HB
  have HV := Lib.hid hv
  clear hv
  have hb := Below.refl w.heap.size w
  go_enter Tryd.func55, Tryd.ntmps55
  go_upto_region 0 with (fail)
  apply wp_region_lit
  (with_reducible refine wl_box rfl ?_); intro W p hbn hlp hp; replace hb := hb.trans (hbn.mono hb.size); clear hbn; simp only [put_lit, List.set_cons_zero, List.set_cons_succ]
  have lthpq := heap_lt hp; (with_reducible refine wl_box rfl ?_); intro W2 q hbn hlq hq; replace hp := below_look hbn hp; replace hb := hb.trans (hbn.mono hb.size); clear hbn; simp only [put_lit, List.set_cons_zero, List.set_cons_succ]
  (with_reducible refine wl_k ?_ ?_); exact rfl; intro K hK; go_simp; refine hK _ ?_; clear hK K
  go_upto_region 1 with (fail)
  have hlr : W2.drew.heap.size = W2.heap.size := rfl
  refine wp_region_held_drew (S := Below W2.heap.size W2) mixed ((Below.refl _ W2).drew) (fun hS => ?_)
  refine ha_k (i := 0) rfl (by kernel_rfl) (by kernel_rfl) (by kernel_rfl) (fun _ _ _ _ h => h) hS rfl (fun K hK => ?_); go_simp; refine hK _ ?_; clear hK K; try simp only [put_lit, List.set_cons_zero, List.set_cons_succ]
  refine ha_val (i := 1) rfl (by kernel_rfl) (by kernel_rfl) (by kernel_rfl) (fun _ _ _ h => h) hS rfl (fun w' hw' => ex_one rfl (f0 (below_look hw' hp))) ?_; try simp only [put_lit, List.set_cons_zero, List.set_cons_succ]
  refine ha_k (i := 2) rfl (by kernel_rfl) (by kernel_rfl) (by kernel_rfl) (fun _ _ _ _ h => h) hS rfl (fun K hK => ?_); go_simp; refine hK _ ?_; clear hK K; try simp only [put_lit, List.set_cons_zero, List.set_cons_succ]
  refine ha_val (i := 3) rfl (by kernel_rfl) (by kernel_rfl) (by kernel_rfl) (fun _ _ _ h => h) hS rfl (fun w' hw' => ex_one rfl (f0 (below_look hw' hq))) ?_; try simp only [put_lit, List.set_cons_zero, List.set_cons_succ]
  refine ha_k (i := 5) rfl (by kernel_rfl) (by kernel_rfl) (by kernel_rfl) (fun _ _ _ _ h => h) hS rfl (fun K hK => ?_); go_simp; refine hK _ ?_; clear hK K; try simp only [put_lit, List.set_cons_zero, List.set_cons_succ]
  refine ha_val (i := 6) rfl (by kernel_rfl) (by kernel_rfl) (by kernel_rfl) (fun _ _ _ h => h) hS rfl (fun w' hw' => ex_one rfl (f1 (below_look hw' hp))) ?_; try simp only [put_lit, List.set_cons_zero, List.set_cons_succ]
  refine ha_k (i := 7) rfl (by kernel_rfl) (by kernel_rfl) (by kernel_rfl) (fun _ _ _ _ h => h) hS rfl (fun K hK => ?_); go_simp; refine hK _ ?_; clear hK K; try simp only [put_lit, List.set_cons_zero, List.set_cons_succ]
  refine ha_val (i := 8) rfl (by kernel_rfl) (by kernel_rfl) (by kernel_rfl) (fun _ _ _ h => h) hS rfl (fun w' hw' => ex_one rfl (f1 (below_look hw' hq))) ?_; try simp only [put_lit, List.set_cons_zero, List.set_cons_succ]
  refine ha_k (i := 10) rfl (by kernel_rfl) (by kernel_rfl) (by kernel_rfl) (fun _ _ _ _ h => h) hS rfl (fun K hK => ?_); go_simp; refine hK _ ?_; clear hK K; try simp only [put_lit, List.set_cons_zero, List.set_cons_succ]
  refine ha_val (i := 11) rfl (by kernel_rfl) (by kernel_rfl) (by kernel_rfl) (fun _ _ _ h => h) hS rfl (fun w' hw' => ex_one rfl (f2 (below_look hw' hp))) ?_; try simp only [put_lit, List.set_cons_zero, List.set_cons_succ]
  refine ha_k (i := 12) rfl (by kernel_rfl) (by kernel_rfl) (by kernel_rfl) (fun _ _ _ _ h => h) hS rfl (fun K hK => ?_); go_simp; refine hK _ ?_; clear hK K; try simp only [put_lit, List.set_cons_zero, List.set_cons_succ]
  refine ha_val (i := 13) rfl (by kernel_rfl) (by kernel_rfl) (by kernel_rfl) (fun _ _ _ h => h) hS rfl (fun w' hw' => ex_one rfl (f2 (below_look hw' hq))) ?_; try simp only [put_lit, List.set_cons_zero, List.set_cons_succ]
  refine ha_call (i := 4) (by kernel_rfl) rfl rfl (fun K hK => ?_)
  go_simp; refine ⟨_, _, ⟨rfl, rfl⟩, hK _ _ ⟨_, cmpI_any _ _ _, ?_⟩⟩; clear hK K; rintro e w4 ⟨rfl, hbc⟩; refine ⟨_, rfl, hS.trans (hbc.mono hS.size), ?_⟩
  replace hS := hS.trans (hbc.mono hS.size)
  try simp only [put_lit, List.set_cons_zero, List.set_cons_succ]
  clear hbc
  refine ha_call (i := 9) (by kernel_rfl) rfl rfl (fun K hK => ?_)
  go_simp; refine ⟨_, _, ⟨rfl, rfl⟩, hK _ _ ⟨_, cmpB_any _ _ _, ?_⟩⟩; clear hK K; rintro e w5 ⟨rfl, hbc⟩; refine ⟨_, rfl, hS.trans (hbc.mono hS.size), ?_⟩
  replace hS := hS.trans (hbc.mono hS.size)
  try simp only [put_lit, List.set_cons_zero, List.set_cons_succ]
  clear hbc
  refine ha_call (i := 14) (by kernel_rfl) rfl rfl (fun K hK => ?_)
  go_simp; refine ⟨_, _, ⟨rfl, rfl⟩, hK _ _ ⟨_, cmpI_any _ _ _, ?_⟩⟩; clear hK K; rintro e w6 ⟨rfl, hbc⟩; refine ⟨_, rfl, hS.trans (hbc.mono hS.size), ?_⟩
  replace hS := hS.trans (hbc.mono hS.size)
  try simp only [put_lit, List.set_cons_zero, List.set_cons_succ]
  clear hbc
  have hb9 := (Below.refl _ w6).alloc (Nat.le_refl _) (.cells #[.int .i64 (sg (cI k k')), .int .i64 (sg (cB s s')), .int .i64 (sg (cI n n'))] 3)
  refine ha_do (i := 15) (by kernel_rfl) rfl rfl (ex_bs61 _ _ _ rfl rfl rfl rfl) (hS.trans (hb9.mono hS.size)) ?_
  have HP : Hid (_ = some _) := Lib.hid (ha_new (w := w6) (o := .cells #[.int .i64 (sg (cI k k')), .int .i64 (sg (cB s s')), .int .i64 (sg (cI n n'))] 3) rfl)
  have HO := Lib.hid (Or_any [sg (cI k k'), sg (cB s s'), sg (cI n n')] _ _ _ _ HP.out 3 rfl (by omega))
  rw [← HV.out] at HO
  replace hS := hS.trans (hb9.mono hS.size)
  clear hb9 HP
  obtain ⟨W9, hW9⟩ : ∃ W9, W9 = (w6.alloc (.cells #[.int .i64 (sg (cI k k')), .int .i64 (sg (cB s s')), .int .i64 (sg (cI n n'))] 3)) := ⟨_, rfl⟩
  obtain ⟨x9, hx9⟩ : ∃ x9, x9 = w6.heap.size := ⟨_, rfl⟩
  rw [← hW9] at HO hS ⊢
  rw [← hx9] at HO ⊢
  clear hW9 hx9 HV
  try simp only [put_lit, List.set_cons_zero, List.set_cons_succ]
  refine ha_call (i := 16) (by kernel_rfl) rfl rfl (fun K hK => ?_)
  go_simp; refine ⟨_, _, ⟨rfl, rfl⟩, hK _ _ ⟨_, HO.out, ?_⟩⟩; clear hK K; rintro e w7 ⟨rfl, hbc⟩; refine ⟨_, rfl, hS.trans (hbc.mono hS.size), ?_⟩
  replace hS := hS.trans (hbc.mono hS.size)
  try simp only [put_lit, List.set_cons_zero, List.set_cons_succ]
  clear hbc HO
  refine ha_k (i := 17) rfl (by kernel_rfl) (by kernel_rfl) (by kernel_rfl) (fun _ _ _ _ h => h) hS rfl (fun K hK => ?_); go_simp; refine hK _ ?_; clear hK K; try simp only [put_lit, List.set_cons_zero, List.set_cons_succ]
  replace hb := hb.trans (hS.mono hb.size)
  replace hp := below_look hS hp
  replace hq := below_look hS hq
  clear hS hlr
  refine wpAnyH_done (by kernel_rfl) ?_ _
  by_cases h0 : v = 0
  · have e1 : (v != 0) = false := by simp [h0]
    have HC := Lib.hid (lists_of ts us HI.out A A' l c l' c' w7 D D' (HT.out.old hb) (HU.out.old hb))
    have HF : Hid (sg (cmpTys ts us) = sg (cmpTy (.node k s n ts) (.node k' s' n' us))) := Lib.hid (by rw [cmpTy, HB.out, if_pos h0])
    clear h0 HB
    go_upto_region 4 with (fail)
    apply wp_region_lit
    (with_reducible refine wl_k ?_ ?_); exact rfl; intro K hK; go_simp; refine hK _ ?_; clear hK K
    (first | ((with_reducible apply wl_oneG); exact rfl; exact rfl; first | exact f0 (by with_reducible assumption) | exact f1 (by with_reducible assumption) | exact f2 (by with_reducible assumption) | exact f3 (by with_reducible assumption) | with_reducible assumption | exact g22 (by with_reducible assumption) | exact g25 (by with_reducible assumption)) | ((with_reducible apply wl_rowG); exact rfl; exact rfl; first | with_reducible assumption | exact RowK.now (by with_reducible assumption) | exact f4 (by with_reducible assumption)))
    (with_reducible refine wl_k ?_ ?_); exact rfl; intro K hK; go_simp; refine hK _ ?_; clear hK K
    (first | ((with_reducible apply wl_oneG); exact rfl; exact rfl; first | exact f0 (by with_reducible assumption) | exact f1 (by with_reducible assumption) | exact f2 (by with_reducible assumption) | exact f3 (by with_reducible assumption) | with_reducible assumption | exact g22 (by with_reducible assumption) | exact g25 (by with_reducible assumption)) | ((with_reducible apply wl_rowG); exact rfl; exact rfl; first | with_reducible assumption | exact RowK.now (by with_reducible assumption) | exact f4 (by with_reducible assumption)))
    (with_reducible refine wl_ck ?_ ?_); exact rfl; intro K hK; go_simp; refine ⟨_, _, ⟨rfl, rfl⟩, hK _ _ ⟨_, HC.out, ?_⟩⟩; clear hK K; rintro e w8 ⟨rfl, hb7⟩; refine ⟨_, rfl, ?_⟩; simp only [put_lit, List.set_cons_zero, List.set_cons_succ]
    (with_reducible refine wl_k ?_ ?_); exact rfl; intro K hK; go_simp; refine hK _ ?_; clear hK K
    replace hb := hb.trans (hb7.mono hb.size)
    clear hb7 HC hp hq
    go_wp2_with fail
    go_ret
    exact ⟨ret_int HF.out, hb⟩
  · have e1 : (v != 0) = true := by simp [h0]
    have HF : Hid (v = sg (cmpTy (.node k s n ts) (.node k' s' n' us))) := Lib.hid (by rw [cmpTy, HB.out, if_neg h0])
    clear h0 HB hp hq
    go_wp2_with fail
    go_ret
    exact ⟨ret_int HF.out, hb⟩
end Go.Proofs.YtokmaehefenpmaaDoor
