/- The order of trees in the document: sign, Compare, Less. -/
import Derived.Test.YtokmaehefenpmaaDoorO3
namespace Go.Proofs.YtokmaehefenpmaaDoor
open Go.RowKit Go.Proofs.YtokmaehefenpmaaDoor.Nm
set_option linter.unusedSimpArgs false
set_option maxRecDepth 100000 in
theorem sign_any (b : Bool) (w : World) : Calls Tryd.prog 80 #[.bool b] w fun e w' => e = .returned (.int .i64 (if b then -1 else 1)) ∧ Below w.heap.size w w' := by
  have hb := Below.refl w.heap.size w
  cases b with
  | true =>
    go_enter Tryd.func80, Tryd.ntmps80
    go_wp2_with fail
    go_ret
    exact ⟨rfl, hb⟩
  | false =>
    go_enter Tryd.func80, Tryd.ntmps80
    go_wp2_with fail
    go_ret
    exact ⟨rfl, hb⟩
def CmpR (t : Ty) : Prop := ∀ (u : Ty) (w : World) (D D' : Nat → Prop) (row row' : Array Value), TyAt w D t row → TyAt w D' u row' →
  Calls Tryd.prog 56 #[.agg row, .agg row'] w fun e w' => e = .returned (.int .i64 (sg (cmpTy t u))) ∧ Below w.heap.size w w'
theorem sg_ne_int {x y : Int} (h : x ≠ y) (o : Ordering) : sg ((cI x y).then o) = if decide (x < y) = true then -1 else 1 := by
  unfold cI
  by_cases h1 : x < y
  · rw [if_pos h1, if_pos (decide_eq_true h1)]; rfl
  · rw [if_neg h1, if_pos (show y < x by omega), if_neg (by simpa using h1)]; rfl
theorem sg_ne_bytes {x y : ByteArray} (h : x ≠ y) (o : Ordering) : sg ((cB x y).then o) = if Op.bytesLess x.toList y.toList = true then -1 else 1 := by
  have hl := ltB_iff x y
  unfold ltB at hl
  by_cases h1 : x.data.toList < y.data.toList
  · have : cB x y = .lt := by unfold cB; rw [if_pos h1]
    rw [if_pos (hl.2 h1), this]; rfl
  · have h2 : cB x y ≠ .eq := fun e => h ((cB_fine x).eq y |>.1 e)
    have h3 : cB x y ≠ .lt := by unfold cB; rw [if_neg h1]; split <;> simp
    rw [if_neg (fun e => h1 (hl.1 e))]
    cases hq : cB x y with
    | lt => exact absurd hq h3
    | eq => exact absurd hq h2
    | gt => rfl
set_option maxHeartbeats 8000000 in
set_option maxRecDepth 100000 in
theorem Compare_any : ∀ t : Ty, CmpR t := Ty.ind fun k s n ts ih u w D D' row row' h h' => by
  obtain ⟨k1, s1, n1, A, l, c, ts1, e, rfl, hk, hn, hs, hT⟩ := h.parts
  cases e
  obtain ⟨k', s', n', A', l', c', us, rfl, rfl, hk', hn', hs', hU⟩ := h'.parts
  have HT := Lib.hid hT
  have HU := Lib.hid hU
  have HL := Lib.hid hT.len
  have HL' := Lib.hid hU.len
  have HI := Lib.hid ih
  have hcm := hT.cap
  have hmx := hT.max
  have hcm' := hU.cap
  have hmx' := hU.max
  unfold maxLen at hmx hmx'
  clear h h' hk hn hs hT ih hk' hn' hs' hU
  obtain ⟨B, hB⟩ : ∃ B, B = sg (cmpTy (.node k s n ts) (.node k' s' n' us)) := ⟨_, rfl⟩
  have HB := Lib.hid hB
  rw [← hB]
  clear hB
  have hb := Below.refl w.heap.size w
  go_enter Tryd.func56, Tryd.ntmps56
  go_upto_region 0 with (fail)
  apply wp_region_lit
  (with_reducible refine wl_box rfl ?_); intro W p hbn hlp hp; replace hb := hb.trans (hbn.mono hb.size); clear hbn; simp only [put_lit, List.set_cons_zero, List.set_cons_succ]
  have lthpq := heap_lt hp; (with_reducible refine wl_box rfl ?_); intro W2 q hbn hlq hq; replace hp := below_look hbn hp; replace hb := hb.trans (hbn.mono hb.size); clear hbn; simp only [put_lit, List.set_cons_zero, List.set_cons_succ]
  (with_reducible refine wl_k ?_ ?_); exact rfl; intro K hK; go_simp; refine hK _ ?_; clear hK K
  go_upto_region 1 with (fail)
  by_cases h1 : k = k'
  · have e1 : (k != k') = false := by simp [h1]
    apply wp_region_lit
    (with_reducible refine wl_k ?_ ?_); exact rfl; intro K hK; go_simp; refine hK _ ?_; clear hK K
    (first | ((with_reducible apply wl_oneG); exact rfl; exact rfl; first | exact f0 (by with_reducible assumption) | exact f1 (by with_reducible assumption) | exact f2 (by with_reducible assumption) | exact f3 (by with_reducible assumption) | with_reducible assumption | exact g22 (by with_reducible assumption) | exact g25 (by with_reducible assumption)) | ((with_reducible apply wl_rowG); exact rfl; exact rfl; first | with_reducible assumption | exact RowK.now (by with_reducible assumption) | exact f4 (by with_reducible assumption)))
    (with_reducible refine wl_k ?_ ?_); exact rfl; intro K hK; go_simp; refine hK _ ?_; clear hK K
    (first | ((with_reducible apply wl_oneG); exact rfl; exact rfl; first | exact f0 (by with_reducible assumption) | exact f1 (by with_reducible assumption) | exact f2 (by with_reducible assumption) | exact f3 (by with_reducible assumption) | with_reducible assumption | exact g22 (by with_reducible assumption) | exact g25 (by with_reducible assumption)) | ((with_reducible apply wl_rowG); exact rfl; exact rfl; first | with_reducible assumption | exact RowK.now (by with_reducible assumption) | exact f4 (by with_reducible assumption)))
    (with_reducible refine wl_k ?_ ?_); exact rfl; intro K hK; go_simp; refine hK _ ?_; clear hK K
    go_upto_region 3 with (fail)
    by_cases h2 : s = s'
    · have e2 : (s.toList == s'.toList) = true := by simp [h2]
      apply wp_region_lit
      (with_reducible refine wl_k ?_ ?_); exact rfl; intro K hK; go_simp; refine hK _ ?_; clear hK K
      (first | ((with_reducible apply wl_oneG); exact rfl; exact rfl; first | exact f0 (by with_reducible assumption) | exact f1 (by with_reducible assumption) | exact f2 (by with_reducible assumption) | exact f3 (by with_reducible assumption) | with_reducible assumption | exact g22 (by with_reducible assumption) | exact g25 (by with_reducible assumption)) | ((with_reducible apply wl_rowG); exact rfl; exact rfl; first | with_reducible assumption | exact RowK.now (by with_reducible assumption) | exact f4 (by with_reducible assumption)))
      (with_reducible refine wl_k ?_ ?_); exact rfl; intro K hK; go_simp; refine hK _ ?_; clear hK K
      (first | ((with_reducible apply wl_oneG); exact rfl; exact rfl; first | exact f0 (by with_reducible assumption) | exact f1 (by with_reducible assumption) | exact f2 (by with_reducible assumption) | exact f3 (by with_reducible assumption) | with_reducible assumption | exact g22 (by with_reducible assumption) | exact g25 (by with_reducible assumption)) | ((with_reducible apply wl_rowG); exact rfl; exact rfl; first | with_reducible assumption | exact RowK.now (by with_reducible assumption) | exact f4 (by with_reducible assumption)))
      (with_reducible refine wl_k ?_ ?_); exact rfl; intro K hK; go_simp; refine hK _ ?_; clear hK K
      go_upto_region 5 with (fail)
      by_cases h3 : n = n'
      · have e3 : (n != n') = false := by simp [h3]
        have HB2 : Hid (B = sg (cmpTys ts us)) := Lib.hid (by rw [HB.out, cmpTy, h1, h2, h3, ((cI_fine k').eq k').2 rfl, ((cB_fine s').eq s').2 rfl, ((cI_fine n').eq n').2 rfl]; rfl)
        clear HB h1 h2 h3
        apply wp_region_lit
        (with_reducible refine wl_k ?_ ?_); exact rfl; intro K hK; go_simp; refine hK _ ?_; clear hK K
        (first | ((with_reducible apply wl_oneG); exact rfl; exact rfl; first | exact f0 (by with_reducible assumption) | exact f1 (by with_reducible assumption) | exact f2 (by with_reducible assumption) | exact f3 (by with_reducible assumption) | with_reducible assumption | exact g22 (by with_reducible assumption) | exact g25 (by with_reducible assumption)) | ((with_reducible apply wl_rowG); exact rfl; exact rfl; first | with_reducible assumption | exact RowK.now (by with_reducible assumption) | exact f4 (by with_reducible assumption)))
        (with_reducible refine wl_k ?_ ?_); exact rfl; intro K hK; go_simp; refine hK _ ?_; clear hK K
        (first | ((with_reducible apply wl_oneG); exact rfl; exact rfl; first | exact f0 (by with_reducible assumption) | exact f1 (by with_reducible assumption) | exact f2 (by with_reducible assumption) | exact f3 (by with_reducible assumption) | with_reducible assumption | exact g22 (by with_reducible assumption) | exact g25 (by with_reducible assumption)) | ((with_reducible apply wl_rowG); exact rfl; exact rfl; first | with_reducible assumption | exact RowK.now (by with_reducible assumption) | exact f4 (by with_reducible assumption)))
        (with_reducible refine wl_k ?_ ?_); exact rfl; intro K hK; go_simp; refine hK _ ?_; clear hK K
        go_wp2_with fail
        go_loopw [5] (fun i wr => ∃ j : Nat, j ≤ l ∧ j ≤ l' ∧ i = .int .i64 (j : Int) ∧ Hid (cmpTys ts us = cmpTys (ts.drop j) (us.drop j)) ∧ Below w.heap.size w wr ∧ wr.heap[p]? = some (.cells (cell4 k s n A l c) 24 (0, 0)) ∧ wr.heap[q]? = some (.cells (cell4 k' s' n' A' l' c') 24 (0, 0))) (fun i _ => l - (intOf i).toNat)
        case atStart => exact ⟨0, by omega, by omega, rfl, Lib.hid rfl, hb, hp, hq⟩
        case round =>
          clear hb hp hq
          obtain ⟨j, hj, hj', rfl, HR, hb, hp, hq⟩ := hrel
          go_upto_region 8 with (fail)
          by_cases hlt : j < l
          · have hltI : (j : Int) < (l : Int) := by omega
            by_cases hlt' : j < l'
            · have hltJ : (j : Int) < (l' : Int) := by omega
              obtain ⟨b, off, t, row, rfl, -, ht, -⟩ := HT.out.get hlt
              obtain ⟨b', off', u, row', rfl, -, hu, -⟩ := HU.out.get hlt'
              obtain ⟨row, hrow, hta⟩ := (HT.out.old hb).rowK ht
              obtain ⟨row', hrow', hua⟩ := (HU.out.old hb).rowK hu
              have HTA := Lib.hid hta
              have HUA := Lib.hid hua
              have HE := Lib.hid (HI.out t (List.mem_of_getElem? ht) u)
              have HS := Lib.hid (cmpTys_step ht hu)
              obtain ⟨v, hv⟩ : ∃ v, v = sg (cmpTy t u) := ⟨_, rfl⟩
              have HC : Hid (∀ w', Below wr.heap.size wr w' → Calls Tryd.prog 56 #[.agg row, .agg row'] w' fun e w2 => e = .returned (.int .i64 v) ∧ Below w'.heap.size w' w2) := Lib.hid fun w' hw' => by
                rw [hv]
                exact HE.out w' D D' row row' (HTA.out.old hw') (HUA.out.old hw')
              by_cases h0 : v = 0
              · have e1 : (v != 0) = false := by simp [h0]
                have HR2 : Hid (cmpTys ts us = cmpTys (ts.drop (j + 1)) (us.drop (j + 1))) := Lib.hid (by
                  rw [HR.out, HS.out]
                  cases hq : cmpTy t u with
                  | lt => rw [hv, hq] at h0; exact absurd h0 (by decide)
                  | gt => rw [hv, hq] at h0; exact absurd h0 (by decide)
                  | eq => rfl)
                clear hta hua ht hu HE HTA HUA HR HS hv h0
                apply wp_region_lit
                (with_reducible refine wl_k ?_ ?_); exact rfl; intro K hK; go_simp; refine hK _ ?_; clear hK K
                (with_reducible refine wl_k ?_ ?_); exact rfl; intro K hK; go_simp; refine hK _ ?_; clear hK K
                (first | ((with_reducible apply wl_oneG); exact rfl; exact rfl; first | exact f0 (by with_reducible assumption) | exact f1 (by with_reducible assumption) | exact f2 (by with_reducible assumption) | exact f3 (by with_reducible assumption) | with_reducible assumption | exact g22 (by with_reducible assumption) | exact g25 (by with_reducible assumption)) | ((with_reducible apply wl_rowG); exact rfl; exact rfl; first | with_reducible assumption | exact RowK.now (by with_reducible assumption) | exact f4 (by with_reducible assumption)))
                (with_reducible refine wl_k ?_ ?_); exact rfl; intro K hK; go_simp; refine hK _ ?_; clear hK K
                (with_reducible refine wl_k ?_ ?_); exact rfl; intro K hK; go_simp; refine hK _ ?_; clear hK K
                (with_reducible refine wl_k ?_ ?_); exact rfl; intro K hK; go_simp; refine hK _ ?_; clear hK K
                (with_reducible refine wl_k ?_ ?_); exact rfl; intro K hK; go_simp; refine hK _ ?_; clear hK K
                (with_reducible refine wl_k ?_ ?_); exact rfl; intro K hK; go_simp; refine hK _ ?_; clear hK K
                (first | ((with_reducible apply wl_oneG); exact rfl; exact rfl; first | exact f0 (by with_reducible assumption) | exact f1 (by with_reducible assumption) | exact f2 (by with_reducible assumption) | exact f3 (by with_reducible assumption) | with_reducible assumption | exact g22 (by with_reducible assumption) | exact g25 (by with_reducible assumption)) | ((with_reducible apply wl_rowG); exact rfl; exact rfl; first | with_reducible assumption | exact RowK.now (by with_reducible assumption) | exact f4 (by with_reducible assumption)))
                (with_reducible refine wl_k ?_ ?_); exact rfl; intro K hK; go_simp; refine hK _ ?_; clear hK K
                (with_reducible refine wl_k ?_ ?_); exact rfl; intro K hK; go_simp; refine hK _ ?_; clear hK K
                (with_reducible refine wl_k ?_ ?_); exact rfl; intro K hK; go_simp; refine hK _ ?_; clear hK K
                go_upto_region 10 with (fail)
                refine wp_region_belowAll mixed (by kernel_rfl) ?_
                refine wq_k rfl (fun K hK => ?_); go_simp; refine hK _ ?_; clear hK K
                (first | ((with_reducible apply wq_one); exact rfl; exact rfl; intro w' hw'; first | exact f0 (below_look hw' (by with_reducible assumption)) | exact f1 (below_look hw' (by with_reducible assumption)) | exact f2 (below_look hw' (by with_reducible assumption)) | exact f3 (below_look hw' (by with_reducible assumption)) ) | ((with_reducible apply wq_row); exact rfl; exact rfl; intro w' hw'; first | exact RowK.at (by with_reducible assumption) hw' | exact f4 (below_look hw' (by with_reducible assumption))))
                refine wq_k rfl (fun K hK => ?_); go_simp; refine hK _ ?_; clear hK K
                refine wq_k rfl (fun K hK => ?_); go_simp; refine hK _ ?_; clear hK K
                (first | ((with_reducible apply wq_one); exact rfl; exact rfl; intro w' hw'; first | exact f0 (below_look hw' (by with_reducible assumption)) | exact f1 (below_look hw' (by with_reducible assumption)) | exact f2 (below_look hw' (by with_reducible assumption)) | exact f3 (below_look hw' (by with_reducible assumption)) ) | ((with_reducible apply wq_row); exact rfl; exact rfl; intro w' hw'; first | exact RowK.at (by with_reducible assumption) hw' | exact f4 (below_look hw' (by with_reducible assumption))))
                refine wq_k rfl (fun K hK => ?_); go_simp; refine hK _ ?_; clear hK K
                (first | ((with_reducible apply wq_one); exact rfl; exact rfl; intro w' hw'; first | exact f0 (below_look hw' (by with_reducible assumption)) | exact f1 (below_look hw' (by with_reducible assumption)) | exact f2 (below_look hw' (by with_reducible assumption)) | exact f3 (below_look hw' (by with_reducible assumption)) ) | ((with_reducible apply wq_row); exact rfl; exact rfl; intro w' hw'; first | exact RowK.at (by with_reducible assumption) hw' | exact f4 (below_look hw' (by with_reducible assumption))))
                refine wq_k rfl (fun K hK => ?_); go_simp; refine hK _ ?_; clear hK K
                refine wq_k rfl (fun K hK => ?_); go_simp; refine hK _ ?_; clear hK K
                (first | ((with_reducible apply wq_one); exact rfl; exact rfl; intro w' hw'; first | exact f0 (below_look hw' (by with_reducible assumption)) | exact f1 (below_look hw' (by with_reducible assumption)) | exact f2 (below_look hw' (by with_reducible assumption)) | exact f3 (below_look hw' (by with_reducible assumption)) ) | ((with_reducible apply wq_row); exact rfl; exact rfl; intro w' hw'; first | exact RowK.at (by with_reducible assumption) hw' | exact f4 (below_look hw' (by with_reducible assumption))))
                refine wq_ck rfl (fun K hK => ?_); go_simp; refine ⟨_, _, ⟨rfl, rfl⟩, hK _ _ ⟨_, fun w' hw' => calls_class hw' (HC.out w' hw'), ?_⟩⟩; clear hK K; simp only [put_lit, List.set_cons_zero, List.set_cons_succ]
                refine wq_k rfl (fun K hK => ?_); go_simp; refine hK _ ?_; clear hK K
                intro w7 hb7
                replace hb := hb.trans (hb7.mono hb.size)
                replace hp := below_look hb7 hp
                replace hq := below_look hb7 hq
                clear hb7 HC hrow hrow'
                go_wp2_with fail
                go_roundw
                case rel => exact ⟨j + 1, by omega, by omega, by go_num, HR2, hb, hp, hq⟩
                case measure => simp [intOf]; omega
              · have e1 : (v != 0) = true := by simp [h0]
                have HF : Hid (B = v) := Lib.hid (by
                  rw [HB2.out, HR.out, HS.out, hv]
                  cases hq : cmpTy t u with
                  | lt => rfl
                  | gt => rfl
                  | eq => rw [hv, hq] at h0; exact absurd rfl h0)
                clear hta hua ht hu HE HTA HUA HR HS hv h0
                apply wp_region_lit
                (with_reducible refine wl_k ?_ ?_); exact rfl; intro K hK; go_simp; refine hK _ ?_; clear hK K
                (with_reducible refine wl_k ?_ ?_); exact rfl; intro K hK; go_simp; refine hK _ ?_; clear hK K
                (first | ((with_reducible apply wl_oneG); exact rfl; exact rfl; first | exact f0 (by with_reducible assumption) | exact f1 (by with_reducible assumption) | exact f2 (by with_reducible assumption) | exact f3 (by with_reducible assumption) | with_reducible assumption | exact g22 (by with_reducible assumption) | exact g25 (by with_reducible assumption)) | ((with_reducible apply wl_rowG); exact rfl; exact rfl; first | with_reducible assumption | exact RowK.now (by with_reducible assumption) | exact f4 (by with_reducible assumption)))
                (with_reducible refine wl_k ?_ ?_); exact rfl; intro K hK; go_simp; refine hK _ ?_; clear hK K
                (with_reducible refine wl_k ?_ ?_); exact rfl; intro K hK; go_simp; refine hK _ ?_; clear hK K
                (with_reducible refine wl_k ?_ ?_); exact rfl; intro K hK; go_simp; refine hK _ ?_; clear hK K
                (with_reducible refine wl_k ?_ ?_); exact rfl; intro K hK; go_simp; refine hK _ ?_; clear hK K
                (with_reducible refine wl_k ?_ ?_); exact rfl; intro K hK; go_simp; refine hK _ ?_; clear hK K
                (first | ((with_reducible apply wl_oneG); exact rfl; exact rfl; first | exact f0 (by with_reducible assumption) | exact f1 (by with_reducible assumption) | exact f2 (by with_reducible assumption) | exact f3 (by with_reducible assumption) | with_reducible assumption | exact g22 (by with_reducible assumption) | exact g25 (by with_reducible assumption)) | ((with_reducible apply wl_rowG); exact rfl; exact rfl; first | with_reducible assumption | exact RowK.now (by with_reducible assumption) | exact f4 (by with_reducible assumption)))
                (with_reducible refine wl_k ?_ ?_); exact rfl; intro K hK; go_simp; refine hK _ ?_; clear hK K
                (with_reducible refine wl_k ?_ ?_); exact rfl; intro K hK; go_simp; refine hK _ ?_; clear hK K
                (with_reducible refine wl_k ?_ ?_); exact rfl; intro K hK; go_simp; refine hK _ ?_; clear hK K
                go_upto_region 10 with (fail)
                refine wp_region_belowAll mixed (by kernel_rfl) ?_
                refine wq_k rfl (fun K hK => ?_); go_simp; refine hK _ ?_; clear hK K
                (first | ((with_reducible apply wq_one); exact rfl; exact rfl; intro w' hw'; first | exact f0 (below_look hw' (by with_reducible assumption)) | exact f1 (below_look hw' (by with_reducible assumption)) | exact f2 (below_look hw' (by with_reducible assumption)) | exact f3 (below_look hw' (by with_reducible assumption)) ) | ((with_reducible apply wq_row); exact rfl; exact rfl; intro w' hw'; first | exact RowK.at (by with_reducible assumption) hw' | exact f4 (below_look hw' (by with_reducible assumption))))
                refine wq_k rfl (fun K hK => ?_); go_simp; refine hK _ ?_; clear hK K
                refine wq_k rfl (fun K hK => ?_); go_simp; refine hK _ ?_; clear hK K
                (first | ((with_reducible apply wq_one); exact rfl; exact rfl; intro w' hw'; first | exact f0 (below_look hw' (by with_reducible assumption)) | exact f1 (below_look hw' (by with_reducible assumption)) | exact f2 (below_look hw' (by with_reducible assumption)) | exact f3 (below_look hw' (by with_reducible assumption)) ) | ((with_reducible apply wq_row); exact rfl; exact rfl; intro w' hw'; first | exact RowK.at (by with_reducible assumption) hw' | exact f4 (below_look hw' (by with_reducible assumption))))
                refine wq_k rfl (fun K hK => ?_); go_simp; refine hK _ ?_; clear hK K
                (first | ((with_reducible apply wq_one); exact rfl; exact rfl; intro w' hw'; first | exact f0 (below_look hw' (by with_reducible assumption)) | exact f1 (below_look hw' (by with_reducible assumption)) | exact f2 (below_look hw' (by with_reducible assumption)) | exact f3 (below_look hw' (by with_reducible assumption)) ) | ((with_reducible apply wq_row); exact rfl; exact rfl; intro w' hw'; first | exact RowK.at (by with_reducible assumption) hw' | exact f4 (below_look hw' (by with_reducible assumption))))
                refine wq_k rfl (fun K hK => ?_); go_simp; refine hK _ ?_; clear hK K
                refine wq_k rfl (fun K hK => ?_); go_simp; refine hK _ ?_; clear hK K
                (first | ((with_reducible apply wq_one); exact rfl; exact rfl; intro w' hw'; first | exact f0 (below_look hw' (by with_reducible assumption)) | exact f1 (below_look hw' (by with_reducible assumption)) | exact f2 (below_look hw' (by with_reducible assumption)) | exact f3 (below_look hw' (by with_reducible assumption)) ) | ((with_reducible apply wq_row); exact rfl; exact rfl; intro w' hw'; first | exact RowK.at (by with_reducible assumption) hw' | exact f4 (below_look hw' (by with_reducible assumption))))
                refine wq_ck rfl (fun K hK => ?_); go_simp; refine ⟨_, _, ⟨rfl, rfl⟩, hK _ _ ⟨_, fun w' hw' => calls_class hw' (HC.out w' hw'), ?_⟩⟩; clear hK K; simp only [put_lit, List.set_cons_zero, List.set_cons_succ]
                refine wq_k rfl (fun K hK => ?_); go_simp; refine hK _ ?_; clear hK K
                intro w7 hb7
                replace hb := hb.trans (hb7.mono hb.size)
                clear hb7 HC hrow hrow' hp hq
                go_wp2_with fail
                go_ret
                exact ⟨ret_int HF.out.symm, hb⟩
            · have hltJ : ¬ (j : Int) < (l' : Int) := by omega
              have HF : Hid (B = sg (cI (l : Int) (l' : Int))) := Lib.hid (by rw [HB2.out, HR.out, cmpTys_end (Or.inr (by rw [HL'.out]; omega)) (by rw [HL.out]; omega) (by rw [HL'.out]; omega), HL.out, HL'.out])
              clear HR
              apply wp_region_lit
              (with_reducible refine wl_k ?_ ?_); exact rfl; intro K hK; go_simp; refine hK _ ?_; clear hK K
              (with_reducible refine wl_k ?_ ?_); exact rfl; intro K hK; go_simp; refine hK _ ?_; clear hK K
              (first | ((with_reducible apply wl_oneG); exact rfl; exact rfl; first | exact f0 (by with_reducible assumption) | exact f1 (by with_reducible assumption) | exact f2 (by with_reducible assumption) | exact f3 (by with_reducible assumption) | with_reducible assumption | exact g22 (by with_reducible assumption) | exact g25 (by with_reducible assumption)) | ((with_reducible apply wl_rowG); exact rfl; exact rfl; first | with_reducible assumption | exact RowK.now (by with_reducible assumption) | exact f4 (by with_reducible assumption)))
              (with_reducible refine wl_k ?_ ?_); exact rfl; intro K hK; go_simp; refine hK _ ?_; clear hK K
              (with_reducible refine wl_k ?_ ?_); exact rfl; intro K hK; go_simp; refine hK _ ?_; clear hK K
              (with_reducible refine wl_k ?_ ?_); exact rfl; intro K hK; go_simp; refine hK _ ?_; clear hK K
              (with_reducible refine wl_k ?_ ?_); exact rfl; intro K hK; go_simp; refine hK _ ?_; clear hK K
              (with_reducible refine wl_k ?_ ?_); exact rfl; intro K hK; go_simp; refine hK _ ?_; clear hK K
              (first | ((with_reducible apply wl_oneG); exact rfl; exact rfl; first | exact f0 (by with_reducible assumption) | exact f1 (by with_reducible assumption) | exact f2 (by with_reducible assumption) | exact f3 (by with_reducible assumption) | with_reducible assumption | exact g22 (by with_reducible assumption) | exact g25 (by with_reducible assumption)) | ((with_reducible apply wl_rowG); exact rfl; exact rfl; first | with_reducible assumption | exact RowK.now (by with_reducible assumption) | exact f4 (by with_reducible assumption)))
              (with_reducible refine wl_k ?_ ?_); exact rfl; intro K hK; go_simp; refine hK _ ?_; clear hK K
              (with_reducible refine wl_k ?_ ?_); exact rfl; intro K hK; go_simp; refine hK _ ?_; clear hK K
              (with_reducible refine wl_k ?_ ?_); exact rfl; intro K hK; go_simp; refine hK _ ?_; clear hK K
              go_upto_region 13 with (fail)
              by_cases he : l = l'
              · have e1 : ((l : Int) == (l' : Int)) = true := by simp [he]
                have HF2 : Hid (B = 0) := Lib.hid (by rw [HF.out, he, ((cI_fine (l' : Int)).eq l').2 rfl]; rfl)
                clear he HF
                apply wp_region_lit
                (with_reducible refine wl_k ?_ ?_); exact rfl; intro K hK; go_simp; refine hK _ ?_; clear hK K
                (first | ((with_reducible apply wl_oneG); exact rfl; exact rfl; first | exact f0 (by with_reducible assumption) | exact f1 (by with_reducible assumption) | exact f2 (by with_reducible assumption) | exact f3 (by with_reducible assumption) | with_reducible assumption | exact g22 (by with_reducible assumption) | exact g25 (by with_reducible assumption)) | ((with_reducible apply wl_rowG); exact rfl; exact rfl; first | with_reducible assumption | exact RowK.now (by with_reducible assumption) | exact f4 (by with_reducible assumption)))
                (with_reducible refine wl_k ?_ ?_); exact rfl; intro K hK; go_simp; refine hK _ ?_; clear hK K
                (with_reducible refine wl_k ?_ ?_); exact rfl; intro K hK; go_simp; refine hK _ ?_; clear hK K
                (first | ((with_reducible apply wl_oneG); exact rfl; exact rfl; first | exact f0 (by with_reducible assumption) | exact f1 (by with_reducible assumption) | exact f2 (by with_reducible assumption) | exact f3 (by with_reducible assumption) | with_reducible assumption | exact g22 (by with_reducible assumption) | exact g25 (by with_reducible assumption)) | ((with_reducible apply wl_rowG); exact rfl; exact rfl; first | with_reducible assumption | exact RowK.now (by with_reducible assumption) | exact f4 (by with_reducible assumption)))
                (with_reducible refine wl_k ?_ ?_); exact rfl; intro K hK; go_simp; refine hK _ ?_; clear hK K
                (with_reducible refine wl_k ?_ ?_); exact rfl; intro K hK; go_simp; refine hK _ ?_; clear hK K
                clear hp hq
                go_wp2_with fail
                go_ret
                exact ⟨ret_int HF2.out.symm, hb⟩
              · have e1 : ((l : Int) == (l' : Int)) = false := beq_eq_false_iff_ne.2 (by omega)
                have hxx : ¬ (l : Int) < (l' : Int) := by omega
                have HF2 : Hid (B = 1) := Lib.hid (by rw [HF.out]; unfold cI; rw [if_neg hxx, if_pos (by omega)]; rfl)
                clear he HF
                apply wp_region_lit
                (with_reducible refine wl_k ?_ ?_); exact rfl; intro K hK; go_simp; refine hK _ ?_; clear hK K
                (first | ((with_reducible apply wl_oneG); exact rfl; exact rfl; first | exact f0 (by with_reducible assumption) | exact f1 (by with_reducible assumption) | exact f2 (by with_reducible assumption) | exact f3 (by with_reducible assumption) | with_reducible assumption | exact g22 (by with_reducible assumption) | exact g25 (by with_reducible assumption)) | ((with_reducible apply wl_rowG); exact rfl; exact rfl; first | with_reducible assumption | exact RowK.now (by with_reducible assumption) | exact f4 (by with_reducible assumption)))
                (with_reducible refine wl_k ?_ ?_); exact rfl; intro K hK; go_simp; refine hK _ ?_; clear hK K
                (with_reducible refine wl_k ?_ ?_); exact rfl; intro K hK; go_simp; refine hK _ ?_; clear hK K
                (first | ((with_reducible apply wl_oneG); exact rfl; exact rfl; first | exact f0 (by with_reducible assumption) | exact f1 (by with_reducible assumption) | exact f2 (by with_reducible assumption) | exact f3 (by with_reducible assumption) | with_reducible assumption | exact g22 (by with_reducible assumption) | exact g25 (by with_reducible assumption)) | ((with_reducible apply wl_rowG); exact rfl; exact rfl; first | with_reducible assumption | exact RowK.now (by with_reducible assumption) | exact f4 (by with_reducible assumption)))
                (with_reducible refine wl_k ?_ ?_); exact rfl; intro K hK; go_simp; refine hK _ ?_; clear hK K
                (with_reducible refine wl_k ?_ ?_); exact rfl; intro K hK; go_simp; refine hK _ ?_; clear hK K
                go_upto_region 15 with (fail)
                apply wp_region_lit
                (with_reducible refine wl_k ?_ ?_); exact rfl; intro K hK; go_simp; refine hK _ ?_; clear hK K
                (first | ((with_reducible apply wl_oneG); exact rfl; exact rfl; first | exact f0 (by with_reducible assumption) | exact f1 (by with_reducible assumption) | exact f2 (by with_reducible assumption) | exact f3 (by with_reducible assumption) | with_reducible assumption | exact g22 (by with_reducible assumption) | exact g25 (by with_reducible assumption)) | ((with_reducible apply wl_rowG); exact rfl; exact rfl; first | with_reducible assumption | exact RowK.now (by with_reducible assumption) | exact f4 (by with_reducible assumption)))
                (with_reducible refine wl_k ?_ ?_); exact rfl; intro K hK; go_simp; refine hK _ ?_; clear hK K
                (with_reducible refine wl_k ?_ ?_); exact rfl; intro K hK; go_simp; refine hK _ ?_; clear hK K
                (first | ((with_reducible apply wl_oneG); exact rfl; exact rfl; first | exact f0 (by with_reducible assumption) | exact f1 (by with_reducible assumption) | exact f2 (by with_reducible assumption) | exact f3 (by with_reducible assumption) | with_reducible assumption | exact g22 (by with_reducible assumption) | exact g25 (by with_reducible assumption)) | ((with_reducible apply wl_rowG); exact rfl; exact rfl; first | with_reducible assumption | exact RowK.now (by with_reducible assumption) | exact f4 (by with_reducible assumption)))
                (with_reducible refine wl_k ?_ ?_); exact rfl; intro K hK; go_simp; refine hK _ ?_; clear hK K
                (with_reducible refine wl_k ?_ ?_); exact rfl; intro K hK; go_simp; refine hK _ ?_; clear hK K
                (with_reducible refine wl_ck ?_ ?_); exact rfl; intro K hK; go_simp; refine ⟨_, _, ⟨rfl, rfl⟩, hK _ _ ⟨_, sign_any _ _, ?_⟩⟩; clear hK K; rintro e w8 ⟨rfl, hb7⟩; refine ⟨_, rfl, ?_⟩; simp only [put_lit, List.set_cons_zero, List.set_cons_succ]
                (with_reducible refine wl_k ?_ ?_); exact rfl; intro K hK; go_simp; refine hK _ ?_; clear hK K
                replace hb := hb.trans (hb7.mono hb.size)
                clear hb7 hp hq
                go_wp2_with fail
                go_ret
                exact ⟨ret_int HF2.out.symm, hb⟩
          · have hltI : ¬ (j : Int) < (l : Int) := by omega
            have HF : Hid (B = sg (cI (l : Int) (l' : Int))) := Lib.hid (by rw [HB2.out, HR.out, cmpTys_end (Or.inl (by rw [HL.out]; omega)) (by rw [HL.out]; omega) (by rw [HL'.out]; omega), HL.out, HL'.out])
            clear HR
            apply wp_region_lit
            (with_reducible refine wl_k ?_ ?_); exact rfl; intro K hK; go_simp; refine hK _ ?_; clear hK K
            (with_reducible refine wl_k ?_ ?_); exact rfl; intro K hK; go_simp; refine hK _ ?_; clear hK K
            (first | ((with_reducible apply wl_oneG); exact rfl; exact rfl; first | exact f0 (by with_reducible assumption) | exact f1 (by with_reducible assumption) | exact f2 (by with_reducible assumption) | exact f3 (by with_reducible assumption) | with_reducible assumption | exact g22 (by with_reducible assumption) | exact g25 (by with_reducible assumption)) | ((with_reducible apply wl_rowG); exact rfl; exact rfl; first | with_reducible assumption | exact RowK.now (by with_reducible assumption) | exact f4 (by with_reducible assumption)))
            (with_reducible refine wl_k ?_ ?_); exact rfl; intro K hK; go_simp; refine hK _ ?_; clear hK K
            (with_reducible refine wl_k ?_ ?_); exact rfl; intro K hK; go_simp; refine hK _ ?_; clear hK K
            (with_reducible refine wl_k ?_ ?_); exact rfl; intro K hK; go_simp; refine hK _ ?_; clear hK K
            (first | ((with_reducible refine wl_skipU ?_ ?_ ?_); exact rfl; exact rfl) | ((with_reducible refine wl_skip ?_ ?_); exact rfl; simp only [put_lit, List.set_cons_zero, List.set_cons_succ]))
            (first | ((with_reducible refine wl_skipU ?_ ?_ ?_); exact rfl; exact rfl) | ((with_reducible refine wl_skip ?_ ?_); exact rfl; simp only [put_lit, List.set_cons_zero, List.set_cons_succ]))
            (first | ((with_reducible refine wl_skipU ?_ ?_ ?_); exact rfl; exact rfl) | ((with_reducible refine wl_skip ?_ ?_); exact rfl; simp only [put_lit, List.set_cons_zero, List.set_cons_succ]))
            (first | ((with_reducible refine wl_skipU ?_ ?_ ?_); exact rfl; exact rfl) | ((with_reducible refine wl_skip ?_ ?_); exact rfl; simp only [put_lit, List.set_cons_zero, List.set_cons_succ]))
            (first | ((with_reducible refine wl_skipU ?_ ?_ ?_); exact rfl; exact rfl) | ((with_reducible refine wl_skip ?_ ?_); exact rfl; simp only [put_lit, List.set_cons_zero, List.set_cons_succ]))
            (with_reducible refine wl_k ?_ ?_); exact rfl; intro K hK; go_simp; refine hK _ ?_; clear hK K
            go_upto_region 13 with (fail)
            by_cases he : l = l'
            · have e1 : ((l : Int) == (l' : Int)) = true := by simp [he]
              have HF2 : Hid (B = 0) := Lib.hid (by rw [HF.out, he, ((cI_fine (l' : Int)).eq l').2 rfl]; rfl)
              clear he HF
              apply wp_region_lit
              (with_reducible refine wl_k ?_ ?_); exact rfl; intro K hK; go_simp; refine hK _ ?_; clear hK K
              (first | ((with_reducible apply wl_oneG); exact rfl; exact rfl; first | exact f0 (by with_reducible assumption) | exact f1 (by with_reducible assumption) | exact f2 (by with_reducible assumption) | exact f3 (by with_reducible assumption) | with_reducible assumption | exact g22 (by with_reducible assumption) | exact g25 (by with_reducible assumption)) | ((with_reducible apply wl_rowG); exact rfl; exact rfl; first | with_reducible assumption | exact RowK.now (by with_reducible assumption) | exact f4 (by with_reducible assumption)))
              (with_reducible refine wl_k ?_ ?_); exact rfl; intro K hK; go_simp; refine hK _ ?_; clear hK K
              (with_reducible refine wl_k ?_ ?_); exact rfl; intro K hK; go_simp; refine hK _ ?_; clear hK K
              (first | ((with_reducible apply wl_oneG); exact rfl; exact rfl; first | exact f0 (by with_reducible assumption) | exact f1 (by with_reducible assumption) | exact f2 (by with_reducible assumption) | exact f3 (by with_reducible assumption) | with_reducible assumption | exact g22 (by with_reducible assumption) | exact g25 (by with_reducible assumption)) | ((with_reducible apply wl_rowG); exact rfl; exact rfl; first | with_reducible assumption | exact RowK.now (by with_reducible assumption) | exact f4 (by with_reducible assumption)))
              (with_reducible refine wl_k ?_ ?_); exact rfl; intro K hK; go_simp; refine hK _ ?_; clear hK K
              (with_reducible refine wl_k ?_ ?_); exact rfl; intro K hK; go_simp; refine hK _ ?_; clear hK K
              clear hp hq
              go_wp2_with fail
              go_ret
              exact ⟨ret_int HF2.out.symm, hb⟩
            · have e1 : ((l : Int) == (l' : Int)) = false := beq_eq_false_iff_ne.2 (by omega)
              have hxx : (l : Int) < (l' : Int) := by omega
              have HF2 : Hid (B = -1) := Lib.hid (by rw [HF.out]; unfold cI; rw [if_pos hxx]; rfl)
              clear he HF
              apply wp_region_lit
              (with_reducible refine wl_k ?_ ?_); exact rfl; intro K hK; go_simp; refine hK _ ?_; clear hK K
              (first | ((with_reducible apply wl_oneG); exact rfl; exact rfl; first | exact f0 (by with_reducible assumption) | exact f1 (by with_reducible assumption) | exact f2 (by with_reducible assumption) | exact f3 (by with_reducible assumption) | with_reducible assumption | exact g22 (by with_reducible assumption) | exact g25 (by with_reducible assumption)) | ((with_reducible apply wl_rowG); exact rfl; exact rfl; first | with_reducible assumption | exact RowK.now (by with_reducible assumption) | exact f4 (by with_reducible assumption)))
              (with_reducible refine wl_k ?_ ?_); exact rfl; intro K hK; go_simp; refine hK _ ?_; clear hK K
              (with_reducible refine wl_k ?_ ?_); exact rfl; intro K hK; go_simp; refine hK _ ?_; clear hK K
              (first | ((with_reducible apply wl_oneG); exact rfl; exact rfl; first | exact f0 (by with_reducible assumption) | exact f1 (by with_reducible assumption) | exact f2 (by with_reducible assumption) | exact f3 (by with_reducible assumption) | with_reducible assumption | exact g22 (by with_reducible assumption) | exact g25 (by with_reducible assumption)) | ((with_reducible apply wl_rowG); exact rfl; exact rfl; first | with_reducible assumption | exact RowK.now (by with_reducible assumption) | exact f4 (by with_reducible assumption)))
              (with_reducible refine wl_k ?_ ?_); exact rfl; intro K hK; go_simp; refine hK _ ?_; clear hK K
              (with_reducible refine wl_k ?_ ?_); exact rfl; intro K hK; go_simp; refine hK _ ?_; clear hK K
              go_upto_region 15 with (fail)
              apply wp_region_lit
              (with_reducible refine wl_k ?_ ?_); exact rfl; intro K hK; go_simp; refine hK _ ?_; clear hK K
              (first | ((with_reducible apply wl_oneG); exact rfl; exact rfl; first | exact f0 (by with_reducible assumption) | exact f1 (by with_reducible assumption) | exact f2 (by with_reducible assumption) | exact f3 (by with_reducible assumption) | with_reducible assumption | exact g22 (by with_reducible assumption) | exact g25 (by with_reducible assumption)) | ((with_reducible apply wl_rowG); exact rfl; exact rfl; first | with_reducible assumption | exact RowK.now (by with_reducible assumption) | exact f4 (by with_reducible assumption)))
              (with_reducible refine wl_k ?_ ?_); exact rfl; intro K hK; go_simp; refine hK _ ?_; clear hK K
              (with_reducible refine wl_k ?_ ?_); exact rfl; intro K hK; go_simp; refine hK _ ?_; clear hK K
              (first | ((with_reducible apply wl_oneG); exact rfl; exact rfl; first | exact f0 (by with_reducible assumption) | exact f1 (by with_reducible assumption) | exact f2 (by with_reducible assumption) | exact f3 (by with_reducible assumption) | with_reducible assumption | exact g22 (by with_reducible assumption) | exact g25 (by with_reducible assumption)) | ((with_reducible apply wl_rowG); exact rfl; exact rfl; first | with_reducible assumption | exact RowK.now (by with_reducible assumption) | exact f4 (by with_reducible assumption)))
              (with_reducible refine wl_k ?_ ?_); exact rfl; intro K hK; go_simp; refine hK _ ?_; clear hK K
              (with_reducible refine wl_k ?_ ?_); exact rfl; intro K hK; go_simp; refine hK _ ?_; clear hK K
              (with_reducible refine wl_ck ?_ ?_); exact rfl; intro K hK; go_simp; refine ⟨_, _, ⟨rfl, rfl⟩, hK _ _ ⟨_, sign_any _ _, ?_⟩⟩; clear hK K; rintro e w8 ⟨rfl, hb7⟩; refine ⟨_, rfl, ?_⟩; simp only [put_lit, List.set_cons_zero, List.set_cons_succ]
              (with_reducible refine wl_k ?_ ?_); exact rfl; intro K hK; go_simp; refine hK _ ?_; clear hK K
              replace hb := hb.trans (hb7.mono hb.size)
              clear hb7 hp hq
              go_wp2_with fail
              go_ret
              exact ⟨ret_int HF2.out.symm, hb⟩
      · have e3 : (n != n') = true := by simp [h3]
        have HF : Hid (B = if decide (n < n') = true then -1 else 1) := Lib.hid (by rw [HB.out, cmpTy, h1, h2, ((cI_fine k').eq k').2 rfl, ((cB_fine s').eq s').2 rfl]; exact sg_ne_int h3 _)
        clear HB h1 h2 h3
        apply wp_region_lit
        (with_reducible refine wl_k ?_ ?_); exact rfl; intro K hK; go_simp; refine hK _ ?_; clear hK K
        (first | ((with_reducible apply wl_oneG); exact rfl; exact rfl; first | exact f0 (by with_reducible assumption) | exact f1 (by with_reducible assumption) | exact f2 (by with_reducible assumption) | exact f3 (by with_reducible assumption) | with_reducible assumption | exact g22 (by with_reducible assumption) | exact g25 (by with_reducible assumption)) | ((with_reducible apply wl_rowG); exact rfl; exact rfl; first | with_reducible assumption | exact RowK.now (by with_reducible assumption) | exact f4 (by with_reducible assumption)))
        (with_reducible refine wl_k ?_ ?_); exact rfl; intro K hK; go_simp; refine hK _ ?_; clear hK K
        (first | ((with_reducible apply wl_oneG); exact rfl; exact rfl; first | exact f0 (by with_reducible assumption) | exact f1 (by with_reducible assumption) | exact f2 (by with_reducible assumption) | exact f3 (by with_reducible assumption) | with_reducible assumption | exact g22 (by with_reducible assumption) | exact g25 (by with_reducible assumption)) | ((with_reducible apply wl_rowG); exact rfl; exact rfl; first | with_reducible assumption | exact RowK.now (by with_reducible assumption) | exact f4 (by with_reducible assumption)))
        (with_reducible refine wl_k ?_ ?_); exact rfl; intro K hK; go_simp; refine hK _ ?_; clear hK K
        by_cases h4 : n < n'
        · have HG : Hid (B = -1) := Lib.hid (by rw [HF.out, if_pos (decide_eq_true h4)])
          clear HF
          go_upto_region 6 with (fail)
          apply wp_region_lit
          (with_reducible refine wl_k ?_ ?_); exact rfl; intro K hK; go_simp; refine hK _ ?_; clear hK K
          (first | ((with_reducible apply wl_oneG); exact rfl; exact rfl; first | exact f0 (by with_reducible assumption) | exact f1 (by with_reducible assumption) | exact f2 (by with_reducible assumption) | exact f3 (by with_reducible assumption) | with_reducible assumption | exact g22 (by with_reducible assumption) | exact g25 (by with_reducible assumption)) | ((with_reducible apply wl_rowG); exact rfl; exact rfl; first | with_reducible assumption | exact RowK.now (by with_reducible assumption) | exact f4 (by with_reducible assumption)))
          (with_reducible refine wl_k ?_ ?_); exact rfl; intro K hK; go_simp; refine hK _ ?_; clear hK K
          (first | ((with_reducible apply wl_oneG); exact rfl; exact rfl; first | exact f0 (by with_reducible assumption) | exact f1 (by with_reducible assumption) | exact f2 (by with_reducible assumption) | exact f3 (by with_reducible assumption) | with_reducible assumption | exact g22 (by with_reducible assumption) | exact g25 (by with_reducible assumption)) | ((with_reducible apply wl_rowG); exact rfl; exact rfl; first | with_reducible assumption | exact RowK.now (by with_reducible assumption) | exact f4 (by with_reducible assumption)))
          (with_reducible refine wl_k ?_ ?_); exact rfl; intro K hK; go_simp; refine hK _ ?_; clear hK K
          (with_reducible refine wl_ck ?_ ?_); exact rfl; intro K hK; go_simp; refine ⟨_, _, ⟨rfl, rfl⟩, hK _ _ ⟨_, sign_any _ _, ?_⟩⟩; clear hK K; rintro e w8 ⟨rfl, hb7⟩; refine ⟨_, rfl, ?_⟩; simp only [put_lit, List.set_cons_zero, List.set_cons_succ]
          (with_reducible refine wl_k ?_ ?_); exact rfl; intro K hK; go_simp; refine hK _ ?_; clear hK K
          replace hb := hb.trans (hb7.mono hb.size)
          clear hb7 hp hq
          go_wp2_with fail
          go_ret
          exact ⟨ret_int HG.out.symm, hb⟩
        · have HG : Hid (B = 1) := Lib.hid (by rw [HF.out, if_neg (by simpa using h4)])
          clear HF
          go_upto_region 6 with (fail)
          apply wp_region_lit
          (with_reducible refine wl_k ?_ ?_); exact rfl; intro K hK; go_simp; refine hK _ ?_; clear hK K
          (first | ((with_reducible apply wl_oneG); exact rfl; exact rfl; first | exact f0 (by with_reducible assumption) | exact f1 (by with_reducible assumption) | exact f2 (by with_reducible assumption) | exact f3 (by with_reducible assumption) | with_reducible assumption | exact g22 (by with_reducible assumption) | exact g25 (by with_reducible assumption)) | ((with_reducible apply wl_rowG); exact rfl; exact rfl; first | with_reducible assumption | exact RowK.now (by with_reducible assumption) | exact f4 (by with_reducible assumption)))
          (with_reducible refine wl_k ?_ ?_); exact rfl; intro K hK; go_simp; refine hK _ ?_; clear hK K
          (first | ((with_reducible apply wl_oneG); exact rfl; exact rfl; first | exact f0 (by with_reducible assumption) | exact f1 (by with_reducible assumption) | exact f2 (by with_reducible assumption) | exact f3 (by with_reducible assumption) | with_reducible assumption | exact g22 (by with_reducible assumption) | exact g25 (by with_reducible assumption)) | ((with_reducible apply wl_rowG); exact rfl; exact rfl; first | with_reducible assumption | exact RowK.now (by with_reducible assumption) | exact f4 (by with_reducible assumption)))
          (with_reducible refine wl_k ?_ ?_); exact rfl; intro K hK; go_simp; refine hK _ ?_; clear hK K
          (with_reducible refine wl_ck ?_ ?_); exact rfl; intro K hK; go_simp; refine ⟨_, _, ⟨rfl, rfl⟩, hK _ _ ⟨_, sign_any _ _, ?_⟩⟩; clear hK K; rintro e w8 ⟨rfl, hb7⟩; refine ⟨_, rfl, ?_⟩; simp only [put_lit, List.set_cons_zero, List.set_cons_succ]
          (with_reducible refine wl_k ?_ ?_); exact rfl; intro K hK; go_simp; refine hK _ ?_; clear hK K
          replace hb := hb.trans (hb7.mono hb.size)
          clear hb7 hp hq
          go_wp2_with fail
          go_ret
          exact ⟨ret_int HG.out.symm, hb⟩
    · have e2 : (s.toList == s'.toList) = false := beq_eq_false_iff_ne.2 (fun e => h2 (bytes_inj e))
      have HF : Hid (B = if Op.bytesLess s.toList s'.toList = true then -1 else 1) := Lib.hid (by rw [HB.out, cmpTy, h1, ((cI_fine k').eq k').2 rfl]; exact sg_ne_bytes h2 _)
      clear HB h1 h2
      apply wp_region_lit
      (with_reducible refine wl_k ?_ ?_); exact rfl; intro K hK; go_simp; refine hK _ ?_; clear hK K
      (first | ((with_reducible apply wl_oneG); exact rfl; exact rfl; first | exact f0 (by with_reducible assumption) | exact f1 (by with_reducible assumption) | exact f2 (by with_reducible assumption) | exact f3 (by with_reducible assumption) | with_reducible assumption | exact g22 (by with_reducible assumption) | exact g25 (by with_reducible assumption)) | ((with_reducible apply wl_rowG); exact rfl; exact rfl; first | with_reducible assumption | exact RowK.now (by with_reducible assumption) | exact f4 (by with_reducible assumption)))
      (with_reducible refine wl_k ?_ ?_); exact rfl; intro K hK; go_simp; refine hK _ ?_; clear hK K
      (first | ((with_reducible apply wl_oneG); exact rfl; exact rfl; first | exact f0 (by with_reducible assumption) | exact f1 (by with_reducible assumption) | exact f2 (by with_reducible assumption) | exact f3 (by with_reducible assumption) | with_reducible assumption | exact g22 (by with_reducible assumption) | exact g25 (by with_reducible assumption)) | ((with_reducible apply wl_rowG); exact rfl; exact rfl; first | with_reducible assumption | exact RowK.now (by with_reducible assumption) | exact f4 (by with_reducible assumption)))
      (with_reducible refine wl_k ?_ ?_); exact rfl; intro K hK; go_simp; refine hK _ ?_; clear hK K
      by_cases h4 : Op.bytesLess s.toList s'.toList = true
      · have HG : Hid (B = -1) := Lib.hid (by rw [HF.out, if_pos h4])
        clear HF
        go_upto_region 4 with (fail)
        apply wp_region_lit
        (with_reducible refine wl_k ?_ ?_); exact rfl; intro K hK; go_simp; refine hK _ ?_; clear hK K
        (first | ((with_reducible apply wl_oneG); exact rfl; exact rfl; first | exact f0 (by with_reducible assumption) | exact f1 (by with_reducible assumption) | exact f2 (by with_reducible assumption) | exact f3 (by with_reducible assumption) | with_reducible assumption | exact g22 (by with_reducible assumption) | exact g25 (by with_reducible assumption)) | ((with_reducible apply wl_rowG); exact rfl; exact rfl; first | with_reducible assumption | exact RowK.now (by with_reducible assumption) | exact f4 (by with_reducible assumption)))
        (with_reducible refine wl_k ?_ ?_); exact rfl; intro K hK; go_simp; refine hK _ ?_; clear hK K
        (first | ((with_reducible apply wl_oneG); exact rfl; exact rfl; first | exact f0 (by with_reducible assumption) | exact f1 (by with_reducible assumption) | exact f2 (by with_reducible assumption) | exact f3 (by with_reducible assumption) | with_reducible assumption | exact g22 (by with_reducible assumption) | exact g25 (by with_reducible assumption)) | ((with_reducible apply wl_rowG); exact rfl; exact rfl; first | with_reducible assumption | exact RowK.now (by with_reducible assumption) | exact f4 (by with_reducible assumption)))
        (with_reducible refine wl_k ?_ ?_); exact rfl; intro K hK; go_simp; refine hK _ ?_; clear hK K
        (with_reducible refine wl_ck ?_ ?_); exact rfl; intro K hK; go_simp; refine ⟨_, _, ⟨rfl, rfl⟩, hK _ _ ⟨_, sign_any _ _, ?_⟩⟩; clear hK K; rintro e w8 ⟨rfl, hb7⟩; refine ⟨_, rfl, ?_⟩; simp only [put_lit, List.set_cons_zero, List.set_cons_succ]
        (with_reducible refine wl_k ?_ ?_); exact rfl; intro K hK; go_simp; refine hK _ ?_; clear hK K
        replace hb := hb.trans (hb7.mono hb.size)
        clear hb7 hp hq
        go_wp2_with fail
        go_ret
        exact ⟨ret_int HG.out.symm, hb⟩
      · have HG : Hid (B = 1) := Lib.hid (by rw [HF.out, if_neg h4])
        replace h4 : Op.bytesLess s.toList s'.toList = false := by simpa using h4
        clear HF
        go_upto_region 4 with (fail)
        apply wp_region_lit
        (with_reducible refine wl_k ?_ ?_); exact rfl; intro K hK; go_simp; refine hK _ ?_; clear hK K
        (first | ((with_reducible apply wl_oneG); exact rfl; exact rfl; first | exact f0 (by with_reducible assumption) | exact f1 (by with_reducible assumption) | exact f2 (by with_reducible assumption) | exact f3 (by with_reducible assumption) | with_reducible assumption | exact g22 (by with_reducible assumption) | exact g25 (by with_reducible assumption)) | ((with_reducible apply wl_rowG); exact rfl; exact rfl; first | with_reducible assumption | exact RowK.now (by with_reducible assumption) | exact f4 (by with_reducible assumption)))
        (with_reducible refine wl_k ?_ ?_); exact rfl; intro K hK; go_simp; refine hK _ ?_; clear hK K
        (first | ((with_reducible apply wl_oneG); exact rfl; exact rfl; first | exact f0 (by with_reducible assumption) | exact f1 (by with_reducible assumption) | exact f2 (by with_reducible assumption) | exact f3 (by with_reducible assumption) | with_reducible assumption | exact g22 (by with_reducible assumption) | exact g25 (by with_reducible assumption)) | ((with_reducible apply wl_rowG); exact rfl; exact rfl; first | with_reducible assumption | exact RowK.now (by with_reducible assumption) | exact f4 (by with_reducible assumption)))
        (with_reducible refine wl_k ?_ ?_); exact rfl; intro K hK; go_simp; refine hK _ ?_; clear hK K
        (with_reducible refine wl_ck ?_ ?_); exact rfl; intro K hK; go_simp; refine ⟨_, _, ⟨rfl, rfl⟩, hK _ _ ⟨_, sign_any _ _, ?_⟩⟩; clear hK K; rintro e w8 ⟨rfl, hb7⟩; refine ⟨_, rfl, ?_⟩; simp only [put_lit, List.set_cons_zero, List.set_cons_succ]
        (with_reducible refine wl_k ?_ ?_); exact rfl; intro K hK; go_simp; refine hK _ ?_; clear hK K
        replace hb := hb.trans (hb7.mono hb.size)
        clear hb7 hp hq
        go_wp2_with fail
        go_ret
        exact ⟨ret_int HG.out.symm, hb⟩
  · have e1 : (k != k') = true := by simp [h1]
    have HF : Hid (B = if decide (k < k') = true then -1 else 1) := Lib.hid (by rw [HB.out, cmpTy]; exact sg_ne_int h1 _)
    clear HB h1
    apply wp_region_lit
    (with_reducible refine wl_k ?_ ?_); exact rfl; intro K hK; go_simp; refine hK _ ?_; clear hK K
    (first | ((with_reducible apply wl_oneG); exact rfl; exact rfl; first | exact f0 (by with_reducible assumption) | exact f1 (by with_reducible assumption) | exact f2 (by with_reducible assumption) | exact f3 (by with_reducible assumption) | with_reducible assumption | exact g22 (by with_reducible assumption) | exact g25 (by with_reducible assumption)) | ((with_reducible apply wl_rowG); exact rfl; exact rfl; first | with_reducible assumption | exact RowK.now (by with_reducible assumption) | exact f4 (by with_reducible assumption)))
    (with_reducible refine wl_k ?_ ?_); exact rfl; intro K hK; go_simp; refine hK _ ?_; clear hK K
    (first | ((with_reducible apply wl_oneG); exact rfl; exact rfl; first | exact f0 (by with_reducible assumption) | exact f1 (by with_reducible assumption) | exact f2 (by with_reducible assumption) | exact f3 (by with_reducible assumption) | with_reducible assumption | exact g22 (by with_reducible assumption) | exact g25 (by with_reducible assumption)) | ((with_reducible apply wl_rowG); exact rfl; exact rfl; first | with_reducible assumption | exact RowK.now (by with_reducible assumption) | exact f4 (by with_reducible assumption)))
    (with_reducible refine wl_k ?_ ?_); exact rfl; intro K hK; go_simp; refine hK _ ?_; clear hK K
    by_cases h4 : k < k'
    · have HG : Hid (B = -1) := Lib.hid (by rw [HF.out, if_pos (decide_eq_true h4)])
      clear HF
      go_upto_region 2 with (fail)
      apply wp_region_lit
      (with_reducible refine wl_k ?_ ?_); exact rfl; intro K hK; go_simp; refine hK _ ?_; clear hK K
      (first | ((with_reducible apply wl_oneG); exact rfl; exact rfl; first | exact f0 (by with_reducible assumption) | exact f1 (by with_reducible assumption) | exact f2 (by with_reducible assumption) | exact f3 (by with_reducible assumption) | with_reducible assumption | exact g22 (by with_reducible assumption) | exact g25 (by with_reducible assumption)) | ((with_reducible apply wl_rowG); exact rfl; exact rfl; first | with_reducible assumption | exact RowK.now (by with_reducible assumption) | exact f4 (by with_reducible assumption)))
      (with_reducible refine wl_k ?_ ?_); exact rfl; intro K hK; go_simp; refine hK _ ?_; clear hK K
      (first | ((with_reducible apply wl_oneG); exact rfl; exact rfl; first | exact f0 (by with_reducible assumption) | exact f1 (by with_reducible assumption) | exact f2 (by with_reducible assumption) | exact f3 (by with_reducible assumption) | with_reducible assumption | exact g22 (by with_reducible assumption) | exact g25 (by with_reducible assumption)) | ((with_reducible apply wl_rowG); exact rfl; exact rfl; first | with_reducible assumption | exact RowK.now (by with_reducible assumption) | exact f4 (by with_reducible assumption)))
      (with_reducible refine wl_k ?_ ?_); exact rfl; intro K hK; go_simp; refine hK _ ?_; clear hK K
      (with_reducible refine wl_ck ?_ ?_); exact rfl; intro K hK; go_simp; refine ⟨_, _, ⟨rfl, rfl⟩, hK _ _ ⟨_, sign_any _ _, ?_⟩⟩; clear hK K; rintro e w8 ⟨rfl, hb7⟩; refine ⟨_, rfl, ?_⟩; simp only [put_lit, List.set_cons_zero, List.set_cons_succ]
      (with_reducible refine wl_k ?_ ?_); exact rfl; intro K hK; go_simp; refine hK _ ?_; clear hK K
      replace hb := hb.trans (hb7.mono hb.size)
      clear hb7 hp hq
      go_wp2_with fail
      go_ret
      exact ⟨ret_int HG.out.symm, hb⟩
    · have HG : Hid (B = 1) := Lib.hid (by rw [HF.out, if_neg (by simpa using h4)])
      clear HF
      go_upto_region 2 with (fail)
      apply wp_region_lit
      (with_reducible refine wl_k ?_ ?_); exact rfl; intro K hK; go_simp; refine hK _ ?_; clear hK K
      (first | ((with_reducible apply wl_oneG); exact rfl; exact rfl; first | exact f0 (by with_reducible assumption) | exact f1 (by with_reducible assumption) | exact f2 (by with_reducible assumption) | exact f3 (by with_reducible assumption) | with_reducible assumption | exact g22 (by with_reducible assumption) | exact g25 (by with_reducible assumption)) | ((with_reducible apply wl_rowG); exact rfl; exact rfl; first | with_reducible assumption | exact RowK.now (by with_reducible assumption) | exact f4 (by with_reducible assumption)))
      (with_reducible refine wl_k ?_ ?_); exact rfl; intro K hK; go_simp; refine hK _ ?_; clear hK K
      (first | ((with_reducible apply wl_oneG); exact rfl; exact rfl; first | exact f0 (by with_reducible assumption) | exact f1 (by with_reducible assumption) | exact f2 (by with_reducible assumption) | exact f3 (by with_reducible assumption) | with_reducible assumption | exact g22 (by with_reducible assumption) | exact g25 (by with_reducible assumption)) | ((with_reducible apply wl_rowG); exact rfl; exact rfl; first | with_reducible assumption | exact RowK.now (by with_reducible assumption) | exact f4 (by with_reducible assumption)))
      (with_reducible refine wl_k ?_ ?_); exact rfl; intro K hK; go_simp; refine hK _ ?_; clear hK K
      (with_reducible refine wl_ck ?_ ?_); exact rfl; intro K hK; go_simp; refine ⟨_, _, ⟨rfl, rfl⟩, hK _ _ ⟨_, sign_any _ _, ?_⟩⟩; clear hK K; rintro e w8 ⟨rfl, hb7⟩; refine ⟨_, rfl, ?_⟩; simp only [put_lit, List.set_cons_zero, List.set_cons_succ]
      (with_reducible refine wl_k ?_ ?_); exact rfl; intro K hK; go_simp; refine hK _ ?_; clear hK K
      replace hb := hb.trans (hb7.mono hb.size)
      clear hb7 hp hq
      go_wp2_with fail
      go_ret
      exact ⟨ret_int HG.out.symm, hb⟩
set_option maxHeartbeats 2000000 in
set_option maxRecDepth 100000 in
theorem LessI_any (t u : Ty) (w : World) (D D' : Nat → Prop) (row row' : Array Value) (h : TyAt w D t row) (h' : TyAt w D' u row') :
    Calls Tryd.prog 28 #[.agg row, .agg row'] w fun e w' => e = .returned (.bool (lessTy t u)) ∧ Below w.heap.size w w' := by
  have HC := Lib.hid h
  have HC2 := Lib.hid h'
  obtain ⟨k, s, n, A, l, c, ts, e, rfl, -⟩ := h.parts
  obtain ⟨k', s', n', A', l', c', us, e', rfl, -⟩ := h'.parts
  clear h h' e e'
  have hb := Below.refl w.heap.size w
  go_enter Tryd.func28, Tryd.ntmps28
  go_upto_region 0 with (fail)
  apply wp_region_lit
  (with_reducible refine wl_box rfl ?_); intro W p hbn hlp hp; replace hb := hb.trans (hbn.mono hb.size); clear hbn; simp only [put_lit, List.set_cons_zero, List.set_cons_succ]
  have lthpq := heap_lt hp; (with_reducible refine wl_box rfl ?_); intro W2 q hbn hlq hq; replace hp := below_look hbn hp; replace hb := hb.trans (hbn.mono hb.size); clear hbn; simp only [put_lit, List.set_cons_zero, List.set_cons_succ]
  (with_reducible refine wl_k ?_ ?_); exact rfl; intro K hK; go_simp; refine hK _ ?_; clear hK K
  go_upto_region 1 with (fail)
  have HD := Lib.hid (Compare_any t u W2 D D' _ _ (HC.out.old hb) (HC2.out.old hb))
  apply wp_region_lit
  (first | ((with_reducible apply wl_oneG); exact rfl; exact rfl; first | exact f0 (by with_reducible assumption) | exact f1 (by with_reducible assumption) | exact f2 (by with_reducible assumption) | exact f3 (by with_reducible assumption) | with_reducible assumption | exact g22 (by with_reducible assumption) | exact g25 (by with_reducible assumption)) | ((with_reducible apply wl_rowG); exact rfl; exact rfl; first | with_reducible assumption | exact RowK.now (by with_reducible assumption) | exact f4 (by with_reducible assumption)))
  (first | ((with_reducible apply wl_oneG); exact rfl; exact rfl; first | exact f0 (by with_reducible assumption) | exact f1 (by with_reducible assumption) | exact f2 (by with_reducible assumption) | exact f3 (by with_reducible assumption) | with_reducible assumption | exact g22 (by with_reducible assumption) | exact g25 (by with_reducible assumption)) | ((with_reducible apply wl_rowG); exact rfl; exact rfl; first | with_reducible assumption | exact RowK.now (by with_reducible assumption) | exact f4 (by with_reducible assumption)))
  (with_reducible refine wl_ck ?_ ?_); exact rfl; intro K hK; go_simp; refine ⟨_, _, ⟨rfl, rfl⟩, hK _ _ ⟨_, HD.out, ?_⟩⟩; clear hK K; rintro e w7 ⟨rfl, hb7⟩; refine ⟨_, rfl, ?_⟩; simp only [put_lit, List.set_cons_zero, List.set_cons_succ]
  (with_reducible refine wl_k ?_ ?_); exact rfl; intro K hK; go_simp; refine hK _ ?_; clear hK K
  (with_reducible refine wl_k ?_ ?_); exact rfl; intro K hK; go_simp; refine hK _ ?_; clear hK K
  replace hb := hb.trans (hb7.mono hb.size)
  clear hb7 HD hp hq HC HC2
  go_wp2_with fail
  go_ret
  exact ⟨by rw [← sg_less]; rfl, hb⟩
end Go.Proofs.YtokmaehefenpmaaDoor
