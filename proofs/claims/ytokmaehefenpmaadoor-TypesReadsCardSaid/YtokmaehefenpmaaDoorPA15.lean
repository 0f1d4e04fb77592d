/- The document's Parse. The law TypesReads: whatever the input it returns true. The condition of the rows that list strconv's two errors. What the rows that list strconv's two errors give the walk: these variables hold error values. -/
import Derived.Test.YtokmaehefenpmaaDoorPA13
import Derived.Test.YtokmaehefenpmaaDoorPA14
import Derived.Test.YtokmaehefenpmaaDoorPA8
import Derived.Test.YtokmaehefenpmaaDoorPA3
import Derived.Test.YtokmaehefenpmaaDoorPA1
import Derived.Stop.LaidErr
import Derived.MakeChecks
import Derived.Test.YtokmaehefenpmaaDoorPA10
namespace Go.Proofs.YtokmaehefenpmaaDoor
open Go.RowKit Go.Proofs.YtokmaehefenpmaaDoor.Nm
set_option linter.unusedSimpArgs false
def QPost (o : Option Ty) (w : World) (e : Ending) (w' : World) : Prop := ∃ row, e = .returned (.tuple #[.agg row, .int .i64 (if o.isSome then 0 else 30)]) ∧ TyAt w' (fun b => w.heap.size ≤ b) (o.getD zeroTy) row ∧ Below w.heap.size w w'
set_option maxHeartbeats 4000000 in
set_option maxRecDepth 100000 in
theorem ParseI_any (l : List UInt8) (hl : l.length ≤ 4000) (w : World) : Calls Tryd.prog 36 #[.string (strOf l)] w (QPost (itB l (itOne (l.length + 1) l)) w) := by
  obtain ⟨s, hs⟩ : ∃ s, s = strOf l := ⟨_, rfl⟩
  have hsz : s.size = l.length := by rw [hs, strOf_size]
  have hs1 : ¬ (s.size : Int) > 4000 := by omega
  have hs2 : s.size ≤ 4000 := by omega
  have HS := Lib.hid hs
  have HSZ := Lib.hid hsz
  have HO : Hid (∀ w', Calls Tryd.prog 64 #[.string s, .int .i64 0] w' (OPost l (itOne (l.length + 1) l) w')) := Lib.hid fun w' => by
    have := one_all l (by omega) (l.length + 1) 0 (by omega) (by simp) w'
    rw [← hs] at this
    simpa using this
  obtain ⟨R, hR⟩ : ∃ R, itB l (itOne (l.length + 1) l) = R := ⟨_, rfl⟩
  rw [hR, ← hs]
  have HR := Lib.hid hR
  clear hs hsz hl hR
  have hb := Below.refl w.heap.size w
  go_enter Tryd.func36, Tryd.ntmps36
  go_upto_region 0 with (fail)
  apply wp_region_lit
  (with_reducible refine wl_all ?_); intro W z hbn hlz hz; replace hb := hb.trans (hbn.mono hb.size); clear hbn; simp only [put_lit, List.set_cons_zero, List.set_cons_succ]
  (with_reducible refine wl_k ?_ ?_); exact rfl; intro K hK; go_simp; refine hK _ ?_; clear hK K
  go_upto_region 1 with (fail)
  apply wp_region_lit
  (with_reducible refine wl_k ?_ ?_); exact rfl; intro K hK; go_simp; refine hK _ ?_; clear hK K
  (with_reducible refine wl_k ?_ ?_); exact rfl; intro K hK; go_simp; refine hK _ ?_; clear hK K
  (with_reducible refine wl_k ?_ ?_); exact rfl; intro K hK; go_simp; refine hK _ ?_; clear hK K
  have hwW := hb.size
  have hzW := heap_lt hz
  go_upto_region 3 with (fail)
  have hT := HO.out W
  cases hr : itOne (l.length + 1) l with
  | none =>
    rw [hr] at hT
    have HRN : Hid (R = none) := Lib.hid (by have := HR.out; rw [hr] at this; exact this.symm)
    have HT := Lib.hid hT
    have ene : ((-1 : Int) != (s.size : Int)) = true := by simp
    clear hr hT HO
    apply wp_region_lit
    (with_reducible refine wl_k ?_ ?_); exact rfl; intro K hK; go_simp; refine hK _ ?_; clear hK K
    (with_reducible refine wl_ck ?_ ?_); exact rfl; intro K hK; go_simp; refine ⟨_, _, ⟨rfl, rfl⟩, hK _ _ ⟨_, HT.out, ?_⟩⟩; clear hK K; rintro e w9 ⟨t9, row9, rfl, hta, hb9⟩; refine ⟨_, rfl, ?_⟩; simp only [put_lit, List.set_cons_zero, List.set_cons_succ]
    obtain ⟨k9, s9, n9, A9, l9, c9, ts9, hu9, rfl, -⟩ := hta.parts
    replace hz := below_look hb9 hz; replace hb := hb.trans (hb9.mono hb.size); clear hb9
    clear hta hu9 HT
    (with_reducible refine wl_k ?_ ?_); exact rfl; intro K hK; go_simp; refine hK _ ?_; clear hK K
    (with_reducible refine wl_k ?_ ?_); exact rfl; intro K hK; go_simp; refine hK _ ?_; clear hK K
    (with_reducible refine wl_k ?_ ?_); exact rfl; intro K hK; go_simp; refine hK _ ?_; clear hK K
    have lthzq := heap_lt hz; (with_reducible refine wl_all ?_); intro X1 q hbn hlq hq; replace hz := below_look hbn hz; replace hb := hb.trans (hbn.mono hb.size); clear hbn; simp only [put_lit, List.set_cons_zero, List.set_cons_succ]
    (with_reducible refine wl_put rfl rfl hq ?_); rw [put_noneA]; intro X2 hbx hsz hkx hnx; replace hz := (hkx _ (by omega)).trans hz; replace hb := hbx _ _ (by omega) hb; clear hq; have hq := hnx; clear hnx
    clear hbx hkx hsz
    (with_reducible refine wl_k ?_ ?_); exact rfl; intro K hK; go_simp; refine hK _ ?_; clear hK K
    go_upto_region 4 with (fail)
    apply wp_region_lit
    (with_reducible refine wl_k ?_ ?_); exact rfl; intro K hK; go_simp; refine hK _ ?_; clear hK K
    (with_reducible refine wl_k ?_ ?_); exact rfl; intro K hK; go_simp; refine hK _ ?_; clear hK K
    (with_reducible refine wl_k ?_ ?_); exact rfl; intro K hK; go_simp; refine hK _ ?_; clear hK K
    (with_reducible refine wl_k ?_ ?_); exact rfl; intro K hK; go_simp; refine hK _ ?_; clear hK K
    (with_reducible refine wl_k ?_ ?_); exact rfl; intro K hK; go_simp; refine hK _ ?_; clear hK K
    (first | ((with_reducible refine wl_skipU ?_ ?_ ?_); exact rfl; exact rfl) | ((with_reducible refine wl_skip ?_ ?_); exact rfl; simp only [put_lit, List.set_cons_zero, List.set_cons_succ]))
    (first | ((with_reducible refine wl_skipU ?_ ?_ ?_); exact rfl; exact rfl) | ((with_reducible refine wl_skip ?_ ?_); exact rfl; simp only [put_lit, List.set_cons_zero, List.set_cons_succ]))
    (first | ((with_reducible refine wl_skipU ?_ ?_ ?_); exact rfl; exact rfl) | ((with_reducible refine wl_skip ?_ ?_); exact rfl; simp only [put_lit, List.set_cons_zero, List.set_cons_succ]))
    (with_reducible refine wl_k ?_ ?_); exact rfl; intro K hK; go_simp; refine hK _ ?_; clear hK K
    (with_reducible refine wl_k ?_ ?_); exact rfl; intro K hK; go_simp; refine hK _ ?_; clear hK K
    (first | ((with_reducible refine wl_skipU ?_ ?_ ?_); exact rfl; exact rfl) | ((with_reducible refine wl_skip ?_ ?_); exact rfl; simp only [put_lit, List.set_cons_zero, List.set_cons_succ]))
    (first | ((with_reducible refine wl_skipU ?_ ?_ ?_); exact rfl; exact rfl) | ((with_reducible refine wl_skip ?_ ?_); exact rfl; simp only [put_lit, List.set_cons_zero, List.set_cons_succ]))
    (first | ((with_reducible refine wl_skipU ?_ ?_ ?_); exact rfl; exact rfl) | ((with_reducible refine wl_skip ?_ ?_); exact rfl; simp only [put_lit, List.set_cons_zero, List.set_cons_succ]))
    (first | ((with_reducible refine wl_skipU ?_ ?_ ?_); exact rfl; exact rfl) | ((with_reducible refine wl_skip ?_ ?_); exact rfl; simp only [put_lit, List.set_cons_zero, List.set_cons_succ]))
    (with_reducible refine wl_k ?_ ?_); exact rfl; intro K hK; go_simp; refine hK _ ?_; clear hK K
    clear ene hq
    go_upto_region 5 with (fail)
    apply wp_region_lit
    refine wl_val rfl (ex_build 24 _ rfl (L := []) rfl built24z) ?_
    simp only [put_lit, List.set_cons_zero, List.set_cons_succ]
    (with_reducible refine wl_put rfl rfl hz ?_); rw [put_noneA]; intro W3 hbx hsz hkx hnx; replace hb := hbx _ _ (by omega) hb; clear hz; have hz := hnx; clear hnx
    (with_reducible refine wl_k ?_ ?_); exact rfl; intro K hK; go_simp; refine hK _ ?_; clear hK K
    clear hbx hkx hsz
    have HZ := Lib.hid hz
    have HB := Lib.hid hb
    clear hz hb
    go_wp2_with fail
    refine bodyPost_ret (res24t rfl _ _ z rfl rfl HZ.out) rfl ?_
    obtain rfl := HRN.out
    exact ⟨_, rfl, zero_tree _ _, HB.out⟩
  | some p =>
    obtain ⟨t9, s1⟩ := p
    rw [hr] at hT
    have hrr := HR.out
    rw [hr] at hrr
    obtain ⟨j, hj⟩ : ∃ j, j = l.length - s1.length := ⟨_, rfl⟩
    have hT2 : Calls Tryd.prog 64 #[.string s, .int .i64 0] W fun e w' => ∃ row, e = .returned (.tuple #[.agg row, .int .i64 (j : Int)]) ∧ TyAt w' (fun b => W.heap.size ≤ b) t9 row ∧ Below W.heap.size W w' := by rw [hj]; exact hT
    have HT := Lib.hid hT2
    have hsl := (itOne_suf _ _ _ _ hr).length_le
    have HRR := Lib.hid hrr
    have HJ := Lib.hid hj
    clear hr hT hT2 HO hrr hj
    apply wp_region_lit
    (with_reducible refine wl_k ?_ ?_); exact rfl; intro K hK; go_simp; refine hK _ ?_; clear hK K
    (with_reducible refine wl_ck ?_ ?_); exact rfl; intro K hK; go_simp; refine ⟨_, _, ⟨rfl, rfl⟩, hK _ _ ⟨_, HT.out, ?_⟩⟩; clear hK K; rintro e w9 ⟨row9, rfl, hta, hb9⟩; refine ⟨_, rfl, ?_⟩; simp only [put_lit, List.set_cons_zero, List.set_cons_succ]
    obtain ⟨k9, s9, n9, A9, l9, c9, ts9, hu9, rfl, -⟩ := hta.parts
    have hz9 := hb9.size
    replace hz := below_look hb9 hz; replace hb := hb.trans (hb9.mono hb.size); clear hb9
    have HTY := Lib.hid (hta.low.weak (D' := fun b => w.heap.size ≤ b ∧ b ≠ z ∧ b < w9.heap.size) fun b h => by have h1 := h.1; have h2 := h.2; refine ⟨?_, ?_, ?_⟩ <;> omega)
    have hy := Below.refl w9.heap.size w9
    clear hta hu9 HT
    (with_reducible refine wl_k ?_ ?_); exact rfl; intro K hK; go_simp; refine hK _ ?_; clear hK K
    (with_reducible refine wl_k ?_ ?_); exact rfl; intro K hK; go_simp; refine hK _ ?_; clear hK K
    (with_reducible refine wl_k ?_ ?_); exact rfl; intro K hK; go_simp; refine hK _ ?_; clear hK K
    have lthzq := heap_lt hz; (with_reducible refine wl_all ?_); intro X1 q hbn hlq hq; replace hz := below_look hbn hz; replace hy := hy.trans (hbn.mono hy.size); replace hb := hb.trans (hbn.mono hb.size); clear hbn; simp only [put_lit, List.set_cons_zero, List.set_cons_succ]
    (with_reducible refine wl_put rfl rfl hq ?_); rw [put_noneA]; intro X2 hbx hsz hkx hnx; replace hz := (hkx _ (by omega)).trans hz; replace hy := hbx _ _ (by omega) hy; replace hb := hbx _ _ (by omega) hb; clear hq; have hq := hnx; clear hnx
    replace HTY := Lib.hid (HTY.out.old hy)
    clear hbx hkx hsz hy
    (with_reducible refine wl_k ?_ ?_); exact rfl; intro K hK; go_simp; refine hK _ ?_; clear hK K
    go_upto_region 4 with (fail)
    by_cases hs1e : s1 = []
    · subst hs1e
      have ene : ((j : Int) != (s.size : Int)) = false := by
        have h1 := HJ.out
        have h2 := HSZ.out
        simp at h1
        simp; omega
      have HC := Lib.hid (OpenI_any t9 X2 _ _ HTY.out)
      cases hv : validB true t9 with
      | false =>
        rw [hv] at HC
        have HRN : Hid (R = none) := Lib.hid (by have := HRR.out; simp [itB, hv] at this; exact this.symm)
        clear hv
        apply wp_region_lit
        (with_reducible refine wl_k ?_ ?_); exact rfl; intro K hK; go_simp; refine hK _ ?_; clear hK K
        (with_reducible refine wl_k ?_ ?_); exact rfl; intro K hK; go_simp; refine hK _ ?_; clear hK K
        (with_reducible refine wl_k ?_ ?_); exact rfl; intro K hK; go_simp; refine hK _ ?_; clear hK K
        (with_reducible refine wl_k ?_ ?_); exact rfl; intro K hK; go_simp; refine hK _ ?_; clear hK K
        (with_reducible refine wl_k ?_ ?_); exact rfl; intro K hK; go_simp; refine hK _ ?_; clear hK K
        (first | ((with_reducible apply wl_oneG); exact rfl; exact rfl; first | exact f0 (by with_reducible assumption) | exact f1 (by with_reducible assumption) | exact f2 (by with_reducible assumption) | exact f3 (by with_reducible assumption) | with_reducible assumption | exact g22 (by with_reducible assumption) | exact g25 (by with_reducible assumption)) | ((with_reducible apply wl_rowG); exact rfl; exact rfl; first | with_reducible assumption | exact RowK.now (by with_reducible assumption) | exact f4 (by with_reducible assumption)))
        (with_reducible refine wl_ck ?_ ?_); exact rfl; intro K hK; go_simp; refine ⟨_, _, ⟨rfl, rfl⟩, hK _ _ ⟨_, HC.out, ?_⟩⟩; clear hK K; rintro e w10 ⟨rfl, hb10⟩; refine ⟨_, rfl, ?_⟩; simp only [put_lit, List.set_cons_zero, List.set_cons_succ]
        replace hz := below_look hb10 hz; replace hb := hb.trans (hb10.mono hb.size); clear hb10
        (with_reducible refine wl_k ?_ ?_); exact rfl; intro K hK; go_simp; refine hK _ ?_; clear hK K
        (with_reducible refine wl_k ?_ ?_); exact rfl; intro K hK; go_simp; refine hK _ ?_; clear hK K
        (with_reducible refine wl_k ?_ ?_); exact rfl; intro K hK; go_simp; refine hK _ ?_; clear hK K
        (first | ((with_reducible refine wl_skipU ?_ ?_ ?_); exact rfl; exact rfl) | ((with_reducible refine wl_skip ?_ ?_); exact rfl; simp only [put_lit, List.set_cons_zero, List.set_cons_succ]))
        (first | ((with_reducible refine wl_skipU ?_ ?_ ?_); exact rfl; exact rfl) | ((with_reducible refine wl_skip ?_ ?_); exact rfl; simp only [put_lit, List.set_cons_zero, List.set_cons_succ]))
        (first | ((with_reducible refine wl_skipU ?_ ?_ ?_); exact rfl; exact rfl) | ((with_reducible refine wl_skip ?_ ?_); exact rfl; simp only [put_lit, List.set_cons_zero, List.set_cons_succ]))
        (first | ((with_reducible refine wl_skipU ?_ ?_ ?_); exact rfl; exact rfl) | ((with_reducible refine wl_skip ?_ ?_); exact rfl; simp only [put_lit, List.set_cons_zero, List.set_cons_succ]))
        (with_reducible refine wl_k ?_ ?_); exact rfl; intro K hK; go_simp; refine hK _ ?_; clear hK K
        clear ene hq HC
        go_upto_region 5 with (fail)
        apply wp_region_lit
        refine wl_val rfl (ex_build 24 _ rfl (L := []) rfl built24z) ?_
        simp only [put_lit, List.set_cons_zero, List.set_cons_succ]
        (with_reducible refine wl_put rfl rfl hz ?_); rw [put_noneA]; intro W3 hbx hsz hkx hnx; replace hb := hbx _ _ (by omega) hb; clear hz; have hz := hnx; clear hnx
        (with_reducible refine wl_k ?_ ?_); exact rfl; intro K hK; go_simp; refine hK _ ?_; clear hK K
        clear hbx hkx hsz
        have HZ := Lib.hid hz
        have HB := Lib.hid hb
        clear hz hb
        go_wp2_with fail
        refine bodyPost_ret (res24t rfl _ _ z rfl rfl HZ.out) rfl ?_
        obtain rfl := HRN.out
        exact ⟨_, rfl, zero_tree _ _, HB.out⟩
      | true =>
        rw [hv] at HC
        obtain ⟨h1, h2⟩ := valid_all hv
        have HSP := Lib.hid (spel_open t9 h2 (by have := txt_lenB t9 h2; omega))
        clear h1 h2
        have HTX : Hid (∀ w', Below X2.heap.size X2 w' → TyAt w' (fun b => w.heap.size ≤ b ∧ b ≠ z ∧ b < w9.heap.size) t9 (cell4 k9 s9 n9 A9 l9 c9)) := Lib.hid fun w' h => HTY.out.old h
        apply wp_region_lit
        (with_reducible refine wl_k ?_ ?_); exact rfl; intro K hK; go_simp; refine hK _ ?_; clear hK K
        (with_reducible refine wl_k ?_ ?_); exact rfl; intro K hK; go_simp; refine hK _ ?_; clear hK K
        (with_reducible refine wl_k ?_ ?_); exact rfl; intro K hK; go_simp; refine hK _ ?_; clear hK K
        (with_reducible refine wl_k ?_ ?_); exact rfl; intro K hK; go_simp; refine hK _ ?_; clear hK K
        (with_reducible refine wl_k ?_ ?_); exact rfl; intro K hK; go_simp; refine hK _ ?_; clear hK K
        (first | ((with_reducible apply wl_oneG); exact rfl; exact rfl; first | exact f0 (by with_reducible assumption) | exact f1 (by with_reducible assumption) | exact f2 (by with_reducible assumption) | exact f3 (by with_reducible assumption) | with_reducible assumption | exact g22 (by with_reducible assumption) | exact g25 (by with_reducible assumption)) | ((with_reducible apply wl_rowG); exact rfl; exact rfl; first | with_reducible assumption | exact RowK.now (by with_reducible assumption) | exact f4 (by with_reducible assumption)))
        (with_reducible refine wl_ck ?_ ?_); exact rfl; intro K hK; go_simp; refine ⟨_, _, ⟨rfl, rfl⟩, hK _ _ ⟨_, HC.out, ?_⟩⟩; clear hK K; rintro e w10 ⟨rfl, hb10⟩; refine ⟨_, rfl, ?_⟩; simp only [put_lit, List.set_cons_zero, List.set_cons_succ]
        have HT10 := Lib.hid (HTX.out _ hb10)
        replace hz := below_look hb10 hz; replace hq := below_look hb10 hq; replace hb := hb.trans (hb10.mono hb.size); clear hb10
        clear HTX HTY HC
        obtain ⟨x, hx, hC⟩ := HSP.out w10 _ _ HT10.out
        have HC := Lib.hid hC
        have HTX : Hid (∀ w', Below w10.heap.size w10 w' → TyAt w' (fun b => w.heap.size ≤ b ∧ b ≠ z ∧ b < w9.heap.size) t9 (cell4 k9 s9 n9 A9 l9 c9)) := Lib.hid fun w' h => HT10.out.old h
        have HXT := Lib.hid hx
        clear hx hC HSP HT10
        (with_reducible refine wl_k ?_ ?_); exact rfl; intro K hK; go_simp; refine hK _ ?_; clear hK K
        (with_reducible refine wl_k ?_ ?_); exact rfl; intro K hK; go_simp; refine hK _ ?_; clear hK K
        (with_reducible refine wl_k ?_ ?_); exact rfl; intro K hK; go_simp; refine hK _ ?_; clear hK K
        (first | ((with_reducible apply wl_oneG); exact rfl; exact rfl; first | exact f0 (by with_reducible assumption) | exact f1 (by with_reducible assumption) | exact f2 (by with_reducible assumption) | exact f3 (by with_reducible assumption) | with_reducible assumption | exact g22 (by with_reducible assumption) | exact g25 (by with_reducible assumption)) | ((with_reducible apply wl_rowG); exact rfl; exact rfl; first | with_reducible assumption | exact RowK.now (by with_reducible assumption) | exact f4 (by with_reducible assumption)))
        (with_reducible refine wl_ck ?_ ?_); exact rfl; intro K hK; go_simp; refine ⟨_, _, ⟨rfl, rfl⟩, hK _ _ ⟨_, HC.out, ?_⟩⟩; clear hK K; rintro e w11 ⟨rfl, hb11⟩; refine ⟨_, rfl, ?_⟩; simp only [put_lit, List.set_cons_zero, List.set_cons_succ]
        have HTY := Lib.hid (HTX.out _ hb11)
        replace hz := below_look hb11 hz; replace hq := below_look hb11 hq; replace hb := hb.trans (hb11.mono hb.size); clear hb11
        (with_reducible refine wl_k ?_ ?_); exact rfl; intro K hK; go_simp; refine hK _ ?_; clear hK K
        clear HTX HC
        by_cases hxs : x = s
        · have e1 : (x.toList == s.toList) = true := by rw [hxs]; exact beq_self_eq_true _
          have HRS : Hid (R = some t9) := Lib.hid (by
            have := HRR.out
            have h2 : txtT t9 = l := by rw [← HXT.out, hxs, HS.out]; simp [strOf]
            simp [itB, hv, h2] at this
            exact this.symm)
          clear hxs hv
          (with_reducible refine wl_k ?_ ?_); exact rfl; intro K hK; go_simp; refine hK _ ?_; clear hK K
          (with_reducible refine wl_k ?_ ?_); exact rfl; intro K hK; go_simp; refine hK _ ?_; clear hK K
          clear ene e1
          go_upto_region 6 with (fail)
          apply wp_region_lit
          (first | ((with_reducible apply wl_oneG); exact rfl; exact rfl; first | exact f0 (by with_reducible assumption) | exact f1 (by with_reducible assumption) | exact f2 (by with_reducible assumption) | exact f3 (by with_reducible assumption) | with_reducible assumption | exact g22 (by with_reducible assumption) | exact g25 (by with_reducible assumption)) | ((with_reducible apply wl_rowG); exact rfl; exact rfl; first | with_reducible assumption | exact RowK.now (by with_reducible assumption) | exact f4 (by with_reducible assumption)))
          (with_reducible refine wl_put rfl rfl hz ?_); rw [put_noneA]; intro W3 hbx hsz hkx hnx; replace hb := hbx _ _ (by omega) hb; clear hz; have hz := hnx; clear hnx
          have HTZ := Lib.hid (HTY.out.mono (D' := fun b => w.heap.size ≤ b) (fun _ h => h.1) (fun b hb => hkx b hb.2.1))
          (with_reducible refine wl_k ?_ ?_); exact rfl; intro K hK; go_simp; refine hK _ ?_; clear hK K
          clear hbx hkx hsz hq
          have HZ := Lib.hid hz
          have HB := Lib.hid hb
          clear hz hb
          go_wp2_with fail
          refine bodyPost_ret (res24t rfl _ _ z rfl rfl HZ.out) rfl ?_
          obtain rfl := HRS.out
          exact ⟨_, rfl, HTZ.out, HB.out⟩
        · have e1 : (x.toList == s.toList) = false := beq_eq_false_iff_ne.2 fun h => hxs (by
            rw [ByteArray.toList_eq, ByteArray.toList_eq] at h
            rw [← str_back' x, ← str_back' s, h])
          have HRN : Hid (R = none) := Lib.hid (by
            have := HRR.out
            have h2 : ¬ txtT t9 = l := fun h => hxs (by rw [HS.out, ← h, ← HXT.out, str_back'])
            simp [itB, hv, h2] at this
            exact this.symm)
          clear hxs hv
          (with_reducible refine wl_k ?_ ?_); exact rfl; intro K hK; go_simp; refine hK _ ?_; clear hK K
          (with_reducible refine wl_k ?_ ?_); exact rfl; intro K hK; go_simp; refine hK _ ?_; clear hK K
          clear ene e1 hq
          go_upto_region 5 with (fail)
          apply wp_region_lit
          refine wl_val rfl (ex_build 24 _ rfl (L := []) rfl built24z) ?_
          simp only [put_lit, List.set_cons_zero, List.set_cons_succ]
          (with_reducible refine wl_put rfl rfl hz ?_); rw [put_noneA]; intro W3 hbx hsz hkx hnx; replace hb := hbx _ _ (by omega) hb; clear hz; have hz := hnx; clear hnx
          (with_reducible refine wl_k ?_ ?_); exact rfl; intro K hK; go_simp; refine hK _ ?_; clear hK K
          clear hbx hkx hsz
          have HZ := Lib.hid hz
          have HB := Lib.hid hb
          clear hz hb
          go_wp2_with fail
          refine bodyPost_ret (res24t rfl _ _ z rfl rfl HZ.out) rfl ?_
          obtain rfl := HRN.out
          exact ⟨_, rfl, zero_tree _ _, HB.out⟩
    · have ene : ((j : Int) != (s.size : Int)) = true := by
        have h1 := HJ.out
        have h2 := HSZ.out
        have h3 : 0 < s1.length := List.length_pos_iff.2 hs1e
        simp; omega
      have HRN : Hid (R = none) := Lib.hid (by
        have := HRR.out
        cases s1 with
        | nil => exact absurd rfl hs1e
        | cons c s1 => exact this.symm)
      clear hs1e
      apply wp_region_lit
      (with_reducible refine wl_k ?_ ?_); exact rfl; intro K hK; go_simp; refine hK _ ?_; clear hK K
      (with_reducible refine wl_k ?_ ?_); exact rfl; intro K hK; go_simp; refine hK _ ?_; clear hK K
      (with_reducible refine wl_k ?_ ?_); exact rfl; intro K hK; go_simp; refine hK _ ?_; clear hK K
      (with_reducible refine wl_k ?_ ?_); exact rfl; intro K hK; go_simp; refine hK _ ?_; clear hK K
      (with_reducible refine wl_k ?_ ?_); exact rfl; intro K hK; go_simp; refine hK _ ?_; clear hK K
      (first | ((with_reducible refine wl_skipU ?_ ?_ ?_); exact rfl; exact rfl) | ((with_reducible refine wl_skip ?_ ?_); exact rfl; simp only [put_lit, List.set_cons_zero, List.set_cons_succ]))
      (first | ((with_reducible refine wl_skipU ?_ ?_ ?_); exact rfl; exact rfl) | ((with_reducible refine wl_skip ?_ ?_); exact rfl; simp only [put_lit, List.set_cons_zero, List.set_cons_succ]))
      (first | ((with_reducible refine wl_skipU ?_ ?_ ?_); exact rfl; exact rfl) | ((with_reducible refine wl_skip ?_ ?_); exact rfl; simp only [put_lit, List.set_cons_zero, List.set_cons_succ]))
      (with_reducible refine wl_k ?_ ?_); exact rfl; intro K hK; go_simp; refine hK _ ?_; clear hK K
      (with_reducible refine wl_k ?_ ?_); exact rfl; intro K hK; go_simp; refine hK _ ?_; clear hK K
      (first | ((with_reducible refine wl_skipU ?_ ?_ ?_); exact rfl; exact rfl) | ((with_reducible refine wl_skip ?_ ?_); exact rfl; simp only [put_lit, List.set_cons_zero, List.set_cons_succ]))
      (first | ((with_reducible refine wl_skipU ?_ ?_ ?_); exact rfl; exact rfl) | ((with_reducible refine wl_skip ?_ ?_); exact rfl; simp only [put_lit, List.set_cons_zero, List.set_cons_succ]))
      (first | ((with_reducible refine wl_skipU ?_ ?_ ?_); exact rfl; exact rfl) | ((with_reducible refine wl_skip ?_ ?_); exact rfl; simp only [put_lit, List.set_cons_zero, List.set_cons_succ]))
      (first | ((with_reducible refine wl_skipU ?_ ?_ ?_); exact rfl; exact rfl) | ((with_reducible refine wl_skip ?_ ?_); exact rfl; simp only [put_lit, List.set_cons_zero, List.set_cons_succ]))
      (with_reducible refine wl_k ?_ ?_); exact rfl; intro K hK; go_simp; refine hK _ ?_; clear hK K
      clear ene hq
      go_upto_region 5 with (fail)
      apply wp_region_lit
      refine wl_val rfl (ex_build 24 _ rfl (L := []) rfl built24z) ?_
      simp only [put_lit, List.set_cons_zero, List.set_cons_succ]
      (with_reducible refine wl_put rfl rfl hz ?_); rw [put_noneA]; intro W3 hbx hsz hkx hnx; replace hb := hbx _ _ (by omega) hb; clear hz; have hz := hnx; clear hnx
      (with_reducible refine wl_k ?_ ?_); exact rfl; intro K hK; go_simp; refine hK _ ?_; clear hK K
      clear hbx hkx hsz
      have HZ := Lib.hid hz
      have HB := Lib.hid hb
      clear hz hb
      go_wp2_with fail
      refine bodyPost_ret (res24t rfl _ _ z rfl rfl HZ.out) rfl ?_
      obtain rfl := HRN.out
      exact ⟨_, rfl, zero_tree _ _, HB.out⟩
end Go.Proofs.YtokmaehefenpmaaDoor
namespace Go.Proofs.YtokmaehefenpmaaDoor
open Go.RowKit Go.Proofs.YtokmaehefenpmaaDoor.Nm
set_option linter.unusedSimpArgs false
theorem eqT_id (t : Ty) : eqTy t t = true := by simp [eqTy]
set_option maxHeartbeats 4000000 in
set_option maxRecDepth 100000 in
theorem TypesReads_any (s : ByteArray) (hs : s.size ≤ maxLen) (w : World) (hsn : Sent w) : Calls Tryd.prog 9 #[.string s] w fun e w' => e = .returned (.bool true) ∧ Below w.heap.size w w' := by
  unfold maxLen at hs
  have hb := Below.refl w.heap.size w
  by_cases hbig : s.size ≤ 3000
  · have hbI : ¬ (s.size : Int) > 3000 := by omega
    obtain ⟨l, hl⟩ : ∃ l, l = s.data.toList := ⟨_, rfl⟩
    have hsl : s = strOf l := by rw [hl, str_back']
    have hll : l.length ≤ 3000 := by rw [hl]; simpa using hbig
    obtain ⟨⟨t, l1, f⟩, hx⟩ := rdTyp_total 41 l
    have hP := Parse_rd l (by omega) t l1 f hx w hsn
    have hbr := both_read hx (n := l.length + 1) (by omega)
    obtain ⟨b, hb0⟩ : ∃ b, b = prsB l t l1 f := ⟨_, rfl⟩
    rw [← hb0] at hP hbr
    have hQ := fun w' => ParseI_any l (by omega) w'
    rw [hbr] at hQ
    have HV : Hid (b = true → validB true t = true ∧ txtT t = l) := Lib.hid fun h => by
      rw [h] at hbr
      exact itB_is hbr
    rw [← hsl] at hP hQ
    obtain ⟨u, hu⟩ : ∃ u, u = if b then t else zeroTy := ⟨_, rfl⟩
    obtain ⟨en, hen⟩ : ∃ en : Int, en = if b then 0 else 30 := ⟨_, rfl⟩
    have HP : Hid (Calls Tryd.prog 35 #[.string s] w fun e w' => ∃ row, e = .returned (.tuple #[.agg row, .int .i64 en]) ∧ TyAt w' (fun b => w.heap.size ≤ b) u row ∧ Below w.heap.size w w') := Lib.hid (by rw [hu, hen]; exact hP)
    have HQ : Hid (∀ w', Calls Tryd.prog 36 #[.string s] w' fun e w2 => ∃ row, e = .returned (.tuple #[.agg row, .int .i64 en]) ∧ TyAt w2 (fun b => w'.heap.size ≤ b) u row ∧ Below w'.heap.size w' w2) := Lib.hid fun w' => by
      have := hQ w'
      rw [hu, hen]
      cases b
      · exact this
      · exact this
    have HE := Lib.hid hen
    have HU := Lib.hid hu
    have HSL := Lib.hid hsl
    have ene : (en != en) = false := by simp
    clear hP hQ hbr hb0 hx hll hsl hl hu hen hsn hbig
    go_enter Tryd.func9, Tryd.ntmps9
    go_upto_region 0 with (fail)
    apply wp_region_lit
    (with_reducible refine wl_k ?_ ?_); exact rfl; intro K hK; go_simp; refine hK _ ?_; clear hK K
    go_upto_region 1 with (fail)
    apply wp_region_lit
    (with_reducible refine wl_k ?_ ?_); exact rfl; intro K hK; go_simp; refine hK _ ?_; clear hK K
    (with_reducible refine wl_k ?_ ?_); exact rfl; intro K hK; go_simp; refine hK _ ?_; clear hK K
    (with_reducible refine wl_k ?_ ?_); exact rfl; intro K hK; go_simp; refine hK _ ?_; clear hK K
    go_upto_region 3 with (fail)
    apply wp_region_lit
    (with_reducible refine wl_k ?_ ?_); exact rfl; intro K hK; go_simp; refine hK _ ?_; clear hK K
    (with_reducible refine wl_ck ?_ ?_); exact rfl; intro K hK; go_simp; refine ⟨_, _, ⟨rfl, rfl⟩, hK _ _ ⟨_, HP.out, ?_⟩⟩; clear hK K; rintro e w9 ⟨row9, rfl, hta, hb9⟩; refine ⟨_, rfl, ?_⟩; simp only [put_lit, List.set_cons_zero, List.set_cons_succ]
    obtain ⟨k9, s9, n9, A9, l9, c9, ts9, hu9, rfl, -⟩ := hta.parts
    have HT1 := Lib.hid hta
    replace hb := hb.trans (hb9.mono hb.size); clear hb9
    have hz9 := hb.size
    have hy := Below.refl w9.heap.size w9
    clear hta hu9 HP
    (with_reducible refine wl_k ?_ ?_); exact rfl; intro K hK; go_simp; refine hK _ ?_; clear hK K
    (with_reducible refine wl_k ?_ ?_); exact rfl; intro K hK; go_simp; refine hK _ ?_; clear hK K
    (with_reducible refine wl_k ?_ ?_); exact rfl; intro K hK; go_simp; refine hK _ ?_; clear hK K
    (with_reducible refine wl_all ?_); intro X1 q hbn hlq hq; replace hy := hy.trans (hbn.mono hy.size); replace hb := hb.trans (hbn.mono hb.size); clear hbn; simp only [put_lit, List.set_cons_zero, List.set_cons_succ]
    (with_reducible refine wl_put rfl rfl hq ?_); rw [put_noneA]; intro X2 hbx hsz hkx hnx; replace hy := hbx _ _ (by omega) hy; replace hb := hbx _ _ (by omega) hb; clear hq; have hq := hnx; clear hnx
    replace HT1 := Lib.hid (HT1.out.old hy)
    clear hbx hkx hsz hy
    (with_reducible refine wl_k ?_ ?_); exact rfl; intro K hK; go_simp; refine hK _ ?_; clear hK K
    go_upto_region 4 with (fail)
    have HC := Lib.hid (HQ.out X2)
    clear HQ
    apply wp_region_lit
    (with_reducible refine wl_k ?_ ?_); exact rfl; intro K hK; go_simp; refine hK _ ?_; clear hK K
    (with_reducible refine wl_ck ?_ ?_); exact rfl; intro K hK; go_simp; refine ⟨_, _, ⟨rfl, rfl⟩, hK _ _ ⟨_, HC.out, ?_⟩⟩; clear hK K; rintro e w10 ⟨row10, rfl, hta, hb10⟩; refine ⟨_, rfl, ?_⟩; simp only [put_lit, List.set_cons_zero, List.set_cons_succ]
    obtain ⟨k10, s10, n10, A10, l10, c10, ts10, hu10, rfl, -⟩ := hta.parts
    have HT2 := Lib.hid hta
    replace HT1 := Lib.hid (HT1.out.old hb10)
    replace hq := below_look hb10 hq; replace hb := hb.trans (hb10.mono hb.size); clear hb10
    have hz10 := hb.size
    have hy := Below.refl w10.heap.size w10
    clear hta hu10 HC
    (with_reducible refine wl_k ?_ ?_); exact rfl; intro K hK; go_simp; refine hK _ ?_; clear hK K
    (with_reducible refine wl_k ?_ ?_); exact rfl; intro K hK; go_simp; refine hK _ ?_; clear hK K
    (with_reducible refine wl_k ?_ ?_); exact rfl; intro K hK; go_simp; refine hK _ ?_; clear hK K
    have lthqq2 := heap_lt hq; (with_reducible refine wl_all ?_); intro X3 q2 hbn hlq2 hq2; replace hq := below_look hbn hq; replace hy := hy.trans (hbn.mono hy.size); replace hb := hb.trans (hbn.mono hb.size); clear hbn; simp only [put_lit, List.set_cons_zero, List.set_cons_succ]
    (with_reducible refine wl_put rfl rfl hq2 ?_); rw [put_noneA]; intro X4 hbx hsz hkx hnx; replace hq := (hkx _ (by omega)).trans hq; replace hy := hbx _ _ (by omega) hy; replace hb := hbx _ _ (by omega) hb; clear hq2; have hq2 := hnx; clear hnx
    replace HT1 := Lib.hid (HT1.out.old hy)
    replace HT2 := Lib.hid (HT2.out.old hy)
    clear hbx hkx hsz hy
    (with_reducible refine wl_k ?_ ?_); exact rfl; intro K hK; go_simp; refine hK _ ?_; clear hK K
    go_upto_region 5 with (fail)
    have HC := Lib.hid (EqType_any u u X4 _ _ _ _ HT1.out HT2.out)
    rw [eqT_id] at HC
    apply wp_region_lit
    (with_reducible refine wl_k ?_ ?_); exact rfl; intro K hK; go_simp; refine hK _ ?_; clear hK K
    (with_reducible refine wl_k ?_ ?_); exact rfl; intro K hK; go_simp; refine hK _ ?_; clear hK K
    (with_reducible refine wl_k ?_ ?_); exact rfl; intro K hK; go_simp; refine hK _ ?_; clear hK K
    (with_reducible refine wl_k ?_ ?_); exact rfl; intro K hK; go_simp; refine hK _ ?_; clear hK K
    (first | ((with_reducible apply wl_oneG); exact rfl; exact rfl; first | exact f0 (by with_reducible assumption) | exact f1 (by with_reducible assumption) | exact f2 (by with_reducible assumption) | exact f3 (by with_reducible assumption) | with_reducible assumption | exact g22 (by with_reducible assumption) | exact g25 (by with_reducible assumption)) | ((with_reducible apply wl_rowG); exact rfl; exact rfl; first | with_reducible assumption | exact RowK.now (by with_reducible assumption) | exact f4 (by with_reducible assumption)))
    (first | ((with_reducible apply wl_oneG); exact rfl; exact rfl; first | exact f0 (by with_reducible assumption) | exact f1 (by with_reducible assumption) | exact f2 (by with_reducible assumption) | exact f3 (by with_reducible assumption) | with_reducible assumption | exact g22 (by with_reducible assumption) | exact g25 (by with_reducible assumption)) | ((with_reducible apply wl_rowG); exact rfl; exact rfl; first | with_reducible assumption | exact RowK.now (by with_reducible assumption) | exact f4 (by with_reducible assumption)))
    (with_reducible refine wl_ck ?_ ?_); exact rfl; intro K hK; go_simp; refine ⟨_, _, ⟨rfl, rfl⟩, hK _ _ ⟨_, HC.out, ?_⟩⟩; clear hK K; rintro e w11 ⟨rfl, hb11⟩; refine ⟨_, rfl, ?_⟩; simp only [put_lit, List.set_cons_zero, List.set_cons_succ]
    replace HT1 := Lib.hid (HT1.out.old hb11)
    replace hq := below_look hb11 hq; replace hb := hb.trans (hb11.mono hb.size); clear hb11
    (with_reducible refine wl_k ?_ ?_); exact rfl; intro K hK; go_simp; refine hK _ ?_; clear hK K
    (with_reducible refine wl_k ?_ ?_); exact rfl; intro K hK; go_simp; refine hK _ ?_; clear hK K
    clear HC HT2 hq2 ene
    go_upto_region 7 with (fail)
    cases b with
    | false =>
      have en0 : (en != 0) = true := by rw [HE.out]; rfl
      apply wp_region_lit
      (with_reducible refine wl_k ?_ ?_); exact rfl; intro K hK; go_simp; refine hK _ ?_; clear hK K
      (with_reducible refine wl_k ?_ ?_); exact rfl; intro K hK; go_simp; refine hK _ ?_; clear hK K
      clear en0 HT1 hq
      go_upto_region 8 with (fail)
      apply wp_region_lit
      (with_reducible refine wl_ck ?_ ?_); exact rfl; intro K hK; go_simp; refine ⟨_, _, ⟨rfl, rfl⟩, hK _ _ ⟨_, awake_any _, ?_⟩⟩; clear hK K; rintro e w12 ⟨rfl, hb12⟩; refine ⟨_, rfl, ?_⟩; simp only [put_lit, List.set_cons_zero, List.set_cons_succ]
      replace hb := hb.trans (hb12.mono hb.size); clear hb12
      (with_reducible refine wl_k ?_ ?_); exact rfl; intro K hK; go_simp; refine hK _ ?_; clear hK K
      go_wp2_with fail
      go_ret
      exact ⟨rfl, hb⟩
    | true =>
      have en0 : (en != 0) = false := by rw [HE.out]; rfl
      obtain ⟨hv, htx⟩ := HV.out rfl
      have hut : u = t := HU.out
      have hF := Format_any u w11 _ _ HT1.out
      unfold fmtV at hF
      rw [hut, if_pos hv, htx] at hF
      have hF2 : Calls Tryd.prog 33 #[.agg (cell4 k9 s9 n9 A9 l9 c9)] w11 fun e w' => e = .returned (.tuple #[.string s, .int .i64 0]) ∧ Below w11.heap.size w11 w' := by rw [HSL.out]; exact hF
      have HC := Lib.hid hF2
      clear hF hF2 hv htx hut
      apply wp_region_lit
      (with_reducible refine wl_k ?_ ?_); exact rfl; intro K hK; go_simp; refine hK _ ?_; clear hK K
      (with_reducible refine wl_k ?_ ?_); exact rfl; intro K hK; go_simp; refine hK _ ?_; clear hK K
      clear en0
      go_upto_region 9 with (fail)
      apply wp_region_lit
      (first | ((with_reducible apply wl_oneG); exact rfl; exact rfl; first | exact f0 (by with_reducible assumption) | exact f1 (by with_reducible assumption) | exact f2 (by with_reducible assumption) | exact f3 (by with_reducible assumption) | with_reducible assumption | exact g22 (by with_reducible assumption) | exact g25 (by with_reducible assumption)) | ((with_reducible apply wl_rowG); exact rfl; exact rfl; first | with_reducible assumption | exact RowK.now (by with_reducible assumption) | exact f4 (by with_reducible assumption)))
      (with_reducible refine wl_ck ?_ ?_); exact rfl; intro K hK; go_simp; refine ⟨_, _, ⟨rfl, rfl⟩, hK _ _ ⟨_, HC.out, ?_⟩⟩; clear hK K; rintro e w12 ⟨rfl, hb12⟩; refine ⟨_, rfl, ?_⟩; simp only [put_lit, List.set_cons_zero, List.set_cons_succ]
      replace hb := hb.trans (hb12.mono hb.size); clear hb12
      (with_reducible refine wl_k ?_ ?_); exact rfl; intro K hK; go_simp; refine hK _ ?_; clear hK K
      (with_reducible refine wl_k ?_ ?_); exact rfl; intro K hK; go_simp; refine hK _ ?_; clear hK K
      (with_reducible refine wl_k ?_ ?_); exact rfl; intro K hK; go_simp; refine hK _ ?_; clear hK K
      (with_reducible refine wl_k ?_ ?_); exact rfl; intro K hK; go_simp; refine hK _ ?_; clear hK K
      (with_reducible refine wl_k ?_ ?_); exact rfl; intro K hK; go_simp; refine hK _ ?_; clear hK K
      clear HC HT1 hq
      have e1 : (s.toList == s.toList) = true := beq_self_eq_true _
      go_upto_region 10 with (fail)
      apply wp_region_lit
      (with_reducible refine wl_k ?_ ?_); exact rfl; intro K hK; go_simp; refine hK _ ?_; clear hK K
      (with_reducible refine wl_k ?_ ?_); exact rfl; intro K hK; go_simp; refine hK _ ?_; clear hK K
      (with_reducible refine wl_k ?_ ?_); exact rfl; intro K hK; go_simp; refine hK _ ?_; clear hK K
      (with_reducible refine wl_k ?_ ?_); exact rfl; intro K hK; go_simp; refine hK _ ?_; clear hK K
      (with_reducible refine wl_k ?_ ?_); exact rfl; intro K hK; go_simp; refine hK _ ?_; clear hK K
      (with_reducible refine wl_k ?_ ?_); exact rfl; intro K hK; go_simp; refine hK _ ?_; clear hK K
      (with_reducible refine wl_k ?_ ?_); exact rfl; intro K hK; go_simp; refine hK _ ?_; clear hK K
      (with_reducible refine wl_k ?_ ?_); exact rfl; intro K hK; go_simp; refine hK _ ?_; clear hK K
      (with_reducible refine wl_ck ?_ ?_); exact rfl; intro K hK; go_simp; refine ⟨_, _, ⟨rfl, rfl⟩, hK _ _ ⟨_, awake_any _, ?_⟩⟩; clear hK K; rintro e w13 ⟨rfl, hb13⟩; refine ⟨_, rfl, ?_⟩; simp only [put_lit, List.set_cons_zero, List.set_cons_succ]
      replace hb := hb.trans (hb13.mono hb.size); clear hb13
      (with_reducible refine wl_k ?_ ?_); exact rfl; intro K hK; go_simp; refine hK _ ?_; clear hK K
      (with_reducible refine wl_k ?_ ?_); exact rfl; intro K hK; go_simp; refine hK _ ?_; clear hK K
      clear e1
      go_wp2_with fail
      go_ret
      exact ⟨rfl, hb⟩
  · have hbI : (s.size : Int) > 3000 := by omega
    clear hbig hsn
    go_enter Tryd.func9, Tryd.ntmps9
    go_wp2_with fail
    go_ret
    exact ⟨rfl, hb⟩
end Go.Proofs.YtokmaehefenpmaaDoor
namespace Go.Proofs.YtokmaehefenpmaaDoor
open Go.ChangeShapes Go.WideShapes Go.ChangeAt Go.RowKit
def lay5 : List (String × DataW Unit) := [("math/bits.deBruijn32tab", Rows.laid_math_bits_deBruijn32tab), ("math/bits.deBruijn64tab", Rows.laid_math_bits_deBruijn64tab), ("internal/strconv.uint64pow10", Rows.laid_internal_strconv_uint64pow10), ("strconv.ErrRange", Rows.laid_strconv_ErrRange), ("strconv.ErrSyntax", Rows.laid_strconv_ErrSyntax)]
theorem lay5_met (os : Os) (args : Array Value) : laidMetH Tryd.prog lay5 ((World.doorLaid Tryd.prog 62 os).forCall (fun _ _ => 0) ⟨#[], args, []⟩).memory :=
  laidMetH_of_parts3 (fuel := 8) (laidMet_of_run' 8 (by kernel_rfl) (by kernel_rfl)) (by kernel_rfl) (by kernel_rfl)
end Go.Proofs.YtokmaehefenpmaaDoor
namespace Go.Proofs.YtokmaehefenpmaaDoor
open Go.ChangeShapes Go.WideShapes Go.ChangeAt Go.RowKit
theorem gS : Tryd.prog.globalNamed "strconv.ErrSyntax" = some 1 := by kernel_rfl
theorem gR : Tryd.prog.globalNamed "strconv.ErrRange" = some 2 := by kernel_rfl
theorem star186 : "*" ++ "errors.errorString" = "*errors.errorString" := by decide
theorem row186 (u : TypeId) (h : Tryd.prog.typeName? 3 u = some "*errors.errorString") : u = 186 :=
  typeName_ptr_named (nm := "errors.errorString") (by rw [star186]; kernel_rfl) (by kernel_rfl) (by decide) u (by rw [star186]; exact h)
theorem sent_of {W : World} (h : laidMetH Tryd.prog lay5 W) : Sent W := by
  rw [Go.MakeChecks.laidMetH_plain _ _ _ (by kernel_rfl)] at h
  have h3 := h.tail.tail.tail
  obtain ⟨a, s, hv, -⟩ := laid_sentinel h3 gR (ti := 107) (by kernel_rfl) Tryd.underlying107 row186 Tryd.underlying186 Tryd.underlying188 rfl rfl (by kernel_rfl) (by kernel_rfl) (by kernel_rfl)
  obtain ⟨b, t, hw, -⟩ := laid_sentinel h3.tail gS (ti := 107) (by kernel_rfl) Tryd.underlying107 row186 Tryd.underlying186 Tryd.underlying188 rfl rfl (by kernel_rfl) (by kernel_rfl) (by kernel_rfl)
  exact ⟨⟨_, by simpa using World.var?_cell gS hw 0, Or.inr ⟨_, _, rfl⟩⟩, _, by simpa using World.var?_cell gR hv 0, Or.inr ⟨_, _, rfl⟩⟩
end Go.Proofs.YtokmaehefenpmaaDoor
