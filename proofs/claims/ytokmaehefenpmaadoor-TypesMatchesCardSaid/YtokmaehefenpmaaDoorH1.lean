/- The law's has: whether a pattern has a name, not within another one. -/
import Derived.Test.YtokmaehefenpmaaDoorW11
import Derived.Test.YtokmaehefenpmaaDoorM2
import Derived.Test.YtokmaehefenpmaaDoorTyHas
import Derived.Deep.DeepCutAuto
namespace Go.Proofs.YtokmaehefenpmaaDoor
open Go.RowKit Go.Proofs.YtokmaehefenpmaaDoor.Nm
set_option linter.unusedSimpArgs false
def HasC (ns : List ByteArray) (x : ByteArray) (p : Ty) : Prop := ∀ (w : World) (D : Nat → Prop) (row : Array Value), TyAt w D p row → ∀ (An : Option Addr) (ln cn : Nat), TxAt w ns An ln cn →
  Calls Tryd.prog 32 #[.agg row, .slice An ln cn, .string x] w fun e w' => e = .returned (.bool (hasTy ns x p)) ∧ Below w.heap.size w w'
theorem hasTys_step {ns : List ByteArray} {x : ByteArray} {ts : List Ty} {j : Nat} {u : Ty} (h : ts[j]? = some u) : hasTys ns x (ts.drop j) = (hasTy ns x u || hasTys ns x (ts.drop (j + 1))) := by
  obtain ⟨h1, e1⟩ := List.getElem?_eq_some_iff.1 h
  rw [List.drop_eq_getElem_cons h1, e1, hasTys]
theorem bytes_eq (s x : ByteArray) : (s.toList == x.toList) = decide (s = x) := by
  by_cases h : s = x
  · subst h; simp
  · rw [decide_eq_false h]
    exact beq_eq_false_iff_ne.2 fun e => h (bytes_inj e)
theorem hasTy_some {ns : List ByteArray} {x : ByteArray} {k : Int} {s : ByteArray} {n : Int} {ts : List Ty} {i : Nat} (h : place ns k s = some i) : hasTy ns x (.node k s n ts) = decide (s = x) := by simp only [hasTy, h]
theorem hasTy_none {ns : List ByteArray} {x : ByteArray} {k : Int} {s : ByteArray} {n : Int} {ts : List Ty} (h : place ns k s = none) : hasTy ns x (.node k s n ts) = hasTys ns x ts := by simp only [hasTy, h]
set_option maxHeartbeats 2000000 in
set_option maxRecDepth 100000 in
theorem has_any (ns : List ByteArray) (x : ByteArray) : ∀ p : Ty, HasC ns x p := Ty.ind fun k s n ts ih w D row h An ln cn hn => by
  obtain ⟨k1, s1, n1, A, l, c, ts1, e, rfl, hk, hnn, hs, hT⟩ := h.parts
  cases e
  have HT := Lib.hid hT
  have HL := Lib.hid hT.len
  have HN := Lib.hid hn
  have HI := Lib.hid ih
  have hcm := hT.cap
  have hmx := hT.max
  unfold maxLen at hmx
  clear h hk hnn hs hT ih hn
  have hb := Below.refl w.heap.size w
  go_enter Tryd.func32, Tryd.ntmps32
  go_upto_region 0 with (fail)
  apply wp_region_lit
  (with_reducible refine wl_box rfl ?_); intro W p hbn hlp hp; replace hb := hb.trans (hbn.mono hb.size); clear hbn; simp only [put_lit, List.set_cons_zero, List.set_cons_succ]
  (with_reducible refine wl_k ?_ ?_); exact rfl; intro K hK; go_simp; refine hK _ ?_; clear hK K
  obtain ⟨pl, hpl⟩ : ∃ pl, pl = place ns k s := ⟨_, rfl⟩
  have HPL := Lib.hid hpl
  clear hpl
  obtain ⟨v, hv⟩ : ∃ v, v = idxI ns s := ⟨_, rfl⟩
  have HV := Lib.hid hv
  have HC := Lib.hid (Has_any ns s An ln cn W (HN.out.old hb))
  rw [← hv] at HC
  clear hv
  go_upto_region 1 with (fail)
  go_cut [17] (fun s17 wx => ∃ b, s17 = .bool b ∧ Hid (b = pl.isSome) ∧ Below w.heap.size w wx ∧ wx.heap[p]? = some (.cells (cell4 k s n A l c) 24 (0, 0)))
  case first =>
    by_cases hk7 : k = 7
    · have e1 : (k == 7) = true := by simp [hk7]
      have HPK : Hid (pl = idx ns s) := Lib.hid (by rw [HPL.out]; unfold place; rw [if_pos hk7])
      clear hk7
      by_cases hv : v ≥ 0
      · apply wp_region_lit
        (with_reducible refine wl_k ?_ ?_); exact rfl; intro K hK; go_simp; refine hK _ ?_; clear hK K
        (first | ((with_reducible apply wl_oneG); exact rfl; exact rfl; first | exact f0 (by with_reducible assumption) | exact f1 (by with_reducible assumption) | exact f2 (by with_reducible assumption) | exact f3 (by with_reducible assumption) | with_reducible assumption | exact g22 (by with_reducible assumption) | exact g25 (by with_reducible assumption)) | ((with_reducible apply wl_rowG); exact rfl; exact rfl; first | with_reducible assumption | exact RowK.now (by with_reducible assumption) | exact f4 (by with_reducible assumption)))
        (with_reducible refine wl_k ?_ ?_); exact rfl; intro K hK; go_simp; refine hK _ ?_; clear hK K
        (with_reducible refine wl_k ?_ ?_); exact rfl; intro K hK; go_simp; refine hK _ ?_; clear hK K
        (with_reducible refine wl_k ?_ ?_); exact rfl; intro K hK; go_simp; refine hK _ ?_; clear hK K
        (with_reducible refine wl_k ?_ ?_); exact rfl; intro K hK; go_simp; refine hK _ ?_; clear hK K
        (first | ((with_reducible apply wl_oneG); exact rfl; exact rfl; first | exact f0 (by with_reducible assumption) | exact f1 (by with_reducible assumption) | exact f2 (by with_reducible assumption) | exact f3 (by with_reducible assumption) | with_reducible assumption | exact g22 (by with_reducible assumption) | exact g25 (by with_reducible assumption)) | ((with_reducible apply wl_rowG); exact rfl; exact rfl; first | with_reducible assumption | exact RowK.now (by with_reducible assumption) | exact f4 (by with_reducible assumption)))
        (with_reducible refine wl_ck ?_ ?_); exact rfl; intro K hK; go_simp; refine ⟨_, _, ⟨rfl, rfl⟩, hK _ _ ⟨_, HC.out, ?_⟩⟩; clear hK K; rintro e w7 ⟨rfl, hb7⟩; refine ⟨_, rfl, ?_⟩; simp only [put_lit, List.set_cons_zero, List.set_cons_succ]
        (with_reducible refine wl_k ?_ ?_); exact rfl; intro K hK; go_simp; refine hK _ ?_; clear hK K
        (with_reducible refine wl_k ?_ ?_); exact rfl; intro K hK; go_simp; refine hK _ ?_; clear hK K
        replace hp := below_look hb7 hp; replace hb := hb.trans (hb7.mono hb.size); clear hb7
        go_wp2_with fail
        go_meet
        exact ⟨_, rfl, Lib.hid <| by
          rw [HPK.out]
          cases hx : idx ns s with
          | some i => rfl
          | none => have := HV.out; rw [idxI_none hx] at this; omega, hb, hp⟩
      · apply wp_region_lit
        (with_reducible refine wl_k ?_ ?_); exact rfl; intro K hK; go_simp; refine hK _ ?_; clear hK K
        (first | ((with_reducible apply wl_oneG); exact rfl; exact rfl; first | exact f0 (by with_reducible assumption) | exact f1 (by with_reducible assumption) | exact f2 (by with_reducible assumption) | exact f3 (by with_reducible assumption) | with_reducible assumption | exact g22 (by with_reducible assumption) | exact g25 (by with_reducible assumption)) | ((with_reducible apply wl_rowG); exact rfl; exact rfl; first | with_reducible assumption | exact RowK.now (by with_reducible assumption) | exact f4 (by with_reducible assumption)))
        (with_reducible refine wl_k ?_ ?_); exact rfl; intro K hK; go_simp; refine hK _ ?_; clear hK K
        (with_reducible refine wl_k ?_ ?_); exact rfl; intro K hK; go_simp; refine hK _ ?_; clear hK K
        (with_reducible refine wl_k ?_ ?_); exact rfl; intro K hK; go_simp; refine hK _ ?_; clear hK K
        (with_reducible refine wl_k ?_ ?_); exact rfl; intro K hK; go_simp; refine hK _ ?_; clear hK K
        (first | ((with_reducible apply wl_oneG); exact rfl; exact rfl; first | exact f0 (by with_reducible assumption) | exact f1 (by with_reducible assumption) | exact f2 (by with_reducible assumption) | exact f3 (by with_reducible assumption) | with_reducible assumption | exact g22 (by with_reducible assumption) | exact g25 (by with_reducible assumption)) | ((with_reducible apply wl_rowG); exact rfl; exact rfl; first | with_reducible assumption | exact RowK.now (by with_reducible assumption) | exact f4 (by with_reducible assumption)))
        (with_reducible refine wl_ck ?_ ?_); exact rfl; intro K hK; go_simp; refine ⟨_, _, ⟨rfl, rfl⟩, hK _ _ ⟨_, HC.out, ?_⟩⟩; clear hK K; rintro e w7 ⟨rfl, hb7⟩; refine ⟨_, rfl, ?_⟩; simp only [put_lit, List.set_cons_zero, List.set_cons_succ]
        (with_reducible refine wl_k ?_ ?_); exact rfl; intro K hK; go_simp; refine hK _ ?_; clear hK K
        (with_reducible refine wl_k ?_ ?_); exact rfl; intro K hK; go_simp; refine hK _ ?_; clear hK K
        replace hp := below_look hb7 hp; replace hb := hb.trans (hb7.mono hb.size); clear hb7
        go_wp2_with fail
        go_meet
        exact ⟨_, rfl, Lib.hid <| by
          rw [HPK.out]
          cases hx : idx ns s with
          | some i => have := HV.out; rw [idxI_some hx] at this; omega
          | none => rfl, hb, hp⟩
    · have e1 : (k == 7) = false := by simp [hk7]
      have HPI : Hid (pl = none) := Lib.hid (by rw [HPL.out]; unfold place; rw [if_neg hk7])
      clear hk7
      apply wp_region_lit
      (with_reducible refine wl_k ?_ ?_); exact rfl; intro K hK; go_simp; refine hK _ ?_; clear hK K
      (first | ((with_reducible apply wl_oneG); exact rfl; exact rfl; first | exact f0 (by with_reducible assumption) | exact f1 (by with_reducible assumption) | exact f2 (by with_reducible assumption) | exact f3 (by with_reducible assumption) | with_reducible assumption | exact g22 (by with_reducible assumption) | exact g25 (by with_reducible assumption)) | ((with_reducible apply wl_rowG); exact rfl; exact rfl; first | with_reducible assumption | exact RowK.now (by with_reducible assumption) | exact f4 (by with_reducible assumption)))
      (with_reducible refine wl_k ?_ ?_); exact rfl; intro K hK; go_simp; refine hK _ ?_; clear hK K
      (with_reducible refine wl_k ?_ ?_); exact rfl; intro K hK; go_simp; refine hK _ ?_; clear hK K
      (first | ((with_reducible refine wl_skipU ?_ ?_ ?_); exact rfl; exact rfl) | ((with_reducible refine wl_skip ?_ ?_); exact rfl; simp only [put_lit, List.set_cons_zero, List.set_cons_succ]))
      (first | ((with_reducible refine wl_skipU ?_ ?_ ?_); exact rfl; exact rfl) | ((with_reducible refine wl_skip ?_ ?_); exact rfl; simp only [put_lit, List.set_cons_zero, List.set_cons_succ]))
      (first | ((with_reducible refine wl_skipU ?_ ?_ ?_); exact rfl; exact rfl) | ((with_reducible refine wl_skip ?_ ?_); exact rfl; simp only [put_lit, List.set_cons_zero, List.set_cons_succ]))
      (first | ((with_reducible refine wl_skipU ?_ ?_ ?_); exact rfl; exact rfl) | ((with_reducible refine wl_skip ?_ ?_); exact rfl; simp only [put_lit, List.set_cons_zero, List.set_cons_succ]))
      (first | ((with_reducible refine wl_skipU ?_ ?_ ?_); exact rfl; exact rfl) | ((with_reducible refine wl_skip ?_ ?_); exact rfl; simp only [put_lit, List.set_cons_zero, List.set_cons_succ]))
      (with_reducible refine wl_k ?_ ?_); exact rfl; intro K hK; go_simp; refine hK _ ?_; clear hK K
      go_wp2_with fail
      go_meet
      exact ⟨_, rfl, Lib.hid (by rw [HPI.out]; rfl), hb, hp⟩
  case rest =>
    clear hb hp HC HV
    obtain ⟨q, rfl, HQ, hb, hp⟩ := hcut
    cases q with
    | true =>
      obtain ⟨i, rfl⟩ : ∃ i, pl = some i := by cases pl with | some i => exact ⟨i, rfl⟩ | none => exact absurd HQ.out (by simp)
      clear HQ
      go_upto_region 2 with (fail)
      apply wp_region_lit
      (with_reducible refine wl_k ?_ ?_); exact rfl; intro K hK; go_simp; refine hK _ ?_; clear hK K
      (first | ((with_reducible apply wl_oneG); exact rfl; exact rfl; first | exact f0 (by with_reducible assumption) | exact f1 (by with_reducible assumption) | exact f2 (by with_reducible assumption) | exact f3 (by with_reducible assumption) | with_reducible assumption | exact g22 (by with_reducible assumption) | exact g25 (by with_reducible assumption)) | ((with_reducible apply wl_rowG); exact rfl; exact rfl; first | with_reducible assumption | exact RowK.now (by with_reducible assumption) | exact f4 (by with_reducible assumption)))
      (with_reducible refine wl_k ?_ ?_); exact rfl; intro K hK; go_simp; refine hK _ ?_; clear hK K
      (with_reducible refine wl_k ?_ ?_); exact rfl; intro K hK; go_simp; refine hK _ ?_; clear hK K
      (with_reducible refine wl_k ?_ ?_); exact rfl; intro K hK; go_simp; refine hK _ ?_; clear hK K
      clear hp
      go_wp2_with fail
      go_ret
      exact ⟨by rw [hasTy_some HPL.out.symm, ← bytes_eq]; rfl, hb⟩
    | false =>
      obtain rfl : pl = none := by cases pl with | some i => exact absurd HQ.out (by simp) | none => rfl
      clear HQ
      have HF : Hid (hasTy ns x (.node k s n ts) = hasTys ns x ts) := Lib.hid (hasTy_none HPL.out.symm)
      clear HPL
      go_wp2_with fail
      go_loopw [7] (fun i wr => ∃ j : Nat, j ≤ l ∧ i = .int .i64 (j : Int) ∧ Hid (hasTys ns x ts = hasTys ns x (ts.drop j)) ∧ Below w.heap.size w wr ∧ wr.heap[p]? = some (.cells (cell4 k s n A l c) 24 (0, 0))) (fun i _ => l - (intOf i).toNat)
      case atStart => exact ⟨0, by omega, rfl, Lib.hid rfl, hb, hp⟩
      case round =>
        clear hb hp
        obtain ⟨j, hj, rfl, HR, hb, hp⟩ := hrel
        go_upto_region 4 with (fail)
        by_cases hlt : j < l
        · have hltI : (j : Int) < (l : Int) := by omega
          obtain ⟨b, off, u, rowu, rfl, -, hu, -⟩ := (HT.out.old hb).get hlt
          obtain ⟨rowu, hru, htu⟩ := (HT.out.old hb).rowK hu
          have HSTEP := Lib.hid (hasTys_step (ns := ns) (x := x) hu)
          have HC := Lib.hid (HI.out u (List.mem_of_getElem? hu) wr D rowu htu An ln cn (HN.out.old hb))
          obtain ⟨bb, hbb⟩ : ∃ bb, bb = hasTy ns x u := ⟨_, rfl⟩
          rw [← hbb] at HSTEP HC
          clear hbb hu htu
          apply wp_region_lit
          (with_reducible refine wl_k ?_ ?_); exact rfl; intro K hK; go_simp; refine hK _ ?_; clear hK K
          (with_reducible refine wl_k ?_ ?_); exact rfl; intro K hK; go_simp; refine hK _ ?_; clear hK K
          (first | ((with_reducible apply wl_oneG); exact rfl; exact rfl; first | exact f0 (by with_reducible assumption) | exact f1 (by with_reducible assumption) | exact f2 (by with_reducible assumption) | exact f3 (by with_reducible assumption) | with_reducible assumption | exact g22 (by with_reducible assumption) | exact g25 (by with_reducible assumption)) | ((with_reducible apply wl_rowG); exact rfl; exact rfl; first | with_reducible assumption | exact RowK.now (by with_reducible assumption) | exact f4 (by with_reducible assumption)))
          (with_reducible refine wl_k ?_ ?_); exact rfl; intro K hK; go_simp; refine hK _ ?_; clear hK K
          (with_reducible refine wl_k ?_ ?_); exact rfl; intro K hK; go_simp; refine hK _ ?_; clear hK K
          go_upto_region 6 with (fail)
          apply wp_region_lit
          (with_reducible refine wl_k ?_ ?_); exact rfl; intro K hK; go_simp; refine hK _ ?_; clear hK K
          (first | ((with_reducible apply wl_oneG); exact rfl; exact rfl; first | exact f0 (by with_reducible assumption) | exact f1 (by with_reducible assumption) | exact f2 (by with_reducible assumption) | exact f3 (by with_reducible assumption) | with_reducible assumption | exact g22 (by with_reducible assumption) | exact g25 (by with_reducible assumption)) | ((with_reducible apply wl_rowG); exact rfl; exact rfl; first | with_reducible assumption | exact RowK.now (by with_reducible assumption) | exact f4 (by with_reducible assumption)))
          (with_reducible refine wl_k ?_ ?_); exact rfl; intro K hK; go_simp; refine hK _ ?_; clear hK K
          (with_reducible refine wl_k ?_ ?_); exact rfl; intro K hK; go_simp; refine hK _ ?_; clear hK K
          (first | ((with_reducible apply wl_oneG); exact rfl; exact rfl; first | exact f0 (by with_reducible assumption) | exact f1 (by with_reducible assumption) | exact f2 (by with_reducible assumption) | exact f3 (by with_reducible assumption) | with_reducible assumption | exact g22 (by with_reducible assumption) | exact g25 (by with_reducible assumption)) | ((with_reducible apply wl_rowG); exact rfl; exact rfl; first | with_reducible assumption | exact RowK.now (by with_reducible assumption) | exact f4 (by with_reducible assumption)))
          (with_reducible refine wl_k ?_ ?_); exact rfl; intro K hK; go_simp; refine hK _ ?_; clear hK K
          (with_reducible refine wl_k ?_ ?_); exact rfl; intro K hK; go_simp; refine hK _ ?_; clear hK K
          (with_reducible refine wl_ck ?_ ?_); exact rfl; intro K hK; go_simp; refine ⟨_, _, ⟨rfl, rfl⟩, hK _ _ ⟨_, HC.out, ?_⟩⟩; clear hK K; rintro e w7 ⟨rfl, hb7⟩; refine ⟨_, rfl, ?_⟩; simp only [put_lit, List.set_cons_zero, List.set_cons_succ]
          clear hru HC
          replace hp := below_look hb7 hp; replace hb := hb.trans (hb7.mono hb.size); clear hb7
          cases bb with
          | true =>
            have HF2 : Hid (hasTy ns x (.node k s n ts) = true) := Lib.hid (by rw [HF.out, HR.out, HSTEP.out]; rfl)
            clear hp HR HSTEP HF
            go_wp2_with fail
            go_ret
            exact ⟨by rw [HF2.out]; rfl, hb⟩
          | false =>
            have HR2 : Hid (hasTys ns x ts = hasTys ns x (ts.drop (j + 1))) := Lib.hid (by rw [HR.out, HSTEP.out]; rfl)
            clear HR HSTEP
            go_wp2_with fail
            go_roundw
            case rel => exact ⟨j + 1, by omega, by go_num, HR2, hb, hp⟩
            case measure => simp [intOf]; omega
        · have hltI : ¬ (j : Int) < (l : Int) := by omega
          have HF2 : Hid (hasTy ns x (.node k s n ts) = false) := Lib.hid (by rw [HF.out, HR.out, List.drop_of_length_le (by rw [HL.out]; omega), hasTys])
          apply wp_region_lit
          (with_reducible refine wl_k ?_ ?_); exact rfl; intro K hK; go_simp; refine hK _ ?_; clear hK K
          (with_reducible refine wl_k ?_ ?_); exact rfl; intro K hK; go_simp; refine hK _ ?_; clear hK K
          (first | ((with_reducible apply wl_oneG); exact rfl; exact rfl; first | exact f0 (by with_reducible assumption) | exact f1 (by with_reducible assumption) | exact f2 (by with_reducible assumption) | exact f3 (by with_reducible assumption) | with_reducible assumption | exact g22 (by with_reducible assumption) | exact g25 (by with_reducible assumption)) | ((with_reducible apply wl_rowG); exact rfl; exact rfl; first | with_reducible assumption | exact RowK.now (by with_reducible assumption) | exact f4 (by with_reducible assumption)))
          (with_reducible refine wl_k ?_ ?_); exact rfl; intro K hK; go_simp; refine hK _ ?_; clear hK K
          (with_reducible refine wl_k ?_ ?_); exact rfl; intro K hK; go_simp; refine hK _ ?_; clear hK K
          clear hp HR HF
          go_wp2_with fail
          go_ret
          exact ⟨by rw [HF2.out]; rfl, hb⟩
end Go.Proofs.YtokmaehefenpmaaDoor
