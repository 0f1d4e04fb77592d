/- The number of nodes of a tree, up to a bound; small. -/
import Derived.Test.YtokmaehefenpmaaDoorA2
import Derived.Outline
namespace Go.Proofs.YtokmaehefenpmaaDoor
open Go.RowKit Go.Proofs.YtokmaehefenpmaaDoor.Nm
set_option linter.unusedSimpArgs false
theorem ret_int {k : IntKind} {a b : Int} (h : a = b) : Ending.returned (.int k a) = .returned (.int k b) := by rw [h]
set_option maxHeartbeats 2000000 in
set_option maxRecDepth 100000 in
theorem TypeNodes_any (most : Nat) (hm : most ≤ 1000) : ∀ (t : Ty) (w : World) (D : Nat → Prop) (row : Array Value), TyAt w D t row →
    Calls Tryd.prog 43 #[.agg row, .int .i64 (most : Int)] w fun e w' => e = .returned (.int .i64 ((min t.nodes (most + 1) : Nat) : Int)) ∧ Below w.heap.size w w' := Ty.ind fun k s n ts ih w D row h => by
  obtain ⟨k', s', n', A, l, c, ts', e, rfl, hk, hn, hs, hT⟩ := h.parts
  cases e
  have HT := Lib.hid hT
  have HL := Lib.hid hT.len
  have hcm := hT.cap
  have hmx := hT.max
  unfold maxLen at hmx
  have HS := Lib.hid (typeNodes most k s n ts)
  have HI := Lib.hid ih
  clear h hk hn hs hT ih
  go_enter Tryd.func43, Tryd.ntmps43
  go_upto_region 0 with (fail)
  apply wp_region_lit
  (with_reducible refine wl_box rfl ?_); intro W p hbn hlp hp; simp only [put_lit, List.set_cons_zero, List.set_cons_succ]
  have hb := hbn
  clear hbn
  (with_reducible refine wl_k ?_ ?_); exact rfl; intro K hK; go_simp; refine hK _ ?_; clear hK K
  go_wp2_with fail
  go_loopw [5, 6] (fun v i wr => ∃ j m : Nat, j ≤ l ∧ m ≤ 2 * (most + 1) ∧ i = .int .i64 (j : Int) ∧ v = .int .i64 (m : Int) ∧ Hid (tnLoop most 1 ts = tnLoop most m (ts.drop j)) ∧ Below w.heap.size w wr ∧ wr.heap[p]? = some (.cells (cell4 k s n A l c) 24 (0, 0))) (fun _ i _ => l - (intOf i).toNat)
  case atStart => exact ⟨0, 1, by omega, by omega, rfl, rfl, Lib.hid rfl, hb, hp⟩
  case round =>
    clear hb hp
    obtain ⟨j, m, hj, hm2, rfl, rfl, HR, hb, hp⟩ := hrel
    by_cases hlt : j < l
    · have hltI : (j : Int) < (l : Int) := by omega
      obtain ⟨b, off, t, row, rfl, -, ht, -⟩ := HT.out.get hlt
      obtain ⟨row, hrow, hta⟩ := (HT.out.old (hb.mono (Nat.le_refl _))).row ht
      have hdr : ts.drop j = t :: ts.drop (j + 1) := by rw [List.drop_eq_getElem_cons (by rw [HL.out]; exact hlt)]; rw [List.getElem?_eq_getElem (by rw [HL.out]; exact hlt)] at ht; cases ht; rfl
      have HD := Lib.hid hdr
      have hmem : t ∈ ts := List.mem_of_getElem? ht
      clear hdr
      by_cases hmm : m ≤ most
      · have hmI : (m : Int) ≤ (most : Int) := by omega
        have HR2 : Hid (tnLoop most 1 ts = tnLoop most (m + min t.nodes (most + 1)) (ts.drop (j + 1))) := Lib.hid (by rw [HR.out, HD.out, tnLoop, if_pos hmm])
        have HTA := Lib.hid hta
        have HME := Lib.hid hmem
        clear hta hmem ht HD HR
        go_upto_region 3 with (fail)
        apply wp_region_lit
        (with_reducible refine wl_k ?_ ?_); exact rfl; intro K hK; go_simp; refine hK _ ?_; clear hK K
        (with_reducible refine wl_k ?_ ?_); exact rfl; intro K hK; go_simp; refine hK _ ?_; clear hK K
        (first | ((with_reducible apply wl_oneG); exact rfl; exact rfl; first | exact f0 (by with_reducible assumption) | exact f1 (by with_reducible assumption) | exact f2 (by with_reducible assumption) | exact f3 (by with_reducible assumption) | with_reducible assumption | exact g22 (by with_reducible assumption) | exact g25 (by with_reducible assumption)) | ((with_reducible apply wl_rowG); exact rfl; exact rfl; first | with_reducible assumption | exact RowK.now (by with_reducible assumption) | exact f4 (by with_reducible assumption)))
        (with_reducible refine wl_k ?_ ?_); exact rfl; intro K hK; go_simp; refine hK _ ?_; clear hK K
        (with_reducible refine wl_k ?_ ?_); exact rfl; intro K hK; go_simp; refine hK _ ?_; clear hK K
        (with_reducible refine wl_k ?_ ?_); exact rfl; intro K hK; go_simp; refine hK _ ?_; clear hK K
        (with_reducible refine wl_k ?_ ?_); exact rfl; intro K hK; go_simp; refine hK _ ?_; clear hK K
        (with_reducible refine wl_k ?_ ?_); exact rfl; intro K hK; go_simp; refine hK _ ?_; clear hK K
        (with_reducible refine wl_k ?_ ?_); exact rfl; intro K hK; go_simp; refine hK _ ?_; clear hK K
        (with_reducible refine wl_k ?_ ?_); exact rfl; intro K hK; go_simp; refine hK _ ?_; clear hK K
        go_upto_region 5 with (fail)
        have hC := HI.out t HME.out wr D row HTA.out
        obtain ⟨q, hq⟩ : ∃ q, q = min t.nodes (most + 1) := ⟨_, rfl⟩
        have hq1 : q ≤ most + 1 := by omega
        rw [← hq] at hC HR2
        have HC := Lib.hid hC
        have hwr : IntKind.i64.wrap ((m : Int) + (q : Int)) = (m : Int) + (q : Int) := IntWalk.i64_in _ (by omega)
        clear hC hq HTA HME
        apply wp_region_lit
        (with_reducible refine wl_k ?_ ?_); exact rfl; intro K hK; go_simp; refine hK _ ?_; clear hK K
        (with_reducible refine wl_k ?_ ?_); exact rfl; intro K hK; go_simp; refine hK _ ?_; clear hK K
        (first | ((with_reducible apply wl_oneG); exact rfl; exact rfl; first | exact f0 (by with_reducible assumption) | exact f1 (by with_reducible assumption) | exact f2 (by with_reducible assumption) | exact f3 (by with_reducible assumption) | with_reducible assumption | exact g22 (by with_reducible assumption) | exact g25 (by with_reducible assumption)) | ((with_reducible apply wl_rowG); exact rfl; exact rfl; first | with_reducible assumption | exact RowK.now (by with_reducible assumption) | exact f4 (by with_reducible assumption)))
        (with_reducible refine wl_k ?_ ?_); exact rfl; intro K hK; go_simp; refine hK _ ?_; clear hK K
        (with_reducible refine wl_k ?_ ?_); exact rfl; intro K hK; go_simp; refine hK _ ?_; clear hK K
        (first | ((with_reducible apply wl_oneG); exact rfl; exact rfl; first | exact f0 (by with_reducible assumption) | exact f1 (by with_reducible assumption) | exact f2 (by with_reducible assumption) | exact f3 (by with_reducible assumption) | with_reducible assumption | exact g22 (by with_reducible assumption) | exact g25 (by with_reducible assumption)) | ((with_reducible apply wl_rowG); exact rfl; exact rfl; first | with_reducible assumption | exact RowK.now (by with_reducible assumption) | exact f4 (by with_reducible assumption)))
        (with_reducible refine wl_k ?_ ?_); exact rfl; intro K hK; go_simp; refine hK _ ?_; clear hK K
        (with_reducible refine wl_ck ?_ ?_); exact rfl; intro K hK; go_simp; refine ⟨_, _, ⟨rfl, rfl⟩, hK _ _ ⟨_, HC.out, ?_⟩⟩; clear hK K; rintro e w7 ⟨rfl, hb7⟩; refine ⟨_, rfl, ?_⟩; simp only [put_lit, List.set_cons_zero, List.set_cons_succ]
        (with_reducible refine wl_k ?_ ?_); exact rfl; intro K hK; go_simp; refine hK _ ?_; clear hK K
        (with_reducible refine wl_k ?_ ?_); exact rfl; intro K hK; go_simp; refine hK _ ?_; clear hK K
        replace hp := below_look hb7 hp
        replace hb := hb.trans (hb7.mono hb.size)
        clear hb7 HC hrow hwr
        go_wp2_with fail
        go_roundw
        case rel => exact ⟨j + 1, m + q, by omega, by omega, by go_num, by go_num, HR2, hb, hp⟩
        case measure => simp [intOf]; omega
      · have hmI : ¬ (m : Int) ≤ (most : Int) := by omega
        have HF : Hid (min m (most + 1) = min (Ty.node k s n ts).nodes (most + 1)) := Lib.hid (by rw [← HS.out, HR.out, HD.out, tnLoop, if_neg hmm])
        clear ht hta hmem HD HR hrow
        go_upto_region 3 with (fail)
        apply wp_region_lit
        (with_reducible refine wl_k ?_ ?_); exact rfl; intro K hK; go_simp; refine hK _ ?_; clear hK K
        (with_reducible refine wl_k ?_ ?_); exact rfl; intro K hK; go_simp; refine hK _ ?_; clear hK K
        (first | ((with_reducible apply wl_oneG); exact rfl; exact rfl; first | exact f0 (by with_reducible assumption) | exact f1 (by with_reducible assumption) | exact f2 (by with_reducible assumption) | exact f3 (by with_reducible assumption) | with_reducible assumption | exact g22 (by with_reducible assumption) | exact g25 (by with_reducible assumption)) | ((with_reducible apply wl_rowG); exact rfl; exact rfl; first | with_reducible assumption | exact RowK.now (by with_reducible assumption) | exact f4 (by with_reducible assumption)))
        (with_reducible refine wl_k ?_ ?_); exact rfl; intro K hK; go_simp; refine hK _ ?_; clear hK K
        (with_reducible refine wl_k ?_ ?_); exact rfl; intro K hK; go_simp; refine hK _ ?_; clear hK K
        (with_reducible refine wl_k ?_ ?_); exact rfl; intro K hK; go_simp; refine hK _ ?_; clear hK K
        (with_reducible refine wl_k ?_ ?_); exact rfl; intro K hK; go_simp; refine hK _ ?_; clear hK K
        (with_reducible refine wl_k ?_ ?_); exact rfl; intro K hK; go_simp; refine hK _ ?_; clear hK K
        (with_reducible refine wl_k ?_ ?_); exact rfl; intro K hK; go_simp; refine hK _ ?_; clear hK K
        (with_reducible refine wl_k ?_ ?_); exact rfl; intro K hK; go_simp; refine hK _ ?_; clear hK K
        go_wp2_with fail
        all_goals (go_ret; exact ⟨ret_int (by rw [← HF.out]; omega), hb⟩)
    · have hltI : ¬ (j : Int) < (l : Int) := by omega
      have HF : Hid (min m (most + 1) = min (Ty.node k s n ts).nodes (most + 1)) := Lib.hid (by rw [← HS.out, HR.out, List.drop_of_length_le (by rw [HL.out]; omega), tnLoop])
      clear HR
      go_upto_region 3 with (fail)
      apply wp_region_lit
      (with_reducible refine wl_k ?_ ?_); exact rfl; intro K hK; go_simp; refine hK _ ?_; clear hK K
      (with_reducible refine wl_k ?_ ?_); exact rfl; intro K hK; go_simp; refine hK _ ?_; clear hK K
      (first | ((with_reducible apply wl_oneG); exact rfl; exact rfl; first | exact f0 (by with_reducible assumption) | exact f1 (by with_reducible assumption) | exact f2 (by with_reducible assumption) | exact f3 (by with_reducible assumption) | with_reducible assumption | exact g22 (by with_reducible assumption) | exact g25 (by with_reducible assumption)) | ((with_reducible apply wl_rowG); exact rfl; exact rfl; first | with_reducible assumption | exact RowK.now (by with_reducible assumption) | exact f4 (by with_reducible assumption)))
      (with_reducible refine wl_k ?_ ?_); exact rfl; intro K hK; go_simp; refine hK _ ?_; clear hK K
      (with_reducible refine wl_k ?_ ?_); exact rfl; intro K hK; go_simp; refine hK _ ?_; clear hK K
      (with_reducible refine wl_k ?_ ?_); exact rfl; intro K hK; go_simp; refine hK _ ?_; clear hK K
      (first | ((with_reducible refine wl_skipU ?_ ?_ ?_); exact rfl; exact rfl) | ((with_reducible refine wl_skip ?_ ?_); exact rfl; simp only [put_lit, List.set_cons_zero, List.set_cons_succ]))
      (first | ((with_reducible refine wl_skipU ?_ ?_ ?_); exact rfl; exact rfl) | ((with_reducible refine wl_skip ?_ ?_); exact rfl; simp only [put_lit, List.set_cons_zero, List.set_cons_succ]))
      (first | ((with_reducible refine wl_skipU ?_ ?_ ?_); exact rfl; exact rfl) | ((with_reducible refine wl_skip ?_ ?_); exact rfl; simp only [put_lit, List.set_cons_zero, List.set_cons_succ]))
      (with_reducible refine wl_k ?_ ?_); exact rfl; intro K hK; go_simp; refine hK _ ?_; clear hK K
      go_wp2_with fail
      all_goals (go_ret; exact ⟨ret_int (by rw [← HF.out]; omega), hb⟩)
theorem smallB_step {ts : List Ty} {j : Nat} (hj : ∀ i t, i < j → ts[i]? = some t → t.nodes ≤ 150) {t : Ty} (ht : ts[j]? = some t) (hn : t.nodes ≤ 150) : ∀ i t, i < j + 1 → ts[i]? = some t → t.nodes ≤ 150 := fun i u hi hu => by
  rcases Nat.lt_or_ge i j with h | h
  · exact hj i u h hu
  · obtain rfl : i = j := by omega
    rw [ht] at hu; cases hu; exact hn
/-- Small: what the law's premise says. -/
def Small (ts : List Ty) : Prop := ts.length ≤ 60 ∧ ∀ t, t ∈ ts → t.nodes ≤ 150
/-- A bool that is true only where something holds; nothing old turned. -/
def Yes (w : World) (p : Prop) (e : Ending) (w' : World) : Prop := (∃ b : Bool, e = .returned (.bool b) ∧ (b = true → p)) ∧ Below w.heap.size w w'
set_option maxHeartbeats 2000000 in
set_option maxRecDepth 100000 in
theorem small_any (ts : List Ty) (A : Option Addr) (l c : Nat) (w : World) (D : Nat → Prop) (h : TysAt w D ts A l c) :
    Calls Tryd.prog 15 #[.slice A l c] w (Yes w (Small ts)) := by
  have HT := Lib.hid h
  have HL := Lib.hid h.len
  have hcm := h.cap
  have hmx := h.max
  unfold maxLen at hmx
  clear h
  have hb := Below.refl w.heap.size w
  go_enter Tryd.func15, Tryd.ntmps15
  go_wp2_with fail
  go_loopw [3] (fun i wr => ∃ j : Nat, j ≤ l ∧ j ≤ 60 ∧ i = .int .i64 (j : Int) ∧ Hid (∀ (i : Nat) (t : Ty), i < j → ts[i]? = some t → t.nodes ≤ 150) ∧ Below w.heap.size w wr) (fun i _ => l - (intOf i).toNat)
  case atStart => exact ⟨0, by omega, by omega, rfl, Lib.hid (fun i t hi => by omega), hb⟩
  case round =>
    clear hb
    obtain ⟨j, hj, hj6, rfl, HR, hb⟩ := hrel
    by_cases hlt : j < l
    · have hltI : (j : Int) < (l : Int) := by omega
      by_cases h60 : j = 60
      · have hj2 : ((j : Int) == 60) = true := beq_iff_eq.2 (by omega)
        go_upto_region 4 with (fail)
        apply wp_region_lit
        (with_reducible refine wl_k ?_ ?_); exact rfl; intro K hK; go_simp; refine hK _ ?_; clear hK K
        (with_reducible refine wl_k ?_ ?_); exact rfl; intro K hK; go_simp; refine hK _ ?_; clear hK K
        (with_reducible refine wl_k ?_ ?_); exact rfl; intro K hK; go_simp; refine hK _ ?_; clear hK K
        (first | ((with_reducible refine wl_skipU ?_ ?_ ?_); exact rfl; exact rfl) | ((with_reducible refine wl_skip ?_ ?_); exact rfl; simp only [put_lit, List.set_cons_zero, List.set_cons_succ]))
        (first | ((with_reducible refine wl_skipU ?_ ?_ ?_); exact rfl; exact rfl) | ((with_reducible refine wl_skip ?_ ?_); exact rfl; simp only [put_lit, List.set_cons_zero, List.set_cons_succ]))
        (first | ((with_reducible refine wl_skipU ?_ ?_ ?_); exact rfl; exact rfl) | ((with_reducible refine wl_skip ?_ ?_); exact rfl; simp only [put_lit, List.set_cons_zero, List.set_cons_succ]))
        (first | ((with_reducible refine wl_skipU ?_ ?_ ?_); exact rfl; exact rfl) | ((with_reducible refine wl_skip ?_ ?_); exact rfl; simp only [put_lit, List.set_cons_zero, List.set_cons_succ]))
        (first | ((with_reducible refine wl_skipU ?_ ?_ ?_); exact rfl; exact rfl) | ((with_reducible refine wl_skip ?_ ?_); exact rfl; simp only [put_lit, List.set_cons_zero, List.set_cons_succ]))
        (first | ((with_reducible refine wl_skipU ?_ ?_ ?_); exact rfl; exact rfl) | ((with_reducible refine wl_skip ?_ ?_); exact rfl; simp only [put_lit, List.set_cons_zero, List.set_cons_succ]))
        (with_reducible refine wl_k ?_ ?_); exact rfl; intro K hK; go_simp; refine hK _ ?_; clear hK K
        go_wp2_with fail
        go_ret
        exact ⟨⟨false, rfl, fun h => by cases h⟩, hb⟩
      · have hj2 : ((j : Int) == 60) = false := beq_eq_false_iff_ne.2 (by omega)
        obtain ⟨b, off, t, row, rfl, -, ht, -⟩ := HT.out.get hlt
        obtain ⟨row, hrow, hta⟩ := (HT.out.old hb).row ht
        have HC := Lib.hid (TypeNodes_any 150 (by omega) t wr D row hta)
        by_cases hn : t.nodes ≤ 150
        · have hq : ¬ (((min t.nodes (150 + 1) : Nat) : Int) > 150) := by omega
          have HR2 := Lib.hid (smallB_step HR.out ht hn)
          obtain ⟨q, hqe⟩ : ∃ q : Nat, q = min t.nodes (150 + 1) := ⟨_, rfl⟩
          have HC2 : Hid (Calls Tryd.prog 43 #[.agg row, .int .i64 150] wr fun e w' => e = .returned (.int .i64 (q : Int)) ∧ Below wr.heap.size wr w') := Lib.hid (by rw [hqe]; exact HC.out)
          rw [← hqe] at hq
          clear HC hqe hta HR ht hn
          go_upto_region 4 with (fail)
          apply wp_region_lit
          (with_reducible refine wl_k ?_ ?_); exact rfl; intro K hK; go_simp; refine hK _ ?_; clear hK K
          (with_reducible refine wl_k ?_ ?_); exact rfl; intro K hK; go_simp; refine hK _ ?_; clear hK K
          (with_reducible refine wl_k ?_ ?_); exact rfl; intro K hK; go_simp; refine hK _ ?_; clear hK K
          (with_reducible refine wl_k ?_ ?_); exact rfl; intro K hK; go_simp; refine hK _ ?_; clear hK K
          (with_reducible refine wl_k ?_ ?_); exact rfl; intro K hK; go_simp; refine hK _ ?_; clear hK K
          (with_reducible refine wl_k ?_ ?_); exact rfl; intro K hK; go_simp; refine hK _ ?_; clear hK K
          (first | ((with_reducible apply wl_oneG); exact rfl; exact rfl; first | exact f0 (by with_reducible assumption) | exact f1 (by with_reducible assumption) | exact f2 (by with_reducible assumption) | exact f3 (by with_reducible assumption) | with_reducible assumption | exact g22 (by with_reducible assumption) | exact g25 (by with_reducible assumption)) | ((with_reducible apply wl_rowG); exact rfl; exact rfl; first | with_reducible assumption | exact RowK.now (by with_reducible assumption) | exact f4 (by with_reducible assumption)))
          (with_reducible refine wl_ck ?_ ?_); exact rfl; intro K hK; go_simp; refine ⟨_, _, ⟨rfl, rfl⟩, hK _ _ ⟨_, HC2.out, ?_⟩⟩; clear hK K; rintro e w7 ⟨rfl, hb7⟩; refine ⟨_, rfl, ?_⟩; simp only [put_lit, List.set_cons_zero, List.set_cons_succ]
          (with_reducible refine wl_k ?_ ?_); exact rfl; intro K hK; go_simp; refine hK _ ?_; clear hK K
          (with_reducible refine wl_k ?_ ?_); exact rfl; intro K hK; go_simp; refine hK _ ?_; clear hK K
          replace hb := hb.trans (hb7.mono hb.size)
          clear hb7 HC2 hrow
          go_wp2_with fail
          go_roundw
          case rel => exact ⟨j + 1, by omega, by omega, by go_num, HR2, hb⟩
          case measure => simp [intOf]; omega
        · have hq : ((min t.nodes (150 + 1) : Nat) : Int) > 150 := by omega
          obtain ⟨q, hqe⟩ : ∃ q : Nat, q = min t.nodes (150 + 1) := ⟨_, rfl⟩
          have HC2 : Hid (Calls Tryd.prog 43 #[.agg row, .int .i64 150] wr fun e w' => e = .returned (.int .i64 (q : Int)) ∧ Below wr.heap.size wr w') := Lib.hid (by rw [hqe]; exact HC.out)
          rw [← hqe] at hq
          clear HC hqe hta HR ht hn
          go_upto_region 4 with (fail)
          apply wp_region_lit
          (with_reducible refine wl_k ?_ ?_); exact rfl; intro K hK; go_simp; refine hK _ ?_; clear hK K
          (with_reducible refine wl_k ?_ ?_); exact rfl; intro K hK; go_simp; refine hK _ ?_; clear hK K
          (with_reducible refine wl_k ?_ ?_); exact rfl; intro K hK; go_simp; refine hK _ ?_; clear hK K
          (with_reducible refine wl_k ?_ ?_); exact rfl; intro K hK; go_simp; refine hK _ ?_; clear hK K
          (with_reducible refine wl_k ?_ ?_); exact rfl; intro K hK; go_simp; refine hK _ ?_; clear hK K
          (with_reducible refine wl_k ?_ ?_); exact rfl; intro K hK; go_simp; refine hK _ ?_; clear hK K
          (first | ((with_reducible apply wl_oneG); exact rfl; exact rfl; first | exact f0 (by with_reducible assumption) | exact f1 (by with_reducible assumption) | exact f2 (by with_reducible assumption) | exact f3 (by with_reducible assumption) | with_reducible assumption | exact g22 (by with_reducible assumption) | exact g25 (by with_reducible assumption)) | ((with_reducible apply wl_rowG); exact rfl; exact rfl; first | with_reducible assumption | exact RowK.now (by with_reducible assumption) | exact f4 (by with_reducible assumption)))
          (with_reducible refine wl_ck ?_ ?_); exact rfl; intro K hK; go_simp; refine ⟨_, _, ⟨rfl, rfl⟩, hK _ _ ⟨_, HC2.out, ?_⟩⟩; clear hK K; rintro e w7 ⟨rfl, hb7⟩; refine ⟨_, rfl, ?_⟩; simp only [put_lit, List.set_cons_zero, List.set_cons_succ]
          (with_reducible refine wl_k ?_ ?_); exact rfl; intro K hK; go_simp; refine hK _ ?_; clear hK K
          (with_reducible refine wl_k ?_ ?_); exact rfl; intro K hK; go_simp; refine hK _ ?_; clear hK K
          replace hb := hb.trans (hb7.mono hb.size)
          clear hb7 HC2 hrow
          go_wp2_with fail
          go_ret
          exact ⟨⟨false, rfl, fun h => by cases h⟩, hb⟩
    · have hltI : ¬ (j : Int) < (l : Int) := by omega
      have HF : Hid (Small ts) := Lib.hid ⟨by rw [HL.out]; omega, fun t ht => by
        obtain ⟨i, hi⟩ := List.mem_iff_getElem?.1 ht
        exact HR.out i t (by have := (List.getElem?_eq_some_iff.1 hi).1; rw [HL.out] at this; omega) hi⟩
      clear HR
      go_wp2_with fail
      go_ret
      exact ⟨⟨true, rfl, fun _ => HF.out⟩, hb⟩
end Go.Proofs.YtokmaehefenpmaaDoor
