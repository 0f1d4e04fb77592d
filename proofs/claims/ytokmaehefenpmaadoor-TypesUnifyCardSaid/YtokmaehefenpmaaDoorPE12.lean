/- Whether all nodes are as the table says (all), the document's Valid and Open. -/
import Derived.Test.YtokmaehefenpmaaDoorPE10
import Derived.Test.YtokmaehefenpmaaDoorPE1
namespace Go.Proofs.YtokmaehefenpmaaDoor
open Go.RowKit Go.Proofs.YtokmaehefenpmaaDoor.Nm
set_option linter.unusedSimpArgs false
def AllC (v : Bool) (t : Ty) : Prop := ∀ (w : World) (D : Nat → Prop) (row : Array Value), TyAt w D t row →
  Calls Tryd.prog 65 #[.agg row, .bool v] w fun e w' => e = .returned (.bool (t.all (nodeB v))) ∧ Below w.heap.size w w'
theorem alls_step {f : Ty → Bool} {ts : List Ty} {j : Nat} {u : Ty} (h : ts[j]? = some u) : alls f (ts.drop j) = (u.all f && alls f (ts.drop (j + 1))) := by
  obtain ⟨h1, e1⟩ := List.getElem?_eq_some_iff.1 h
  rw [List.drop_eq_getElem_cons h1, e1, alls]
set_option maxHeartbeats 2000000 in
set_option maxRecDepth 100000 in
theorem all_any (v : Bool) : ∀ t : Ty, AllC v t := Ty.ind fun k s n ts ih w D row h => by
  have HTA := Lib.hid h
  obtain ⟨k1, s1, n1, A, l, c, ts1, e, rfl, hk, hnn, hs, hT⟩ := h.parts
  cases e
  have HT := Lib.hid hT
  have HL := Lib.hid hT.len
  have HI := Lib.hid ih
  have hcm := hT.cap
  have hmx := hT.max
  unfold maxLen at hmx
  clear h hk hnn hs hT ih
  have hb := Below.refl w.heap.size w
  go_enter Tryd.func65, Tryd.ntmps65
  go_upto_region 0 with (fail)
  apply wp_region_lit
  (with_reducible refine wl_box rfl ?_); intro W p hbn hlp hp; replace hb := hb.trans (hbn.mono hb.size); clear hbn; simp only [Zq]
  (with_reducible refine wl_k ?_ ?_); exact rfl; intro K hK; go_simp; refine hK _ ?_; clear hK K
  obtain ⟨nb, hnb⟩ : ∃ b, b = nodeB v (.node k s n ts) := ⟨_, rfl⟩
  have HC := Lib.hid (node_any v (.node k s n ts) W D _ (HTA.out.old hb))
  rw [← hnb] at HC
  have HF0 : Hid ((Ty.node k s n ts).all (nodeB v) = (nb && alls (nodeB v) ts)) := Lib.hid (by rw [hnb]; simp only [Ty.all])
  clear hnb
  go_upto_region 1 with (fail)
  cases nb with
  | false =>
    have HF : Hid ((Ty.node k s n ts).all (nodeB v) = false) := Lib.hid (by rw [HF0.out]; rfl)
    apply wp_region_lit
    (first | ((with_reducible apply wl_oneG); exact rfl; exact rfl; first | exact f0 (by with_reducible assumption) | exact f1 (by with_reducible assumption) | exact f2 (by with_reducible assumption) | exact f3 (by with_reducible assumption) | with_reducible assumption | exact g22 (by with_reducible assumption) | exact g25 (by with_reducible assumption)) | ((with_reducible apply wl_rowG); exact rfl; exact rfl; first | with_reducible assumption | exact RowK.now (by with_reducible assumption) | exact f4 (by with_reducible assumption)))
    (with_reducible refine wl_k ?_ ?_); exact rfl; intro K hK; go_simp; refine hK _ ?_; clear hK K
    (with_reducible refine wl_ck ?_ ?_); exact rfl; intro K hK; go_simp; refine ⟨_, _, ⟨rfl, rfl⟩, hK _ _ ⟨_, HC.out, ?_⟩⟩; clear hK K; rintro e w7 ⟨rfl, hb7⟩; refine ⟨_, rfl, ?_⟩; simp only [Zq]
    (with_reducible refine wl_k ?_ ?_); exact rfl; intro K hK; go_simp; refine hK _ ?_; clear hK K
    replace hp := below_look hb7 hp; replace hb := hb.trans (hb7.mono hb.size); clear hb7
    clear hp HC
    go_wp2_with fail
    go_ret
    exact ⟨by rw [HF.out]; rfl, hb⟩
  | true =>
    have HF : Hid ((Ty.node k s n ts).all (nodeB v) = alls (nodeB v) ts) := Lib.hid (by rw [HF0.out]; rfl)
    clear HF0
    apply wp_region_lit
    (first | ((with_reducible apply wl_oneG); exact rfl; exact rfl; first | exact f0 (by with_reducible assumption) | exact f1 (by with_reducible assumption) | exact f2 (by with_reducible assumption) | exact f3 (by with_reducible assumption) | with_reducible assumption | exact g22 (by with_reducible assumption) | exact g25 (by with_reducible assumption)) | ((with_reducible apply wl_rowG); exact rfl; exact rfl; first | with_reducible assumption | exact RowK.now (by with_reducible assumption) | exact f4 (by with_reducible assumption)))
    (with_reducible refine wl_k ?_ ?_); exact rfl; intro K hK; go_simp; refine hK _ ?_; clear hK K
    (with_reducible refine wl_ck ?_ ?_); exact rfl; intro K hK; go_simp; refine ⟨_, _, ⟨rfl, rfl⟩, hK _ _ ⟨_, HC.out, ?_⟩⟩; clear hK K; rintro e w7 ⟨rfl, hb7⟩; refine ⟨_, rfl, ?_⟩; simp only [Zq]
    (with_reducible refine wl_k ?_ ?_); exact rfl; intro K hK; go_simp; refine hK _ ?_; clear hK K
    replace hp := below_look hb7 hp; replace hb := hb.trans (hb7.mono hb.size); clear hb7
    clear HC
    go_wp2_with fail
    go_loopw [5] (fun i wr => ∃ j : Nat, j ≤ l ∧ i = .int .i64 (j : Int) ∧ Hid (alls (nodeB v) ts = alls (nodeB v) (ts.drop j)) ∧ Below w.heap.size w wr ∧ wr.heap[p]? = some (.cells (cell4 k s n A l c) 24 (0, 0))) (fun i _ => l - (intOf i).toNat)
    case atStart => exact ⟨0, by omega, rfl, Lib.hid rfl, hb, hp⟩
    case round =>
      clear hb hp
      obtain ⟨j, hj, rfl, HR, hb, hp⟩ := hrel
      go_upto_region 4 with (fail)
      by_cases hlt : j < l
      · have hltI : (j : Int) < (l : Int) := by omega
        obtain ⟨b, off, u, rowu, rfl, -, hu, -⟩ := (HT.out.old hb).get hlt
        obtain ⟨rowu, hru, htu⟩ := (HT.out.old hb).rowK hu
        have HSTEP := Lib.hid (alls_step (f := nodeB v) hu)
        have HC := Lib.hid (HI.out u (List.mem_of_getElem? hu) wr D rowu htu)
        obtain ⟨bb, hbb⟩ : ∃ bb, bb = u.all (nodeB v) := ⟨_, rfl⟩
        rw [← hbb] at HSTEP HC
        clear hbb hu htu
        apply wp_region_lit
        (with_reducible refine wl_k ?_ ?_); exact rfl; intro K hK; go_simp; refine hK _ ?_; clear hK K
        (with_reducible refine wl_k ?_ ?_); exact rfl; intro K hK; go_simp; refine hK _ ?_; clear hK K
        (first | ((with_reducible apply wl_oneG); exact rfl; exact rfl; first | exact f0 (by with_reducible assumption) | exact f1 (by with_reducible assumption) | exact f2 (by with_reducible assumption) | exact f3 (by with_reducible assumption) | with_reducible assumption | exact g22 (by with_reducible assumption) | exact g25 (by with_reducible assumption)) | ((with_reducible apply wl_rowG); exact rfl; exact rfl; first | with_reducible assumption | exact RowK.now (by with_reducible assumption) | exact f4 (by with_reducible assumption)))
        (with_reducible refine wl_k ?_ ?_); exact rfl; intro K hK; go_simp; refine hK _ ?_; clear hK K
        (with_reducible refine wl_k ?_ ?_); exact rfl; intro K hK; go_simp; refine hK _ ?_; clear hK K
        go_upto_region 6 with (fail)
        apply wp_region_lit
        (with_reducible refine wl_k ?_ ?_); exact rfl; intro K hK; go_simp; refine hK _ ?_; clear hK K
        (first | ((with_reducible apply wl_oneG); exact rfl; exact rfl; first | exact f0 (by with_reducible assumption) | exact f1 (by with_reducible assumption) | exact f2 (by with_reducible assumption) | exact f3 (by with_reducible assumption) | with_reducible assumption | exact g22 (by with_reducible assumption) | exact g25 (by with_reducible assumption)) | ((with_reducible apply wl_rowG); exact rfl; exact rfl; first | with_reducible assumption | exact RowK.now (by with_reducible assumption) | exact f4 (by with_reducible assumption)))
        (with_reducible refine wl_k ?_ ?_); exact rfl; intro K hK; go_simp; refine hK _ ?_; clear hK K
        (with_reducible refine wl_k ?_ ?_); exact rfl; intro K hK; go_simp; refine hK _ ?_; clear hK K
        (first | ((with_reducible apply wl_oneG); exact rfl; exact rfl; first | exact f0 (by with_reducible assumption) | exact f1 (by with_reducible assumption) | exact f2 (by with_reducible assumption) | exact f3 (by with_reducible assumption) | with_reducible assumption | exact g22 (by with_reducible assumption) | exact g25 (by with_reducible assumption)) | ((with_reducible apply wl_rowG); exact rfl; exact rfl; first | with_reducible assumption | exact RowK.now (by with_reducible assumption) | exact f4 (by with_reducible assumption)))
        (with_reducible refine wl_k ?_ ?_); exact rfl; intro K hK; go_simp; refine hK _ ?_; clear hK K
        (with_reducible refine wl_ck ?_ ?_); exact rfl; intro K hK; go_simp; refine ⟨_, _, ⟨rfl, rfl⟩, hK _ _ ⟨_, HC.out, ?_⟩⟩; clear hK K; rintro e w7 ⟨rfl, hb7⟩; refine ⟨_, rfl, ?_⟩; simp only [Zq]
        (with_reducible refine wl_k ?_ ?_); exact rfl; intro K hK; go_simp; refine hK _ ?_; clear hK K
        clear hru HC
        replace hp := below_look hb7 hp; replace hb := hb.trans (hb7.mono hb.size); clear hb7
        cases bb with
        | false =>
          have HF2 : Hid ((Ty.node k s n ts).all (nodeB v) = false) := Lib.hid (by rw [HF.out, HR.out, HSTEP.out]; rfl)
          clear hp HR HSTEP HF
          go_wp2_with fail
          go_ret
          exact ⟨by rw [HF2.out]; rfl, hb⟩
        | true =>
          have HR2 : Hid (alls (nodeB v) ts = alls (nodeB v) (ts.drop (j + 1))) := Lib.hid (by rw [HR.out, HSTEP.out]; rfl)
          clear HR HSTEP
          go_wp2_with fail
          go_roundw
          case rel => exact ⟨j + 1, by omega, by go_num, HR2, hb, hp⟩
          case measure => simp [intOf]; omega
      · have hltI : ¬ (j : Int) < (l : Int) := by omega
        have HF2 : Hid ((Ty.node k s n ts).all (nodeB v) = true) := Lib.hid (by rw [HF.out, HR.out, List.drop_of_length_le (by rw [HL.out]; omega), alls])
        apply wp_region_lit
        (with_reducible refine wl_k ?_ ?_); exact rfl; intro K hK; go_simp; refine hK _ ?_; clear hK K
        (with_reducible refine wl_k ?_ ?_); exact rfl; intro K hK; go_simp; refine hK _ ?_; clear hK K
        (first | ((with_reducible apply wl_oneG); exact rfl; exact rfl; first | exact f0 (by with_reducible assumption) | exact f1 (by with_reducible assumption) | exact f2 (by with_reducible assumption) | exact f3 (by with_reducible assumption) | with_reducible assumption | exact g22 (by with_reducible assumption) | exact g25 (by with_reducible assumption)) | ((with_reducible apply wl_rowG); exact rfl; exact rfl; first | with_reducible assumption | exact RowK.now (by with_reducible assumption) | exact f4 (by with_reducible assumption)))
        (with_reducible refine wl_k ?_ ?_); exact rfl; intro K hK; go_simp; refine hK _ ?_; clear hK K
        (with_reducible refine wl_k ?_ ?_); exact rfl; intro K hK; go_simp; refine hK _ ?_; clear hK K
        clear hp HR HF
        go_wp2_with fail
        go_ret
        exact ⟨by rw [HF2.out]; rfl, hb⟩
def validB (v : Bool) (t : Ty) : Bool := decide (t.nodes ≤ 40) && t.all (nodeB v)
end Go.Proofs.YtokmaehefenpmaaDoor
