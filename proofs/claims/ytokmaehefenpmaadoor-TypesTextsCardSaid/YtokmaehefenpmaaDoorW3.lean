/- A tree copied (CopyType, CopyTypes). -/
import Derived.Test.YtokmaehefenpmaaDoorW1
namespace Go.Proofs.YtokmaehefenpmaaDoor
open Go.RowKit Go.Proofs.YtokmaehefenpmaaDoor.Nm
set_option linter.unusedSimpArgs false
/-- A list of trees made by a call. -/
def NewOwn (w : World) (ts : List Ty) (e : Ending) (w' : World) : Prop := ∃ A l c, e = .returned (.slice A l c) ∧ OwnT w' w.heap.size (.slice A l c) ts ∧ Below w.heap.size w w'
def CopyC (t : Ty) : Prop := t.nodes ≤ 1000000 → ∀ (w : World) (D : Nat → Prop) (row : Array Value), TyAt w D t row → Calls Tryd.prog 53 #[.agg row] w (NewTy w t)
set_option maxHeartbeats 2000000 in
set_option maxRecDepth 100000 in
theorem CopyTypes_of (ts : List Ty) (ih : ∀ t, t ∈ ts → CopyC t) (hnl : nodesL ts ≤ 1000000) (A : Option Addr) (l c : Nat) (w : World) (D : Nat → Prop) (h : TysAt w D ts A l c) :
    Calls Tryd.prog 54 #[.slice A l c] w (NewOwn w ts) := by
  have HT := Lib.hid h
  have HL := Lib.hid h.len
  have hl6 : l ≤ 1000000 := by have := len_nodesL ts; have := h.len; omega
  have HI := Lib.hid fun t ht => ih t ht (Nat.le_trans (mem_nodesL ht) hnl)
  have hcm := h.cap
  have hmx := h.max
  unfold maxLen at hmx
  clear h ih hnl
  have hb := Below.refl w.heap.size w
  have HO := Lib.hid (OwnT.nil w w.heap.size)
  go_enter Tryd.func54, Tryd.ntmps54
  go_wp2_with fail
  go_loopw [3, 4] (fun v i wr => ∃ j : Nat, j ≤ l ∧ i = .int .i64 (j : Int) ∧ Hid (OwnT wr w.heap.size v (ts.take j)) ∧ Below w.heap.size w wr) (fun _ i _ => l - (intOf i).toNat)
  case atStart => exact ⟨0, by omega, rfl, HO, hb⟩
  case round =>
    clear hb HO
    obtain ⟨j, hj, rfl, HO, hb⟩ := hrel
    by_cases hlt : j < l
    · have hltI : (j : Int) < (l : Int) := by omega
      obtain ⟨b, off, t, row, rfl, -, ht, -⟩ := HT.out.get hlt
      obtain ⟨row, hrow, hta⟩ := (HT.out.old hb).rowK ht
      have HC := Lib.hid (HI.out t (List.mem_of_getElem? ht) wr D row hta)
      have HTK : Hid (ts.take (j + 1) = ts.take j ++ [t]) := Lib.hid (by rw [List.take_add_one, ht]; rfl)
      have hlen : (ts.take j).length ≤ 1000000 := by rw [List.length_take]; omega
      have HLN := Lib.hid hlen
      clear hta ht hlen
      go_upto_region 5 with (fail)
      apply wp_region_lit
      (with_reducible refine wl_k ?_ ?_); exact rfl; intro K hK; go_simp; refine hK _ ?_; clear hK K
      (with_reducible refine wl_k ?_ ?_); exact rfl; intro K hK; go_simp; refine hK _ ?_; clear hK K
      (with_reducible refine wl_k ?_ ?_); exact rfl; intro K hK; go_simp; refine hK _ ?_; clear hK K
      (with_reducible refine wl_k ?_ ?_); exact rfl; intro K hK; go_simp; refine hK _ ?_; clear hK K
      (first | ((with_reducible apply wl_oneG); exact rfl; exact rfl; first | exact f0 (by with_reducible assumption) | exact f1 (by with_reducible assumption) | exact f2 (by with_reducible assumption) | exact f3 (by with_reducible assumption) | with_reducible assumption | exact g22 (by with_reducible assumption) | exact g25 (by with_reducible assumption)) | ((with_reducible apply wl_rowG); exact rfl; exact rfl; first | with_reducible assumption | exact RowK.now (by with_reducible assumption) | exact f4 (by with_reducible assumption)))
      (with_reducible refine wl_ck ?_ ?_); exact rfl; intro K hK; go_simp; refine ⟨_, _, ⟨rfl, rfl⟩, hK _ _ ⟨_, HC.out, ?_⟩⟩; clear hK K; rintro e w7 ⟨row7, rfl, hta7, hb7⟩; refine ⟨_, rfl, ?_⟩; simp only [put_lit, List.set_cons_zero, List.set_cons_succ]
      obtain ⟨k7, s7, n7, A7, l7, c7, ts7, rfl, rfl, -⟩ := hta7.parts
      have HA7 := Lib.hid (HO.out.apart hb.size hta7)
      replace HO := Lib.hid (HO.out.old hb7)
      clear hta7 HC hrow
      replace hb := hb.trans (hb7.mono hb.size); clear hb7
      have hb8 := Below.refl w7.heap.size w7
      (with_reducible refine wl_bs rfl ?_); intro w8 q hbn hlq hq; replace hb := hb.trans (hbn.mono hb.size); replace hb8 := hb8.trans (hbn.mono hb8.size); clear hbn; simp only [put_lit, List.set_cons_zero, List.set_cons_succ]
      replace HA7 := Lib.hid (HA7.out.old hb8)
      replace HO := Lib.hid (HO.out.old hb8)
      refine wl_push rfl _ _ rfl rfl rfl HO.out HA7.out hq HLN.out hb.size ?_
      intro A9 l9 c9 w9 hown hk9 hbl
      replace hb := hbl _ _ (fun b hb => (HO.out.lt b hb).1) hb.size hb
      rw [← HTK.out] at hown
      replace HO := Lib.hid hown
      clear hown hk9 hbl HA7 hq hb8
      simp only [put_lit, List.set_cons_zero, List.set_cons_succ]
      (with_reducible refine wl_k ?_ ?_); exact rfl; intro K hK; go_simp; refine hK _ ?_; clear hK K
      go_wp2_with fail
      go_roundw
      case rel => exact ⟨j + 1, by omega, by go_num, HO, hb⟩
      case measure => simp [intOf]; omega
    · have hltI : ¬ (j : Int) < (l : Int) := by omega
      replace HO : Hid (OwnT wr w.heap.size _ ts) := Lib.hid (by have := HO.out; rwa [List.take_of_length_le (by rw [HL.out]; omega)] at this)
      obtain ⟨A9, l9, c9, rfl, h9⟩ := HO.out.at
      clear h9
      go_wp2_with fail
      go_ret
      exact ⟨_, _, _, rfl, HO.out, hb⟩
set_option maxHeartbeats 2000000 in
set_option maxRecDepth 100000 in
theorem CopyType_any : ∀ t : Ty, CopyC t := Ty.ind fun k s n ts ih hnd w D row h => by
  obtain ⟨k1, s1, n1, A, l, c, ts1, e, rfl, hk, hn, hs, hT⟩ := h.parts
  cases e
  have HT := Lib.hid hT
  have HK := Lib.hid (show (Lit.int .i64 k).wf = true ∧ (Lit.int .i64 n).wf = true ∧ s.size ≤ maxLen from ⟨hk, hn, hs⟩)
  have HI := Lib.hid (show ∀ (w' : World), TysAt w' D ts A l c → Calls Tryd.prog 54 #[.slice A l c] w' (NewOwn w' ts) from fun w' h' => CopyTypes_of ts ih (by simp only [Ty.nodes] at hnd; omega) A l c w' D h')
  clear h hk hn hs hT ih hnd
  have hb := Below.refl w.heap.size w
  go_enter Tryd.func53, Tryd.ntmps53
  go_upto_region 0 with (fail)
  apply wp_region_lit
  (with_reducible refine wl_box rfl ?_); intro W p hbn hlp hp; replace hb := hb.trans (hbn.mono hb.size); clear hbn; simp only [put_lit, List.set_cons_zero, List.set_cons_succ]
  have lthpq := heap_lt hp; (with_reducible refine wl_all ?_); intro W2 q hbn hlq hq; replace hp := below_look hbn hp; replace hb := hb.trans (hbn.mono hb.size); clear hbn; simp only [put_lit, List.set_cons_zero, List.set_cons_succ]
  have HC := Lib.hid (HI.out W2 (HT.out.old hb))
  go_upto_region 1 with (fail)
  apply wp_region_lit
  (with_reducible refine wl_k ?_ ?_); exact rfl; intro K hK; go_simp; refine hK _ ?_; clear hK K
  (first | ((with_reducible apply wl_oneG); exact rfl; exact rfl; first | exact f0 (by with_reducible assumption) | exact f1 (by with_reducible assumption) | exact f2 (by with_reducible assumption) | exact f3 (by with_reducible assumption) | with_reducible assumption | exact g22 (by with_reducible assumption) | exact g25 (by with_reducible assumption)) | ((with_reducible apply wl_rowG); exact rfl; exact rfl; first | with_reducible assumption | exact RowK.now (by with_reducible assumption) | exact f4 (by with_reducible assumption)))
  (with_reducible refine wl_ck ?_ ?_); exact rfl; intro K hK; go_simp; refine ⟨_, _, ⟨rfl, rfl⟩, hK _ _ ⟨_, HC.out, ?_⟩⟩; clear hK K; rintro e w7 ⟨A7, l7, c7, rfl, hown7, hb7⟩; refine ⟨_, rfl, ?_⟩; simp only [put_lit, List.set_cons_zero, List.set_cons_succ]
  obtain ⟨A7', l7', c7', he7, hta7⟩ := hown7.at
  cases he7
  clear hown7
  have hlp' := heap_lt hp
  have hlq' := heap_lt hq
  have HA := Lib.hid (hta7.weak (D' := fun b => w.heap.size ≤ b ∧ b ≠ p ∧ b ≠ q) fun b (hb : W2.heap.size ≤ b) => ⟨by have := hb; omega, by omega, by omega⟩)
  clear hta7 HC
  replace hp := below_look hb7 hp; replace hq := below_look hb7 hq; replace hb := hb.trans (hb7.mono hb.size); clear hb7
  (with_reducible refine wl_k ?_ ?_); exact rfl; intro K hK; go_simp; refine hK _ ?_; clear hK K
  (with_reducible refine wl_put3 rfl rfl hp ?_); rw [put_noneA]; intro W3 hbx hsz hkx hnx; replace hq := (hkx _ (by omega)).trans hq; replace hb := hbx _ _ (by omega) hb; clear hp; have hp := hnx; clear hnx
  replace HA := Lib.hid (HA.out.mono (fun _ h => h) (fun b h => hkx b h.2.1))
  clear hbx hkx hsz
  go_upto_region 2 with (fail)
  apply wp_region_lit
  (first | ((with_reducible apply wl_oneG); exact rfl; exact rfl; first | exact f0 (by with_reducible assumption) | exact f1 (by with_reducible assumption) | exact f2 (by with_reducible assumption) | exact f3 (by with_reducible assumption) | with_reducible assumption | exact g22 (by with_reducible assumption) | exact g25 (by with_reducible assumption)) | ((with_reducible apply wl_rowG); exact rfl; exact rfl; first | with_reducible assumption | exact RowK.now (by with_reducible assumption) | exact f4 (by with_reducible assumption)))
  (with_reducible refine wl_put rfl rfl hq ?_); rw [put_noneA]; intro W4 hbx hsz hkx hnx; replace hp := (hkx _ (by omega)).trans hp; replace hb := hbx _ _ (by omega) hb; clear hq; have hq := hnx; clear hnx
  replace HA := Lib.hid (HA.out.mono (fun _ h => h) (fun b h => hkx b h.2.2))
  clear hbx hkx hsz
  have HQ := Lib.hid hq
  clear hp hq
  go_wp2_with fail
  exact bodyPost_ret (res24 rfl _ _ q rfl HQ.out) rfl ⟨_, rfl, TyAt.of HK.out.1 HK.out.2.1 HK.out.2.2 (HA.out.weak fun b h => h.1), hb⟩
theorem CopyTypes_any (ts : List Ty) (hnl : nodesL ts ≤ 1000000) (A : Option Addr) (l c : Nat) (w : World) (D : Nat → Prop) (h : TysAt w D ts A l c) :
    Calls Tryd.prog 54 #[.slice A l c] w (NewOwn w ts) := CopyTypes_of ts (fun t _ => CopyType_any t) hnl A l c w D h
end Go.Proofs.YtokmaehefenpmaaDoor
