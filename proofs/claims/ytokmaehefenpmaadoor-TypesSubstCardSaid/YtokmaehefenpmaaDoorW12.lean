/- The program's Subst. -/
import Derived.Test.YtokmaehefenpmaaDoorW5
import Derived.Test.YtokmaehefenpmaaDoorW11
namespace Go.Proofs.YtokmaehefenpmaaDoor
open Go.RowKit Go.Proofs.YtokmaehefenpmaaDoor.Nm
set_option linter.unusedSimpArgs false
theorem ent49 : Enters Tryd.prog 49 := enters_of Tryd.func49 (by kernel_rfl) rfl
theorem selName_node (ns : List ByteArray) (ts : List Ty) (k : Int) (s : ByteArray) (n : Int) (l : List Ty) : selName ns ts (.node k s n l) = if k = 7 then (idx ns s).bind fun i => ts[i]? else none := rfl
set_option maxHeartbeats 4000000 in
set_option maxRecDepth 100000 in
theorem substF_any (ns : List ByteArray) (ts : List Ty) (hnl : ∀ u, u ∈ ts → u.nodes ≤ 1000000) (pn ps : Nat) (An A : Option Addr) (ln cn l c : Nat) (w : World) (hpn : w.heap[pn]? = some (.cells #[.slice An ln cn] 25 (0, 0))) (hps : w.heap[ps]? = some (.cells #[.slice A l c] 22 (0, 0))) (D2 : Nat → Prop) (hn : TxAt w ns An ln cn) (h2 : TysAt w D2 ts A l c) (t : Ty) (D : Nat → Prop) (row : Array Value) (h : TyAt w D t row) :
    Calls Tryd.prog 49 #[.agg row, .pointer (some ⟨pn, 0, none⟩), .pointer (some ⟨ps, 0, none⟩)] w (FPost w (selName ns ts t)) := by
  obtain ⟨k, s, n, A1, l1, c1, us, rfl, rfl, -⟩ := h.parts
  have H2 := Lib.hid h2
  have HN := Lib.hid hn
  have HL := Lib.hid h2.len
  have HNL := Lib.hid hnl
  have hcm := h2.cap
  have hmx := h2.max
  unfold maxLen at hmx
  clear h h2 hnl hn
  have hb := Below.refl w.heap.size w
  go_enter Tryd.func49, Tryd.ntmps49
  go_upto_region 0 with (fail)
  apply wp_region_lit
  have lthpsp := heap_lt hps; have lthpnp := heap_lt hpn; (with_reducible refine wl_box rfl ?_); intro W p hbn hlp hp; replace hps := below_look hbn hps; replace hpn := below_look hbn hpn; replace hb := hb.trans (hbn.mono hb.size); clear hbn; simp only [put_lit, List.set_cons_zero, List.set_cons_succ]
  have lthpsr := heap_lt hps; have lthpnr := heap_lt hpn; have lthpr := heap_lt hp; (with_reducible refine wl_all ?_); intro W2 r hbn hlr hr; replace hps := below_look hbn hps; replace hpn := below_look hbn hpn; replace hp := below_look hbn hp; replace hb := hb.trans (hbn.mono hb.size); clear hbn; simp only [put_lit, List.set_cons_zero, List.set_cons_succ]
  (with_reducible refine wl_k ?_ ?_); exact rfl; intro K hK; go_simp; refine hK _ ?_; clear hK K
  by_cases h1 : k = 7
  · have e1 : (k != 7) = false := by simp [h1]
    have HC := Lib.hid (Index_any ns s An ln cn W2 (HN.out.old hb))
    go_upto_region 1 with (fail)
    apply wp_region_lit
    (with_reducible refine wl_k ?_ ?_); exact rfl; intro K hK; go_simp; refine hK _ ?_; clear hK K
    (first | ((with_reducible apply wl_oneG); exact rfl; exact rfl; first | exact f0 (by with_reducible assumption) | exact f1 (by with_reducible assumption) | exact f2 (by with_reducible assumption) | exact f3 (by with_reducible assumption) | with_reducible assumption | exact g22 (by with_reducible assumption) | exact g25 (by with_reducible assumption)) | ((with_reducible apply wl_rowG); exact rfl; exact rfl; first | with_reducible assumption | exact RowK.now (by with_reducible assumption) | exact f4 (by with_reducible assumption)))
    (with_reducible refine wl_k ?_ ?_); exact rfl; intro K hK; go_simp; refine hK _ ?_; clear hK K
    go_upto_region 3 with (fail)
    cases hi : idx ns s with
    | none =>
      have HC2 : Hid (Calls Tryd.prog 50 #[.slice An ln cn, .string s] W2 fun e w' => e = .returned (.int .i64 (-1)) ∧ Below W2.heap.size W2 w') := Lib.hid (by have := HC.out; unfold idxI at this; rw [hi] at this; exact this)
      have HG : Hid (selName ns ts (.node k s n us) = none) := Lib.hid (by rw [selName_node, if_pos h1, hi]; rfl)
      clear h1 hi HC
      apply wp_region_lit
      (first | ((with_reducible apply wl_oneG); exact rfl; exact rfl; first | exact f0 (by with_reducible assumption) | exact f1 (by with_reducible assumption) | exact f2 (by with_reducible assumption) | exact f3 (by with_reducible assumption) | with_reducible assumption | exact g22 (by with_reducible assumption) | exact g25 (by with_reducible assumption)) | ((with_reducible apply wl_rowG); exact rfl; exact rfl; first | with_reducible assumption | exact RowK.now (by with_reducible assumption) | exact f4 (by with_reducible assumption)))
      (with_reducible refine wl_k ?_ ?_); exact rfl; intro K hK; go_simp; refine hK _ ?_; clear hK K
      (first | ((with_reducible apply wl_oneG); exact rfl; exact rfl; first | exact f0 (by with_reducible assumption) | exact f1 (by with_reducible assumption) | exact f2 (by with_reducible assumption) | exact f3 (by with_reducible assumption) | with_reducible assumption | exact g22 (by with_reducible assumption) | exact g25 (by with_reducible assumption)) | ((with_reducible apply wl_rowG); exact rfl; exact rfl; first | with_reducible assumption | exact RowK.now (by with_reducible assumption) | exact f4 (by with_reducible assumption)))
      (with_reducible refine wl_ck ?_ ?_); exact rfl; intro K hK; go_simp; refine ⟨_, _, ⟨rfl, rfl⟩, hK _ _ ⟨_, HC2.out, ?_⟩⟩; clear hK K; rintro e w6 ⟨rfl, hb6⟩; refine ⟨_, rfl, ?_⟩; simp only [put_lit, List.set_cons_zero, List.set_cons_succ]
      (with_reducible refine wl_k ?_ ?_); exact rfl; intro K hK; go_simp; refine hK _ ?_; clear hK K
      replace hps := below_look hb6 hps; replace hpn := below_look hb6 hpn; replace hp := below_look hb6 hp; replace hr := below_look hb6 hr; replace hb := hb.trans (hb6.mono hb.size); clear hb6
      clear HC2
      go_upto_region 4 with (fail)
      apply wp_region_lit
      (with_reducible refine wl_k ?_ ?_); exact rfl; intro K hK; go_simp; refine hK _ ?_; clear hK K
      (with_reducible refine wl_k ?_ ?_); exact rfl; intro K hK; go_simp; refine hK _ ?_; clear hK K
      (with_reducible refine wl_k ?_ ?_); exact rfl; intro K hK; go_simp; refine hK _ ?_; clear hK K
      (first | ((with_reducible refine wl_skipU ?_ ?_ ?_); exact rfl; exact rfl) | ((with_reducible refine wl_skip ?_ ?_); exact rfl; simp only [put_lit, List.set_cons_zero, List.set_cons_succ]))
      (first | ((with_reducible refine wl_skipU ?_ ?_ ?_); exact rfl; exact rfl) | ((with_reducible refine wl_skip ?_ ?_); exact rfl; simp only [put_lit, List.set_cons_zero, List.set_cons_succ]))
      (first | ((with_reducible refine wl_skipU ?_ ?_ ?_); exact rfl; exact rfl) | ((with_reducible refine wl_skip ?_ ?_); exact rfl; simp only [put_lit, List.set_cons_zero, List.set_cons_succ]))
      (first | ((with_reducible refine wl_skipU ?_ ?_ ?_); exact rfl; exact rfl) | ((with_reducible refine wl_skip ?_ ?_); exact rfl; simp only [put_lit, List.set_cons_zero, List.set_cons_succ]))
      (with_reducible refine wl_k ?_ ?_); exact rfl; intro K hK; go_simp; refine hK _ ?_; clear hK K
      go_upto_region 5 with (fail)
      apply wp_region_lit
      refine wl_val rfl (ex_build 24 _ rfl (L := []) rfl built24) ?_
      simp only [put_lit, List.set_cons_zero, List.set_cons_succ]
      (with_reducible refine wl_put rfl rfl hr ?_); rw [put_noneA]; intro W3 hbx hsz hkx hnx; replace hb := hbx _ _ (by omega) hb; clear hr; have hr := hnx; clear hnx
      clear hbx hkx hsz
      (with_reducible refine wl_k ?_ ?_); exact rfl; intro K hK; go_simp; refine hK _ ?_; clear hK K
      have HQ := Lib.hid hr
      clear hp hr
      go_wp2_with fail
      exact bodyPost_ret (res24t rfl _ _ r rfl rfl HQ.out) rfl ⟨_, by rw [HG.out]; rfl, by rw [HG.out]; exact zero_at _ _, hb⟩
    | some i =>
      have HC2 : Hid (Calls Tryd.prog 50 #[.slice An ln cn, .string s] W2 fun e w' => e = .returned (.int .i64 (i : Int)) ∧ Below W2.heap.size W2 w') := Lib.hid (by have := HC.out; unfold idxI at this; rw [hi] at this; exact this)
      have e3 : ¬ (i : Int) < 0 := by omega
      clear HC
      by_cases h4 : i < l
      · have e4 : ¬ (i : Int) ≥ (l : Int) := by omega
        have e5 : (i : Int) < (l : Int) := by omega
        obtain ⟨b, off, u, row, rfl, -, hu, -⟩ := H2.out.get h4
        have HG : Hid (selName ns ts (.node k s n us) = some u) := Lib.hid (by rw [selName_node, if_pos h1, hi]; exact hu)
        apply wp_region_lit
        (first | ((with_reducible apply wl_oneG); exact rfl; exact rfl; first | exact f0 (by with_reducible assumption) | exact f1 (by with_reducible assumption) | exact f2 (by with_reducible assumption) | exact f3 (by with_reducible assumption) | with_reducible assumption | exact g22 (by with_reducible assumption) | exact g25 (by with_reducible assumption)) | ((with_reducible apply wl_rowG); exact rfl; exact rfl; first | with_reducible assumption | exact RowK.now (by with_reducible assumption) | exact f4 (by with_reducible assumption)))
        (with_reducible refine wl_k ?_ ?_); exact rfl; intro K hK; go_simp; refine hK _ ?_; clear hK K
        (first | ((with_reducible apply wl_oneG); exact rfl; exact rfl; first | exact f0 (by with_reducible assumption) | exact f1 (by with_reducible assumption) | exact f2 (by with_reducible assumption) | exact f3 (by with_reducible assumption) | with_reducible assumption | exact g22 (by with_reducible assumption) | exact g25 (by with_reducible assumption)) | ((with_reducible apply wl_rowG); exact rfl; exact rfl; first | with_reducible assumption | exact RowK.now (by with_reducible assumption) | exact f4 (by with_reducible assumption)))
        (with_reducible refine wl_ck ?_ ?_); exact rfl; intro K hK; go_simp; refine ⟨_, _, ⟨rfl, rfl⟩, hK _ _ ⟨_, HC2.out, ?_⟩⟩; clear hK K; rintro e w6 ⟨rfl, hb6⟩; refine ⟨_, rfl, ?_⟩; simp only [put_lit, List.set_cons_zero, List.set_cons_succ]
        (with_reducible refine wl_k ?_ ?_); exact rfl; intro K hK; go_simp; refine hK _ ?_; clear hK K
        replace hps := below_look hb6 hps; replace hpn := below_look hb6 hpn; replace hp := below_look hb6 hp; replace hr := below_look hb6 hr; replace hb := hb.trans (hb6.mono hb.size); clear hb6
        obtain ⟨row, hrow, hta⟩ := (H2.out.old hb).rowK hu
        have HC := Lib.hid (copied_any u (HNL.out u (List.mem_of_getElem? hu)) w6 D2 row hta)
        clear h1 hi hu hta HC2
        go_upto_region 4 with (fail)
        apply wp_region_lit
        (with_reducible refine wl_k ?_ ?_); exact rfl; intro K hK; go_simp; refine hK _ ?_; clear hK K
        (with_reducible refine wl_k ?_ ?_); exact rfl; intro K hK; go_simp; refine hK _ ?_; clear hK K
        (with_reducible refine wl_k ?_ ?_); exact rfl; intro K hK; go_simp; refine hK _ ?_; clear hK K
        (with_reducible refine wl_k ?_ ?_); exact rfl; intro K hK; go_simp; refine hK _ ?_; clear hK K
        (first | ((with_reducible apply wl_oneG); exact rfl; exact rfl; first | exact f0 (by with_reducible assumption) | exact f1 (by with_reducible assumption) | exact f2 (by with_reducible assumption) | exact f3 (by with_reducible assumption) | with_reducible assumption | exact g22 (by with_reducible assumption) | exact g25 (by with_reducible assumption)) | ((with_reducible apply wl_rowG); exact rfl; exact rfl; first | with_reducible assumption | exact RowK.now (by with_reducible assumption) | exact f4 (by with_reducible assumption)))
        (with_reducible refine wl_k ?_ ?_); exact rfl; intro K hK; go_simp; refine hK _ ?_; clear hK K
        (with_reducible refine wl_k ?_ ?_); exact rfl; intro K hK; go_simp; refine hK _ ?_; clear hK K
        (with_reducible refine wl_k ?_ ?_); exact rfl; intro K hK; go_simp; refine hK _ ?_; clear hK K
        go_upto_region 6 with (fail)
        apply wp_region_lit
        (first | ((with_reducible apply wl_oneG); exact rfl; exact rfl; first | exact f0 (by with_reducible assumption) | exact f1 (by with_reducible assumption) | exact f2 (by with_reducible assumption) | exact f3 (by with_reducible assumption) | with_reducible assumption | exact g22 (by with_reducible assumption) | exact g25 (by with_reducible assumption)) | ((with_reducible apply wl_rowG); exact rfl; exact rfl; first | with_reducible assumption | exact RowK.now (by with_reducible assumption) | exact f4 (by with_reducible assumption)))
        (with_reducible refine wl_k ?_ ?_); exact rfl; intro K hK; go_simp; refine hK _ ?_; clear hK K
        (with_reducible refine wl_k ?_ ?_); exact rfl; intro K hK; go_simp; refine hK _ ?_; clear hK K
        (first | ((with_reducible apply wl_oneG); exact rfl; exact rfl; first | exact f0 (by with_reducible assumption) | exact f1 (by with_reducible assumption) | exact f2 (by with_reducible assumption) | exact f3 (by with_reducible assumption) | with_reducible assumption | exact g22 (by with_reducible assumption) | exact g25 (by with_reducible assumption)) | ((with_reducible apply wl_rowG); exact rfl; exact rfl; first | with_reducible assumption | exact RowK.now (by with_reducible assumption) | exact f4 (by with_reducible assumption)))
        (with_reducible refine wl_ck ?_ ?_); exact rfl; intro K hK; go_simp; refine ⟨_, _, ⟨rfl, rfl⟩, hK _ _ ⟨_, HC.out, ?_⟩⟩; clear hK K; rintro e w7 ⟨row7, rfl, hta7, hb7⟩; refine ⟨_, rfl, ?_⟩; simp only [put_lit, List.set_cons_zero, List.set_cons_succ]
        obtain ⟨k7, s7, n7, A7, l7, c7, ts7, hu7, rfl, -⟩ := hta7.parts
        have hlr' := heap_lt hr
        have hsw := hb.size
        have HA := Lib.hid (hta7.weak (D' := fun b => w.heap.size ≤ b ∧ b ≠ r) fun b (hb : w6.heap.size ≤ b) => ⟨by omega, by omega⟩)
        clear hta7 HC hu7 hp hrow hps hpn
        replace hr := below_look hb7 hr; replace hb := hb.trans (hb7.mono hb.size); clear hb7
        (with_reducible refine wl_put rfl rfl hr ?_); rw [put_noneA]; intro W3 hbx hsz hkx hnx; replace hb := hbx _ _ (by omega) hb; clear hr; have hr := hnx; clear hnx
        replace HA := Lib.hid (HA.out.mono (fun _ h => h) (fun b h => hkx b h.2))
        clear hbx hkx hsz
        (with_reducible refine wl_k ?_ ?_); exact rfl; intro K hK; go_simp; refine hK _ ?_; clear hK K
        have HQ := Lib.hid hr
        clear hr
        go_wp2_with fail
        exact bodyPost_ret (res24t rfl _ _ r rfl rfl HQ.out) rfl ⟨_, by rw [HG.out]; rfl, by rw [HG.out]; exact HA.out.weak fun b h => h.1, hb⟩
      · have e4 : (i : Int) ≥ (l : Int) := by omega
        have HG : Hid (selName ns ts (.node k s n us) = none) := Lib.hid (by rw [selName_node, if_pos h1, hi]; exact List.getElem?_eq_none (by rw [HL.out]; omega))
        clear h1 hi
        apply wp_region_lit
        (first | ((with_reducible apply wl_oneG); exact rfl; exact rfl; first | exact f0 (by with_reducible assumption) | exact f1 (by with_reducible assumption) | exact f2 (by with_reducible assumption) | exact f3 (by with_reducible assumption) | with_reducible assumption | exact g22 (by with_reducible assumption) | exact g25 (by with_reducible assumption)) | ((with_reducible apply wl_rowG); exact rfl; exact rfl; first | with_reducible assumption | exact RowK.now (by with_reducible assumption) | exact f4 (by with_reducible assumption)))
        (with_reducible refine wl_k ?_ ?_); exact rfl; intro K hK; go_simp; refine hK _ ?_; clear hK K
        (first | ((with_reducible apply wl_oneG); exact rfl; exact rfl; first | exact f0 (by with_reducible assumption) | exact f1 (by with_reducible assumption) | exact f2 (by with_reducible assumption) | exact f3 (by with_reducible assumption) | with_reducible assumption | exact g22 (by with_reducible assumption) | exact g25 (by with_reducible assumption)) | ((with_reducible apply wl_rowG); exact rfl; exact rfl; first | with_reducible assumption | exact RowK.now (by with_reducible assumption) | exact f4 (by with_reducible assumption)))
        (with_reducible refine wl_ck ?_ ?_); exact rfl; intro K hK; go_simp; refine ⟨_, _, ⟨rfl, rfl⟩, hK _ _ ⟨_, HC2.out, ?_⟩⟩; clear hK K; rintro e w6 ⟨rfl, hb6⟩; refine ⟨_, rfl, ?_⟩; simp only [put_lit, List.set_cons_zero, List.set_cons_succ]
        (with_reducible refine wl_k ?_ ?_); exact rfl; intro K hK; go_simp; refine hK _ ?_; clear hK K
        replace hps := below_look hb6 hps; replace hpn := below_look hb6 hpn; replace hp := below_look hb6 hp; replace hr := below_look hb6 hr; replace hb := hb.trans (hb6.mono hb.size); clear hb6
        clear HC2
        go_upto_region 4 with (fail)
        apply wp_region_lit
        (with_reducible refine wl_k ?_ ?_); exact rfl; intro K hK; go_simp; refine hK _ ?_; clear hK K
        (with_reducible refine wl_k ?_ ?_); exact rfl; intro K hK; go_simp; refine hK _ ?_; clear hK K
        (with_reducible refine wl_k ?_ ?_); exact rfl; intro K hK; go_simp; refine hK _ ?_; clear hK K
        (with_reducible refine wl_k ?_ ?_); exact rfl; intro K hK; go_simp; refine hK _ ?_; clear hK K
        (first | ((with_reducible apply wl_oneG); exact rfl; exact rfl; first | exact f0 (by with_reducible assumption) | exact f1 (by with_reducible assumption) | exact f2 (by with_reducible assumption) | exact f3 (by with_reducible assumption) | with_reducible assumption | exact g22 (by with_reducible assumption) | exact g25 (by with_reducible assumption)) | ((with_reducible apply wl_rowG); exact rfl; exact rfl; first | with_reducible assumption | exact RowK.now (by with_reducible assumption) | exact f4 (by with_reducible assumption)))
        (with_reducible refine wl_k ?_ ?_); exact rfl; intro K hK; go_simp; refine hK _ ?_; clear hK K
        (with_reducible refine wl_k ?_ ?_); exact rfl; intro K hK; go_simp; refine hK _ ?_; clear hK K
        (with_reducible refine wl_k ?_ ?_); exact rfl; intro K hK; go_simp; refine hK _ ?_; clear hK K
        go_upto_region 5 with (fail)
        apply wp_region_lit
        refine wl_val rfl (ex_build 24 _ rfl (L := []) rfl built24) ?_
        simp only [put_lit, List.set_cons_zero, List.set_cons_succ]
        (with_reducible refine wl_put rfl rfl hr ?_); rw [put_noneA]; intro W3 hbx hsz hkx hnx; replace hb := hbx _ _ (by omega) hb; clear hr; have hr := hnx; clear hnx
        clear hbx hkx hsz
        (with_reducible refine wl_k ?_ ?_); exact rfl; intro K hK; go_simp; refine hK _ ?_; clear hK K
        have HQ := Lib.hid hr
        clear hp hr
        go_wp2_with fail
        exact bodyPost_ret (res24t rfl _ _ r rfl rfl HQ.out) rfl ⟨_, by rw [HG.out]; rfl, by rw [HG.out]; exact zero_at _ _, hb⟩
  · have e1 : (k != 7) = true := by simp [h1]
    have HG : Hid (selName ns ts (.node k s n us) = none) := Lib.hid (by rw [selName_node, if_neg h1])
    clear h1
    go_upto_region 1 with (fail)
    apply wp_region_lit
    (with_reducible refine wl_k ?_ ?_); exact rfl; intro K hK; go_simp; refine hK _ ?_; clear hK K
    (first | ((with_reducible apply wl_oneG); exact rfl; exact rfl; first | exact f0 (by with_reducible assumption) | exact f1 (by with_reducible assumption) | exact f2 (by with_reducible assumption) | exact f3 (by with_reducible assumption) | with_reducible assumption | exact g22 (by with_reducible assumption) | exact g25 (by with_reducible assumption)) | ((with_reducible apply wl_rowG); exact rfl; exact rfl; first | with_reducible assumption | exact RowK.now (by with_reducible assumption) | exact f4 (by with_reducible assumption)))
    (with_reducible refine wl_k ?_ ?_); exact rfl; intro K hK; go_simp; refine hK _ ?_; clear hK K
    go_upto_region 2 with (fail)
    apply wp_region_lit
    refine wl_val rfl (ex_build 24 _ rfl (L := []) rfl built24) ?_
    simp only [put_lit, List.set_cons_zero, List.set_cons_succ]
    (with_reducible refine wl_put rfl rfl hr ?_); rw [put_noneA]; intro W3 hbx hsz hkx hnx; replace hb := hbx _ _ (by omega) hb; clear hr; have hr := hnx; clear hnx
    clear hbx hkx hsz
    (with_reducible refine wl_k ?_ ?_); exact rfl; intro K hK; go_simp; refine hK _ ?_; clear hK K
    have HQ := Lib.hid hr
    clear hp hr
    go_wp2_with fail
    exact bodyPost_ret (res24t rfl _ _ r rfl rfl HQ.out) rfl ⟨_, by rw [HG.out]; rfl, by rw [HG.out]; exact zero_at _ _, hb⟩
theorem fnC_subst (ns : List ByteArray) (ts : List Ty) (hnl : ∀ u, u ∈ ts → u.nodes ≤ 1000000) (pn ps : Nat) (An A : Option Addr) (ln cn l c : Nat) (w : World) (hpn : w.heap[pn]? = some (.cells #[.slice An ln cn] 25 (0, 0))) (hps : w.heap[ps]? = some (.cells #[.slice A l c] 22 (0, 0))) (D2 : Nat → Prop) (hn : TxAt w ns An ln cn) (h2 : TysAt w D2 ts A l c) : FnC 49 #[.pointer (some ⟨pn, 0, none⟩), .pointer (some ⟨ps, 0, none⟩)] (selName ns ts) w :=
  ⟨ent49, fun w' hw t D row h => substF_any ns ts hnl pn ps An A ln cn l c w' (below_look hw hpn) (below_look hw hps) D2 (hn.old hw) (h2.old hw) t D row h⟩
set_option maxHeartbeats 4000000 in
set_option maxRecDepth 100000 in
theorem Subst_any (ns : List ByteArray) (ts : List Ty) (hnl : ∀ u, u ∈ ts → u.nodes ≤ 1000000) (t : Ty) (hnd : t.nodes ≤ 1000000) (w : World) (D D2 : Nat → Prop) (row : Array Value) (h : TyAt w D t row) (An A : Option Addr) (ln cn l c : Nat) (hn : TxAt w ns An ln cn) (h2 : TysAt w D2 ts A l c) :
    Calls Tryd.prog 20 #[.agg row, .slice An ln cn, .slice A l c] w (NewTy w (substTy ns ts t)) := by
  have hmf : ∀ (fn : Fn) (first cap : Array Value) (w : World), (Instr.makeFunc fn first cap).run Tryd.prog w = .ok (.func fn first cap) w := fun _ _ _ _ => rfl
  obtain ⟨k, s, n, A1, l1, c1, us, -, rfl, -⟩ := h.parts
  have HT := Lib.hid h
  have HND := Lib.hid hnd
  have HNL := Lib.hid hnl
  have H2 := Lib.hid h2
  have HN := Lib.hid hn
  clear h hnd hnl h2 hn
  have hb := Below.refl w.heap.size w
  go_enter Tryd.func20, Tryd.ntmps20
  go_upto_region 0 with (fail)
  apply wp_region_lit
  (with_reducible refine wl_box rfl ?_); intro W p hbn hlp hp; replace hb := hb.trans (hbn.mono hb.size); clear hbn; simp only [put_lit, List.set_cons_zero, List.set_cons_succ]
  have lthpq := heap_lt hp; (with_reducible refine wl_box25 rfl ?_); intro W0 q hbn hlq hq; replace hp := below_look hbn hp; replace hb := hb.trans (hbn.mono hb.size); clear hbn; simp only [put_lit, List.set_cons_zero, List.set_cons_succ]
  have lthpo := heap_lt hp; have lthqo := heap_lt hq; (with_reducible refine wl_box22 rfl ?_); intro W1 o hbn hlo ho; replace hp := below_look hbn hp; replace hq := below_look hbn hq; replace hb := hb.trans (hbn.mono hb.size); clear hbn; simp only [put_lit, List.set_cons_zero, List.set_cons_succ]
  have lthpr := heap_lt hp; have lthqr := heap_lt hq; have lthor := heap_lt ho; (with_reducible refine wl_all ?_); intro W2 r hbn hlr hr; replace hp := below_look hbn hp; replace hq := below_look hbn hq; replace ho := below_look hbn ho; replace hb := hb.trans (hbn.mono hb.size); clear hbn; simp only [put_lit, List.set_cons_zero, List.set_cons_succ]
  have HC : Hid (Calls Tryd.prog 48 #[.agg (cell4 k s n A1 l1 c1), .func (.func 49) #[] #[.pointer (some ⟨q, 0, none⟩), .pointer (some ⟨o, 0, none⟩)]] W2 (NewTy W2 (substTy ns ts t))) := Lib.hid (replaced_any (selName ns ts) t HND.out 49 _ W2 (fnC_subst ns ts HNL.out q o An A ln cn l c W2 hq ho D2 (HN.out.old hb) (H2.out.old hb)) W2 (Below.refl _ _) D _ (HT.out.old hb))
  go_upto_region 1 with (fail)
  apply wp_region_lit
  (first | ((with_reducible apply wl_oneG); exact rfl; exact rfl; first | exact f0 (by with_reducible assumption) | exact f1 (by with_reducible assumption) | exact f2 (by with_reducible assumption) | exact f3 (by with_reducible assumption) | with_reducible assumption | exact g22 (by with_reducible assumption) | exact g25 (by with_reducible assumption)) | ((with_reducible apply wl_rowG); exact rfl; exact rfl; first | with_reducible assumption | exact RowK.now (by with_reducible assumption) | exact f4 (by with_reducible assumption)))
  (with_reducible refine wl_k ?_ ?_); exact rfl; intro K hK; go_simp; refine hK _ ?_; clear hK K
  (with_reducible refine wl_ck ?_ ?_); exact rfl; intro K hK; go_simp; refine ⟨_, _, ⟨rfl, rfl⟩, hK _ _ ⟨_, HC.out, ?_⟩⟩; clear hK K; rintro e w7 ⟨row7, rfl, hta7, hb7⟩; refine ⟨_, rfl, ?_⟩; simp only [put_lit, List.set_cons_zero, List.set_cons_succ]
  obtain ⟨k7, s7, n7, A7, l7, c7, ts7, hu7, rfl, -⟩ := hta7.parts
  have hlr' := heap_lt hr
  have HA := Lib.hid (hta7.weak (D' := fun b => w.heap.size ≤ b ∧ b ≠ r) fun b (hb : W2.heap.size ≤ b) => ⟨by have := hb; omega, by omega⟩)
  clear hta7 HC hu7 hp hq ho
  replace hr := below_look hb7 hr; replace hb := hb.trans (hb7.mono hb.size); clear hb7
  (with_reducible refine wl_put rfl rfl hr ?_); rw [put_noneA]; intro W3 hbx hsz hkx hnx; replace hb := hbx _ _ (by omega) hb; clear hr; have hr := hnx; clear hnx
  replace HA := Lib.hid (HA.out.mono (fun _ h => h) (fun b h => hkx b h.2))
  clear hbx hkx hsz
  have HQ := Lib.hid hr
  clear hr
  go_wp2_with fail
  exact bodyPost_ret (res24 rfl _ _ r rfl HQ.out) rfl ⟨_, rfl, HA.out.weak fun b h => h.1, hb⟩
end Go.Proofs.YtokmaehefenpmaaDoor
