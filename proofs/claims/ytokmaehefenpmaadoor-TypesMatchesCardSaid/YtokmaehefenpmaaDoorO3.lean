/- The order of trees: Less, Equal. -/
import Derived.Test.YtokmaehefenpmaaDoorO2
namespace Go.Proofs.YtokmaehefenpmaaDoor
open Go.RowKit Go.Proofs.YtokmaehefenpmaaDoor.Nm
set_option linter.unusedSimpArgs false
def lessTy (t u : Ty) : Bool := decide (cmpTy t u = .lt)
def sameTy (t u : Ty) : Bool := decide (cmpTy t u = .eq)
theorem sg_less (t u : Ty) : decide (sg (cmpTy t u) < 0) = lessTy t u := by
  unfold lessTy
  cases cmpTy t u <;> rfl
theorem sg_same (t u : Ty) : (sg (cmpTy t u) == 0) = sameTy t u := by
  unfold sameTy
  cases cmpTy t u <;> rfl
set_option maxHeartbeats 2000000 in
set_option maxRecDepth 100000 in
theorem Less_any (t u : Ty) (w : World) (D D' : Nat → Prop) (row row' : Array Value) (h : TyAt w D t row) (h' : TyAt w D' u row') :
    Calls Tryd.prog 26 #[.agg row, .agg row'] w fun e w' => e = .returned (.bool (lessTy t u)) ∧ Below w.heap.size w w' := by
  have HC := Lib.hid h
  have HC2 := Lib.hid h'
  obtain ⟨k, s, n, A, l, c, ts, e, rfl, -⟩ := h.parts
  obtain ⟨k', s', n', A', l', c', us, e', rfl, -⟩ := h'.parts
  clear h h' e e'
  have hb := Below.refl w.heap.size w
  go_enter Tryd.func26, Tryd.ntmps26
  go_upto_region 0 with (fail)
  apply wp_region_lit
  (with_reducible refine wl_box rfl ?_); intro W p hbn hlp hp; replace hb := hb.trans (hbn.mono hb.size); clear hbn; simp only [put_lit, List.set_cons_zero, List.set_cons_succ]
  have lthpq := heap_lt hp; (with_reducible refine wl_box rfl ?_); intro W2 q hbn hlq hq; replace hp := below_look hbn hp; replace hb := hb.trans (hbn.mono hb.size); clear hbn; simp only [put_lit, List.set_cons_zero, List.set_cons_succ]
  (with_reducible refine wl_k ?_ ?_); exact rfl; intro K hK; go_simp; refine hK _ ?_; clear hK K
  go_upto_region 1 with (fail)
  have HD := Lib.hid (compare_any t u W2 D D' _ _ (HC.out.old hb) (HC2.out.old hb))
  apply wp_region_lit
  (first | ((with_reducible apply wl_oneG); exact rfl; exact rfl; first | exact f0 (by with_reducible assumption) | exact f1 (by with_reducible assumption) | exact f2 (by with_reducible assumption) | exact f3 (by with_reducible assumption) | with_reducible assumption | exact g22 (by with_reducible assumption) | exact g25 (by with_reducible assumption)) | ((with_reducible apply wl_rowG); exact rfl; exact rfl; first | with_reducible assumption | exact RowK.now (by with_reducible assumption) | exact f4 (by with_reducible assumption)))
  (first | ((with_reducible apply wl_oneG); exact rfl; exact rfl; first | exact f0 (by with_reducible assumption) | exact f1 (by with_reducible assumption) | exact f2 (by with_reducible assumption) | exact f3 (by with_reducible assumption) | with_reducible assumption | exact g22 (by with_reducible assumption) | exact g25 (by with_reducible assumption)) | ((with_reducible apply wl_rowG); exact rfl; exact rfl; first | with_reducible assumption | exact RowK.now (by with_reducible assumption) | exact f4 (by with_reducible assumption)))
  (with_reducible refine wl_ck ?_ ?_); exact rfl; intro K hK; go_simp; refine ⟨_, _, ⟨rfl, rfl⟩, hK _ _ ⟨_, HD.out, ?_⟩⟩; clear hK K; rintro e w7 ⟨rfl, hb7⟩; refine ⟨_, rfl, ?_⟩; simp only [put_lit, List.set_cons_zero, List.set_cons_succ]
  (with_reducible refine wl_k ?_ ?_); exact rfl; intro K hK; go_simp; refine hK _ ?_; clear hK K
  (with_reducible refine wl_k ?_ ?_); exact rfl; intro K hK; go_simp; refine hK _ ?_; clear hK K
  replace hb := hb.trans (hb7.mono hb.size)
  clear hb7 HD hp hq HC HC2
  go_wp2_with fail
  go_ret
  exact ⟨by rw [← sg_less]; rfl, hb⟩
set_option maxHeartbeats 2000000 in
set_option maxRecDepth 100000 in
theorem Equal_any (t u : Ty) (w : World) (D D' : Nat → Prop) (row row' : Array Value) (h : TyAt w D t row) (h' : TyAt w D' u row') :
    Calls Tryd.prog 27 #[.agg row, .agg row'] w fun e w' => e = .returned (.bool (sameTy t u)) ∧ Below w.heap.size w w' := by
  have HC := Lib.hid h
  have HC2 := Lib.hid h'
  obtain ⟨k, s, n, A, l, c, ts, e, rfl, -⟩ := h.parts
  obtain ⟨k', s', n', A', l', c', us, e', rfl, -⟩ := h'.parts
  clear h h' e e'
  have hb := Below.refl w.heap.size w
  go_enter Tryd.func27, Tryd.ntmps27
  go_upto_region 0 with (fail)
  apply wp_region_lit
  (with_reducible refine wl_box rfl ?_); intro W p hbn hlp hp; replace hb := hb.trans (hbn.mono hb.size); clear hbn; simp only [put_lit, List.set_cons_zero, List.set_cons_succ]
  have lthpq := heap_lt hp; (with_reducible refine wl_box rfl ?_); intro W2 q hbn hlq hq; replace hp := below_look hbn hp; replace hb := hb.trans (hbn.mono hb.size); clear hbn; simp only [put_lit, List.set_cons_zero, List.set_cons_succ]
  (with_reducible refine wl_k ?_ ?_); exact rfl; intro K hK; go_simp; refine hK _ ?_; clear hK K
  go_upto_region 1 with (fail)
  have HD := Lib.hid (compare_any t u W2 D D' _ _ (HC.out.old hb) (HC2.out.old hb))
  apply wp_region_lit
  (first | ((with_reducible apply wl_oneG); exact rfl; exact rfl; first | exact f0 (by with_reducible assumption) | exact f1 (by with_reducible assumption) | exact f2 (by with_reducible assumption) | exact f3 (by with_reducible assumption) | with_reducible assumption | exact g22 (by with_reducible assumption) | exact g25 (by with_reducible assumption)) | ((with_reducible apply wl_rowG); exact rfl; exact rfl; first | with_reducible assumption | exact RowK.now (by with_reducible assumption) | exact f4 (by with_reducible assumption)))
  (first | ((with_reducible apply wl_oneG); exact rfl; exact rfl; first | exact f0 (by with_reducible assumption) | exact f1 (by with_reducible assumption) | exact f2 (by with_reducible assumption) | exact f3 (by with_reducible assumption) | with_reducible assumption | exact g22 (by with_reducible assumption) | exact g25 (by with_reducible assumption)) | ((with_reducible apply wl_rowG); exact rfl; exact rfl; first | with_reducible assumption | exact RowK.now (by with_reducible assumption) | exact f4 (by with_reducible assumption)))
  (with_reducible refine wl_ck ?_ ?_); exact rfl; intro K hK; go_simp; refine ⟨_, _, ⟨rfl, rfl⟩, hK _ _ ⟨_, HD.out, ?_⟩⟩; clear hK K; rintro e w7 ⟨rfl, hb7⟩; refine ⟨_, rfl, ?_⟩; simp only [put_lit, List.set_cons_zero, List.set_cons_succ]
  (with_reducible refine wl_k ?_ ?_); exact rfl; intro K hK; go_simp; refine hK _ ?_; clear hK K
  (with_reducible refine wl_k ?_ ?_); exact rfl; intro K hK; go_simp; refine hK _ ?_; clear hK K
  replace hb := hb.trans (hb7.mono hb.size)
  clear hb7 HD hp hq HC HC2
  go_wp2_with fail
  go_ret
  exact ⟨by rw [← sg_same]; rfl, hb⟩
end Go.Proofs.YtokmaehefenpmaaDoor
