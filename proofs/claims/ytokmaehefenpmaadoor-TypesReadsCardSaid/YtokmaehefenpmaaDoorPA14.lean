/- The document's Spelled: the text of any open tree. -/
import Derived.Test.YtokmaehefenpmaaDoorPA13
namespace Go.Proofs.YtokmaehefenpmaaDoor
open Go.RowKit Go.Proofs.YtokmaehefenpmaaDoor.Nm
set_option linter.unusedSimpArgs false
set_option maxHeartbeats 2000000 in
set_option maxRecDepth 100000 in
theorem spel_1 (s : ByteArray) (n : Int) (ts : List Ty) (htx : txtT (.node 1 s n ts) = [73, 110, 116]) : SpelC (.node 1 s n ts) := by
  intro w D row h
  obtain ⟨k1, s1, n1, A, l, c, ts1, e, rfl, -, -, -, hT⟩ := h.parts
  cases e
  have HT := Lib.hid hT
  have HL := Lib.hid hT.len
  have hcm := hT.cap
  have hmx := hT.max
  unfold maxLen at hmx
  clear hT h
  have hb := Below.refl w.heap.size w
  refine ⟨⟨#[73, 110, 116]⟩, by rw [htx], ?_⟩
  clear htx
  go_enter Tryd.func62, Tryd.ntmps62
  go_upto_region 0 with (fail)
  apply wp_region_lit
  (with_reducible refine wl_box rfl ?_); intro W p hbn hlp hp; replace hb := hb.trans (hbn.mono hb.size); clear hbn; simp only [put_lit, List.set_cons_zero, List.set_cons_succ]
  (with_reducible refine wl_k ?_ ?_); exact rfl; intro K hK; go_simp; refine hK _ ?_; clear hK K
  go_upto_region 1 with (fail)
  apply wp_region_lit
  (with_reducible refine wl_k ?_ ?_); exact rfl; intro K hK; go_simp; refine hK _ ?_; clear hK K
  (first | ((with_reducible apply wl_oneG); exact rfl; exact rfl; first | exact f0 (by with_reducible assumption) | exact f1 (by with_reducible assumption) | exact f2 (by with_reducible assumption) | exact f3 (by with_reducible assumption) | with_reducible assumption | exact g22 (by with_reducible assumption) | exact g25 (by with_reducible assumption)) | ((with_reducible apply wl_rowG); exact rfl; exact rfl; first | with_reducible assumption | exact RowK.now (by with_reducible assumption) | exact f4 (by with_reducible assumption)))
  clear hp
  go_wp2_with fail
  go_ret
  exact ⟨rfl, hb⟩
set_option maxHeartbeats 2000000 in
set_option maxRecDepth 100000 in
theorem spel_2 (s : ByteArray) (n : Int) (ts : List Ty) (htx : txtT (.node 2 s n ts) = [66, 111, 111, 108]) : SpelC (.node 2 s n ts) := by
  intro w D row h
  obtain ⟨k1, s1, n1, A, l, c, ts1, e, rfl, -, -, -, hT⟩ := h.parts
  cases e
  have HT := Lib.hid hT
  have HL := Lib.hid hT.len
  have hcm := hT.cap
  have hmx := hT.max
  unfold maxLen at hmx
  clear hT h
  have hb := Below.refl w.heap.size w
  refine ⟨⟨#[66, 111, 111, 108]⟩, by rw [htx], ?_⟩
  clear htx
  go_enter Tryd.func62, Tryd.ntmps62
  go_upto_region 0 with (fail)
  apply wp_region_lit
  (with_reducible refine wl_box rfl ?_); intro W p hbn hlp hp; replace hb := hb.trans (hbn.mono hb.size); clear hbn; simp only [put_lit, List.set_cons_zero, List.set_cons_succ]
  (with_reducible refine wl_k ?_ ?_); exact rfl; intro K hK; go_simp; refine hK _ ?_; clear hK K
  go_upto_region 1 with (fail)
  apply wp_region_lit
  (with_reducible refine wl_k ?_ ?_); exact rfl; intro K hK; go_simp; refine hK _ ?_; clear hK K
  (first | ((with_reducible apply wl_oneG); exact rfl; exact rfl; first | exact f0 (by with_reducible assumption) | exact f1 (by with_reducible assumption) | exact f2 (by with_reducible assumption) | exact f3 (by with_reducible assumption) | with_reducible assumption | exact g22 (by with_reducible assumption) | exact g25 (by with_reducible assumption)) | ((with_reducible apply wl_rowG); exact rfl; exact rfl; first | with_reducible assumption | exact RowK.now (by with_reducible assumption) | exact f4 (by with_reducible assumption)))
  clear hp
  go_wp2_with fail
  go_ret
  exact ⟨rfl, hb⟩
set_option maxHeartbeats 2000000 in
set_option maxRecDepth 100000 in
theorem spel_3 (s : ByteArray) (n : Int) (ts : List Ty) (htx : txtT (.node 3 s n ts) = [84, 101, 120, 116]) : SpelC (.node 3 s n ts) := by
  intro w D row h
  obtain ⟨k1, s1, n1, A, l, c, ts1, e, rfl, -, -, -, hT⟩ := h.parts
  cases e
  have HT := Lib.hid hT
  have HL := Lib.hid hT.len
  have hcm := hT.cap
  have hmx := hT.max
  unfold maxLen at hmx
  clear hT h
  have hb := Below.refl w.heap.size w
  refine ⟨⟨#[84, 101, 120, 116]⟩, by rw [htx], ?_⟩
  clear htx
  go_enter Tryd.func62, Tryd.ntmps62
  go_upto_region 0 with (fail)
  apply wp_region_lit
  (with_reducible refine wl_box rfl ?_); intro W p hbn hlp hp; replace hb := hb.trans (hbn.mono hb.size); clear hbn; simp only [put_lit, List.set_cons_zero, List.set_cons_succ]
  (with_reducible refine wl_k ?_ ?_); exact rfl; intro K hK; go_simp; refine hK _ ?_; clear hK K
  go_upto_region 1 with (fail)
  apply wp_region_lit
  (with_reducible refine wl_k ?_ ?_); exact rfl; intro K hK; go_simp; refine hK _ ?_; clear hK K
  (first | ((with_reducible apply wl_oneG); exact rfl; exact rfl; first | exact f0 (by with_reducible assumption) | exact f1 (by with_reducible assumption) | exact f2 (by with_reducible assumption) | exact f3 (by with_reducible assumption) | with_reducible assumption | exact g22 (by with_reducible assumption) | exact g25 (by with_reducible assumption)) | ((with_reducible apply wl_rowG); exact rfl; exact rfl; first | with_reducible assumption | exact RowK.now (by with_reducible assumption) | exact f4 (by with_reducible assumption)))
  clear hp
  go_wp2_with fail
  go_ret
  exact ⟨rfl, hb⟩
set_option maxHeartbeats 2000000 in
set_option maxRecDepth 100000 in
theorem spel_4 (s : ByteArray) (n : Int) (ts : List Ty) (htx : txtT (.node 4 s n ts) = [85, 110, 105, 116]) : SpelC (.node 4 s n ts) := by
  intro w D row h
  obtain ⟨k1, s1, n1, A, l, c, ts1, e, rfl, -, -, -, hT⟩ := h.parts
  cases e
  have HT := Lib.hid hT
  have HL := Lib.hid hT.len
  have hcm := hT.cap
  have hmx := hT.max
  unfold maxLen at hmx
  clear hT h
  have hb := Below.refl w.heap.size w
  refine ⟨⟨#[85, 110, 105, 116]⟩, by rw [htx], ?_⟩
  clear htx
  go_enter Tryd.func62, Tryd.ntmps62
  go_upto_region 0 with (fail)
  apply wp_region_lit
  (with_reducible refine wl_box rfl ?_); intro W p hbn hlp hp; replace hb := hb.trans (hbn.mono hb.size); clear hbn; simp only [put_lit, List.set_cons_zero, List.set_cons_succ]
  (with_reducible refine wl_k ?_ ?_); exact rfl; intro K hK; go_simp; refine hK _ ?_; clear hK K
  go_upto_region 1 with (fail)
  apply wp_region_lit
  (with_reducible refine wl_k ?_ ?_); exact rfl; intro K hK; go_simp; refine hK _ ?_; clear hK K
  (first | ((with_reducible apply wl_oneG); exact rfl; exact rfl; first | exact f0 (by with_reducible assumption) | exact f1 (by with_reducible assumption) | exact f2 (by with_reducible assumption) | exact f3 (by with_reducible assumption) | with_reducible assumption | exact g22 (by with_reducible assumption) | exact g25 (by with_reducible assumption)) | ((with_reducible apply wl_rowG); exact rfl; exact rfl; first | with_reducible assumption | exact RowK.now (by with_reducible assumption) | exact f4 (by with_reducible assumption)))
  clear hp
  go_wp2_with fail
  go_ret
  exact ⟨rfl, hb⟩
set_option maxHeartbeats 2000000 in
set_option maxRecDepth 100000 in
theorem spel_arr (s : ByteArray) (n : Int) (ts : List Ty) (hC : ∀ t, t ∈ ts → SpelC t) (hlen : (txtSep true ts).length ≤ 1000000) (htx : txtT (.node 5 s n ts) = [65, 114, 114, 97, 121, 60] ++ txtSep true ts ++ [62]) : SpelC (.node 5 s n ts) := by
  intro w D row h
  obtain ⟨k1, s1, n1, A, l, c, ts1, e, rfl, -, -, -, hT⟩ := h.parts
  cases e
  have HT := Lib.hid hT
  have HL := Lib.hid hT.len
  have hcm := hT.cap
  have hmx := hT.max
  unfold maxLen at hmx
  clear hT h
  have hb := Below.refl w.heap.size w
  have HLX := Lib.hid fun W (hb : Below w.heap.size w W) => listI_any ts hC (by omega) W D A l c (HT.out.old hb)
  clear hC
  suffices ∃ x : ByteArray, x.data.toList = txtSep true ts ∧ Calls Tryd.prog 62 #[.agg (cell4 5 s n A l c)] w fun e w' => e = .returned (.string ((⟨#[65, 114, 114, 97, 121, 60]⟩ ++ x) ++ ⟨#[62]⟩)) ∧ Below w.heap.size w w' by
    obtain ⟨x, hx, h⟩ := this
    exact ⟨_, by rw [str_cat, str_cat, hx, htx], h⟩
  clear htx
  refine ⟨⟨(txtSep true ts).toArray⟩, by simp, ?_⟩
  have hsx : (⟨(txtSep true ts).toArray⟩ : ByteArray).size ≤ 1000000 := by rw [str_size]; simpa using hlen
  obtain ⟨x, hx0⟩ : ∃ x : ByteArray, x = ⟨(txtSep true ts).toArray⟩ := ⟨_, rfl⟩
  rw [← hx0] at hsx ⊢
  have HX0 := Lib.hid hx0
  clear hx0 hlen
  have hcat0 : ¬ 9223372036854775807 < 6 + x.size := by omega
  have hcat : ¬ 9223372036854775807 < 6 + x.size + 1 := by omega
  go_enter Tryd.func62, Tryd.ntmps62
  go_upto_region 0 with (fail)
  apply wp_region_lit
  (with_reducible refine wl_box rfl ?_); intro W p hbn hlp hp; replace hb := hb.trans (hbn.mono hb.size); clear hbn; simp only [put_lit, List.set_cons_zero, List.set_cons_succ]
  (with_reducible refine wl_k ?_ ?_); exact rfl; intro K hK; go_simp; refine hK _ ?_; clear hK K
  go_upto_region 1 with (fail)
  apply wp_region_lit
  (with_reducible refine wl_k ?_ ?_); exact rfl; intro K hK; go_simp; refine hK _ ?_; clear hK K
  (first | ((with_reducible apply wl_oneG); exact rfl; exact rfl; first | exact f0 (by with_reducible assumption) | exact f1 (by with_reducible assumption) | exact f2 (by with_reducible assumption) | exact f3 (by with_reducible assumption) | with_reducible assumption | exact g22 (by with_reducible assumption) | exact g25 (by with_reducible assumption)) | ((with_reducible apply wl_rowG); exact rfl; exact rfl; first | with_reducible assumption | exact RowK.now (by with_reducible assumption) | exact f4 (by with_reducible assumption)))
  obtain ⟨y, hy, hCy⟩ := HLX.out W hb
  obtain rfl : y = x := by rw [HX0.out]; exact str_eq hy
  have HC := Lib.hid hCy
  clear hCy hy HLX
  go_upto_region 11 with (fail)
  apply wp_region_lit
  (with_reducible refine wl_k ?_ ?_); exact rfl; intro K hK; go_simp; refine hK _ ?_; clear hK K
  (first | ((with_reducible apply wl_oneG); exact rfl; exact rfl; first | exact f0 (by with_reducible assumption) | exact f1 (by with_reducible assumption) | exact f2 (by with_reducible assumption) | exact f3 (by with_reducible assumption) | with_reducible assumption | exact g22 (by with_reducible assumption) | exact g25 (by with_reducible assumption)) | ((with_reducible apply wl_rowG); exact rfl; exact rfl; first | with_reducible assumption | exact RowK.now (by with_reducible assumption) | exact f4 (by with_reducible assumption)))
  (with_reducible refine wl_ck ?_ ?_); exact rfl; intro K hK; go_simp; refine ⟨_, _, ⟨rfl, rfl⟩, hK _ _ ⟨_, HC.out, ?_⟩⟩; clear hK K; rintro e w7 ⟨rfl, hb7⟩; refine ⟨_, rfl, ?_⟩; simp only [put_lit, List.set_cons_zero, List.set_cons_succ]
  (with_reducible refine wl_k ?_ ?_); exact rfl; intro K hK; go_simp; refine hK _ ?_; clear hK K
  (with_reducible refine wl_k ?_ ?_); exact rfl; intro K hK; go_simp; refine hK _ ?_; clear hK K
  (with_reducible refine wl_k ?_ ?_); exact rfl; intro K hK; go_simp; refine hK _ ?_; clear hK K
  replace hb := hb.trans (hb7.mono hb.size); clear hb7
  clear hp HC hcat0 hcat
  go_wp2_with fail
  go_ret
  exact ⟨rfl, hb⟩
set_option maxHeartbeats 2000000 in
set_option maxRecDepth 100000 in
theorem spel_weak (s : ByteArray) (n : Int) (ts : List Ty) (hC : ∀ t, t ∈ ts → SpelC t) (hlen : (txtSep true ts).length ≤ 1000000) (htx : txtT (.node 11 s n ts) = [87, 101, 97, 107, 60] ++ txtSep true ts ++ [62]) : SpelC (.node 11 s n ts) := by
  intro w D row h
  obtain ⟨k1, s1, n1, A, l, c, ts1, e, rfl, -, -, -, hT⟩ := h.parts
  cases e
  have HT := Lib.hid hT
  have HL := Lib.hid hT.len
  have hcm := hT.cap
  have hmx := hT.max
  unfold maxLen at hmx
  clear hT h
  have hb := Below.refl w.heap.size w
  have HLX := Lib.hid fun W (hb : Below w.heap.size w W) => listI_any ts hC (by omega) W D A l c (HT.out.old hb)
  clear hC
  suffices ∃ x : ByteArray, x.data.toList = txtSep true ts ∧ Calls Tryd.prog 62 #[.agg (cell4 11 s n A l c)] w fun e w' => e = .returned (.string ((⟨#[87, 101, 97, 107, 60]⟩ ++ x) ++ ⟨#[62]⟩)) ∧ Below w.heap.size w w' by
    obtain ⟨x, hx, h⟩ := this
    exact ⟨_, by rw [str_cat, str_cat, hx, htx], h⟩
  clear htx
  refine ⟨⟨(txtSep true ts).toArray⟩, by simp, ?_⟩
  have hsx : (⟨(txtSep true ts).toArray⟩ : ByteArray).size ≤ 1000000 := by rw [str_size]; simpa using hlen
  obtain ⟨x, hx0⟩ : ∃ x : ByteArray, x = ⟨(txtSep true ts).toArray⟩ := ⟨_, rfl⟩
  rw [← hx0] at hsx ⊢
  have HX0 := Lib.hid hx0
  clear hx0 hlen
  have hcat0 : ¬ 9223372036854775807 < 5 + x.size := by omega
  have hcat : ¬ 9223372036854775807 < 5 + x.size + 1 := by omega
  go_enter Tryd.func62, Tryd.ntmps62
  go_upto_region 0 with (fail)
  apply wp_region_lit
  (with_reducible refine wl_box rfl ?_); intro W p hbn hlp hp; replace hb := hb.trans (hbn.mono hb.size); clear hbn; simp only [put_lit, List.set_cons_zero, List.set_cons_succ]
  (with_reducible refine wl_k ?_ ?_); exact rfl; intro K hK; go_simp; refine hK _ ?_; clear hK K
  go_upto_region 1 with (fail)
  apply wp_region_lit
  (with_reducible refine wl_k ?_ ?_); exact rfl; intro K hK; go_simp; refine hK _ ?_; clear hK K
  (first | ((with_reducible apply wl_oneG); exact rfl; exact rfl; first | exact f0 (by with_reducible assumption) | exact f1 (by with_reducible assumption) | exact f2 (by with_reducible assumption) | exact f3 (by with_reducible assumption) | with_reducible assumption | exact g22 (by with_reducible assumption) | exact g25 (by with_reducible assumption)) | ((with_reducible apply wl_rowG); exact rfl; exact rfl; first | with_reducible assumption | exact RowK.now (by with_reducible assumption) | exact f4 (by with_reducible assumption)))
  obtain ⟨y, hy, hCy⟩ := HLX.out W hb
  obtain rfl : y = x := by rw [HX0.out]; exact str_eq hy
  have HC := Lib.hid hCy
  clear hCy hy HLX
  go_upto_region 13 with (fail)
  apply wp_region_lit
  (with_reducible refine wl_k ?_ ?_); exact rfl; intro K hK; go_simp; refine hK _ ?_; clear hK K
  (first | ((with_reducible apply wl_oneG); exact rfl; exact rfl; first | exact f0 (by with_reducible assumption) | exact f1 (by with_reducible assumption) | exact f2 (by with_reducible assumption) | exact f3 (by with_reducible assumption) | with_reducible assumption | exact g22 (by with_reducible assumption) | exact g25 (by with_reducible assumption)) | ((with_reducible apply wl_rowG); exact rfl; exact rfl; first | with_reducible assumption | exact RowK.now (by with_reducible assumption) | exact f4 (by with_reducible assumption)))
  (with_reducible refine wl_ck ?_ ?_); exact rfl; intro K hK; go_simp; refine ⟨_, _, ⟨rfl, rfl⟩, hK _ _ ⟨_, HC.out, ?_⟩⟩; clear hK K; rintro e w7 ⟨rfl, hb7⟩; refine ⟨_, rfl, ?_⟩; simp only [put_lit, List.set_cons_zero, List.set_cons_succ]
  (with_reducible refine wl_k ?_ ?_); exact rfl; intro K hK; go_simp; refine hK _ ?_; clear hK K
  (with_reducible refine wl_k ?_ ?_); exact rfl; intro K hK; go_simp; refine hK _ ?_; clear hK K
  (with_reducible refine wl_k ?_ ?_); exact rfl; intro K hK; go_simp; refine hK _ ?_; clear hK K
  replace hb := hb.trans (hb7.mono hb.size); clear hb7
  clear hp HC hcat0 hcat
  go_wp2_with fail
  go_ret
  exact ⟨rfl, hb⟩
set_option maxHeartbeats 2000000 in
set_option maxRecDepth 100000 in
theorem spel_nom0 (s : ByteArray) (n : Int) (htx : txtT (.node 6 s n []) = s.data.toList) : SpelC (.node 6 s n []) := by
  intro w D row h
  obtain ⟨k1, s1, n1, A, l, c, ts1, e, rfl, -, -, -, hT⟩ := h.parts
  cases e
  have HT := Lib.hid hT
  have HL := Lib.hid hT.len
  have hcm := hT.cap
  have hmx := hT.max
  unfold maxLen at hmx
  clear hT h
  have hb := Below.refl w.heap.size w
  refine ⟨s, htx.symm, ?_⟩
  obtain rfl : l = 0 := by have := HL.out; simp at this; omega
  clear htx
  go_enter Tryd.func62, Tryd.ntmps62
  go_upto_region 0 with (fail)
  apply wp_region_lit
  (with_reducible refine wl_box rfl ?_); intro W p hbn hlp hp; replace hb := hb.trans (hbn.mono hb.size); clear hbn; simp only [put_lit, List.set_cons_zero, List.set_cons_succ]
  (with_reducible refine wl_k ?_ ?_); exact rfl; intro K hK; go_simp; refine hK _ ?_; clear hK K
  go_upto_region 1 with (fail)
  apply wp_region_lit
  (with_reducible refine wl_k ?_ ?_); exact rfl; intro K hK; go_simp; refine hK _ ?_; clear hK K
  (first | ((with_reducible apply wl_oneG); exact rfl; exact rfl; first | exact f0 (by with_reducible assumption) | exact f1 (by with_reducible assumption) | exact f2 (by with_reducible assumption) | exact f3 (by with_reducible assumption) | with_reducible assumption | exact g22 (by with_reducible assumption) | exact g25 (by with_reducible assumption)) | ((with_reducible apply wl_rowG); exact rfl; exact rfl; first | with_reducible assumption | exact RowK.now (by with_reducible assumption) | exact f4 (by with_reducible assumption)))
  go_upto_region 15 with (fail)
  apply wp_region_lit
  (with_reducible refine wl_k ?_ ?_); exact rfl; intro K hK; go_simp; refine hK _ ?_; clear hK K
  (first | ((with_reducible apply wl_oneG); exact rfl; exact rfl; first | exact f0 (by with_reducible assumption) | exact f1 (by with_reducible assumption) | exact f2 (by with_reducible assumption) | exact f3 (by with_reducible assumption) | with_reducible assumption | exact g22 (by with_reducible assumption) | exact g25 (by with_reducible assumption)) | ((with_reducible apply wl_rowG); exact rfl; exact rfl; first | with_reducible assumption | exact RowK.now (by with_reducible assumption) | exact f4 (by with_reducible assumption)))
  (with_reducible refine wl_k ?_ ?_); exact rfl; intro K hK; go_simp; refine hK _ ?_; clear hK K
  (with_reducible refine wl_k ?_ ?_); exact rfl; intro K hK; go_simp; refine hK _ ?_; clear hK K
  go_upto_region 16 with (fail)
  apply wp_region_lit
  (with_reducible refine wl_k ?_ ?_); exact rfl; intro K hK; go_simp; refine hK _ ?_; clear hK K
  (first | ((with_reducible apply wl_oneG); exact rfl; exact rfl; first | exact f0 (by with_reducible assumption) | exact f1 (by with_reducible assumption) | exact f2 (by with_reducible assumption) | exact f3 (by with_reducible assumption) | with_reducible assumption | exact g22 (by with_reducible assumption) | exact g25 (by with_reducible assumption)) | ((with_reducible apply wl_rowG); exact rfl; exact rfl; first | with_reducible assumption | exact RowK.now (by with_reducible assumption) | exact f4 (by with_reducible assumption)))
  (with_reducible refine wl_k ?_ ?_); exact rfl; intro K hK; go_simp; refine hK _ ?_; clear hK K
  clear hp
  go_wp2_with fail
  go_ret
  exact ⟨rfl, hb⟩
set_option maxHeartbeats 2000000 in
set_option maxRecDepth 100000 in
theorem spel_nom (s : ByteArray) (n : Int) (ts : List Ty) (hsz : s.size ≤ 24) (hne : ts ≠ []) (hC : ∀ t, t ∈ ts → SpelC t) (hlen : (txtSep true ts).length ≤ 1000000) (htx : txtT (.node 6 s n ts) = s.data.toList ++ [60] ++ txtSep true ts ++ [62]) : SpelC (.node 6 s n ts) := by
  intro w D row h
  obtain ⟨k1, s1, n1, A, l, c, ts1, e, rfl, -, -, -, hT⟩ := h.parts
  cases e
  have HT := Lib.hid hT
  have HL := Lib.hid hT.len
  have hcm := hT.cap
  have hmx := hT.max
  unfold maxLen at hmx
  clear hT h
  have hb := Below.refl w.heap.size w
  have HLX := Lib.hid fun W (hb : Below w.heap.size w W) => listI_any ts hC (by omega) W D A l c (HT.out.old hb)
  clear hC
  suffices ∃ x : ByteArray, x.data.toList = txtSep true ts ∧ Calls Tryd.prog 62 #[.agg (cell4 6 s n A l c)] w fun e w' => e = .returned (.string ((s ++ ⟨#[60]⟩ ++ x) ++ ⟨#[62]⟩)) ∧ Below w.heap.size w w' by
    obtain ⟨x, hx, h⟩ := this
    exact ⟨_, by rw [str_cat, str_cat, str_cat, hx, htx], h⟩
  clear htx
  refine ⟨⟨(txtSep true ts).toArray⟩, by simp, ?_⟩
  have hsx : (⟨(txtSep true ts).toArray⟩ : ByteArray).size ≤ 1000000 := by rw [str_size]; simpa using hlen
  obtain ⟨x, hx0⟩ : ∃ x : ByteArray, x = ⟨(txtSep true ts).toArray⟩ := ⟨_, rfl⟩
  rw [← hx0] at hsx ⊢
  have HX0 := Lib.hid hx0
  have hl0 : 0 < ts.length := List.length_pos_iff.2 hne
  have e0 : ((l : Int) == 0) = false := beq_eq_false_iff_ne.2 (by have := HL.out; omega)
  clear hx0 hlen hne
  have hcat0 : ¬ 9223372036854775807 < s.size + 1 := by omega
  have hcat1 : ¬ 9223372036854775807 < s.size + 1 + x.size := by omega
  have hcat : ¬ 9223372036854775807 < s.size + 1 + x.size + 1 := by omega
  go_enter Tryd.func62, Tryd.ntmps62
  go_upto_region 0 with (fail)
  apply wp_region_lit
  (with_reducible refine wl_box rfl ?_); intro W p hbn hlp hp; replace hb := hb.trans (hbn.mono hb.size); clear hbn; simp only [put_lit, List.set_cons_zero, List.set_cons_succ]
  (with_reducible refine wl_k ?_ ?_); exact rfl; intro K hK; go_simp; refine hK _ ?_; clear hK K
  go_upto_region 1 with (fail)
  apply wp_region_lit
  (with_reducible refine wl_k ?_ ?_); exact rfl; intro K hK; go_simp; refine hK _ ?_; clear hK K
  (first | ((with_reducible apply wl_oneG); exact rfl; exact rfl; first | exact f0 (by with_reducible assumption) | exact f1 (by with_reducible assumption) | exact f2 (by with_reducible assumption) | exact f3 (by with_reducible assumption) | with_reducible assumption | exact g22 (by with_reducible assumption) | exact g25 (by with_reducible assumption)) | ((with_reducible apply wl_rowG); exact rfl; exact rfl; first | with_reducible assumption | exact RowK.now (by with_reducible assumption) | exact f4 (by with_reducible assumption)))
  go_upto_region 15 with (fail)
  apply wp_region_lit
  (with_reducible refine wl_k ?_ ?_); exact rfl; intro K hK; go_simp; refine hK _ ?_; clear hK K
  (first | ((with_reducible apply wl_oneG); exact rfl; exact rfl; first | exact f0 (by with_reducible assumption) | exact f1 (by with_reducible assumption) | exact f2 (by with_reducible assumption) | exact f3 (by with_reducible assumption) | with_reducible assumption | exact g22 (by with_reducible assumption) | exact g25 (by with_reducible assumption)) | ((with_reducible apply wl_rowG); exact rfl; exact rfl; first | with_reducible assumption | exact RowK.now (by with_reducible assumption) | exact f4 (by with_reducible assumption)))
  (with_reducible refine wl_k ?_ ?_); exact rfl; intro K hK; go_simp; refine hK _ ?_; clear hK K
  (with_reducible refine wl_k ?_ ?_); exact rfl; intro K hK; go_simp; refine hK _ ?_; clear hK K
  clear e0
  have HC : Hid (∀ w', Below W.heap.size W w' → Calls Tryd.prog 84 #[.slice A l c] w' fun e w2 => e = .returned (.string x) ∧ Below w'.heap.size w' w2) := Lib.hid fun w' hw => by
    obtain ⟨y, hy, hCy⟩ := HLX.out w' (hb.trans (hw.mono hb.size))
    obtain rfl : y = x := by rw [HX0.out]; exact str_eq hy
    exact hCy
  clear HLX
  go_upto_region 17 with (fail)
  refine wp_region_belowAll mixed (by kernel_rfl) ?_
  (with_reducible refine wq_k ?_ ?_); exact rfl; intro K hK; go_simp; (with_reducible refine hK _ ?_); clear hK K
  (first | ((with_reducible apply wq_one); exact rfl; exact rfl; intro w' hw'; first | exact f0 (below_look hw' (by with_reducible assumption)) | exact f1 (below_look hw' (by with_reducible assumption)) | exact f2 (below_look hw' (by with_reducible assumption)) | exact f3 (below_look hw' (by with_reducible assumption)) ) | ((with_reducible apply wq_row); exact rfl; exact rfl; intro w' hw'; first | exact RowK.at (by with_reducible assumption) hw' | exact f4 (below_look hw' (by with_reducible assumption))))
  (with_reducible refine wq_k ?_ ?_); exact rfl; intro K hK; go_simp; (with_reducible refine hK _ ?_); clear hK K
  (with_reducible refine wq_k ?_ ?_); exact rfl; intro K hK; go_simp; (with_reducible refine hK _ ?_); clear hK K
  (first | ((with_reducible apply wq_one); exact rfl; exact rfl; intro w' hw'; first | exact f0 (below_look hw' (by with_reducible assumption)) | exact f1 (below_look hw' (by with_reducible assumption)) | exact f2 (below_look hw' (by with_reducible assumption)) | exact f3 (below_look hw' (by with_reducible assumption)) ) | ((with_reducible apply wq_row); exact rfl; exact rfl; intro w' hw'; first | exact RowK.at (by with_reducible assumption) hw' | exact f4 (below_look hw' (by with_reducible assumption))))
  refine wq_ck rfl (fun K hK => ?_); go_simp; refine ⟨_, _, ⟨rfl, rfl⟩, hK _ _ ⟨_, fun w' hw' => calls_class hw' (HC.out w' hw'), ?_⟩⟩; clear hK K; simp only [put_lit, List.set_cons_zero, List.set_cons_succ]
  (with_reducible refine wq_k ?_ ?_); exact rfl; intro K hK; go_simp; (with_reducible refine hK _ ?_); clear hK K
  (with_reducible refine wq_k ?_ ?_); exact rfl; intro K hK; go_simp; (with_reducible refine hK _ ?_); clear hK K
  (with_reducible refine wq_k ?_ ?_); exact rfl; intro K hK; go_simp; (with_reducible refine hK _ ?_); clear hK K
  intro w8 hb8
  replace hb := hb.trans (hb8.mono hb.size); clear hb8
  clear hp HC hcat0 hcat hcat1
  go_wp2_with fail
  go_ret
  exact ⟨rfl, hb⟩
set_option maxHeartbeats 2000000 in
set_option maxRecDepth 100000 in
theorem spel_par (s : ByteArray) (n : Int) (ts : List Ty) (hsz : s.size ≤ 24) (htx : txtT (.node 7 s n ts) = [36] ++ s.data.toList) : SpelC (.node 7 s n ts) := by
  intro w D row h
  obtain ⟨k1, s1, n1, A, l, c, ts1, e, rfl, -, -, -, hT⟩ := h.parts
  cases e
  have HT := Lib.hid hT
  have HL := Lib.hid hT.len
  have hcm := hT.cap
  have hmx := hT.max
  unfold maxLen at hmx
  clear hT h
  have hb := Below.refl w.heap.size w
  refine ⟨⟨#[36]⟩ ++ s, by rw [str_cat, htx], ?_⟩
  have hcat : ¬ 9223372036854775807 < 1 + s.size := by omega
  clear htx
  go_enter Tryd.func62, Tryd.ntmps62
  go_upto_region 0 with (fail)
  apply wp_region_lit
  (with_reducible refine wl_box rfl ?_); intro W p hbn hlp hp; replace hb := hb.trans (hbn.mono hb.size); clear hbn; simp only [put_lit, List.set_cons_zero, List.set_cons_succ]
  (with_reducible refine wl_k ?_ ?_); exact rfl; intro K hK; go_simp; refine hK _ ?_; clear hK K
  go_upto_region 1 with (fail)
  apply wp_region_lit
  (with_reducible refine wl_k ?_ ?_); exact rfl; intro K hK; go_simp; refine hK _ ?_; clear hK K
  (first | ((with_reducible apply wl_oneG); exact rfl; exact rfl; first | exact f0 (by with_reducible assumption) | exact f1 (by with_reducible assumption) | exact f2 (by with_reducible assumption) | exact f3 (by with_reducible assumption) | with_reducible assumption | exact g22 (by with_reducible assumption) | exact g25 (by with_reducible assumption)) | ((with_reducible apply wl_rowG); exact rfl; exact rfl; first | with_reducible assumption | exact RowK.now (by with_reducible assumption) | exact f4 (by with_reducible assumption)))
  go_upto_region 19 with (fail)
  apply wp_region_lit
  (with_reducible refine wl_k ?_ ?_); exact rfl; intro K hK; go_simp; refine hK _ ?_; clear hK K
  (first | ((with_reducible apply wl_oneG); exact rfl; exact rfl; first | exact f0 (by with_reducible assumption) | exact f1 (by with_reducible assumption) | exact f2 (by with_reducible assumption) | exact f3 (by with_reducible assumption) | with_reducible assumption | exact g22 (by with_reducible assumption) | exact g25 (by with_reducible assumption)) | ((with_reducible apply wl_rowG); exact rfl; exact rfl; first | with_reducible assumption | exact RowK.now (by with_reducible assumption) | exact f4 (by with_reducible assumption)))
  (with_reducible refine wl_k ?_ ?_); exact rfl; intro K hK; go_simp; refine hK _ ?_; clear hK K
  (with_reducible refine wl_k ?_ ?_); exact rfl; intro K hK; go_simp; refine hK _ ?_; clear hK K
  clear hp hcat
  go_wp2_with fail
  go_ret
  exact ⟨rfl, hb⟩
set_option maxHeartbeats 2000000 in
set_option maxRecDepth 100000 in
theorem spel_any (s : ByteArray) (n : Int) (ts : List Ty) (hsz : s.size ≤ 24) (htx : txtT (.node 9 s n ts) = [97, 110, 121, 32] ++ s.data.toList) : SpelC (.node 9 s n ts) := by
  intro w D row h
  obtain ⟨k1, s1, n1, A, l, c, ts1, e, rfl, -, -, -, hT⟩ := h.parts
  cases e
  have HT := Lib.hid hT
  have HL := Lib.hid hT.len
  have hcm := hT.cap
  have hmx := hT.max
  unfold maxLen at hmx
  clear hT h
  have hb := Below.refl w.heap.size w
  refine ⟨⟨#[97, 110, 121, 32]⟩ ++ s, by rw [str_cat, htx], ?_⟩
  have hcat : ¬ 9223372036854775807 < 4 + s.size := by omega
  clear htx
  go_enter Tryd.func62, Tryd.ntmps62
  go_upto_region 0 with (fail)
  apply wp_region_lit
  (with_reducible refine wl_box rfl ?_); intro W p hbn hlp hp; replace hb := hb.trans (hbn.mono hb.size); clear hbn; simp only [put_lit, List.set_cons_zero, List.set_cons_succ]
  (with_reducible refine wl_k ?_ ?_); exact rfl; intro K hK; go_simp; refine hK _ ?_; clear hK K
  go_upto_region 1 with (fail)
  apply wp_region_lit
  (with_reducible refine wl_k ?_ ?_); exact rfl; intro K hK; go_simp; refine hK _ ?_; clear hK K
  (first | ((with_reducible apply wl_oneG); exact rfl; exact rfl; first | exact f0 (by with_reducible assumption) | exact f1 (by with_reducible assumption) | exact f2 (by with_reducible assumption) | exact f3 (by with_reducible assumption) | with_reducible assumption | exact g22 (by with_reducible assumption) | exact g25 (by with_reducible assumption)) | ((with_reducible apply wl_rowG); exact rfl; exact rfl; first | with_reducible assumption | exact RowK.now (by with_reducible assumption) | exact f4 (by with_reducible assumption)))
  go_upto_region 23 with (fail)
  apply wp_region_lit
  (with_reducible refine wl_k ?_ ?_); exact rfl; intro K hK; go_simp; refine hK _ ?_; clear hK K
  (first | ((with_reducible apply wl_oneG); exact rfl; exact rfl; first | exact f0 (by with_reducible assumption) | exact f1 (by with_reducible assumption) | exact f2 (by with_reducible assumption) | exact f3 (by with_reducible assumption) | with_reducible assumption | exact g22 (by with_reducible assumption) | exact g25 (by with_reducible assumption)) | ((with_reducible apply wl_rowG); exact rfl; exact rfl; first | with_reducible assumption | exact RowK.now (by with_reducible assumption) | exact f4 (by with_reducible assumption)))
  (with_reducible refine wl_k ?_ ?_); exact rfl; intro K hK; go_simp; refine hK _ ?_; clear hK K
  (with_reducible refine wl_k ?_ ?_); exact rfl; intro K hK; go_simp; refine hK _ ?_; clear hK K
  clear hp hcat
  go_wp2_with fail
  go_ret
  exact ⟨rfl, hb⟩
set_option maxHeartbeats 2000000 in
set_option maxRecDepth 100000 in
theorem spel_assoc (s : ByteArray) (n : Int) (ts : List Ty) (hsz : s.size ≤ 24) (hC : ∀ t, t ∈ ts → SpelC t) (hlen : (txtSep true ts).length ≤ 1000000) (htx : txtT (.node 8 s n ts) = txtSep true ts ++ [46] ++ s.data.toList) : SpelC (.node 8 s n ts) := by
  intro w D row h
  obtain ⟨k1, s1, n1, A, l, c, ts1, e, rfl, -, -, -, hT⟩ := h.parts
  cases e
  have HT := Lib.hid hT
  have HL := Lib.hid hT.len
  have hcm := hT.cap
  have hmx := hT.max
  unfold maxLen at hmx
  clear hT h
  have hb := Below.refl w.heap.size w
  have HLX := Lib.hid fun W (hb : Below w.heap.size w W) => listI_any ts hC (by omega) W D A l c (HT.out.old hb)
  clear hC
  suffices ∃ x : ByteArray, x.data.toList = txtSep true ts ∧ Calls Tryd.prog 62 #[.agg (cell4 8 s n A l c)] w fun e w' => e = .returned (.string ((x ++ ⟨#[46]⟩) ++ s)) ∧ Below w.heap.size w w' by
    obtain ⟨x, hx, h⟩ := this
    exact ⟨_, by rw [str_cat, str_cat, hx, htx], h⟩
  clear htx
  refine ⟨⟨(txtSep true ts).toArray⟩, by simp, ?_⟩
  have hsx : (⟨(txtSep true ts).toArray⟩ : ByteArray).size ≤ 1000000 := by rw [str_size]; simpa using hlen
  obtain ⟨x, hx0⟩ : ∃ x : ByteArray, x = ⟨(txtSep true ts).toArray⟩ := ⟨_, rfl⟩
  rw [← hx0] at hsx ⊢
  have HX0 := Lib.hid hx0
  clear hx0 hlen
  have hcat0 : ¬ 9223372036854775807 < x.size + 1 := by omega
  have hcat1 : ¬ 9223372036854775807 < x.size + 1 + s.size := by omega
  go_enter Tryd.func62, Tryd.ntmps62
  go_upto_region 0 with (fail)
  apply wp_region_lit
  (with_reducible refine wl_box rfl ?_); intro W p hbn hlp hp; replace hb := hb.trans (hbn.mono hb.size); clear hbn; simp only [put_lit, List.set_cons_zero, List.set_cons_succ]
  (with_reducible refine wl_k ?_ ?_); exact rfl; intro K hK; go_simp; refine hK _ ?_; clear hK K
  go_upto_region 1 with (fail)
  apply wp_region_lit
  (with_reducible refine wl_k ?_ ?_); exact rfl; intro K hK; go_simp; refine hK _ ?_; clear hK K
  (first | ((with_reducible apply wl_oneG); exact rfl; exact rfl; first | exact f0 (by with_reducible assumption) | exact f1 (by with_reducible assumption) | exact f2 (by with_reducible assumption) | exact f3 (by with_reducible assumption) | with_reducible assumption | exact g22 (by with_reducible assumption) | exact g25 (by with_reducible assumption)) | ((with_reducible apply wl_rowG); exact rfl; exact rfl; first | with_reducible assumption | exact RowK.now (by with_reducible assumption) | exact f4 (by with_reducible assumption)))
  have HC : Hid (∀ w', Below W.heap.size W w' → Calls Tryd.prog 84 #[.slice A l c] w' fun e w2 => e = .returned (.string x) ∧ Below w'.heap.size w' w2) := Lib.hid fun w' hw => by
    obtain ⟨y, hy, hCy⟩ := HLX.out w' (hb.trans (hw.mono hb.size))
    obtain rfl : y = x := by rw [HX0.out]; exact str_eq hy
    exact hCy
  clear HLX
  go_upto_region 21 with (fail)
  refine wp_region_belowAll mixed (by kernel_rfl) ?_
  (with_reducible refine wq_k ?_ ?_); exact rfl; intro K hK; go_simp; (with_reducible refine hK _ ?_); clear hK K
  (first | ((with_reducible apply wq_one); exact rfl; exact rfl; intro w' hw'; first | exact f0 (below_look hw' (by with_reducible assumption)) | exact f1 (below_look hw' (by with_reducible assumption)) | exact f2 (below_look hw' (by with_reducible assumption)) | exact f3 (below_look hw' (by with_reducible assumption)) ) | ((with_reducible apply wq_row); exact rfl; exact rfl; intro w' hw'; first | exact RowK.at (by with_reducible assumption) hw' | exact f4 (below_look hw' (by with_reducible assumption))))
  refine wq_ck rfl (fun K hK => ?_); go_simp; refine ⟨_, _, ⟨rfl, rfl⟩, hK _ _ ⟨_, fun w' hw' => calls_class hw' (HC.out w' hw'), ?_⟩⟩; clear hK K; simp only [put_lit, List.set_cons_zero, List.set_cons_succ]
  (with_reducible refine wq_k ?_ ?_); exact rfl; intro K hK; go_simp; (with_reducible refine hK _ ?_); clear hK K
  (with_reducible refine wq_k ?_ ?_); exact rfl; intro K hK; go_simp; (with_reducible refine hK _ ?_); clear hK K
  (first | ((with_reducible apply wq_one); exact rfl; exact rfl; intro w' hw'; first | exact f0 (below_look hw' (by with_reducible assumption)) | exact f1 (below_look hw' (by with_reducible assumption)) | exact f2 (below_look hw' (by with_reducible assumption)) | exact f3 (below_look hw' (by with_reducible assumption)) ) | ((with_reducible apply wq_row); exact rfl; exact rfl; intro w' hw'; first | exact RowK.at (by with_reducible assumption) hw' | exact f4 (below_look hw' (by with_reducible assumption))))
  (with_reducible refine wq_k ?_ ?_); exact rfl; intro K hK; go_simp; (with_reducible refine hK _ ?_); clear hK K
  (with_reducible refine wq_k ?_ ?_); exact rfl; intro K hK; go_simp; (with_reducible refine hK _ ?_); clear hK K
  intro w8 hb8
  replace hb := hb.trans (hb8.mono hb.size); clear hb8
  clear hp HC hcat0 hcat1
  go_wp2_with fail
  go_ret
  exact ⟨rfl, hb⟩
set_option maxHeartbeats 2000000 in
set_option maxRecDepth 100000 in
theorem spel_var (s : ByteArray) (n : Nat) (hn : n < 100) (ts : List Ty) (htx : txtT (.node 12 s (n : Int) ts) = [63] ++ Lib.decDigits n) : SpelC (.node 12 s (n : Int) ts) := by
  intro w D row h
  obtain ⟨k1, s1, n1, A, l, c, ts1, e, rfl, -, -, -, hT⟩ := h.parts
  cases e
  have HT := Lib.hid hT
  have HL := Lib.hid hT.len
  have hcm := hT.cap
  have hmx := hT.max
  unfold maxLen at hmx
  clear hT h
  have hb := Below.refl w.heap.size w
  obtain ⟨x, hx⟩ : ∃ x : ByteArray, x = ⟨(Lib.decDigits n).toArray⟩ := ⟨_, rfl⟩
  refine ⟨⟨#[63]⟩ ++ x, by rw [str_cat, htx, hx], ?_⟩
  have hcat : ¬ 9223372036854775807 < 1 + x.size := by
    have := dec_small hn
    rw [hx, str_size]; simp; omega
  have HN : Hid (∀ w', Calls Tryd.prog 85 #[.int .i64 (n : Int)] w' fun e w2 => e = .returned (.string x) ∧ Below w'.heap.size w' w2) := Lib.hid fun w' => by rw [hx]; exact Number_any n hn w'
  clear htx hx
  go_enter Tryd.func62, Tryd.ntmps62
  go_upto_region 0 with (fail)
  apply wp_region_lit
  (with_reducible refine wl_box rfl ?_); intro W p hbn hlp hp; replace hb := hb.trans (hbn.mono hb.size); clear hbn; simp only [put_lit, List.set_cons_zero, List.set_cons_succ]
  (with_reducible refine wl_k ?_ ?_); exact rfl; intro K hK; go_simp; refine hK _ ?_; clear hK K
  go_upto_region 1 with (fail)
  apply wp_region_lit
  (with_reducible refine wl_k ?_ ?_); exact rfl; intro K hK; go_simp; refine hK _ ?_; clear hK K
  (first | ((with_reducible apply wl_oneG); exact rfl; exact rfl; first | exact f0 (by with_reducible assumption) | exact f1 (by with_reducible assumption) | exact f2 (by with_reducible assumption) | exact f3 (by with_reducible assumption) | with_reducible assumption | exact g22 (by with_reducible assumption) | exact g25 (by with_reducible assumption)) | ((with_reducible apply wl_rowG); exact rfl; exact rfl; first | with_reducible assumption | exact RowK.now (by with_reducible assumption) | exact f4 (by with_reducible assumption)))
  go_upto_region 27 with (fail)
  apply wp_region_lit
  (with_reducible refine wl_k ?_ ?_); exact rfl; intro K hK; go_simp; refine hK _ ?_; clear hK K
  (first | ((with_reducible apply wl_oneG); exact rfl; exact rfl; first | exact f0 (by with_reducible assumption) | exact f1 (by with_reducible assumption) | exact f2 (by with_reducible assumption) | exact f3 (by with_reducible assumption) | with_reducible assumption | exact g22 (by with_reducible assumption) | exact g25 (by with_reducible assumption)) | ((with_reducible apply wl_rowG); exact rfl; exact rfl; first | with_reducible assumption | exact RowK.now (by with_reducible assumption) | exact f4 (by with_reducible assumption)))
  (with_reducible refine wl_ck ?_ ?_); exact rfl; intro K hK; go_simp; refine ⟨_, _, ⟨rfl, rfl⟩, hK _ _ ⟨_, HN.out _, ?_⟩⟩; clear hK K; rintro e w7 ⟨rfl, hb7⟩; refine ⟨_, rfl, ?_⟩; simp only [put_lit, List.set_cons_zero, List.set_cons_succ]
  (with_reducible refine wl_k ?_ ?_); exact rfl; intro K hK; go_simp; refine hK _ ?_; clear hK K
  (with_reducible refine wl_k ?_ ?_); exact rfl; intro K hK; go_simp; refine hK _ ?_; clear hK K
  replace hb := hb.trans (hb7.mono hb.size); clear hb7
  clear hp hcat HN
  go_wp2_with fail
  go_ret
  exact ⟨rfl, hb⟩
set_option maxHeartbeats 4000000 in
set_option maxRecDepth 100000 in
theorem spel_fn (s : ByteArray) (n : Int) (us : List Ty) (v : Ty) (hC : ∀ t, t ∈ us → SpelC t) (hV : SpelC v) (hlen : (txtSep true us).length ≤ 1000000) (hlv : (txtT v).length ≤ 1000000) (htx : txtT (.node 10 s n (us ++ [v])) = [40] ++ txtSep true us ++ [41, 32, 45, 62, 32] ++ txtT v) : SpelC (.node 10 s n (us ++ [v])) := by
  intro w D row h
  obtain ⟨k1, s1, n1, A, l, c, ts1, e, rfl, -, -, -, hT⟩ := h.parts
  cases e
  have HT := Lib.hid hT
  have HL := Lib.hid hT.len
  have hcm := hT.cap
  have hmx := hT.max
  unfold maxLen at hmx
  clear hT h
  have hb := Below.refl w.heap.size w
  obtain ⟨m, hm⟩ : ∃ m, m = us.length := ⟨_, rfl⟩
  have HMU := Lib.hid hm
  have hml : l = m + 1 := by have := HL.out; simp at this; omega
  have HML := Lib.hid hml
  have HLX := Lib.hid fun W (hb : Below w.heap.size w W) => listI_any us hC (by omega) W D A m c ((HT.out.init hm.symm).old hb)
  have HVX := Lib.hid hV
  clear hC hV
  suffices ∃ x y : ByteArray, x.data.toList = txtSep true us ∧ y.data.toList = txtT v ∧ Calls Tryd.prog 62 #[.agg (cell4 10 s n A l c)] w fun e w' => e = .returned (.string (((⟨#[40]⟩ ++ x) ++ ⟨#[41, 32, 45, 62, 32]⟩) ++ y)) ∧ Below w.heap.size w w' by
    obtain ⟨x, y, hx, hy, h⟩ := this
    exact ⟨_, by rw [str_cat, str_cat, str_cat, hx, hy, htx], h⟩
  clear htx
  refine ⟨⟨(txtSep true us).toArray⟩, ⟨(txtT v).toArray⟩, by simp, by simp, ?_⟩
  have hsx : (⟨(txtSep true us).toArray⟩ : ByteArray).size ≤ 1000000 := by rw [str_size]; simpa using hlen
  have hsy : (⟨(txtT v).toArray⟩ : ByteArray).size ≤ 1000000 := by rw [str_size]; simpa using hlv
  obtain ⟨x, hx0⟩ : ∃ x : ByteArray, x = ⟨(txtSep true us).toArray⟩ := ⟨_, rfl⟩
  obtain ⟨y, hy0⟩ : ∃ x : ByteArray, x = ⟨(txtT v).toArray⟩ := ⟨_, rfl⟩
  rw [← hx0] at hsx ⊢
  rw [← hy0] at hsy ⊢
  have HX0 := Lib.hid hx0
  have HY0 := Lib.hid hy0
  clear hx0 hy0 hlen hlv
  have hcat0 : ¬ 9223372036854775807 < 1 + x.size := by omega
  have hcat1 : ¬ 9223372036854775807 < 1 + x.size + 5 := by omega
  have hcat : ¬ 9223372036854775807 < 1 + x.size + 5 + y.size := by omega
  have hwr : IntKind.i64.wrap ((l : Int) - 1) = (m : Int) := by rw [IntWalk.i64_in _ (by omega)]; omega
  have hmlt : m < l := by omega
  have hmI : (m : Int) < (l : Int) := by omega
  have hmc : m ≤ c := by omega
  have hmcI : (m : Int) ≤ (c : Int) := by omega
  clear hm hml
  go_enter Tryd.func62, Tryd.ntmps62
  go_upto_region 0 with (fail)
  apply wp_region_lit
  (with_reducible refine wl_box rfl ?_); intro W p hbn hlp hp; replace hb := hb.trans (hbn.mono hb.size); clear hbn; simp only [put_lit, List.set_cons_zero, List.set_cons_succ]
  (with_reducible refine wl_k ?_ ?_); exact rfl; intro K hK; go_simp; refine hK _ ?_; clear hK K
  go_upto_region 1 with (fail)
  apply wp_region_lit
  (with_reducible refine wl_k ?_ ?_); exact rfl; intro K hK; go_simp; refine hK _ ?_; clear hK K
  (first | ((with_reducible apply wl_oneG); exact rfl; exact rfl; first | exact f0 (by with_reducible assumption) | exact f1 (by with_reducible assumption) | exact f2 (by with_reducible assumption) | exact f3 (by with_reducible assumption) | with_reducible assumption | exact g22 (by with_reducible assumption) | exact g25 (by with_reducible assumption)) | ((with_reducible apply wl_rowG); exact rfl; exact rfl; first | with_reducible assumption | exact RowK.now (by with_reducible assumption) | exact f4 (by with_reducible assumption)))
  go_upto_region 25 with (fail)
  apply wp_region_lit
  (with_reducible refine wl_k ?_ ?_); exact rfl; intro K hK; go_simp; refine hK _ ?_; clear hK K
  (first | ((with_reducible apply wl_oneG); exact rfl; exact rfl; first | exact f0 (by with_reducible assumption) | exact f1 (by with_reducible assumption) | exact f2 (by with_reducible assumption) | exact f3 (by with_reducible assumption) | with_reducible assumption | exact g22 (by with_reducible assumption) | exact g25 (by with_reducible assumption)) | ((with_reducible apply wl_rowG); exact rfl; exact rfl; first | with_reducible assumption | exact RowK.now (by with_reducible assumption) | exact f4 (by with_reducible assumption)))
  (with_reducible refine wl_k ?_ ?_); exact rfl; intro K hK; go_simp; refine hK _ ?_; clear hK K
  (with_reducible refine wl_k ?_ ?_); exact rfl; intro K hK; go_simp; refine hK _ ?_; clear hK K
  (with_reducible refine wl_k ?_ ?_); exact rfl; intro K hK; go_simp; refine hK _ ?_; clear hK K
  clear hwr
  obtain ⟨xb, off, rfl⟩ := HT.out.addr hmlt
  obtain ⟨row, hrow, hta⟩ := HT.out.rowK (show (us ++ [v])[m]? = some v by rw [HMU.out]; simp)
  have HRW := Lib.hid hrow
  have HTA := Lib.hid hta
  have HC : Hid (∀ w', Below W.heap.size W w' → Calls Tryd.prog 84 #[.slice (some ⟨xb, off, none⟩) m c] w' fun e w2 => e = .returned (.string x) ∧ Below w'.heap.size w' w2) := Lib.hid fun w' hw => by
    obtain ⟨z, hz, hCz⟩ := HLX.out w' (hb.trans (hw.mono hb.size))
    obtain rfl : z = x := by rw [HX0.out]; exact str_eq hz
    exact hCz
  have HD : Hid (∀ w', Below W.heap.size W w' → Calls Tryd.prog 62 #[.agg row] w' fun e w2 => e = .returned (.string y) ∧ Below w'.heap.size w' w2) := Lib.hid fun w' hw => by
    obtain ⟨z, hz, hCz⟩ := HVX.out w' D row (HTA.out.old (hb.trans (hw.mono hb.size)))
    obtain rfl : z = y := by rw [HY0.out]; exact str_eq hz
    exact hCz
  clear HLX HVX hrow hta
  go_upto_region 26 with (fail)
  refine wp_region_belowAll mixed (by kernel_rfl) ?_
  (with_reducible refine wq_k ?_ ?_); exact rfl; intro K hK; go_simp; (with_reducible refine hK _ ?_); clear hK K
  (first | ((with_reducible apply wq_one); exact rfl; exact rfl; intro w' hw'; first | exact f0 (below_look hw' (by with_reducible assumption)) | exact f1 (below_look hw' (by with_reducible assumption)) | exact f2 (below_look hw' (by with_reducible assumption)) | exact f3 (below_look hw' (by with_reducible assumption)) ) | ((with_reducible apply wq_row); exact rfl; exact rfl; intro w' hw'; first | exact RowK.at (by with_reducible assumption) hw' | exact f4 (below_look hw' (by with_reducible assumption))))
  (with_reducible refine wq_k ?_ ?_); exact rfl; intro K hK; go_simp; (with_reducible refine hK _ ?_); clear hK K
  (with_reducible refine wq_k ?_ ?_); exact rfl; intro K hK; go_simp; (with_reducible refine hK _ ?_); clear hK K
  refine wq_ck rfl (fun K hK => ?_); go_simp; refine ⟨_, _, ⟨rfl, rfl⟩, hK _ _ ⟨_, fun w' hw' => calls_class hw' (HC.out w' hw'), ?_⟩⟩; clear hK K; simp only [put_lit, List.set_cons_zero, List.set_cons_succ]
  (with_reducible refine wq_k ?_ ?_); exact rfl; intro K hK; go_simp; (with_reducible refine hK _ ?_); clear hK K
  (with_reducible refine wq_k ?_ ?_); exact rfl; intro K hK; go_simp; (with_reducible refine hK _ ?_); clear hK K
  (with_reducible refine wq_k ?_ ?_); exact rfl; intro K hK; go_simp; (with_reducible refine hK _ ?_); clear hK K
  (first | ((with_reducible apply wq_one); exact rfl; exact rfl; intro w' hw'; first | exact f0 (below_look hw' (by with_reducible assumption)) | exact f1 (below_look hw' (by with_reducible assumption)) | exact f2 (below_look hw' (by with_reducible assumption)) | exact f3 (below_look hw' (by with_reducible assumption)) ) | ((with_reducible apply wq_row); exact rfl; exact rfl; intro w' hw'; first | exact RowK.at (by with_reducible assumption) hw' | exact f4 (below_look hw' (by with_reducible assumption))))
  (with_reducible refine wq_k ?_ ?_); exact rfl; intro K hK; go_simp; (with_reducible refine hK _ ?_); clear hK K
  (with_reducible refine wq_k ?_ ?_); exact rfl; intro K hK; go_simp; (with_reducible refine hK _ ?_); clear hK K
  (with_reducible apply wq_row); exact rfl; exact rfl; exact (fun w' hw' => HRW.out.at (hb.trans (hw'.mono hb.size)))
  try simp only [put_lit, List.set_cons_zero, List.set_cons_succ]
  refine wq_ck rfl (fun K hK => ?_); go_simp; refine ⟨_, _, ⟨rfl, rfl⟩, hK _ _ ⟨_, fun w' hw' => calls_class hw' (HD.out w' hw'), ?_⟩⟩; clear hK K; simp only [put_lit, List.set_cons_zero, List.set_cons_succ]
  (with_reducible refine wq_k ?_ ?_); exact rfl; intro K hK; go_simp; (with_reducible refine hK _ ?_); clear hK K
  (with_reducible refine wq_k ?_ ?_); exact rfl; intro K hK; go_simp; (with_reducible refine hK _ ?_); clear hK K
  intro w8 hb8
  replace hb := hb.trans (hb8.mono hb.size); clear hb8
  clear hp HC HD hcat0 hcat1 hcat HRW HTA
  go_wp2_with fail
  go_ret
  exact ⟨rfl, hb⟩
theorem spel_open : ∀ t : Ty, t.all (nodeB true) = true → (txtT t).length ≤ 1000000 → SpelC t := Ty.ind fun k s n ts ih ha hlen => by
  simp only [Ty.all, Bool.and_eq_true] at ha
  have hnd := ha.1
  simp only [nodeB, Bool.and_eq_true, Bool.or_eq_true, decide_eq_true_eq] at hnd
  obtain ⟨hn, hK⟩ := hnd
  have hsz := node_size hK
  have hsub : (txtSep true ts).length ≤ 1000000 → ∀ u, u ∈ ts → SpelC u := fun hl u hu => ih u hu (alls_mem ha.2 u hu) (by
    have := sep_len txtT true ts u hu
    rw [← sep_txt] at this; omega)
  by_cases h8 : k = 8
  · subst h8
    have htx : txtT (.node 8 s n ts) = txtSep true ts ++ [46] ++ s.data.toList := by simp [txtT]
    have hl : (txtSep true ts).length ≤ 1000000 := by rw [htx] at hlen; simp at hlen; omega
    exact spel_assoc s n ts hsz (hsub hl) hl htx
  by_cases h10 : k = 10
  · subst h10
    rcases List.eq_nil_or_concat ts with rfl | ⟨us, v, rfl⟩
    · simp [nodeK] at hK
    · rw [List.concat_eq_append] at *
      have htx : txtT (.node 10 s n (us ++ [v])) = [40] ++ txtSep true us ++ [41, 32, 45, 62, 32] ++ txtT v := by simp [txtT, txtFn_eq]
      rw [htx] at hlen
      simp only [List.length_append, List.length_cons, List.length_nil] at hlen
      have hl : (txtSep true us).length ≤ 1000000 := by omega
      refine spel_fn s n us v (fun u hu => ih u (by simp [hu]) (alls_mem ha.2 u (by simp [hu])) (by
        have := sep_len txtT true us u hu
        rw [← sep_txt] at this; omega)) (ih v (by simp) (alls_mem ha.2 v (by simp)) (by omega)) hl (by omega) htx
  have hw : txtT (.node k s n ts) = wordT k s n ++ if ts.isEmpty then [] else 60 :: (txtSep true ts ++ [62]) := by
    simp only [txtT]; rw [if_neg h8, if_neg h10]
  have hl2 : (if ts.isEmpty then [] else 60 :: (txtSep true ts ++ [62]) : List UInt8).length ≤ 1000000 := by rw [hw, List.length_append] at hlen; omega
  have hl : (txtSep true ts).length ≤ 1000000 := by
    cases ts with
    | nil => simp [txtSep]
    | cons a l => simp at hl2 ⊢; omega
  rcases kind_cases hK h8 h10 with rfl | rfl | rfl | rfl | rfl | rfl | rfl | rfl | rfl | rfl
  · have h0 : ts = [] := by simp [nodeK] at hK; exact hK.1
    exact spel_1 s n ts (by rw [hw, h0]; simp [wordT])
  · have h0 : ts = [] := by simp [nodeK] at hK; exact hK.1
    exact spel_2 s n ts (by rw [hw, h0]; simp [wordT])
  · have h0 : ts = [] := by simp [nodeK] at hK; exact hK.1
    exact spel_3 s n ts (by rw [hw, h0]; simp [wordT])
  · have h0 : ts = [] := by simp [nodeK] at hK; exact hK.1
    exact spel_4 s n ts (by rw [hw, h0]; simp [wordT])
  · have h0 : ts.isEmpty = false := by simp [nodeK] at hK; cases ts <;> simp_all
    exact spel_arr s n ts (hsub hl) hl (by rw [hw, h0]; simp [wordT])
  · have h0 : ts.isEmpty = false := by simp [nodeK] at hK; cases ts <;> simp_all
    exact spel_weak s n ts (hsub hl) hl (by rw [hw, h0]; simp [wordT])
  · cases ts with
    | nil => exact spel_nom0 s n (by rw [hw]; simp [wordT])
    | cons a l => exact spel_nom s n (a :: l) hsz (by simp) (hsub hl) hl (by rw [hw]; simp [wordT])
  · have h0 : ts = [] := by simp [nodeK] at hK; exact hK.1
    exact spel_par s n ts hsz (by rw [hw, h0]; simp [wordT])
  · have h0 : ts = [] := by simp [nodeK] at hK; exact hK.1
    exact spel_any s n ts hsz (by rw [hw, h0]; simp [wordT])
  · have hK2 := hK
    simp [nodeK] at hK2
    obtain ⟨m, rfl⟩ := Int.eq_ofNat_of_zero_le (show 0 ≤ n by omega)
    exact spel_var s m (by omega) ts (by rw [hw, hK2.1]; simp [wordT])
end Go.Proofs.YtokmaehefenpmaaDoor
