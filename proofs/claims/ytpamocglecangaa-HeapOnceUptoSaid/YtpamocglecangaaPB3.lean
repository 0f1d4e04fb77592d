/- The program's of: whether a value is of the heap. -/
import Derived.Test.YtpamocglecangaaPB2
namespace Go.Proofs.Ytpamocglecangaa
open Go.RowKit Go.Proofs.Ytpamocglecangaa.Nm
set_option linter.unusedSimpArgs false
abbrev Hdr (w : World) (p : Nat) (no nb : Nat) : Prop := ∃ oA oc bA bc m lA ll lc, w.heap[p]? = some (.cells (cellH oA no oc bA nb bc m lA ll lc) 87 (0, 0))
def OfC (p no nb : Nat) (v : Va) : Prop := ∀ (w : World) (D : Nat → Prop) (row : Array Value), VAt w D v row → Hdr w p no nb →
  Calls Try.prog 73 #[.pointer (some ⟨p, 0, none⟩), .agg row] w fun e w' => e = .returned (.bool (ofV no nb v)) ∧ Below w.heap.size w w'
theorem hasK_eq (k : Int) : hasK k = ((k == 5) || ((k == 6) || ((k == 9) || (k == 10)))) := by
  unfold hasK
  rw [Bool.eq_iff_iff]
  simp
set_option maxHeartbeats 8000000 in
set_option maxRecDepth 100000 in
theorem of_any (p no nb : Nat) (hno : no ≤ maxLen) (hnb : nb ≤ maxLen) : ∀ v : Va, OfC p no nb v := Va.ind fun v ih w D row h hh => by
  obtain ⟨oA, oc, bA, bc, m, lA, ll, lc, hh⟩ := hh
  obtain ⟨tr, A2, l2, c2, A3, l3, c3, hr⟩ := h.row
  unfold maxLen at hno hnb
  have HR := Lib.hid hr
  have HI := Lib.hid ih
  have hcm3 := hr.vs.cap
  have hmx3 := hr.vs.max
  unfold maxLen at hmx3
  have HL3 := Lib.hid hr.vs.len
  clear h hr ih
  have hb := Below.refl w.heap.size w
  go_enter Try.func73, Try.ntmps73
  go_upto_region 0 with (fail)
  apply wp_region_lit
  have lthhq := heap_lt hh; (with_reducible refine wl_boxV rfl ?_); intro W q hbn hlq hq; replace hh := below_look hbn hh; replace hb := hb.trans (hbn.mono hb.size); clear hbn; simp only [put_lit, List.set_cons_zero, List.set_cons_succ]
  (with_reducible refine wl_k ?_ ?_); exact rfl; intro K hK; go_simp; refine hK _ ?_; clear hK K
  have hp := hq
  clear hq
  go_upto_region 1 with (fail)
  apply wp_region_lit
  (with_reducible refine wl_k ?_ ?_); exact rfl; intro K hK; go_simp; refine hK _ ?_; clear hK K
  (first | ((with_reducible apply wl_oneG); exact rfl; exact rfl; first | exact vk (by with_reducible assumption) (by with_reducible assumption) | exact vn (by with_reducible assumption) (by with_reducible assumption) | exact vl (by with_reducible assumption) (by with_reducible assumption) | exact vts (by with_reducible assumption) (by with_reducible assumption) | exact vs (by with_reducible assumption) (by with_reducible assumption)) | ((with_reducible apply wl_rowG); exact rfl; exact rfl; first | exact vrow (by with_reducible assumption) (by with_reducible assumption) | exact vt (by with_reducible assumption) (by with_reducible assumption)))
  by_cases h7 : v.kind = 7
  · have e7 : (v.kind == 7) = true := by simp [h7]
    have HK := Lib.hid h7
    clear h7
    go_upto_region 4 with (fail)
    by_cases hn0 : 0 ≤ v.num
    · have hn0g : v.num ≥ 0 := hn0
      by_cases hn1 : v.num < (no : Int)
      · have HF : Hid (ofV no nb v = true) := Lib.hid (by rw [ofV_eq]; simp [HK.out, hn0, hn1])
        refine wp_region_belowAll mixed (by kernel_rfl) ?_
        (with_reducible refine wq_k ?_ ?_); exact rfl; intro K hK; go_simp; (with_reducible refine hK _ ?_); clear hK K
        ((with_reducible apply wq_one); exact rfl; exact rfl; intro w' hw'; first | exact vk (below_look hw' (by with_reducible assumption)) (by with_reducible assumption) | exact vn (below_look hw' (by with_reducible assumption)) (by with_reducible assumption) | exact vl (below_look hw' (by with_reducible assumption)) (by with_reducible assumption) | exact h0 (below_look hw' (by with_reducible assumption)) | exact h1 (below_look hw' (by with_reducible assumption)) | exact h2 (below_look hw' (by with_reducible assumption)) | exact h3 (below_look hw' (by with_reducible assumption)))
        (with_reducible refine wq_k ?_ ?_); exact rfl; intro K hK; go_simp; (with_reducible refine hK _ ?_); clear hK K
        (with_reducible refine wq_k ?_ ?_); exact rfl; intro K hK; go_simp; (with_reducible refine hK _ ?_); clear hK K
        (with_reducible refine wq_k ?_ ?_); exact rfl; intro K hK; go_simp; (with_reducible refine hK _ ?_); clear hK K
        ((with_reducible apply wq_one); exact rfl; exact rfl; intro w' hw'; first | exact vk (below_look hw' (by with_reducible assumption)) (by with_reducible assumption) | exact vn (below_look hw' (by with_reducible assumption)) (by with_reducible assumption) | exact vl (below_look hw' (by with_reducible assumption)) (by with_reducible assumption) | exact h0 (below_look hw' (by with_reducible assumption)) | exact h1 (below_look hw' (by with_reducible assumption)) | exact h2 (below_look hw' (by with_reducible assumption)) | exact h3 (below_look hw' (by with_reducible assumption)))
        (with_reducible refine wq_k ?_ ?_); exact rfl; intro K hK; go_simp; (with_reducible refine hK _ ?_); clear hK K
        (with_reducible refine wq_k ?_ ?_); exact rfl; intro K hK; go_simp; (with_reducible refine hK _ ?_); clear hK K
        (with_reducible refine wq_k ?_ ?_); exact rfl; intro K hK; go_simp; (with_reducible refine hK _ ?_); clear hK K
        ((with_reducible apply wq_one); exact rfl; exact rfl; intro w' hw'; first | exact vk (below_look hw' (by with_reducible assumption)) (by with_reducible assumption) | exact vn (below_look hw' (by with_reducible assumption)) (by with_reducible assumption) | exact vl (below_look hw' (by with_reducible assumption)) (by with_reducible assumption) | exact h0 (below_look hw' (by with_reducible assumption)) | exact h1 (below_look hw' (by with_reducible assumption)) | exact h2 (below_look hw' (by with_reducible assumption)) | exact h3 (below_look hw' (by with_reducible assumption)))
        (with_reducible refine wq_k ?_ ?_); exact rfl; intro K hK; go_simp; (with_reducible refine hK _ ?_); clear hK K
        (with_reducible refine wq_k ?_ ?_); exact rfl; intro K hK; go_simp; (with_reducible refine hK _ ?_); clear hK K
        (with_reducible refine wq_k ?_ ?_); exact rfl; intro K hK; go_simp; (with_reducible refine hK _ ?_); clear hK K
        (with_reducible refine wq_k ?_ ?_); exact rfl; intro K hK; go_simp; (with_reducible refine hK _ ?_); clear hK K
        intro w7 hb7
        replace hb := hb.trans (hb7.mono hb.size)
        clear hb7 hp hh
        go_wp2_with fail
        go_ret
        exact ⟨by rw [HF.out]; rfl, hb⟩
      · have HF : Hid (ofV no nb v = false) := Lib.hid (by rw [ofV_eq]; simp [HK.out, hn0, hn1])
        refine wp_region_belowAll mixed (by kernel_rfl) ?_
        (with_reducible refine wq_k ?_ ?_); exact rfl; intro K hK; go_simp; (with_reducible refine hK _ ?_); clear hK K
        ((with_reducible apply wq_one); exact rfl; exact rfl; intro w' hw'; first | exact vk (below_look hw' (by with_reducible assumption)) (by with_reducible assumption) | exact vn (below_look hw' (by with_reducible assumption)) (by with_reducible assumption) | exact vl (below_look hw' (by with_reducible assumption)) (by with_reducible assumption) | exact h0 (below_look hw' (by with_reducible assumption)) | exact h1 (below_look hw' (by with_reducible assumption)) | exact h2 (below_look hw' (by with_reducible assumption)) | exact h3 (below_look hw' (by with_reducible assumption)))
        (with_reducible refine wq_k ?_ ?_); exact rfl; intro K hK; go_simp; (with_reducible refine hK _ ?_); clear hK K
        (with_reducible refine wq_k ?_ ?_); exact rfl; intro K hK; go_simp; (with_reducible refine hK _ ?_); clear hK K
        (with_reducible refine wq_k ?_ ?_); exact rfl; intro K hK; go_simp; (with_reducible refine hK _ ?_); clear hK K
        ((with_reducible apply wq_one); exact rfl; exact rfl; intro w' hw'; first | exact vk (below_look hw' (by with_reducible assumption)) (by with_reducible assumption) | exact vn (below_look hw' (by with_reducible assumption)) (by with_reducible assumption) | exact vl (below_look hw' (by with_reducible assumption)) (by with_reducible assumption) | exact h0 (below_look hw' (by with_reducible assumption)) | exact h1 (below_look hw' (by with_reducible assumption)) | exact h2 (below_look hw' (by with_reducible assumption)) | exact h3 (below_look hw' (by with_reducible assumption)))
        (with_reducible refine wq_k ?_ ?_); exact rfl; intro K hK; go_simp; (with_reducible refine hK _ ?_); clear hK K
        (with_reducible refine wq_k ?_ ?_); exact rfl; intro K hK; go_simp; (with_reducible refine hK _ ?_); clear hK K
        (with_reducible refine wq_k ?_ ?_); exact rfl; intro K hK; go_simp; (with_reducible refine hK _ ?_); clear hK K
        ((with_reducible apply wq_one); exact rfl; exact rfl; intro w' hw'; first | exact vk (below_look hw' (by with_reducible assumption)) (by with_reducible assumption) | exact vn (below_look hw' (by with_reducible assumption)) (by with_reducible assumption) | exact vl (below_look hw' (by with_reducible assumption)) (by with_reducible assumption) | exact h0 (below_look hw' (by with_reducible assumption)) | exact h1 (below_look hw' (by with_reducible assumption)) | exact h2 (below_look hw' (by with_reducible assumption)) | exact h3 (below_look hw' (by with_reducible assumption)))
        (with_reducible refine wq_k ?_ ?_); exact rfl; intro K hK; go_simp; (with_reducible refine hK _ ?_); clear hK K
        (with_reducible refine wq_k ?_ ?_); exact rfl; intro K hK; go_simp; (with_reducible refine hK _ ?_); clear hK K
        (with_reducible refine wq_k ?_ ?_); exact rfl; intro K hK; go_simp; (with_reducible refine hK _ ?_); clear hK K
        (with_reducible refine wq_k ?_ ?_); exact rfl; intro K hK; go_simp; (with_reducible refine hK _ ?_); clear hK K
        intro w7 hb7
        replace hb := hb.trans (hb7.mono hb.size)
        clear hb7 hp hh
        go_wp2_with fail
        go_ret
        exact ⟨by rw [HF.out]; rfl, hb⟩
    · have hn0g : ¬ v.num ≥ 0 := hn0
      have HF : Hid (ofV no nb v = false) := Lib.hid (by rw [ofV_eq]; simp [HK.out, hn0])
      refine wp_region_belowAll mixed (by kernel_rfl) ?_
      (with_reducible refine wq_k ?_ ?_); exact rfl; intro K hK; go_simp; (with_reducible refine hK _ ?_); clear hK K
      ((with_reducible apply wq_one); exact rfl; exact rfl; intro w' hw'; first | exact vk (below_look hw' (by with_reducible assumption)) (by with_reducible assumption) | exact vn (below_look hw' (by with_reducible assumption)) (by with_reducible assumption) | exact vl (below_look hw' (by with_reducible assumption)) (by with_reducible assumption) | exact h0 (below_look hw' (by with_reducible assumption)) | exact h1 (below_look hw' (by with_reducible assumption)) | exact h2 (below_look hw' (by with_reducible assumption)) | exact h3 (below_look hw' (by with_reducible assumption)))
      (with_reducible refine wq_k ?_ ?_); exact rfl; intro K hK; go_simp; (with_reducible refine hK _ ?_); clear hK K
      (with_reducible refine wq_k ?_ ?_); exact rfl; intro K hK; go_simp; (with_reducible refine hK _ ?_); clear hK K
      (with_reducible refine wq_skip ?_ ?_); exact rfl; simp only [List.getElem_toArray, List.getElem_cons_succ, List.getElem_cons_zero, put_lit, List.set_cons_zero, List.set_cons_succ]
      (with_reducible refine wq_skip ?_ ?_); exact rfl; simp only [List.getElem_toArray, List.getElem_cons_succ, List.getElem_cons_zero, put_lit, List.set_cons_zero, List.set_cons_succ]
      (with_reducible refine wq_skip ?_ ?_); exact rfl; simp only [List.getElem_toArray, List.getElem_cons_succ, List.getElem_cons_zero, put_lit, List.set_cons_zero, List.set_cons_succ]
      (with_reducible refine wq_skip ?_ ?_); exact rfl; simp only [List.getElem_toArray, List.getElem_cons_succ, List.getElem_cons_zero, put_lit, List.set_cons_zero, List.set_cons_succ]
      (with_reducible refine wq_skip ?_ ?_); exact rfl; simp only [List.getElem_toArray, List.getElem_cons_succ, List.getElem_cons_zero, put_lit, List.set_cons_zero, List.set_cons_succ]
      (with_reducible refine wq_skip ?_ ?_); exact rfl; simp only [List.getElem_toArray, List.getElem_cons_succ, List.getElem_cons_zero, put_lit, List.set_cons_zero, List.set_cons_succ]
      (with_reducible refine wq_skip ?_ ?_); exact rfl; simp only [List.getElem_toArray, List.getElem_cons_succ, List.getElem_cons_zero, put_lit, List.set_cons_zero, List.set_cons_succ]
      (with_reducible refine wq_skip ?_ ?_); exact rfl; simp only [List.getElem_toArray, List.getElem_cons_succ, List.getElem_cons_zero, put_lit, List.set_cons_zero, List.set_cons_succ]
      (with_reducible refine wq_k ?_ ?_); exact rfl; intro K hK; go_simp; (with_reducible refine hK _ ?_); clear hK K
      (with_reducible refine wq_k ?_ ?_); exact rfl; intro K hK; go_simp; (with_reducible refine hK _ ?_); clear hK K
      intro w7 hb7
      replace hb := hb.trans (hb7.mono hb.size)
      clear hb7 hp hh
      go_wp2_with fail
      go_ret
      exact ⟨by rw [HF.out]; rfl, hb⟩
  · have e7 : (v.kind == 7) = false := by simp [h7]
    by_cases h11 : v.kind = 11
    · have e11 : (v.kind == 11) = true := by simp [h11]
      have HK := Lib.hid h11
      clear h7 h11
      go_upto_region 4 with (fail)
      by_cases hn0 : 0 ≤ v.num
      · have hn0g : v.num ≥ 0 := hn0
        by_cases hn1 : v.num < (no : Int)
        · have HF : Hid (ofV no nb v = true) := Lib.hid (by rw [ofV_eq]; simp [HK.out, hn0, hn1])
          refine wp_region_belowAll mixed (by kernel_rfl) ?_
          (with_reducible refine wq_k ?_ ?_); exact rfl; intro K hK; go_simp; (with_reducible refine hK _ ?_); clear hK K
          ((with_reducible apply wq_one); exact rfl; exact rfl; intro w' hw'; first | exact vk (below_look hw' (by with_reducible assumption)) (by with_reducible assumption) | exact vn (below_look hw' (by with_reducible assumption)) (by with_reducible assumption) | exact vl (below_look hw' (by with_reducible assumption)) (by with_reducible assumption) | exact h0 (below_look hw' (by with_reducible assumption)) | exact h1 (below_look hw' (by with_reducible assumption)) | exact h2 (below_look hw' (by with_reducible assumption)) | exact h3 (below_look hw' (by with_reducible assumption)))
          (with_reducible refine wq_k ?_ ?_); exact rfl; intro K hK; go_simp; (with_reducible refine hK _ ?_); clear hK K
          (with_reducible refine wq_k ?_ ?_); exact rfl; intro K hK; go_simp; (with_reducible refine hK _ ?_); clear hK K
          (with_reducible refine wq_k ?_ ?_); exact rfl; intro K hK; go_simp; (with_reducible refine hK _ ?_); clear hK K
          ((with_reducible apply wq_one); exact rfl; exact rfl; intro w' hw'; first | exact vk (below_look hw' (by with_reducible assumption)) (by with_reducible assumption) | exact vn (below_look hw' (by with_reducible assumption)) (by with_reducible assumption) | exact vl (below_look hw' (by with_reducible assumption)) (by with_reducible assumption) | exact h0 (below_look hw' (by with_reducible assumption)) | exact h1 (below_look hw' (by with_reducible assumption)) | exact h2 (below_look hw' (by with_reducible assumption)) | exact h3 (below_look hw' (by with_reducible assumption)))
          (with_reducible refine wq_k ?_ ?_); exact rfl; intro K hK; go_simp; (with_reducible refine hK _ ?_); clear hK K
          (with_reducible refine wq_k ?_ ?_); exact rfl; intro K hK; go_simp; (with_reducible refine hK _ ?_); clear hK K
          (with_reducible refine wq_k ?_ ?_); exact rfl; intro K hK; go_simp; (with_reducible refine hK _ ?_); clear hK K
          ((with_reducible apply wq_one); exact rfl; exact rfl; intro w' hw'; first | exact vk (below_look hw' (by with_reducible assumption)) (by with_reducible assumption) | exact vn (below_look hw' (by with_reducible assumption)) (by with_reducible assumption) | exact vl (below_look hw' (by with_reducible assumption)) (by with_reducible assumption) | exact h0 (below_look hw' (by with_reducible assumption)) | exact h1 (below_look hw' (by with_reducible assumption)) | exact h2 (below_look hw' (by with_reducible assumption)) | exact h3 (below_look hw' (by with_reducible assumption)))
          (with_reducible refine wq_k ?_ ?_); exact rfl; intro K hK; go_simp; (with_reducible refine hK _ ?_); clear hK K
          (with_reducible refine wq_k ?_ ?_); exact rfl; intro K hK; go_simp; (with_reducible refine hK _ ?_); clear hK K
          (with_reducible refine wq_k ?_ ?_); exact rfl; intro K hK; go_simp; (with_reducible refine hK _ ?_); clear hK K
          (with_reducible refine wq_k ?_ ?_); exact rfl; intro K hK; go_simp; (with_reducible refine hK _ ?_); clear hK K
          intro w7 hb7
          replace hb := hb.trans (hb7.mono hb.size)
          clear hb7 hp hh
          go_wp2_with fail
          go_ret
          exact ⟨by rw [HF.out]; rfl, hb⟩
        · have HF : Hid (ofV no nb v = false) := Lib.hid (by rw [ofV_eq]; simp [HK.out, hn0, hn1])
          refine wp_region_belowAll mixed (by kernel_rfl) ?_
          (with_reducible refine wq_k ?_ ?_); exact rfl; intro K hK; go_simp; (with_reducible refine hK _ ?_); clear hK K
          ((with_reducible apply wq_one); exact rfl; exact rfl; intro w' hw'; first | exact vk (below_look hw' (by with_reducible assumption)) (by with_reducible assumption) | exact vn (below_look hw' (by with_reducible assumption)) (by with_reducible assumption) | exact vl (below_look hw' (by with_reducible assumption)) (by with_reducible assumption) | exact h0 (below_look hw' (by with_reducible assumption)) | exact h1 (below_look hw' (by with_reducible assumption)) | exact h2 (below_look hw' (by with_reducible assumption)) | exact h3 (below_look hw' (by with_reducible assumption)))
          (with_reducible refine wq_k ?_ ?_); exact rfl; intro K hK; go_simp; (with_reducible refine hK _ ?_); clear hK K
          (with_reducible refine wq_k ?_ ?_); exact rfl; intro K hK; go_simp; (with_reducible refine hK _ ?_); clear hK K
          (with_reducible refine wq_k ?_ ?_); exact rfl; intro K hK; go_simp; (with_reducible refine hK _ ?_); clear hK K
          ((with_reducible apply wq_one); exact rfl; exact rfl; intro w' hw'; first | exact vk (below_look hw' (by with_reducible assumption)) (by with_reducible assumption) | exact vn (below_look hw' (by with_reducible assumption)) (by with_reducible assumption) | exact vl (below_look hw' (by with_reducible assumption)) (by with_reducible assumption) | exact h0 (below_look hw' (by with_reducible assumption)) | exact h1 (below_look hw' (by with_reducible assumption)) | exact h2 (below_look hw' (by with_reducible assumption)) | exact h3 (below_look hw' (by with_reducible assumption)))
          (with_reducible refine wq_k ?_ ?_); exact rfl; intro K hK; go_simp; (with_reducible refine hK _ ?_); clear hK K
          (with_reducible refine wq_k ?_ ?_); exact rfl; intro K hK; go_simp; (with_reducible refine hK _ ?_); clear hK K
          (with_reducible refine wq_k ?_ ?_); exact rfl; intro K hK; go_simp; (with_reducible refine hK _ ?_); clear hK K
          ((with_reducible apply wq_one); exact rfl; exact rfl; intro w' hw'; first | exact vk (below_look hw' (by with_reducible assumption)) (by with_reducible assumption) | exact vn (below_look hw' (by with_reducible assumption)) (by with_reducible assumption) | exact vl (below_look hw' (by with_reducible assumption)) (by with_reducible assumption) | exact h0 (below_look hw' (by with_reducible assumption)) | exact h1 (below_look hw' (by with_reducible assumption)) | exact h2 (below_look hw' (by with_reducible assumption)) | exact h3 (below_look hw' (by with_reducible assumption)))
          (with_reducible refine wq_k ?_ ?_); exact rfl; intro K hK; go_simp; (with_reducible refine hK _ ?_); clear hK K
          (with_reducible refine wq_k ?_ ?_); exact rfl; intro K hK; go_simp; (with_reducible refine hK _ ?_); clear hK K
          (with_reducible refine wq_k ?_ ?_); exact rfl; intro K hK; go_simp; (with_reducible refine hK _ ?_); clear hK K
          (with_reducible refine wq_k ?_ ?_); exact rfl; intro K hK; go_simp; (with_reducible refine hK _ ?_); clear hK K
          intro w7 hb7
          replace hb := hb.trans (hb7.mono hb.size)
          clear hb7 hp hh
          go_wp2_with fail
          go_ret
          exact ⟨by rw [HF.out]; rfl, hb⟩
      · have hn0g : ¬ v.num ≥ 0 := hn0
        have HF : Hid (ofV no nb v = false) := Lib.hid (by rw [ofV_eq]; simp [HK.out, hn0])
        refine wp_region_belowAll mixed (by kernel_rfl) ?_
        (with_reducible refine wq_k ?_ ?_); exact rfl; intro K hK; go_simp; (with_reducible refine hK _ ?_); clear hK K
        ((with_reducible apply wq_one); exact rfl; exact rfl; intro w' hw'; first | exact vk (below_look hw' (by with_reducible assumption)) (by with_reducible assumption) | exact vn (below_look hw' (by with_reducible assumption)) (by with_reducible assumption) | exact vl (below_look hw' (by with_reducible assumption)) (by with_reducible assumption) | exact h0 (below_look hw' (by with_reducible assumption)) | exact h1 (below_look hw' (by with_reducible assumption)) | exact h2 (below_look hw' (by with_reducible assumption)) | exact h3 (below_look hw' (by with_reducible assumption)))
        (with_reducible refine wq_k ?_ ?_); exact rfl; intro K hK; go_simp; (with_reducible refine hK _ ?_); clear hK K
        (with_reducible refine wq_k ?_ ?_); exact rfl; intro K hK; go_simp; (with_reducible refine hK _ ?_); clear hK K
        (with_reducible refine wq_skip ?_ ?_); exact rfl; simp only [List.getElem_toArray, List.getElem_cons_succ, List.getElem_cons_zero, put_lit, List.set_cons_zero, List.set_cons_succ]
        (with_reducible refine wq_skip ?_ ?_); exact rfl; simp only [List.getElem_toArray, List.getElem_cons_succ, List.getElem_cons_zero, put_lit, List.set_cons_zero, List.set_cons_succ]
        (with_reducible refine wq_skip ?_ ?_); exact rfl; simp only [List.getElem_toArray, List.getElem_cons_succ, List.getElem_cons_zero, put_lit, List.set_cons_zero, List.set_cons_succ]
        (with_reducible refine wq_skip ?_ ?_); exact rfl; simp only [List.getElem_toArray, List.getElem_cons_succ, List.getElem_cons_zero, put_lit, List.set_cons_zero, List.set_cons_succ]
        (with_reducible refine wq_skip ?_ ?_); exact rfl; simp only [List.getElem_toArray, List.getElem_cons_succ, List.getElem_cons_zero, put_lit, List.set_cons_zero, List.set_cons_succ]
        (with_reducible refine wq_skip ?_ ?_); exact rfl; simp only [List.getElem_toArray, List.getElem_cons_succ, List.getElem_cons_zero, put_lit, List.set_cons_zero, List.set_cons_succ]
        (with_reducible refine wq_skip ?_ ?_); exact rfl; simp only [List.getElem_toArray, List.getElem_cons_succ, List.getElem_cons_zero, put_lit, List.set_cons_zero, List.set_cons_succ]
        (with_reducible refine wq_skip ?_ ?_); exact rfl; simp only [List.getElem_toArray, List.getElem_cons_succ, List.getElem_cons_zero, put_lit, List.set_cons_zero, List.set_cons_succ]
        (with_reducible refine wq_k ?_ ?_); exact rfl; intro K hK; go_simp; (with_reducible refine hK _ ?_); clear hK K
        (with_reducible refine wq_k ?_ ?_); exact rfl; intro K hK; go_simp; (with_reducible refine hK _ ?_); clear hK K
        intro w7 hb7
        replace hb := hb.trans (hb7.mono hb.size)
        clear hb7 hp hh
        go_wp2_with fail
        go_ret
        exact ⟨by rw [HF.out]; rfl, hb⟩
    · have e11 : (v.kind == 11) = false := by simp [h11]
      by_cases h8 : v.kind = 8
      · have e8 : (v.kind == 8) = true := by simp [h8]
        have HK := Lib.hid h8
        clear h7 h11 h8
        go_upto_region 6 with (fail)
        by_cases hn0 : 0 ≤ v.num
        · have hn0g : v.num ≥ 0 := hn0
          by_cases hn1 : v.num < (nb : Int)
          · have HF : Hid (ofV no nb v = true) := Lib.hid (by rw [ofV_eq]; simp [HK.out, hn0, hn1])
            refine wp_region_belowAll mixed (by kernel_rfl) ?_
            (with_reducible refine wq_k ?_ ?_); exact rfl; intro K hK; go_simp; (with_reducible refine hK _ ?_); clear hK K
            ((with_reducible apply wq_one); exact rfl; exact rfl; intro w' hw'; first | exact vk (below_look hw' (by with_reducible assumption)) (by with_reducible assumption) | exact vn (below_look hw' (by with_reducible assumption)) (by with_reducible assumption) | exact vl (below_look hw' (by with_reducible assumption)) (by with_reducible assumption) | exact h0 (below_look hw' (by with_reducible assumption)) | exact h1 (below_look hw' (by with_reducible assumption)) | exact h2 (below_look hw' (by with_reducible assumption)) | exact h3 (below_look hw' (by with_reducible assumption)))
            (with_reducible refine wq_k ?_ ?_); exact rfl; intro K hK; go_simp; (with_reducible refine hK _ ?_); clear hK K
            (with_reducible refine wq_k ?_ ?_); exact rfl; intro K hK; go_simp; (with_reducible refine hK _ ?_); clear hK K
            (with_reducible refine wq_k ?_ ?_); exact rfl; intro K hK; go_simp; (with_reducible refine hK _ ?_); clear hK K
            ((with_reducible apply wq_one); exact rfl; exact rfl; intro w' hw'; first | exact vk (below_look hw' (by with_reducible assumption)) (by with_reducible assumption) | exact vn (below_look hw' (by with_reducible assumption)) (by with_reducible assumption) | exact vl (below_look hw' (by with_reducible assumption)) (by with_reducible assumption) | exact h0 (below_look hw' (by with_reducible assumption)) | exact h1 (below_look hw' (by with_reducible assumption)) | exact h2 (below_look hw' (by with_reducible assumption)) | exact h3 (below_look hw' (by with_reducible assumption)))
            (with_reducible refine wq_k ?_ ?_); exact rfl; intro K hK; go_simp; (with_reducible refine hK _ ?_); clear hK K
            (with_reducible refine wq_k ?_ ?_); exact rfl; intro K hK; go_simp; (with_reducible refine hK _ ?_); clear hK K
            (with_reducible refine wq_k ?_ ?_); exact rfl; intro K hK; go_simp; (with_reducible refine hK _ ?_); clear hK K
            ((with_reducible apply wq_one); exact rfl; exact rfl; intro w' hw'; first | exact vk (below_look hw' (by with_reducible assumption)) (by with_reducible assumption) | exact vn (below_look hw' (by with_reducible assumption)) (by with_reducible assumption) | exact vl (below_look hw' (by with_reducible assumption)) (by with_reducible assumption) | exact h0 (below_look hw' (by with_reducible assumption)) | exact h1 (below_look hw' (by with_reducible assumption)) | exact h2 (below_look hw' (by with_reducible assumption)) | exact h3 (below_look hw' (by with_reducible assumption)))
            (with_reducible refine wq_k ?_ ?_); exact rfl; intro K hK; go_simp; (with_reducible refine hK _ ?_); clear hK K
            (with_reducible refine wq_k ?_ ?_); exact rfl; intro K hK; go_simp; (with_reducible refine hK _ ?_); clear hK K
            (with_reducible refine wq_k ?_ ?_); exact rfl; intro K hK; go_simp; (with_reducible refine hK _ ?_); clear hK K
            (with_reducible refine wq_k ?_ ?_); exact rfl; intro K hK; go_simp; (with_reducible refine hK _ ?_); clear hK K
            intro w7 hb7
            replace hb := hb.trans (hb7.mono hb.size)
            clear hb7 hp hh
            go_wp2_with fail
            go_ret
            exact ⟨by rw [HF.out]; rfl, hb⟩
          · have HF : Hid (ofV no nb v = false) := Lib.hid (by rw [ofV_eq]; simp [HK.out, hn0, hn1])
            refine wp_region_belowAll mixed (by kernel_rfl) ?_
            (with_reducible refine wq_k ?_ ?_); exact rfl; intro K hK; go_simp; (with_reducible refine hK _ ?_); clear hK K
            ((with_reducible apply wq_one); exact rfl; exact rfl; intro w' hw'; first | exact vk (below_look hw' (by with_reducible assumption)) (by with_reducible assumption) | exact vn (below_look hw' (by with_reducible assumption)) (by with_reducible assumption) | exact vl (below_look hw' (by with_reducible assumption)) (by with_reducible assumption) | exact h0 (below_look hw' (by with_reducible assumption)) | exact h1 (below_look hw' (by with_reducible assumption)) | exact h2 (below_look hw' (by with_reducible assumption)) | exact h3 (below_look hw' (by with_reducible assumption)))
            (with_reducible refine wq_k ?_ ?_); exact rfl; intro K hK; go_simp; (with_reducible refine hK _ ?_); clear hK K
            (with_reducible refine wq_k ?_ ?_); exact rfl; intro K hK; go_simp; (with_reducible refine hK _ ?_); clear hK K
            (with_reducible refine wq_k ?_ ?_); exact rfl; intro K hK; go_simp; (with_reducible refine hK _ ?_); clear hK K
            ((with_reducible apply wq_one); exact rfl; exact rfl; intro w' hw'; first | exact vk (below_look hw' (by with_reducible assumption)) (by with_reducible assumption) | exact vn (below_look hw' (by with_reducible assumption)) (by with_reducible assumption) | exact vl (below_look hw' (by with_reducible assumption)) (by with_reducible assumption) | exact h0 (below_look hw' (by with_reducible assumption)) | exact h1 (below_look hw' (by with_reducible assumption)) | exact h2 (below_look hw' (by with_reducible assumption)) | exact h3 (below_look hw' (by with_reducible assumption)))
            (with_reducible refine wq_k ?_ ?_); exact rfl; intro K hK; go_simp; (with_reducible refine hK _ ?_); clear hK K
            (with_reducible refine wq_k ?_ ?_); exact rfl; intro K hK; go_simp; (with_reducible refine hK _ ?_); clear hK K
            (with_reducible refine wq_k ?_ ?_); exact rfl; intro K hK; go_simp; (with_reducible refine hK _ ?_); clear hK K
            ((with_reducible apply wq_one); exact rfl; exact rfl; intro w' hw'; first | exact vk (below_look hw' (by with_reducible assumption)) (by with_reducible assumption) | exact vn (below_look hw' (by with_reducible assumption)) (by with_reducible assumption) | exact vl (below_look hw' (by with_reducible assumption)) (by with_reducible assumption) | exact h0 (below_look hw' (by with_reducible assumption)) | exact h1 (below_look hw' (by with_reducible assumption)) | exact h2 (below_look hw' (by with_reducible assumption)) | exact h3 (below_look hw' (by with_reducible assumption)))
            (with_reducible refine wq_k ?_ ?_); exact rfl; intro K hK; go_simp; (with_reducible refine hK _ ?_); clear hK K
            (with_reducible refine wq_k ?_ ?_); exact rfl; intro K hK; go_simp; (with_reducible refine hK _ ?_); clear hK K
            (with_reducible refine wq_k ?_ ?_); exact rfl; intro K hK; go_simp; (with_reducible refine hK _ ?_); clear hK K
            (with_reducible refine wq_k ?_ ?_); exact rfl; intro K hK; go_simp; (with_reducible refine hK _ ?_); clear hK K
            intro w7 hb7
            replace hb := hb.trans (hb7.mono hb.size)
            clear hb7 hp hh
            go_wp2_with fail
            go_ret
            exact ⟨by rw [HF.out]; rfl, hb⟩
        · have hn0g : ¬ v.num ≥ 0 := hn0
          have HF : Hid (ofV no nb v = false) := Lib.hid (by rw [ofV_eq]; simp [HK.out, hn0])
          refine wp_region_belowAll mixed (by kernel_rfl) ?_
          (with_reducible refine wq_k ?_ ?_); exact rfl; intro K hK; go_simp; (with_reducible refine hK _ ?_); clear hK K
          ((with_reducible apply wq_one); exact rfl; exact rfl; intro w' hw'; first | exact vk (below_look hw' (by with_reducible assumption)) (by with_reducible assumption) | exact vn (below_look hw' (by with_reducible assumption)) (by with_reducible assumption) | exact vl (below_look hw' (by with_reducible assumption)) (by with_reducible assumption) | exact h0 (below_look hw' (by with_reducible assumption)) | exact h1 (below_look hw' (by with_reducible assumption)) | exact h2 (below_look hw' (by with_reducible assumption)) | exact h3 (below_look hw' (by with_reducible assumption)))
          (with_reducible refine wq_k ?_ ?_); exact rfl; intro K hK; go_simp; (with_reducible refine hK _ ?_); clear hK K
          (with_reducible refine wq_k ?_ ?_); exact rfl; intro K hK; go_simp; (with_reducible refine hK _ ?_); clear hK K
          (with_reducible refine wq_skip ?_ ?_); exact rfl; simp only [List.getElem_toArray, List.getElem_cons_succ, List.getElem_cons_zero, put_lit, List.set_cons_zero, List.set_cons_succ]
          (with_reducible refine wq_skip ?_ ?_); exact rfl; simp only [List.getElem_toArray, List.getElem_cons_succ, List.getElem_cons_zero, put_lit, List.set_cons_zero, List.set_cons_succ]
          (with_reducible refine wq_skip ?_ ?_); exact rfl; simp only [List.getElem_toArray, List.getElem_cons_succ, List.getElem_cons_zero, put_lit, List.set_cons_zero, List.set_cons_succ]
          (with_reducible refine wq_skip ?_ ?_); exact rfl; simp only [List.getElem_toArray, List.getElem_cons_succ, List.getElem_cons_zero, put_lit, List.set_cons_zero, List.set_cons_succ]
          (with_reducible refine wq_skip ?_ ?_); exact rfl; simp only [List.getElem_toArray, List.getElem_cons_succ, List.getElem_cons_zero, put_lit, List.set_cons_zero, List.set_cons_succ]
          (with_reducible refine wq_skip ?_ ?_); exact rfl; simp only [List.getElem_toArray, List.getElem_cons_succ, List.getElem_cons_zero, put_lit, List.set_cons_zero, List.set_cons_succ]
          (with_reducible refine wq_skip ?_ ?_); exact rfl; simp only [List.getElem_toArray, List.getElem_cons_succ, List.getElem_cons_zero, put_lit, List.set_cons_zero, List.set_cons_succ]
          (with_reducible refine wq_skip ?_ ?_); exact rfl; simp only [List.getElem_toArray, List.getElem_cons_succ, List.getElem_cons_zero, put_lit, List.set_cons_zero, List.set_cons_succ]
          (with_reducible refine wq_k ?_ ?_); exact rfl; intro K hK; go_simp; (with_reducible refine hK _ ?_); clear hK K
          (with_reducible refine wq_k ?_ ?_); exact rfl; intro K hK; go_simp; (with_reducible refine hK _ ?_); clear hK K
          intro w7 hb7
          replace hb := hb.trans (hb7.mono hb.size)
          clear hb7 hp hh
          go_wp2_with fail
          go_ret
          exact ⟨by rw [HF.out]; rfl, hb⟩
      · have e8 : (v.kind == 8) = false := by simp [h8]
        have HE : Hid (ofV no nb v = if hasK v.kind then ofVs no nb v.parts else decide (0 ≤ v.kind ∧ v.kind ≤ 4)) := Lib.hid (by rw [ofV_eq]; simp [h7, h11, h8])
        clear h7 h11 h8
        obtain ⟨c0, hc0⟩ : ∃ b : Bool, b = (v.kind == 0) := ⟨_, rfl⟩
        obtain ⟨c1, hc1⟩ : ∃ b : Bool, b = (v.kind == 1) := ⟨_, rfl⟩
        obtain ⟨c4, hc4⟩ : ∃ b : Bool, b = (v.kind == 2) := ⟨_, rfl⟩
        obtain ⟨c5, hc5⟩ : ∃ b : Bool, b = (v.kind == 3) := ⟨_, rfl⟩
        obtain ⟨c6, hc6⟩ : ∃ b : Bool, b = (v.kind == 4) := ⟨_, rfl⟩
        have d0 := hc0.symm
        have d1 := hc1.symm
        have d2 := hc4.symm
        have d3 := hc5.symm
        have d4 := hc6.symm
        obtain ⟨q40, hq40⟩ : ∃ b : Bool, b = (c0 || (c1 || (c4 || (c5 || c6)))) := ⟨_, rfl⟩
        have HQ := Lib.hid hq40
        have HD : Hid (q40 = decide (0 ≤ v.kind ∧ v.kind ≤ 4)) := Lib.hid (by
          rw [hq40, hc0, hc1, hc4, hc5, hc6, Bool.eq_iff_iff]
          simp
          omega)
        clear hc0 hc1 hc4 hc5 hc6 hq40
        go_upto_if 40 with (fail)
        go_cut [40] (fun s40 wx => s40 = .bool q40 ∧ W = wx)
        case first =>
          cases c0 <;> cases c1 <;> cases c4 <;> cases c5 <;> cases c6
          all_goals
            go_wp2_with fail
            go_meet
            exact ⟨by rw [HQ.out]; rfl, rfl⟩
        case rest =>
          obtain ⟨rfl, rfl⟩ := hcut
          clear d0 d1 d2 d3 d4 HQ
          cases q40 with
          | true =>
            have HF : Hid (ofV no nb v = true) := Lib.hid (by
              have h1 := of_decide_eq_true HD.out.symm
              rw [HE.out, if_neg (by unfold hasK; simp; omega)]
              exact HD.out.symm)
            clear hp hh
            go_upto_region 12 with (fail)
            apply wp_region_lit
            (with_reducible refine wl_k ?_ ?_); exact rfl; intro K hK; go_simp; refine hK _ ?_; clear hK K
            go_wp2_with fail
            go_ret
            exact ⟨by rw [HF.out]; rfl, hb⟩
          | false =>
            obtain ⟨f5, hf5⟩ : ∃ b : Bool, b = (v.kind == 5) := ⟨_, rfl⟩
            obtain ⟨f6, hf6⟩ : ∃ b : Bool, b = (v.kind == 6) := ⟨_, rfl⟩
            obtain ⟨f9, hf9⟩ : ∃ b : Bool, b = (v.kind == 9) := ⟨_, rfl⟩
            obtain ⟨f10, hf10⟩ : ∃ b : Bool, b = (v.kind == 10) := ⟨_, rfl⟩
            have d5 := hf5.symm
            have d6 := hf6.symm
            have d9 := hf9.symm
            have d10 := hf10.symm
            obtain ⟨q46, hq46⟩ : ∃ b : Bool, b = (f5 || (f6 || (f9 || f10))) := ⟨_, rfl⟩
            have HQ := Lib.hid hq46
            have HK : Hid (q46 = hasK v.kind) := Lib.hid (by rw [hq46, hasK_eq, hf5, hf6, hf9, hf10])
            clear hf5 hf6 hf9 hf10 hq46
            go_upto_if 46 with (fail)
            go_cut [46] (fun s46 wx => s46 = .bool q46 ∧ W = wx)
            case first =>
              cases f5 <;> cases f6 <;> cases f9 <;> cases f10
              all_goals
                go_wp2_with fail
                go_meet
                exact ⟨by rw [HQ.out]; rfl, rfl⟩
            case rest =>
              obtain ⟨rfl, rfl⟩ := hcut
              clear d5 d6 d9 d10 HQ
              cases q46 with
              | false =>
                have HF : Hid (ofV no nb v = false) := Lib.hid (by rw [HE.out, ← HK.out, if_neg (by simp)]; exact HD.out.symm)
                clear hp hh
                go_upto_region 24 with (fail)
                apply wp_region_lit
                (with_reducible refine wl_k ?_ ?_); exact rfl; intro K hK; go_simp; refine hK _ ?_; clear hK K
                go_wp2_with fail
                go_ret
                exact ⟨by rw [HF.out]; rfl, hb⟩
              | true =>
                have HF : Hid (ofV no nb v = ofVs no nb (v.parts.drop 0)) := Lib.hid (by rw [HE.out, ← HK.out, if_pos rfl]; rfl)
                go_upto_region 17 with (fail)
                apply wp_region_lit
                (with_reducible refine wl_k ?_ ?_); exact rfl; intro K hK; go_simp; refine hK _ ?_; clear hK K
                (first | ((with_reducible apply wl_oneG); exact rfl; exact rfl; first | exact vk (by with_reducible assumption) (by with_reducible assumption) | exact vn (by with_reducible assumption) (by with_reducible assumption) | exact vl (by with_reducible assumption) (by with_reducible assumption) | exact vts (by with_reducible assumption) (by with_reducible assumption) | exact vs (by with_reducible assumption) (by with_reducible assumption)) | ((with_reducible apply wl_rowG); exact rfl; exact rfl; first | exact vrow (by with_reducible assumption) (by with_reducible assumption) | exact vt (by with_reducible assumption) (by with_reducible assumption)))
                (with_reducible refine wl_k ?_ ?_); exact rfl; intro K hK; go_simp; refine hK _ ?_; clear hK K
                (with_reducible refine wl_k ?_ ?_); exact rfl; intro K hK; go_simp; refine hK _ ?_; clear hK K
                go_wp2_with fail
                go_loopw [54] (fun i wr => ∃ j : Nat, j ≤ l3 ∧ i = .int .i64 (j : Int) ∧ Hid (ofV no nb v = ofVs no nb (v.parts.drop j)) ∧ Below w.heap.size w wr ∧ wr.heap[p]? = some (.cells (cellH oA no oc bA nb bc m lA ll lc) 87 (0, 0))) (fun i _ => l3 - (intOf i).toNat)
                case atStart => exact ⟨0, by omega, rfl, HF, hb, hh⟩
                case round =>
                  clear hb hh HF
                  obtain ⟨j, hj, rfl, HF, hb, hh⟩ := hrel
                  go_upto_region 18 with (fail)
                  by_cases hlt : j < l3
                  · have hltI : (j : Int) < (l3 : Int) := by omega
                    obtain ⟨b2, off2, u, rowu, rfl, -, hu, hua, hrow⟩ := (HR.out.vs.old hb).getB hlt
                    have HST := Lib.hid (ofVs_step (no := no) (nb := nb) hu)
                    have HIU := Lib.hid (HI.out u (List.mem_of_getElem? hu))
                    have HUA := Lib.hid hua
                    have HRU := Lib.hid (hrow wr (Below.refl _ _))
                    have hus : rowu.size = 9 := hua.size
                    have hu1 : rowu.all (·.oneCell') = true := hua.one
                    have hzz := Below.refl wr.heap.size wr
                    clear hu hua hrow
                    obtain ⟨tr5, A5, l5, c5, A6, l6, c6, hru⟩ := HUA.out.row
                    have HRV := Lib.hid hru
                    clear hru
                    apply wp_region_lit
                    (with_reducible refine wl_k ?_ ?_); exact rfl; intro K hK; go_simp; refine hK _ ?_; clear hK K
                    go_upto_region 19 with (fail)
                    apply wp_region_lit
                    (with_reducible refine wl_k ?_ ?_); exact rfl; intro K hK; go_simp; refine hK _ ?_; clear hK K
                    ((with_reducible apply wl_rowG); exact rfl; exact rfl; exact HRU.out)
                    have lthhq5 := heap_lt hh; (with_reducible refine wl_allV ?_); intro W5 q5 hbn hlq5 hq5; replace hh := below_look hbn hh; replace hzz := hzz.trans (hbn.mono hzz.size); clear hbn; simp only [put_lit, List.set_cons_zero, List.set_cons_succ]
                    (with_reducible refine wl_putV hus hu1 rfl rfl rfl hq5 ?_); rw [put_noneA]; intro W6 hbx hsz hkx hnx; have hh5 := heap_lt hh; replace hh := (hkx _ (by omega)).trans hh; replace hzz := hbx _ _ (by omega) hzz; clear hq5; have hq5 := hnx; clear hnx
                    clear hbx hkx hsz hus hu1
                    obtain ⟨bb, hbb⟩ : ∃ b, b = ofV no nb u := ⟨_, rfl⟩
                    have hc := HIU.out W6 _ _ (HUA.out.old hzz) ⟨_, _, _, _, _, _, _, _, hh⟩
                    rw [← hbb] at hc HST
                    have HC := Lib.hid hc
                    clear hc hbb hp
                    go_upto_region 20 with (fail)
                    apply wp_region_lit
                    (with_reducible refine wl_k ?_ ?_); exact rfl; intro K hK; go_simp; refine hK _ ?_; clear hK K
                    (first | ((with_reducible apply wl_oneG); exact rfl; exact rfl; first | exact vk (by with_reducible assumption) (by with_reducible assumption) | exact vn (by with_reducible assumption) (by with_reducible assumption) | exact vl (by with_reducible assumption) (by with_reducible assumption) | exact vts (by with_reducible assumption) (by with_reducible assumption) | exact vs (by with_reducible assumption) (by with_reducible assumption)) | ((with_reducible apply wl_rowG); exact rfl; exact rfl; first | exact vrow (by with_reducible assumption) (by with_reducible assumption) | exact vt (by with_reducible assumption) (by with_reducible assumption)))
                    (with_reducible refine wl_ck ?_ ?_); exact rfl; intro K hK; go_simp; refine ⟨_, _, ⟨rfl, rfl⟩, hK _ _ ⟨_, HC.out, ?_⟩⟩; clear hK K; rintro e w7 ⟨rfl, hb7⟩; refine ⟨_, rfl, ?_⟩; simp only [put_lit, List.set_cons_zero, List.set_cons_succ]
                    replace hh := below_look hb7 hh; replace hzz := hzz.trans (hb7.mono hzz.size); clear hb7
                    (with_reducible refine wl_k ?_ ?_); exact rfl; intro K hK; go_simp; refine hK _ ?_; clear hK K
                    replace hb := hb.trans (hzz.mono hb.size)
                    clear HC hq5 hzz
                    cases bb with
                    | false =>
                      have HF2 : Hid (ofV no nb v = false) := Lib.hid (by rw [HF.out, HST.out]; rfl)
                      clear hh HF HST
                      go_upto_region 21 with (fail)
                      apply wp_region_lit
                      (with_reducible refine wl_k ?_ ?_); exact rfl; intro K hK; go_simp; refine hK _ ?_; clear hK K
                      go_wp2_with fail
                      go_ret
                      exact ⟨by rw [HF2.out]; rfl, hb⟩
                    | true =>
                      have HF2 : Hid (ofV no nb v = ofVs no nb (v.parts.drop (j + 1))) := Lib.hid (by rw [HF.out, HST.out]; rfl)
                      clear HF HST
                      go_wp2_with fail
                      go_roundw
                      case rel => exact ⟨j + 1, by omega, by go_num, HF2, hb, hh⟩
                      case measure => simp [intOf]; omega
                  · have hltI : ¬ (j : Int) < (l3 : Int) := by omega
                    have HF2 : Hid (ofV no nb v = true) := Lib.hid (by rw [HF.out, List.drop_of_length_le (by rw [HL3.out]; omega), ofVs])
                    apply wp_region_lit
                    (with_reducible refine wl_k ?_ ?_); exact rfl; intro K hK; go_simp; refine hK _ ?_; clear hK K
                    clear hh HF
                    go_upto_region 23 with (fail)
                    apply wp_region_lit
                    (with_reducible refine wl_k ?_ ?_); exact rfl; intro K hK; go_simp; refine hK _ ?_; clear hK K
                    go_wp2_with fail
                    go_ret
                    exact ⟨by rw [HF2.out]; rfl, hb⟩
end Go.Proofs.Ytpamocglecangaa
