/- The document's Apply: a tree in which variables are replaced. -/
import Derived.Deep.DeepCutAuto
import Derived.Test.YtokmaehefenpmaaDoorPE8
import Derived.Test.YtokmaehefenpmaaDoorPE2
namespace Go.Proofs.YtokmaehefenpmaaDoor
open Go.RowKit Go.Proofs.YtokmaehefenpmaaDoor.Nm
set_option linter.unusedSimpArgs false
def ApplyC (sol : List Ty) (t : Ty) : Prop := t.nodes ≤ 1000000 → ∀ (w : World) (D : Nat → Prop) (row : Array Value), TyAt w D t row → ∀ (D2 : Nat → Prop) (A : Option Addr) (l c : Nat), TysAt w D2 sol A l c →
  Calls Tryd.prog 23 #[.agg row, .slice A l c] w (NewTy w (applyTy sol t))
theorem built24b (k : Int) (s : ByteArray) (n : Int) : Tryd.prog.built 24 [(0, .int .i64 k), (1, .string s), (2, .int .i64 n)] = some (cell4 k s n none 0 0) := by kernel_rfl
set_option maxHeartbeats 4000000 in
set_option maxRecDepth 100000 in
theorem ApplyI_any (sol : List Ty) (hnl : ∀ u, u ∈ sol → u.nodes ≤ 1000000) : ∀ t : Ty, ApplyC sol t := Ty.ind fun k s n ts ih hnd w D row h D2 A2 l2 c2 h2 => by
  obtain ⟨k1, s1, n1, A, l, c, ts1, e, rfl, hk, hn, hs, hT⟩ := h.parts
  cases e
  have HT := Lib.hid hT
  have HL := Lib.hid hT.len
  have hcm := hT.cap
  have hmx := hT.max
  unfold maxLen at hmx
  have hl6 : l ≤ 1000000 := by have := len_nodesL ts; have := hT.len; simp only [Ty.nodes] at hnd; omega
  have HK := Lib.hid (show (Lit.int .i64 k).wf = true ∧ (Lit.int .i64 n).wf = true ∧ s.size ≤ maxLen from ⟨hk, hn, hs⟩)
  have HI := Lib.hid (fun t (ht : t ∈ ts) => ih t ht (by have := mem_nodesL ht; simp only [Ty.nodes] at hnd; omega))
  have H2 := Lib.hid h2
  have HL2 := Lib.hid h2.len
  have HNL := Lib.hid hnl
  have hcm2 := h2.cap
  have hmx2 := h2.max
  unfold maxLen at hmx2
  clear h hk hn hs hT ih hnd h2 hnl
  have hb := Below.refl w.heap.size w
  go_enter Tryd.func23, Tryd.ntmps23
  go_upto_region 0 with (fail)
  apply wp_region_lit
  (with_reducible refine wl_box rfl ?_); intro W p hbn hlp hp; replace hb := hb.trans (hbn.mono hb.size); clear hbn; simp only [Zq]
  have lthpr := heap_lt hp; (with_reducible refine wl_all ?_); intro W2 r hbn hlr hr; replace hp := below_look hbn hp; replace hb := hb.trans (hbn.mono hb.size); clear hbn; simp only [Zq]
  go_upto_region 1 with (fail)
  obtain ⟨fd, hfd⟩ : ∃ b, b = (selVar sol (.node k s n ts)).isSome := ⟨_, rfl⟩
  have HFD := Lib.hid hfd
  clear hfd
  go_cut [30] (fun s30 wx => s30 = .bool fd ∧ W2 = wx)
  case first =>
    by_cases h1 : k = 12
    · have e1 : (k == 12) = true := by simp [h1]
      by_cases h3 : 0 ≤ n
      · obtain ⟨m, rfl⟩ := Int.eq_ofNat_of_zero_le h3
        have e3 : (m : Int) ≥ 0 := by omega
        by_cases h4 : m < l2
        · have e5 : (m : Int) < (l2 : Int) := by omega
          obtain ⟨b, off, u, row, rfl, -, hu, -⟩ := H2.out.get h4
          have hkd := (H2.out.old hb).kind hu
          by_cases h5 : u.kind = 0
          · have e6 : (u.kind != 0) = false := by simp [h5]
            obtain rfl : fd = false := by rw [HFD.out, selVar_node, if_pos ⟨h1, h3⟩, Int.toNat_natCast, hu, Option.bind_some, if_pos h5]; rfl
            clear h1 h5 hu
            apply wp_region_lit
            (with_reducible refine wl_k ?_ ?_); exact rfl; intro K hK; go_simp; refine hK _ ?_; clear hK K
            (first | ((with_reducible apply wl_oneG); exact rfl; exact rfl; first | exact f0 (by with_reducible assumption) | exact f1 (by with_reducible assumption) | exact f2 (by with_reducible assumption) | exact f3 (by with_reducible assumption) | with_reducible assumption | exact g22 (by with_reducible assumption) | exact g25 (by with_reducible assumption)) | ((with_reducible apply wl_rowG); exact rfl; exact rfl; first | with_reducible assumption | exact RowK.now (by with_reducible assumption) | exact f4 (by with_reducible assumption)))
            (with_reducible refine wl_k ?_ ?_); exact rfl; intro K hK; go_simp; refine hK _ ?_; clear hK K
            (with_reducible refine wl_k ?_ ?_); exact rfl; intro K hK; go_simp; refine hK _ ?_; clear hK K
            (with_reducible refine wl_k ?_ ?_); exact rfl; intro K hK; go_simp; refine hK _ ?_; clear hK K
            (first | ((with_reducible apply wl_oneG); exact rfl; exact rfl; first | exact f0 (by with_reducible assumption) | exact f1 (by with_reducible assumption) | exact f2 (by with_reducible assumption) | exact f3 (by with_reducible assumption) | with_reducible assumption | exact g22 (by with_reducible assumption) | exact g25 (by with_reducible assumption)) | ((with_reducible apply wl_rowG); exact rfl; exact rfl; first | with_reducible assumption | exact RowK.now (by with_reducible assumption) | exact f4 (by with_reducible assumption)))
            (with_reducible refine wl_k ?_ ?_); exact rfl; intro K hK; go_simp; refine hK _ ?_; clear hK K
            (with_reducible refine wl_k ?_ ?_); exact rfl; intro K hK; go_simp; refine hK _ ?_; clear hK K
            (with_reducible refine wl_k ?_ ?_); exact rfl; intro K hK; go_simp; refine hK _ ?_; clear hK K
            (with_reducible refine wl_k ?_ ?_); exact rfl; intro K hK; go_simp; refine hK _ ?_; clear hK K
            (first | ((with_reducible apply wl_oneG); exact rfl; exact rfl; first | exact f0 (by with_reducible assumption) | exact f1 (by with_reducible assumption) | exact f2 (by with_reducible assumption) | exact f3 (by with_reducible assumption) | with_reducible assumption | exact g22 (by with_reducible assumption) | exact g25 (by with_reducible assumption)) | ((with_reducible apply wl_rowG); exact rfl; exact rfl; first | with_reducible assumption | exact RowK.now (by with_reducible assumption) | exact f4 (by with_reducible assumption)))
            (with_reducible refine wl_k ?_ ?_); exact rfl; intro K hK; go_simp; refine hK _ ?_; clear hK K
            (with_reducible refine wl_k ?_ ?_); exact rfl; intro K hK; go_simp; refine hK _ ?_; clear hK K
            (with_reducible refine wl_k ?_ ?_); exact rfl; intro K hK; go_simp; refine hK _ ?_; clear hK K
            (with_reducible refine wl_k ?_ ?_); exact rfl; intro K hK; go_simp; refine hK _ ?_; clear hK K
            (with_reducible refine wl_k ?_ ?_); exact rfl; intro K hK; go_simp; refine hK _ ?_; clear hK K
            (with_reducible refine wl_k ?_ ?_); exact rfl; intro K hK; go_simp; refine hK _ ?_; clear hK K
            (with_reducible refine wl_k ?_ ?_); exact rfl; intro K hK; go_simp; refine hK _ ?_; clear hK K
            (first | ((with_reducible apply wl_oneG); exact rfl; exact rfl; first | exact f0 (by with_reducible assumption) | exact f1 (by with_reducible assumption) | exact f2 (by with_reducible assumption) | exact f3 (by with_reducible assumption) | with_reducible assumption | exact g22 (by with_reducible assumption) | exact g25 (by with_reducible assumption)) | ((with_reducible apply wl_rowG); exact rfl; exact rfl; first | with_reducible assumption | exact RowK.now (by with_reducible assumption) | exact f4 (by with_reducible assumption)))
            (with_reducible refine wl_k ?_ ?_); exact rfl; intro K hK; go_simp; refine hK _ ?_; clear hK K
            (with_reducible refine wl_k ?_ ?_); exact rfl; intro K hK; go_simp; refine hK _ ?_; clear hK K
            (first | ((with_reducible apply wl_oneG); exact rfl; exact rfl; first | exact f0 (by with_reducible assumption) | exact f1 (by with_reducible assumption) | exact f2 (by with_reducible assumption) | exact f3 (by with_reducible assumption) | with_reducible assumption | exact g22 (by with_reducible assumption) | exact g25 (by with_reducible assumption)) | ((with_reducible apply wl_rowG); exact rfl; exact rfl; first | with_reducible assumption | exact RowK.now (by with_reducible assumption) | exact f4 (by with_reducible assumption)))
            (with_reducible refine wl_k ?_ ?_); exact rfl; intro K hK; go_simp; refine hK _ ?_; clear hK K
            (with_reducible refine wl_k ?_ ?_); exact rfl; intro K hK; go_simp; refine hK _ ?_; clear hK K
            go_wp2_with fail
            go_meet
            exact ⟨rfl, rfl⟩
          · have e6 : (u.kind != 0) = true := by simp [h5]
            obtain rfl : fd = true := by rw [HFD.out, selVar_node, if_pos ⟨h1, h3⟩, Int.toNat_natCast, hu, Option.bind_some, if_neg h5]; rfl
            clear h1 h5 hu
            apply wp_region_lit
            (with_reducible refine wl_k ?_ ?_); exact rfl; intro K hK; go_simp; refine hK _ ?_; clear hK K
            (first | ((with_reducible apply wl_oneG); exact rfl; exact rfl; first | exact f0 (by with_reducible assumption) | exact f1 (by with_reducible assumption) | exact f2 (by with_reducible assumption) | exact f3 (by with_reducible assumption) | with_reducible assumption | exact g22 (by with_reducible assumption) | exact g25 (by with_reducible assumption)) | ((with_reducible apply wl_rowG); exact rfl; exact rfl; first | with_reducible assumption | exact RowK.now (by with_reducible assumption) | exact f4 (by with_reducible assumption)))
            (with_reducible refine wl_k ?_ ?_); exact rfl; intro K hK; go_simp; refine hK _ ?_; clear hK K
            (with_reducible refine wl_k ?_ ?_); exact rfl; intro K hK; go_simp; refine hK _ ?_; clear hK K
            (with_reducible refine wl_k ?_ ?_); exact rfl; intro K hK; go_simp; refine hK _ ?_; clear hK K
            (first | ((with_reducible apply wl_oneG); exact rfl; exact rfl; first | exact f0 (by with_reducible assumption) | exact f1 (by with_reducible assumption) | exact f2 (by with_reducible assumption) | exact f3 (by with_reducible assumption) | with_reducible assumption | exact g22 (by with_reducible assumption) | exact g25 (by with_reducible assumption)) | ((with_reducible apply wl_rowG); exact rfl; exact rfl; first | with_reducible assumption | exact RowK.now (by with_reducible assumption) | exact f4 (by with_reducible assumption)))
            (with_reducible refine wl_k ?_ ?_); exact rfl; intro K hK; go_simp; refine hK _ ?_; clear hK K
            (with_reducible refine wl_k ?_ ?_); exact rfl; intro K hK; go_simp; refine hK _ ?_; clear hK K
            (with_reducible refine wl_k ?_ ?_); exact rfl; intro K hK; go_simp; refine hK _ ?_; clear hK K
            (with_reducible refine wl_k ?_ ?_); exact rfl; intro K hK; go_simp; refine hK _ ?_; clear hK K
            (first | ((with_reducible apply wl_oneG); exact rfl; exact rfl; first | exact f0 (by with_reducible assumption) | exact f1 (by with_reducible assumption) | exact f2 (by with_reducible assumption) | exact f3 (by with_reducible assumption) | with_reducible assumption | exact g22 (by with_reducible assumption) | exact g25 (by with_reducible assumption)) | ((with_reducible apply wl_rowG); exact rfl; exact rfl; first | with_reducible assumption | exact RowK.now (by with_reducible assumption) | exact f4 (by with_reducible assumption)))
            (with_reducible refine wl_k ?_ ?_); exact rfl; intro K hK; go_simp; refine hK _ ?_; clear hK K
            (with_reducible refine wl_k ?_ ?_); exact rfl; intro K hK; go_simp; refine hK _ ?_; clear hK K
            (with_reducible refine wl_k ?_ ?_); exact rfl; intro K hK; go_simp; refine hK _ ?_; clear hK K
            (with_reducible refine wl_k ?_ ?_); exact rfl; intro K hK; go_simp; refine hK _ ?_; clear hK K
            (with_reducible refine wl_k ?_ ?_); exact rfl; intro K hK; go_simp; refine hK _ ?_; clear hK K
            (with_reducible refine wl_k ?_ ?_); exact rfl; intro K hK; go_simp; refine hK _ ?_; clear hK K
            (with_reducible refine wl_k ?_ ?_); exact rfl; intro K hK; go_simp; refine hK _ ?_; clear hK K
            (first | ((with_reducible apply wl_oneG); exact rfl; exact rfl; first | exact f0 (by with_reducible assumption) | exact f1 (by with_reducible assumption) | exact f2 (by with_reducible assumption) | exact f3 (by with_reducible assumption) | with_reducible assumption | exact g22 (by with_reducible assumption) | exact g25 (by with_reducible assumption)) | ((with_reducible apply wl_rowG); exact rfl; exact rfl; first | with_reducible assumption | exact RowK.now (by with_reducible assumption) | exact f4 (by with_reducible assumption)))
            (with_reducible refine wl_k ?_ ?_); exact rfl; intro K hK; go_simp; refine hK _ ?_; clear hK K
            (with_reducible refine wl_k ?_ ?_); exact rfl; intro K hK; go_simp; refine hK _ ?_; clear hK K
            (first | ((with_reducible apply wl_oneG); exact rfl; exact rfl; first | exact f0 (by with_reducible assumption) | exact f1 (by with_reducible assumption) | exact f2 (by with_reducible assumption) | exact f3 (by with_reducible assumption) | with_reducible assumption | exact g22 (by with_reducible assumption) | exact g25 (by with_reducible assumption)) | ((with_reducible apply wl_rowG); exact rfl; exact rfl; first | with_reducible assumption | exact RowK.now (by with_reducible assumption) | exact f4 (by with_reducible assumption)))
            (with_reducible refine wl_k ?_ ?_); exact rfl; intro K hK; go_simp; refine hK _ ?_; clear hK K
            (with_reducible refine wl_k ?_ ?_); exact rfl; intro K hK; go_simp; refine hK _ ?_; clear hK K
            go_wp2_with fail
            go_meet
            exact ⟨rfl, rfl⟩
        · have e4 : ¬ (m : Int) < (l2 : Int) := by omega
          obtain rfl : fd = false := by rw [HFD.out, selVar_node, if_pos ⟨h1, h3⟩, Int.toNat_natCast, List.getElem?_eq_none (show sol.length ≤ m by rw [HL2.out]; omega)]; rfl
          clear h1
          apply wp_region_lit
          (with_reducible refine wl_k ?_ ?_); exact rfl; intro K hK; go_simp; refine hK _ ?_; clear hK K
          (first | ((with_reducible apply wl_oneG); exact rfl; exact rfl; first | exact f0 (by with_reducible assumption) | exact f1 (by with_reducible assumption) | exact f2 (by with_reducible assumption) | exact f3 (by with_reducible assumption) | with_reducible assumption | exact g22 (by with_reducible assumption) | exact g25 (by with_reducible assumption)) | ((with_reducible apply wl_rowG); exact rfl; exact rfl; first | with_reducible assumption | exact RowK.now (by with_reducible assumption) | exact f4 (by with_reducible assumption)))
          (with_reducible refine wl_k ?_ ?_); exact rfl; intro K hK; go_simp; refine hK _ ?_; clear hK K
          (with_reducible refine wl_k ?_ ?_); exact rfl; intro K hK; go_simp; refine hK _ ?_; clear hK K
          (with_reducible refine wl_k ?_ ?_); exact rfl; intro K hK; go_simp; refine hK _ ?_; clear hK K
          (first | ((with_reducible apply wl_oneG); exact rfl; exact rfl; first | exact f0 (by with_reducible assumption) | exact f1 (by with_reducible assumption) | exact f2 (by with_reducible assumption) | exact f3 (by with_reducible assumption) | with_reducible assumption | exact g22 (by with_reducible assumption) | exact g25 (by with_reducible assumption)) | ((with_reducible apply wl_rowG); exact rfl; exact rfl; first | with_reducible assumption | exact RowK.now (by with_reducible assumption) | exact f4 (by with_reducible assumption)))
          (with_reducible refine wl_k ?_ ?_); exact rfl; intro K hK; go_simp; refine hK _ ?_; clear hK K
          (with_reducible refine wl_k ?_ ?_); exact rfl; intro K hK; go_simp; refine hK _ ?_; clear hK K
          (with_reducible refine wl_k ?_ ?_); exact rfl; intro K hK; go_simp; refine hK _ ?_; clear hK K
          (with_reducible refine wl_k ?_ ?_); exact rfl; intro K hK; go_simp; refine hK _ ?_; clear hK K
          (first | ((with_reducible apply wl_oneG); exact rfl; exact rfl; first | exact f0 (by with_reducible assumption) | exact f1 (by with_reducible assumption) | exact f2 (by with_reducible assumption) | exact f3 (by with_reducible assumption) | with_reducible assumption | exact g22 (by with_reducible assumption) | exact g25 (by with_reducible assumption)) | ((with_reducible apply wl_rowG); exact rfl; exact rfl; first | with_reducible assumption | exact RowK.now (by with_reducible assumption) | exact f4 (by with_reducible assumption)))
          (with_reducible refine wl_k ?_ ?_); exact rfl; intro K hK; go_simp; refine hK _ ?_; clear hK K
          (with_reducible refine wl_k ?_ ?_); exact rfl; intro K hK; go_simp; refine hK _ ?_; clear hK K
          (with_reducible refine wl_k ?_ ?_); exact rfl; intro K hK; go_simp; refine hK _ ?_; clear hK K
          (with_reducible refine wl_k ?_ ?_); exact rfl; intro K hK; go_simp; refine hK _ ?_; clear hK K
          (with_reducible refine wl_k ?_ ?_); exact rfl; intro K hK; go_simp; refine hK _ ?_; clear hK K
          (first | ((with_reducible refine wl_skipU ?_ ?_ ?_); exact rfl; exact rfl) | ((with_reducible refine wl_skip ?_ ?_); exact rfl; simp only [Zq]))
          (first | ((with_reducible refine wl_skipU ?_ ?_ ?_); exact rfl; exact rfl) | ((with_reducible refine wl_skip ?_ ?_); exact rfl; simp only [Zq]))
          (first | ((with_reducible refine wl_skipU ?_ ?_ ?_); exact rfl; exact rfl) | ((with_reducible refine wl_skip ?_ ?_); exact rfl; simp only [Zq]))
          (first | ((with_reducible refine wl_skipU ?_ ?_ ?_); exact rfl; exact rfl) | ((with_reducible refine wl_skip ?_ ?_); exact rfl; simp only [Zq]))
          (first | ((with_reducible refine wl_skipU ?_ ?_ ?_); exact rfl; exact rfl) | ((with_reducible refine wl_skip ?_ ?_); exact rfl; simp only [Zq]))
          (first | ((with_reducible refine wl_skipU ?_ ?_ ?_); exact rfl; exact rfl) | ((with_reducible refine wl_skip ?_ ?_); exact rfl; simp only [Zq]))
          (first | ((with_reducible refine wl_skipU ?_ ?_ ?_); exact rfl; exact rfl) | ((with_reducible refine wl_skip ?_ ?_); exact rfl; simp only [Zq]))
          (with_reducible refine wl_k ?_ ?_); exact rfl; intro K hK; go_simp; refine hK _ ?_; clear hK K
          go_wp2_with fail
          go_meet
          exact ⟨rfl, rfl⟩
      · have e3 : ¬ n ≥ 0 := by omega
        obtain rfl : fd = false := by rw [HFD.out, selVar_node, if_neg (fun h => h3 h.2)]; rfl
        clear h1
        apply wp_region_lit
        (with_reducible refine wl_k ?_ ?_); exact rfl; intro K hK; go_simp; refine hK _ ?_; clear hK K
        (first | ((with_reducible apply wl_oneG); exact rfl; exact rfl; first | exact f0 (by with_reducible assumption) | exact f1 (by with_reducible assumption) | exact f2 (by with_reducible assumption) | exact f3 (by with_reducible assumption) | with_reducible assumption | exact g22 (by with_reducible assumption) | exact g25 (by with_reducible assumption)) | ((with_reducible apply wl_rowG); exact rfl; exact rfl; first | with_reducible assumption | exact RowK.now (by with_reducible assumption) | exact f4 (by with_reducible assumption)))
        (with_reducible refine wl_k ?_ ?_); exact rfl; intro K hK; go_simp; refine hK _ ?_; clear hK K
        (with_reducible refine wl_k ?_ ?_); exact rfl; intro K hK; go_simp; refine hK _ ?_; clear hK K
        (with_reducible refine wl_k ?_ ?_); exact rfl; intro K hK; go_simp; refine hK _ ?_; clear hK K
        (first | ((with_reducible apply wl_oneG); exact rfl; exact rfl; first | exact f0 (by with_reducible assumption) | exact f1 (by with_reducible assumption) | exact f2 (by with_reducible assumption) | exact f3 (by with_reducible assumption) | with_reducible assumption | exact g22 (by with_reducible assumption) | exact g25 (by with_reducible assumption)) | ((with_reducible apply wl_rowG); exact rfl; exact rfl; first | with_reducible assumption | exact RowK.now (by with_reducible assumption) | exact f4 (by with_reducible assumption)))
        (with_reducible refine wl_k ?_ ?_); exact rfl; intro K hK; go_simp; refine hK _ ?_; clear hK K
        (with_reducible refine wl_k ?_ ?_); exact rfl; intro K hK; go_simp; refine hK _ ?_; clear hK K
        (with_reducible refine wl_k ?_ ?_); exact rfl; intro K hK; go_simp; refine hK _ ?_; clear hK K
        (first | ((with_reducible refine wl_skipU ?_ ?_ ?_); exact rfl; exact rfl) | ((with_reducible refine wl_skip ?_ ?_); exact rfl; simp only [Zq]))
        (first | ((with_reducible refine wl_skipU ?_ ?_ ?_); exact rfl; exact rfl) | ((with_reducible refine wl_skip ?_ ?_); exact rfl; simp only [Zq]))
        (first | ((with_reducible refine wl_skipU ?_ ?_ ?_); exact rfl; exact rfl) | ((with_reducible refine wl_skip ?_ ?_); exact rfl; simp only [Zq]))
        (first | ((with_reducible refine wl_skipU ?_ ?_ ?_); exact rfl; exact rfl) | ((with_reducible refine wl_skip ?_ ?_); exact rfl; simp only [Zq]))
        (first | ((with_reducible refine wl_skipU ?_ ?_ ?_); exact rfl; exact rfl) | ((with_reducible refine wl_skip ?_ ?_); exact rfl; simp only [Zq]))
        (with_reducible refine wl_k ?_ ?_); exact rfl; intro K hK; go_simp; refine hK _ ?_; clear hK K
        (with_reducible refine wl_k ?_ ?_); exact rfl; intro K hK; go_simp; refine hK _ ?_; clear hK K
        (first | ((with_reducible refine wl_skipU ?_ ?_ ?_); exact rfl; exact rfl) | ((with_reducible refine wl_skip ?_ ?_); exact rfl; simp only [Zq]))
        (first | ((with_reducible refine wl_skipU ?_ ?_ ?_); exact rfl; exact rfl) | ((with_reducible refine wl_skip ?_ ?_); exact rfl; simp only [Zq]))
        (first | ((with_reducible refine wl_skipU ?_ ?_ ?_); exact rfl; exact rfl) | ((with_reducible refine wl_skip ?_ ?_); exact rfl; simp only [Zq]))
        (first | ((with_reducible refine wl_skipU ?_ ?_ ?_); exact rfl; exact rfl) | ((with_reducible refine wl_skip ?_ ?_); exact rfl; simp only [Zq]))
        (first | ((with_reducible refine wl_skipU ?_ ?_ ?_); exact rfl; exact rfl) | ((with_reducible refine wl_skip ?_ ?_); exact rfl; simp only [Zq]))
        (first | ((with_reducible refine wl_skipU ?_ ?_ ?_); exact rfl; exact rfl) | ((with_reducible refine wl_skip ?_ ?_); exact rfl; simp only [Zq]))
        (first | ((with_reducible refine wl_skipU ?_ ?_ ?_); exact rfl; exact rfl) | ((with_reducible refine wl_skip ?_ ?_); exact rfl; simp only [Zq]))
        (with_reducible refine wl_k ?_ ?_); exact rfl; intro K hK; go_simp; refine hK _ ?_; clear hK K
        go_wp2_with fail
        go_meet
        exact ⟨rfl, rfl⟩
    · have e1 : (k == 12) = false := by simp [h1]
      obtain rfl : fd = false := by rw [HFD.out, selVar_node, if_neg (fun h => h1 h.1)]; rfl
      clear h1
      apply wp_region_lit
      (with_reducible refine wl_k ?_ ?_); exact rfl; intro K hK; go_simp; refine hK _ ?_; clear hK K
      (first | ((with_reducible apply wl_oneG); exact rfl; exact rfl; first | exact f0 (by with_reducible assumption) | exact f1 (by with_reducible assumption) | exact f2 (by with_reducible assumption) | exact f3 (by with_reducible assumption) | with_reducible assumption | exact g22 (by with_reducible assumption) | exact g25 (by with_reducible assumption)) | ((with_reducible apply wl_rowG); exact rfl; exact rfl; first | with_reducible assumption | exact RowK.now (by with_reducible assumption) | exact f4 (by with_reducible assumption)))
      (with_reducible refine wl_k ?_ ?_); exact rfl; intro K hK; go_simp; refine hK _ ?_; clear hK K
      (with_reducible refine wl_k ?_ ?_); exact rfl; intro K hK; go_simp; refine hK _ ?_; clear hK K
      (first | ((with_reducible refine wl_skipU ?_ ?_ ?_); exact rfl; exact rfl) | ((with_reducible refine wl_skip ?_ ?_); exact rfl; simp only [Zq]))
      (first | ((with_reducible refine wl_skipU ?_ ?_ ?_); exact rfl; exact rfl) | ((with_reducible refine wl_skip ?_ ?_); exact rfl; simp only [Zq]))
      (first | ((with_reducible refine wl_skipU ?_ ?_ ?_); exact rfl; exact rfl) | ((with_reducible refine wl_skip ?_ ?_); exact rfl; simp only [Zq]))
      (with_reducible refine wl_k ?_ ?_); exact rfl; intro K hK; go_simp; refine hK _ ?_; clear hK K
      (with_reducible refine wl_k ?_ ?_); exact rfl; intro K hK; go_simp; refine hK _ ?_; clear hK K
      (first | ((with_reducible refine wl_skipU ?_ ?_ ?_); exact rfl; exact rfl) | ((with_reducible refine wl_skip ?_ ?_); exact rfl; simp only [Zq]))
      (first | ((with_reducible refine wl_skipU ?_ ?_ ?_); exact rfl; exact rfl) | ((with_reducible refine wl_skip ?_ ?_); exact rfl; simp only [Zq]))
      (first | ((with_reducible refine wl_skipU ?_ ?_ ?_); exact rfl; exact rfl) | ((with_reducible refine wl_skip ?_ ?_); exact rfl; simp only [Zq]))
      (first | ((with_reducible refine wl_skipU ?_ ?_ ?_); exact rfl; exact rfl) | ((with_reducible refine wl_skip ?_ ?_); exact rfl; simp only [Zq]))
      (first | ((with_reducible refine wl_skipU ?_ ?_ ?_); exact rfl; exact rfl) | ((with_reducible refine wl_skip ?_ ?_); exact rfl; simp only [Zq]))
      (with_reducible refine wl_k ?_ ?_); exact rfl; intro K hK; go_simp; refine hK _ ?_; clear hK K
      (with_reducible refine wl_k ?_ ?_); exact rfl; intro K hK; go_simp; refine hK _ ?_; clear hK K
      (first | ((with_reducible refine wl_skipU ?_ ?_ ?_); exact rfl; exact rfl) | ((with_reducible refine wl_skip ?_ ?_); exact rfl; simp only [Zq]))
      (first | ((with_reducible refine wl_skipU ?_ ?_ ?_); exact rfl; exact rfl) | ((with_reducible refine wl_skip ?_ ?_); exact rfl; simp only [Zq]))
      (first | ((with_reducible refine wl_skipU ?_ ?_ ?_); exact rfl; exact rfl) | ((with_reducible refine wl_skip ?_ ?_); exact rfl; simp only [Zq]))
      (first | ((with_reducible refine wl_skipU ?_ ?_ ?_); exact rfl; exact rfl) | ((with_reducible refine wl_skip ?_ ?_); exact rfl; simp only [Zq]))
      (first | ((with_reducible refine wl_skipU ?_ ?_ ?_); exact rfl; exact rfl) | ((with_reducible refine wl_skip ?_ ?_); exact rfl; simp only [Zq]))
      (first | ((with_reducible refine wl_skipU ?_ ?_ ?_); exact rfl; exact rfl) | ((with_reducible refine wl_skip ?_ ?_); exact rfl; simp only [Zq]))
      (first | ((with_reducible refine wl_skipU ?_ ?_ ?_); exact rfl; exact rfl) | ((with_reducible refine wl_skip ?_ ?_); exact rfl; simp only [Zq]))
      (with_reducible refine wl_k ?_ ?_); exact rfl; intro K hK; go_simp; refine hK _ ?_; clear hK K
      go_wp2_with fail
      go_meet
      exact ⟨rfl, rfl⟩
  case rest =>
    obtain ⟨rfl, rfl⟩ := hcut
    have HE := Lib.hid HFD.out
    cases hg : selVar sol (.node k s n ts) with
    | some u =>
      have HG := Lib.hid (repl_some hg)
      obtain rfl : fd = true := by rw [HE.out, hg]; rfl
      have HSEL := Lib.hid hg
      have hq : ∃ m : Nat, n = (m : Int) ∧ sol[m]? = some u := by
        rw [selVar_node] at hg
        split at hg
        · rename_i hh
          obtain ⟨m, rfl⟩ := Int.eq_ofNat_of_zero_le hh.2
          rw [Int.toNat_natCast] at hg
          refine ⟨m, rfl, ?_⟩
          cases hu : sol[m]? with
          | none => rw [hu] at hg; cases hg
          | some v => rw [hu, Option.bind_some] at hg; split at hg <;> cases hg; rfl
        · cases hg
      obtain ⟨m, rfl, hu⟩ := hq
      have hlt : m < l2 := by rw [← HL2.out]; exact (List.getElem?_eq_some_iff.1 hu).1
      have hltI : (m : Int) < (l2 : Int) := by omega
      obtain ⟨b, off, rfl⟩ := H2.out.addr hlt
      obtain ⟨row, hrow, hta⟩ := (H2.out.old hb).rowK hu
      have HC := Lib.hid (CopyType_any u (HNL.out u (List.mem_of_getElem? hu)) W2 D2 row hta)
      clear hg HSEL hta hu HE HFD
      go_upto_region 2 with (fail)
      apply wp_region_lit
      (with_reducible refine wl_k ?_ ?_); exact rfl; intro K hK; go_simp; refine hK _ ?_; clear hK K
      (with_reducible refine wl_k ?_ ?_); exact rfl; intro K hK; go_simp; refine hK _ ?_; clear hK K
      (first | ((with_reducible apply wl_oneG); exact rfl; exact rfl; first | exact f0 (by with_reducible assumption) | exact f1 (by with_reducible assumption) | exact f2 (by with_reducible assumption) | exact f3 (by with_reducible assumption) | with_reducible assumption | exact g22 (by with_reducible assumption) | exact g25 (by with_reducible assumption)) | ((with_reducible apply wl_rowG); exact rfl; exact rfl; first | with_reducible assumption | exact RowK.now (by with_reducible assumption) | exact f4 (by with_reducible assumption)))
      (with_reducible refine wl_k ?_ ?_); exact rfl; intro K hK; go_simp; refine hK _ ?_; clear hK K
      (first | ((with_reducible apply wl_oneG); exact rfl; exact rfl; first | exact f0 (by with_reducible assumption) | exact f1 (by with_reducible assumption) | exact f2 (by with_reducible assumption) | exact f3 (by with_reducible assumption) | with_reducible assumption | exact g22 (by with_reducible assumption) | exact g25 (by with_reducible assumption)) | ((with_reducible apply wl_rowG); exact rfl; exact rfl; first | with_reducible assumption | exact RowK.now (by with_reducible assumption) | exact f4 (by with_reducible assumption)))
      (with_reducible refine wl_ck ?_ ?_); exact rfl; intro K hK; go_simp; refine ⟨_, _, ⟨rfl, rfl⟩, hK _ _ ⟨_, HC.out, ?_⟩⟩; clear hK K; rintro e w7 ⟨row7, rfl, hta7, hb7⟩; refine ⟨_, rfl, ?_⟩; simp only [Zq]
      obtain ⟨k7, s7, n7, A7, l7, c7, ts7, hu7, rfl, -⟩ := hta7.parts
      have hlr' := heap_lt hr
      have HA := Lib.hid (hta7.weak (D' := fun b => w.heap.size ≤ b ∧ b ≠ r) fun b (hb : W2.heap.size ≤ b) => ⟨by have := hb; omega, by omega⟩)
      clear hta7 HC hu7 hp hrow
      replace hr := below_look hb7 hr; replace hb := hb.trans (hb7.mono hb.size); clear hb7
      (with_reducible refine wl_put rfl rfl hr ?_); rw [put_noneA]; intro W3 hbx hsz hkx hnx; replace hb := hbx _ _ (by omega) hb; clear hr; have hr := hnx; clear hnx
      replace HA := Lib.hid (HA.out.mono (fun _ h => h) (fun b h => hkx b h.2))
      clear hbx hkx hsz
      have HQ := Lib.hid hr
      clear hr
      go_wp2_with fail
      exact bodyPost_ret (res24 rfl _ _ r rfl HQ.out) rfl ⟨_, rfl, by unfold applyTy; rw [HG.out]; exact HA.out.weak fun b h => h.1, hb⟩
    | none =>
      have HG := Lib.hid (repl_none hg)
      obtain rfl : fd = false := by rw [HE.out, hg]; rfl
      clear hg HE HFD
      go_upto_region 3 with (fail)
      apply wp_region_lit
      (with_reducible refine wl_k ?_ ?_); exact rfl; intro K hK; go_simp; refine hK _ ?_; clear hK K
      (first | ((with_reducible apply wl_oneG); exact rfl; exact rfl; first | exact f0 (by with_reducible assumption) | exact f1 (by with_reducible assumption) | exact f2 (by with_reducible assumption) | exact f3 (by with_reducible assumption) | with_reducible assumption | exact g22 (by with_reducible assumption) | exact g25 (by with_reducible assumption)) | ((with_reducible apply wl_rowG); exact rfl; exact rfl; first | with_reducible assumption | exact RowK.now (by with_reducible assumption) | exact f4 (by with_reducible assumption)))
      (with_reducible refine wl_k ?_ ?_); exact rfl; intro K hK; go_simp; refine hK _ ?_; clear hK K
      (first | ((with_reducible apply wl_oneG); exact rfl; exact rfl; first | exact f0 (by with_reducible assumption) | exact f1 (by with_reducible assumption) | exact f2 (by with_reducible assumption) | exact f3 (by with_reducible assumption) | with_reducible assumption | exact g22 (by with_reducible assumption) | exact g25 (by with_reducible assumption)) | ((with_reducible apply wl_rowG); exact rfl; exact rfl; first | with_reducible assumption | exact RowK.now (by with_reducible assumption) | exact f4 (by with_reducible assumption)))
      (with_reducible refine wl_k ?_ ?_); exact rfl; intro K hK; go_simp; refine hK _ ?_; clear hK K
      (first | ((with_reducible apply wl_oneG); exact rfl; exact rfl; first | exact f0 (by with_reducible assumption) | exact f1 (by with_reducible assumption) | exact f2 (by with_reducible assumption) | exact f3 (by with_reducible assumption) | with_reducible assumption | exact g22 (by with_reducible assumption) | exact g25 (by with_reducible assumption)) | ((with_reducible apply wl_rowG); exact rfl; exact rfl; first | with_reducible assumption | exact RowK.now (by with_reducible assumption) | exact f4 (by with_reducible assumption)))
      refine wl_val rfl (ex_build 24 _ rfl (L := [(0, .int .i64 k), (1, .string s), (2, .int .i64 n)]) rfl (built24b k s n)) ?_
      simp only [Zq]
      have lthpo := heap_lt hp; have lthro := heap_lt hr; (with_reducible refine wl_all ?_); intro W3 o hbn hlo ho; replace hp := below_look hbn hp; replace hr := below_look hbn hr; replace hb := hb.trans (hbn.mono hb.size); clear hbn; simp only [Zq]
      (with_reducible refine wl_put rfl rfl ho ?_); rw [put_noneA]; intro W7 hbx hsz hkx hnx; replace hp := (hkx _ (by omega)).trans hp; replace hr := (hkx _ (by omega)).trans hr; replace hb := hbx _ _ (by omega) hb; clear ho; have ho := hnx; clear hnx
      clear hbx hkx hsz
      have hlo2 := heap_lt ho
      have HO := Lib.hid (OwnT.nil W7 W7.heap.size)
      obtain ⟨B2, hB2⟩ : ∃ B2, B2 = W7.heap.size := ⟨_, rfl⟩
      rw [← hB2] at HO
      have hB3 : B2 ≤ W7.heap.size := by omega
      have hoB : o < B2 := by omega
      have hpo : p < o := by omega
      have hro : r < o := by omega
      clear hB2 hlo2
      go_wp2_with fail
      go_loopw [6] (fun i wr => ∃ (j : Nat) (A' : Option Addr) (l' c' : Nat), j ≤ l ∧ i = .int .i64 (j : Int) ∧ Hid (OwnT wr B2 (.slice A' l' c') ((ts.take j).map (applyTy sol))) ∧ Below w.heap.size w wr ∧ B2 ≤ wr.heap.size ∧ wr.heap[p]? = some (.cells (cell4 k s n A l c) 24 (0, 0)) ∧ wr.heap[r]? = some (.cells (cell4 0 ⟨#[]⟩ 0 none 0 0) 24 (0, 0)) ∧ wr.heap[o]? = some (.cells (cell4 k s n A' l' c') 24 (0, 0))) (fun i _ => l - (intOf i).toNat)
      case atStart => exact ⟨0, none, 0, 0, by omega, rfl, HO, hb, hB3, hp, hr, ho⟩
      case round =>
        clear hb HO hp hr ho hB3
        obtain ⟨j, A1, l1, c1, hj, rfl, HO, hb, hB3, hp, hr, ho⟩ := hrel
        by_cases hlt : j < l
        · have hltI : (j : Int) < (l : Int) := by omega
          obtain ⟨b, off, t, row, rfl, -, ht, -⟩ := HT.out.get hlt
          obtain ⟨row, hrow, hta⟩ := HT.out.rowK ht
          have HRK := Lib.hid hrow
          have HTB := Lib.hid hta
          have HTK : Hid ((ts.take (j + 1)).map (applyTy sol) = (ts.take j).map (applyTy sol) ++ [applyTy sol t]) := Lib.hid (by rw [List.take_add_one, ht]; simp)
          have HLN : Hid (((ts.take j).map (applyTy sol)).length ≤ 1000000) := Lib.hid (by rw [List.length_map, List.length_take]; omega)
          have HM := Lib.hid (List.mem_of_getElem? ht)
          clear hta ht hrow
          go_upto_region 5 with (fail)
          apply wp_region_lit
          (with_reducible refine wl_k ?_ ?_); exact rfl; intro K hK; go_simp; refine hK _ ?_; clear hK K
          (with_reducible refine wl_k ?_ ?_); exact rfl; intro K hK; go_simp; refine hK _ ?_; clear hK K
          (first | ((with_reducible apply wl_oneG); exact rfl; exact rfl; first | exact f0 (by with_reducible assumption) | exact f1 (by with_reducible assumption) | exact f2 (by with_reducible assumption) | exact f3 (by with_reducible assumption) | with_reducible assumption | exact g22 (by with_reducible assumption) | exact g25 (by with_reducible assumption)) | ((with_reducible apply wl_rowG); exact rfl; exact rfl; first | with_reducible assumption | exact RowK.now (by with_reducible assumption) | exact f4 (by with_reducible assumption)))
          (with_reducible refine wl_k ?_ ?_); exact rfl; intro K hK; go_simp; refine hK _ ?_; clear hK K
          (with_reducible refine wl_k ?_ ?_); exact rfl; intro K hK; go_simp; refine hK _ ?_; clear hK K
          go_upto_region 7 with (fail)
          have hlo := heap_lt ho
          have hle : o ≤ wr.heap.size := by omega
          have hz : Below wr.heap.size wr wr.drew := (Below.refl _ _).drew
          have HC : Hid (∀ w', Below o wr w' → Calls Tryd.prog 23 #[.agg row, .slice A2 l2 c2] w' (NewTy w' (applyTy sol t))) := Lib.hid fun w' hw' =>
            HI.out t HM.out w' D row (HTB.out.old (hb.trans (hw'.mono (by omega)))) D2 A2 l2 c2 (H2.out.old (hb.trans (hw'.mono (by omega))))
          clear HM HTB
          refine wp_region_held_drew (S := Below o wr) mixed ((Below.refl o wr).drew) (fun hS => ?_)
          refine hk3 (i := 0) rfl (by kernel_rfl) Zh hS rfl (fun K hK => ?_); go_simp; refine hK _ ?_; clear hK K; try simp only [Zq]
          refine hk3 (i := 2) rfl (by kernel_rfl) Zh hS rfl (fun K hK => ?_); go_simp; refine hK _ ?_; clear hK K; try simp only [Zq]
          refine hv3 (i := 3) rfl (by kernel_rfl) Zg hS rfl (fun w' hw' => ex_one rfl (f3 ((hw'.block p hpo).trans hp))) ?_; try simp only [Zq]
          refine hk3 (i := 4) rfl (by kernel_rfl) Zh hS rfl (fun K hK => ?_); go_simp; refine hK _ ?_; clear hK K; try simp only [Zq]
          refine hk3 (i := 5) rfl (by kernel_rfl) Zh hS rfl (fun K hK => ?_); go_simp; refine hK _ ?_; clear hK K; try simp only [Zq]
          refine hv3 (i := 6) rfl (by kernel_rfl) Zg hS rfl (fun w' hw' => ex_row rfl (HRK.out.at (hb.trans (hw'.mono (by omega))))) ?_; try simp only [Zq]
          refine hk3 (i := 7) rfl (by kernel_rfl) Zh hS rfl (fun K hK => ?_); go_simp; refine hK _ ?_; clear hK K; try simp only [Zq]
          clear hS
          refine ha_two (i := 1) (j := 8) (by kernel_rfl) ?_ ?_
          · refine sh_val (i := 1) rfl rfl (ex_one rfl (f3 ho)) (hz.mono hle) ?_
            try simp only [Zq]
            refine ha_call (i := 8) (by kernel_rfl) rfl rfl (fun K hK => ?_)
            go_simp; refine ⟨_, _, ⟨rfl, rfl⟩, hK _ _ ⟨_, HC.out _ (hz.mono hle), ?_⟩⟩; clear hK K; rintro e w7 ⟨row7, rfl, hta7, hb7⟩; refine ⟨_, rfl, (hz.trans (hb7.mono hz.size)).mono hle, ?_⟩
            obtain ⟨k7, s7, n7, A7, l7, c7, ts7, hu7, rfl, -⟩ := hta7.parts
            have HA7 := Lib.hid (HO.out.apart hB3 (hta7.weak (D' := fun b => wr.heap.size ≤ b) fun b h => Nat.le_trans hz.size h))
            replace hz := hz.trans (hb7.mono hz.size)
            clear hta7 hu7 hb7
            try simp only [Zq]
            refine ha_bs (i := 9) (by kernel_rfl) rfl rfl _ rfl rfl (fun W hW => (hz.trans (hW.mono hz.size)).mono hle) ?_
            intro X5 q3 hbn hlq3 hq3 hS5
            replace HA7 := Lib.hid (HA7.out.old hbn)
            replace hz := hz.trans (hbn.mono hz.size)
            clear hbn hS5
            try simp only [Zq]
            have hzs := hz.size
            refine ha_push (i := 10) (by kernel_rfl) rfl rfl _ _ rfl rfl rfl (HO.out.old hz) HA7.out hq3 HLN.out (by omega) (fun w' hbl => hbl o wr (fun b hb => by have := (HO.out.lt b hb).1; omega) (by omega) (hz.mono hle)) ?_
            intro A9 l9 c9 w9 hown hk9 hbl hS
            have HLT := Lib.hid (HO.out.old hz).lt
            have hB7 := (hbl 0 X5 (fun _ _ => Nat.zero_le _) (Nat.zero_le _) (Below.refl 0 X5)).size
            replace hb := hbl _ _ (fun b hb => by have := (HLT.out b hb).1; omega) (by omega) (hb.trans (hz.mono hb.size))
            have hp5 := heap_lt hp
            have hr5 := heap_lt hr
            have ho5 := heap_lt ho
            replace hp := (hk9 p (by omega) (fun e => by have := (HLT.out _ e).1; omega)).trans ((hz.block p hp5).trans hp)
            replace hr := (hk9 r (by omega) (fun e => by have := (HLT.out _ e).1; omega)).trans ((hz.block r hr5).trans hr)
            replace ho := (hk9 o (by omega) (fun e => by have := (HLT.out _ e).1; omega)).trans ((hz.block o ho5).trans ho)
            rw [← HTK.out] at hown
            replace HO := Lib.hid hown
            clear hown hk9 hbl HA7 hq3 HLT hp5 hr5 ho5 hlq3
            try simp only [Zq]
            refine hk3 (i := 11) rfl (by kernel_rfl) Zh hS rfl (fun K hK => ?_); go_simp; refine hK _ ?_; clear hK K; try simp only [Zq]
            refine ha_put3 (i := 12) (by kernel_rfl) rfl rfl _ _ rfl rfl rfl ho (fun W hW => hW _ _ (Nat.le_refl _) hS) ?_
            intro X6 hbx hsz hkx hnx hS6
            replace hp := (hkx _ (by omega)).trans hp
            replace hr := (hkx _ (by omega)).trans hr
            replace hb := hbx _ _ (by omega) hb
            clear ho
            have ho := hnx
            replace HO := Lib.hid (HO.out.same (w' := X6) (fun q hq _ => hkx q (by omega)))
            have hB6 : B2 ≤ X6.heap.size := by omega
            clear hbx hkx hsz hnx hS hS6 hz HC HRK
            refine wpAnyH_done (by kernel_rfl) ?_ _
            go_wp2_with fail
            go_roundw
            case rel => exact ⟨j + 1, _, _, _, by omega, by go_num, HO, hb, hB6, hp, hr, ho⟩
            case measure => simp [intOf]; omega
          · refine sh_call (i := 8) rfl rfl (fun K hK => ?_)
            go_simp; refine ⟨_, _, ⟨rfl, rfl⟩, hK _ _ ⟨_, HC.out _ (hz.mono hle), ?_⟩⟩; clear hK K; rintro e w7 ⟨row7, rfl, hta7, hb7⟩; refine ⟨_, rfl, (hz.trans (hb7.mono hz.size)).mono hle, ?_⟩
            obtain ⟨k7, s7, n7, A7, l7, c7, ts7, hu7, rfl, -⟩ := hta7.parts
            have HA7 := Lib.hid (HO.out.apart hB3 (hta7.weak (D' := fun b => wr.heap.size ≤ b) fun b h => Nat.le_trans hz.size h))
            replace hz := hz.trans (hb7.mono hz.size)
            clear hta7 hu7 hb7
            try simp only [Zq]
            refine ha_two (i := 1) (j := 9) (by kernel_rfl) ?_ ?_
            · refine sh_val (i := 1) rfl rfl (ex_one rfl (f3 ((hz.block o hlo).trans ho))) (hz.mono hle) ?_
              try simp only [Zq]
              refine ha_bs (i := 9) (by kernel_rfl) rfl rfl _ rfl rfl (fun W hW => (hz.trans (hW.mono hz.size)).mono hle) ?_
              intro X5 q3 hbn hlq3 hq3 hS5
              replace HA7 := Lib.hid (HA7.out.old hbn)
              replace hz := hz.trans (hbn.mono hz.size)
              clear hbn hS5
              try simp only [Zq]
              have hzs := hz.size
              refine ha_push (i := 10) (by kernel_rfl) rfl rfl _ _ rfl rfl rfl (HO.out.old hz) HA7.out hq3 HLN.out (by omega) (fun w' hbl => hbl o wr (fun b hb => by have := (HO.out.lt b hb).1; omega) (by omega) (hz.mono hle)) ?_
              intro A9 l9 c9 w9 hown hk9 hbl hS
              have HLT := Lib.hid (HO.out.old hz).lt
              have hB7 := (hbl 0 X5 (fun _ _ => Nat.zero_le _) (Nat.zero_le _) (Below.refl 0 X5)).size
              replace hb := hbl _ _ (fun b hb => by have := (HLT.out b hb).1; omega) (by omega) (hb.trans (hz.mono hb.size))
              have hp5 := heap_lt hp
              have hr5 := heap_lt hr
              have ho5 := heap_lt ho
              replace hp := (hk9 p (by omega) (fun e => by have := (HLT.out _ e).1; omega)).trans ((hz.block p hp5).trans hp)
              replace hr := (hk9 r (by omega) (fun e => by have := (HLT.out _ e).1; omega)).trans ((hz.block r hr5).trans hr)
              replace ho := (hk9 o (by omega) (fun e => by have := (HLT.out _ e).1; omega)).trans ((hz.block o ho5).trans ho)
              rw [← HTK.out] at hown
              replace HO := Lib.hid hown
              clear hown hk9 hbl HA7 hq3 HLT hp5 hr5 ho5 hlq3
              try simp only [Zq]
              refine hk3 (i := 11) rfl (by kernel_rfl) Zh hS rfl (fun K hK => ?_); go_simp; refine hK _ ?_; clear hK K; try simp only [Zq]
              refine ha_put3 (i := 12) (by kernel_rfl) rfl rfl _ _ rfl rfl rfl ho (fun W hW => hW _ _ (Nat.le_refl _) hS) ?_
              intro X6 hbx hsz hkx hnx hS6
              replace hp := (hkx _ (by omega)).trans hp
              replace hr := (hkx _ (by omega)).trans hr
              replace hb := hbx _ _ (by omega) hb
              clear ho
              have ho := hnx
              replace HO := Lib.hid (HO.out.same (w' := X6) (fun q hq _ => hkx q (by omega)))
              have hB6 : B2 ≤ X6.heap.size := by omega
              clear hbx hkx hsz hnx hS hS6 hz HC HRK
              refine wpAnyH_done (by kernel_rfl) ?_ _
              go_wp2_with fail
              go_roundw
              case rel => exact ⟨j + 1, _, _, _, by omega, by go_num, HO, hb, hB6, hp, hr, ho⟩
              case measure => simp [intOf]; omega
            · refine sh_bs (i := 9) rfl rfl _ rfl rfl (fun W hW => (hz.trans (hW.mono hz.size)).mono hle) ?_
              intro X5 q3 hbn hlq3 hq3 hS5
              replace HA7 := Lib.hid (HA7.out.old hbn)
              replace hz := hz.trans (hbn.mono hz.size)
              clear hbn hS5
              try simp only [Zq]
              refine ha_do (i := 1) (by kernel_rfl) rfl rfl (ex_one rfl (f3 ((hz.block o hlo).trans ho))) (hz.mono hle) ?_
              try simp only [Zq]
              have hzs := hz.size
              refine ha_push (i := 10) (by kernel_rfl) rfl rfl _ _ rfl rfl rfl (HO.out.old hz) HA7.out hq3 HLN.out (by omega) (fun w' hbl => hbl o wr (fun b hb => by have := (HO.out.lt b hb).1; omega) (by omega) (hz.mono hle)) ?_
              intro A9 l9 c9 w9 hown hk9 hbl hS
              have HLT := Lib.hid (HO.out.old hz).lt
              have hB7 := (hbl 0 X5 (fun _ _ => Nat.zero_le _) (Nat.zero_le _) (Below.refl 0 X5)).size
              replace hb := hbl _ _ (fun b hb => by have := (HLT.out b hb).1; omega) (by omega) (hb.trans (hz.mono hb.size))
              have hp5 := heap_lt hp
              have hr5 := heap_lt hr
              have ho5 := heap_lt ho
              replace hp := (hk9 p (by omega) (fun e => by have := (HLT.out _ e).1; omega)).trans ((hz.block p hp5).trans hp)
              replace hr := (hk9 r (by omega) (fun e => by have := (HLT.out _ e).1; omega)).trans ((hz.block r hr5).trans hr)
              replace ho := (hk9 o (by omega) (fun e => by have := (HLT.out _ e).1; omega)).trans ((hz.block o ho5).trans ho)
              rw [← HTK.out] at hown
              replace HO := Lib.hid hown
              clear hown hk9 hbl HA7 hq3 HLT hp5 hr5 ho5 hlq3
              try simp only [Zq]
              refine hk3 (i := 11) rfl (by kernel_rfl) Zh hS rfl (fun K hK => ?_); go_simp; refine hK _ ?_; clear hK K; try simp only [Zq]
              refine ha_put3 (i := 12) (by kernel_rfl) rfl rfl _ _ rfl rfl rfl ho (fun W hW => hW _ _ (Nat.le_refl _) hS) ?_
              intro X6 hbx hsz hkx hnx hS6
              replace hp := (hkx _ (by omega)).trans hp
              replace hr := (hkx _ (by omega)).trans hr
              replace hb := hbx _ _ (by omega) hb
              clear ho
              have ho := hnx
              replace HO := Lib.hid (HO.out.same (w' := X6) (fun q hq _ => hkx q (by omega)))
              have hB6 : B2 ≤ X6.heap.size := by omega
              clear hbx hkx hsz hnx hS hS6 hz HC HRK
              refine wpAnyH_done (by kernel_rfl) ?_ _
              go_wp2_with fail
              go_roundw
              case rel => exact ⟨j + 1, _, _, _, by omega, by go_num, HO, hb, hB6, hp, hr, ho⟩
              case measure => simp [intOf]; omega
        · have hltI : ¬ (j : Int) < (l : Int) := by omega
          replace HO : Hid (OwnT wr B2 (.slice A1 l1 c1) (ts.map (applyTy sol))) := Lib.hid (by have := HO.out; rwa [List.take_of_length_le (by rw [HL.out]; omega)] at this)
          obtain ⟨A9, l9, c9, he, h9⟩ := HO.out.at
          cases he
          have H9 := Lib.hid h9
          clear h9 HO
          go_upto_region 5 with (fail)
          apply wp_region_lit
          (with_reducible refine wl_k ?_ ?_); exact rfl; intro K hK; go_simp; refine hK _ ?_; clear hK K
          (with_reducible refine wl_k ?_ ?_); exact rfl; intro K hK; go_simp; refine hK _ ?_; clear hK K
          (first | ((with_reducible apply wl_oneG); exact rfl; exact rfl; first | exact f0 (by with_reducible assumption) | exact f1 (by with_reducible assumption) | exact f2 (by with_reducible assumption) | exact f3 (by with_reducible assumption) | with_reducible assumption | exact g22 (by with_reducible assumption) | exact g25 (by with_reducible assumption)) | ((with_reducible apply wl_rowG); exact rfl; exact rfl; first | with_reducible assumption | exact RowK.now (by with_reducible assumption) | exact f4 (by with_reducible assumption)))
          (with_reducible refine wl_k ?_ ?_); exact rfl; intro K hK; go_simp; refine hK _ ?_; clear hK K
          (with_reducible refine wl_k ?_ ?_); exact rfl; intro K hK; go_simp; refine hK _ ?_; clear hK K
          go_upto_region 8 with (fail)
          apply wp_region_lit
          (first | ((with_reducible apply wl_oneG); exact rfl; exact rfl; first | exact f0 (by with_reducible assumption) | exact f1 (by with_reducible assumption) | exact f2 (by with_reducible assumption) | exact f3 (by with_reducible assumption) | with_reducible assumption | exact g22 (by with_reducible assumption) | exact g25 (by with_reducible assumption)) | ((with_reducible apply wl_rowG); exact rfl; exact rfl; first | with_reducible assumption | exact RowK.now (by with_reducible assumption) | exact f4 (by with_reducible assumption)))
          (with_reducible refine wl_put rfl rfl hr ?_); rw [put_noneA]; intro W8 hbx hsz hkx hnx; replace hb := hbx _ _ (by omega) hb; clear hr; have hr := hnx; clear hnx
          replace H9 := Lib.hid (H9.out.mono (D' := fun b => w.heap.size ≤ b) (fun b (h : B2 ≤ b) => (by omega : w.heap.size ≤ b)) (fun b (h : B2 ≤ b) => hkx b (by omega)))
          clear hbx hkx hsz
          have HQ := Lib.hid hr
          clear hp hr ho
          go_wp2_with fail
          exact bodyPost_ret (res24 rfl _ _ r rfl HQ.out) rfl ⟨_, rfl, by unfold applyTy; rw [HG.out]; exact TyAt.of HK.out.1 HK.out.2.1 HK.out.2.2 H9.out, hb⟩
end Go.Proofs.YtokmaehefenpmaaDoor
