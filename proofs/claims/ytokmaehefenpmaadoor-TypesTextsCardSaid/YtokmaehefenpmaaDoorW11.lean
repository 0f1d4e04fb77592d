/- Lists of names: the place of a name; short. -/
import Derived.Test.YtokmaehefenpmaaDoorW2
namespace Go.Proofs.YtokmaehefenpmaaDoor
open Go.RowKit Go.Proofs.YtokmaehefenpmaaDoor.Nm
set_option linter.unusedSimpArgs false
/-- A row of names at a slice. -/
structure TxAt (w : World) (ns : List ByteArray) (A : Option Addr) (l c : Nat) : Prop where
  len : ns.length = l
  cap : l ≤ c
  max : c ≤ maxLen
  el : ∀ (i : Nat) (s : ByteArray), ns[i]? = some s → ∃ b off, A = some ⟨b, off, none⟩ ∧ w.cell? ⟨b, off + i, none⟩ = some (.string s)
theorem cell_lt' {w : World} {a : Addr} {v : Value} (h : w.cell? a = some v) : a.block < w.heap.size := by
  apply Classical.byContradiction
  intro hn
  simp [World.cell?, Array.getElem?_eq_none (Nat.le_of_not_lt hn)] at h
theorem TxAt.old {w w' : World} {ns : List ByteArray} {A : Option Addr} {l c : Nat} (h : TxAt w ns A l c) (hb : Below w.heap.size w w') : TxAt w' ns A l c :=
  ⟨h.len, h.cap, h.max, fun i s hi => by
    obtain ⟨b, off, e, hc⟩ := h.el i s hi
    exact ⟨b, off, e, by rw [hb.cell (cell_lt' hc)]; exact hc⟩⟩
theorem TxAt.addr {w : World} {ns : List ByteArray} {A : Option Addr} {l c : Nat} (h : TxAt w ns A l c) {i : Nat} (hi : i < l) : ∃ b off s, A = some ⟨b, off, none⟩ ∧ ns[i]? = some s := by
  have hs : ns[i]? = some (ns[i]'(by rw [h.len]; exact hi)) := List.getElem?_eq_getElem _
  obtain ⟨b, off, e, _⟩ := h.el i _ hs
  exact ⟨b, off, _, e, hs⟩
theorem TxAt.one {w : World} {ns : List ByteArray} {b off : Nat} {l c : Nat} (h : TxAt w ns (some ⟨b, off, none⟩) l c) {i : Nat} {s : ByteArray} (hi : ns[i]? = some s) : OneAt w 9 ⟨b, off + i, none⟩ (.string s) := by
  obtain ⟨b', off', e, hc⟩ := h.el i s hi
  cases e
  exact one_of u9 rfl hc
def idxI (ns : List ByteArray) (s : ByteArray) : Int := match idx ns s with | some i => (i : Int) | none => -1
theorem idx_some {ns : List ByteArray} {s : ByteArray} {j : Nat} (h : ∀ i, i < j → ns[i]? ≠ some s) (hj : ns[j]? = some s) : idx ns s = some j := by
  unfold idx
  rw [List.findIdx?_eq_some_iff_getElem]
  have hl := (List.getElem?_eq_some_iff.1 hj).1
  refine ⟨hl, ?_, fun i hi => ?_⟩
  · rw [List.getElem?_eq_getElem hl] at hj; simpa using hj
  · have := h i hi
    rw [List.getElem?_eq_getElem (by omega)] at this
    simpa using this
theorem idx_none {ns : List ByteArray} {s : ByteArray} (h : ∀ i, i < ns.length → ns[i]? ≠ some s) : idx ns s = none := by
  unfold idx
  rw [List.findIdx?_eq_none_iff]
  intro x hx
  obtain ⟨i, hi⟩ := List.mem_iff_getElem?.1 hx
  have := h i (List.getElem?_eq_some_iff.1 hi).1
  rw [hi] at this
  simpa using this
set_option maxHeartbeats 2000000 in
set_option maxRecDepth 100000 in
theorem Has_any (ns : List ByteArray) (s : ByteArray) (A : Option Addr) (l c : Nat) (w : World) (h : TxAt w ns A l c) : Calls Tryd.prog 18 #[.slice A l c, .string s] w fun e w' => e = .returned (.int .i64 (idxI ns s)) ∧ Below w.heap.size w w' := by
  have HT := Lib.hid h
  have HL := Lib.hid h.len
  have hcm := h.cap
  have hmx := h.max
  unfold maxLen at hmx
  clear h
  have hb := Below.refl w.heap.size w
  go_enter Tryd.func18, Tryd.ntmps18
  go_wp2_with fail
  go_loopw [5] (fun i wr => ∃ j : Nat, j ≤ l ∧ i = .int .i64 (j : Int) ∧ Hid (∀ i, i < j → ns[i]? ≠ some s) ∧ Below w.heap.size w wr) (fun i _ => l - (intOf i).toNat)
  case atStart => exact ⟨0, by omega, rfl, Lib.hid (fun i hi => by omega), hb⟩
  case round =>
    clear hb
    obtain ⟨j, hj, rfl, HR, hb⟩ := hrel
    by_cases hlt : j < l
    · have hltI : (j : Int) < (l : Int) := by omega
      obtain ⟨b, off, x, rfl, hx⟩ := HT.out.addr hlt
      have hone := (HT.out.old hb).one hx
      by_cases he : x = s
      · have e1 : (x.toList == s.toList) = true := beq_iff_eq.2 (by rw [he])
        have HF : Hid (idxI ns s = (j : Int)) := Lib.hid (by unfold idxI; rw [idx_some HR.out (by rw [hx, he])])
        clear he hx HR
        go_upto_region 4 with (fail)
        apply wp_region_lit
        (with_reducible refine wl_k ?_ ?_); exact rfl; intro K hK; go_simp; refine hK _ ?_; clear hK K
        (with_reducible refine wl_k ?_ ?_); exact rfl; intro K hK; go_simp; refine hK _ ?_; clear hK K
        (with_reducible refine wl_k ?_ ?_); exact rfl; intro K hK; go_simp; refine hK _ ?_; clear hK K
        (first | ((with_reducible apply wl_oneG); exact rfl; exact rfl; first | exact f0 (by with_reducible assumption) | exact f1 (by with_reducible assumption) | exact f2 (by with_reducible assumption) | exact f3 (by with_reducible assumption) | with_reducible assumption | exact g22 (by with_reducible assumption) | exact g25 (by with_reducible assumption)) | ((with_reducible apply wl_rowG); exact rfl; exact rfl; first | with_reducible assumption | exact RowK.now (by with_reducible assumption) | exact f4 (by with_reducible assumption)))
        (with_reducible refine wl_k ?_ ?_); exact rfl; intro K hK; go_simp; refine hK _ ?_; clear hK K
        (with_reducible refine wl_k ?_ ?_); exact rfl; intro K hK; go_simp; refine hK _ ?_; clear hK K
        clear hone
        go_wp2_with fail
        go_ret
        exact ⟨ret_int HF.out.symm, hb⟩
      · have e1 : (x.toList == s.toList) = false := beq_eq_false_iff_ne.2 (fun e => he (bytes_inj e))
        have HR2 : Hid (∀ i, i < j + 1 → ns[i]? ≠ some s) := Lib.hid (fun i hi => by
          by_cases e : i = j
          · subst e; rw [hx]; simpa using he
          · exact HR.out i (by omega))
        clear he hx HR
        go_upto_region 4 with (fail)
        apply wp_region_lit
        (with_reducible refine wl_k ?_ ?_); exact rfl; intro K hK; go_simp; refine hK _ ?_; clear hK K
        (with_reducible refine wl_k ?_ ?_); exact rfl; intro K hK; go_simp; refine hK _ ?_; clear hK K
        (with_reducible refine wl_k ?_ ?_); exact rfl; intro K hK; go_simp; refine hK _ ?_; clear hK K
        (first | ((with_reducible apply wl_oneG); exact rfl; exact rfl; first | exact f0 (by with_reducible assumption) | exact f1 (by with_reducible assumption) | exact f2 (by with_reducible assumption) | exact f3 (by with_reducible assumption) | with_reducible assumption | exact g22 (by with_reducible assumption) | exact g25 (by with_reducible assumption)) | ((with_reducible apply wl_rowG); exact rfl; exact rfl; first | with_reducible assumption | exact RowK.now (by with_reducible assumption) | exact f4 (by with_reducible assumption)))
        (with_reducible refine wl_k ?_ ?_); exact rfl; intro K hK; go_simp; refine hK _ ?_; clear hK K
        (with_reducible refine wl_k ?_ ?_); exact rfl; intro K hK; go_simp; refine hK _ ?_; clear hK K
        clear hone
        go_wp2_with fail
        go_roundw
        case rel => exact ⟨j + 1, by omega, by go_num, HR2, hb⟩
        case measure => simp [intOf]; omega
    · have hltI : ¬ (j : Int) < (l : Int) := by omega
      have HF : Hid (idxI ns s = -1) := Lib.hid (by unfold idxI; rw [idx_none (fun i hi => HR.out i (by rw [HL.out] at hi; omega))])
      go_wp2_with fail
      go_ret
      exact ⟨ret_int HF.out.symm, hb⟩
set_option maxHeartbeats 2000000 in
set_option maxRecDepth 100000 in
theorem Index_any (ns : List ByteArray) (s : ByteArray) (A : Option Addr) (l c : Nat) (w : World) (h : TxAt w ns A l c) : Calls Tryd.prog 50 #[.slice A l c, .string s] w fun e w' => e = .returned (.int .i64 (idxI ns s)) ∧ Below w.heap.size w w' := by
  have HT := Lib.hid h
  have HL := Lib.hid h.len
  have hcm := h.cap
  have hmx := h.max
  unfold maxLen at hmx
  clear h
  have hb := Below.refl w.heap.size w
  go_enter Tryd.func50, Tryd.ntmps50
  go_wp2_with fail
  go_loopw [8] (fun i wr => ∃ j : Nat, j ≤ l ∧ i = .int .i64 (j : Int) ∧ Hid (∀ i, i < j → ns[i]? ≠ some s) ∧ Below w.heap.size w wr) (fun i _ => l - (intOf i).toNat)
  case atStart => exact ⟨0, by omega, rfl, Lib.hid (fun i hi => by omega), hb⟩
  case round =>
    clear hb
    obtain ⟨j, hj, rfl, HR, hb⟩ := hrel
    by_cases hlt : j < l
    · have hltI : (j : Int) < (l : Int) := by omega
      obtain ⟨b, off, x, rfl, hx⟩ := HT.out.addr hlt
      have hone := (HT.out.old hb).one hx
      by_cases he : s = x
      · have e1 : (s.toList == x.toList) = true := beq_iff_eq.2 (by rw [he])
        have HF : Hid (idxI ns s = (j : Int)) := Lib.hid (by unfold idxI; rw [idx_some HR.out (by rw [hx, he])])
        clear he hx HR
        go_upto_region 4 with (fail)
        apply wp_region_lit
        (with_reducible refine wl_k ?_ ?_); exact rfl; intro K hK; go_simp; refine hK _ ?_; clear hK K
        (with_reducible refine wl_k ?_ ?_); exact rfl; intro K hK; go_simp; refine hK _ ?_; clear hK K
        (with_reducible refine wl_k ?_ ?_); exact rfl; intro K hK; go_simp; refine hK _ ?_; clear hK K
        (with_reducible refine wl_k ?_ ?_); exact rfl; intro K hK; go_simp; refine hK _ ?_; clear hK K
        (first | ((with_reducible apply wl_oneG); exact rfl; exact rfl; first | exact f0 (by with_reducible assumption) | exact f1 (by with_reducible assumption) | exact f2 (by with_reducible assumption) | exact f3 (by with_reducible assumption) | with_reducible assumption | exact g22 (by with_reducible assumption) | exact g25 (by with_reducible assumption)) | ((with_reducible apply wl_rowG); exact rfl; exact rfl; first | with_reducible assumption | exact RowK.now (by with_reducible assumption) | exact f4 (by with_reducible assumption)))
        (with_reducible refine wl_k ?_ ?_); exact rfl; intro K hK; go_simp; refine hK _ ?_; clear hK K
        clear hone
        go_wp2_with fail
        go_ret
        exact ⟨ret_int HF.out.symm, hb⟩
      · have e1 : (s.toList == x.toList) = false := beq_eq_false_iff_ne.2 (fun e => he (bytes_inj e))
        have HR2 : Hid (∀ i, i < j + 1 → ns[i]? ≠ some s) := Lib.hid (fun i hi => by
          by_cases e : i = j
          · subst e; rw [hx]; simp; exact fun e => he e.symm
          · exact HR.out i (by omega))
        clear he hx HR
        go_upto_region 4 with (fail)
        apply wp_region_lit
        (with_reducible refine wl_k ?_ ?_); exact rfl; intro K hK; go_simp; refine hK _ ?_; clear hK K
        (with_reducible refine wl_k ?_ ?_); exact rfl; intro K hK; go_simp; refine hK _ ?_; clear hK K
        (with_reducible refine wl_k ?_ ?_); exact rfl; intro K hK; go_simp; refine hK _ ?_; clear hK K
        (with_reducible refine wl_k ?_ ?_); exact rfl; intro K hK; go_simp; refine hK _ ?_; clear hK K
        (first | ((with_reducible apply wl_oneG); exact rfl; exact rfl; first | exact f0 (by with_reducible assumption) | exact f1 (by with_reducible assumption) | exact f2 (by with_reducible assumption) | exact f3 (by with_reducible assumption) | with_reducible assumption | exact g22 (by with_reducible assumption) | exact g25 (by with_reducible assumption)) | ((with_reducible apply wl_rowG); exact rfl; exact rfl; first | with_reducible assumption | exact RowK.now (by with_reducible assumption) | exact f4 (by with_reducible assumption)))
        (with_reducible refine wl_k ?_ ?_); exact rfl; intro K hK; go_simp; refine hK _ ?_; clear hK K
        clear hone
        go_wp2_with fail
        go_roundw
        case rel => exact ⟨j + 1, by omega, by go_num, HR2, hb⟩
        case measure => simp [intOf]; omega
    · have hltI : ¬ (j : Int) < (l : Int) := by omega
      have HF : Hid (idxI ns s = -1) := Lib.hid (by unfold idxI; rw [idx_none (fun i hi => HR.out i (by rw [HL.out] at hi; omega))])
      go_wp2_with fail
      go_ret
      exact ⟨ret_int HF.out.symm, hb⟩
def Few (ns : List ByteArray) : Prop := ns.length ≤ 60
set_option maxHeartbeats 2000000 in
set_option maxRecDepth 100000 in
theorem short_any (ns : List ByteArray) (A : Option Addr) (l c : Nat) (w : World) (h : TxAt w ns A l c) (hsz : ∀ s, s ∈ ns → s.size ≤ maxLen) : Calls Tryd.prog 16 #[.slice A l c] w (Yes w (Few ns)) := by
  have HT := Lib.hid h
  have HL := Lib.hid h.len
  have hcm := h.cap
  have hmx := h.max
  unfold maxLen at hmx hsz
  have HSZ := Lib.hid hsz
  clear h hsz
  have hb := Below.refl w.heap.size w
  go_enter Tryd.func16, Tryd.ntmps16
  go_wp2_with fail
  go_loopw [3] (fun i wr => ∃ j : Nat, j ≤ l ∧ j ≤ 60 ∧ i = .int .i64 (j : Int) ∧ Below w.heap.size w wr) (fun i _ => l - (intOf i).toNat)
  case atStart => exact ⟨0, by omega, by omega, rfl, hb⟩
  case round =>
    clear hb
    obtain ⟨j, hj, hj6, rfl, hb⟩ := hrel
    by_cases hlt : j < l
    · have hltI : (j : Int) < (l : Int) := by omega
      by_cases h60 : j = 60
      · have hj2 : ((j : Int) == 60) = true := beq_iff_eq.2 (by omega)
        go_upto_region 4 with (fail)
        apply wp_region_lit
        (with_reducible refine wl_k ?_ ?_); exact rfl; intro K hK; go_simp; refine hK _ ?_; clear hK K
        (with_reducible refine wl_k ?_ ?_); exact rfl; intro K hK; go_simp; refine hK _ ?_; clear hK K
        (with_reducible refine wl_k ?_ ?_); exact rfl; intro K hK; go_simp; refine hK _ ?_; clear hK K
        (first | ((with_reducible refine wl_skipU ?_ ?_ ?_); exact rfl; exact rfl) | ((with_reducible refine wl_skip ?_ ?_); exact rfl; simp only [put_lit, List.set_cons_zero, List.set_cons_succ]))
        (first | ((with_reducible refine wl_skipU ?_ ?_ ?_); exact rfl; exact rfl) | ((with_reducible refine wl_skip ?_ ?_); exact rfl; simp only [put_lit, List.set_cons_zero, List.set_cons_succ]))
        (first | ((with_reducible refine wl_skipU ?_ ?_ ?_); exact rfl; exact rfl) | ((with_reducible refine wl_skip ?_ ?_); exact rfl; simp only [put_lit, List.set_cons_zero, List.set_cons_succ]))
        (first | ((with_reducible refine wl_skipU ?_ ?_ ?_); exact rfl; exact rfl) | ((with_reducible refine wl_skip ?_ ?_); exact rfl; simp only [put_lit, List.set_cons_zero, List.set_cons_succ]))
        (first | ((with_reducible refine wl_skipU ?_ ?_ ?_); exact rfl; exact rfl) | ((with_reducible refine wl_skip ?_ ?_); exact rfl; simp only [put_lit, List.set_cons_zero, List.set_cons_succ]))
        (first | ((with_reducible refine wl_skipU ?_ ?_ ?_); exact rfl; exact rfl) | ((with_reducible refine wl_skip ?_ ?_); exact rfl; simp only [put_lit, List.set_cons_zero, List.set_cons_succ]))
        (with_reducible refine wl_k ?_ ?_); exact rfl; intro K hK; go_simp; refine hK _ ?_; clear hK K
        go_wp2_with fail
        go_ret
        exact ⟨⟨false, rfl, fun h => by cases h⟩, hb⟩
      · have hj2 : ((j : Int) == 60) = false := beq_eq_false_iff_ne.2 (by omega)
        obtain ⟨b, off, x, rfl, hx⟩ := HT.out.addr hlt
        have hone := (HT.out.old hb).one hx
        have hxs := HSZ.out x (List.mem_of_getElem? hx)
        clear hx
        by_cases hn : (x.size : Int) > 200
        · go_upto_region 4 with (fail)
          apply wp_region_lit
          (with_reducible refine wl_k ?_ ?_); exact rfl; intro K hK; go_simp; refine hK _ ?_; clear hK K
          (with_reducible refine wl_k ?_ ?_); exact rfl; intro K hK; go_simp; refine hK _ ?_; clear hK K
          (with_reducible refine wl_k ?_ ?_); exact rfl; intro K hK; go_simp; refine hK _ ?_; clear hK K
          (with_reducible refine wl_k ?_ ?_); exact rfl; intro K hK; go_simp; refine hK _ ?_; clear hK K
          (with_reducible refine wl_k ?_ ?_); exact rfl; intro K hK; go_simp; refine hK _ ?_; clear hK K
          (with_reducible refine wl_k ?_ ?_); exact rfl; intro K hK; go_simp; refine hK _ ?_; clear hK K
          (first | ((with_reducible apply wl_oneG); exact rfl; exact rfl; first | exact f0 (by with_reducible assumption) | exact f1 (by with_reducible assumption) | exact f2 (by with_reducible assumption) | exact f3 (by with_reducible assumption) | with_reducible assumption | exact g22 (by with_reducible assumption) | exact g25 (by with_reducible assumption)) | ((with_reducible apply wl_rowG); exact rfl; exact rfl; first | with_reducible assumption | exact RowK.now (by with_reducible assumption) | exact f4 (by with_reducible assumption)))
          (with_reducible refine wl_k ?_ ?_); exact rfl; intro K hK; go_simp; refine hK _ ?_; clear hK K
          (with_reducible refine wl_k ?_ ?_); exact rfl; intro K hK; go_simp; refine hK _ ?_; clear hK K
          (with_reducible refine wl_k ?_ ?_); exact rfl; intro K hK; go_simp; refine hK _ ?_; clear hK K
          clear hone
          go_wp2_with fail
          go_ret
          exact ⟨⟨false, rfl, fun h => by cases h⟩, hb⟩
        · go_upto_region 4 with (fail)
          apply wp_region_lit
          (with_reducible refine wl_k ?_ ?_); exact rfl; intro K hK; go_simp; refine hK _ ?_; clear hK K
          (with_reducible refine wl_k ?_ ?_); exact rfl; intro K hK; go_simp; refine hK _ ?_; clear hK K
          (with_reducible refine wl_k ?_ ?_); exact rfl; intro K hK; go_simp; refine hK _ ?_; clear hK K
          (with_reducible refine wl_k ?_ ?_); exact rfl; intro K hK; go_simp; refine hK _ ?_; clear hK K
          (with_reducible refine wl_k ?_ ?_); exact rfl; intro K hK; go_simp; refine hK _ ?_; clear hK K
          (with_reducible refine wl_k ?_ ?_); exact rfl; intro K hK; go_simp; refine hK _ ?_; clear hK K
          (first | ((with_reducible apply wl_oneG); exact rfl; exact rfl; first | exact f0 (by with_reducible assumption) | exact f1 (by with_reducible assumption) | exact f2 (by with_reducible assumption) | exact f3 (by with_reducible assumption) | with_reducible assumption | exact g22 (by with_reducible assumption) | exact g25 (by with_reducible assumption)) | ((with_reducible apply wl_rowG); exact rfl; exact rfl; first | with_reducible assumption | exact RowK.now (by with_reducible assumption) | exact f4 (by with_reducible assumption)))
          (with_reducible refine wl_k ?_ ?_); exact rfl; intro K hK; go_simp; refine hK _ ?_; clear hK K
          (with_reducible refine wl_k ?_ ?_); exact rfl; intro K hK; go_simp; refine hK _ ?_; clear hK K
          (with_reducible refine wl_k ?_ ?_); exact rfl; intro K hK; go_simp; refine hK _ ?_; clear hK K
          clear hone
          go_wp2_with fail
          go_roundw
          case rel => exact ⟨j + 1, by omega, by omega, by go_num, hb⟩
          case measure => simp [intOf]; omega
    · have hltI : ¬ (j : Int) < (l : Int) := by omega
      have HF : Hid (Few ns) := Lib.hid (by unfold Few; rw [HL.out]; omega)
      go_wp2_with fail
      go_ret
      exact ⟨⟨true, rfl, fun _ => HF.out⟩, hb⟩
end Go.Proofs.YtokmaehefenpmaaDoor
