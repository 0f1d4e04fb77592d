/- The document's list of texts. -/
import Derived.Test.YtokmaehefenpmaaDoorX5
namespace Go.Proofs.YtokmaehefenpmaaDoor
open Go.RowKit Go.Proofs.YtokmaehefenpmaaDoor.Nm
set_option linter.unusedSimpArgs false
theorem str_eq {a : ByteArray} {l : List UInt8} (h : a.data.toList = l) : a = ⟨l.toArray⟩ := by
  cases a; subst h; rfl
theorem str_cat (a b : ByteArray) : (a ++ b).data.toList = a.data.toList ++ b.data.toList := by simp
theorem str_size (a : ByteArray) : a.size = a.data.toList.length := rfl
def SpelC (t : Ty) : Prop := ∀ (w : World) (D : Nat → Prop) (row : Array Value), TyAt w D t row → ∃ x : ByteArray, x.data.toList = txtT t ∧ Calls Tryd.prog 62 #[.agg row] w fun e w' => e = .returned (.string x) ∧ Below w.heap.size w w'
set_option maxHeartbeats 4000000 in
set_option maxRecDepth 100000 in
theorem listI_any (ts : List Ty) (hC : ∀ t, t ∈ ts → SpelC t) (hlen : (txtSep true ts).length ≤ 1000000000) (w : World) (D : Nat → Prop) (A : Option Addr) (l c : Nat) (h : TysAt w D ts A l c) :
    ∃ x : ByteArray, x.data.toList = txtSep true ts ∧ Calls Tryd.prog 84 #[.slice A l c] w fun e w' => e = .returned (.string x) ∧ Below w.heap.size w w' := by
  refine ⟨⟨(txtSep true ts).toArray⟩, by simp, ?_⟩
  have HT := Lib.hid h
  have HL := Lib.hid h.len
  have hcm := h.cap
  have hmx := h.max
  unfold maxLen at hmx
  have HI := Lib.hid hC
  have HLN := Lib.hid hlen
  clear h hC hlen
  have hb := Below.refl w.heap.size w
  go_enter Tryd.func84, Tryd.ntmps84
  go_wp2_with fail
  go_loopw [3, 4] (fun v i wr => ∃ (j : Nat) (acc : ByteArray), j ≤ l ∧ i = .int .i64 (j : Int) ∧ v = .string acc ∧ Hid (acc.data.toList = sepText txtT true (ts.take j)) ∧ Below w.heap.size w wr) (fun _ i _ => l - (intOf i).toNat)
  case atStart => exact ⟨0, ⟨#[]⟩, by omega, rfl, rfl, Lib.hid (by simp [sepText]), hb⟩
  case round =>
    clear hb
    obtain ⟨j, acc, hj, rfl, rfl, HA, hb⟩ := hrel
    by_cases hlt : j < l
    · have hltI : (j : Int) < (l : Int) := by omega
      obtain ⟨b, off, t, row, rfl, -, ht, -⟩ := HT.out.get hlt
      obtain ⟨row, hrow, hta⟩ := (HT.out.old hb).rowK ht
      have HST := Lib.hid (sep_step txtT true ts j t ht)
      obtain ⟨x, hx, hC⟩ := HI.out t (List.mem_of_getElem? ht) wr D row hta
      have HX := Lib.hid hx
      have HC := Lib.hid hC
      have hs2 := sep_take txtT true ts (j + 1)
      rw [HST.out, ← sep_txt ts true] at hs2
      have hs3 := HLN.out
      have HSZ : Hid (acc.size + 2 + x.size ≤ 1000000010) := Lib.hid (by
        simp only [List.length_append] at hs2
        rw [str_size, str_size, HX.out, HA.out]; omega)
      clear hx hC hta hs2 hs3 ht
      by_cases hj0 : j = 0
      · have hj1 : ¬ (j : Int) > 0 := by omega
        have HEQ : Hid ((acc ++ x).data.toList = sepText txtT true (ts.take (j + 1))) := Lib.hid (by rw [HST.out, str_cat, HA.out, HX.out, hj0]; simp)
        have hcat : ¬ 9223372036854775807 < acc.size + x.size := by have := HSZ.out; omega
        clear hj0 HST
        go_upto_region 7 with (fail)
        apply wp_region_lit
        (with_reducible refine wl_k ?_ ?_); exact rfl; intro K hK; go_simp; refine hK _ ?_; clear hK K
        (with_reducible refine wl_k ?_ ?_); exact rfl; intro K hK; go_simp; refine hK _ ?_; clear hK K
        (with_reducible refine wl_k ?_ ?_); exact rfl; intro K hK; go_simp; refine hK _ ?_; clear hK K
        (with_reducible refine wl_k ?_ ?_); exact rfl; intro K hK; go_simp; refine hK _ ?_; clear hK K
        (first | ((with_reducible apply wl_oneG); exact rfl; exact rfl; first | exact f0 (by with_reducible assumption) | exact f1 (by with_reducible assumption) | exact f2 (by with_reducible assumption) | exact f3 (by with_reducible assumption) | with_reducible assumption | exact g22 (by with_reducible assumption) | exact g25 (by with_reducible assumption)) | ((with_reducible apply wl_rowG); exact rfl; exact rfl; first | with_reducible assumption | exact RowK.now (by with_reducible assumption) | exact f4 (by with_reducible assumption)))
        (with_reducible refine wl_ck ?_ ?_); exact rfl; intro K hK; go_simp; refine ⟨_, _, ⟨rfl, rfl⟩, hK _ _ ⟨_, HC.out, ?_⟩⟩; clear hK K; rintro e w7 ⟨rfl, hb7⟩; refine ⟨_, rfl, ?_⟩; simp only [put_lit, List.set_cons_zero, List.set_cons_succ]
        (with_reducible refine wl_k ?_ ?_); exact rfl; intro K hK; go_simp; refine hK _ ?_; clear hK K
        (with_reducible refine wl_k ?_ ?_); exact rfl; intro K hK; go_simp; refine hK _ ?_; clear hK K
        replace hb := hb.trans (hb7.mono hb.size)
        clear hrow hb7 HC hcat
        go_wp2_with fail
        go_roundw
        case rel => exact ⟨j + 1, _, by omega, by go_num, rfl, HEQ, hb⟩
        case measure => simp [intOf]; omega
      · have hj1 : (j : Int) > 0 := by omega
        have hj2 : 0 < j := by omega
        have HEQ : Hid (((acc ++ ⟨#[44, 32]⟩) ++ x).data.toList = sepText txtT true (ts.take (j + 1))) := Lib.hid (by
          rw [HST.out, str_cat, str_cat, HA.out, HX.out, show (j == 0) = false by simp [hj0]]; simp)
        have hcat0 : ¬ 9223372036854775807 < acc.size + 2 := by have := HSZ.out; omega
        have hcat : ¬ 9223372036854775807 < acc.size + 2 + x.size := by have := HSZ.out; omega
        clear hj0 HST
        go_upto_region 7 with (fail)
        apply wp_region_lit
        (with_reducible refine wl_k ?_ ?_); exact rfl; intro K hK; go_simp; refine hK _ ?_; clear hK K
        (with_reducible refine wl_k ?_ ?_); exact rfl; intro K hK; go_simp; refine hK _ ?_; clear hK K
        (with_reducible refine wl_k ?_ ?_); exact rfl; intro K hK; go_simp; refine hK _ ?_; clear hK K
        (with_reducible refine wl_k ?_ ?_); exact rfl; intro K hK; go_simp; refine hK _ ?_; clear hK K
        (first | ((with_reducible apply wl_oneG); exact rfl; exact rfl; first | exact f0 (by with_reducible assumption) | exact f1 (by with_reducible assumption) | exact f2 (by with_reducible assumption) | exact f3 (by with_reducible assumption) | with_reducible assumption | exact g22 (by with_reducible assumption) | exact g25 (by with_reducible assumption)) | ((with_reducible apply wl_rowG); exact rfl; exact rfl; first | with_reducible assumption | exact RowK.now (by with_reducible assumption) | exact f4 (by with_reducible assumption)))
        (with_reducible refine wl_ck ?_ ?_); exact rfl; intro K hK; go_simp; refine ⟨_, _, ⟨rfl, rfl⟩, hK _ _ ⟨_, HC.out, ?_⟩⟩; clear hK K; rintro e w7 ⟨rfl, hb7⟩; refine ⟨_, rfl, ?_⟩; simp only [put_lit, List.set_cons_zero, List.set_cons_succ]
        (with_reducible refine wl_k ?_ ?_); exact rfl; intro K hK; go_simp; refine hK _ ?_; clear hK K
        (with_reducible refine wl_k ?_ ?_); exact rfl; intro K hK; go_simp; refine hK _ ?_; clear hK K
        replace hb := hb.trans (hb7.mono hb.size)
        clear hrow hb7 HC hcat hcat0
        go_wp2_with fail
        go_roundw
        case rel => exact ⟨j + 1, _, by omega, by go_num, rfl, HEQ, hb⟩
        case measure => simp [intOf]; omega
    · have hltI : ¬ (j : Int) < (l : Int) := by omega
      have HF : Hid (acc = ⟨(txtSep true ts).toArray⟩) := Lib.hid (str_eq (by rw [HA.out, List.take_of_length_le (by rw [HL.out]; omega), sep_txt]))
      go_wp2_with fail
      go_ret
      exact ⟨by rw [← HF.out]; rfl, hb⟩
end Go.Proofs.YtokmaehefenpmaaDoor
