/- Two lists merged by the document, and by the program's exported name. -/
import Derived.Test.YtbhdgeoljlhmcaaS47
import Derived.Outline
namespace Go.Proofs.Ytbhdgeoljlhmcaa
open Go.RowKit Go.Proofs.Ytbhdgeoljlhmcaa.Nm Go.Proofs.Ytbhdgeoljlhmcaa.St
set_option linter.unusedSimpArgs false
theorem Merge_any (A1 A2 : Option Addr) (n1 n2 c1 c2 : Nat) (l1 l2 : List ByteArray) (hn1 : n1 ≤ 100000) (hn2 : n2 ≤ 100000) (hc1 : n1 ≤ c1) (hc2 : n2 ≤ c2) (w : World) (h1 : StrAt w A1 n1 c1 l1) (h2 : StrAt w A2 n2 c2 l2) :
    Calls Try.prog 29 #[.slice A1 n1 c1, .slice A2 n2 c2] w fun e w' => ∃ v', e = .returned v' ∧ w'.ownsRow w.heap.size 9 1 v' (n1 + n2) (strs (mergeL l1 l2)) ∧ Below w.heap.size w w' := by
  have H1 := Lib.hid h1
  have H2 := Lib.hid h2
  clear h1 h2
  go_enter Try.func29, Try.ntmps29
  go_upto_region 1 with (fail)
  apply wp_region_lit
  refine wl_k rfl (fun K hK => ?_); go_simp; refine hK _ ?_; clear hK K
  refine wl_k rfl (fun K hK => ?_); go_simp; refine hK _ ?_; clear hK K
  refine wl_ck rfl (fun K hK => ?_); go_simp; refine ⟨_, _, ⟨rfl, rfl⟩, hK _ _ ⟨_, merge_any A1 A2 n1 n2 c1 c2 l1 l2 hn1 hn2 hc1 hc2 _ H1.out H2.out, ?_⟩⟩; clear hK K; rintro e w1 ⟨v', rfl, ho, hb⟩; refine ⟨_, rfl, ?_⟩; simp only [put_lit, List.set_cons_zero, List.set_cons_succ]
  have HO := Lib.hid ho
  clear ho
  go_wp2_with fail
  go_ret
  exact ⟨_, rfl, HO.out, hb⟩
theorem leq_ltB (a b : ByteArray) : (Op.bytesLess a.toList b.toList || a.toList == b.toList) = !ltB b a := by
  rw [ba_beq, show Op.bytesLess a.toList b.toList = ltB a b from rfl]
  cases h : ltB b a with
  | true =>
    have h2 := ltB_asymm h
    have h3 : a ≠ b := fun e => by subst e; rw [ltB_irrefl] at h; cases h
    simp [h2, h3]
  | false =>
    cases h2 : ltB a b with
    | true => rfl
    | false => simp [ltB_anti h2 h]
set_option maxHeartbeats 4000000 in
set_option maxRecDepth 100000 in
theorem MergeI_any (A1 A2 : Option Addr) (n1 n2 c1 c2 : Nat) (l1 l2 : List ByteArray) (hn1 : n1 ≤ 100000) (hn2 : n2 ≤ 100000) (w : World) (h1 : StrAt w A1 n1 c1 l1) (h2 : StrAt w A2 n2 c2 l2) :
    Calls Try.prog 30 #[.slice A1 n1 c1, .slice A2 n2 c2] w fun e w' => ∃ v', e = .returned v' ∧ w'.ownsRow w.heap.size 9 1 v' (n1 + n2) (strs (mergeL l1 l2)) ∧ Below w.heap.size w w' := by
  have H1 := Lib.hid h1
  have H2 := Lib.hid h2
  clear h1 h2
  go_enter Try.func30, Try.ntmps30
  go_wp2_with fail
  go_loopw [5, 6, 7] (fun ov iv kv wr => ∃ (i k : Nat) (o : List ByteArray), iv = .int .i64 (i : Int) ∧ kv = .int .i64 (k : Int) ∧ i ≤ n1 ∧ k ≤ n2 ∧ Hid (mergeL l1 l2 = o ++ mergeL (l1.drop i) (l2.drop k)) ∧ Hid (o.length = i + k) ∧ Hid (wr.ownsRow w.heap.size 9 1 ov o.length (strs o)) ∧ Hid (Below w.heap.size w wr)) (fun _ iv kv _ => n1 + n2 - ((intOf iv).toNat + (intOf kv).toNat))
  case atStart => exact ⟨0, 0, [], rfl, rfl, by omega, by omega, Lib.hid (by simp), Lib.hid rfl, Lib.hid ⟨rfl, Or.inl ⟨rfl, rfl⟩⟩, Lib.hid (Below.refl _ _)⟩
  case round =>
    obtain ⟨i, k, o, rfl, rfl, hi, hk, HM, HL, HO, HB⟩ := hrel
    by_cases hin : i < n1
    · have hiI : (i : Int) < (n1 : Int) := by omega
      obtain ⟨a, ha⟩ : ∃ a, l1[i]? = some a := ⟨_, List.getElem?_eq_getElem (by rw [H1.out.1]; exact hin)⟩
      obtain ⟨ad1, rfl, hca⟩ := H1.out.cell ha
      have hca' := below_cell HB.out hca
      have hda : l1.drop i = a :: l1.drop (i + 1) := by obtain ⟨h9, e⟩ := List.getElem?_eq_some_iff.1 ha; rw [List.drop_eq_getElem_cons h9, e]
      by_cases hkn : k < n2
      · have hkI : (k : Int) < (n2 : Int) := by omega
        have hne : ((k : Int) == (n2 : Int)) = false := by simp; omega
        obtain ⟨b, hb⟩ : ∃ b, l2[k]? = some b := ⟨_, List.getElem?_eq_getElem (by rw [H2.out.1]; exact hkn)⟩
        obtain ⟨ad2, rfl, hcb⟩ := H2.out.cell hb
        have hcb' := below_cell HB.out hcb
        have hdb : l2.drop k = b :: l2.drop (k + 1) := by obtain ⟨h9, e⟩ := List.getElem?_eq_some_iff.1 hb; rw [List.drop_eq_getElem_cons h9, e]
        obtain ⟨q, hq⟩ : ∃ q, q = ltB b a := ⟨_, rfl⟩
        have HLE : Hid ((Op.bytesLess a.toList b.toList || a.toList == b.toList) = !q) := Lib.hid (by rw [hq]; exact leq_ltB a b)
        have HQ : Hid (mergeL (l1.drop i) (l2.drop k) = if q then b :: mergeL (l1.drop i) (l2.drop (k + 1)) else a :: mergeL (l1.drop (i + 1)) (l2.drop k)) := Lib.hid (by rw [hda, hdb, mergeL, ← hq])
        clear ha hb hda hdb hq
        cases q with
        | true =>
          have HM2 : Hid (mergeL l1 l2 = (o ++ [b]) ++ mergeL (l1.drop i) (l2.drop (k + 1))) := Lib.hid (by rw [HM.out, HQ.out]; simp)
          clear HQ HM
          have HCA := Lib.hid hca
          have HCB := Lib.hid hcb
          clear hca hcb hca' hcb'
          go_upto_region 4 with (fail)
          refine wp_region_held_drew (S := Below w.heap.size w) mixed HB.out.drew (fun hS => ?_)
          refine ha_k (i := 0) rfl (by kernel_rfl) (by kernel_rfl) (by kernel_rfl) (fun _ _ _ _ h => h) hS rfl (fun K hK => ?_); go_simp; refine hK _ ?_; clear hK K; try simp only [put_lit, List.set_cons_zero, List.set_cons_succ]
          refine ha_k (i := 1) rfl (by kernel_rfl) (by kernel_rfl) (by kernel_rfl) (fun _ _ _ _ h => h) hS rfl (fun K hK => ?_); go_simp; refine hK _ ?_; clear hK K; try simp only [put_lit, List.set_cons_zero, List.set_cons_succ]
          refine ha_k (i := 2) rfl (by kernel_rfl) (by kernel_rfl) (by kernel_rfl) (fun _ _ _ _ h => h) hS rfl (fun K hK => ?_); go_simp; refine hK _ ?_; clear hK K; try simp only [put_lit, List.set_cons_zero, List.set_cons_succ]
          refine ha_k (i := 3) rfl (by kernel_rfl) (by kernel_rfl) (by kernel_rfl) (fun _ _ _ _ h => h) hS rfl (fun K hK => ?_); go_simp; refine hK _ ?_; clear hK K; try simp only [put_lit, List.set_cons_zero, List.set_cons_succ]
          refine ha_k (i := 4) rfl (by kernel_rfl) (by kernel_rfl) (by kernel_rfl) (fun _ _ _ _ h => h) hS rfl (fun K hK => ?_); go_simp; refine hK _ ?_; clear hK K; try simp only [put_lit, List.set_cons_zero, List.set_cons_succ]
          refine ha_k (i := 5) rfl (by kernel_rfl) (by kernel_rfl) (by kernel_rfl) (fun _ _ _ _ h => h) hS rfl (fun K hK => ?_); go_simp; refine hK _ ?_; clear hK K; try simp only [put_lit, List.set_cons_zero, List.set_cons_succ]
          refine ha_k (i := 6) rfl (by kernel_rfl) (by kernel_rfl) (by kernel_rfl) (fun _ _ _ _ h => h) hS rfl (fun K hK => ?_); go_simp; refine hK _ ?_; clear hK K; try simp only [put_lit, List.set_cons_zero, List.set_cons_succ]
          refine ha_k (i := 7) rfl (by kernel_rfl) (by kernel_rfl) (by kernel_rfl) (fun _ _ _ _ h => h) hS rfl (fun K hK => ?_); go_simp; refine hK _ ?_; clear hK K; try simp only [put_lit, List.set_cons_zero, List.set_cons_succ]
          refine ha_k (i := 8) rfl (by kernel_rfl) (by kernel_rfl) (by kernel_rfl) (fun _ _ _ _ h => h) hS rfl (fun K hK => ?_); go_simp; refine hK _ ?_; clear hK K; try simp only [put_lit, List.set_cons_zero, List.set_cons_succ]
          refine ha_k (i := 9) rfl (by kernel_rfl) (by kernel_rfl) (by kernel_rfl) (fun _ _ _ _ h => h) hS rfl (fun K hK => ?_); go_simp; refine hK _ ?_; clear hK K; try simp only [put_lit, List.set_cons_zero, List.set_cons_succ]
          refine ha_k (i := 10) rfl (by kernel_rfl) (by kernel_rfl) (by kernel_rfl) (fun _ _ _ _ h => h) hS rfl (fun K hK => ?_); go_simp; refine hK _ ?_; clear hK K; try simp only [put_lit, List.set_cons_zero, List.set_cons_succ]
          refine ha_k (i := 11) rfl (by kernel_rfl) (by kernel_rfl) (by kernel_rfl) (fun _ _ _ _ h => h) hS rfl (fun K hK => ?_); go_simp; refine hK _ ?_; clear hK K; try simp only [put_lit, List.set_cons_zero, List.set_cons_succ]
          (refine ha_val (i := 12) rfl (by kernel_rfl) (by kernel_rfl) (by kernel_rfl) (fun _ _ _ h => h) hS rfl (fun w' _ => ex_ixS (j := i) _ _ rfl rfl rfl hin) ?_; try simp only [put_lit, List.set_cons_zero, List.set_cons_succ])
          (refine ha_val (i := 13) rfl (by kernel_rfl) (by kernel_rfl) (by kernel_rfl) (fun _ _ _ h => h) hS rfl (fun w' hw' => ex_one rfl (one9 (below_cell hw' HCA.out))) ?_; try simp only [put_lit, List.set_cons_zero, List.set_cons_succ])
          refine ha_k (i := 14) rfl (by kernel_rfl) (by kernel_rfl) (by kernel_rfl) (fun _ _ _ _ h => h) hS rfl (fun K hK => ?_); go_simp; refine hK _ ?_; clear hK K; try simp only [put_lit, List.set_cons_zero, List.set_cons_succ]
          refine ha_k (i := 15) rfl (by kernel_rfl) (by kernel_rfl) (by kernel_rfl) (fun _ _ _ _ h => h) hS rfl (fun K hK => ?_); go_simp; refine hK _ ?_; clear hK K; try simp only [put_lit, List.set_cons_zero, List.set_cons_succ]
          (refine ha_val (i := 16) rfl (by kernel_rfl) (by kernel_rfl) (by kernel_rfl) (fun _ _ _ h => h) hS rfl (fun w' _ => ex_ixS (j := k) _ _ rfl rfl rfl hkn) ?_; try simp only [put_lit, List.set_cons_zero, List.set_cons_succ])
          (refine ha_val (i := 17) rfl (by kernel_rfl) (by kernel_rfl) (by kernel_rfl) (fun _ _ _ h => h) hS rfl (fun w' hw' => ex_one rfl (one9 (below_cell hw' HCB.out))) ?_; try simp only [put_lit, List.set_cons_zero, List.set_cons_succ])
          refine ha_k (i := 18) rfl (by kernel_rfl) (by kernel_rfl) (by kernel_rfl) (fun _ _ _ _ h => h) hS rfl (fun K hK => ?_); go_simp; refine hK _ ?_; clear hK K; try simp only [put_lit, List.set_cons_zero, List.set_cons_succ]
          rw [HLE.out]
          refine ha_k (i := 19) rfl (by kernel_rfl) (by kernel_rfl) (by kernel_rfl) (fun _ _ _ _ h => h) hS rfl (fun K hK => ?_); go_simp; refine hK _ ?_; clear hK K; try simp only [put_lit, List.set_cons_zero, List.set_cons_succ]
          refine ha_k (i := 20) rfl (by kernel_rfl) (by kernel_rfl) (by kernel_rfl) (fun _ _ _ _ h => h) hS rfl (fun K hK => ?_); go_simp; refine hK _ ?_; clear hK K; try simp only [put_lit, List.set_cons_zero, List.set_cons_succ]
          refine wpAnyH_done (by kernel_rfl) ?_ _
          replace HO := Lib.hid (own_below HO.out (Below.refl _ wr).drew)
          replace HB := Lib.hid hS
          clear hS
          generalize wr.drew = wr at *
          have hca' := below_cell HB.out HCA.out
          have hcb' := below_cell HB.out HCB.out
          go_upto_region 7 with (fail)
          apply wp_region_lit
          refine wl_k rfl (fun K hK => ?_); go_simp; refine hK _ ?_; clear hK K
          refine wl_k rfl (fun K hK => ?_); go_simp; refine hK _ ?_; clear hK K
          refine wl_k rfl (fun K hK => ?_); go_simp; refine hK _ ?_; clear hK K
          refine wl_k rfl (fun K hK => ?_); go_simp; refine hK _ ?_; clear hK K
          ((with_reducible apply wl_oneG); exact rfl; exact rfl; exact one9 hcb')
          simp only [put_lit, List.set_cons_zero, List.set_cons_succ]
          obtain ⟨v', w', hr, hown, hgr, -⟩ := run_push29 b 29 HO.out HB.out.size (show o.length ≤ 1000000 by have := HL.out; omega)
          have hba := HB.out.alloc (by have := HB.out.size; omega) (.cells #[.string b] 9)
          have hbg := hba.grown hgr hba.size (fun q hq => (HO.out.lt q hq).1)
          refine wl_w rfl (ex_bs29_1 _ rfl rfl) ?_
          simp only [put_lit, List.set_cons_zero, List.set_cons_succ]
          refine wl_w rfl (ex_app29 _ _ rfl rfl rfl hr) ?_
          simp only [put_lit, List.set_cons_zero, List.set_cons_succ]
          have HO2 := Lib.hid hown
          have HB2 := Lib.hid hbg
          clear hr hown hgr hba hbg HO HB
          refine wl_k rfl (fun K hK => ?_); go_simp; refine hK _ ?_; clear hK K
          go_wp2_with fail
          go_roundw
          case rel => exact ⟨i, k + 1, o ++ [b], rfl, by go_num, hi, by omega, HM2, Lib.hid (by have := HL.out; simp; omega), Lib.hid (by rw [List.length_append]; exact HO2.out), HB2⟩
          case measure => simp [intOf]; omega
        | false =>
          have HM2 : Hid (mergeL l1 l2 = (o ++ [a]) ++ mergeL (l1.drop (i + 1)) (l2.drop k)) := Lib.hid (by rw [HM.out, HQ.out]; simp)
          clear HQ HM
          have HCA := Lib.hid hca
          have HCB := Lib.hid hcb
          clear hca hcb hca' hcb'
          go_upto_region 4 with (fail)
          refine wp_region_held_drew (S := Below w.heap.size w) mixed HB.out.drew (fun hS => ?_)
          refine ha_k (i := 0) rfl (by kernel_rfl) (by kernel_rfl) (by kernel_rfl) (fun _ _ _ _ h => h) hS rfl (fun K hK => ?_); go_simp; refine hK _ ?_; clear hK K; try simp only [put_lit, List.set_cons_zero, List.set_cons_succ]
          refine ha_k (i := 1) rfl (by kernel_rfl) (by kernel_rfl) (by kernel_rfl) (fun _ _ _ _ h => h) hS rfl (fun K hK => ?_); go_simp; refine hK _ ?_; clear hK K; try simp only [put_lit, List.set_cons_zero, List.set_cons_succ]
          refine ha_k (i := 2) rfl (by kernel_rfl) (by kernel_rfl) (by kernel_rfl) (fun _ _ _ _ h => h) hS rfl (fun K hK => ?_); go_simp; refine hK _ ?_; clear hK K; try simp only [put_lit, List.set_cons_zero, List.set_cons_succ]
          refine ha_k (i := 3) rfl (by kernel_rfl) (by kernel_rfl) (by kernel_rfl) (fun _ _ _ _ h => h) hS rfl (fun K hK => ?_); go_simp; refine hK _ ?_; clear hK K; try simp only [put_lit, List.set_cons_zero, List.set_cons_succ]
          refine ha_k (i := 4) rfl (by kernel_rfl) (by kernel_rfl) (by kernel_rfl) (fun _ _ _ _ h => h) hS rfl (fun K hK => ?_); go_simp; refine hK _ ?_; clear hK K; try simp only [put_lit, List.set_cons_zero, List.set_cons_succ]
          refine ha_k (i := 5) rfl (by kernel_rfl) (by kernel_rfl) (by kernel_rfl) (fun _ _ _ _ h => h) hS rfl (fun K hK => ?_); go_simp; refine hK _ ?_; clear hK K; try simp only [put_lit, List.set_cons_zero, List.set_cons_succ]
          refine ha_k (i := 6) rfl (by kernel_rfl) (by kernel_rfl) (by kernel_rfl) (fun _ _ _ _ h => h) hS rfl (fun K hK => ?_); go_simp; refine hK _ ?_; clear hK K; try simp only [put_lit, List.set_cons_zero, List.set_cons_succ]
          refine ha_k (i := 7) rfl (by kernel_rfl) (by kernel_rfl) (by kernel_rfl) (fun _ _ _ _ h => h) hS rfl (fun K hK => ?_); go_simp; refine hK _ ?_; clear hK K; try simp only [put_lit, List.set_cons_zero, List.set_cons_succ]
          refine ha_k (i := 8) rfl (by kernel_rfl) (by kernel_rfl) (by kernel_rfl) (fun _ _ _ _ h => h) hS rfl (fun K hK => ?_); go_simp; refine hK _ ?_; clear hK K; try simp only [put_lit, List.set_cons_zero, List.set_cons_succ]
          refine ha_k (i := 9) rfl (by kernel_rfl) (by kernel_rfl) (by kernel_rfl) (fun _ _ _ _ h => h) hS rfl (fun K hK => ?_); go_simp; refine hK _ ?_; clear hK K; try simp only [put_lit, List.set_cons_zero, List.set_cons_succ]
          refine ha_k (i := 10) rfl (by kernel_rfl) (by kernel_rfl) (by kernel_rfl) (fun _ _ _ _ h => h) hS rfl (fun K hK => ?_); go_simp; refine hK _ ?_; clear hK K; try simp only [put_lit, List.set_cons_zero, List.set_cons_succ]
          refine ha_k (i := 11) rfl (by kernel_rfl) (by kernel_rfl) (by kernel_rfl) (fun _ _ _ _ h => h) hS rfl (fun K hK => ?_); go_simp; refine hK _ ?_; clear hK K; try simp only [put_lit, List.set_cons_zero, List.set_cons_succ]
          (refine ha_val (i := 12) rfl (by kernel_rfl) (by kernel_rfl) (by kernel_rfl) (fun _ _ _ h => h) hS rfl (fun w' _ => ex_ixS (j := i) _ _ rfl rfl rfl hin) ?_; try simp only [put_lit, List.set_cons_zero, List.set_cons_succ])
          (refine ha_val (i := 13) rfl (by kernel_rfl) (by kernel_rfl) (by kernel_rfl) (fun _ _ _ h => h) hS rfl (fun w' hw' => ex_one rfl (one9 (below_cell hw' HCA.out))) ?_; try simp only [put_lit, List.set_cons_zero, List.set_cons_succ])
          refine ha_k (i := 14) rfl (by kernel_rfl) (by kernel_rfl) (by kernel_rfl) (fun _ _ _ _ h => h) hS rfl (fun K hK => ?_); go_simp; refine hK _ ?_; clear hK K; try simp only [put_lit, List.set_cons_zero, List.set_cons_succ]
          refine ha_k (i := 15) rfl (by kernel_rfl) (by kernel_rfl) (by kernel_rfl) (fun _ _ _ _ h => h) hS rfl (fun K hK => ?_); go_simp; refine hK _ ?_; clear hK K; try simp only [put_lit, List.set_cons_zero, List.set_cons_succ]
          (refine ha_val (i := 16) rfl (by kernel_rfl) (by kernel_rfl) (by kernel_rfl) (fun _ _ _ h => h) hS rfl (fun w' _ => ex_ixS (j := k) _ _ rfl rfl rfl hkn) ?_; try simp only [put_lit, List.set_cons_zero, List.set_cons_succ])
          (refine ha_val (i := 17) rfl (by kernel_rfl) (by kernel_rfl) (by kernel_rfl) (fun _ _ _ h => h) hS rfl (fun w' hw' => ex_one rfl (one9 (below_cell hw' HCB.out))) ?_; try simp only [put_lit, List.set_cons_zero, List.set_cons_succ])
          refine ha_k (i := 18) rfl (by kernel_rfl) (by kernel_rfl) (by kernel_rfl) (fun _ _ _ _ h => h) hS rfl (fun K hK => ?_); go_simp; refine hK _ ?_; clear hK K; try simp only [put_lit, List.set_cons_zero, List.set_cons_succ]
          rw [HLE.out]
          refine ha_k (i := 19) rfl (by kernel_rfl) (by kernel_rfl) (by kernel_rfl) (fun _ _ _ _ h => h) hS rfl (fun K hK => ?_); go_simp; refine hK _ ?_; clear hK K; try simp only [put_lit, List.set_cons_zero, List.set_cons_succ]
          refine ha_k (i := 20) rfl (by kernel_rfl) (by kernel_rfl) (by kernel_rfl) (fun _ _ _ _ h => h) hS rfl (fun K hK => ?_); go_simp; refine hK _ ?_; clear hK K; try simp only [put_lit, List.set_cons_zero, List.set_cons_succ]
          refine wpAnyH_done (by kernel_rfl) ?_ _
          replace HO := Lib.hid (own_below HO.out (Below.refl _ wr).drew)
          replace HB := Lib.hid hS
          clear hS
          generalize wr.drew = wr at *
          have hca' := below_cell HB.out HCA.out
          have hcb' := below_cell HB.out HCB.out
          go_upto_region 5 with (fail)
          apply wp_region_lit
          refine wl_k rfl (fun K hK => ?_); go_simp; refine hK _ ?_; clear hK K
          refine wl_k rfl (fun K hK => ?_); go_simp; refine hK _ ?_; clear hK K
          refine wl_k rfl (fun K hK => ?_); go_simp; refine hK _ ?_; clear hK K
          refine wl_k rfl (fun K hK => ?_); go_simp; refine hK _ ?_; clear hK K
          ((with_reducible apply wl_oneG); exact rfl; exact rfl; exact one9 hca')
          simp only [put_lit, List.set_cons_zero, List.set_cons_succ]
          obtain ⟨v', w', hr, hown, hgr, -⟩ := run_push29 a 29 HO.out HB.out.size (show o.length ≤ 1000000 by have := HL.out; omega)
          have hba := HB.out.alloc (by have := HB.out.size; omega) (.cells #[.string a] 9)
          have hbg := hba.grown hgr hba.size (fun q hq => (HO.out.lt q hq).1)
          refine wl_w rfl (ex_bs29_1 _ rfl rfl) ?_
          simp only [put_lit, List.set_cons_zero, List.set_cons_succ]
          refine wl_w rfl (ex_app29 _ _ rfl rfl rfl hr) ?_
          simp only [put_lit, List.set_cons_zero, List.set_cons_succ]
          have HO2 := Lib.hid hown
          have HB2 := Lib.hid hbg
          clear hr hown hgr hba hbg HO HB
          refine wl_k rfl (fun K hK => ?_); go_simp; refine hK _ ?_; clear hK K
          go_wp2_with fail
          go_roundw
          case rel => exact ⟨i + 1, k, o ++ [a], by go_num, rfl, by omega, hk, HM2, Lib.hid (by have := HL.out; simp; omega), Lib.hid (by rw [List.length_append]; exact HO2.out), HB2⟩
          case measure => simp [intOf]; omega
      · obtain rfl : k = n2 := by omega
        have hne : ((k : Int) == (k : Int)) = true := by simp
        have HM2 : Hid (mergeL l1 l2 = (o ++ [a]) ++ mergeL (l1.drop (i + 1)) (l2.drop k)) := Lib.hid (by
          rw [HM.out, hda, List.drop_of_length_le (show l2.length ≤ k by rw [H2.out.1]; exact Nat.le_refl _)]
          cases l1.drop (i + 1) <;> simp [mergeL])
        clear ha hca hda HM
        go_upto_region 4 with (fail)
        refine wp_region_held_drew (S := Below w.heap.size w) mixed HB.out.drew (fun hS => ?_)
        refine ha_k (i := 0) rfl (by kernel_rfl) (by kernel_rfl) (by kernel_rfl) (fun _ _ _ _ h => h) hS rfl (fun K hK => ?_); go_simp; refine hK _ ?_; clear hK K; try simp only [put_lit, List.set_cons_zero, List.set_cons_succ]
        refine ha_k (i := 1) rfl (by kernel_rfl) (by kernel_rfl) (by kernel_rfl) (fun _ _ _ _ h => h) hS rfl (fun K hK => ?_); go_simp; refine hK _ ?_; clear hK K; try simp only [put_lit, List.set_cons_zero, List.set_cons_succ]
        refine ha_k (i := 2) rfl (by kernel_rfl) (by kernel_rfl) (by kernel_rfl) (fun _ _ _ _ h => h) hS rfl (fun K hK => ?_); go_simp; refine hK _ ?_; clear hK K; try simp only [put_lit, List.set_cons_zero, List.set_cons_succ]
        refine ha_k (i := 3) rfl (by kernel_rfl) (by kernel_rfl) (by kernel_rfl) (fun _ _ _ _ h => h) hS rfl (fun K hK => ?_); go_simp; refine hK _ ?_; clear hK K; try simp only [put_lit, List.set_cons_zero, List.set_cons_succ]
        refine ha_k (i := 4) rfl (by kernel_rfl) (by kernel_rfl) (by kernel_rfl) (fun _ _ _ _ h => h) hS rfl (fun K hK => ?_); go_simp; refine hK _ ?_; clear hK K; try simp only [put_lit, List.set_cons_zero, List.set_cons_succ]
        refine ha_skip (i := 5) rfl (by kernel_rfl) (by kernel_rfl) (by kernel_rfl) (fun _ _ _ h => h) hS rfl ?_; simp only [List.getElem_toArray, List.getElem_cons_succ, List.getElem_cons_zero, put_lit, List.set_cons_zero, List.set_cons_succ]
        refine ha_skip (i := 6) rfl (by kernel_rfl) (by kernel_rfl) (by kernel_rfl) (fun _ _ _ h => h) hS rfl ?_; simp only [List.getElem_toArray, List.getElem_cons_succ, List.getElem_cons_zero, put_lit, List.set_cons_zero, List.set_cons_succ]
        refine ha_skip (i := 7) rfl (by kernel_rfl) (by kernel_rfl) (by kernel_rfl) (fun _ _ _ h => h) hS rfl ?_; simp only [List.getElem_toArray, List.getElem_cons_succ, List.getElem_cons_zero, put_lit, List.set_cons_zero, List.set_cons_succ]
        refine ha_skip (i := 8) rfl (by kernel_rfl) (by kernel_rfl) (by kernel_rfl) (fun _ _ _ h => h) hS rfl ?_; simp only [List.getElem_toArray, List.getElem_cons_succ, List.getElem_cons_zero, put_lit, List.set_cons_zero, List.set_cons_succ]
        refine ha_skip (i := 9) rfl (by kernel_rfl) (by kernel_rfl) (by kernel_rfl) (fun _ _ _ h => h) hS rfl ?_; simp only [List.getElem_toArray, List.getElem_cons_succ, List.getElem_cons_zero, put_lit, List.set_cons_zero, List.set_cons_succ]
        refine ha_skip (i := 10) rfl (by kernel_rfl) (by kernel_rfl) (by kernel_rfl) (fun _ _ _ h => h) hS rfl ?_; simp only [List.getElem_toArray, List.getElem_cons_succ, List.getElem_cons_zero, put_lit, List.set_cons_zero, List.set_cons_succ]
        refine ha_skip (i := 11) rfl (by kernel_rfl) (by kernel_rfl) (by kernel_rfl) (fun _ _ _ h => h) hS rfl ?_; simp only [List.getElem_toArray, List.getElem_cons_succ, List.getElem_cons_zero, put_lit, List.set_cons_zero, List.set_cons_succ]
        refine ha_skip (i := 12) rfl (by kernel_rfl) (by kernel_rfl) (by kernel_rfl) (fun _ _ _ h => h) hS rfl ?_; simp only [List.getElem_toArray, List.getElem_cons_succ, List.getElem_cons_zero, put_lit, List.set_cons_zero, List.set_cons_succ]
        refine ha_skip (i := 13) rfl (by kernel_rfl) (by kernel_rfl) (by kernel_rfl) (fun _ _ _ h => h) hS rfl ?_; simp only [List.getElem_toArray, List.getElem_cons_succ, List.getElem_cons_zero, put_lit, List.set_cons_zero, List.set_cons_succ]
        refine ha_skip (i := 14) rfl (by kernel_rfl) (by kernel_rfl) (by kernel_rfl) (fun _ _ _ h => h) hS rfl ?_; simp only [List.getElem_toArray, List.getElem_cons_succ, List.getElem_cons_zero, put_lit, List.set_cons_zero, List.set_cons_succ]
        refine ha_skip (i := 15) rfl (by kernel_rfl) (by kernel_rfl) (by kernel_rfl) (fun _ _ _ h => h) hS rfl ?_; simp only [List.getElem_toArray, List.getElem_cons_succ, List.getElem_cons_zero, put_lit, List.set_cons_zero, List.set_cons_succ]
        refine ha_skip (i := 16) rfl (by kernel_rfl) (by kernel_rfl) (by kernel_rfl) (fun _ _ _ h => h) hS rfl ?_; simp only [List.getElem_toArray, List.getElem_cons_succ, List.getElem_cons_zero, put_lit, List.set_cons_zero, List.set_cons_succ]
        refine ha_skip (i := 17) rfl (by kernel_rfl) (by kernel_rfl) (by kernel_rfl) (fun _ _ _ h => h) hS rfl ?_; simp only [List.getElem_toArray, List.getElem_cons_succ, List.getElem_cons_zero, put_lit, List.set_cons_zero, List.set_cons_succ]
        refine ha_skip (i := 18) rfl (by kernel_rfl) (by kernel_rfl) (by kernel_rfl) (fun _ _ _ h => h) hS rfl ?_; simp only [List.getElem_toArray, List.getElem_cons_succ, List.getElem_cons_zero, put_lit, List.set_cons_zero, List.set_cons_succ]
        refine ha_skip (i := 19) rfl (by kernel_rfl) (by kernel_rfl) (by kernel_rfl) (fun _ _ _ h => h) hS rfl ?_; simp only [List.getElem_toArray, List.getElem_cons_succ, List.getElem_cons_zero, put_lit, List.set_cons_zero, List.set_cons_succ]
        refine ha_k (i := 20) rfl (by kernel_rfl) (by kernel_rfl) (by kernel_rfl) (fun _ _ _ _ h => h) hS rfl (fun K hK => ?_); go_simp; refine hK _ ?_; clear hK K; try simp only [put_lit, List.set_cons_zero, List.set_cons_succ]
        refine wpAnyH_done (by kernel_rfl) ?_ _
        replace hca' : wr.drew.cell? _ = _ := hca'
        replace HO := Lib.hid (own_below HO.out (Below.refl _ wr).drew)
        replace HB := Lib.hid hS
        clear hS
        generalize wr.drew = wr at *
        go_upto_region 5 with (fail)
        apply wp_region_lit
        refine wl_k rfl (fun K hK => ?_); go_simp; refine hK _ ?_; clear hK K
        refine wl_k rfl (fun K hK => ?_); go_simp; refine hK _ ?_; clear hK K
        refine wl_k rfl (fun K hK => ?_); go_simp; refine hK _ ?_; clear hK K
        refine wl_k rfl (fun K hK => ?_); go_simp; refine hK _ ?_; clear hK K
        ((with_reducible apply wl_oneG); exact rfl; exact rfl; exact one9 hca')
        simp only [put_lit, List.set_cons_zero, List.set_cons_succ]
        obtain ⟨v', w', hr, hown, hgr, -⟩ := run_push29 a 29 HO.out HB.out.size (show o.length ≤ 1000000 by have := HL.out; omega)
        have hba := HB.out.alloc (by have := HB.out.size; omega) (.cells #[.string a] 9)
        have hbg := hba.grown hgr hba.size (fun q hq => (HO.out.lt q hq).1)
        refine wl_w rfl (ex_bs29_1 _ rfl rfl) ?_
        simp only [put_lit, List.set_cons_zero, List.set_cons_succ]
        refine wl_w rfl (ex_app29 _ _ rfl rfl rfl hr) ?_
        simp only [put_lit, List.set_cons_zero, List.set_cons_succ]
        have HO2 := Lib.hid hown
        have HB2 := Lib.hid hbg
        clear hr hown hgr hba hbg HO HB
        refine wl_k rfl (fun K hK => ?_); go_simp; refine hK _ ?_; clear hK K
        go_wp2_with fail
        go_roundw
        case rel => exact ⟨i + 1, k, o ++ [a], by go_num, rfl, by omega, hk, HM2, Lib.hid (by have := HL.out; simp; omega), Lib.hid (by rw [List.length_append]; exact HO2.out), HB2⟩
        case measure => simp [intOf]; omega
    · obtain rfl : i = n1 := by omega
      by_cases hkn : k < n2
      · have hkI : (k : Int) < (n2 : Int) := by omega
        have hne : ((k : Int) == (n2 : Int)) = false := by simp; omega
        obtain ⟨b, hb⟩ : ∃ b, l2[k]? = some b := ⟨_, List.getElem?_eq_getElem (by rw [H2.out.1]; exact hkn)⟩
        obtain ⟨ad2, rfl, hcb⟩ := H2.out.cell hb
        have hcb' := below_cell HB.out hcb
        have hdb : l2.drop k = b :: l2.drop (k + 1) := by obtain ⟨h9, e⟩ := List.getElem?_eq_some_iff.1 hb; rw [List.drop_eq_getElem_cons h9, e]
        have HM2 : Hid (mergeL l1 l2 = (o ++ [b]) ++ mergeL (l1.drop i) (l2.drop (k + 1))) := Lib.hid (by
          rw [HM.out, hdb, List.drop_of_length_le (show l1.length ≤ i by rw [H1.out.1]; exact Nat.le_refl _)]
          simp [mergeL])
        clear hb hcb hdb HM
        go_upto_region 4 with (fail)
        refine wp_region_held_drew (S := Below w.heap.size w) mixed HB.out.drew (fun hS => ?_)
        refine ha_k (i := 0) rfl (by kernel_rfl) (by kernel_rfl) (by kernel_rfl) (fun _ _ _ _ h => h) hS rfl (fun K hK => ?_); go_simp; refine hK _ ?_; clear hK K; try simp only [put_lit, List.set_cons_zero, List.set_cons_succ]
        refine ha_k (i := 1) rfl (by kernel_rfl) (by kernel_rfl) (by kernel_rfl) (fun _ _ _ _ h => h) hS rfl (fun K hK => ?_); go_simp; refine hK _ ?_; clear hK K; try simp only [put_lit, List.set_cons_zero, List.set_cons_succ]
        refine ha_k (i := 2) rfl (by kernel_rfl) (by kernel_rfl) (by kernel_rfl) (fun _ _ _ _ h => h) hS rfl (fun K hK => ?_); go_simp; refine hK _ ?_; clear hK K; try simp only [put_lit, List.set_cons_zero, List.set_cons_succ]
        refine ha_k (i := 3) rfl (by kernel_rfl) (by kernel_rfl) (by kernel_rfl) (fun _ _ _ _ h => h) hS rfl (fun K hK => ?_); go_simp; refine hK _ ?_; clear hK K; try simp only [put_lit, List.set_cons_zero, List.set_cons_succ]
        refine ha_k (i := 4) rfl (by kernel_rfl) (by kernel_rfl) (by kernel_rfl) (fun _ _ _ _ h => h) hS rfl (fun K hK => ?_); go_simp; refine hK _ ?_; clear hK K; try simp only [put_lit, List.set_cons_zero, List.set_cons_succ]
        refine ha_k (i := 5) rfl (by kernel_rfl) (by kernel_rfl) (by kernel_rfl) (fun _ _ _ _ h => h) hS rfl (fun K hK => ?_); go_simp; refine hK _ ?_; clear hK K; try simp only [put_lit, List.set_cons_zero, List.set_cons_succ]
        refine ha_k (i := 6) rfl (by kernel_rfl) (by kernel_rfl) (by kernel_rfl) (fun _ _ _ _ h => h) hS rfl (fun K hK => ?_); go_simp; refine hK _ ?_; clear hK K; try simp only [put_lit, List.set_cons_zero, List.set_cons_succ]
        refine ha_k (i := 7) rfl (by kernel_rfl) (by kernel_rfl) (by kernel_rfl) (fun _ _ _ _ h => h) hS rfl (fun K hK => ?_); go_simp; refine hK _ ?_; clear hK K; try simp only [put_lit, List.set_cons_zero, List.set_cons_succ]
        refine ha_k (i := 8) rfl (by kernel_rfl) (by kernel_rfl) (by kernel_rfl) (fun _ _ _ _ h => h) hS rfl (fun K hK => ?_); go_simp; refine hK _ ?_; clear hK K; try simp only [put_lit, List.set_cons_zero, List.set_cons_succ]
        refine ha_k (i := 9) rfl (by kernel_rfl) (by kernel_rfl) (by kernel_rfl) (fun _ _ _ _ h => h) hS rfl (fun K hK => ?_); go_simp; refine hK _ ?_; clear hK K; try simp only [put_lit, List.set_cons_zero, List.set_cons_succ]
        refine ha_skip (i := 10) rfl (by kernel_rfl) (by kernel_rfl) (by kernel_rfl) (fun _ _ _ h => h) hS rfl ?_; simp only [List.getElem_toArray, List.getElem_cons_succ, List.getElem_cons_zero, put_lit, List.set_cons_zero, List.set_cons_succ]
        refine ha_skip (i := 11) rfl (by kernel_rfl) (by kernel_rfl) (by kernel_rfl) (fun _ _ _ h => h) hS rfl ?_; simp only [List.getElem_toArray, List.getElem_cons_succ, List.getElem_cons_zero, put_lit, List.set_cons_zero, List.set_cons_succ]
        refine ha_skip (i := 12) rfl (by kernel_rfl) (by kernel_rfl) (by kernel_rfl) (fun _ _ _ h => h) hS rfl ?_; simp only [List.getElem_toArray, List.getElem_cons_succ, List.getElem_cons_zero, put_lit, List.set_cons_zero, List.set_cons_succ]
        refine ha_skip (i := 13) rfl (by kernel_rfl) (by kernel_rfl) (by kernel_rfl) (fun _ _ _ h => h) hS rfl ?_; simp only [List.getElem_toArray, List.getElem_cons_succ, List.getElem_cons_zero, put_lit, List.set_cons_zero, List.set_cons_succ]
        refine ha_skip (i := 14) rfl (by kernel_rfl) (by kernel_rfl) (by kernel_rfl) (fun _ _ _ h => h) hS rfl ?_; simp only [List.getElem_toArray, List.getElem_cons_succ, List.getElem_cons_zero, put_lit, List.set_cons_zero, List.set_cons_succ]
        refine ha_skip (i := 15) rfl (by kernel_rfl) (by kernel_rfl) (by kernel_rfl) (fun _ _ _ h => h) hS rfl ?_; simp only [List.getElem_toArray, List.getElem_cons_succ, List.getElem_cons_zero, put_lit, List.set_cons_zero, List.set_cons_succ]
        refine ha_skip (i := 16) rfl (by kernel_rfl) (by kernel_rfl) (by kernel_rfl) (fun _ _ _ h => h) hS rfl ?_; simp only [List.getElem_toArray, List.getElem_cons_succ, List.getElem_cons_zero, put_lit, List.set_cons_zero, List.set_cons_succ]
        refine ha_skip (i := 17) rfl (by kernel_rfl) (by kernel_rfl) (by kernel_rfl) (fun _ _ _ h => h) hS rfl ?_; simp only [List.getElem_toArray, List.getElem_cons_succ, List.getElem_cons_zero, put_lit, List.set_cons_zero, List.set_cons_succ]
        refine ha_skip (i := 18) rfl (by kernel_rfl) (by kernel_rfl) (by kernel_rfl) (fun _ _ _ h => h) hS rfl ?_; simp only [List.getElem_toArray, List.getElem_cons_succ, List.getElem_cons_zero, put_lit, List.set_cons_zero, List.set_cons_succ]
        refine ha_k (i := 19) rfl (by kernel_rfl) (by kernel_rfl) (by kernel_rfl) (fun _ _ _ _ h => h) hS rfl (fun K hK => ?_); go_simp; refine hK _ ?_; clear hK K; try simp only [put_lit, List.set_cons_zero, List.set_cons_succ]
        refine ha_k (i := 20) rfl (by kernel_rfl) (by kernel_rfl) (by kernel_rfl) (fun _ _ _ _ h => h) hS rfl (fun K hK => ?_); go_simp; refine hK _ ?_; clear hK K; try simp only [put_lit, List.set_cons_zero, List.set_cons_succ]
        refine wpAnyH_done (by kernel_rfl) ?_ _
        replace hcb' : wr.drew.cell? _ = _ := hcb'
        replace HO := Lib.hid (own_below HO.out (Below.refl _ wr).drew)
        replace HB := Lib.hid hS
        clear hS
        generalize wr.drew = wr at *
        go_upto_region 7 with (fail)
        apply wp_region_lit
        refine wl_k rfl (fun K hK => ?_); go_simp; refine hK _ ?_; clear hK K
        refine wl_k rfl (fun K hK => ?_); go_simp; refine hK _ ?_; clear hK K
        refine wl_k rfl (fun K hK => ?_); go_simp; refine hK _ ?_; clear hK K
        refine wl_k rfl (fun K hK => ?_); go_simp; refine hK _ ?_; clear hK K
        ((with_reducible apply wl_oneG); exact rfl; exact rfl; exact one9 hcb')
        simp only [put_lit, List.set_cons_zero, List.set_cons_succ]
        obtain ⟨v', w', hr, hown, hgr, -⟩ := run_push29 b 29 HO.out HB.out.size (show o.length ≤ 1000000 by have := HL.out; omega)
        have hba := HB.out.alloc (by have := HB.out.size; omega) (.cells #[.string b] 9)
        have hbg := hba.grown hgr hba.size (fun q hq => (HO.out.lt q hq).1)
        refine wl_w rfl (ex_bs29_1 _ rfl rfl) ?_
        simp only [put_lit, List.set_cons_zero, List.set_cons_succ]
        refine wl_w rfl (ex_app29 _ _ rfl rfl rfl hr) ?_
        simp only [put_lit, List.set_cons_zero, List.set_cons_succ]
        have HO2 := Lib.hid hown
        have HB2 := Lib.hid hbg
        clear hr hown hgr hba hbg HO HB
        refine wl_k rfl (fun K hK => ?_); go_simp; refine hK _ ?_; clear hK K
        go_wp2_with fail
        go_roundw
        case rel => exact ⟨i, k + 1, o ++ [b], rfl, by go_num, hi, by omega, HM2, Lib.hid (by have := HL.out; simp; omega), Lib.hid (by rw [List.length_append]; exact HO2.out), HB2⟩
        case measure => simp [intOf]; omega
      · obtain rfl : k = n2 := by omega
        have HF : Hid (mergeL l1 l2 = o) := Lib.hid (by
          rw [HM.out, List.drop_of_length_le (show l1.length ≤ i by rw [H1.out.1]; exact Nat.le_refl _), List.drop_of_length_le (show l2.length ≤ k by rw [H2.out.1]; exact Nat.le_refl _)]
          simp [mergeL])
        go_wp2_with fail
        go_ret
        exact ⟨_, rfl, by rw [HF.out, ← HL.out]; exact HO.out, HB.out⟩
end Go.Proofs.Ytbhdgeoljlhmcaa
