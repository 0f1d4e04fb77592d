/- Lists of texts by the document's helpers and by the program: copied, sought, halved. -/
import Derived.Test.YtbhdgeoljlhmcaaS46
import Derived.Test.YtbhdgeoljlhmcaaS38
import Derived.Outline
namespace Go.Proofs.Ytbhdgeoljlhmcaa
open Go.RowKit Go.Proofs.Ytbhdgeoljlhmcaa.Nm Go.Proofs.Ytbhdgeoljlhmcaa.St
set_option linter.unusedSimpArgs false
theorem run_mk29 {w : World} {n B : Nat} (hn : n ≤ 1000000) (hB : B ≤ w.heap.size) :
    ∃ w', (Instr.makeSlice 29 (.int .i64 0) (.int .i64 (n : Int))).run Try.prog w = .ok (.slice (some ⟨w.heap.size, 0, none⟩) 0 n) w' ∧ w'.ownsRow B 9 1 (.slice (some ⟨w.heap.size, 0, none⟩) 0 n) 0 (strs []) ∧ w.grownBy w' none := by
  obtain ⟨i0, hi, hz0, hz1, hz2⟩ := info_parts info9
  exact run_make_own (P := Try.prog) w B 29 9 i0 _ 1 u29 hi hz0 hz1 .i64 .i64 n (by rw [hz2]; omega) (by unfold maxLen; omega) hB
theorem ex_mkS {ev : Operand → Value} {o : Oper} {w w' : World} {v a b : Value} {T : TypeId} (x y : Operand) (ho : o.op = .makeSlice T x y) (hx : ev x = a) (hy : ev y = b) (hr : (Instr.makeSlice T a b).run Try.prog w = .ok v w') :
    (execOp ev o).run Try.prog w = .ok (.value v) w' := by
  unfold execOp
  simp [ho, hx, hy, hr, Result.andThen]
set_option maxHeartbeats 2000000 in
set_option maxRecDepth 100000 in
theorem CopyStrings_any (A : Option Addr) (n c : Nat) (l : List ByteArray) (hn : n ≤ 1000000) (w : World) (h : StrAt w A n c l) :
    Calls Try.prog 33 #[.slice A n c] w fun e w' => ∃ v', e = .returned v' ∧ w'.ownsRow w.heap.size 9 1 v' n (strs l) ∧ Below w.heap.size w w' := by
  have H := Lib.hid h
  clear h
  go_enter Try.func33, Try.ntmps33
  go_upto_region 1 with (fail)
  apply wp_region_lit
  refine wl_k rfl (fun K hK => ?_); go_simp; refine hK _ ?_; clear hK K
  refine wl_k rfl (fun K hK => ?_); go_simp; refine hK _ ?_; clear hK K
  obtain ⟨w1, hr, ho, hg⟩ := run_mk29 (w := w) hn (Nat.le_refl w.heap.size)
  refine wl_w rfl (ex_mkS _ _ rfl rfl rfl hr) ?_
  simp only [put_lit, List.set_cons_zero, List.set_cons_succ]
  have hb := (Below.refl w.heap.size w).grown hg (Nat.le_refl _) (fun q hq => by cases hq)
  have HO := Lib.hid ho
  have HB := Lib.hid hb
  clear hr ho hg hb
  refine wl_k rfl (fun K hK => ?_); go_simp; refine hK _ ?_; clear hK K
  go_wp2_with fail
  go_loopw [3, 4] (fun v i wr => ∃ j : Nat, j ≤ n ∧ i = .int .i64 (j : Int) ∧ Hid (wr.ownsRow w.heap.size 9 1 v j (strs (l.take j))) ∧ Hid (Below w.heap.size w wr)) (fun _ i _ => n - (intOf i).toNat)
  case atStart => exact ⟨0, by omega, rfl, HO, HB⟩
  case round =>
    clear HO HB
    obtain ⟨j, hj, rfl, HO, HB⟩ := hrel
    by_cases hlt : j < n
    · have hltI : (j : Int) < (n : Int) := by omega
      obtain ⟨o, ho⟩ : ∃ o, l[j]? = some o := ⟨_, List.getElem?_eq_getElem (by rw [H.out.1]; exact hlt)⟩
      obtain ⟨ad, rfl, hca⟩ := H.out.cell ho
      have hkey := below_cell HB.out hca
      have HOJ := Lib.hid ho
      clear ho hca
      go_upto_region 5 with (fail)
      apply wp_region_lit
      refine wl_k rfl (fun K hK => ?_); go_simp; refine hK _ ?_; clear hK K
      refine wl_k rfl (fun K hK => ?_); go_simp; refine hK _ ?_; clear hK K
      refine wl_k rfl (fun K hK => ?_); go_simp; refine hK _ ?_; clear hK K
      refine wl_k rfl (fun K hK => ?_); go_simp; refine hK _ ?_; clear hK K
      ((with_reducible apply wl_oneG); exact rfl; exact rfl; exact one9 hkey)
      simp only [put_lit, List.set_cons_zero, List.set_cons_succ]
      obtain ⟨v', w', hr, hown, hgr, -⟩ := run_push29 o 29 HO.out HB.out.size (show j ≤ 1000000 by omega)
      have hba := HB.out.alloc (by have := HB.out.size; omega) (.cells #[.string o] 9)
      have hbg := hba.grown hgr hba.size (fun q hq => (HO.out.lt q hq).1)
      refine wl_w rfl (ex_bs29_1 _ rfl rfl) ?_
      simp only [put_lit, List.set_cons_zero, List.set_cons_succ]
      refine wl_w rfl (ex_app29 _ _ rfl rfl rfl hr) ?_
      simp only [put_lit, List.set_cons_zero, List.set_cons_succ]
      have HO2 : Hid (w'.ownsRow w.heap.size 9 1 v' (j + 1) (strs (l.take (j + 1)))) := Lib.hid (by rw [List.take_add_one, HOJ.out]; exact hown)
      have HB2 := Lib.hid hbg
      clear hr hown hgr hba hbg HO HB
      go_wp2_with fail
      go_roundw
      case rel => exact ⟨j + 1, by omega, by go_num, HO2, HB2⟩
      case measure => simp [intOf]; omega
    · obtain rfl : j = n := by omega
      go_wp2_with fail
      go_ret
      refine ⟨_, rfl, ?_, HB.out⟩
      have h := HO.out
      rwa [List.take_of_length_le (by rw [H.out.1]; exact Nat.le_refl _)] at h
set_option maxHeartbeats 2000000 in
set_option maxRecDepth 100000 in
theorem Has_any (A : Option Addr) (n c : Nat) (l : List ByteArray) (k : ByteArray) (hn : n ≤ 1000000) (w : World) (h : StrAt w A n c l) :
    Calls Try.prog 34 #[.slice A n c, .string k] w fun e w' => ∃ r, e = .returned (.int .i64 r) ∧ (0 ≤ r ↔ k ∈ l) ∧ Below w.heap.size w w' := by
  have H := Lib.hid h
  clear h
  go_enter Try.func34, Try.ntmps34
  go_wp2_with fail
  go_loopw [5] (fun i wr => ∃ j : Nat, j ≤ n ∧ i = .int .i64 (j : Int) ∧ Hid (k ∉ l.take j) ∧ Below w.heap.size w wr) (fun i _ => n - (intOf i).toNat)
  case atStart => exact ⟨0, by omega, rfl, Lib.hid (by simp), Below.refl _ _⟩
  case round =>
    obtain ⟨j, hj, rfl, HT, hb⟩ := hrel
    by_cases hlt : j < n
    · have hltI : (j : Int) < (n : Int) := by omega
      obtain ⟨o, ho⟩ : ∃ o, l[j]? = some o := ⟨_, List.getElem?_eq_getElem (by rw [H.out.1]; exact hlt)⟩
      obtain ⟨ad, rfl, hca⟩ := H.out.cell ho
      have hkey := below_cell hb hca
      have HOJ := Lib.hid ho
      clear ho hca
      by_cases e : o = k
      · subst e
        have hd : (o.toList == o.toList) = true := by simp
        go_wp2_with fail
        go_ret
        exact ⟨_, rfl, ⟨fun _ => List.mem_of_getElem? HOJ.out, fun _ => by omega⟩, hb⟩
      · have hd : (o.toList == k.toList) = false := by rw [ba_beq]; simpa using e
        have HT2 : Hid (k ∉ l.take (j + 1)) := Lib.hid (by
          rw [List.take_add_one, HOJ.out]
          simp only [Option.toList_some, List.mem_append, List.mem_singleton, not_or]
          exact ⟨HT.out, fun h => e h.symm⟩)
        go_wp2_with fail
        go_roundw
        case rel => exact ⟨j + 1, by omega, by go_num, HT2, hb⟩
        case measure => simp [intOf]; omega
    · obtain rfl : j = n := by omega
      have HN : Hid (k ∉ l) := Lib.hid (by have h := HT.out; rwa [List.take_of_length_le (by rw [H.out.1]; exact Nat.le_refl _)] at h)
      go_wp2_with fail
      go_ret
      exact ⟨_, rfl, ⟨fun h => absurd h (by decide), fun h => absurd h HN.out⟩, hb⟩
set_option maxHeartbeats 2000000 in
set_option maxRecDepth 100000 in
theorem Search_any (A : Option Addr) (n c : Nat) (l : List ByteArray) (k : ByteArray) (hn : n ≤ 1000000) (w : World) (h : StrAt w A n c l) :
    Calls Try.prog 31 #[.slice A n c, .string k] w fun e w' => e = .returned (.tuple #[.int .i64 ((srch l k 0 l.length : Nat) : Int), .bool (decide (l[srch l k 0 l.length]? = some k))]) ∧ Below w.heap.size w w' := by
  have H := Lib.hid h
  have HN := Lib.hid h.1
  clear h
  obtain ⟨R, hR⟩ : ∃ R, R = srch l k 0 l.length := ⟨_, rfl⟩
  rw [← hR]
  have HR0 : Hid (srch l k 0 n = R) := Lib.hid (by rw [← HN.out, hR])
  clear hR
  go_enter Try.func31, Try.ntmps31
  go_wp2_with fail
  go_loopw [6, 7] (fun i h wr => ∃ (lo hi : Nat), lo ≤ hi ∧ hi ≤ n ∧ i = .int .i64 (lo : Int) ∧ h = .int .i64 (hi : Int) ∧ Hid (srch l k lo hi = R) ∧ Below w.heap.size w wr) (fun i h _ => (intOf h).toNat - (intOf i).toNat)
  case atStart => exact ⟨0, n, by omega, by omega, rfl, rfl, HR0, Below.refl _ _⟩
  case round =>
    clear HR0
    obtain ⟨lo, hi, hlh, hhn, rfl, rfl, HR, hb⟩ := hrel
    by_cases hlt : lo < hi
    · have hltI : (lo : Int) < (hi : Int) := by omega
      have hw1 : IntKind.i64.wrap ((lo : Int) + (hi : Int)) = ((lo + hi : Nat) : Int) := by rw [wrap_small _ (by omega) (by omega)]; omega
      have hw2 : Int.tdiv ((lo + hi : Nat) : Int) 2 = (((lo + hi) / 2 : Nat) : Int) := rfl
      have hml : lo ≤ (lo + hi) / 2 := by omega
      have hmh : (lo + hi) / 2 < hi := by omega
      obtain ⟨o, ho⟩ : ∃ o, l[(lo + hi) / 2]? = some o := ⟨_, List.getElem?_eq_getElem (by rw [HN.out]; omega)⟩
      obtain ⟨ad, rfl, hca⟩ := H.out.cell ho
      have hkey := below_cell hb hca
      have HST : Hid (srch l k lo hi = if ltB o k then srch l k ((lo + hi) / 2 + 1) hi else srch l k lo ((lo + hi) / 2)) := Lib.hid (by
        rw [srch, dif_pos hlt, List.getD_eq_getElem?_getD, ho]; rfl)
      have hmn : (((lo + hi) / 2 : Nat) : Int) < (n : Int) := by omega
      have hmn2 : (lo + hi) / 2 < n := by omega
      clear ho hca
      obtain ⟨q, hq⟩ : ∃ q, q = ltB o k := ⟨_, rfl⟩
      rw [← hq] at HST
      have hq2 : Op.bytesLess o.toList k.toList = q := hq.symm
      clear hq
      cases q with
      | true =>
        have HST2 : Hid (srch l k ((lo + hi) / 2 + 1) hi = R) := Lib.hid (by rw [← HR.out, HST.out]; rfl)
        go_wp2_with fail
        go_roundw
        case rel => exact ⟨(lo + hi) / 2 + 1, hi, by omega, by omega, by go_num, rfl, HST2, hb⟩
        case measure => simp [intOf]; omega
      | false =>
        have HST2 : Hid (srch l k lo ((lo + hi) / 2) = R) := Lib.hid (by rw [← HR.out, HST.out]; rfl)
        go_wp2_with fail
        go_roundw
        case rel => exact ⟨lo, (lo + hi) / 2, by omega, by omega, rfl, by simp, HST2, hb⟩
        case measure => simp [intOf]; omega
    · obtain rfl : lo = hi := by omega
      have HST2 : Hid (lo = R) := Lib.hid (by have := HR.out; rwa [srch, dif_neg (by omega)] at this)
      by_cases hln : lo < n
      · have hlnI : (lo : Int) < (n : Int) := by omega
        obtain ⟨o, ho⟩ : ∃ o, l[lo]? = some o := ⟨_, List.getElem?_eq_getElem (by rw [HN.out]; omega)⟩
        obtain ⟨ad, rfl, hca⟩ := H.out.cell ho
        have hkey := below_cell hb hca
        have HF : Hid ((o.toList == k.toList) = decide (l[R]? = some k)) := Lib.hid (by rw [← HST2.out, ho, ba_beq]; simp)
        have HCA := Lib.hid hca
        clear ho hca hkey
        go_upto_region 7 with (fail)
        refine wp_region_held_drew (S := Below w.heap.size w) mixed hb.drew (fun hS => ?_)
        refine ha_k (i := 0) rfl (by kernel_rfl) (by kernel_rfl) (by kernel_rfl) (fun _ _ _ _ h => h) hS rfl (fun K hK => ?_); go_simp; refine hK _ ?_; clear hK K; try simp only [put_lit, List.set_cons_zero, List.set_cons_succ]
        refine ha_k (i := 1) rfl (by kernel_rfl) (by kernel_rfl) (by kernel_rfl) (fun _ _ _ _ h => h) hS rfl (fun K hK => ?_); go_simp; refine hK _ ?_; clear hK K; try simp only [put_lit, List.set_cons_zero, List.set_cons_succ]
        refine ha_k (i := 2) rfl (by kernel_rfl) (by kernel_rfl) (by kernel_rfl) (fun _ _ _ _ h => h) hS rfl (fun K hK => ?_); go_simp; refine hK _ ?_; clear hK K; try simp only [put_lit, List.set_cons_zero, List.set_cons_succ]
        refine ha_k (i := 3) rfl (by kernel_rfl) (by kernel_rfl) (by kernel_rfl) (fun _ _ _ _ h => h) hS rfl (fun K hK => ?_); go_simp; refine hK _ ?_; clear hK K; try simp only [put_lit, List.set_cons_zero, List.set_cons_succ]
        refine ha_k (i := 4) rfl (by kernel_rfl) (by kernel_rfl) (by kernel_rfl) (fun _ _ _ _ h => h) hS rfl (fun K hK => ?_); go_simp; refine hK _ ?_; clear hK K; try simp only [put_lit, List.set_cons_zero, List.set_cons_succ]
        refine ha_k (i := 5) rfl (by kernel_rfl) (by kernel_rfl) (by kernel_rfl) (fun _ _ _ _ h => h) hS rfl (fun K hK => ?_); go_simp; refine hK _ ?_; clear hK K; try simp only [put_lit, List.set_cons_zero, List.set_cons_succ]
        refine ha_k (i := 6) rfl (by kernel_rfl) (by kernel_rfl) (by kernel_rfl) (fun _ _ _ _ h => h) hS rfl (fun K hK => ?_); go_simp; refine hK _ ?_; clear hK K; try simp only [put_lit, List.set_cons_zero, List.set_cons_succ]
        refine ha_k (i := 7) rfl (by kernel_rfl) (by kernel_rfl) (by kernel_rfl) (fun _ _ _ _ h => h) hS rfl (fun K hK => ?_); go_simp; refine hK _ ?_; clear hK K; try simp only [put_lit, List.set_cons_zero, List.set_cons_succ]
        (refine ha_val (i := 8) rfl (by kernel_rfl) (by kernel_rfl) (by kernel_rfl) (fun _ _ _ h => h) hS rfl (fun w' _ => ex_ixS (j := lo) _ _ rfl rfl rfl hln) ?_; try simp only [put_lit, List.set_cons_zero, List.set_cons_succ])
        (refine ha_val (i := 9) rfl (by kernel_rfl) (by kernel_rfl) (by kernel_rfl) (fun _ _ _ h => h) hS rfl (fun w' hw' => ex_one rfl (one9 (below_cell hw' HCA.out))) ?_; try simp only [put_lit, List.set_cons_zero, List.set_cons_succ])
        refine ha_k (i := 10) rfl (by kernel_rfl) (by kernel_rfl) (by kernel_rfl) (fun _ _ _ _ h => h) hS rfl (fun K hK => ?_); go_simp; refine hK _ ?_; clear hK K; try simp only [put_lit, List.set_cons_zero, List.set_cons_succ]
        refine ha_k (i := 11) rfl (by kernel_rfl) (by kernel_rfl) (by kernel_rfl) (fun _ _ _ _ h => h) hS rfl (fun K hK => ?_); go_simp; refine hK _ ?_; clear hK K; try simp only [put_lit, List.set_cons_zero, List.set_cons_succ]
        refine ha_k (i := 12) rfl (by kernel_rfl) (by kernel_rfl) (by kernel_rfl) (fun _ _ _ _ h => h) hS rfl (fun K hK => ?_); go_simp; refine hK _ ?_; clear hK K; try simp only [put_lit, List.set_cons_zero, List.set_cons_succ]
        refine ha_k (i := 13) rfl (by kernel_rfl) (by kernel_rfl) (by kernel_rfl) (fun _ _ _ _ h => h) hS rfl (fun K hK => ?_); go_simp; refine hK _ ?_; clear hK K; try simp only [put_lit, List.set_cons_zero, List.set_cons_succ]
        refine ha_k (i := 14) rfl (by kernel_rfl) (by kernel_rfl) (by kernel_rfl) (fun _ _ _ _ h => h) hS rfl (fun K hK => ?_); go_simp; refine hK _ ?_; clear hK K; try simp only [put_lit, List.set_cons_zero, List.set_cons_succ]
        refine wpAnyH_done (by kernel_rfl) ?_ _
        go_wp2_with fail
        go_ret2
        exact ⟨by rw [← HF.out, ← HST2.out]; rfl, hb.drew⟩
      · obtain rfl : lo = n := by omega
        have HF : Hid (decide (l[R]? = some k) = false) := Lib.hid (by rw [← HST2.out, List.getElem?_eq_none (by rw [HN.out]; exact Nat.le_refl _)]; simp)
        go_upto_region 7 with (fail)
        refine wp_region_held_drew (S := Kept [] wr) mixed (Kept.drew [] wr) (fun hS => ?_)
        refine ha_k (i := 0) rfl (by kernel_rfl) (by kernel_rfl) (by kernel_rfl) (fun _ _ _ _ h => h) hS rfl (fun K hK => ?_); go_simp; refine hK _ ?_; clear hK K; try simp only [put_lit, List.set_cons_zero, List.set_cons_succ]
        refine ha_k (i := 1) rfl (by kernel_rfl) (by kernel_rfl) (by kernel_rfl) (fun _ _ _ _ h => h) hS rfl (fun K hK => ?_); go_simp; refine hK _ ?_; clear hK K; try simp only [put_lit, List.set_cons_zero, List.set_cons_succ]
        refine ha_k (i := 2) rfl (by kernel_rfl) (by kernel_rfl) (by kernel_rfl) (fun _ _ _ _ h => h) hS rfl (fun K hK => ?_); go_simp; refine hK _ ?_; clear hK K; try simp only [put_lit, List.set_cons_zero, List.set_cons_succ]
        refine ha_k (i := 3) rfl (by kernel_rfl) (by kernel_rfl) (by kernel_rfl) (fun _ _ _ _ h => h) hS rfl (fun K hK => ?_); go_simp; refine hK _ ?_; clear hK K; try simp only [put_lit, List.set_cons_zero, List.set_cons_succ]
        refine ha_k (i := 4) rfl (by kernel_rfl) (by kernel_rfl) (by kernel_rfl) (fun _ _ _ _ h => h) hS rfl (fun K hK => ?_); go_simp; refine hK _ ?_; clear hK K; try simp only [put_lit, List.set_cons_zero, List.set_cons_succ]
        refine ha_k (i := 5) rfl (by kernel_rfl) (by kernel_rfl) (by kernel_rfl) (fun _ _ _ _ h => h) hS rfl (fun K hK => ?_); go_simp; refine hK _ ?_; clear hK K; try simp only [put_lit, List.set_cons_zero, List.set_cons_succ]
        refine ha_skip (i := 6) rfl (by kernel_rfl) (by kernel_rfl) (by kernel_rfl) (fun _ _ _ h => h) hS rfl ?_; simp only [List.getElem_toArray, List.getElem_cons_succ, List.getElem_cons_zero, put_lit, List.set_cons_zero, List.set_cons_succ]
        refine ha_skip (i := 7) rfl (by kernel_rfl) (by kernel_rfl) (by kernel_rfl) (fun _ _ _ h => h) hS rfl ?_; simp only [List.getElem_toArray, List.getElem_cons_succ, List.getElem_cons_zero, put_lit, List.set_cons_zero, List.set_cons_succ]
        refine ha_skip (i := 8) rfl (by kernel_rfl) (by kernel_rfl) (by kernel_rfl) (fun _ _ _ h => h) hS rfl ?_; simp only [List.getElem_toArray, List.getElem_cons_succ, List.getElem_cons_zero, put_lit, List.set_cons_zero, List.set_cons_succ]
        refine ha_skip (i := 9) rfl (by kernel_rfl) (by kernel_rfl) (by kernel_rfl) (fun _ _ _ h => h) hS rfl ?_; simp only [List.getElem_toArray, List.getElem_cons_succ, List.getElem_cons_zero, put_lit, List.set_cons_zero, List.set_cons_succ]
        refine ha_skip (i := 10) rfl (by kernel_rfl) (by kernel_rfl) (by kernel_rfl) (fun _ _ _ h => h) hS rfl ?_; simp only [List.getElem_toArray, List.getElem_cons_succ, List.getElem_cons_zero, put_lit, List.set_cons_zero, List.set_cons_succ]
        refine ha_skip (i := 11) rfl (by kernel_rfl) (by kernel_rfl) (by kernel_rfl) (fun _ _ _ h => h) hS rfl ?_; simp only [List.getElem_toArray, List.getElem_cons_succ, List.getElem_cons_zero, put_lit, List.set_cons_zero, List.set_cons_succ]
        refine ha_k (i := 12) rfl (by kernel_rfl) (by kernel_rfl) (by kernel_rfl) (fun _ _ _ _ h => h) hS rfl (fun K hK => ?_); go_simp; refine hK _ ?_; clear hK K; try simp only [put_lit, List.set_cons_zero, List.set_cons_succ]
        refine ha_k (i := 13) rfl (by kernel_rfl) (by kernel_rfl) (by kernel_rfl) (fun _ _ _ _ h => h) hS rfl (fun K hK => ?_); go_simp; refine hK _ ?_; clear hK K; try simp only [put_lit, List.set_cons_zero, List.set_cons_succ]
        refine ha_k (i := 14) rfl (by kernel_rfl) (by kernel_rfl) (by kernel_rfl) (fun _ _ _ _ h => h) hS rfl (fun K hK => ?_); go_simp; refine hK _ ?_; clear hK K; try simp only [put_lit, List.set_cons_zero, List.set_cons_succ]
        refine wpAnyH_done (by kernel_rfl) ?_ _
        go_wp2_with fail
        go_ret2
        exact ⟨by rw [HF.out, ← HST2.out]; rfl, hb.drew⟩
set_option maxHeartbeats 2000000 in
set_option maxRecDepth 100000 in
theorem SearchI_any (A : Option Addr) (n c : Nat) (l : List ByteArray) (k : ByteArray) (hn : n ≤ 1000000) (w : World) (h : StrAt w A n c l) :
    Calls Try.prog 32 #[.slice A n c, .string k] w fun e w' => e = .returned (.tuple #[.int .i64 ((srch l k 0 l.length : Nat) : Int), .bool (decide (l[srch l k 0 l.length]? = some k))]) ∧ Below w.heap.size w w' := by
  have H := Lib.hid h
  have HN := Lib.hid h.1
  clear h
  obtain ⟨R, hR⟩ : ∃ R, R = srch l k 0 l.length := ⟨_, rfl⟩
  rw [← hR]
  have HR0 : Hid (srch l k 0 n = R) := Lib.hid (by rw [← HN.out, hR])
  clear hR
  go_enter Try.func32, Try.ntmps32
  go_wp2_with fail
  go_loopw [6, 7] (fun i h wr => ∃ (lo hi : Nat), lo ≤ hi ∧ hi ≤ n ∧ i = .int .i64 (lo : Int) ∧ h = .int .i64 (hi : Int) ∧ Hid (srch l k lo hi = R) ∧ Below w.heap.size w wr) (fun i h _ => (intOf h).toNat - (intOf i).toNat)
  case atStart => exact ⟨0, n, by omega, by omega, rfl, rfl, HR0, Below.refl _ _⟩
  case round =>
    clear HR0
    obtain ⟨lo, hi, hlh, hhn, rfl, rfl, HR, hb⟩ := hrel
    by_cases hlt : lo < hi
    · have hltI : (lo : Int) < (hi : Int) := by omega
      have hw1 : IntKind.i64.wrap ((lo : Int) + (hi : Int)) = ((lo + hi : Nat) : Int) := by rw [wrap_small _ (by omega) (by omega)]; omega
      have hw2 : Int.tdiv ((lo + hi : Nat) : Int) 2 = (((lo + hi) / 2 : Nat) : Int) := rfl
      have hml : lo ≤ (lo + hi) / 2 := by omega
      have hmh : (lo + hi) / 2 < hi := by omega
      obtain ⟨o, ho⟩ : ∃ o, l[(lo + hi) / 2]? = some o := ⟨_, List.getElem?_eq_getElem (by rw [HN.out]; omega)⟩
      obtain ⟨ad, rfl, hca⟩ := H.out.cell ho
      have hkey := below_cell hb hca
      have HST : Hid (srch l k lo hi = if ltB o k then srch l k ((lo + hi) / 2 + 1) hi else srch l k lo ((lo + hi) / 2)) := Lib.hid (by
        rw [srch, dif_pos hlt, List.getD_eq_getElem?_getD, ho]; rfl)
      have hmn : (((lo + hi) / 2 : Nat) : Int) < (n : Int) := by omega
      have hmn2 : (lo + hi) / 2 < n := by omega
      clear ho hca
      obtain ⟨q, hq⟩ : ∃ q, q = ltB o k := ⟨_, rfl⟩
      rw [← hq] at HST
      have hq2 : Op.bytesLess o.toList k.toList = q := hq.symm
      clear hq
      cases q with
      | true =>
        have HST2 : Hid (srch l k ((lo + hi) / 2 + 1) hi = R) := Lib.hid (by rw [← HR.out, HST.out]; rfl)
        go_wp2_with fail
        go_roundw
        case rel => exact ⟨(lo + hi) / 2 + 1, hi, by omega, by omega, by go_num, rfl, HST2, hb⟩
        case measure => simp [intOf]; omega
      | false =>
        have HST2 : Hid (srch l k lo ((lo + hi) / 2) = R) := Lib.hid (by rw [← HR.out, HST.out]; rfl)
        go_wp2_with fail
        go_roundw
        case rel => exact ⟨lo, (lo + hi) / 2, by omega, by omega, rfl, by simp, HST2, hb⟩
        case measure => simp [intOf]; omega
    · obtain rfl : lo = hi := by omega
      have HST2 : Hid (lo = R) := Lib.hid (by have := HR.out; rwa [srch, dif_neg (by omega)] at this)
      by_cases hln : lo < n
      · have hlnI : (lo : Int) < (n : Int) := by omega
        obtain ⟨o, ho⟩ : ∃ o, l[lo]? = some o := ⟨_, List.getElem?_eq_getElem (by rw [HN.out]; omega)⟩
        obtain ⟨ad, rfl, hca⟩ := H.out.cell ho
        have hkey := below_cell hb hca
        have HF : Hid ((o.toList == k.toList) = decide (l[R]? = some k)) := Lib.hid (by rw [← HST2.out, ho, ba_beq]; simp)
        have HCA := Lib.hid hca
        clear ho hca hkey
        go_upto_region 7 with (fail)
        refine wp_region_held_drew (S := Below w.heap.size w) mixed hb.drew (fun hS => ?_)
        refine ha_k (i := 0) rfl (by kernel_rfl) (by kernel_rfl) (by kernel_rfl) (fun _ _ _ _ h => h) hS rfl (fun K hK => ?_); go_simp; refine hK _ ?_; clear hK K; try simp only [put_lit, List.set_cons_zero, List.set_cons_succ]
        refine ha_k (i := 1) rfl (by kernel_rfl) (by kernel_rfl) (by kernel_rfl) (fun _ _ _ _ h => h) hS rfl (fun K hK => ?_); go_simp; refine hK _ ?_; clear hK K; try simp only [put_lit, List.set_cons_zero, List.set_cons_succ]
        refine ha_k (i := 2) rfl (by kernel_rfl) (by kernel_rfl) (by kernel_rfl) (fun _ _ _ _ h => h) hS rfl (fun K hK => ?_); go_simp; refine hK _ ?_; clear hK K; try simp only [put_lit, List.set_cons_zero, List.set_cons_succ]
        refine ha_k (i := 3) rfl (by kernel_rfl) (by kernel_rfl) (by kernel_rfl) (fun _ _ _ _ h => h) hS rfl (fun K hK => ?_); go_simp; refine hK _ ?_; clear hK K; try simp only [put_lit, List.set_cons_zero, List.set_cons_succ]
        refine ha_k (i := 4) rfl (by kernel_rfl) (by kernel_rfl) (by kernel_rfl) (fun _ _ _ _ h => h) hS rfl (fun K hK => ?_); go_simp; refine hK _ ?_; clear hK K; try simp only [put_lit, List.set_cons_zero, List.set_cons_succ]
        refine ha_k (i := 5) rfl (by kernel_rfl) (by kernel_rfl) (by kernel_rfl) (fun _ _ _ _ h => h) hS rfl (fun K hK => ?_); go_simp; refine hK _ ?_; clear hK K; try simp only [put_lit, List.set_cons_zero, List.set_cons_succ]
        refine ha_k (i := 6) rfl (by kernel_rfl) (by kernel_rfl) (by kernel_rfl) (fun _ _ _ _ h => h) hS rfl (fun K hK => ?_); go_simp; refine hK _ ?_; clear hK K; try simp only [put_lit, List.set_cons_zero, List.set_cons_succ]
        refine ha_k (i := 7) rfl (by kernel_rfl) (by kernel_rfl) (by kernel_rfl) (fun _ _ _ _ h => h) hS rfl (fun K hK => ?_); go_simp; refine hK _ ?_; clear hK K; try simp only [put_lit, List.set_cons_zero, List.set_cons_succ]
        (refine ha_val (i := 8) rfl (by kernel_rfl) (by kernel_rfl) (by kernel_rfl) (fun _ _ _ h => h) hS rfl (fun w' _ => ex_ixS (j := lo) _ _ rfl rfl rfl hln) ?_; try simp only [put_lit, List.set_cons_zero, List.set_cons_succ])
        (refine ha_val (i := 9) rfl (by kernel_rfl) (by kernel_rfl) (by kernel_rfl) (fun _ _ _ h => h) hS rfl (fun w' hw' => ex_one rfl (one9 (below_cell hw' HCA.out))) ?_; try simp only [put_lit, List.set_cons_zero, List.set_cons_succ])
        refine ha_k (i := 10) rfl (by kernel_rfl) (by kernel_rfl) (by kernel_rfl) (fun _ _ _ _ h => h) hS rfl (fun K hK => ?_); go_simp; refine hK _ ?_; clear hK K; try simp only [put_lit, List.set_cons_zero, List.set_cons_succ]
        refine ha_k (i := 11) rfl (by kernel_rfl) (by kernel_rfl) (by kernel_rfl) (fun _ _ _ _ h => h) hS rfl (fun K hK => ?_); go_simp; refine hK _ ?_; clear hK K; try simp only [put_lit, List.set_cons_zero, List.set_cons_succ]
        refine ha_k (i := 12) rfl (by kernel_rfl) (by kernel_rfl) (by kernel_rfl) (fun _ _ _ _ h => h) hS rfl (fun K hK => ?_); go_simp; refine hK _ ?_; clear hK K; try simp only [put_lit, List.set_cons_zero, List.set_cons_succ]
        refine ha_k (i := 13) rfl (by kernel_rfl) (by kernel_rfl) (by kernel_rfl) (fun _ _ _ _ h => h) hS rfl (fun K hK => ?_); go_simp; refine hK _ ?_; clear hK K; try simp only [put_lit, List.set_cons_zero, List.set_cons_succ]
        refine ha_k (i := 14) rfl (by kernel_rfl) (by kernel_rfl) (by kernel_rfl) (fun _ _ _ _ h => h) hS rfl (fun K hK => ?_); go_simp; refine hK _ ?_; clear hK K; try simp only [put_lit, List.set_cons_zero, List.set_cons_succ]
        refine wpAnyH_done (by kernel_rfl) ?_ _
        go_wp2_with fail
        go_ret2
        exact ⟨by rw [← HF.out, ← HST2.out]; rfl, hb.drew⟩
      · obtain rfl : lo = n := by omega
        have HF : Hid (decide (l[R]? = some k) = false) := Lib.hid (by rw [← HST2.out, List.getElem?_eq_none (by rw [HN.out]; exact Nat.le_refl _)]; simp)
        go_upto_region 7 with (fail)
        refine wp_region_held_drew (S := Kept [] wr) mixed (Kept.drew [] wr) (fun hS => ?_)
        refine ha_k (i := 0) rfl (by kernel_rfl) (by kernel_rfl) (by kernel_rfl) (fun _ _ _ _ h => h) hS rfl (fun K hK => ?_); go_simp; refine hK _ ?_; clear hK K; try simp only [put_lit, List.set_cons_zero, List.set_cons_succ]
        refine ha_k (i := 1) rfl (by kernel_rfl) (by kernel_rfl) (by kernel_rfl) (fun _ _ _ _ h => h) hS rfl (fun K hK => ?_); go_simp; refine hK _ ?_; clear hK K; try simp only [put_lit, List.set_cons_zero, List.set_cons_succ]
        refine ha_k (i := 2) rfl (by kernel_rfl) (by kernel_rfl) (by kernel_rfl) (fun _ _ _ _ h => h) hS rfl (fun K hK => ?_); go_simp; refine hK _ ?_; clear hK K; try simp only [put_lit, List.set_cons_zero, List.set_cons_succ]
        refine ha_k (i := 3) rfl (by kernel_rfl) (by kernel_rfl) (by kernel_rfl) (fun _ _ _ _ h => h) hS rfl (fun K hK => ?_); go_simp; refine hK _ ?_; clear hK K; try simp only [put_lit, List.set_cons_zero, List.set_cons_succ]
        refine ha_k (i := 4) rfl (by kernel_rfl) (by kernel_rfl) (by kernel_rfl) (fun _ _ _ _ h => h) hS rfl (fun K hK => ?_); go_simp; refine hK _ ?_; clear hK K; try simp only [put_lit, List.set_cons_zero, List.set_cons_succ]
        refine ha_k (i := 5) rfl (by kernel_rfl) (by kernel_rfl) (by kernel_rfl) (fun _ _ _ _ h => h) hS rfl (fun K hK => ?_); go_simp; refine hK _ ?_; clear hK K; try simp only [put_lit, List.set_cons_zero, List.set_cons_succ]
        refine ha_skip (i := 6) rfl (by kernel_rfl) (by kernel_rfl) (by kernel_rfl) (fun _ _ _ h => h) hS rfl ?_; simp only [List.getElem_toArray, List.getElem_cons_succ, List.getElem_cons_zero, put_lit, List.set_cons_zero, List.set_cons_succ]
        refine ha_skip (i := 7) rfl (by kernel_rfl) (by kernel_rfl) (by kernel_rfl) (fun _ _ _ h => h) hS rfl ?_; simp only [List.getElem_toArray, List.getElem_cons_succ, List.getElem_cons_zero, put_lit, List.set_cons_zero, List.set_cons_succ]
        refine ha_skip (i := 8) rfl (by kernel_rfl) (by kernel_rfl) (by kernel_rfl) (fun _ _ _ h => h) hS rfl ?_; simp only [List.getElem_toArray, List.getElem_cons_succ, List.getElem_cons_zero, put_lit, List.set_cons_zero, List.set_cons_succ]
        refine ha_skip (i := 9) rfl (by kernel_rfl) (by kernel_rfl) (by kernel_rfl) (fun _ _ _ h => h) hS rfl ?_; simp only [List.getElem_toArray, List.getElem_cons_succ, List.getElem_cons_zero, put_lit, List.set_cons_zero, List.set_cons_succ]
        refine ha_skip (i := 10) rfl (by kernel_rfl) (by kernel_rfl) (by kernel_rfl) (fun _ _ _ h => h) hS rfl ?_; simp only [List.getElem_toArray, List.getElem_cons_succ, List.getElem_cons_zero, put_lit, List.set_cons_zero, List.set_cons_succ]
        refine ha_skip (i := 11) rfl (by kernel_rfl) (by kernel_rfl) (by kernel_rfl) (fun _ _ _ h => h) hS rfl ?_; simp only [List.getElem_toArray, List.getElem_cons_succ, List.getElem_cons_zero, put_lit, List.set_cons_zero, List.set_cons_succ]
        refine ha_k (i := 12) rfl (by kernel_rfl) (by kernel_rfl) (by kernel_rfl) (fun _ _ _ _ h => h) hS rfl (fun K hK => ?_); go_simp; refine hK _ ?_; clear hK K; try simp only [put_lit, List.set_cons_zero, List.set_cons_succ]
        refine ha_k (i := 13) rfl (by kernel_rfl) (by kernel_rfl) (by kernel_rfl) (fun _ _ _ _ h => h) hS rfl (fun K hK => ?_); go_simp; refine hK _ ?_; clear hK K; try simp only [put_lit, List.set_cons_zero, List.set_cons_succ]
        refine ha_k (i := 14) rfl (by kernel_rfl) (by kernel_rfl) (by kernel_rfl) (fun _ _ _ _ h => h) hS rfl (fun K hK => ?_); go_simp; refine hK _ ?_; clear hK K; try simp only [put_lit, List.set_cons_zero, List.set_cons_succ]
        refine wpAnyH_done (by kernel_rfl) ?_ _
        go_wp2_with fail
        go_ret2
        exact ⟨by rw [HF.out, ← HST2.out]; rfl, hb.drew⟩
end Go.Proofs.Ytbhdgeoljlhmcaa
