/- Parse of the document. -/
import Derived.Test.YtclainfdeghgnaaGreatDoorPZ8
import Derived.Test.YtclainfdeghgnaaGreatDoorPZ9
namespace Go.Proofs.YtclainfdeghgnaaGreatDoor
open Go.RowKit Go.Proofs.YtclainfdeghgnaaGreatDoor.Nm Go.Proofs.YtclainfdeghgnaaGreatDoor.Lm
set_option linter.unusedSimpArgs false
theorem nl40 {n : Nat} (h : n < 10 ^ 40) : nl n ≤ 400 := Nat.le_trans (nl_le n 5 (by rw [B_eq]; omega)) (by omega)
theorem head_if {s : ByteArray} (h : 0 < s.size) (x : Int) : (if (((s[0]'h).toNat : Int) == 45) = true then -x else x) = if s.data.toList.head? = some 45 then -x else x := by
  have h1 := bytes_at h
  have h2 : s.data.toList.head? = some s[0] := by rw [List.head?_eq_getElem?]; exact h1
  rw [h2]
  by_cases he : s[0] = 45
  · rw [he]; rfl
  · rw [if_neg (fun e => he (by
      have : (s[0].toNat : Int) = 45 := by simpa using e
      apply UInt8.toNat_inj.1
      show s[0].toNat = 45
      omega)), if_neg (fun e => he (Option.some.inj e))]
set_option maxHeartbeats 8000000 in
set_option maxRecDepth 100000 in
theorem ParseI_any (s : ByteArray) (w : World) : Calls Tryz.prog 7 #[.string s] w fun e w' => e = .returned (prV s.data.toList) ∧ Below w.heap.size w w' := by
  have hb := Below.refl w.heap.size w
  go_enter Tryz.func7, Tryz.ntmps7
  go_upto_region 0 with (fail)
  apply wp_region_lit
  (with_reducible refine wl_allD ?_); intro W p hbn hlp hp; replace hb := hb.trans (hbn.mono hb.size); clear hbn; simp only [put_lit, List.set_cons_zero, List.set_cons_succ]
  (with_reducible refine wl_k ?_ ?_); exact rfl; intro K hK; go_simp; refine hK _ ?_; clear hK K
  go_upto_region 1 with (fail)
  by_cases h30 : 30 < s.size
  · have h30I : (30 : Int) < (s.size : Int) := by omega
    apply wp_region_lit
    (with_reducible refine wl_k ?_ ?_); exact rfl; intro K hK; go_simp; refine hK _ ?_; clear hK K
    (with_reducible refine wl_k ?_ ?_); exact rfl; intro K hK; go_simp; refine hK _ ?_; clear hK K
    (with_reducible refine wl_k ?_ ?_); exact rfl; intro K hK; go_simp; refine hK _ ?_; clear hK K
    have HV := Lib.hid (retD_no (pd_long (t := s.data.toList) (by rw [← bsize]; exact h30)))
    go_upto_region 2 with (fail)
    apply wp_region_lit
    (with_reducible refine wl_k ?_ ?_); exact rfl; intro K hK; go_simp; refine hK _ ?_; clear hK K
    (with_reducible refine wl_put33 (u := 0) (k := 0) rfl rfl hp ?_); intro W6 hbx6 hkx6 hp6
    replace hb := hbx6 _ _ (by omega) hb
    (with_reducible refine wl_k ?_ ?_); exact rfl; intro K hK; go_simp; refine hK _ ?_; clear hK K
    go_wp2_with fail
    refine bodyPost_ret (res_decErr rfl _ _ p rfl hp6) rfl ⟨?_, hb⟩
    exact HV.out
  · have h30I : ¬ (30 : Int) < (s.size : Int) := by omega
    apply wp_region_lit
    (with_reducible refine wl_k ?_ ?_); exact rfl; intro K hK; go_simp; refine hK _ ?_; clear hK K
    (with_reducible refine wl_k ?_ ?_); exact rfl; intro K hK; go_simp; refine hK _ ?_; clear hK K
    (with_reducible refine wl_k ?_ ?_); exact rfl; intro K hK; go_simp; refine hK _ ?_; clear hK K
    go_upto_region 3 with (fail)
    apply wp_region_lit
    (with_reducible refine wl_k ?_ ?_); exact rfl; intro K hK; go_simp; refine hK _ ?_; clear hK K
    (with_reducible refine wl_k ?_ ?_); exact rfl; intro K hK; go_simp; refine hK _ ?_; clear hK K
    (with_reducible refine wl_k ?_ ?_); exact rfl; intro K hK; go_simp; refine hK _ ?_; clear hK K
    go_upto_region 4 with (fail)
    apply wp_region_lit
    (with_reducible refine wl_k ?_ ?_); exact rfl; intro K hK; go_simp; refine hK _ ?_; clear hK K
    go_wp2_with fail
    go_loopw [4, 5, 6, 7] (fun d sc pt i wr => ∃ (dm : ByteArray) (k : Nat) (b : Bool) (j : Nat), d = .string dm ∧ sc = .int .i64 (k : Int) ∧ pt = .bool b ∧ i = .int .i64 (j : Int) ∧ j ≤ s.size ∧ Hid (scanL (s.data.toList.drop j) j dm.data.toList k b = scanL s.data.toList 0 [] 0 false) ∧ k ≤ j ∧ dm.size ≤ j ∧ Hid (Dgs dm.data.toList) ∧ wr.heap[p]? = some (.cells (dc 0 0) 25 (0, 0)) ∧ Below w.heap.size w wr) (fun _ _ _ i _ => s.size - (intOf i).toNat)
    case atStart => exact ⟨⟨#[]⟩, 0, false, 0, rfl, rfl, rfl, rfl, by omega, Lib.hid rfl, by omega, Nat.le_refl _, Lib.hid (fun c hc => by cases hc), hp, hb⟩
    case round =>
      clear hp hb
      obtain ⟨dm, k, b, j, rfl, rfl, rfl, rfl, hj, HS, hk, hd, HD, hp, hb⟩ := hrel
      go_upto_region 5 with (fail)
      by_cases hlt : j < s.size
      · have hltI : (j : Int) < (s.size : Int) := by omega
        have hw1 : IntKind.i64.wrap ((j : Int) + 1) = (j : Int) + 1 := IntWalk.i64_in _ (by omega)
        have hj1 : (j : Int) + 1 ≤ (s.size : Int) := by omega
        have hj2 : (0 : Int) ≤ (j : Int) + 1 := by omega
        have hj3 : (j : Int) ≤ (j : Int) + 1 := by omega
        apply wp_region_lit
        (with_reducible refine wl_k ?_ ?_); exact rfl; intro K hK; go_simp; refine hK _ ?_; clear hK K
        (with_reducible refine wl_k ?_ ?_); exact rfl; intro K hK; go_simp; refine hK _ ?_; clear hK K
        (with_reducible refine wl_k ?_ ?_); exact rfl; intro K hK; go_simp; refine hK _ ?_; clear hK K
        (with_reducible refine wl_k ?_ ?_); exact rfl; intro K hK; go_simp; refine hK _ ?_; clear hK K
        go_upto_region 7 with (fail)
        apply wp_region_lit
        (with_reducible refine wl_k ?_ ?_); exact rfl; intro K hK; go_simp; refine hK _ ?_; clear hK K
        (with_reducible refine wl_k ?_ ?_); exact rfl; intro K hK; go_simp; refine hK _ ?_; clear hK K
        (with_reducible refine wl_k ?_ ?_); exact rfl; intro K hK; go_simp; refine hK _ ?_; clear hK K
        (with_reducible refine wl_k ?_ ?_); exact rfl; intro K hK; go_simp; refine hK _ ?_; clear hK K
        obtain ⟨c, hc⟩ : ∃ c, c = s[j] := ⟨_, rfl⟩
        rw [← hc]
        have HC : Hid (s.data.toList[j]? = some c) := Lib.hid (by rw [hc]; exact bytes_at hlt)
        have HX : Hid ((s.extract j (j + 1)).data.toList = [c]) := Lib.hid (by rw [hc]; exact ext_one hlt)
        clear hc
        by_cases h46 : c.toNat = 46
        · have h46I : (c.toNat : Int) = 46 := by omega
          cases b with
          | false =>
            have HS2 := Lib.hid (sc_dot HS.out HC.out h46)
            clear HS HC HX h46
            go_upto_region 9 with (fail)
            apply wp_region_lit
            (with_reducible refine wl_k ?_ ?_); exact rfl; intro K hK; go_simp; refine hK _ ?_; clear hK K
            (with_reducible refine wl_k ?_ ?_); exact rfl; intro K hK; go_simp; refine hK _ ?_; clear hK K
            (with_reducible refine wl_k ?_ ?_); exact rfl; intro K hK; go_simp; refine hK _ ?_; clear hK K
            (with_reducible refine wl_k ?_ ?_); exact rfl; intro K hK; go_simp; refine hK _ ?_; clear hK K
            (with_reducible refine wl_k ?_ ?_); exact rfl; intro K hK; go_simp; refine hK _ ?_; clear hK K
            (with_reducible refine wl_k ?_ ?_); exact rfl; intro K hK; go_simp; refine hK _ ?_; clear hK K
            (with_reducible refine wl_k ?_ ?_); exact rfl; intro K hK; go_simp; refine hK _ ?_; clear hK K
            go_upto_region 10 with (fail)
            apply wp_region_lit
            (with_reducible refine wl_k ?_ ?_); exact rfl; intro K hK; go_simp; refine hK _ ?_; clear hK K
            go_upto_region 6 with (fail)
            apply wp_region_lit
            (with_reducible refine wl_k ?_ ?_); exact rfl; intro K hK; go_simp; refine hK _ ?_; clear hK K
            (with_reducible refine wl_k ?_ ?_); exact rfl; intro K hK; go_simp; refine hK _ ?_; clear hK K
            (with_reducible refine wl_k ?_ ?_); exact rfl; intro K hK; go_simp; refine hK _ ?_; clear hK K
            go_wp2_with fail
            go_roundw
            case rel => exact ⟨dm, k, true, j + 1, rfl, rfl, rfl, by go_num, by omega, HS2, by omega, by omega, HD, hp, hb⟩
            case measure => simp [intOf]; omega
          | true =>
            have H1 : ¬ (c.toNat = 46 ∧ true = false) := fun e => by cases e.2
            have H2 : ¬ (c.toNat = 45 ∧ j = 0) := fun e => by omega
            have H3 : ¬ (48 ≤ c.toNat ∧ c.toNat ≤ 57) := fun e => by omega
            have HV : Hid (Ending.returned (.tuple #[.agg (dc 0 0), .int .i64 4]) = Ending.returned (prV s.data.toList)) := Lib.hid (retD_no (pd_scan (sc_none HS.out HC.out H1 H2 H3)))
            clear HS HC HX h46 H1 H2 H3
            go_upto_region 9 with (fail)
            apply wp_region_lit
            (with_reducible refine wl_k ?_ ?_); exact rfl; intro K hK; go_simp; refine hK _ ?_; clear hK K
            (with_reducible refine wl_k ?_ ?_); exact rfl; intro K hK; go_simp; refine hK _ ?_; clear hK K
            (with_reducible refine wl_k ?_ ?_); exact rfl; intro K hK; go_simp; refine hK _ ?_; clear hK K
            (with_reducible refine wl_k ?_ ?_); exact rfl; intro K hK; go_simp; refine hK _ ?_; clear hK K
            (with_reducible refine wl_k ?_ ?_); exact rfl; intro K hK; go_simp; refine hK _ ?_; clear hK K
            (with_reducible refine wl_k ?_ ?_); exact rfl; intro K hK; go_simp; refine hK _ ?_; clear hK K
            (with_reducible refine wl_k ?_ ?_); exact rfl; intro K hK; go_simp; refine hK _ ?_; clear hK K
            go_upto_region 11 with (fail)
            apply wp_region_lit
            (with_reducible refine wl_k ?_ ?_); exact rfl; intro K hK; go_simp; refine hK _ ?_; clear hK K
            (with_reducible refine wl_k ?_ ?_); exact rfl; intro K hK; go_simp; refine hK _ ?_; clear hK K
            (with_reducible refine wl_k ?_ ?_); exact rfl; intro K hK; go_simp; refine hK _ ?_; clear hK K
            (first | ((with_reducible refine wl_skipU ?_ ?_ ?_); exact rfl; exact rfl) | ((with_reducible refine wl_skip ?_ ?_); exact rfl; simp only [put_lit, List.set_cons_zero, List.set_cons_succ]))
            (first | ((with_reducible refine wl_skipU ?_ ?_ ?_); exact rfl; exact rfl) | ((with_reducible refine wl_skip ?_ ?_); exact rfl; simp only [put_lit, List.set_cons_zero, List.set_cons_succ]))
            (with_reducible refine wl_k ?_ ?_); exact rfl; intro K hK; go_simp; refine hK _ ?_; clear hK K
            (with_reducible refine wl_k ?_ ?_); exact rfl; intro K hK; go_simp; refine hK _ ?_; clear hK K
            go_upto_region 12 with (fail)
            apply wp_region_lit
            (with_reducible refine wl_k ?_ ?_); exact rfl; intro K hK; go_simp; refine hK _ ?_; clear hK K
            (with_reducible refine wl_k ?_ ?_); exact rfl; intro K hK; go_simp; refine hK _ ?_; clear hK K
            (with_reducible refine wl_k ?_ ?_); exact rfl; intro K hK; go_simp; refine hK _ ?_; clear hK K
            (first | ((with_reducible refine wl_skipU ?_ ?_ ?_); exact rfl; exact rfl) | ((with_reducible refine wl_skip ?_ ?_); exact rfl; simp only [put_lit, List.set_cons_zero, List.set_cons_succ]))
            (first | ((with_reducible refine wl_skipU ?_ ?_ ?_); exact rfl; exact rfl) | ((with_reducible refine wl_skip ?_ ?_); exact rfl; simp only [put_lit, List.set_cons_zero, List.set_cons_succ]))
            (with_reducible refine wl_k ?_ ?_); exact rfl; intro K hK; go_simp; refine hK _ ?_; clear hK K
            (with_reducible refine wl_k ?_ ?_); exact rfl; intro K hK; go_simp; refine hK _ ?_; clear hK K
            go_upto_region 8 with (fail)
            apply wp_region_lit
            (with_reducible refine wl_k ?_ ?_); exact rfl; intro K hK; go_simp; refine hK _ ?_; clear hK K
            (with_reducible refine wl_put33 (u := 0) (k := 0) rfl rfl hp ?_); intro W6 hbx6 hkx6 hp6
            replace hb := hbx6 _ _ (by omega) hb
            (with_reducible refine wl_k ?_ ?_); exact rfl; intro K hK; go_simp; refine hK _ ?_; clear hK K
            go_wp2_with fail
            refine bodyPost_ret (res_decErr rfl _ _ p rfl hp6) rfl ⟨?_, hb⟩
            exact HV.out
        · have h46I : ((c.toNat : Int) == 46) = false := by rw [beq_eq_false_iff_ne]; omega
          by_cases h45 : c.toNat = 45
          · have h45I : (c.toNat : Int) = 45 := by omega
            by_cases hj0 : j = 0
            · have hj0I : (j : Int) = 0 := by omega
              have hw0 : IntKind.i64.wrap 1 = 1 := IntWalk.i64_in _ (by omega)
              have HS2 : Hid (scanL (s.data.toList.drop (j + 1)) (j + 1) dm.data.toList k b = scanL s.data.toList 0 [] 0 false) := Lib.hid (by
                have h := HS.out
                have hc := HC.out
                subst hj0
                exact sc_sign h hc h45)
              clear HS HC HX h45
              go_upto_region 9 with (fail)
              apply wp_region_lit
              (with_reducible refine wl_k ?_ ?_); exact rfl; intro K hK; go_simp; refine hK _ ?_; clear hK K
              (with_reducible refine wl_k ?_ ?_); exact rfl; intro K hK; go_simp; refine hK _ ?_; clear hK K
              (with_reducible refine wl_k ?_ ?_); exact rfl; intro K hK; go_simp; refine hK _ ?_; clear hK K
              (first | ((with_reducible refine wl_skipU ?_ ?_ ?_); exact rfl; exact rfl) | ((with_reducible refine wl_skip ?_ ?_); exact rfl; simp only [put_lit, List.set_cons_zero, List.set_cons_succ]))
              (first | ((with_reducible refine wl_skipU ?_ ?_ ?_); exact rfl; exact rfl) | ((with_reducible refine wl_skip ?_ ?_); exact rfl; simp only [put_lit, List.set_cons_zero, List.set_cons_succ]))
              (with_reducible refine wl_k ?_ ?_); exact rfl; intro K hK; go_simp; refine hK _ ?_; clear hK K
              (with_reducible refine wl_k ?_ ?_); exact rfl; intro K hK; go_simp; refine hK _ ?_; clear hK K
              go_upto_region 11 with (fail)
              apply wp_region_lit
              (with_reducible refine wl_k ?_ ?_); exact rfl; intro K hK; go_simp; refine hK _ ?_; clear hK K
              (with_reducible refine wl_k ?_ ?_); exact rfl; intro K hK; go_simp; refine hK _ ?_; clear hK K
              (with_reducible refine wl_k ?_ ?_); exact rfl; intro K hK; go_simp; refine hK _ ?_; clear hK K
              (with_reducible refine wl_k ?_ ?_); exact rfl; intro K hK; go_simp; refine hK _ ?_; clear hK K
              (with_reducible refine wl_k ?_ ?_); exact rfl; intro K hK; go_simp; refine hK _ ?_; clear hK K
              (with_reducible refine wl_k ?_ ?_); exact rfl; intro K hK; go_simp; refine hK _ ?_; clear hK K
              (with_reducible refine wl_k ?_ ?_); exact rfl; intro K hK; go_simp; refine hK _ ?_; clear hK K
              go_upto_region 6 with (fail)
              apply wp_region_lit
              (with_reducible refine wl_k ?_ ?_); exact rfl; intro K hK; go_simp; refine hK _ ?_; clear hK K
              (with_reducible refine wl_k ?_ ?_); exact rfl; intro K hK; go_simp; refine hK _ ?_; clear hK K
              (with_reducible refine wl_k ?_ ?_); exact rfl; intro K hK; go_simp; refine hK _ ?_; clear hK K
              go_wp2_with fail
              go_roundw
              case rel => exact ⟨dm, k, b, j + 1, rfl, rfl, rfl, by rw [hj0]; rfl, by omega, HS2, by omega, by omega, HD, hp, hb⟩
              case measure => simp [intOf]; omega
            · have hj0I : ((j : Int) == 0) = false := by rw [beq_eq_false_iff_ne]; omega
              have H1 : ¬ (c.toNat = 46 ∧ b = false) := fun e => h46 e.1
              have H2 : ¬ (c.toNat = 45 ∧ j = 0) := fun e => hj0 e.2
              have H3 : ¬ (48 ≤ c.toNat ∧ c.toNat ≤ 57) := fun e => by omega
              have HV : Hid (Ending.returned (.tuple #[.agg (dc 0 0), .int .i64 4]) = Ending.returned (prV s.data.toList)) := Lib.hid (retD_no (pd_scan (sc_none HS.out HC.out H1 H2 H3)))
              clear HS HC HX h45 h46 H1 H2 H3
              go_upto_region 9 with (fail)
              apply wp_region_lit
              (with_reducible refine wl_k ?_ ?_); exact rfl; intro K hK; go_simp; refine hK _ ?_; clear hK K
              (with_reducible refine wl_k ?_ ?_); exact rfl; intro K hK; go_simp; refine hK _ ?_; clear hK K
              (with_reducible refine wl_k ?_ ?_); exact rfl; intro K hK; go_simp; refine hK _ ?_; clear hK K
              (first | ((with_reducible refine wl_skipU ?_ ?_ ?_); exact rfl; exact rfl) | ((with_reducible refine wl_skip ?_ ?_); exact rfl; simp only [put_lit, List.set_cons_zero, List.set_cons_succ]))
              (first | ((with_reducible refine wl_skipU ?_ ?_ ?_); exact rfl; exact rfl) | ((with_reducible refine wl_skip ?_ ?_); exact rfl; simp only [put_lit, List.set_cons_zero, List.set_cons_succ]))
              (with_reducible refine wl_k ?_ ?_); exact rfl; intro K hK; go_simp; refine hK _ ?_; clear hK K
              (with_reducible refine wl_k ?_ ?_); exact rfl; intro K hK; go_simp; refine hK _ ?_; clear hK K
              go_upto_region 11 with (fail)
              apply wp_region_lit
              (with_reducible refine wl_k ?_ ?_); exact rfl; intro K hK; go_simp; refine hK _ ?_; clear hK K
              (with_reducible refine wl_k ?_ ?_); exact rfl; intro K hK; go_simp; refine hK _ ?_; clear hK K
              (with_reducible refine wl_k ?_ ?_); exact rfl; intro K hK; go_simp; refine hK _ ?_; clear hK K
              (with_reducible refine wl_k ?_ ?_); exact rfl; intro K hK; go_simp; refine hK _ ?_; clear hK K
              (with_reducible refine wl_k ?_ ?_); exact rfl; intro K hK; go_simp; refine hK _ ?_; clear hK K
              (with_reducible refine wl_k ?_ ?_); exact rfl; intro K hK; go_simp; refine hK _ ?_; clear hK K
              (with_reducible refine wl_k ?_ ?_); exact rfl; intro K hK; go_simp; refine hK _ ?_; clear hK K
              go_upto_region 12 with (fail)
              apply wp_region_lit
              (with_reducible refine wl_k ?_ ?_); exact rfl; intro K hK; go_simp; refine hK _ ?_; clear hK K
              (with_reducible refine wl_k ?_ ?_); exact rfl; intro K hK; go_simp; refine hK _ ?_; clear hK K
              (with_reducible refine wl_k ?_ ?_); exact rfl; intro K hK; go_simp; refine hK _ ?_; clear hK K
              (first | ((with_reducible refine wl_skipU ?_ ?_ ?_); exact rfl; exact rfl) | ((with_reducible refine wl_skip ?_ ?_); exact rfl; simp only [put_lit, List.set_cons_zero, List.set_cons_succ]))
              (first | ((with_reducible refine wl_skipU ?_ ?_ ?_); exact rfl; exact rfl) | ((with_reducible refine wl_skip ?_ ?_); exact rfl; simp only [put_lit, List.set_cons_zero, List.set_cons_succ]))
              (with_reducible refine wl_k ?_ ?_); exact rfl; intro K hK; go_simp; refine hK _ ?_; clear hK K
              (with_reducible refine wl_k ?_ ?_); exact rfl; intro K hK; go_simp; refine hK _ ?_; clear hK K
              go_upto_region 8 with (fail)
              apply wp_region_lit
              (with_reducible refine wl_k ?_ ?_); exact rfl; intro K hK; go_simp; refine hK _ ?_; clear hK K
              (with_reducible refine wl_put33 (u := 0) (k := 0) rfl rfl hp ?_); intro W6 hbx6 hkx6 hp6
              replace hb := hbx6 _ _ (by omega) hb
              (with_reducible refine wl_k ?_ ?_); exact rfl; intro K hK; go_simp; refine hK _ ?_; clear hK K
              go_wp2_with fail
              refine bodyPost_ret (res_decErr rfl _ _ p rfl hp6) rfl ⟨?_, hb⟩
              exact HV.out
          · have h45I : ((c.toNat : Int) == 45) = false := by rw [beq_eq_false_iff_ne]; omega
            by_cases h48 : 48 ≤ c.toNat
            · have h48I : (48 : Int) ≤ (c.toNat : Int) := by omega
              by_cases h57 : c.toNat ≤ 57
              · have h57I : (c.toNat : Int) ≤ 57 := by omega
                have HD2 : Hid (Dgs (dm ++ s.extract j (j + 1)).data.toList) := Lib.hid (by rw [ByteArray.data_append, Array.toList_append, HX.out]; exact HD.out.snoc h48 h57)
                have HS2 : Hid (scanL (s.data.toList.drop (j + 1)) (j + 1) (dm ++ s.extract j (j + 1)).data.toList (if b = true then k + 1 else k) b = scanL s.data.toList 0 [] 0 false) := Lib.hid (by rw [ByteArray.data_append, Array.toList_append, HX.out]; exact sc_digit HS.out HC.out h48 h57)
                have hsz2 : (dm ++ s.extract j (j + 1)).size ≤ j + 1 := by rw [ByteArray.size_append, ByteArray.size_extract]; omega
                clear HS HC h46 h45 h48 h57 HD
                go_upto_region 9 with (fail)
                apply wp_region_lit
                (with_reducible refine wl_k ?_ ?_); exact rfl; intro K hK; go_simp; refine hK _ ?_; clear hK K
                (with_reducible refine wl_k ?_ ?_); exact rfl; intro K hK; go_simp; refine hK _ ?_; clear hK K
                (with_reducible refine wl_k ?_ ?_); exact rfl; intro K hK; go_simp; refine hK _ ?_; clear hK K
                (first | ((with_reducible refine wl_skipU ?_ ?_ ?_); exact rfl; exact rfl) | ((with_reducible refine wl_skip ?_ ?_); exact rfl; simp only [put_lit, List.set_cons_zero, List.set_cons_succ]))
                (first | ((with_reducible refine wl_skipU ?_ ?_ ?_); exact rfl; exact rfl) | ((with_reducible refine wl_skip ?_ ?_); exact rfl; simp only [put_lit, List.set_cons_zero, List.set_cons_succ]))
                (with_reducible refine wl_k ?_ ?_); exact rfl; intro K hK; go_simp; refine hK _ ?_; clear hK K
                (with_reducible refine wl_k ?_ ?_); exact rfl; intro K hK; go_simp; refine hK _ ?_; clear hK K
                go_upto_region 11 with (fail)
                apply wp_region_lit
                (with_reducible refine wl_k ?_ ?_); exact rfl; intro K hK; go_simp; refine hK _ ?_; clear hK K
                (with_reducible refine wl_k ?_ ?_); exact rfl; intro K hK; go_simp; refine hK _ ?_; clear hK K
                (with_reducible refine wl_k ?_ ?_); exact rfl; intro K hK; go_simp; refine hK _ ?_; clear hK K
                (first | ((with_reducible refine wl_skipU ?_ ?_ ?_); exact rfl; exact rfl) | ((with_reducible refine wl_skip ?_ ?_); exact rfl; simp only [put_lit, List.set_cons_zero, List.set_cons_succ]))
                (first | ((with_reducible refine wl_skipU ?_ ?_ ?_); exact rfl; exact rfl) | ((with_reducible refine wl_skip ?_ ?_); exact rfl; simp only [put_lit, List.set_cons_zero, List.set_cons_succ]))
                (with_reducible refine wl_k ?_ ?_); exact rfl; intro K hK; go_simp; refine hK _ ?_; clear hK K
                (with_reducible refine wl_k ?_ ?_); exact rfl; intro K hK; go_simp; refine hK _ ?_; clear hK K
                go_upto_region 12 with (fail)
                apply wp_region_lit
                (with_reducible refine wl_k ?_ ?_); exact rfl; intro K hK; go_simp; refine hK _ ?_; clear hK K
                (with_reducible refine wl_k ?_ ?_); exact rfl; intro K hK; go_simp; refine hK _ ?_; clear hK K
                (with_reducible refine wl_k ?_ ?_); exact rfl; intro K hK; go_simp; refine hK _ ?_; clear hK K
                (with_reducible refine wl_k ?_ ?_); exact rfl; intro K hK; go_simp; refine hK _ ?_; clear hK K
                (with_reducible refine wl_k ?_ ?_); exact rfl; intro K hK; go_simp; refine hK _ ?_; clear hK K
                (with_reducible refine wl_k ?_ ?_); exact rfl; intro K hK; go_simp; refine hK _ ?_; clear hK K
                (with_reducible refine wl_k ?_ ?_); exact rfl; intro K hK; go_simp; refine hK _ ?_; clear hK K
                go_upto_region 13 with (fail)
                apply wp_region_lit
                (with_reducible refine wl_k ?_ ?_); exact rfl; intro K hK; go_simp; refine hK _ ?_; clear hK K
                (with_reducible refine wl_k ?_ ?_); exact rfl; intro K hK; go_simp; refine hK _ ?_; clear hK K
                (with_reducible refine wl_k ?_ ?_); exact rfl; intro K hK; go_simp; refine hK _ ?_; clear hK K
                (with_reducible refine wl_k ?_ ?_); exact rfl; intro K hK; go_simp; refine hK _ ?_; clear hK K
                (with_reducible refine wl_k ?_ ?_); exact rfl; intro K hK; go_simp; refine hK _ ?_; clear hK K
                (with_reducible refine wl_k ?_ ?_); exact rfl; intro K hK; go_simp; refine hK _ ?_; clear hK K
                (with_reducible refine wl_k ?_ ?_); exact rfl; intro K hK; go_simp; (first | (refine hK _ ?_) | (refine ⟨_, if_neg (by omega), hK _ ?_⟩)); clear hK K
                (with_reducible refine wl_k ?_ ?_); exact rfl; intro K hK; go_simp; refine hK _ ?_; clear hK K
                go_upto_region 14 with (fail)
                cases b with
                | true =>
                  have hwk : IntKind.i64.wrap ((k : Int) + 1) = (k : Int) + 1 := IntWalk.i64_in _ (by omega)
                  apply wp_region_lit
                  (with_reducible refine wl_k ?_ ?_); exact rfl; intro K hK; go_simp; refine hK _ ?_; clear hK K
                  go_upto_region 15 with (fail)
                  apply wp_region_lit
                  (with_reducible refine wl_k ?_ ?_); exact rfl; intro K hK; go_simp; refine hK _ ?_; clear hK K
                  (with_reducible refine wl_k ?_ ?_); exact rfl; intro K hK; go_simp; refine hK _ ?_; clear hK K
                  (with_reducible refine wl_k ?_ ?_); exact rfl; intro K hK; go_simp; refine hK _ ?_; clear hK K
                  go_upto_region 6 with (fail)
                  apply wp_region_lit
                  (with_reducible refine wl_k ?_ ?_); exact rfl; intro K hK; go_simp; refine hK _ ?_; clear hK K
                  (with_reducible refine wl_k ?_ ?_); exact rfl; intro K hK; go_simp; refine hK _ ?_; clear hK K
                  (with_reducible refine wl_k ?_ ?_); exact rfl; intro K hK; go_simp; refine hK _ ?_; clear hK K
                  go_wp2_with fail
                  go_roundw
                  case rel => exact ⟨(dm ++ s.extract j (j + 1)), k + 1, true, j + 1, rfl, by go_num, rfl, by go_num, by omega, HS2, by omega, by omega, HD2, hp, hb⟩
                  case measure => simp [intOf]; omega
                | false =>
                  apply wp_region_lit
                  (with_reducible refine wl_k ?_ ?_); exact rfl; intro K hK; go_simp; refine hK _ ?_; clear hK K
                  go_upto_region 6 with (fail)
                  apply wp_region_lit
                  (with_reducible refine wl_k ?_ ?_); exact rfl; intro K hK; go_simp; refine hK _ ?_; clear hK K
                  (with_reducible refine wl_k ?_ ?_); exact rfl; intro K hK; go_simp; refine hK _ ?_; clear hK K
                  (with_reducible refine wl_k ?_ ?_); exact rfl; intro K hK; go_simp; refine hK _ ?_; clear hK K
                  go_wp2_with fail
                  go_roundw
                  case rel => exact ⟨(dm ++ s.extract j (j + 1)), k, false, j + 1, rfl, rfl, rfl, by go_num, by omega, HS2, by omega, by omega, HD2, hp, hb⟩
                  case measure => simp [intOf]; omega
              · have h57I : ¬ (c.toNat : Int) ≤ 57 := by omega
                have H1 : ¬ (c.toNat = 46 ∧ b = false) := fun e => h46 e.1
                have H2 : ¬ (c.toNat = 45 ∧ j = 0) := fun e => h45 e.1
                have H3 : ¬ (48 ≤ c.toNat ∧ c.toNat ≤ 57) := fun e => h57 e.2
                have HV : Hid (Ending.returned (.tuple #[.agg (dc 0 0), .int .i64 4]) = Ending.returned (prV s.data.toList)) := Lib.hid (retD_no (pd_scan (sc_none HS.out HC.out H1 H2 H3)))
                clear HS HC HX h45 h46 h48 h57 H1 H2 H3
                go_upto_region 9 with (fail)
                apply wp_region_lit
                (with_reducible refine wl_k ?_ ?_); exact rfl; intro K hK; go_simp; refine hK _ ?_; clear hK K
                (with_reducible refine wl_k ?_ ?_); exact rfl; intro K hK; go_simp; refine hK _ ?_; clear hK K
                (with_reducible refine wl_k ?_ ?_); exact rfl; intro K hK; go_simp; refine hK _ ?_; clear hK K
                (first | ((with_reducible refine wl_skipU ?_ ?_ ?_); exact rfl; exact rfl) | ((with_reducible refine wl_skip ?_ ?_); exact rfl; simp only [put_lit, List.set_cons_zero, List.set_cons_succ]))
                (first | ((with_reducible refine wl_skipU ?_ ?_ ?_); exact rfl; exact rfl) | ((with_reducible refine wl_skip ?_ ?_); exact rfl; simp only [put_lit, List.set_cons_zero, List.set_cons_succ]))
                (with_reducible refine wl_k ?_ ?_); exact rfl; intro K hK; go_simp; refine hK _ ?_; clear hK K
                (with_reducible refine wl_k ?_ ?_); exact rfl; intro K hK; go_simp; refine hK _ ?_; clear hK K
                go_upto_region 11 with (fail)
                apply wp_region_lit
                (with_reducible refine wl_k ?_ ?_); exact rfl; intro K hK; go_simp; refine hK _ ?_; clear hK K
                (with_reducible refine wl_k ?_ ?_); exact rfl; intro K hK; go_simp; refine hK _ ?_; clear hK K
                (with_reducible refine wl_k ?_ ?_); exact rfl; intro K hK; go_simp; refine hK _ ?_; clear hK K
                (first | ((with_reducible refine wl_skipU ?_ ?_ ?_); exact rfl; exact rfl) | ((with_reducible refine wl_skip ?_ ?_); exact rfl; simp only [put_lit, List.set_cons_zero, List.set_cons_succ]))
                (first | ((with_reducible refine wl_skipU ?_ ?_ ?_); exact rfl; exact rfl) | ((with_reducible refine wl_skip ?_ ?_); exact rfl; simp only [put_lit, List.set_cons_zero, List.set_cons_succ]))
                (with_reducible refine wl_k ?_ ?_); exact rfl; intro K hK; go_simp; refine hK _ ?_; clear hK K
                (with_reducible refine wl_k ?_ ?_); exact rfl; intro K hK; go_simp; refine hK _ ?_; clear hK K
                go_upto_region 12 with (fail)
                apply wp_region_lit
                (with_reducible refine wl_k ?_ ?_); exact rfl; intro K hK; go_simp; refine hK _ ?_; clear hK K
                (with_reducible refine wl_k ?_ ?_); exact rfl; intro K hK; go_simp; refine hK _ ?_; clear hK K
                (with_reducible refine wl_k ?_ ?_); exact rfl; intro K hK; go_simp; refine hK _ ?_; clear hK K
                (with_reducible refine wl_k ?_ ?_); exact rfl; intro K hK; go_simp; refine hK _ ?_; clear hK K
                (with_reducible refine wl_k ?_ ?_); exact rfl; intro K hK; go_simp; refine hK _ ?_; clear hK K
                (with_reducible refine wl_k ?_ ?_); exact rfl; intro K hK; go_simp; refine hK _ ?_; clear hK K
                (with_reducible refine wl_k ?_ ?_); exact rfl; intro K hK; go_simp; refine hK _ ?_; clear hK K
                go_upto_region 8 with (fail)
                apply wp_region_lit
                (with_reducible refine wl_k ?_ ?_); exact rfl; intro K hK; go_simp; refine hK _ ?_; clear hK K
                (with_reducible refine wl_put33 (u := 0) (k := 0) rfl rfl hp ?_); intro W6 hbx6 hkx6 hp6
                replace hb := hbx6 _ _ (by omega) hb
                (with_reducible refine wl_k ?_ ?_); exact rfl; intro K hK; go_simp; refine hK _ ?_; clear hK K
                go_wp2_with fail
                refine bodyPost_ret (res_decErr rfl _ _ p rfl hp6) rfl ⟨?_, hb⟩
                exact HV.out
            · have h48I : ¬ (48 : Int) ≤ (c.toNat : Int) := by omega
              have H1 : ¬ (c.toNat = 46 ∧ b = false) := fun e => h46 e.1
              have H2 : ¬ (c.toNat = 45 ∧ j = 0) := fun e => h45 e.1
              have H3 : ¬ (48 ≤ c.toNat ∧ c.toNat ≤ 57) := fun e => h48 e.1
              have HV : Hid (Ending.returned (.tuple #[.agg (dc 0 0), .int .i64 4]) = Ending.returned (prV s.data.toList)) := Lib.hid (retD_no (pd_scan (sc_none HS.out HC.out H1 H2 H3)))
              clear HS HC HX h45 h46 h48 H1 H2 H3
              go_upto_region 9 with (fail)
              apply wp_region_lit
              (with_reducible refine wl_k ?_ ?_); exact rfl; intro K hK; go_simp; refine hK _ ?_; clear hK K
              (with_reducible refine wl_k ?_ ?_); exact rfl; intro K hK; go_simp; refine hK _ ?_; clear hK K
              (with_reducible refine wl_k ?_ ?_); exact rfl; intro K hK; go_simp; refine hK _ ?_; clear hK K
              (first | ((with_reducible refine wl_skipU ?_ ?_ ?_); exact rfl; exact rfl) | ((with_reducible refine wl_skip ?_ ?_); exact rfl; simp only [put_lit, List.set_cons_zero, List.set_cons_succ]))
              (first | ((with_reducible refine wl_skipU ?_ ?_ ?_); exact rfl; exact rfl) | ((with_reducible refine wl_skip ?_ ?_); exact rfl; simp only [put_lit, List.set_cons_zero, List.set_cons_succ]))
              (with_reducible refine wl_k ?_ ?_); exact rfl; intro K hK; go_simp; refine hK _ ?_; clear hK K
              (with_reducible refine wl_k ?_ ?_); exact rfl; intro K hK; go_simp; refine hK _ ?_; clear hK K
              go_upto_region 11 with (fail)
              apply wp_region_lit
              (with_reducible refine wl_k ?_ ?_); exact rfl; intro K hK; go_simp; refine hK _ ?_; clear hK K
              (with_reducible refine wl_k ?_ ?_); exact rfl; intro K hK; go_simp; refine hK _ ?_; clear hK K
              (with_reducible refine wl_k ?_ ?_); exact rfl; intro K hK; go_simp; refine hK _ ?_; clear hK K
              (first | ((with_reducible refine wl_skipU ?_ ?_ ?_); exact rfl; exact rfl) | ((with_reducible refine wl_skip ?_ ?_); exact rfl; simp only [put_lit, List.set_cons_zero, List.set_cons_succ]))
              (first | ((with_reducible refine wl_skipU ?_ ?_ ?_); exact rfl; exact rfl) | ((with_reducible refine wl_skip ?_ ?_); exact rfl; simp only [put_lit, List.set_cons_zero, List.set_cons_succ]))
              (with_reducible refine wl_k ?_ ?_); exact rfl; intro K hK; go_simp; refine hK _ ?_; clear hK K
              (with_reducible refine wl_k ?_ ?_); exact rfl; intro K hK; go_simp; refine hK _ ?_; clear hK K
              go_upto_region 12 with (fail)
              apply wp_region_lit
              (with_reducible refine wl_k ?_ ?_); exact rfl; intro K hK; go_simp; refine hK _ ?_; clear hK K
              (with_reducible refine wl_k ?_ ?_); exact rfl; intro K hK; go_simp; refine hK _ ?_; clear hK K
              (with_reducible refine wl_k ?_ ?_); exact rfl; intro K hK; go_simp; refine hK _ ?_; clear hK K
              (first | ((with_reducible refine wl_skipU ?_ ?_ ?_); exact rfl; exact rfl) | ((with_reducible refine wl_skip ?_ ?_); exact rfl; simp only [put_lit, List.set_cons_zero, List.set_cons_succ]))
              (first | ((with_reducible refine wl_skipU ?_ ?_ ?_); exact rfl; exact rfl) | ((with_reducible refine wl_skip ?_ ?_); exact rfl; simp only [put_lit, List.set_cons_zero, List.set_cons_succ]))
              (with_reducible refine wl_k ?_ ?_); exact rfl; intro K hK; go_simp; refine hK _ ?_; clear hK K
              (with_reducible refine wl_k ?_ ?_); exact rfl; intro K hK; go_simp; refine hK _ ?_; clear hK K
              go_upto_region 8 with (fail)
              apply wp_region_lit
              (with_reducible refine wl_k ?_ ?_); exact rfl; intro K hK; go_simp; refine hK _ ?_; clear hK K
              (with_reducible refine wl_put33 (u := 0) (k := 0) rfl rfl hp ?_); intro W6 hbx6 hkx6 hp6
              replace hb := hbx6 _ _ (by omega) hb
              (with_reducible refine wl_k ?_ ?_); exact rfl; intro K hK; go_simp; refine hK _ ?_; clear hK K
              go_wp2_with fail
              refine bodyPost_ret (res_decErr rfl _ _ p rfl hp6) rfl ⟨?_, hb⟩
              exact HV.out
      · have hltI : ¬ (j : Int) < (s.size : Int) := by omega
        apply wp_region_lit
        (with_reducible refine wl_k ?_ ?_); exact rfl; intro K hK; go_simp; refine hK _ ?_; clear hK K
        (with_reducible refine wl_k ?_ ?_); exact rfl; intro K hK; go_simp; refine hK _ ?_; clear hK K
        (with_reducible refine wl_k ?_ ?_); exact rfl; intro K hK; go_simp; refine hK _ ?_; clear hK K
        (with_reducible refine wl_k ?_ ?_); exact rfl; intro K hK; go_simp; refine hK _ ?_; clear hK K
        have HE := Lib.hid (sc_end HS.out (by rw [← bsize]; omega))
        obtain ⟨D, hD⟩ : ∃ D, D = dm.data.toList := ⟨_, rfl⟩
        rw [← hD] at HE HD
        have HZ : Hid (dzL dm.data.toList = dzL D) := Lib.hid (by rw [hD])
        have hdm : dm.size ≤ 30 := by omega
        clear HS hD hd hltI hlt
        go_wp2_with fail
        go_loopw [4] (fun d wr => ∃ ez : ByteArray, d = .string ez ∧ Hid (dzL ez.data.toList = dzL D) ∧ ez.size ≤ 30 ∧ wr.heap[p]? = some (.cells (dc 0 0) 25 (0, 0)) ∧ Below w.heap.size w wr) (fun d _ => strSz d)
        case atStart => exact ⟨dm, rfl, HZ, hdm, hp, hb⟩
        case round =>
          clear hp hb HZ hdm
          obtain ⟨ez, rfl, HZ, hez, hp, hb⟩ := hrel
          go_upto_region 16 with (fail)
          by_cases h1 : 1 < ez.size
          · have h1I : (1 : Int) < (ez.size : Int) := by omega
            have h0 : 0 < ez.size := by omega
            have h0I : (0 : Int) < (ez.size : Int) := by omega
            by_cases h48 : (ez[0]'h0).toNat = 48
            · have h48I : ((ez[0]'h0).toNat : Int) = 48 := by omega
              have HZ2 : Hid (dzL (ez.extract 1 ez.size).data.toList = dzL D) := Lib.hid (by rw [ext_rest, dz_step (bytes_at h0) h48 (by rw [← bsize]; exact h1), HZ.out])
              have hez2 : (ez.extract 1 ez.size).size ≤ 30 ∧ (ez.extract 1 ez.size).size < ez.size := by rw [ByteArray.size_extract]; omega
              have h1I2 : (1 : Int) ≤ (ez.size : Int) := by omega
              apply wp_region_lit
              (with_reducible refine wl_k ?_ ?_); exact rfl; intro K hK; go_simp; refine hK _ ?_; clear hK K
              (with_reducible refine wl_k ?_ ?_); exact rfl; intro K hK; go_simp; refine hK _ ?_; clear hK K
              (with_reducible refine wl_k ?_ ?_); exact rfl; intro K hK; go_simp; refine hK _ ?_; clear hK K
              (with_reducible refine wl_k ?_ ?_); exact rfl; intro K hK; go_simp; refine hK _ ?_; clear hK K
              (with_reducible refine wl_k ?_ ?_); exact rfl; intro K hK; go_simp; refine hK _ ?_; clear hK K
              (with_reducible refine wl_k ?_ ?_); exact rfl; intro K hK; go_simp; refine hK _ ?_; clear hK K
              (with_reducible refine wl_k ?_ ?_); exact rfl; intro K hK; go_simp; refine hK _ ?_; clear hK K
              (with_reducible refine wl_k ?_ ?_); exact rfl; intro K hK; go_simp; refine hK _ ?_; clear hK K
              go_upto_region 17 with (fail)
              apply wp_region_lit
              (with_reducible refine wl_k ?_ ?_); exact rfl; intro K hK; go_simp; refine hK _ ?_; clear hK K
              (with_reducible refine wl_k ?_ ?_); exact rfl; intro K hK; go_simp; refine hK _ ?_; clear hK K
              (with_reducible refine wl_k ?_ ?_); exact rfl; intro K hK; go_simp; refine hK _ ?_; clear hK K
              go_wp2_with fail
              go_roundw
              case rel => exact ⟨_, rfl, HZ2, hez2.1, hp, hb⟩
              case measure => exact hez2.2
            · have h48I : (((ez[0]'h0).toNat : Int) == 48) = false := by rw [beq_eq_false_iff_ne]; omega
              have HF : Hid (ez.data.toList = dzL D) := Lib.hid (by rw [← HZ.out]; exact (dz_stop1 (bytes_at h0) h48).symm)
              apply wp_region_lit
              (with_reducible refine wl_k ?_ ?_); exact rfl; intro K hK; go_simp; refine hK _ ?_; clear hK K
              (with_reducible refine wl_k ?_ ?_); exact rfl; intro K hK; go_simp; refine hK _ ?_; clear hK K
              (with_reducible refine wl_k ?_ ?_); exact rfl; intro K hK; go_simp; refine hK _ ?_; clear hK K
              (with_reducible refine wl_k ?_ ?_); exact rfl; intro K hK; go_simp; refine hK _ ?_; clear hK K
              (with_reducible refine wl_k ?_ ?_); exact rfl; intro K hK; go_simp; refine hK _ ?_; clear hK K
              (with_reducible refine wl_k ?_ ?_); exact rfl; intro K hK; go_simp; refine hK _ ?_; clear hK K
              (with_reducible refine wl_k ?_ ?_); exact rfl; intro K hK; go_simp; refine hK _ ?_; clear hK K
              (with_reducible refine wl_k ?_ ?_); exact rfl; intro K hK; go_simp; refine hK _ ?_; clear hK K
              go_upto_region 18 with (fail)
              cases hx : rd (dzL D) with
              | none =>
                have hR := ReadI_any ez wr
                have hrd : rdm ez = none := by unfold rdm; rw [HF.out, hx]
                simp only [hrd, Option.getD_none, Option.isSome_none] at hR
                have HV := Lib.hid (retD_no (pd_read HE.out hx))
                clear HE HF hrd hx
                apply wp_region_lit
                (with_reducible refine wl_k ?_ ?_); exact rfl; intro K hK; go_simp; refine hK _ ?_; clear hK K
                (with_reducible refine wl_ck ?_ ?_); exact rfl; intro K hK; go_simp; refine ⟨_, _, ⟨rfl, rfl⟩, hK _ _ ⟨_, hR, ?_⟩⟩; clear hK K; rintro e w1 ⟨A, c, rfl, hI, hb1⟩; refine ⟨_, rfl, ?_⟩; simp only [put_lit, List.set_cons_zero, List.set_cons_succ]
                replace hp := below_look hb1 hp; replace hb := hb.trans (hb1.mono hb.size); clear hb1
                clear hR
                (with_reducible refine wl_k ?_ ?_); exact rfl; intro K hK; go_simp; refine hK _ ?_; clear hK K
                (with_reducible refine wl_k ?_ ?_); exact rfl; intro K hK; go_simp; refine hK _ ?_; clear hK K
                (with_reducible refine wl_k ?_ ?_); exact rfl; intro K hK; go_simp; refine hK _ ?_; clear hK K
                (have lthpv := heap_lt hp; have lsv := hb.size; (with_reducible apply wl_new84); intro W3 v hbn hlv hv; replace hp := below_look hbn hp; replace hI := hI.below hbn; replace hb := hb.trans (hbn.mono hb.size); clear hbn)
                ((with_reducible apply wl_putI); exact rfl; exact rfl; exact hv; intro W4 hbx hk hq hi; replace hp := hk _ _ (by omega) hp; replace hI := hi _ _ _ hI; replace hb := hbx _ _ (by omega) hb; clear hv; have hv := hq; clear hbx hk hq hi)
                (with_reducible refine wl_k ?_ ?_); exact rfl; intro K hK; go_simp; refine hK _ ?_; clear hK K
                go_upto_region 19 with (fail)
                apply wp_region_lit
                (with_reducible refine wl_k ?_ ?_); exact rfl; intro K hK; go_simp; refine hK _ ?_; clear hK K
                (with_reducible refine wl_k ?_ ?_); exact rfl; intro K hK; go_simp; refine hK _ ?_; clear hK K
                go_upto_region 20 with (fail)
                apply wp_region_lit
                (with_reducible refine wl_k ?_ ?_); exact rfl; intro K hK; go_simp; refine hK _ ?_; clear hK K
                (with_reducible refine wl_put33 (u := 0) (k := 0) rfl rfl hp ?_); intro W6 hbx6 hkx6 hp6
                replace hb := hbx6 _ _ (by omega) hb
                (with_reducible refine wl_k ?_ ?_); exact rfl; intro K hK; go_simp; refine hK _ ?_; clear hK K
                go_wp2_with fail
                refine bodyPost_ret (res_decErr rfl _ _ p rfl hp6) rfl ⟨?_, hb⟩
                exact HV.out
              | some x =>
                have hR := ReadI_any ez wr
                have hrd : rdm ez = some x := by unfold rdm; rw [HF.out, hx]
                simp only [hrd, Option.getD_some, Option.isSome_some] at hR
                have hx0 : 0 ≤ x := rd_pos (fun c hc => HD.out c (dz_sub D c hc)) hx
                have hxb := rd_bd hx
                have h0s : 0 < s.size := by
                  rcases Nat.eq_zero_or_pos s.size with h | h
                  · have h2 := HE.out
                    rw [show s.data.toList = [] from List.eq_nil_of_length_eq_zero (by rw [← bsize]; exact h)] at h2
                    rw [scanL] at h2
                    cases h2
                    cases hx
                  · exact h
                have h0sI : (0 : Int) < (s.size : Int) := by omega
                obtain ⟨nb, hnb⟩ : ∃ nb, nb = (((s[0]'h0s).toNat : Int) == 45) := ⟨_, rfl⟩
                obtain ⟨z, hz⟩ : ∃ z, z = sg nb x.natAbs := ⟨_, rfl⟩
                have hzx : z.natAbs = x.natAbs := by rw [hz]; exact sg_bd _ _
                have HFIN : Hid (parseD s.data.toList = finD s.data.toList z k) := Lib.hid (by
                  rw [pd_fin (by rw [← bsize]; exact h30) HE.out hx, hz, sg_if hx0, hnb]
                  congr 1
                  exact (head_if h0s x).symm)
                have HNB := Lib.hid hnb
                have HXZ := Lib.hid hz
                have HXB := Lib.hid hxb
                have HZX := Lib.hid hzx
                clear hz hnb HE HF hrd hx hxb hx0 hzx
                apply wp_region_lit
                (with_reducible refine wl_k ?_ ?_); exact rfl; intro K hK; go_simp; refine hK _ ?_; clear hK K
                (with_reducible refine wl_ck ?_ ?_); exact rfl; intro K hK; go_simp; refine ⟨_, _, ⟨rfl, rfl⟩, hK _ _ ⟨_, hR, ?_⟩⟩; clear hK K; rintro e w1 ⟨A, c, rfl, hI, hb1⟩; refine ⟨_, rfl, ?_⟩; simp only [put_lit, List.set_cons_zero, List.set_cons_succ]
                replace hp := below_look hb1 hp; replace hb := hb.trans (hb1.mono hb.size); clear hb1
                clear hR
                (with_reducible refine wl_k ?_ ?_); exact rfl; intro K hK; go_simp; refine hK _ ?_; clear hK K
                (with_reducible refine wl_k ?_ ?_); exact rfl; intro K hK; go_simp; refine hK _ ?_; clear hK K
                (with_reducible refine wl_k ?_ ?_); exact rfl; intro K hK; go_simp; refine hK _ ?_; clear hK K
                (have lthpv := heap_lt hp; have lsv := hb.size; (with_reducible apply wl_new84); intro W3 v hbn hlv hv; replace hp := below_look hbn hp; replace hI := hI.below hbn; replace hb := hb.trans (hbn.mono hb.size); clear hbn)
                ((with_reducible apply wl_putI); exact rfl; exact rfl; exact hv; intro W4 hbx hk hq hi; replace hp := hk _ _ (by omega) hp; replace hI := hi _ _ _ hI; replace hb := hbx _ _ (by omega) hb; clear hv; have hv := hq; clear hbx hk hq hi)
                (with_reducible refine wl_k ?_ ?_); exact rfl; intro K hK; go_simp; refine hK _ ?_; clear hK K
                go_upto_region 19 with (fail)
                apply wp_region_lit
                (with_reducible refine wl_k ?_ ?_); exact rfl; intro K hK; go_simp; refine hK _ ?_; clear hK K
                (with_reducible refine wl_k ?_ ?_); exact rfl; intro K hK; go_simp; refine hK _ ?_; clear hK K
                go_upto_region 21 with (fail)
                have hv1 := iv1 hv
                refine wp_region_held_drew (S := Kept [v] W4) mixed (Kept.drew [v] W4) (fun hS => ?_)
                replace hI : IvAt W4.drew x A c := hI
                replace hb := hb.drew
                refine ha_k (i := 0) rfl (by kernel_rfl) (by kernel_rfl) (by kernel_rfl) (fun _ _ _ _ h => h) hS rfl (fun K hK => ?_); go_simp; refine hK _ ?_; clear hK K; try simp only [put_lit, List.set_cons_zero, List.set_cons_succ]
                refine ha_k (i := 1) rfl (by kernel_rfl) (by kernel_rfl) (by kernel_rfl) (fun _ _ _ _ h => h) hS rfl (fun K hK => ?_); go_simp; refine hK _ ?_; clear hK K; try simp only [put_lit, List.set_cons_zero, List.set_cons_succ]
                refine ha_k (i := 2) rfl (by kernel_rfl) (by kernel_rfl) (by kernel_rfl) (fun _ _ _ _ h => h) hS rfl (fun K hK => ?_); go_simp; refine hK _ ?_; clear hK K; try simp only [put_lit, List.set_cons_zero, List.set_cons_succ]
                rw [← HNB.out]
                refine ha_k (i := 3) rfl (by kernel_rfl) (by kernel_rfl) (by kernel_rfl) (fun _ _ _ _ h => h) hS rfl (fun K hK => ?_); go_simp; refine hK _ ?_; clear hK K; try simp only [put_lit, List.set_cons_zero, List.set_cons_succ]
                refine ha_do (i := 4) (by kernel_rfl) rfl rfl (ex_one rfl (one82 hv1)) hS ?_; try simp only [put_lit, List.set_cons_zero, List.set_cons_succ]
                refine ha_call (i := 5) (by kernel_rfl) rfl rfl (fun K hK => ?_); go_simp; refine ⟨_, _, ⟨rfl, rfl⟩, hK _ _ ⟨_, signedI_any nb A x.natAbs c _, ?_⟩⟩; clear hK K; rintro e w5 ⟨rfl, hb1⟩; refine ⟨_, rfl, hS.below hb1, ?_⟩; replace hS := hS.below hb1; replace hv := below_look hb1 hv; replace hp := below_look hb1 hp; replace hI := hI.below hb1; replace hb := hb.trans (hb1.mono hb.size); clear hb1; try simp only [put_lit, List.set_cons_zero, List.set_cons_succ]
                rw [← HXZ.out]
                refine ha_store (i := 6) (by kernel_rfl) rfl rfl 41 _ _ rfl _ (iv z A c) rfl rfl 41 _ hv info84 rfl (iv_one _ _ _) (hS.setRow (by simp) _) (fun hS => ?_); try simp only [put_lit, List.set_cons_zero, List.set_cons_succ]
                refine wpAnyH_done (by kernel_rfl) ?_ _
                have hnl := nl40 (n := z.natAbs) (by rw [HZX.out]; exact HXB.out)
                have hpv : p ≠ v := by omega
                replace hp := hr_old (g := v) (cs := iv z A c) hp (by omega)
                replace hI := (hI.put hv (iv z A c)).sgn HZX.out
                replace hb := below_setRow hb (show w.heap.size ≤ v by omega) (iv z A c)
                replace hv := hr_new (cs := iv z A c) hv
                obtain ⟨W7, hW7⟩ : ∃ W7, W7 = w5.setRow v (iv z A c) := ⟨_, rfl⟩
                rw [← hW7] at hp hI hb hv ⊢
                clear hW7 hS HXZ HNB HXB HZX hv1
                go_upto_region 22 with (fail)
                by_cases hbig : 100000000000000000 < z.natAbs
                · have HV := Lib.hid (retD_no (HFIN.out.trans (fin_big hbig)))
                  have c1 := decimal_any z (k : Int) A c W7 hI hnl 0 0 2 (Lib.hid (by unfold madeU; rw [if_pos hbig])) (Lib.hid (by unfold madeK; rw [if_pos hbig])) (Lib.hid (by unfold madeE; rw [if_pos hbig]))
                  apply wp_region_lit
                  ((with_reducible apply wl_rowG); exact rfl; exact rfl; exact rowIv hv)
                  (with_reducible refine wl_k ?_ ?_); exact rfl; intro K hK; go_simp; refine hK _ ?_; clear hK K
                  (with_reducible refine wl_ck ?_ ?_); exact rfl; intro K hK; go_simp; refine ⟨_, _, ⟨rfl, rfl⟩, hK _ _ ⟨_, c1, ?_⟩⟩; clear hK K; rintro e w8 ⟨rfl, hb1⟩; refine ⟨_, rfl, ?_⟩; simp only [put_lit, List.set_cons_zero, List.set_cons_succ]
                  replace hp := below_look hb1 hp; replace hb := hb.trans (hb1.mono hb.size); clear hb1
                  clear c1
                  (with_reducible refine wl_k ?_ ?_); exact rfl; intro K hK; go_simp; refine hK _ ?_; clear hK K
                  (with_reducible refine wl_k ?_ ?_); exact rfl; intro K hK; go_simp; refine hK _ ?_; clear hK K
                  (with_reducible refine wl_k ?_ ?_); exact rfl; intro K hK; go_simp; refine hK _ ?_; clear hK K
                  have lthpr := heap_lt hp; (with_reducible refine wl_allD ?_); intro W8 r hbn hlr hr; replace hp := below_look hbn hp; replace hb := hb.trans (hbn.mono hb.size); clear hbn; simp only [put_lit, List.set_cons_zero, List.set_cons_succ]
                  have lpr := heap_lt hp
                  (with_reducible refine wl_put33 rfl rfl hr ?_); intro W9 hbx9 hkx9 hr9
                  replace hb := hbx9 _ _ (by omega) hb
                  replace hp := hkx9 _ _ (by omega) hp
                  clear hbx9 hkx9 hr
                  (with_reducible refine wl_k ?_ ?_); exact rfl; intro K hK; go_simp; refine hK _ ?_; clear hK K
                  go_upto_region 23 with (fail)
                  apply wp_region_lit
                  (with_reducible refine wl_k ?_ ?_); exact rfl; intro K hK; go_simp; refine hK _ ?_; clear hK K
                  (with_reducible refine wl_k ?_ ?_); exact rfl; intro K hK; go_simp; refine hK _ ?_; clear hK K
                  go_upto_region 24 with (fail)
                  apply wp_region_lit
                  (with_reducible refine wl_k ?_ ?_); exact rfl; intro K hK; go_simp; refine hK _ ?_; clear hK K
                  (with_reducible refine wl_put33 (u := 0) (k := 0) rfl rfl hp ?_); intro W6 hbx6 hkx6 hp6
                  replace hb := hbx6 _ _ (by omega) hb
                  (with_reducible refine wl_k ?_ ?_); exact rfl; intro K hK; go_simp; refine hK _ ?_; clear hK K
                  go_wp2_with fail
                  refine bodyPost_ret (res_decErr rfl _ _ p rfl hp6) rfl ⟨?_, hb⟩
                  exact HV.out
                · have c1 := decimal_any z (k : Int) A c W7 hI hnl z (k : Int) 0 (Lib.hid (by unfold madeU; rw [if_neg hbig])) (Lib.hid (by unfold madeK; rw [if_neg hbig])) (Lib.hid (by unfold madeE; rw [if_neg hbig]))
                  apply wp_region_lit
                  ((with_reducible apply wl_rowG); exact rfl; exact rfl; exact rowIv hv)
                  (with_reducible refine wl_k ?_ ?_); exact rfl; intro K hK; go_simp; refine hK _ ?_; clear hK K
                  (with_reducible refine wl_ck ?_ ?_); exact rfl; intro K hK; go_simp; refine ⟨_, _, ⟨rfl, rfl⟩, hK _ _ ⟨_, c1, ?_⟩⟩; clear hK K; rintro e w8 ⟨rfl, hb1⟩; refine ⟨_, rfl, ?_⟩; simp only [put_lit, List.set_cons_zero, List.set_cons_succ]
                  replace hp := below_look hb1 hp; replace hb := hb.trans (hb1.mono hb.size); clear hb1
                  clear c1
                  (with_reducible refine wl_k ?_ ?_); exact rfl; intro K hK; go_simp; refine hK _ ?_; clear hK K
                  (with_reducible refine wl_k ?_ ?_); exact rfl; intro K hK; go_simp; refine hK _ ?_; clear hK K
                  (with_reducible refine wl_k ?_ ?_); exact rfl; intro K hK; go_simp; refine hK _ ?_; clear hK K
                  have lthpr := heap_lt hp; (with_reducible refine wl_allD ?_); intro W8 r hbn hlr hr; replace hp := below_look hbn hp; replace hb := hb.trans (hbn.mono hb.size); clear hbn; simp only [put_lit, List.set_cons_zero, List.set_cons_succ]
                  have lpr := heap_lt hp
                  (with_reducible refine wl_put33 rfl rfl hr ?_); intro W9 hbx9 hkx9 hr9
                  replace hb := hbx9 _ _ (by omega) hb
                  replace hp := hkx9 _ _ (by omega) hp
                  clear hbx9 hkx9 hr
                  (with_reducible refine wl_k ?_ ?_); exact rfl; intro K hK; go_simp; refine hK _ ?_; clear hK K
                  go_upto_region 23 with (fail)
                  apply wp_region_lit
                  (with_reducible refine wl_k ?_ ?_); exact rfl; intro K hK; go_simp; refine hK _ ?_; clear hK K
                  (with_reducible refine wl_k ?_ ?_); exact rfl; intro K hK; go_simp; refine hK _ ?_; clear hK K
                  go_upto_region 25 with (fail)
                  have c2 := FormatI_any z (k : Int) W9
                  by_cases hok : okD z (k : Int) = true
                  · obtain ⟨m, hm⟩ : ∃ m : ByteArray, m = ⟨(fmtL z k).toArray⟩ := ⟨_, rfl⟩
                    rw [fm_goodN hok (m := m) (by rw [hm])] at c2
                    have HMM := Lib.hid hm
                    clear hm
                    apply wp_region_lit
                    ((with_reducible apply wl_rowG); exact rfl; exact rfl; exact rowDc hr9)
                    (with_reducible refine wl_ck ?_ ?_); exact rfl; intro K hK; go_simp; refine ⟨_, _, ⟨rfl, rfl⟩, hK _ _ ⟨_, c2, ?_⟩⟩; clear hK K; rintro e w9 ⟨rfl, hb1⟩; refine ⟨_, rfl, ?_⟩; simp only [put_lit, List.set_cons_zero, List.set_cons_succ]
                    replace hp := below_look hb1 hp; replace hr9 := below_look hb1 hr9; replace hb := hb.trans (hb1.mono hb.size); clear hb1
                    clear c2
                    (with_reducible refine wl_k ?_ ?_); exact rfl; intro K hK; go_simp; refine hK _ ?_; clear hK K
                    (with_reducible refine wl_k ?_ ?_); exact rfl; intro K hK; go_simp; refine hK _ ?_; clear hK K
                    (with_reducible refine wl_k ?_ ?_); exact rfl; intro K hK; go_simp; refine hK _ ?_; clear hK K
                    (with_reducible refine wl_k ?_ ?_); exact rfl; intro K hK; go_simp; refine hK _ ?_; clear hK K
                    (with_reducible refine wl_k ?_ ?_); exact rfl; intro K hK; go_simp; refine hK _ ?_; clear hK K
                    go_upto_region 26 with (fail)
                    by_cases hms : m = s
                    · have HV := Lib.hid (retD_yes (HFIN.out.trans (fin_yes hbig ⟨hok, by rw [← hms, HMM.out]⟩)))
                      subst hms
                      apply wp_region_lit
                      (with_reducible refine wl_k ?_ ?_); exact rfl; intro K hK; go_simp; refine hK _ ?_; clear hK K
                      (with_reducible refine wl_k ?_ ?_); exact rfl; intro K hK; go_simp; refine hK _ ?_; clear hK K
                      (with_reducible refine wl_k ?_ ?_); exact rfl; intro K hK; go_simp; refine hK _ ?_; clear hK K
                      (with_reducible refine wl_k ?_ ?_); exact rfl; intro K hK; go_simp; refine hK _ ?_; clear hK K
                      (with_reducible refine wl_k ?_ ?_); exact rfl; intro K hK; go_simp; refine hK _ ?_; clear hK K
                      (with_reducible refine wl_k ?_ ?_); exact rfl; intro K hK; go_simp; refine hK _ ?_; clear hK K
                      (with_reducible refine wl_k ?_ ?_); exact rfl; intro K hK; go_simp; refine hK _ ?_; clear hK K
                      go_upto_region 28 with (fail)
                      apply wp_region_lit
                      ((with_reducible apply wl_rowG); exact rfl; exact rfl; exact rowDc hr9)
                      (with_reducible refine wl_put33 rfl rfl hp ?_); intro W6 hbx6 hkx6 hp6
                      replace hb := hbx6 _ _ (by omega) hb
                      (with_reducible refine wl_k ?_ ?_); exact rfl; intro K hK; go_simp; refine hK _ ?_; clear hK K
                      go_wp2_with fail
                      refine bodyPost_ret (res_decErr rfl _ _ p rfl hp6) rfl ⟨?_, hb⟩
                      exact HV.out
                    · have HV := Lib.hid (retD_no (HFIN.out.trans (fin_bad fun e => hms (bytes_ext (by rw [HMM.out]; exact e.2)))))
                      have hne := str_ne hms
                      apply wp_region_lit
                      (with_reducible refine wl_k ?_ ?_); exact rfl; intro K hK; go_simp; refine hK _ ?_; clear hK K
                      (with_reducible refine wl_k ?_ ?_); exact rfl; intro K hK; go_simp; refine hK _ ?_; clear hK K
                      (with_reducible refine wl_k ?_ ?_); exact rfl; intro K hK; go_simp; refine hK _ ?_; clear hK K
                      (with_reducible refine wl_k ?_ ?_); exact rfl; intro K hK; go_simp; refine hK _ ?_; clear hK K
                      (with_reducible refine wl_k ?_ ?_); exact rfl; intro K hK; go_simp; refine hK _ ?_; clear hK K
                      (with_reducible refine wl_k ?_ ?_); exact rfl; intro K hK; go_simp; refine hK _ ?_; clear hK K
                      (with_reducible refine wl_k ?_ ?_); exact rfl; intro K hK; go_simp; refine hK _ ?_; clear hK K
                      go_upto_region 27 with (fail)
                      apply wp_region_lit
                      (with_reducible refine wl_k ?_ ?_); exact rfl; intro K hK; go_simp; refine hK _ ?_; clear hK K
                      (with_reducible refine wl_put33 (u := 0) (k := 0) rfl rfl hp ?_); intro W6 hbx6 hkx6 hp6
                      replace hb := hbx6 _ _ (by omega) hb
                      (with_reducible refine wl_k ?_ ?_); exact rfl; intro K hK; go_simp; refine hK _ ?_; clear hK K
                      go_wp2_with fail
                      refine bodyPost_ret (res_decErr rfl _ _ p rfl hp6) rfl ⟨?_, hb⟩
                      exact HV.out
                  · have HV := Lib.hid (retD_no (HFIN.out.trans (fin_bad fun e => hok e.1)))
                    rw [fm_bad (by simpa using hok)] at c2
                    apply wp_region_lit
                    ((with_reducible apply wl_rowG); exact rfl; exact rfl; exact rowDc hr9)
                    (with_reducible refine wl_ck ?_ ?_); exact rfl; intro K hK; go_simp; refine ⟨_, _, ⟨rfl, rfl⟩, hK _ _ ⟨_, c2, ?_⟩⟩; clear hK K; rintro e w9 ⟨rfl, hb1⟩; refine ⟨_, rfl, ?_⟩; simp only [put_lit, List.set_cons_zero, List.set_cons_succ]
                    replace hp := below_look hb1 hp; replace hr9 := below_look hb1 hr9; replace hb := hb.trans (hb1.mono hb.size); clear hb1
                    clear c2
                    (with_reducible refine wl_k ?_ ?_); exact rfl; intro K hK; go_simp; refine hK _ ?_; clear hK K
                    (with_reducible refine wl_k ?_ ?_); exact rfl; intro K hK; go_simp; refine hK _ ?_; clear hK K
                    (with_reducible refine wl_k ?_ ?_); exact rfl; intro K hK; go_simp; refine hK _ ?_; clear hK K
                    (with_reducible refine wl_k ?_ ?_); exact rfl; intro K hK; go_simp; refine hK _ ?_; clear hK K
                    (with_reducible refine wl_k ?_ ?_); exact rfl; intro K hK; go_simp; refine hK _ ?_; clear hK K
                    go_upto_region 26 with (fail)
                    apply wp_region_lit
                    (with_reducible refine wl_k ?_ ?_); exact rfl; intro K hK; go_simp; refine hK _ ?_; clear hK K
                    (with_reducible refine wl_k ?_ ?_); exact rfl; intro K hK; go_simp; refine hK _ ?_; clear hK K
                    (with_reducible refine wl_k ?_ ?_); exact rfl; intro K hK; go_simp; refine hK _ ?_; clear hK K
                    (first | ((with_reducible refine wl_skipU ?_ ?_ ?_); exact rfl; exact rfl) | ((with_reducible refine wl_skip ?_ ?_); exact rfl; simp only [put_lit, List.set_cons_zero, List.set_cons_succ]))
                    (first | ((with_reducible refine wl_skipU ?_ ?_ ?_); exact rfl; exact rfl) | ((with_reducible refine wl_skip ?_ ?_); exact rfl; simp only [put_lit, List.set_cons_zero, List.set_cons_succ]))
                    (first | ((with_reducible refine wl_skipU ?_ ?_ ?_); exact rfl; exact rfl) | ((with_reducible refine wl_skip ?_ ?_); exact rfl; simp only [put_lit, List.set_cons_zero, List.set_cons_succ]))
                    (with_reducible refine wl_k ?_ ?_); exact rfl; intro K hK; go_simp; refine hK _ ?_; clear hK K
                    go_upto_region 27 with (fail)
                    apply wp_region_lit
                    (with_reducible refine wl_k ?_ ?_); exact rfl; intro K hK; go_simp; refine hK _ ?_; clear hK K
                    (with_reducible refine wl_put33 (u := 0) (k := 0) rfl rfl hp ?_); intro W6 hbx6 hkx6 hp6
                    replace hb := hbx6 _ _ (by omega) hb
                    (with_reducible refine wl_k ?_ ?_); exact rfl; intro K hK; go_simp; refine hK _ ?_; clear hK K
                    go_wp2_with fail
                    refine bodyPost_ret (res_decErr rfl _ _ p rfl hp6) rfl ⟨?_, hb⟩
                    exact HV.out
          · have h1I : ¬ (1 : Int) < (ez.size : Int) := by omega
            have HF : Hid (ez.data.toList = dzL D) := Lib.hid (by rw [← HZ.out]; exact (dz_stop0 (by rw [← bsize]; exact h1)).symm)
            apply wp_region_lit
            (with_reducible refine wl_k ?_ ?_); exact rfl; intro K hK; go_simp; refine hK _ ?_; clear hK K
            (with_reducible refine wl_k ?_ ?_); exact rfl; intro K hK; go_simp; refine hK _ ?_; clear hK K
            (with_reducible refine wl_k ?_ ?_); exact rfl; intro K hK; go_simp; refine hK _ ?_; clear hK K
            (with_reducible refine wl_k ?_ ?_); exact rfl; intro K hK; go_simp; refine hK _ ?_; clear hK K
            (first | ((with_reducible refine wl_skipU ?_ ?_ ?_); exact rfl; exact rfl) | ((with_reducible refine wl_skip ?_ ?_); exact rfl; simp only [put_lit, List.set_cons_zero, List.set_cons_succ]))
            (first | ((with_reducible refine wl_skipU ?_ ?_ ?_); exact rfl; exact rfl) | ((with_reducible refine wl_skip ?_ ?_); exact rfl; simp only [put_lit, List.set_cons_zero, List.set_cons_succ]))
            (first | ((with_reducible refine wl_skipU ?_ ?_ ?_); exact rfl; exact rfl) | ((with_reducible refine wl_skip ?_ ?_); exact rfl; simp only [put_lit, List.set_cons_zero, List.set_cons_succ]))
            (with_reducible refine wl_k ?_ ?_); exact rfl; intro K hK; go_simp; refine hK _ ?_; clear hK K
            go_upto_region 18 with (fail)
            cases hx : rd (dzL D) with
            | none =>
              have hR := ReadI_any ez wr
              have hrd : rdm ez = none := by unfold rdm; rw [HF.out, hx]
              simp only [hrd, Option.getD_none, Option.isSome_none] at hR
              have HV := Lib.hid (retD_no (pd_read HE.out hx))
              clear HE HF hrd hx
              apply wp_region_lit
              (with_reducible refine wl_k ?_ ?_); exact rfl; intro K hK; go_simp; refine hK _ ?_; clear hK K
              (with_reducible refine wl_ck ?_ ?_); exact rfl; intro K hK; go_simp; refine ⟨_, _, ⟨rfl, rfl⟩, hK _ _ ⟨_, hR, ?_⟩⟩; clear hK K; rintro e w1 ⟨A, c, rfl, hI, hb1⟩; refine ⟨_, rfl, ?_⟩; simp only [put_lit, List.set_cons_zero, List.set_cons_succ]
              replace hp := below_look hb1 hp; replace hb := hb.trans (hb1.mono hb.size); clear hb1
              clear hR
              (with_reducible refine wl_k ?_ ?_); exact rfl; intro K hK; go_simp; refine hK _ ?_; clear hK K
              (with_reducible refine wl_k ?_ ?_); exact rfl; intro K hK; go_simp; refine hK _ ?_; clear hK K
              (with_reducible refine wl_k ?_ ?_); exact rfl; intro K hK; go_simp; refine hK _ ?_; clear hK K
              (have lthpv := heap_lt hp; have lsv := hb.size; (with_reducible apply wl_new84); intro W3 v hbn hlv hv; replace hp := below_look hbn hp; replace hI := hI.below hbn; replace hb := hb.trans (hbn.mono hb.size); clear hbn)
              ((with_reducible apply wl_putI); exact rfl; exact rfl; exact hv; intro W4 hbx hk hq hi; replace hp := hk _ _ (by omega) hp; replace hI := hi _ _ _ hI; replace hb := hbx _ _ (by omega) hb; clear hv; have hv := hq; clear hbx hk hq hi)
              (with_reducible refine wl_k ?_ ?_); exact rfl; intro K hK; go_simp; refine hK _ ?_; clear hK K
              go_upto_region 19 with (fail)
              apply wp_region_lit
              (with_reducible refine wl_k ?_ ?_); exact rfl; intro K hK; go_simp; refine hK _ ?_; clear hK K
              (with_reducible refine wl_k ?_ ?_); exact rfl; intro K hK; go_simp; refine hK _ ?_; clear hK K
              go_upto_region 20 with (fail)
              apply wp_region_lit
              (with_reducible refine wl_k ?_ ?_); exact rfl; intro K hK; go_simp; refine hK _ ?_; clear hK K
              (with_reducible refine wl_put33 (u := 0) (k := 0) rfl rfl hp ?_); intro W6 hbx6 hkx6 hp6
              replace hb := hbx6 _ _ (by omega) hb
              (with_reducible refine wl_k ?_ ?_); exact rfl; intro K hK; go_simp; refine hK _ ?_; clear hK K
              go_wp2_with fail
              refine bodyPost_ret (res_decErr rfl _ _ p rfl hp6) rfl ⟨?_, hb⟩
              exact HV.out
            | some x =>
              have hR := ReadI_any ez wr
              have hrd : rdm ez = some x := by unfold rdm; rw [HF.out, hx]
              simp only [hrd, Option.getD_some, Option.isSome_some] at hR
              have hx0 : 0 ≤ x := rd_pos (fun c hc => HD.out c (dz_sub D c hc)) hx
              have hxb := rd_bd hx
              have h0s : 0 < s.size := by
                rcases Nat.eq_zero_or_pos s.size with h | h
                · have h2 := HE.out
                  rw [show s.data.toList = [] from List.eq_nil_of_length_eq_zero (by rw [← bsize]; exact h)] at h2
                  rw [scanL] at h2
                  cases h2
                  cases hx
                · exact h
              have h0sI : (0 : Int) < (s.size : Int) := by omega
              obtain ⟨nb, hnb⟩ : ∃ nb, nb = (((s[0]'h0s).toNat : Int) == 45) := ⟨_, rfl⟩
              obtain ⟨z, hz⟩ : ∃ z, z = sg nb x.natAbs := ⟨_, rfl⟩
              have hzx : z.natAbs = x.natAbs := by rw [hz]; exact sg_bd _ _
              have HFIN : Hid (parseD s.data.toList = finD s.data.toList z k) := Lib.hid (by
                rw [pd_fin (by rw [← bsize]; exact h30) HE.out hx, hz, sg_if hx0, hnb]
                congr 1
                exact (head_if h0s x).symm)
              have HNB := Lib.hid hnb
              have HXZ := Lib.hid hz
              have HXB := Lib.hid hxb
              have HZX := Lib.hid hzx
              clear hz hnb HE HF hrd hx hxb hx0 hzx
              apply wp_region_lit
              (with_reducible refine wl_k ?_ ?_); exact rfl; intro K hK; go_simp; refine hK _ ?_; clear hK K
              (with_reducible refine wl_ck ?_ ?_); exact rfl; intro K hK; go_simp; refine ⟨_, _, ⟨rfl, rfl⟩, hK _ _ ⟨_, hR, ?_⟩⟩; clear hK K; rintro e w1 ⟨A, c, rfl, hI, hb1⟩; refine ⟨_, rfl, ?_⟩; simp only [put_lit, List.set_cons_zero, List.set_cons_succ]
              replace hp := below_look hb1 hp; replace hb := hb.trans (hb1.mono hb.size); clear hb1
              clear hR
              (with_reducible refine wl_k ?_ ?_); exact rfl; intro K hK; go_simp; refine hK _ ?_; clear hK K
              (with_reducible refine wl_k ?_ ?_); exact rfl; intro K hK; go_simp; refine hK _ ?_; clear hK K
              (with_reducible refine wl_k ?_ ?_); exact rfl; intro K hK; go_simp; refine hK _ ?_; clear hK K
              (have lthpv := heap_lt hp; have lsv := hb.size; (with_reducible apply wl_new84); intro W3 v hbn hlv hv; replace hp := below_look hbn hp; replace hI := hI.below hbn; replace hb := hb.trans (hbn.mono hb.size); clear hbn)
              ((with_reducible apply wl_putI); exact rfl; exact rfl; exact hv; intro W4 hbx hk hq hi; replace hp := hk _ _ (by omega) hp; replace hI := hi _ _ _ hI; replace hb := hbx _ _ (by omega) hb; clear hv; have hv := hq; clear hbx hk hq hi)
              (with_reducible refine wl_k ?_ ?_); exact rfl; intro K hK; go_simp; refine hK _ ?_; clear hK K
              go_upto_region 19 with (fail)
              apply wp_region_lit
              (with_reducible refine wl_k ?_ ?_); exact rfl; intro K hK; go_simp; refine hK _ ?_; clear hK K
              (with_reducible refine wl_k ?_ ?_); exact rfl; intro K hK; go_simp; refine hK _ ?_; clear hK K
              go_upto_region 21 with (fail)
              have hv1 := iv1 hv
              refine wp_region_held_drew (S := Kept [v] W4) mixed (Kept.drew [v] W4) (fun hS => ?_)
              replace hI : IvAt W4.drew x A c := hI
              replace hb := hb.drew
              refine ha_k (i := 0) rfl (by kernel_rfl) (by kernel_rfl) (by kernel_rfl) (fun _ _ _ _ h => h) hS rfl (fun K hK => ?_); go_simp; refine hK _ ?_; clear hK K; try simp only [put_lit, List.set_cons_zero, List.set_cons_succ]
              refine ha_k (i := 1) rfl (by kernel_rfl) (by kernel_rfl) (by kernel_rfl) (fun _ _ _ _ h => h) hS rfl (fun K hK => ?_); go_simp; refine hK _ ?_; clear hK K; try simp only [put_lit, List.set_cons_zero, List.set_cons_succ]
              refine ha_k (i := 2) rfl (by kernel_rfl) (by kernel_rfl) (by kernel_rfl) (fun _ _ _ _ h => h) hS rfl (fun K hK => ?_); go_simp; refine hK _ ?_; clear hK K; try simp only [put_lit, List.set_cons_zero, List.set_cons_succ]
              rw [← HNB.out]
              refine ha_k (i := 3) rfl (by kernel_rfl) (by kernel_rfl) (by kernel_rfl) (fun _ _ _ _ h => h) hS rfl (fun K hK => ?_); go_simp; refine hK _ ?_; clear hK K; try simp only [put_lit, List.set_cons_zero, List.set_cons_succ]
              refine ha_do (i := 4) (by kernel_rfl) rfl rfl (ex_one rfl (one82 hv1)) hS ?_; try simp only [put_lit, List.set_cons_zero, List.set_cons_succ]
              refine ha_call (i := 5) (by kernel_rfl) rfl rfl (fun K hK => ?_); go_simp; refine ⟨_, _, ⟨rfl, rfl⟩, hK _ _ ⟨_, signedI_any nb A x.natAbs c _, ?_⟩⟩; clear hK K; rintro e w5 ⟨rfl, hb1⟩; refine ⟨_, rfl, hS.below hb1, ?_⟩; replace hS := hS.below hb1; replace hv := below_look hb1 hv; replace hp := below_look hb1 hp; replace hI := hI.below hb1; replace hb := hb.trans (hb1.mono hb.size); clear hb1; try simp only [put_lit, List.set_cons_zero, List.set_cons_succ]
              rw [← HXZ.out]
              refine ha_store (i := 6) (by kernel_rfl) rfl rfl 41 _ _ rfl _ (iv z A c) rfl rfl 41 _ hv info84 rfl (iv_one _ _ _) (hS.setRow (by simp) _) (fun hS => ?_); try simp only [put_lit, List.set_cons_zero, List.set_cons_succ]
              refine wpAnyH_done (by kernel_rfl) ?_ _
              have hnl := nl40 (n := z.natAbs) (by rw [HZX.out]; exact HXB.out)
              have hpv : p ≠ v := by omega
              replace hp := hr_old (g := v) (cs := iv z A c) hp (by omega)
              replace hI := (hI.put hv (iv z A c)).sgn HZX.out
              replace hb := below_setRow hb (show w.heap.size ≤ v by omega) (iv z A c)
              replace hv := hr_new (cs := iv z A c) hv
              obtain ⟨W7, hW7⟩ : ∃ W7, W7 = w5.setRow v (iv z A c) := ⟨_, rfl⟩
              rw [← hW7] at hp hI hb hv ⊢
              clear hW7 hS HXZ HNB HXB HZX hv1
              go_upto_region 22 with (fail)
              by_cases hbig : 100000000000000000 < z.natAbs
              · have HV := Lib.hid (retD_no (HFIN.out.trans (fin_big hbig)))
                have c1 := decimal_any z (k : Int) A c W7 hI hnl 0 0 2 (Lib.hid (by unfold madeU; rw [if_pos hbig])) (Lib.hid (by unfold madeK; rw [if_pos hbig])) (Lib.hid (by unfold madeE; rw [if_pos hbig]))
                apply wp_region_lit
                ((with_reducible apply wl_rowG); exact rfl; exact rfl; exact rowIv hv)
                (with_reducible refine wl_k ?_ ?_); exact rfl; intro K hK; go_simp; refine hK _ ?_; clear hK K
                (with_reducible refine wl_ck ?_ ?_); exact rfl; intro K hK; go_simp; refine ⟨_, _, ⟨rfl, rfl⟩, hK _ _ ⟨_, c1, ?_⟩⟩; clear hK K; rintro e w8 ⟨rfl, hb1⟩; refine ⟨_, rfl, ?_⟩; simp only [put_lit, List.set_cons_zero, List.set_cons_succ]
                replace hp := below_look hb1 hp; replace hb := hb.trans (hb1.mono hb.size); clear hb1
                clear c1
                (with_reducible refine wl_k ?_ ?_); exact rfl; intro K hK; go_simp; refine hK _ ?_; clear hK K
                (with_reducible refine wl_k ?_ ?_); exact rfl; intro K hK; go_simp; refine hK _ ?_; clear hK K
                (with_reducible refine wl_k ?_ ?_); exact rfl; intro K hK; go_simp; refine hK _ ?_; clear hK K
                have lthpr := heap_lt hp; (with_reducible refine wl_allD ?_); intro W8 r hbn hlr hr; replace hp := below_look hbn hp; replace hb := hb.trans (hbn.mono hb.size); clear hbn; simp only [put_lit, List.set_cons_zero, List.set_cons_succ]
                have lpr := heap_lt hp
                (with_reducible refine wl_put33 rfl rfl hr ?_); intro W9 hbx9 hkx9 hr9
                replace hb := hbx9 _ _ (by omega) hb
                replace hp := hkx9 _ _ (by omega) hp
                clear hbx9 hkx9 hr
                (with_reducible refine wl_k ?_ ?_); exact rfl; intro K hK; go_simp; refine hK _ ?_; clear hK K
                go_upto_region 23 with (fail)
                apply wp_region_lit
                (with_reducible refine wl_k ?_ ?_); exact rfl; intro K hK; go_simp; refine hK _ ?_; clear hK K
                (with_reducible refine wl_k ?_ ?_); exact rfl; intro K hK; go_simp; refine hK _ ?_; clear hK K
                go_upto_region 24 with (fail)
                apply wp_region_lit
                (with_reducible refine wl_k ?_ ?_); exact rfl; intro K hK; go_simp; refine hK _ ?_; clear hK K
                (with_reducible refine wl_put33 (u := 0) (k := 0) rfl rfl hp ?_); intro W6 hbx6 hkx6 hp6
                replace hb := hbx6 _ _ (by omega) hb
                (with_reducible refine wl_k ?_ ?_); exact rfl; intro K hK; go_simp; refine hK _ ?_; clear hK K
                go_wp2_with fail
                refine bodyPost_ret (res_decErr rfl _ _ p rfl hp6) rfl ⟨?_, hb⟩
                exact HV.out
              · have c1 := decimal_any z (k : Int) A c W7 hI hnl z (k : Int) 0 (Lib.hid (by unfold madeU; rw [if_neg hbig])) (Lib.hid (by unfold madeK; rw [if_neg hbig])) (Lib.hid (by unfold madeE; rw [if_neg hbig]))
                apply wp_region_lit
                ((with_reducible apply wl_rowG); exact rfl; exact rfl; exact rowIv hv)
                (with_reducible refine wl_k ?_ ?_); exact rfl; intro K hK; go_simp; refine hK _ ?_; clear hK K
                (with_reducible refine wl_ck ?_ ?_); exact rfl; intro K hK; go_simp; refine ⟨_, _, ⟨rfl, rfl⟩, hK _ _ ⟨_, c1, ?_⟩⟩; clear hK K; rintro e w8 ⟨rfl, hb1⟩; refine ⟨_, rfl, ?_⟩; simp only [put_lit, List.set_cons_zero, List.set_cons_succ]
                replace hp := below_look hb1 hp; replace hb := hb.trans (hb1.mono hb.size); clear hb1
                clear c1
                (with_reducible refine wl_k ?_ ?_); exact rfl; intro K hK; go_simp; refine hK _ ?_; clear hK K
                (with_reducible refine wl_k ?_ ?_); exact rfl; intro K hK; go_simp; refine hK _ ?_; clear hK K
                (with_reducible refine wl_k ?_ ?_); exact rfl; intro K hK; go_simp; refine hK _ ?_; clear hK K
                have lthpr := heap_lt hp; (with_reducible refine wl_allD ?_); intro W8 r hbn hlr hr; replace hp := below_look hbn hp; replace hb := hb.trans (hbn.mono hb.size); clear hbn; simp only [put_lit, List.set_cons_zero, List.set_cons_succ]
                have lpr := heap_lt hp
                (with_reducible refine wl_put33 rfl rfl hr ?_); intro W9 hbx9 hkx9 hr9
                replace hb := hbx9 _ _ (by omega) hb
                replace hp := hkx9 _ _ (by omega) hp
                clear hbx9 hkx9 hr
                (with_reducible refine wl_k ?_ ?_); exact rfl; intro K hK; go_simp; refine hK _ ?_; clear hK K
                go_upto_region 23 with (fail)
                apply wp_region_lit
                (with_reducible refine wl_k ?_ ?_); exact rfl; intro K hK; go_simp; refine hK _ ?_; clear hK K
                (with_reducible refine wl_k ?_ ?_); exact rfl; intro K hK; go_simp; refine hK _ ?_; clear hK K
                go_upto_region 25 with (fail)
                have c2 := FormatI_any z (k : Int) W9
                by_cases hok : okD z (k : Int) = true
                · obtain ⟨m, hm⟩ : ∃ m : ByteArray, m = ⟨(fmtL z k).toArray⟩ := ⟨_, rfl⟩
                  rw [fm_goodN hok (m := m) (by rw [hm])] at c2
                  have HMM := Lib.hid hm
                  clear hm
                  apply wp_region_lit
                  ((with_reducible apply wl_rowG); exact rfl; exact rfl; exact rowDc hr9)
                  (with_reducible refine wl_ck ?_ ?_); exact rfl; intro K hK; go_simp; refine ⟨_, _, ⟨rfl, rfl⟩, hK _ _ ⟨_, c2, ?_⟩⟩; clear hK K; rintro e w9 ⟨rfl, hb1⟩; refine ⟨_, rfl, ?_⟩; simp only [put_lit, List.set_cons_zero, List.set_cons_succ]
                  replace hp := below_look hb1 hp; replace hr9 := below_look hb1 hr9; replace hb := hb.trans (hb1.mono hb.size); clear hb1
                  clear c2
                  (with_reducible refine wl_k ?_ ?_); exact rfl; intro K hK; go_simp; refine hK _ ?_; clear hK K
                  (with_reducible refine wl_k ?_ ?_); exact rfl; intro K hK; go_simp; refine hK _ ?_; clear hK K
                  (with_reducible refine wl_k ?_ ?_); exact rfl; intro K hK; go_simp; refine hK _ ?_; clear hK K
                  (with_reducible refine wl_k ?_ ?_); exact rfl; intro K hK; go_simp; refine hK _ ?_; clear hK K
                  (with_reducible refine wl_k ?_ ?_); exact rfl; intro K hK; go_simp; refine hK _ ?_; clear hK K
                  go_upto_region 26 with (fail)
                  by_cases hms : m = s
                  · have HV := Lib.hid (retD_yes (HFIN.out.trans (fin_yes hbig ⟨hok, by rw [← hms, HMM.out]⟩)))
                    subst hms
                    apply wp_region_lit
                    (with_reducible refine wl_k ?_ ?_); exact rfl; intro K hK; go_simp; refine hK _ ?_; clear hK K
                    (with_reducible refine wl_k ?_ ?_); exact rfl; intro K hK; go_simp; refine hK _ ?_; clear hK K
                    (with_reducible refine wl_k ?_ ?_); exact rfl; intro K hK; go_simp; refine hK _ ?_; clear hK K
                    (with_reducible refine wl_k ?_ ?_); exact rfl; intro K hK; go_simp; refine hK _ ?_; clear hK K
                    (with_reducible refine wl_k ?_ ?_); exact rfl; intro K hK; go_simp; refine hK _ ?_; clear hK K
                    (with_reducible refine wl_k ?_ ?_); exact rfl; intro K hK; go_simp; refine hK _ ?_; clear hK K
                    (with_reducible refine wl_k ?_ ?_); exact rfl; intro K hK; go_simp; refine hK _ ?_; clear hK K
                    go_upto_region 28 with (fail)
                    apply wp_region_lit
                    ((with_reducible apply wl_rowG); exact rfl; exact rfl; exact rowDc hr9)
                    (with_reducible refine wl_put33 rfl rfl hp ?_); intro W6 hbx6 hkx6 hp6
                    replace hb := hbx6 _ _ (by omega) hb
                    (with_reducible refine wl_k ?_ ?_); exact rfl; intro K hK; go_simp; refine hK _ ?_; clear hK K
                    go_wp2_with fail
                    refine bodyPost_ret (res_decErr rfl _ _ p rfl hp6) rfl ⟨?_, hb⟩
                    exact HV.out
                  · have HV := Lib.hid (retD_no (HFIN.out.trans (fin_bad fun e => hms (bytes_ext (by rw [HMM.out]; exact e.2)))))
                    have hne := str_ne hms
                    apply wp_region_lit
                    (with_reducible refine wl_k ?_ ?_); exact rfl; intro K hK; go_simp; refine hK _ ?_; clear hK K
                    (with_reducible refine wl_k ?_ ?_); exact rfl; intro K hK; go_simp; refine hK _ ?_; clear hK K
                    (with_reducible refine wl_k ?_ ?_); exact rfl; intro K hK; go_simp; refine hK _ ?_; clear hK K
                    (with_reducible refine wl_k ?_ ?_); exact rfl; intro K hK; go_simp; refine hK _ ?_; clear hK K
                    (with_reducible refine wl_k ?_ ?_); exact rfl; intro K hK; go_simp; refine hK _ ?_; clear hK K
                    (with_reducible refine wl_k ?_ ?_); exact rfl; intro K hK; go_simp; refine hK _ ?_; clear hK K
                    (with_reducible refine wl_k ?_ ?_); exact rfl; intro K hK; go_simp; refine hK _ ?_; clear hK K
                    go_upto_region 27 with (fail)
                    apply wp_region_lit
                    (with_reducible refine wl_k ?_ ?_); exact rfl; intro K hK; go_simp; refine hK _ ?_; clear hK K
                    (with_reducible refine wl_put33 (u := 0) (k := 0) rfl rfl hp ?_); intro W6 hbx6 hkx6 hp6
                    replace hb := hbx6 _ _ (by omega) hb
                    (with_reducible refine wl_k ?_ ?_); exact rfl; intro K hK; go_simp; refine hK _ ?_; clear hK K
                    go_wp2_with fail
                    refine bodyPost_ret (res_decErr rfl _ _ p rfl hp6) rfl ⟨?_, hb⟩
                    exact HV.out
                · have HV := Lib.hid (retD_no (HFIN.out.trans (fin_bad fun e => hok e.1)))
                  rw [fm_bad (by simpa using hok)] at c2
                  apply wp_region_lit
                  ((with_reducible apply wl_rowG); exact rfl; exact rfl; exact rowDc hr9)
                  (with_reducible refine wl_ck ?_ ?_); exact rfl; intro K hK; go_simp; refine ⟨_, _, ⟨rfl, rfl⟩, hK _ _ ⟨_, c2, ?_⟩⟩; clear hK K; rintro e w9 ⟨rfl, hb1⟩; refine ⟨_, rfl, ?_⟩; simp only [put_lit, List.set_cons_zero, List.set_cons_succ]
                  replace hp := below_look hb1 hp; replace hr9 := below_look hb1 hr9; replace hb := hb.trans (hb1.mono hb.size); clear hb1
                  clear c2
                  (with_reducible refine wl_k ?_ ?_); exact rfl; intro K hK; go_simp; refine hK _ ?_; clear hK K
                  (with_reducible refine wl_k ?_ ?_); exact rfl; intro K hK; go_simp; refine hK _ ?_; clear hK K
                  (with_reducible refine wl_k ?_ ?_); exact rfl; intro K hK; go_simp; refine hK _ ?_; clear hK K
                  (with_reducible refine wl_k ?_ ?_); exact rfl; intro K hK; go_simp; refine hK _ ?_; clear hK K
                  (with_reducible refine wl_k ?_ ?_); exact rfl; intro K hK; go_simp; refine hK _ ?_; clear hK K
                  go_upto_region 26 with (fail)
                  apply wp_region_lit
                  (with_reducible refine wl_k ?_ ?_); exact rfl; intro K hK; go_simp; refine hK _ ?_; clear hK K
                  (with_reducible refine wl_k ?_ ?_); exact rfl; intro K hK; go_simp; refine hK _ ?_; clear hK K
                  (with_reducible refine wl_k ?_ ?_); exact rfl; intro K hK; go_simp; refine hK _ ?_; clear hK K
                  (first | ((with_reducible refine wl_skipU ?_ ?_ ?_); exact rfl; exact rfl) | ((with_reducible refine wl_skip ?_ ?_); exact rfl; simp only [put_lit, List.set_cons_zero, List.set_cons_succ]))
                  (first | ((with_reducible refine wl_skipU ?_ ?_ ?_); exact rfl; exact rfl) | ((with_reducible refine wl_skip ?_ ?_); exact rfl; simp only [put_lit, List.set_cons_zero, List.set_cons_succ]))
                  (first | ((with_reducible refine wl_skipU ?_ ?_ ?_); exact rfl; exact rfl) | ((with_reducible refine wl_skip ?_ ?_); exact rfl; simp only [put_lit, List.set_cons_zero, List.set_cons_succ]))
                  (with_reducible refine wl_k ?_ ?_); exact rfl; intro K hK; go_simp; refine hK _ ?_; clear hK K
                  go_upto_region 27 with (fail)
                  apply wp_region_lit
                  (with_reducible refine wl_k ?_ ?_); exact rfl; intro K hK; go_simp; refine hK _ ?_; clear hK K
                  (with_reducible refine wl_put33 (u := 0) (k := 0) rfl rfl hp ?_); intro W6 hbx6 hkx6 hp6
                  replace hb := hbx6 _ _ (by omega) hb
                  (with_reducible refine wl_k ?_ ?_); exact rfl; intro K hK; go_simp; refine hK _ ?_; clear hK K
                  go_wp2_with fail
                  refine bodyPost_ret (res_decErr rfl _ _ p rfl hp6) rfl ⟨?_, hb⟩
                  exact HV.out
end Go.Proofs.YtclainfdeghgnaaGreatDoor
