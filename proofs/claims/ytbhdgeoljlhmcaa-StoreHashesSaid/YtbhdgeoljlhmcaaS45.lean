/- The law StoreHashes, walked. -/
import Derived.Test.YtbhdgeoljlhmcaaS44
import Derived.Test.YtbhdgeoljlhmcaaS37
import Derived.Outline
namespace Go.Proofs.Ytbhdgeoljlhmcaa
open Go.RowKit Go.Proofs.Ytbhdgeoljlhmcaa.Nm Go.Proofs.Ytbhdgeoljlhmcaa.St
set_option linter.unusedSimpArgs false
theorem bu_8 (n : Int) : Try.prog.built 39 [(0, .int .i64 8), (4, .int .i64 n)] = some (OpV.cells ⟨8, 0, 0, 0, n, ⟨#[]⟩⟩) := by kernel_rfl
theorem bu_9 (n : Int) (k : ByteArray) : Try.prog.built 39 [(0, .int .i64 9), (5, .string k), (4, .int .i64 n)] = some (OpV.cells ⟨9, 0, 0, 0, n, k⟩) := by kernel_rfl
theorem bu_10 (k : ByteArray) : Try.prog.built 39 [(0, .int .i64 10), (5, .string k)] = some (OpV.cells ⟨10, 0, 0, 0, 0, k⟩) := by kernel_rfl
theorem ex_min24 {ev : Operand → Value} {o : Oper} {w : World} (x : Operand) (ho : o.op = .call { callee := .builtin .min, args := #[x, .const (.int .i64 24)], argTypes := #[3, 3] }) {m : Nat} (hx : ev x = .int .i64 (m : Int)) (hc : ev (.const (.int .i64 24)) = .int .i64 24) :
    (execOp ev o).run Try.prog w = .ok (.value (.int .i64 ((min m 24 : Nat) : Int))) w := by
  have hm : (if (24 : Int) < (m : Int) then (24 : Int) else (m : Int)) = ((min m 24 : Nat) : Int) := by split <;> omega
  unfold execOp
  simp only [ho, resolve, invoke, builtin, Sem.run_bind, Sem.run_pure, Result.andThen_ok, List.map_toArray, List.map_cons, List.map_nil, hx, hc, run_min_int2, hm]
theorem ex_cutS {ev : Operand → Value} {o : Oper} {w : World} (x y : Operand) (ho : o.op = .slice 9 x none (some y) none) {k : ByteArray} {m : Nat} (hm : m ≤ k.size) (hx : ev x = .string k) (hy : ev y = .int .i64 (m : Int)) :
    (execOp ev o).run Try.prog w = .ok (.value (.string (k.extract 0 m))) w := by
  have h := run_slice_string_h (P := Try.prog) (w := w) (t := 9) (s := k) u9 .i64 (m : Int) (by omega) (by omega)
  unfold execOp
  simp [ho, hx, hy, run_sliceAt_string (P := Try.prog) w 9 _ _ _ _ u9, h, Result.andThen]
set_option maxHeartbeats 4000000 in
set_option maxRecDepth 100000 in
theorem StoreHashes_any (key : ByteArray) (seed : Int) (A : Option Addr) (n c : Nat) (l : List ByteArray) (w : World) (h : StrAt w A n c l) :
    Calls Try.prog 8 #[.string key, .int .i64 seed, .slice A n c] w fun e w' => e = .returned (.bool true) ∧ Below w.heap.size w w' := by
  have HO := Lib.hid h
  clear h
  go_enter Try.func8, Try.ntmps8
  by_cases hk : key.size ≤ 2000
  · have hkI : ¬ (2000 : Int) < (key.size : Int) := by omega
    have hd : decide ((2000 : Int) < (key.size : Int)) = false := by simpa using hkI
    go_upto_region 1 with (fail)
    apply wp_region_lit
    refine wl_k rfl (fun K hK => ?_); go_simp; refine hK _ ?_; clear hK K
    refine wl_k rfl (fun K hK => ?_); go_simp; refine hK _ ?_; clear hK K
    refine wl_k rfl (fun K hK => ?_); go_simp; refine hK _ ?_; clear hK K
    refine wl_k rfl (fun K hK => ?_); go_simp; refine hK _ ?_; clear hK K
    refine wl_k rfl (fun K hK => ?_); go_simp; refine hK _ ?_; clear hK K
    refine wl_ck rfl (fun K hK => ?_); go_simp; refine ⟨_, _, ⟨rfl, rfl⟩, hK _ _ ⟨_, long_any A n c l _ HO.out, ?_⟩⟩; clear hK K; rintro e w1 ⟨q1, rfl, hle1, hbw⟩; refine ⟨_, rfl, ?_⟩; simp only [put_lit, List.set_cons_zero, List.set_cons_succ]
    cases q1 with
    | true =>
      clear hle1
      go_wp2_with fail
      go_ret
      exact ⟨rfl, hbw⟩
    | false =>
      have hn1 := hle1 rfl
      clear hle1
      by_cases hn60 : n ≤ 60
      · have hnI : ¬ (60 : Int) < (n : Int) := by omega
        have hd2 : decide ((60 : Int) < (n : Int)) = false := by simpa using hnI
        refine wl_k rfl (fun K hK => ?_); go_simp; refine hK _ ?_; clear hK K
        go_upto_region 3 with (fail)
        apply wp_region_lit
        refine wl_k rfl (fun K hK => ?_); go_simp; refine hK _ ?_; clear hK K
        refine wl_k rfl (fun K hK => ?_); go_simp; refine hK _ ?_; clear hK K
        refine wl_ck rfl (fun K hK => ?_); go_simp; refine ⟨_, _, ⟨rfl, rfl⟩, hK _ _ ⟨_, Hash_any key (by omega) seed _, ?_⟩⟩; clear hK K; rintro e w2 ⟨rfl, rfl⟩; refine ⟨_, rfl, ?_⟩; simp only [put_lit, List.set_cons_zero, List.set_cons_succ]
        refine wl_k rfl (fun K hK => ?_); go_simp; refine hK _ ?_; clear hK K
        refine wl_k rfl (fun K hK => ?_); go_simp; refine hK _ ?_; clear hK K
        refine wl_ck rfl (fun K hK => ?_); go_simp; refine ⟨_, _, ⟨rfl, rfl⟩, hK _ _ ⟨_, HashI_any key (by omega) seed _, ?_⟩⟩; clear hK K; rintro e w2 ⟨rfl, rfl⟩; refine ⟨_, rfl, ?_⟩; simp only [put_lit, List.set_cons_zero, List.set_cons_succ]
        obtain ⟨HV, hHV⟩ : ∃ HV, HV = ((hashN key.data.toList seed : Nat) : Int) := ⟨_, rfl⟩
        rw [← hHV]
        clear hHV
        go_upto_region 5 with (fail)
        apply wp_region_lit
        refine wl_ck rfl (fun K hK => ?_); go_simp; refine ⟨_, _, ⟨rfl, rfl⟩, hK _ _ ⟨_, New_any w1, ?_⟩⟩; clear hK K; rintro e w3 ⟨rfl, hst, hb2⟩; refine ⟨_, rfl, ?_⟩; simp only [put_lit, List.set_cons_zero, List.set_cons_succ]
        obtain ⟨s, hs⟩ : ∃ s, s = (w1).heap.size := ⟨_, rfl⟩
        have HS := Lib.hid hst
        have HSI0 := Lib.hid (since_new w1)
        have hz1 := hbw.size
        rw [← hs] at HS ⊢
        have HSI : Hid (Since w.heap.size s []) := Lib.hid (fun q hq => by have := HSI0.out q (by rw [← hs]; exact hq); omega)
        replace hbw := hbw.trans (hb2.mono hz1)
        clear hst hs hb2 hz1 HSI0
        go_upto_region 6 with (fail)
        apply wp_region_lit
        refine wl_k rfl (fun K hK => ?_); go_simp; refine hK _ ?_; clear hK K
        refine wl_k rfl (fun K hK => ?_); go_simp; refine hK _ ?_; clear hK K
        refine wl_k rfl (fun K hK => ?_); go_simp; refine hK _ ?_; clear hK K
        refine wl_k rfl (fun K hK => ?_); go_simp; refine hK _ ?_; clear hK K
        refine wl_k rfl (fun K hK => ?_); go_simp; refine hK _ ?_; clear hK K
        refine wl_k rfl (fun K hK => ?_); go_simp; refine hK _ ?_; clear hK K
        refine wl_k rfl (fun K hK => ?_); go_simp; refine hK _ ?_; clear hK K
        refine wl_k rfl (fun K hK => ?_); go_simp; refine hK _ ?_; clear hK K
        have hN : 0 ≤ IntKind.i64.wrap ((IntKind.u64.wrap seed).tmod 2147483648) ∧ IntKind.i64.wrap ((IntKind.u64.wrap seed).tmod 2147483648) ≤ 2147483647 := by
          have h0 : 0 ≤ IntKind.u64.wrap seed := by unfold IntKind.wrap; simp only [IntKind.signed, IntKind.bits]; exact Int.emod_nonneg _ (by decide)
          have h1 := Int.emod_nonneg (IntKind.u64.wrap seed) (show (2147483648 : Int) ≠ 0 by decide)
          have h2 := Int.emod_lt_of_pos (IntKind.u64.wrap seed) (show (0 : Int) < 2147483648 by decide)
          rw [Int.tmod_eq_emod_of_nonneg h0, wrap_small _ (by omega) (by omega)]
          omega
        obtain ⟨N, hNN⟩ : ∃ N, N = IntKind.i64.wrap ((IntKind.u64.wrap seed).tmod 2147483648) := ⟨_, rfl⟩
        rw [← hNN] at hN ⊢
        clear hNN
        obtain ⟨hN0, hN1⟩ := hN
        obtain ⟨M, hM⟩ : ∃ M : Nat, M = min key.size 24 := ⟨_, rfl⟩
        obtain ⟨KY, hK⟩ : ∃ KY, KY = key.extract 0 M := ⟨_, rfl⟩
        have hKs : KY.size ≤ 24 := by rw [hK, ByteArray.size_extract]; omega
        have HD := Lib.hid (dic_start (n := seed) hN0 hN1 hKs)
        refine wl_valH (by kernel_rfl) (ex_build 39 _ rfl (L := [(0, .int .i64 8), (4, .int .i64 N)]) rfl (bu_8 N)) ?_
        simp only [put_lit, List.set_cons_zero, List.set_cons_succ]
        have hz6 := hbw.size
        refine wl_ck rfl (fun K hK => ?_); go_simp; refine ⟨_, _, ⟨rfl, rfl⟩, hK _ _ ⟨_, Do_any s newA [] good_new0 (by decide) (by decide) (by decide) ⟨8, 0, 0, 0, N, ⟨#[]⟩⟩ _ HS.out, ?_⟩⟩; clear hK K; rintro e w4 ⟨rfl, rs1, hst2, hran⟩; refine ⟨_, rfl, ?_⟩; simp only [put_lit, List.set_cons_zero, List.set_cons_succ]
        rw [HD.out.1]
        replace HS := Lib.hid hst2
        replace hbw := hbw.trans (hran.toBelow HSI.out hbw.size)
        replace HSI := Lib.hid (HSI.out.ran hran hz6)
        clear hst2 hran hz6
        have HM := Lib.hid (doA_made (A := newA) (m := 0) ⟨Nat.le_refl _, Int.le_refl _, Int.le_refl _⟩ ⟨8, 0, 0, 0, N, ⟨#[]⟩⟩)
        obtain ⟨A1, hA1⟩ : ∃ A1, A1 = doA newA ⟨8, 0, 0, 0, N, ⟨#[]⟩⟩ := ⟨_, rfl⟩
        rw [← hA1] at HS HD HM
        clear hA1
        go_upto_region 8 with (fail)
        apply wp_region_lit
        refine wl_k rfl (fun K hK => ?_); go_simp; refine hK _ ?_; clear hK K
        refine wl_k rfl (fun K hK => ?_); go_simp; refine hK _ ?_; clear hK K
        refine wl_k rfl (fun K hK => ?_); go_simp; refine hK _ ?_; clear hK K
        refine wl_valH (by kernel_rfl) (ex_min24 _ rfl rfl rfl) ?_
        simp only [put_lit, List.set_cons_zero, List.set_cons_succ]
        rw [← hM]
        refine wl_valH (by kernel_rfl) (ex_cutS (m := M) _ _ rfl (by omega) rfl rfl) ?_
        simp only [put_lit, List.set_cons_zero, List.set_cons_succ]
        rw [← hK]
        clear hM hK
        refine wl_k rfl (fun K hK => ?_); go_simp; refine hK _ ?_; clear hK K
        go_upto_region 9 with (fail)
        apply wp_region_lit
        refine wl_k rfl (fun K hK => ?_); go_simp; refine hK _ ?_; clear hK K
        refine wl_k rfl (fun K hK => ?_); go_simp; refine hK _ ?_; clear hK K
        refine wl_k rfl (fun K hK => ?_); go_simp; refine hK _ ?_; clear hK K
        refine wl_valH (by kernel_rfl) (ex_build 39 _ rfl (L := [(0, .int .i64 9), (5, .string KY), (4, .int .i64 seed)]) rfl (bu_9 seed KY)) ?_
        simp only [put_lit, List.set_cons_zero, List.set_cons_succ]
        have hz6 := hbw.size
        refine wl_ck rfl (fun K hK => ?_); go_simp; refine ⟨_, _, ⟨rfl, rfl⟩, hK _ _ ⟨_, Do_any s A1 rs1 HD.out.2.1 (by have := HM.out.1; omega) (HM.out.2.1) (by have := HM.out.2.2; omega) ⟨9, 0, 0, 0, seed, KY⟩ _ HS.out, ?_⟩⟩; clear hK K; rintro e w5 ⟨rfl, rs2, hst2, hran⟩; refine ⟨_, rfl, ?_⟩; simp only [put_lit, List.set_cons_zero, List.set_cons_succ]
        rw [HD.out.2.2.1]
        replace HS := Lib.hid hst2
        replace hbw := hbw.trans (hran.toBelow HSI.out hbw.size)
        replace HSI := Lib.hid (HSI.out.ran hran hz6)
        clear hst2 hran hz6
        have HDI := Lib.hid HD.out.2.2.2
        obtain ⟨A0, hA0⟩ : ∃ A0, A0 = doA A1 ⟨9, 0, 0, 0, seed, KY⟩ := ⟨_, rfl⟩
        rw [← hA0] at HS HDI
        clear hA0 HD HM
        go_wp2_with fail
        go_loopw [9] (fun i wr => ∃ (j m : Nat) (rs : List Row) (X : Sto), j ≤ n ∧ i = .int .i64 (j : Int) ∧ m ≤ 2 + 2 * j ∧ Hid (StoreAt wr s X rs) ∧ Hid (Since w.heap.size s rs) ∧ Hid (Dic X KY seed (1 + j) m) ∧ Below w.heap.size w wr) (fun i _ => n - (intOf i).toNat)
        case atStart => exact ⟨0, 2, rs2, A0, by omega, rfl, by omega, HS, HSI, HDI, hbw⟩
        case round =>
          clear HS HSI HDI hbw
          obtain ⟨j, m, rs3, X, hj, rfl, hm, HS, HSI, HDI, hbw⟩ := hrel
          by_cases hlt : j < n
          · have hltI : (j : Int) < (n : Int) := by omega
            obtain ⟨o, ho⟩ : ∃ o, l[j]? = some o := ⟨_, List.getElem?_eq_getElem (by rw [HO.out.1]; exact hlt)⟩
            obtain ⟨ad, rfl, hca⟩ := HO.out.cell ho
            have hkey := below_cell hbw hca
            have hos := hn1.2 o (List.mem_of_getElem? ho)
            clear ho hca
            by_cases h24 : o.size ≤ 24
            · have h24I : ¬ (24 : Int) < (o.size : Int) := by omega
              have hd24 : decide ((24 : Int) < (o.size : Int)) = false := by simpa using h24I
              by_cases hoK : o = KY
              · subst hoK
                have hdK : (o.toList == o.toList) = true := by simp
                go_wp2_with fail
                go_roundw
                case rel => exact ⟨j + 1, m, rs3, X, by omega, by go_num, by omega, HS, HSI, Lib.hid (HDI.out.more (by omega)), hbw⟩
                case measure => simp [intOf]; omega
              · have hdK : (o.toList == KY.toList) = false := by rw [ba_beq]; simpa using hoK
                have HST := Lib.hid (HDI.out.set (by omega) hoK h24 (j : Int))
                have HMD := Lib.hid HDI.out.made
                have HGD := Lib.hid HDI.out.good
                go_upto_region 16 with (fail)
                apply wp_region_lit
                refine wl_k rfl (fun K hK => ?_); go_simp; refine hK _ ?_; clear hK K
                refine wl_k rfl (fun K hK => ?_); go_simp; refine hK _ ?_; clear hK K
                refine wl_k rfl (fun K hK => ?_); go_simp; refine hK _ ?_; clear hK K
                refine wl_valH (by kernel_rfl) (ex_build 39 _ rfl (L := [(0, .int .i64 9), (5, .string o), (4, .int .i64 (j : Int))]) rfl (bu_9 (j : Int) o)) ?_
                simp only [put_lit, List.set_cons_zero, List.set_cons_succ]
                have hz6 := hbw.size
                refine wl_ck rfl (fun K hK => ?_); go_simp; refine ⟨_, _, ⟨rfl, rfl⟩, hK _ _ ⟨_, Do_any s X rs3 HGD.out (by have := HMD.out.1; omega) (HMD.out.2.1) (by have := HMD.out.2.2; omega) ⟨9, 0, 0, 0, (j : Int), o⟩ _ HS.out, ?_⟩⟩; clear hK K; rintro e w6 ⟨rfl, rs4, hst2, hran⟩; refine ⟨_, rfl, ?_⟩; simp only [put_lit, List.set_cons_zero, List.set_cons_succ]
                rw [HST.out.1]
                replace HS := Lib.hid hst2
                replace hbw := hbw.trans (hran.toBelow HSI.out hbw.size)
                replace HSI := Lib.hid (HSI.out.ran hran hz6)
                clear hst2 hran hz6
                obtain ⟨X1, hX1⟩ : ∃ X1, X1 = doA X ⟨9, 0, 0, 0, (j : Int), o⟩ := ⟨_, rfl⟩
                have HDX := Lib.hid HST.out.2
                rw [← hX1] at HS HDX
                clear hX1 HST HMD HGD HDI
                have ht3 : Int.tmod (j : Int) 3 = ((j % 3 : Nat) : Int) := rfl
                by_cases h3 : j % 3 = 2
                · have HDL := Lib.hid (HDX.out.1.del hoK h24 HDX.out.2)
                  have HMD := Lib.hid HDX.out.1.made
                  have HGD := Lib.hid HDX.out.1.good
                  have hd3 : (((j % 3 : Nat) : Int) == 2) = true := by simp; omega
                  go_upto_region 18 with (fail)
                  apply wp_region_lit
                  refine wl_k rfl (fun K hK => ?_); go_simp; refine hK _ ?_; clear hK K
                  refine wl_k rfl (fun K hK => ?_); go_simp; refine hK _ ?_; clear hK K
                  try rw [ht3]
                  refine wl_k rfl (fun K hK => ?_); go_simp; refine hK _ ?_; clear hK K
                  refine wl_k rfl (fun K hK => ?_); go_simp; refine hK _ ?_; clear hK K
                  refine wl_k rfl (fun K hK => ?_); go_simp; refine hK _ ?_; clear hK K
                  refine wl_k rfl (fun K hK => ?_); go_simp; refine hK _ ?_; clear hK K
                  refine wl_valH (by kernel_rfl) (ex_build 39 _ rfl (L := [(0, .int .i64 10), (5, .string o)]) rfl (bu_10 o)) ?_
                  simp only [put_lit, List.set_cons_zero, List.set_cons_succ]
                  have hz6 := hbw.size
                  refine wl_ck rfl (fun K hK => ?_); go_simp; refine ⟨_, _, ⟨rfl, rfl⟩, hK _ _ ⟨_, Do_any s X1 rs4 HGD.out (by have := HMD.out.1; omega) (HMD.out.2.1) (by have := HMD.out.2.2; omega) ⟨10, 0, 0, 0, 0, o⟩ _ HS.out, ?_⟩⟩; clear hK K; rintro e w7 ⟨rfl, rs5, hst2, hran⟩; refine ⟨_, rfl, ?_⟩; simp only [put_lit, List.set_cons_zero, List.set_cons_succ]
                  rw [HDL.out.1]
                  replace HS := Lib.hid hst2
                  replace hbw := hbw.trans (hran.toBelow HSI.out hbw.size)
                  replace HSI := Lib.hid (HSI.out.ran hran hz6)
                  clear hst2 hran hz6
                  have HDN := Lib.hid (HDL.out.2.more (show 1 + j + 1 ≤ 1 + (j + 1) by omega))
                  clear HDL HMD HGD
                  go_wp2_with fail
                  go_roundw
                  case rel => exact ⟨j + 1, _, rs5, _, by omega, by go_num, by omega, HS, HSI, HDN, hbw⟩
                  case measure => simp [intOf]; omega
                · have hd3 : (((j % 3 : Nat) : Int) == 2) = false := by simp; omega
                  have HDN := Lib.hid (HDX.out.1.more (show 1 + j + 1 ≤ 1 + (j + 1) by omega))
                  go_upto_region 18 with (fail)
                  apply wp_region_lit
                  refine wl_k rfl (fun K hK => ?_); go_simp; refine hK _ ?_; clear hK K
                  refine wl_k rfl (fun K hK => ?_); go_simp; refine hK _ ?_; clear hK K
                  try rw [ht3]
                  go_wp2_with fail
                  go_roundw
                  case rel => exact ⟨j + 1, _, rs4, _, by omega, by go_num, by omega, HS, HSI, HDN, hbw⟩
                  case measure => simp [intOf]; omega
            · have h24I : (24 : Int) < (o.size : Int) := by omega
              have hd24 : decide ((24 : Int) < (o.size : Int)) = true := by simpa using h24I
              go_wp2_with fail
              go_roundw
              case rel => exact ⟨j + 1, m, rs3, X, by omega, by go_num, by omega, HS, HSI, Lib.hid (HDI.out.more (by omega)), hbw⟩
              case measure => simp [intOf]; omega
          · obtain rfl : j = n := by omega
            have HGT := Lib.hid HDI.out.get
            have HGD := Lib.hid HDI.out.good
            go_upto_region 20 with (fail)
            apply wp_region_lit
            refine wl_k rfl (fun K hK => ?_); go_simp; refine hK _ ?_; clear hK K
            refine wl_k rfl (fun K hK => ?_); go_simp; refine hK _ ?_; clear hK K
            have HGY := Lib.hid (Get_yes s X rs3 HGD.out 0 (by decide) KY (by omega) _ HS.out)
            rw [show ((0 : Nat) : Int) = 0 from rfl, HGT.out] at HGY
            refine wl_ck rfl (fun K hK => ?_); go_simp; refine ⟨_, _, ⟨rfl, rfl⟩, hK _ _ ⟨_, HGY.out, ?_⟩⟩; clear hK K; rintro e w8 ⟨rfl, hb1⟩; refine ⟨_, rfl, ?_⟩; simp only [put_lit, List.set_cons_zero, List.set_cons_succ]
            replace hbw := hbw.trans (hb1.mono hbw.size)
            clear hb1 HGY HGT HGD HDI
            have hds : (seed == seed) = true := by simp
            go_upto_region 21 with (fail)
            apply wp_region_lit
            refine wl_k rfl (fun K hK => ?_); go_simp; refine hK _ ?_; clear hK K
            refine wl_k rfl (fun K hK => ?_); go_simp; refine hK _ ?_; clear hK K
            refine wl_k rfl (fun K hK => ?_); go_simp; refine hK _ ?_; clear hK K
            refine wl_k rfl (fun K hK => ?_); go_simp; refine hK _ ?_; clear hK K
            refine wl_k rfl (fun K hK => ?_); go_simp; refine hK _ ?_; clear hK K
            refine wl_k rfl (fun K hK => ?_); go_simp; refine hK _ ?_; clear hK K
            refine wl_k rfl (fun K hK => ?_); go_simp; refine hK _ ?_; clear hK K
            refine wl_k rfl (fun K hK => ?_); go_simp; refine hK _ ?_; clear hK K
            refine wl_ck rfl (fun K hK => ?_); go_simp; refine ⟨_, _, ⟨rfl, rfl⟩, hK _ _ ⟨_, awake_any _, ?_⟩⟩; clear hK K; rintro e w9 ⟨rfl, hb1⟩; refine ⟨_, rfl, ?_⟩; simp only [put_lit, List.set_cons_zero, List.set_cons_succ]
            replace hbw := hbw.trans (hb1.mono hbw.size)
            clear hb1
            go_wp2_with fail
            go_ret
            exact ⟨rfl, hbw⟩
      · have hnI : (60 : Int) < (n : Int) := by omega
        have hd2 : decide ((60 : Int) < (n : Int)) = true := by simpa using hnI
        go_wp2_with fail
        go_ret
        exact ⟨rfl, hbw⟩
  · have hkI : (2000 : Int) < (key.size : Int) := by omega
    have hd : decide ((2000 : Int) < (key.size : Int)) = true := by simpa using hkI
    go_upto_region 1 with (fail)
    apply wp_region_lit
    go_wp2_with fail
    go_ret
    exact ⟨rfl, Below.refl _ _⟩
end Go.Proofs.Ytbhdgeoljlhmcaa
