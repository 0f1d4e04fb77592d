/- The law StoreCounts, walked. -/
import Derived.Test.YtbhdgeoljlhmcaaS36
import Derived.Outline
namespace Go.Proofs.Ytbhdgeoljlhmcaa
open Go.RowKit Go.Proofs.Ytbhdgeoljlhmcaa.Nm Go.Proofs.Ytbhdgeoljlhmcaa.St
set_option linter.unusedSimpArgs false
theorem OpsAt.kindc {w : World} {b off n : Nat} {l : List OpV} (h : OpsAt w (some ⟨b, off, none⟩) n l) {i : Nat} {o : OpV} (hi : l[i]? = some o) : w.cell? ⟨b, off + i * 6, none⟩ = some (.int .i64 o.kind) := by
  obtain ⟨b', off', Cs, t, fr, h1, h2, h3⟩ := h.2 i o hi
  cases h1
  have h4 : (Cs.extract (off + i * 6) (off + i * 6 + 6))[0]? = some (.int .i64 o.kind) := by rw [h3]; rfl
  rw [Array.getElem?_extract] at h4
  split at h4
  · unfold World.cell?
    rw [h2]
    simpa using h4
  · cases h4
theorem since_new (w : World) : Since w.heap.size w.heap.size [] := fun q hq => by
  rcases hq with rfl | ⟨k, r, hr, _⟩
  · exact Nat.le_refl _
  · simp at hr
theorem apart_new : Apart newA := fun i j k h => by
  have := List.mem_of_getElem? h
  simp [newA] at this
set_option maxHeartbeats 4000000 in
set_option maxRecDepth 100000 in
theorem StoreCounts_any (A : Option Addr) (n c : Nat) (l : List OpV) (w : World) (h : OpsAt w A n l) :
    Calls Try.prog 6 #[.slice A n c] w fun e w' => e = .returned (.bool true) ∧ Below w.heap.size w w' := by
  have HO := Lib.hid h
  clear h
  go_enter Try.func6, Try.ntmps6
  go_upto_region 1 with (fail)
  apply wp_region_lit
  refine wl_k rfl (fun K hK => ?_); go_simp; refine hK _ ?_; clear hK K
  refine wl_ck rfl (fun K hK => ?_); go_simp; refine ⟨_, _, ⟨rfl, rfl⟩, hK _ _ ⟨_, heavy_any A n c l _ HO.out, ?_⟩⟩; clear hK K; rintro e w1 ⟨b, rfl, hle, hb1⟩; refine ⟨_, rfl, ?_⟩; simp only [put_lit, List.set_cons_zero, List.set_cons_succ]
  cases b with
  | true =>
    clear hle
    go_wp2_with fail
    go_ret
    exact ⟨rfl, hb1⟩
  | false =>
    have hn := hle rfl
    clear hle
    go_upto_region 3 with (fail)
    apply wp_region_lit
    refine wl_ck rfl (fun K hK => ?_); go_simp; refine ⟨_, _, ⟨rfl, rfl⟩, hK _ _ ⟨_, New_any w1, ?_⟩⟩; clear hK K; rintro e w2 ⟨rfl, hst, hb2⟩; refine ⟨_, rfl, ?_⟩; simp only [put_lit, List.set_cons_zero, List.set_cons_succ]
    obtain ⟨s, hs⟩ : ∃ s, s = w1.heap.size := ⟨_, rfl⟩
    have HS := Lib.hid hst
    have HSI := Lib.hid (since_new w1)
    have hz1 := hb1.size
    rw [← hs] at HS ⊢
    have HSI : Hid (Since w.heap.size s []) := Lib.hid (fun q hq => by have := HSI.out q (by rw [← hs]; exact hq); omega)
    have hb2' := hb1.trans (hb2.mono hz1)
    have HAP : Hid (0 = (0 : Int) → Apart newA ∧ newA.shared = 0) := Lib.hid (fun _ => ⟨apart_new, rfl⟩)
    clear hst hs hb1 hb2 hz1
    go_wp2_with fail
    go_loopw [4, 5] (fun cv i wr => ∃ (j : Nat) (cp : Nat) (rs : List Row), j ≤ n ∧ cp ≤ j ∧ i = .int .i64 (j : Int) ∧ cv = .int .i64 (cp : Int) ∧ Hid (StoreAt wr s (stA l j) rs) ∧ Hid (Since w.heap.size s rs) ∧ Hid (cp = 0 → Apart (stA l j) ∧ (stA l j).shared = 0) ∧ Below w.heap.size w wr) (fun _ i _ => n - (intOf i).toNat)
    case atStart => exact ⟨0, 0, [], by omega, by omega, rfl, rfl, HS, HSI, Lib.hid (fun _ => ⟨apart_new, rfl⟩), hb2'⟩
    case round =>
      clear HS HSI HAP hb2'
      obtain ⟨j, cp, rs, hj, hcp, rfl, rfl, HS, HSI, HAP, hbw⟩ := hrel
      by_cases hlt : j < n
      · have hltI : (j : Int) < (n : Int) := by omega
        obtain ⟨b, off, rfl⟩ := HO.out.addr hlt
        obtain ⟨o, ho⟩ : ∃ o, l[j]? = some o := ⟨_, List.getElem?_eq_getElem (by rw [HO.out.1]; exact hlt)⟩
        have HOJ := Lib.hid ho
        have HST := Lib.hid (stA_step HOJ.out (show j < 200 by omega))
        have hbd := stA_bound l j
        have hbd2 := stA_bound l (j + 1)
        have HG := Lib.hid (stA_good l j)
        clear ho
        go_upto_region 10 with (fail)
        apply wp_region_lit
        refine wl_k rfl (fun K hK => ?_); go_simp; refine hK _ ?_; clear hK K
        refine wl_ck rfl (fun K hK => ?_); go_simp; refine ⟨_, _, ⟨rfl, rfl⟩, hK _ _ ⟨_, Buffers_any s (stA l j) rs HG.out _ HS.out, ?_⟩⟩; clear hK K; rintro e w3 ⟨rfl, hb3⟩; refine ⟨_, rfl, ?_⟩; simp only [put_lit, List.set_cons_zero, List.set_cons_succ]
        replace HS := Lib.hid (HS.out.below hb3)
        replace hbw := hbw.trans (hb3.mono hbw.size)
        clear hb3
        refine wl_k rfl (fun K hK => ?_); go_simp; refine hK _ ?_; clear hK K
        refine wl_ck rfl (fun K hK => ?_); go_simp; refine ⟨_, _, ⟨rfl, rfl⟩, hK _ _ ⟨_, Shared_any s (stA l j) rs HG.out _ HS.out, ?_⟩⟩; clear hK K; rintro e w4 ⟨rfl, hb3⟩; refine ⟨_, rfl, ?_⟩; simp only [put_lit, List.set_cons_zero, List.set_cons_succ]
        replace HS := Lib.hid (HS.out.below hb3)
        replace hbw := hbw.trans (hb3.mono hbw.size)
        clear hb3
        refine wl_k rfl (fun K hK => ?_); go_simp; refine hK _ ?_; clear hK K
        refine wl_k rfl (fun K hK => ?_); go_simp; refine hK _ ?_; clear hK K
        go_upto_region 11 with (fail)
        apply wp_region_lit
        refine wl_k rfl (fun K hK => ?_); go_simp; refine hK _ ?_; clear hK K
        refine wl_k rfl (fun K hK => ?_); go_simp; refine hK _ ?_; clear hK K
        refine wl_k rfl (fun K hK => ?_); go_simp; refine hK _ ?_; clear hK K
        refine wl_k rfl (fun K hK => ?_); go_simp; refine hK _ ?_; clear hK K
        ((with_reducible apply wl_rowG); exact rfl; exact rfl; exact (HO.out.below hbw).row HOJ.out)
        simp only [put_lit, List.set_cons_zero, List.set_cons_succ]
        have hz6 := hbw.size
        refine wl_ck rfl (fun K hK => ?_); go_simp; refine ⟨_, _, ⟨rfl, rfl⟩, hK _ _ ⟨_, Do_any s (stA l j) rs (stA_good l j) (by omega) hbd.2.1 (by omega) o _ HS.out, ?_⟩⟩; clear hK K; rintro e w7 ⟨rfl, rs2, hst2, hran⟩; refine ⟨_, rfl, ?_⟩; simp only [put_lit, List.set_cons_zero, List.set_cons_succ]
        rw [← HST.out.2]
        rw [← HST.out.1] at hst2
        replace HS := Lib.hid hst2
        replace hbw := hbw.trans (hran.toBelow HSI.out hbw.size)
        replace HSI := Lib.hid (HSI.out.ran hran hz6)
        clear hst2 hran hz6
        refine wl_k rfl (fun K hK => ?_); go_simp; refine hK _ ?_; clear hK K
        have HCT := Lib.hid (do_counts (stA l j) o)
        rw [← HST.out.1, ← HST.out.2] at HCT
        have HAS := Lib.hid (fun h2 => apart_do (stA_good l j) (HAP.out h2).1 o)
        rw [← HST.out.1, ← HST.out.2] at HAS
        have HG2 := Lib.hid (stA_good l (j + 1))
        have k0 := (HO.out.below hbw).kindc HOJ.out
        obtain ⟨E, hE⟩ : ∃ E, E = errA l j := ⟨_, rfl⟩
        rw [← hE] at HCT HAS ⊢
        have HBU := Lib.hid (Buffers_any s (stA l (j + 1)) rs2 HG2.out)
        have HSH := Lib.hid (Shared_any s (stA l (j + 1)) rs2 HG2.out)
        obtain ⟨M0, hM0⟩ : ∃ M0, M0 = (stA l j).bufs.length := ⟨_, rfl⟩
        obtain ⟨T0, hT0⟩ : ∃ T0, T0 = (stA l j).shared := ⟨_, rfl⟩
        obtain ⟨M1, hM1⟩ : ∃ M1, M1 = (stA l (j + 1)).bufs.length := ⟨_, rfl⟩
        obtain ⟨T1, hT1⟩ : ∃ T1, T1 = (stA l (j + 1)).shared := ⟨_, rfl⟩
        rw [← hM0, ← hT0] at HCT ⊢
        rw [← hM1, ← hT1] at HCT
        rw [← hM1] at HBU
        rw [← hT1] at HSH
        rw [← hM0, ← hT0] at hbd
        rw [← hM1, ← hT1] at hbd2
        clear hE hM0 hT0 hM1 hT1
        by_cases hk2 : o.kind = 2
        · rw [hk2] at k0
          by_cases hE0 : E = 0
          · have hd : (E == 0) = true := by simpa using hE0
            clear HAS
            go_upto_region 14 with (fail)
            rw [show (cp : Int) + 1 = ((cp + 1 : Nat) : Int) by omega]
            have hcp' : cp + 1 ≤ j + 1 := by omega
            have HAP' : Hid (cp + 1 = 0 → Apart (stA l (j + 1)) ∧ (stA l (j + 1)).shared = 0) := Lib.hid (fun h => absurd h (by omega))
            apply wp_region_lit
            refine wl_k rfl (fun K hK => ?_); go_simp; refine hK _ ?_; clear hK K
            refine wl_ck rfl (fun K hK => ?_); go_simp; refine ⟨_, _, ⟨rfl, rfl⟩, hK _ _ ⟨_, HBU.out _ HS.out, ?_⟩⟩; clear hK K; rintro e w8 ⟨rfl, hb3⟩; refine ⟨_, rfl, ?_⟩; simp only [put_lit, List.set_cons_zero, List.set_cons_succ]
            replace HS := Lib.hid (HS.out.below hb3)
            replace hbw := hbw.trans (hb3.mono hbw.size)
            clear hb3 k0
            refine wl_k rfl (fun K hK => ?_); go_simp; refine hK _ ?_; clear hK K
            refine wl_k rfl (fun K hK => ?_); go_simp; refine hK _ ?_; clear hK K
            refine wl_k rfl (fun K hK => ?_); go_simp; refine hK _ ?_; clear hK K
            refine wl_ck rfl (fun K hK => ?_); go_simp; refine ⟨_, _, ⟨rfl, rfl⟩, hK _ _ ⟨_, HSH.out _ HS.out, ?_⟩⟩; clear hK K; rintro e w9 ⟨rfl, hb3⟩; refine ⟨_, rfl, ?_⟩; simp only [put_lit, List.set_cons_zero, List.set_cons_succ]
            replace HS := Lib.hid (HS.out.below hb3)
            replace hbw := hbw.trans (hb3.mono hbw.size)
            clear hb3
            refine wl_k rfl (fun K hK => ?_); go_simp; refine hK _ ?_; clear hK K
            rcases HCT.out with ⟨hM, hT⟩ | ⟨hE1, hM, hT | ⟨hT, _⟩⟩
            · have h1 : IntKind.i64.wrap ((M1 : Int) - (M0 : Int)) = 0 := by rw [wrap_small _ (by omega) (by omega)]; omega
              have h2 : IntKind.i64.wrap (T1 - T0) = 0 := by rw [wrap_small _ (by omega) (by omega)]; omega
              refine wl_k rfl (fun K hK => ?_); go_simp; refine hK _ ?_; clear hK K
              try rw [h1]
              try rw [h2]
              clear HCT hM hT h1 h2
              by_cases hE9 : E = 0
              · have hd9 : (E == 0) = true := by simpa using hE9
                go_wp2_with fail
                go_roundw
                case rel => exact ⟨j + 1, (cp + 1), rs2, by omega, hcp', by go_num, rfl, HS, HSI, HAP', hbw⟩
                case measure => simp [intOf]; omega
              · exact absurd hE0 hE9
            · have h1 : IntKind.i64.wrap ((M1 : Int) - (M0 : Int)) = 1 := by rw [wrap_small _ (by omega) (by omega)]; omega
              have h2 : IntKind.i64.wrap (T1 - T0) = 0 := by rw [wrap_small _ (by omega) (by omega)]; omega
              refine wl_k rfl (fun K hK => ?_); go_simp; refine hK _ ?_; clear hK K
              try rw [h1]
              try rw [h2]
              clear HCT hM hT h1 h2
              (have hd9 : (E == 0) = true := by simpa using hE1); (go_wp2_with fail); go_roundw; (case rel => exact ⟨j + 1, (cp + 1), rs2, by omega, hcp', by go_num, rfl, HS, HSI, HAP', hbw⟩); (case measure => (simp [intOf]; omega))
            · have h1 : IntKind.i64.wrap ((M1 : Int) - (M0 : Int)) = 1 := by rw [wrap_small _ (by omega) (by omega)]; omega
              have h2 : IntKind.i64.wrap (T1 - T0) = 1 := by rw [wrap_small _ (by omega) (by omega)]; omega
              refine wl_k rfl (fun K hK => ?_); go_simp; refine hK _ ?_; clear hK K
              try rw [h1]
              try rw [h2]
              clear HCT hM hT h1 h2
              (have hd9 : (E == 0) = true := by simpa using hE1); (go_wp2_with fail); go_roundw; (case rel => exact ⟨j + 1, (cp + 1), rs2, by omega, hcp', by go_num, rfl, HS, HSI, HAP', hbw⟩); (case measure => (simp [intOf]; omega))
          · have hd : (E == 0) = false := by simpa using hE0
            have HAP' : Hid (cp = 0 → Apart (stA l (j + 1)) ∧ (stA l (j + 1)).shared = 0) := Lib.hid (fun h2 => by
              obtain ⟨a1, a2⟩ := HAS.out h2 (fun h => absurd h hE0)
              exact ⟨a1, by rw [a2]; exact (HAP.out h2).2⟩)
            have hcp' : cp ≤ j + 1 := by omega
            clear HAS
            go_upto_region 14 with (fail)
            apply wp_region_lit
            refine wl_k rfl (fun K hK => ?_); go_simp; refine hK _ ?_; clear hK K
            refine wl_ck rfl (fun K hK => ?_); go_simp; refine ⟨_, _, ⟨rfl, rfl⟩, hK _ _ ⟨_, HBU.out _ HS.out, ?_⟩⟩; clear hK K; rintro e w8 ⟨rfl, hb3⟩; refine ⟨_, rfl, ?_⟩; simp only [put_lit, List.set_cons_zero, List.set_cons_succ]
            replace HS := Lib.hid (HS.out.below hb3)
            replace hbw := hbw.trans (hb3.mono hbw.size)
            clear hb3 k0
            refine wl_k rfl (fun K hK => ?_); go_simp; refine hK _ ?_; clear hK K
            refine wl_k rfl (fun K hK => ?_); go_simp; refine hK _ ?_; clear hK K
            refine wl_k rfl (fun K hK => ?_); go_simp; refine hK _ ?_; clear hK K
            refine wl_ck rfl (fun K hK => ?_); go_simp; refine ⟨_, _, ⟨rfl, rfl⟩, hK _ _ ⟨_, HSH.out _ HS.out, ?_⟩⟩; clear hK K; rintro e w9 ⟨rfl, hb3⟩; refine ⟨_, rfl, ?_⟩; simp only [put_lit, List.set_cons_zero, List.set_cons_succ]
            replace HS := Lib.hid (HS.out.below hb3)
            replace hbw := hbw.trans (hb3.mono hbw.size)
            clear hb3
            refine wl_k rfl (fun K hK => ?_); go_simp; refine hK _ ?_; clear hK K
            rcases HCT.out with ⟨hM, hT⟩ | ⟨hE1, hM, hT | ⟨hT, _⟩⟩
            · have h1 : IntKind.i64.wrap ((M1 : Int) - (M0 : Int)) = 0 := by rw [wrap_small _ (by omega) (by omega)]; omega
              have h2 : IntKind.i64.wrap (T1 - T0) = 0 := by rw [wrap_small _ (by omega) (by omega)]; omega
              refine wl_k rfl (fun K hK => ?_); go_simp; refine hK _ ?_; clear hK K
              try rw [h1]
              try rw [h2]
              clear HCT hM hT h1 h2
              by_cases hE9 : E = 0
              · have hd9 : (E == 0) = true := by simpa using hE9
                go_wp2_with fail
                go_roundw
                case rel => exact ⟨j + 1, cp, rs2, by omega, hcp', by go_num, rfl, HS, HSI, HAP', hbw⟩
                case measure => simp [intOf]; omega
              · (have hd9 : (E == 0) = false := by simpa using hE9); (go_wp2_with fail); go_roundw; (case rel => exact ⟨j + 1, cp, rs2, by omega, hcp', by go_num, rfl, HS, HSI, HAP', hbw⟩); (case measure => (simp [intOf]; omega))
            · have h1 : IntKind.i64.wrap ((M1 : Int) - (M0 : Int)) = 1 := by rw [wrap_small _ (by omega) (by omega)]; omega
              have h2 : IntKind.i64.wrap (T1 - T0) = 0 := by rw [wrap_small _ (by omega) (by omega)]; omega
              refine wl_k rfl (fun K hK => ?_); go_simp; refine hK _ ?_; clear hK K
              try rw [h1]
              try rw [h2]
              clear HCT hM hT h1 h2
              exact absurd hE1 hE0
            · have h1 : IntKind.i64.wrap ((M1 : Int) - (M0 : Int)) = 1 := by rw [wrap_small _ (by omega) (by omega)]; omega
              have h2 : IntKind.i64.wrap (T1 - T0) = 1 := by rw [wrap_small _ (by omega) (by omega)]; omega
              refine wl_k rfl (fun K hK => ?_); go_simp; refine hK _ ?_; clear hK K
              try rw [h1]
              try rw [h2]
              clear HCT hM hT h1 h2
              exact absurd hE1 hE0
        · have hd : (o.kind == 2) = false := by simpa using hk2
          have HAP' : Hid (cp = 0 → Apart (stA l (j + 1)) ∧ (stA l (j + 1)).shared = 0) := Lib.hid (fun h2 => by
            obtain ⟨a1, a2⟩ := HAS.out h2 (fun _ => hk2)
            exact ⟨a1, by rw [a2]; exact (HAP.out h2).2⟩)
          have hcp' : cp ≤ j + 1 := by omega
          clear HAS
          go_upto_region 14 with (fail)
          apply wp_region_lit
          refine wl_k rfl (fun K hK => ?_); go_simp; refine hK _ ?_; clear hK K
          refine wl_ck rfl (fun K hK => ?_); go_simp; refine ⟨_, _, ⟨rfl, rfl⟩, hK _ _ ⟨_, HBU.out _ HS.out, ?_⟩⟩; clear hK K; rintro e w8 ⟨rfl, hb3⟩; refine ⟨_, rfl, ?_⟩; simp only [put_lit, List.set_cons_zero, List.set_cons_succ]
          replace HS := Lib.hid (HS.out.below hb3)
          replace hbw := hbw.trans (hb3.mono hbw.size)
          clear hb3 k0
          refine wl_k rfl (fun K hK => ?_); go_simp; refine hK _ ?_; clear hK K
          refine wl_k rfl (fun K hK => ?_); go_simp; refine hK _ ?_; clear hK K
          refine wl_k rfl (fun K hK => ?_); go_simp; refine hK _ ?_; clear hK K
          refine wl_ck rfl (fun K hK => ?_); go_simp; refine ⟨_, _, ⟨rfl, rfl⟩, hK _ _ ⟨_, HSH.out _ HS.out, ?_⟩⟩; clear hK K; rintro e w9 ⟨rfl, hb3⟩; refine ⟨_, rfl, ?_⟩; simp only [put_lit, List.set_cons_zero, List.set_cons_succ]
          replace HS := Lib.hid (HS.out.below hb3)
          replace hbw := hbw.trans (hb3.mono hbw.size)
          clear hb3
          refine wl_k rfl (fun K hK => ?_); go_simp; refine hK _ ?_; clear hK K
          rcases HCT.out with ⟨hM, hT⟩ | ⟨hE1, hM, hT | ⟨hT, _⟩⟩
          · have h1 : IntKind.i64.wrap ((M1 : Int) - (M0 : Int)) = 0 := by rw [wrap_small _ (by omega) (by omega)]; omega
            have h2 : IntKind.i64.wrap (T1 - T0) = 0 := by rw [wrap_small _ (by omega) (by omega)]; omega
            refine wl_k rfl (fun K hK => ?_); go_simp; refine hK _ ?_; clear hK K
            try rw [h1]
            try rw [h2]
            clear HCT hM hT h1 h2
            by_cases hE9 : E = 0
            · have hd9 : (E == 0) = true := by simpa using hE9
              go_wp2_with fail
              go_roundw
              case rel => exact ⟨j + 1, cp, rs2, by omega, hcp', by go_num, rfl, HS, HSI, HAP', hbw⟩
              case measure => simp [intOf]; omega
            · (have hd9 : (E == 0) = false := by simpa using hE9); (go_wp2_with fail); go_roundw; (case rel => exact ⟨j + 1, cp, rs2, by omega, hcp', by go_num, rfl, HS, HSI, HAP', hbw⟩); (case measure => (simp [intOf]; omega))
          · have h1 : IntKind.i64.wrap ((M1 : Int) - (M0 : Int)) = 1 := by rw [wrap_small _ (by omega) (by omega)]; omega
            have h2 : IntKind.i64.wrap (T1 - T0) = 0 := by rw [wrap_small _ (by omega) (by omega)]; omega
            refine wl_k rfl (fun K hK => ?_); go_simp; refine hK _ ?_; clear hK K
            try rw [h1]
            try rw [h2]
            clear HCT hM hT h1 h2
            (have hd9 : (E == 0) = true := by simpa using hE1); (go_wp2_with fail); go_roundw; (case rel => exact ⟨j + 1, cp, rs2, by omega, hcp', by go_num, rfl, HS, HSI, HAP', hbw⟩); (case measure => (simp [intOf]; omega))
          · have h1 : IntKind.i64.wrap ((M1 : Int) - (M0 : Int)) = 1 := by rw [wrap_small _ (by omega) (by omega)]; omega
            have h2 : IntKind.i64.wrap (T1 - T0) = 1 := by rw [wrap_small _ (by omega) (by omega)]; omega
            refine wl_k rfl (fun K hK => ?_); go_simp; refine hK _ ?_; clear hK K
            try rw [h1]
            try rw [h2]
            clear HCT hM hT h1 h2
            (have hd9 : (E == 0) = true := by simpa using hE1); (go_wp2_with fail); go_roundw; (case rel => exact ⟨j + 1, cp, rs2, by omega, hcp', by go_num, rfl, HS, HSI, HAP', hbw⟩); (case measure => (simp [intOf]; omega))
      · obtain rfl : j = n := by omega
        have HG := Lib.hid (stA_good l j)
        by_cases hc0 : cp = 0
        · have hz := (HAP.out hc0).2
          have HSH := Lib.hid (Shared_any s (stA l j) rs HG.out wr HS.out)
          rw [hz] at HSH
          subst hc0
          clear hz
          go_upto_region 17 with (fail)
          apply wp_region_lit
          refine wl_k rfl (fun K hK => ?_); go_simp; refine hK _ ?_; clear hK K
          refine wl_k rfl (fun K hK => ?_); go_simp; refine hK _ ?_; clear hK K
          refine wl_k rfl (fun K hK => ?_); go_simp; refine hK _ ?_; clear hK K
          refine wl_k rfl (fun K hK => ?_); go_simp; refine hK _ ?_; clear hK K
          refine wl_ck rfl (fun K hK => ?_); go_simp; refine ⟨_, _, ⟨rfl, rfl⟩, hK _ _ ⟨_, HSH.out, ?_⟩⟩; clear hK K; rintro e w3 ⟨rfl, hb3⟩; refine ⟨_, rfl, ?_⟩; simp only [put_lit, List.set_cons_zero, List.set_cons_succ]
          replace hbw := hbw.trans (hb3.mono hbw.size)
          clear hb3 HSH
          refine wl_k rfl (fun K hK => ?_); go_simp; refine hK _ ?_; clear hK K
          refine wl_k rfl (fun K hK => ?_); go_simp; refine hK _ ?_; clear hK K
          refine wl_k rfl (fun K hK => ?_); go_simp; refine hK _ ?_; clear hK K
          refine wl_ck rfl (fun K hK => ?_); go_simp; refine ⟨_, _, ⟨rfl, rfl⟩, hK _ _ ⟨_, awake_any _, ?_⟩⟩; clear hK K; rintro e w4 ⟨rfl, hb4⟩; refine ⟨_, rfl, ?_⟩; simp only [put_lit, List.set_cons_zero, List.set_cons_succ]
          replace hbw := hbw.trans (hb4.mono hbw.size)
          clear hb4
          go_wp2_with fail
          go_ret
          exact ⟨rfl, hbw⟩
        · have hcp0 : (0 : Int) < (cp : Int) := by omega
          have hd : decide ((0 : Int) < (cp : Int)) = true := by simpa using hcp0
          have hdN : decide (0 < cp) = true := by simp; omega
          go_upto_region 17 with (fail)
          apply wp_region_lit
          refine wl_k rfl (fun K hK => ?_); go_simp; refine hK _ ?_; clear hK K
          refine wl_k rfl (fun K hK => ?_); go_simp; refine hK _ ?_; clear hK K
          refine wl_k rfl (fun K hK => ?_); go_simp; refine hK _ ?_; clear hK K
          (refine wl_skip (by kernel_rfl) ?_; simp only [put_lit, List.set_cons_zero, List.set_cons_succ])
          (refine wl_skip (by kernel_rfl) ?_; simp only [put_lit, List.set_cons_zero, List.set_cons_succ])
          (refine wl_skip (by kernel_rfl) ?_; simp only [put_lit, List.set_cons_zero, List.set_cons_succ])
          refine wl_k rfl (fun K hK => ?_); go_simp; refine hK _ ?_; clear hK K
          refine wl_k rfl (fun K hK => ?_); go_simp; refine hK _ ?_; clear hK K
          refine wl_ck rfl (fun K hK => ?_); go_simp; refine ⟨_, _, ⟨rfl, rfl⟩, hK _ _ ⟨_, awake_any _, ?_⟩⟩; clear hK K; rintro e w4 ⟨rfl, hb4⟩; refine ⟨_, rfl, ?_⟩; simp only [put_lit, List.set_cons_zero, List.set_cons_succ]
          replace hbw := hbw.trans (hb4.mono hbw.size)
          clear hb4
          go_wp2_with fail
          go_ret
          exact ⟨rfl, hbw⟩
end Go.Proofs.Ytbhdgeoljlhmcaa
