/- The law StoreSeeds, walked. -/
import Derived.Test.YtbhdgeoljlhmcaaS57
import Derived.Test.YtbhdgeoljlhmcaaT7
import Derived.Test.YtbhdgeoljlhmcaaN2
import Derived.Outline
namespace Go.Proofs.Ytbhdgeoljlhmcaa
open Go.RowKit Go.Proofs.Ytbhdgeoljlhmcaa.Nm Go.Proofs.Ytbhdgeoljlhmcaa.St
set_option linter.unusedSimpArgs false
theorem u40 : Try.prog.underlying 40 = some (.int .u16) := by kernel_rfl
theorem one40 {w : World} {ad : Addr} {v : Value} (h : w.cell? ad = some v) : OneAt w 40 ad v := one_of u40 rfl h
/-- a list of seeds in memory -/
def SdAt (w : World) (A : Option Addr) (n : Nat) (l : List Nat) : Prop := l.length = n ∧ (∀ x ∈ l, x < 65536) ∧ ∀ (i x : Nat), l[i]? = some x → ∃ (b off : Nat), A = some ⟨b, off, none⟩ ∧ w.cell? ⟨b, off + i, none⟩ = some (.int .u16 (x : Int))
theorem SdAt.below {w w' : World} {A : Option Addr} {n : Nat} {l : List Nat} (h : SdAt w A n l) (hb : Below w.heap.size w w') : SdAt w' A n l :=
  ⟨h.1, h.2.1, fun i x hi => by obtain ⟨b, off, e, hc⟩ := h.2.2 i x hi; exact ⟨b, off, e, below_cell hb hc⟩⟩
set_option maxHeartbeats 4000000 in
set_option maxRecDepth 100000 in
theorem StoreSeeds_any (A : Option Addr) (n c : Nat) (l : List OpV) (A2 : Option Addr) (m c2 : Nat) (l2 : List Nat) (w : World) (h : OpsAt w A n l) (h2 : SdAt w A2 m l2) :
    Calls Try.prog 4 #[.slice A n c, .slice A2 m c2] w fun e w' => e = .returned (.bool true) ∧ Below w.heap.size w w' := by
  have HO := Lib.hid h
  have HD2 := Lib.hid h2
  clear h h2
  go_enter Try.func4, Try.ntmps4
  go_upto_region 1 with (fail)
  apply wp_region_lit
  refine wl_k rfl (fun K hK => ?_); go_simp; refine hK _ ?_; clear hK K
  refine wl_ck rfl (fun K hK => ?_); go_simp; refine ⟨_, _, ⟨rfl, rfl⟩, hK _ _ ⟨_, heavy_any A n c l _ HO.out, ?_⟩⟩; clear hK K; rintro e w1 ⟨b, rfl, hle, hb1⟩; refine ⟨_, rfl, ?_⟩; simp only [put_lit, List.set_cons_zero, List.set_cons_succ]
  cases b with
  | true =>
    clear hle
    go_wp2_with fail
    go_ret
    exact ⟨rfl, hb1⟩
  | false =>
    have hn := hle rfl
    clear hle
    go_upto_region 3 with (fail)
    apply wp_region_lit
    refine wl_ck rfl (fun K hK => ?_); go_simp; refine ⟨_, _, ⟨rfl, rfl⟩, hK _ _ ⟨_, New_any w1, ?_⟩⟩; clear hK K; rintro e w2 ⟨rfl, hst, hb2⟩; refine ⟨_, rfl, ?_⟩; simp only [put_lit, List.set_cons_zero, List.set_cons_succ]
    obtain ⟨s, hs⟩ : ∃ s, s = w1.heap.size := ⟨_, rfl⟩
    rw [← hs] at hst ⊢
    refine wl_ck rfl (fun K hK => ?_); go_simp; refine ⟨_, _, ⟨rfl, rfl⟩, hK _ _ ⟨_, New_any w2, ?_⟩⟩; clear hK K; rintro e w3 ⟨rfl, htt, hb3⟩; refine ⟨_, rfl, ?_⟩; simp only [put_lit, List.set_cons_zero, List.set_cons_succ]
    obtain ⟨t, ht⟩ : ∃ t, t = w2.heap.size := ⟨_, rfl⟩
    rw [← ht] at htt ⊢
    have hst' := hst.below hb3
    have hz1 := hb1.size
    have hz2 := hb2.size
    have hsl := hst.lt (Or.inl rfl)
    have HS := Lib.hid hst'
    have HT := Lib.hid htt
    have HDS : Hid (Dis s [] t []) := Lib.hid (fun q h1 h2 => by
      rcases h1 with rfl | ⟨k, r, hr, _⟩
      · rcases h2 with h2 | ⟨k, r, hr, _⟩
        · omega
        · simp at hr
      · simp at hr)
    have HSI : Hid (Since w.heap.size s []) := Lib.hid (fun q h1 => by
      rcases h1 with rfl | ⟨k, r, hr, _⟩
      · omega
      · simp at hr)
    have HTI : Hid (Since w.heap.size t []) := Lib.hid (fun q h1 => by
      rcases h1 with rfl | ⟨k, r, hr, _⟩
      · omega
      · simp at hr)
    have hb9 := (hb1.trans (hb2.mono hz1)).trans (hb3.mono (by omega))
    have HM0 : Hid (newA.bufs.length ≤ 0 ∧ 0 ≤ newA.shared ∧ newA.shared ≤ ((0 : Nat) : Int)) := Lib.hid ⟨Nat.le_refl _, Int.le_refl _, Int.le_refl _⟩
    clear hs ht hst hst' htt hb1 hb2 hb3 hz1 hz2 hsl
    go_wp2_with fail
    go_loopw [7] (fun i wr => ∃ (j : Nat) (rs rt : List Row) (X Y : Sto), j ≤ n ∧ i = .int .i64 (j : Int) ∧ Hid (StoreAt wr s X rs) ∧ Hid (StoreAt wr t Y rt) ∧ Hid (Since w.heap.size s rs) ∧ Hid (Since w.heap.size t rt) ∧ Hid (Dis s rs t rt) ∧ Hid (Good X) ∧ Hid (Good Y) ∧ Hid (Sim X Y) ∧
      Hid (X.bufs.length ≤ j ∧ 0 ≤ X.shared ∧ X.shared ≤ (j : Int)) ∧ Hid (Y.bufs.length ≤ j ∧ 0 ≤ Y.shared ∧ Y.shared ≤ (j : Int)) ∧ Below w.heap.size w wr) (fun i _ => n - (intOf i).toNat)
    case atStart => exact ⟨0, [], [], newA, newA, by omega, rfl, HS, HT, HSI, HTI, HDS, Lib.hid good_new0, Lib.hid good_new0, Lib.hid sim_new, HM0, HM0, hb9⟩
    case round =>
      clear HS HT HSI HTI HDS hb9 HM0
      obtain ⟨j, rs, rt, X, Y, hj, rfl, HS, HT, HSI, HTI, HDS, HGX, HGY, HXY, HMX, HMY, hbw⟩ := hrel
      by_cases hlt : j < n
      · have hltI : (j : Int) < (n : Int) := by omega
        obtain ⟨b, off, rfl⟩ := HO.out.addr hlt
        obtain ⟨o, ho⟩ : ∃ o, l[j]? = some o := ⟨_, List.getElem?_eq_getElem (by rw [HO.out.1]; exact hlt)⟩
        have HOJ := Lib.hid ho
        obtain ⟨k0, -, -, -⟩ := (HO.out.below hbw).fieldc ho
        clear ho
        by_cases hk11 : o.kind = 11
        · rw [hk11] at k0
          have HMX' : Hid (X.bufs.length ≤ j + 1 ∧ 0 ≤ X.shared ∧ X.shared ≤ ((j + 1 : Nat) : Int)) := Lib.hid (by have := HMX.out; omega)
          have HMY' : Hid (Y.bufs.length ≤ j + 1 ∧ 0 ≤ Y.shared ∧ Y.shared ≤ ((j + 1 : Nat) : Int)) := Lib.hid (by have := HMY.out; omega)
          go_wp2_with fail
          go_roundw
          case rel => exact ⟨j + 1, rs, rt, X, Y, by omega, by go_num, HS, HT, HSI, HTI, HDS, HGX, HGY, HXY, HMX', HMY', hbw⟩
          case measure => simp [intOf]; omega
        · have hd11 : (o.kind == 11) = false := by simpa using hk11
          have HK11 := Lib.hid hk11
          clear hk11
          have HRO := Lib.hid ((HO.out.below hbw).row HOJ.out)
          go_upto_region 10 with (fail)
          apply wp_region_lit
          refine wl_k rfl (fun K hK => ?_); go_simp; refine hK _ ?_; clear hK K
          refine wl_k rfl (fun K hK => ?_); go_simp; refine hK _ ?_; clear hK K
          refine wl_k rfl (fun K hK => ?_); go_simp; refine hK _ ?_; clear hK K
          ((with_reducible apply wl_rowG); exact rfl; exact rfl; exact HRO.out)
          simp only [put_lit, List.set_cons_zero, List.set_cons_succ]
          refine wl_new (fun ev w => ex_alloc39 rfl ev w) ?_
          intro W7 p7 hb7 hl7 h7
          refine wl_putG p7 o.cells rfl rfl 39 _ h7 info39 rfl (op_one _) ?_
          rw [put_noneA]
          have hbb := below_setRow hb7 (g := p7) hl7 o.cells
          have HPF : Hid (¬ (Foot s rs p7 ∨ Foot t rt p7)) := Lib.hid (fun hf => by
            rcases hf with hf | hf
            · have := HS.out.lt hf; omega
            · have := HT.out.lt hf; omega)
          have hwz := hbw.size
          replace HS := Lib.hid (HS.out.below hbb)
          replace HT := Lib.hid (HT.out.below hbb)
          replace hbw := hbw.trans (hbb.mono hbw.size)
          have hp7w : w.heap.size ≤ p7 := by omega
          have h7' := hr_new (cs := o.cells) h7
          clear hb7 h7 hbb HRO hl7 k0 hd11 hwz
          generalize W7.setRow p7 o.cells = w7 at *
          have HMX' := Lib.hid (fun o' => doA_made2 HMX.out o')
          have HMY' := Lib.hid (fun o' => doA_made2 HMY.out o')
          have HDX := Lib.hid (fun w h => Do_any s X rs HGX.out (by have := HMX.out; omega) HMX.out.2.1 (by have := HMX.out; omega) o w h)
          have HDY := Lib.hid (fun o' w h => Do_any t Y rt HGY.out (by have := HMY.out; omega) HMY.out.2.1 (by have := HMY.out; omega) o' w h)
          clear HMX HMY
          obtain ⟨kd, fr, to, at_, nn, key⟩ := o
          obtain ⟨y0, -, -, -, y4, -⟩ := op_cell h7'
          simp only at y0 y4
          by_cases hk8 : kd = 8
          · have HK8 := Lib.hid hk8
            have e1 : (kd == 8) = true := by simpa using hk8
            clear hk8
            by_cases hn0 : 0 ≤ nn
            · have HN0 := Lib.hid hn0
              have e2 : decide (0 ≤ nn) = true := by simpa using hn0
              by_cases hn1 : nn ≤ 2147483647
              · have HN1 := Lib.hid hn1
                have e3 : decide (nn ≤ 2147483647) = true := by simpa using hn1
                by_cases hjm : j < m
                · have hjmI : (j : Int) < (m : Int) := by omega
                  obtain ⟨x, hx⟩ : ∃ x, l2[j]? = some x := ⟨_, List.getElem?_eq_getElem (by rw [HD2.out.1]; exact hjm)⟩
                  have hxl := HD2.out.2.1 x (List.mem_of_getElem? hx)
                  obtain ⟨b2, off2, rfl, hcx⟩ := (HD2.out.below hbw).2.2 j x hx
                  have hwx : IntKind.i64.wrap (x : Int) = (x : Int) := wrap_small _ (by omega) (by omega)
                  have h7o : w7.frozen? ⟨p7, 4, none⟩ = false := frozen_of_row _ _ _ _ _ h7'
                  have hsame : ∀ q, q ≠ p7 → (w7.setCell ⟨p7, 4, none⟩ (.int .i64 (x : Int))).heap[q]? = w7.heap[q]? := fun q hq => heap_setCell_other _ _ _ _ hq
                  have h8' : (w7.setCell ⟨p7, 4, none⟩ (.int .i64 (x : Int))).heap[p7]? = some (.cells (OpV.cells ⟨kd, fr, to, at_, (x : Int), key⟩) 39 (0, 0)) := (hs_new h7').trans rfl
                  replace HS := Lib.hid (HS.out.same (w' := w7.setCell ⟨p7, 4, none⟩ (.int .i64 (x : Int))) (fun q _ hf => hsame q (fun e => HPF.out (Or.inl (e ▸ hf)))))
                  replace HT := Lib.hid (HT.out.same (w' := w7.setCell ⟨p7, 4, none⟩ (.int .i64 (x : Int))) (fun q _ hf => hsame q (fun e => HPF.out (Or.inr (e ▸ hf)))))
                  replace hbw : Below w.heap.size w (w7.setCell ⟨p7, 4, none⟩ (.int .i64 (x : Int))) := hbw.setCell (p := ⟨p7, 4, none⟩) hp7w _
                  clear hx hsame h7'
                  go_upto_region 12 with (fail)
                  apply wp_region_lit
                  refine wl_k rfl (fun K hK => ?_); go_simp; refine hK _ ?_; clear hK K
                  refine wl_k rfl (fun K hK => ?_); go_simp; refine hK _ ?_; clear hK K
                  refine wl_k rfl (fun K hK => ?_); go_simp; refine hK _ ?_; clear hK K
                  ((with_reducible apply wl_oneG); exact rfl; exact rfl; exact one40 hcx)
                  simp only [put_lit, List.set_cons_zero, List.set_cons_succ]
                  refine wl_k rfl (fun K hK => ?_); go_simp; refine hK _ ?_; clear hK K
                  try rw [hwx]
                  refine wl_k rfl (fun K hK => ?_); go_simp; refine hK _ ?_; clear hK K
                  refine wl_storeC rfl 3 _ _ rfl p7 4 (.int .i64 (x : Int)) rfl rfl (by kernel_rfl) rfl (by rw [y4]; rfl) h7o ?_
                  rw [put_noneA]
                  clear y0 y4 h7o hcx e1 e2 e3 hn0 hn1 hwx
                  generalize w7.setCell ⟨p7, 4, none⟩ (.int .i64 (x : Int)) = w8 at *
                  have HALT : Hid (Alt ⟨kd, fr, to, at_, nn, key⟩ ⟨kd, fr, to, at_, (x : Int), key⟩) := Lib.hid (Or.inr ⟨HK8.out, HN0.out, HN1.out, (x : Int), rfl, by omega, by omega⟩)
                  have HSR := Lib.hid (sim_ref HGX.out HGY.out HXY.out HALT.out)
                  have HSX := Lib.hid (sim_do HGX.out HGY.out HXY.out HALT.out HK11.out)
                  have HGX2 := Lib.hid (good_do HGX.out ⟨kd, fr, to, at_, nn, key⟩)
                  have HGY2 := Lib.hid (good_do HGY.out ⟨kd, fr, to, at_, (x : Int), key⟩)
                  have HMX2 := Lib.hid (HMX'.out ⟨kd, fr, to, at_, nn, key⟩)
                  have HMY2 := Lib.hid (HMY'.out ⟨kd, fr, to, at_, (x : Int), key⟩)
                  obtain ⟨D, hD⟩ : ∃ D, D = footL s rs ++ footL t rt := ⟨_, rfl⟩
                  have HD : Hid (∀ q, q ∈ D ↔ Foot s rs q ∨ Foot t rt q) := Lib.hid (fun q => by rw [hD, List.mem_append, mem_footL, mem_footL])
                  have HDW : Hid (∀ q ∈ D, w.heap.size ≤ q) := Lib.hid (fun q hq => ((HD.out q).1 hq).elim (HSI.out q) (HTI.out q))
                  have HDP : Hid (p7 ∉ D) := Lib.hid (fun hq => HPF.out ((HD.out p7).1 hq))
                  have hdr := (Below.refl (w8).heap.size w8).drew
                  obtain ⟨E, hE⟩ : ∃ E, E = refA X ⟨kd, fr, to, at_, nn, key⟩ := ⟨_, rfl⟩
                  have HE := Lib.hid hE
                  have HCX := Lib.hid (HDX.out _ (HS.out.below hdr))
                  have HTD := Lib.hid (HT.out.below hdr)
                  have HBW := Lib.hid hbw
                  have HP8 := Lib.hid h8'
                  clear hD hE HALT HS HT HDX HMX' HMY' hbw h8' hdr
                  go_upto_region 13 with (fail)
                  refine wp_region_held_drew (S := Kept D w8) mixed (Kept.drew D w8) (fun hS => ?_)
                  refine ha_k (i := 0) rfl (by kernel_rfl) (by kernel_rfl) (by kernel_rfl) (fun _ _ _ _ h => h) hS rfl (fun K hK => ?_); go_simp; refine hK _ ?_; clear hK K; try simp only [put_lit, List.set_cons_zero, List.set_cons_succ]
                  refine ha_k (i := 1) rfl (by kernel_rfl) (by kernel_rfl) (by kernel_rfl) (fun _ _ _ _ h => h) hS rfl (fun K hK => ?_); go_simp; refine hK _ ?_; clear hK K; try simp only [put_lit, List.set_cons_zero, List.set_cons_succ]
                  refine ha_k (i := 2) rfl (by kernel_rfl) (by kernel_rfl) (by kernel_rfl) (fun _ _ _ _ h => h) hS rfl (fun K hK => ?_); go_simp; refine hK _ ?_; clear hK K; try simp only [put_lit, List.set_cons_zero, List.set_cons_succ]
                  refine ha_k (i := 3) rfl (by kernel_rfl) (by kernel_rfl) (by kernel_rfl) (fun _ _ _ _ h => h) hS rfl (fun K hK => ?_); go_simp; refine hK _ ?_; clear hK K; try simp only [put_lit, List.set_cons_zero, List.set_cons_succ]
                  (refine ha_val (i := 4) rfl (by kernel_rfl) (by kernel_rfl) (by kernel_rfl) (fun _ _ _ h => h) hS rfl (fun w' hw' => ex_row rfl ((HO.out.below (HBW.out.trans (hw'.toBelow HBW.out.size HDW.out))).row HOJ.out)) ?_; try simp only [put_lit, List.set_cons_zero, List.set_cons_succ])
                  refine ha_k (i := 6) rfl (by kernel_rfl) (by kernel_rfl) (by kernel_rfl) (fun _ _ _ _ h => h) hS rfl (fun K hK => ?_); go_simp; refine hK _ ?_; clear hK K; try simp only [put_lit, List.set_cons_zero, List.set_cons_succ]
                  (refine ha_val (i := 7) rfl (by kernel_rfl) (by kernel_rfl) (by kernel_rfl) (fun _ _ _ h => h) hS rfl (fun w' hw' => ex_row rfl (rowO ((hw'.block p7 (heap_lt HP8.out) HDP.out).trans HP8.out))) ?_; try simp only [put_lit, List.set_cons_zero, List.set_cons_succ])
                  refine ha_call (i := 5) (by kernel_rfl) rfl rfl (fun K hK => ?_); go_simp; refine ⟨_, _, ⟨rfl, rfl⟩, hK _ _ ⟨_, HCX.out, ?_⟩⟩; clear hK K; rintro e w11 ⟨rfl, rs2, hst2, hran2⟩; refine ⟨_, rfl, hS.ran hran2 (fun q hq => Or.inl ((HD.out q).2 (Or.inl hq))), ?_⟩; replace hS := hS.ran hran2 (fun q hq => Or.inl ((HD.out q).2 (Or.inl hq))); try simp only [put_lit, List.set_cons_zero, List.set_cons_succ]
                  have hds2 := (HDS.out.symm.ran HTD.out hran2).symm
                  have htt := HTD.out.beside hran2 HDS.out.symm
                  refine ha_call (i := 8) (by kernel_rfl) rfl rfl (fun K hK => ?_); go_simp; refine ⟨_, _, ⟨rfl, rfl⟩, hK _ _ ⟨_, HDY.out _ _ htt, ?_⟩⟩; clear hK K; rintro e w12 ⟨rfl, rt2, htt2, hrant⟩; refine ⟨_, rfl, hS.ran hrant (fun q hq => Or.inl ((HD.out q).2 (Or.inr hq))), ?_⟩; replace hS := hS.ran hrant (fun q hq => Or.inl ((HD.out q).2 (Or.inr hq))); try simp only [put_lit, List.set_cons_zero, List.set_cons_succ]
                  rw [← HSR.out, ← HE.out]
                  refine ha_k (i := 9) rfl (by kernel_rfl) (by kernel_rfl) (by kernel_rfl) (fun _ _ _ _ h => h) hS rfl (fun K hK => ?_); go_simp; refine hK _ ?_; clear hK K; try simp only [put_lit, List.set_cons_zero, List.set_cons_succ]
                  refine wpAnyH_done (by kernel_rfl) ?_ _
                  have HS2 := Lib.hid (hst2.beside hrant hds2)
                  have HT2 := Lib.hid htt2
                  have HDS2 := Lib.hid (hds2.ran hst2 hrant)
                  have HSI2 := Lib.hid (HSI.out.ran hran2 HBW.out.size)
                  have HTI2 := Lib.hid (HTI.out.ran hrant (Nat.le_trans HBW.out.size hran2.size))
                  have HB2 := Lib.hid (HBW.out.trans (hS.toBelow HBW.out.size HDW.out))
                  clear hS hst2 htt2 hran2 hrant hds2 htt HSI HTI HDS HBW HDW HDP HD HP8 HTD HCX HDY HGX HGY HXY HPF HSR HE
                  go_wp2_with fail
                  go_roundw
                  case rel => exact ⟨j + 1, rs2, rt2, _, _, by omega, by go_num, HS2, HT2, HSI2, HTI2, HDS2, HGX2, HGY2, HSX, HMX2, HMY2, HB2.out⟩
                  case measure => simp [intOf]; omega
                · have e4 : ¬ (j : Int) < (m : Int) := by omega
                  have e5 : decide ((j : Int) < (m : Int)) = false := by simpa using e4
                  go_upto_region 13 with (fail)
                  clear y0 y4
                  have HALT : Hid (Alt ⟨kd, fr, to, at_, nn, key⟩ ⟨kd, fr, to, at_, nn, key⟩) := Lib.hid (Or.inl rfl)
                  have HSR := Lib.hid (sim_ref HGX.out HGY.out HXY.out HALT.out)
                  have HSX := Lib.hid (sim_do HGX.out HGY.out HXY.out HALT.out HK11.out)
                  have HGX2 := Lib.hid (good_do HGX.out ⟨kd, fr, to, at_, nn, key⟩)
                  have HGY2 := Lib.hid (good_do HGY.out ⟨kd, fr, to, at_, nn, key⟩)
                  have HMX2 := Lib.hid (HMX'.out ⟨kd, fr, to, at_, nn, key⟩)
                  have HMY2 := Lib.hid (HMY'.out ⟨kd, fr, to, at_, nn, key⟩)
                  obtain ⟨D, hD⟩ : ∃ D, D = footL s rs ++ footL t rt := ⟨_, rfl⟩
                  have HD : Hid (∀ q, q ∈ D ↔ Foot s rs q ∨ Foot t rt q) := Lib.hid (fun q => by rw [hD, List.mem_append, mem_footL, mem_footL])
                  have HDW : Hid (∀ q ∈ D, w.heap.size ≤ q) := Lib.hid (fun q hq => ((HD.out q).1 hq).elim (HSI.out q) (HTI.out q))
                  have HDP : Hid (p7 ∉ D) := Lib.hid (fun hq => HPF.out ((HD.out p7).1 hq))
                  have hdr := (Below.refl (w7).heap.size w7).drew
                  obtain ⟨E, hE⟩ : ∃ E, E = refA X ⟨kd, fr, to, at_, nn, key⟩ := ⟨_, rfl⟩
                  have HE := Lib.hid hE
                  have HCX := Lib.hid (HDX.out _ (HS.out.below hdr))
                  have HTD := Lib.hid (HT.out.below hdr)
                  have HBW := Lib.hid hbw
                  have HP8 := Lib.hid h7'
                  clear hD hE HALT HS HT HDX HMX' HMY' hbw h7' hdr
                  go_upto_region 13 with (fail)
                  refine wp_region_held_drew (S := Kept D w7) mixed (Kept.drew D w7) (fun hS => ?_)
                  refine ha_k (i := 0) rfl (by kernel_rfl) (by kernel_rfl) (by kernel_rfl) (fun _ _ _ _ h => h) hS rfl (fun K hK => ?_); go_simp; refine hK _ ?_; clear hK K; try simp only [put_lit, List.set_cons_zero, List.set_cons_succ]
                  refine ha_k (i := 1) rfl (by kernel_rfl) (by kernel_rfl) (by kernel_rfl) (fun _ _ _ _ h => h) hS rfl (fun K hK => ?_); go_simp; refine hK _ ?_; clear hK K; try simp only [put_lit, List.set_cons_zero, List.set_cons_succ]
                  refine ha_k (i := 2) rfl (by kernel_rfl) (by kernel_rfl) (by kernel_rfl) (fun _ _ _ _ h => h) hS rfl (fun K hK => ?_); go_simp; refine hK _ ?_; clear hK K; try simp only [put_lit, List.set_cons_zero, List.set_cons_succ]
                  refine ha_k (i := 3) rfl (by kernel_rfl) (by kernel_rfl) (by kernel_rfl) (fun _ _ _ _ h => h) hS rfl (fun K hK => ?_); go_simp; refine hK _ ?_; clear hK K; try simp only [put_lit, List.set_cons_zero, List.set_cons_succ]
                  (refine ha_val (i := 4) rfl (by kernel_rfl) (by kernel_rfl) (by kernel_rfl) (fun _ _ _ h => h) hS rfl (fun w' hw' => ex_row rfl ((HO.out.below (HBW.out.trans (hw'.toBelow HBW.out.size HDW.out))).row HOJ.out)) ?_; try simp only [put_lit, List.set_cons_zero, List.set_cons_succ])
                  refine ha_k (i := 6) rfl (by kernel_rfl) (by kernel_rfl) (by kernel_rfl) (fun _ _ _ _ h => h) hS rfl (fun K hK => ?_); go_simp; refine hK _ ?_; clear hK K; try simp only [put_lit, List.set_cons_zero, List.set_cons_succ]
                  (refine ha_val (i := 7) rfl (by kernel_rfl) (by kernel_rfl) (by kernel_rfl) (fun _ _ _ h => h) hS rfl (fun w' hw' => ex_row rfl (rowO ((hw'.block p7 (heap_lt HP8.out) HDP.out).trans HP8.out))) ?_; try simp only [put_lit, List.set_cons_zero, List.set_cons_succ])
                  refine ha_call (i := 5) (by kernel_rfl) rfl rfl (fun K hK => ?_); go_simp; refine ⟨_, _, ⟨rfl, rfl⟩, hK _ _ ⟨_, HCX.out, ?_⟩⟩; clear hK K; rintro e w11 ⟨rfl, rs2, hst2, hran2⟩; refine ⟨_, rfl, hS.ran hran2 (fun q hq => Or.inl ((HD.out q).2 (Or.inl hq))), ?_⟩; replace hS := hS.ran hran2 (fun q hq => Or.inl ((HD.out q).2 (Or.inl hq))); try simp only [put_lit, List.set_cons_zero, List.set_cons_succ]
                  have hds2 := (HDS.out.symm.ran HTD.out hran2).symm
                  have htt := HTD.out.beside hran2 HDS.out.symm
                  refine ha_call (i := 8) (by kernel_rfl) rfl rfl (fun K hK => ?_); go_simp; refine ⟨_, _, ⟨rfl, rfl⟩, hK _ _ ⟨_, HDY.out _ _ htt, ?_⟩⟩; clear hK K; rintro e w12 ⟨rfl, rt2, htt2, hrant⟩; refine ⟨_, rfl, hS.ran hrant (fun q hq => Or.inl ((HD.out q).2 (Or.inr hq))), ?_⟩; replace hS := hS.ran hrant (fun q hq => Or.inl ((HD.out q).2 (Or.inr hq))); try simp only [put_lit, List.set_cons_zero, List.set_cons_succ]
                  rw [← HSR.out, ← HE.out]
                  refine ha_k (i := 9) rfl (by kernel_rfl) (by kernel_rfl) (by kernel_rfl) (fun _ _ _ _ h => h) hS rfl (fun K hK => ?_); go_simp; refine hK _ ?_; clear hK K; try simp only [put_lit, List.set_cons_zero, List.set_cons_succ]
                  refine wpAnyH_done (by kernel_rfl) ?_ _
                  have HS2 := Lib.hid (hst2.beside hrant hds2)
                  have HT2 := Lib.hid htt2
                  have HDS2 := Lib.hid (hds2.ran hst2 hrant)
                  have HSI2 := Lib.hid (HSI.out.ran hran2 HBW.out.size)
                  have HTI2 := Lib.hid (HTI.out.ran hrant (Nat.le_trans HBW.out.size hran2.size))
                  have HB2 := Lib.hid (HBW.out.trans (hS.toBelow HBW.out.size HDW.out))
                  clear hS hst2 htt2 hran2 hrant hds2 htt HSI HTI HDS HBW HDW HDP HD HP8 HTD HCX HDY HGX HGY HXY HPF HSR HE
                  go_wp2_with fail
                  go_roundw
                  case rel => exact ⟨j + 1, rs2, rt2, _, _, by omega, by go_num, HS2, HT2, HSI2, HTI2, HDS2, HGX2, HGY2, HSX, HMX2, HMY2, HB2.out⟩
                  case measure => simp [intOf]; omega
              · have e3 : decide (nn ≤ 2147483647) = false := by simpa using hn1
                go_upto_region 13 with (fail)
                clear y0 y4
                have HALT : Hid (Alt ⟨kd, fr, to, at_, nn, key⟩ ⟨kd, fr, to, at_, nn, key⟩) := Lib.hid (Or.inl rfl)
                have HSR := Lib.hid (sim_ref HGX.out HGY.out HXY.out HALT.out)
                have HSX := Lib.hid (sim_do HGX.out HGY.out HXY.out HALT.out HK11.out)
                have HGX2 := Lib.hid (good_do HGX.out ⟨kd, fr, to, at_, nn, key⟩)
                have HGY2 := Lib.hid (good_do HGY.out ⟨kd, fr, to, at_, nn, key⟩)
                have HMX2 := Lib.hid (HMX'.out ⟨kd, fr, to, at_, nn, key⟩)
                have HMY2 := Lib.hid (HMY'.out ⟨kd, fr, to, at_, nn, key⟩)
                obtain ⟨D, hD⟩ : ∃ D, D = footL s rs ++ footL t rt := ⟨_, rfl⟩
                have HD : Hid (∀ q, q ∈ D ↔ Foot s rs q ∨ Foot t rt q) := Lib.hid (fun q => by rw [hD, List.mem_append, mem_footL, mem_footL])
                have HDW : Hid (∀ q ∈ D, w.heap.size ≤ q) := Lib.hid (fun q hq => ((HD.out q).1 hq).elim (HSI.out q) (HTI.out q))
                have HDP : Hid (p7 ∉ D) := Lib.hid (fun hq => HPF.out ((HD.out p7).1 hq))
                have hdr := (Below.refl (w7).heap.size w7).drew
                obtain ⟨E, hE⟩ : ∃ E, E = refA X ⟨kd, fr, to, at_, nn, key⟩ := ⟨_, rfl⟩
                have HE := Lib.hid hE
                have HCX := Lib.hid (HDX.out _ (HS.out.below hdr))
                have HTD := Lib.hid (HT.out.below hdr)
                have HBW := Lib.hid hbw
                have HP8 := Lib.hid h7'
                clear hD hE HALT HS HT HDX HMX' HMY' hbw h7' hdr
                go_upto_region 13 with (fail)
                refine wp_region_held_drew (S := Kept D w7) mixed (Kept.drew D w7) (fun hS => ?_)
                refine ha_k (i := 0) rfl (by kernel_rfl) (by kernel_rfl) (by kernel_rfl) (fun _ _ _ _ h => h) hS rfl (fun K hK => ?_); go_simp; refine hK _ ?_; clear hK K; try simp only [put_lit, List.set_cons_zero, List.set_cons_succ]
                refine ha_k (i := 1) rfl (by kernel_rfl) (by kernel_rfl) (by kernel_rfl) (fun _ _ _ _ h => h) hS rfl (fun K hK => ?_); go_simp; refine hK _ ?_; clear hK K; try simp only [put_lit, List.set_cons_zero, List.set_cons_succ]
                refine ha_k (i := 2) rfl (by kernel_rfl) (by kernel_rfl) (by kernel_rfl) (fun _ _ _ _ h => h) hS rfl (fun K hK => ?_); go_simp; refine hK _ ?_; clear hK K; try simp only [put_lit, List.set_cons_zero, List.set_cons_succ]
                refine ha_k (i := 3) rfl (by kernel_rfl) (by kernel_rfl) (by kernel_rfl) (fun _ _ _ _ h => h) hS rfl (fun K hK => ?_); go_simp; refine hK _ ?_; clear hK K; try simp only [put_lit, List.set_cons_zero, List.set_cons_succ]
                (refine ha_val (i := 4) rfl (by kernel_rfl) (by kernel_rfl) (by kernel_rfl) (fun _ _ _ h => h) hS rfl (fun w' hw' => ex_row rfl ((HO.out.below (HBW.out.trans (hw'.toBelow HBW.out.size HDW.out))).row HOJ.out)) ?_; try simp only [put_lit, List.set_cons_zero, List.set_cons_succ])
                refine ha_k (i := 6) rfl (by kernel_rfl) (by kernel_rfl) (by kernel_rfl) (fun _ _ _ _ h => h) hS rfl (fun K hK => ?_); go_simp; refine hK _ ?_; clear hK K; try simp only [put_lit, List.set_cons_zero, List.set_cons_succ]
                (refine ha_val (i := 7) rfl (by kernel_rfl) (by kernel_rfl) (by kernel_rfl) (fun _ _ _ h => h) hS rfl (fun w' hw' => ex_row rfl (rowO ((hw'.block p7 (heap_lt HP8.out) HDP.out).trans HP8.out))) ?_; try simp only [put_lit, List.set_cons_zero, List.set_cons_succ])
                refine ha_call (i := 5) (by kernel_rfl) rfl rfl (fun K hK => ?_); go_simp; refine ⟨_, _, ⟨rfl, rfl⟩, hK _ _ ⟨_, HCX.out, ?_⟩⟩; clear hK K; rintro e w11 ⟨rfl, rs2, hst2, hran2⟩; refine ⟨_, rfl, hS.ran hran2 (fun q hq => Or.inl ((HD.out q).2 (Or.inl hq))), ?_⟩; replace hS := hS.ran hran2 (fun q hq => Or.inl ((HD.out q).2 (Or.inl hq))); try simp only [put_lit, List.set_cons_zero, List.set_cons_succ]
                have hds2 := (HDS.out.symm.ran HTD.out hran2).symm
                have htt := HTD.out.beside hran2 HDS.out.symm
                refine ha_call (i := 8) (by kernel_rfl) rfl rfl (fun K hK => ?_); go_simp; refine ⟨_, _, ⟨rfl, rfl⟩, hK _ _ ⟨_, HDY.out _ _ htt, ?_⟩⟩; clear hK K; rintro e w12 ⟨rfl, rt2, htt2, hrant⟩; refine ⟨_, rfl, hS.ran hrant (fun q hq => Or.inl ((HD.out q).2 (Or.inr hq))), ?_⟩; replace hS := hS.ran hrant (fun q hq => Or.inl ((HD.out q).2 (Or.inr hq))); try simp only [put_lit, List.set_cons_zero, List.set_cons_succ]
                rw [← HSR.out, ← HE.out]
                refine ha_k (i := 9) rfl (by kernel_rfl) (by kernel_rfl) (by kernel_rfl) (fun _ _ _ _ h => h) hS rfl (fun K hK => ?_); go_simp; refine hK _ ?_; clear hK K; try simp only [put_lit, List.set_cons_zero, List.set_cons_succ]
                refine wpAnyH_done (by kernel_rfl) ?_ _
                have HS2 := Lib.hid (hst2.beside hrant hds2)
                have HT2 := Lib.hid htt2
                have HDS2 := Lib.hid (hds2.ran hst2 hrant)
                have HSI2 := Lib.hid (HSI.out.ran hran2 HBW.out.size)
                have HTI2 := Lib.hid (HTI.out.ran hrant (Nat.le_trans HBW.out.size hran2.size))
                have HB2 := Lib.hid (HBW.out.trans (hS.toBelow HBW.out.size HDW.out))
                clear hS hst2 htt2 hran2 hrant hds2 htt HSI HTI HDS HBW HDW HDP HD HP8 HTD HCX HDY HGX HGY HXY HPF HSR HE
                go_wp2_with fail
                go_roundw
                case rel => exact ⟨j + 1, rs2, rt2, _, _, by omega, by go_num, HS2, HT2, HSI2, HTI2, HDS2, HGX2, HGY2, HSX, HMX2, HMY2, HB2.out⟩
                case measure => simp [intOf]; omega
            · have e2 : decide (0 ≤ nn) = false := by simpa using hn0
              go_upto_region 13 with (fail)
              clear y0 y4
              have HALT : Hid (Alt ⟨kd, fr, to, at_, nn, key⟩ ⟨kd, fr, to, at_, nn, key⟩) := Lib.hid (Or.inl rfl)
              have HSR := Lib.hid (sim_ref HGX.out HGY.out HXY.out HALT.out)
              have HSX := Lib.hid (sim_do HGX.out HGY.out HXY.out HALT.out HK11.out)
              have HGX2 := Lib.hid (good_do HGX.out ⟨kd, fr, to, at_, nn, key⟩)
              have HGY2 := Lib.hid (good_do HGY.out ⟨kd, fr, to, at_, nn, key⟩)
              have HMX2 := Lib.hid (HMX'.out ⟨kd, fr, to, at_, nn, key⟩)
              have HMY2 := Lib.hid (HMY'.out ⟨kd, fr, to, at_, nn, key⟩)
              obtain ⟨D, hD⟩ : ∃ D, D = footL s rs ++ footL t rt := ⟨_, rfl⟩
              have HD : Hid (∀ q, q ∈ D ↔ Foot s rs q ∨ Foot t rt q) := Lib.hid (fun q => by rw [hD, List.mem_append, mem_footL, mem_footL])
              have HDW : Hid (∀ q ∈ D, w.heap.size ≤ q) := Lib.hid (fun q hq => ((HD.out q).1 hq).elim (HSI.out q) (HTI.out q))
              have HDP : Hid (p7 ∉ D) := Lib.hid (fun hq => HPF.out ((HD.out p7).1 hq))
              have hdr := (Below.refl (w7).heap.size w7).drew
              obtain ⟨E, hE⟩ : ∃ E, E = refA X ⟨kd, fr, to, at_, nn, key⟩ := ⟨_, rfl⟩
              have HE := Lib.hid hE
              have HCX := Lib.hid (HDX.out _ (HS.out.below hdr))
              have HTD := Lib.hid (HT.out.below hdr)
              have HBW := Lib.hid hbw
              have HP8 := Lib.hid h7'
              clear hD hE HALT HS HT HDX HMX' HMY' hbw h7' hdr
              go_upto_region 13 with (fail)
              refine wp_region_held_drew (S := Kept D w7) mixed (Kept.drew D w7) (fun hS => ?_)
              refine ha_k (i := 0) rfl (by kernel_rfl) (by kernel_rfl) (by kernel_rfl) (fun _ _ _ _ h => h) hS rfl (fun K hK => ?_); go_simp; refine hK _ ?_; clear hK K; try simp only [put_lit, List.set_cons_zero, List.set_cons_succ]
              refine ha_k (i := 1) rfl (by kernel_rfl) (by kernel_rfl) (by kernel_rfl) (fun _ _ _ _ h => h) hS rfl (fun K hK => ?_); go_simp; refine hK _ ?_; clear hK K; try simp only [put_lit, List.set_cons_zero, List.set_cons_succ]
              refine ha_k (i := 2) rfl (by kernel_rfl) (by kernel_rfl) (by kernel_rfl) (fun _ _ _ _ h => h) hS rfl (fun K hK => ?_); go_simp; refine hK _ ?_; clear hK K; try simp only [put_lit, List.set_cons_zero, List.set_cons_succ]
              refine ha_k (i := 3) rfl (by kernel_rfl) (by kernel_rfl) (by kernel_rfl) (fun _ _ _ _ h => h) hS rfl (fun K hK => ?_); go_simp; refine hK _ ?_; clear hK K; try simp only [put_lit, List.set_cons_zero, List.set_cons_succ]
              (refine ha_val (i := 4) rfl (by kernel_rfl) (by kernel_rfl) (by kernel_rfl) (fun _ _ _ h => h) hS rfl (fun w' hw' => ex_row rfl ((HO.out.below (HBW.out.trans (hw'.toBelow HBW.out.size HDW.out))).row HOJ.out)) ?_; try simp only [put_lit, List.set_cons_zero, List.set_cons_succ])
              refine ha_k (i := 6) rfl (by kernel_rfl) (by kernel_rfl) (by kernel_rfl) (fun _ _ _ _ h => h) hS rfl (fun K hK => ?_); go_simp; refine hK _ ?_; clear hK K; try simp only [put_lit, List.set_cons_zero, List.set_cons_succ]
              (refine ha_val (i := 7) rfl (by kernel_rfl) (by kernel_rfl) (by kernel_rfl) (fun _ _ _ h => h) hS rfl (fun w' hw' => ex_row rfl (rowO ((hw'.block p7 (heap_lt HP8.out) HDP.out).trans HP8.out))) ?_; try simp only [put_lit, List.set_cons_zero, List.set_cons_succ])
              refine ha_call (i := 5) (by kernel_rfl) rfl rfl (fun K hK => ?_); go_simp; refine ⟨_, _, ⟨rfl, rfl⟩, hK _ _ ⟨_, HCX.out, ?_⟩⟩; clear hK K; rintro e w11 ⟨rfl, rs2, hst2, hran2⟩; refine ⟨_, rfl, hS.ran hran2 (fun q hq => Or.inl ((HD.out q).2 (Or.inl hq))), ?_⟩; replace hS := hS.ran hran2 (fun q hq => Or.inl ((HD.out q).2 (Or.inl hq))); try simp only [put_lit, List.set_cons_zero, List.set_cons_succ]
              have hds2 := (HDS.out.symm.ran HTD.out hran2).symm
              have htt := HTD.out.beside hran2 HDS.out.symm
              refine ha_call (i := 8) (by kernel_rfl) rfl rfl (fun K hK => ?_); go_simp; refine ⟨_, _, ⟨rfl, rfl⟩, hK _ _ ⟨_, HDY.out _ _ htt, ?_⟩⟩; clear hK K; rintro e w12 ⟨rfl, rt2, htt2, hrant⟩; refine ⟨_, rfl, hS.ran hrant (fun q hq => Or.inl ((HD.out q).2 (Or.inr hq))), ?_⟩; replace hS := hS.ran hrant (fun q hq => Or.inl ((HD.out q).2 (Or.inr hq))); try simp only [put_lit, List.set_cons_zero, List.set_cons_succ]
              rw [← HSR.out, ← HE.out]
              refine ha_k (i := 9) rfl (by kernel_rfl) (by kernel_rfl) (by kernel_rfl) (fun _ _ _ _ h => h) hS rfl (fun K hK => ?_); go_simp; refine hK _ ?_; clear hK K; try simp only [put_lit, List.set_cons_zero, List.set_cons_succ]
              refine wpAnyH_done (by kernel_rfl) ?_ _
              have HS2 := Lib.hid (hst2.beside hrant hds2)
              have HT2 := Lib.hid htt2
              have HDS2 := Lib.hid (hds2.ran hst2 hrant)
              have HSI2 := Lib.hid (HSI.out.ran hran2 HBW.out.size)
              have HTI2 := Lib.hid (HTI.out.ran hrant (Nat.le_trans HBW.out.size hran2.size))
              have HB2 := Lib.hid (HBW.out.trans (hS.toBelow HBW.out.size HDW.out))
              clear hS hst2 htt2 hran2 hrant hds2 htt HSI HTI HDS HBW HDW HDP HD HP8 HTD HCX HDY HGX HGY HXY HPF HSR HE
              go_wp2_with fail
              go_roundw
              case rel => exact ⟨j + 1, rs2, rt2, _, _, by omega, by go_num, HS2, HT2, HSI2, HTI2, HDS2, HGX2, HGY2, HSX, HMX2, HMY2, HB2.out⟩
              case measure => simp [intOf]; omega
          · have e1 : (kd == 8) = false := by simpa using hk8
            go_upto_region 13 with (fail)
            clear y0 y4
            have HALT : Hid (Alt ⟨kd, fr, to, at_, nn, key⟩ ⟨kd, fr, to, at_, nn, key⟩) := Lib.hid (Or.inl rfl)
            have HSR := Lib.hid (sim_ref HGX.out HGY.out HXY.out HALT.out)
            have HSX := Lib.hid (sim_do HGX.out HGY.out HXY.out HALT.out HK11.out)
            have HGX2 := Lib.hid (good_do HGX.out ⟨kd, fr, to, at_, nn, key⟩)
            have HGY2 := Lib.hid (good_do HGY.out ⟨kd, fr, to, at_, nn, key⟩)
            have HMX2 := Lib.hid (HMX'.out ⟨kd, fr, to, at_, nn, key⟩)
            have HMY2 := Lib.hid (HMY'.out ⟨kd, fr, to, at_, nn, key⟩)
            obtain ⟨D, hD⟩ : ∃ D, D = footL s rs ++ footL t rt := ⟨_, rfl⟩
            have HD : Hid (∀ q, q ∈ D ↔ Foot s rs q ∨ Foot t rt q) := Lib.hid (fun q => by rw [hD, List.mem_append, mem_footL, mem_footL])
            have HDW : Hid (∀ q ∈ D, w.heap.size ≤ q) := Lib.hid (fun q hq => ((HD.out q).1 hq).elim (HSI.out q) (HTI.out q))
            have HDP : Hid (p7 ∉ D) := Lib.hid (fun hq => HPF.out ((HD.out p7).1 hq))
            have hdr := (Below.refl (w7).heap.size w7).drew
            obtain ⟨E, hE⟩ : ∃ E, E = refA X ⟨kd, fr, to, at_, nn, key⟩ := ⟨_, rfl⟩
            have HE := Lib.hid hE
            have HCX := Lib.hid (HDX.out _ (HS.out.below hdr))
            have HTD := Lib.hid (HT.out.below hdr)
            have HBW := Lib.hid hbw
            have HP8 := Lib.hid h7'
            clear hD hE HALT HS HT HDX HMX' HMY' hbw h7' hdr
            go_upto_region 13 with (fail)
            refine wp_region_held_drew (S := Kept D w7) mixed (Kept.drew D w7) (fun hS => ?_)
            refine ha_k (i := 0) rfl (by kernel_rfl) (by kernel_rfl) (by kernel_rfl) (fun _ _ _ _ h => h) hS rfl (fun K hK => ?_); go_simp; refine hK _ ?_; clear hK K; try simp only [put_lit, List.set_cons_zero, List.set_cons_succ]
            refine ha_k (i := 1) rfl (by kernel_rfl) (by kernel_rfl) (by kernel_rfl) (fun _ _ _ _ h => h) hS rfl (fun K hK => ?_); go_simp; refine hK _ ?_; clear hK K; try simp only [put_lit, List.set_cons_zero, List.set_cons_succ]
            refine ha_k (i := 2) rfl (by kernel_rfl) (by kernel_rfl) (by kernel_rfl) (fun _ _ _ _ h => h) hS rfl (fun K hK => ?_); go_simp; refine hK _ ?_; clear hK K; try simp only [put_lit, List.set_cons_zero, List.set_cons_succ]
            refine ha_k (i := 3) rfl (by kernel_rfl) (by kernel_rfl) (by kernel_rfl) (fun _ _ _ _ h => h) hS rfl (fun K hK => ?_); go_simp; refine hK _ ?_; clear hK K; try simp only [put_lit, List.set_cons_zero, List.set_cons_succ]
            (refine ha_val (i := 4) rfl (by kernel_rfl) (by kernel_rfl) (by kernel_rfl) (fun _ _ _ h => h) hS rfl (fun w' hw' => ex_row rfl ((HO.out.below (HBW.out.trans (hw'.toBelow HBW.out.size HDW.out))).row HOJ.out)) ?_; try simp only [put_lit, List.set_cons_zero, List.set_cons_succ])
            refine ha_k (i := 6) rfl (by kernel_rfl) (by kernel_rfl) (by kernel_rfl) (fun _ _ _ _ h => h) hS rfl (fun K hK => ?_); go_simp; refine hK _ ?_; clear hK K; try simp only [put_lit, List.set_cons_zero, List.set_cons_succ]
            (refine ha_val (i := 7) rfl (by kernel_rfl) (by kernel_rfl) (by kernel_rfl) (fun _ _ _ h => h) hS rfl (fun w' hw' => ex_row rfl (rowO ((hw'.block p7 (heap_lt HP8.out) HDP.out).trans HP8.out))) ?_; try simp only [put_lit, List.set_cons_zero, List.set_cons_succ])
            refine ha_call (i := 5) (by kernel_rfl) rfl rfl (fun K hK => ?_); go_simp; refine ⟨_, _, ⟨rfl, rfl⟩, hK _ _ ⟨_, HCX.out, ?_⟩⟩; clear hK K; rintro e w11 ⟨rfl, rs2, hst2, hran2⟩; refine ⟨_, rfl, hS.ran hran2 (fun q hq => Or.inl ((HD.out q).2 (Or.inl hq))), ?_⟩; replace hS := hS.ran hran2 (fun q hq => Or.inl ((HD.out q).2 (Or.inl hq))); try simp only [put_lit, List.set_cons_zero, List.set_cons_succ]
            have hds2 := (HDS.out.symm.ran HTD.out hran2).symm
            have htt := HTD.out.beside hran2 HDS.out.symm
            refine ha_call (i := 8) (by kernel_rfl) rfl rfl (fun K hK => ?_); go_simp; refine ⟨_, _, ⟨rfl, rfl⟩, hK _ _ ⟨_, HDY.out _ _ htt, ?_⟩⟩; clear hK K; rintro e w12 ⟨rfl, rt2, htt2, hrant⟩; refine ⟨_, rfl, hS.ran hrant (fun q hq => Or.inl ((HD.out q).2 (Or.inr hq))), ?_⟩; replace hS := hS.ran hrant (fun q hq => Or.inl ((HD.out q).2 (Or.inr hq))); try simp only [put_lit, List.set_cons_zero, List.set_cons_succ]
            rw [← HSR.out, ← HE.out]
            refine ha_k (i := 9) rfl (by kernel_rfl) (by kernel_rfl) (by kernel_rfl) (fun _ _ _ _ h => h) hS rfl (fun K hK => ?_); go_simp; refine hK _ ?_; clear hK K; try simp only [put_lit, List.set_cons_zero, List.set_cons_succ]
            refine wpAnyH_done (by kernel_rfl) ?_ _
            have HS2 := Lib.hid (hst2.beside hrant hds2)
            have HT2 := Lib.hid htt2
            have HDS2 := Lib.hid (hds2.ran hst2 hrant)
            have HSI2 := Lib.hid (HSI.out.ran hran2 HBW.out.size)
            have HTI2 := Lib.hid (HTI.out.ran hrant (Nat.le_trans HBW.out.size hran2.size))
            have HB2 := Lib.hid (HBW.out.trans (hS.toBelow HBW.out.size HDW.out))
            clear hS hst2 htt2 hran2 hrant hds2 htt HSI HTI HDS HBW HDW HDP HD HP8 HTD HCX HDY HGX HGY HXY HPF HSR HE
            go_wp2_with fail
            go_roundw
            case rel => exact ⟨j + 1, rs2, rt2, _, _, by omega, by go_num, HS2, HT2, HSI2, HTI2, HDS2, HGX2, HGY2, HSX, HMX2, HMY2, HB2.out⟩
            case measure => simp [intOf]; omega
      · obtain rfl : j = n := by omega
        go_upto_region 15 with (fail)
        apply wp_region_lit
        refine wl_k rfl (fun K hK => ?_); go_simp; refine hK _ ?_; clear hK K
        refine wl_ck rfl (fun K hK => ?_); go_simp; refine ⟨_, _, ⟨rfl, rfl⟩, hK _ _ ⟨_, items_any s X rs HGX.out _ HS.out, ?_⟩⟩; clear hK K; rintro e w5 ⟨iv, rfl, hit, hb1⟩; refine ⟨_, rfl, ?_⟩; simp only [put_lit, List.set_cons_zero, List.set_cons_succ]
        obtain ⟨B1, hB1⟩ : ∃ B1, B1 = wr.heap.size := ⟨_, rfl⟩
        rw [← hB1] at hit
        have HIT := Lib.hid hit
        replace HT := Lib.hid (HT.out.below hb1)
        replace hbw := hbw.trans (hb1.mono hbw.size)
        clear hb1 hit hB1
        refine wl_k rfl (fun K hK => ?_); go_simp; refine hK _ ?_; clear hK K
        refine wl_k rfl (fun K hK => ?_); go_simp; refine hK _ ?_; clear hK K
        refine wl_k rfl (fun K hK => ?_); go_simp; refine hK _ ?_; clear hK K
        refine wl_k rfl (fun K hK => ?_); go_simp; refine hK _ ?_; clear hK K
        refine wl_k rfl (fun K hK => ?_); go_simp; refine hK _ ?_; clear hK K
        go_upto_region 16 with (fail)
        apply wp_region_lit
        refine wl_k rfl (fun K hK => ?_); go_simp; refine hK _ ?_; clear hK K
        refine wl_ck rfl (fun K hK => ?_); go_simp; refine ⟨_, _, ⟨rfl, rfl⟩, hK _ _ ⟨_, items_any t Y rt HGY.out _ HT.out, ?_⟩⟩; clear hK K; rintro e w6 ⟨iv2, rfl, hit2, hb1⟩; refine ⟨_, rfl, ?_⟩; simp only [put_lit, List.set_cons_zero, List.set_cons_succ]
        obtain ⟨B2, hB2⟩ : ∃ B2, B2 = w5.heap.size := ⟨_, rfl⟩
        rw [← hB2] at hit2
        have HIT2 := Lib.hid hit2
        replace HIT := Lib.hid (HIT.out.below hb1)
        replace hbw := hbw.trans (hb1.mono hbw.size)
        clear hb1 hit2 hB2
        refine wl_k rfl (fun K hK => ?_); go_simp; refine hK _ ?_; clear hK K
        refine wl_k rfl (fun K hK => ?_); go_simp; refine hK _ ?_; clear hK K
        refine wl_k rfl (fun K hK => ?_); go_simp; refine hK _ ?_; clear hK K
        refine wl_k rfl (fun K hK => ?_); go_simp; refine hK _ ?_; clear hK K
        refine wl_k rfl (fun K hK => ?_); go_simp; refine hK _ ?_; clear hK K
        have ⟨q1, cp1, cur1, e1, hq1, hg1, hall1⟩ := HIT.out.cells (by rw [bufsTo_length]; omega)
        have ⟨q2, cp2, cur2, e2, hq2, hg2, hall2⟩ := HIT2.out.cells (by rw [bufsTo_length]; omega)
        rw [bufsTo_length] at e1 e2
        subst e1 e2
        have HI1 : Hid (∀ k : Nat, k < 8 → ∃ v : Array Value, v.size = 4 ∧ cur1.extract (k * 4) (k * 4 + 4) = v ∧ ItemAt w6 B1 (.agg v) (X.buf (k : Int))) := Lib.hid (fun k hk => hall1 k _ (bufsTo_get X hk))
        have HI2 : Hid (∀ k : Nat, k < 8 → ∃ v : Array Value, v.size = 4 ∧ cur2.extract (k * 4) (k * 4 + 4) = v ∧ ItemAt w6 B2 (.agg v) (Y.buf (k : Int))) := Lib.hid (fun k hk => hall2 k _ (bufsTo_get Y hk))
        have HQ1 := Lib.hid hg1
        have HQ2 := Lib.hid hg2
        have HSM := Lib.hid (fun (m : Nat) => And.intro (buf_small HGX.out (m : Int)) (buf_small HGY.out (m : Int)))
        have HAP := Lib.hid (fun (m : Nat) => And.intro (buf_apt HGX.out (m : Int)) (buf_apt HGY.out (m : Int)))
        have HSIM := Lib.hid (fun (m : Nat) (h : m < 8) => HXY.out (m : Int) (by omega) (by omega))
        clear hall1 hall2 hq1 hq2 hg1 hg2 HIT HIT2 HGX HGY HXY HMX HMY HS HT HSI HTI HDS
        go_wp2_with fail
        go_loopw [13] (fun kv wr => ∃ k : Nat, k ≤ 8 ∧ kv = .int .i64 (k : Int) ∧ Hid (Below w6.heap.size w6 wr)) (fun kv _ => 8 - (intOf kv).toNat)
        case atStart => exact ⟨0, by omega, rfl, Lib.hid (Below.refl _ _)⟩
        case round =>
          obtain ⟨k, hk, rfl, HB⟩ := hrel
          by_cases hk8 : k < 8
          · have hk8I : (k : Int) < 8 := by omega
            obtain ⟨v1, hz1, hx1, it1⟩ := HI1.out k hk8
            obtain ⟨v2, hz2, hx2, it2⟩ := HI2.out k hk8
            have hsm := HSM.out k
            have hap := HAP.out k
            have hsim := HSIM.out k hk8
            have HC1 := below_look HB.out HQ1.out
            have HC2 := below_look HB.out HQ2.out
            obtain ⟨XB, hXB⟩ : ∃ XB, XB = X.buf (k : Int) := ⟨_, rfl⟩
            obtain ⟨YB, hYB⟩ : ∃ YB, YB = Y.buf (k : Int) := ⟨_, rfl⟩
            rw [← hXB] at it1 hsm hap hsim
            rw [← hYB] at it2 hsm hap hsim
            have HX1 := Lib.hid hx1
            have HX2 := Lib.hid hx2
            have HZ1 := Lib.hid hz1
            have HZ2 := Lib.hid hz2
            have HT1 := Lib.hid it1
            have HT2 := Lib.hid it2
            have HAL := Lib.hid (alike_sim hsim hap.1 hap.2)
            have HAP1 := Lib.hid hap.1
            clear hx1 hx2 hz1 hz2 it1 it2 hXB hYB hsim hap
            go_upto_region 22 with (fail)
            refine wp_region_held_drew (S := Kept [] wr) mixed (Kept.drew [] wr) (fun hS => ?_)
            refine ha_k (i := 0) rfl (by kernel_rfl) (by kernel_rfl) (by kernel_rfl) (fun _ _ _ _ h => h) hS rfl (fun K hK => ?_); go_simp; refine hK _ ?_; clear hK K; try simp only [put_lit, List.set_cons_zero, List.set_cons_succ]
            refine ha_k (i := 1) rfl (by kernel_rfl) (by kernel_rfl) (by kernel_rfl) (fun _ _ _ _ h => h) hS rfl (fun K hK => ?_); go_simp; refine hK _ ?_; clear hK K; try simp only [put_lit, List.set_cons_zero, List.set_cons_succ]
            refine ha_k (i := 2) rfl (by kernel_rfl) (by kernel_rfl) (by kernel_rfl) (fun _ _ _ _ h => h) hS rfl (fun K hK => ?_); go_simp; refine hK _ ?_; clear hK K; try simp only [put_lit, List.set_cons_zero, List.set_cons_succ]
            refine ha_val (i := 3) rfl (by kernel_rfl) (by kernel_rfl) (by kernel_rfl) (fun _ _ _ h => h) hS rfl (fun w' hw' => ex_row rfl ((fun h => row_mid h HX1.out Ytbhdgeoljlhmcaa.u32 rfl HZ1.out info32) (hw'.look HC1 (by simp <;> omega)))) ?_; try simp only [put_lit, List.set_cons_zero, List.set_cons_succ]
            refine ha_k (i := 4) rfl (by kernel_rfl) (by kernel_rfl) (by kernel_rfl) (fun _ _ _ _ h => h) hS rfl (fun K hK => ?_); go_simp; refine hK _ ?_; clear hK K; try simp only [put_lit, List.set_cons_zero, List.set_cons_succ]
            refine ha_k (i := 5) rfl (by kernel_rfl) (by kernel_rfl) (by kernel_rfl) (fun _ _ _ _ h => h) hS rfl (fun K hK => ?_); go_simp; refine hK _ ?_; clear hK K; try simp only [put_lit, List.set_cons_zero, List.set_cons_succ]
            refine ha_k (i := 6) rfl (by kernel_rfl) (by kernel_rfl) (by kernel_rfl) (fun _ _ _ _ h => h) hS rfl (fun K hK => ?_); go_simp; refine hK _ ?_; clear hK K; try simp only [put_lit, List.set_cons_zero, List.set_cons_succ]
            refine ha_val (i := 7) rfl (by kernel_rfl) (by kernel_rfl) (by kernel_rfl) (fun _ _ _ h => h) hS rfl (fun w' hw' => ex_row rfl ((fun h => row_mid h HX2.out Ytbhdgeoljlhmcaa.u32 rfl HZ2.out info32) (hw'.look HC2 (by simp <;> omega)))) ?_; try simp only [put_lit, List.set_cons_zero, List.set_cons_succ]
            refine ha_call (i := 8) (by kernel_rfl) rfl rfl (fun K hK => ?_); go_simp; refine ⟨_, _, ⟨rfl, rfl⟩, hK _ _ ⟨_, Alike_any XB YB (by have := hsm.1.1; omega) (by have := hsm.1.2; have := pairsT_le XB.t; omega) (by have := hsm.2.2; have := pairsT_le YB.t; omega) HAP1.out (HT1.out.below (HB.out.trans (hS.toBelow HB.out.size (by simp)))) (HT2.out.below (HB.out.trans (hS.toBelow HB.out.size (by simp)))), ?_⟩⟩; clear hK K; rintro e w9 ⟨rfl, hb1⟩; refine ⟨_, rfl, hS.below hb1, ?_⟩; replace hS := hS.below hb1; try simp only [put_lit, List.set_cons_zero, List.set_cons_succ]
            rw [HAL.out]
            refine ha_k (i := 9) rfl (by kernel_rfl) (by kernel_rfl) (by kernel_rfl) (fun _ _ _ _ h => h) hS rfl (fun K hK => ?_); go_simp; refine hK _ ?_; clear hK K; try simp only [put_lit, List.set_cons_zero, List.set_cons_succ]
            refine wpAnyH_done (by kernel_rfl) ?_ _
            have HB2 : Hid (Below w6.heap.size w6 _) := Lib.hid (HB.out.trans (hS.toBelow HB.out.size (by simp)))
            clear hS HB
            go_wp2_with fail
            go_roundw
            case rel => exact ⟨k + 1, by omega, by go_num, HB2⟩
            case measure => simp [intOf]; omega
          · obtain rfl : k = 8 := by omega
            have hb9 := hbw.trans (HB.out.mono hbw.size)
            clear HI1 HI2 HQ1 HQ2 HSM HAP HSIM HB hbw
            go_upto_region 24 with (fail)
            apply wp_region_lit
            refine wl_ck rfl (fun K hK => ?_); go_simp; refine ⟨_, _, ⟨rfl, rfl⟩, hK _ _ ⟨_, awake_any _, ?_⟩⟩; clear hK K; rintro e w15 ⟨rfl, hb1⟩; refine ⟨_, rfl, ?_⟩; simp only [put_lit, List.set_cons_zero, List.set_cons_succ]
            replace hb9 := hb9.trans (hb1.mono hb9.size)
            clear hb1
            go_wp2_with fail
            go_ret
            exact ⟨rfl, hb9⟩
end Go.Proofs.Ytbhdgeoljlhmcaa
