/- The texts of a list of trees, written. -/
import Derived.Test.YtokmaehefenpmaaDoorV7
namespace Go.Proofs.YtokmaehefenpmaaDoor
open Go.RowKit Go.Proofs.YtokmaehefenpmaaDoor.Nm
set_option linter.unusedSimpArgs false
set_option maxHeartbeats 4000000 in
set_option maxRecDepth 100000 in
theorem list_any (txt : Ty → List UInt8) (ts : List Ty) (hC : ∀ t, t ∈ ts → TypC txt t) (w : World) (B b : Nat) (l0 : List UInt8) (D : Nat → Prop) (A : Option Addr) (l c : Nat) (hBd : Bd w B b l0) (hB : B ≤ w.heap.size) (hlen : l0.length + (sepText txt true ts).length ≤ 1000000000) (hT : TysAt w D ts A l c) (hD : ∀ x, D x → x < B) :
    Calls Tryd.prog 83 #[tv b, .slice A l c] w (WPost B b (l0 ++ sepText txt true ts) w) := by
  have hmf : ∀ (fn : Fn) (first cap : Array Value) (w : World), (Instr.makeFunc fn first cap).run Tryd.prog w = .ok (.func fn first cap) w := fun _ _ _ _ => rfl
  have HT := Lib.hid hT
  have HL := Lib.hid hT.len
  have hcm := hT.cap
  have hmx := hT.max
  unfold maxLen at hmx
  have HI := Lib.hid hC
  have HD := Lib.hid hD
  have HLN := Lib.hid hlen
  have hbl := hBd.lt
  have HB0 := Lib.hid hBd
  clear hT hC hD hlen hBd
  have hb := Below.refl w.heap.size w
  go_enter Tryd.func83, Tryd.ntmps83
  go_upto_region 0 with (fail)
  apply wp_region_lit
  (with_reducible refine wl_box76 rfl ?_); intro W p hbn hlp hp; replace hb := hb.trans (hbn.mono hb.size); clear hbn; simp only [put_lit, List.set_cons_zero, List.set_cons_succ]
  have hpb : p ≠ b := by omega
  have hK : Kb B b w W := Kb.of hb hB
  have HBd := Lib.hid (HB0.out.old hb)
  clear HB0 hb
  go_upto_region 1 with (fail)
  apply wp_region_lit
  ((with_reducible apply wl_rowG); exact rfl; exact rfl; exact g76 hp)
  simp only [put_lit, List.set_cons_zero, List.set_cons_succ]
  (with_reducible refine wl_k ?_ ?_); exact rfl; intro K hK; go_simp; refine hK _ ?_; clear hK K
  (with_reducible refine wl_k ?_ ?_); exact rfl; intro K hK; go_simp; refine hK _ ?_; clear hK K
  go_wp2_with fail
  go_loopw [11] (fun i wr => ∃ j : Nat, j ≤ l ∧ i = .int .i64 (j : Int) ∧ Hid (Bd wr B b (l0 ++ sepText txt true (ts.take j))) ∧ Kb B b w wr ∧ wr.heap[p]? = some (.cells #[.pointer (some ⟨b, 0, none⟩)] 76 (0, 0))) (fun i _ => l - (intOf i).toNat)
  case atStart => exact ⟨0, by omega, rfl, Lib.hid (by simpa [sepText] using HBd.out), hK, hp⟩
  case round =>
    clear HBd hK hp
    obtain ⟨j, hj, rfl, HBd, hK, hp⟩ := hrel
    by_cases hlt : j < l
    · have hltI : (j : Int) < (l : Int) := by omega
      obtain ⟨ba, off, t, row, rfl, -, ht, -⟩ := HT.out.get hlt
      obtain ⟨row, hrow, hta⟩ := (HT.out.kb HD.out hK).rowK ht
      obtain ⟨k3, s3, n3, A3, l3, c3, ts3, ht3, rfl, -⟩ := hta.parts
      have HTB := Lib.hid hta
      have HST := Lib.hid (sep_step txt true ts j t ht)
      have HM := Lib.hid (List.mem_of_getElem? ht)
      have hs1 := sep_take txt true ts j
      have hs2 := sep_take txt true ts (j + 1)
      rw [HST.out] at hs2
      have hs3 := HLN.out
      simp only [List.length_append] at hs2
      have HLL := Lib.hid (show (l0 ++ sepText txt true (ts.take j)).length + (if true && j == 0 then [] else [(44 : UInt8), 32]).length + (txt t).length ≤ 1000000000 by simp only [List.length_append]; omega)
      clear hta ht ht3 hs1 hs2 hs3
      have hz := Below.refl wr.heap.size wr
      have hwB := hK.size
      go_upto_region 4 with (fail)
      apply wp_region_lit
      (with_reducible refine wl_k ?_ ?_); exact rfl; intro K hK; go_simp; refine hK _ ?_; clear hK K
      (with_reducible refine wl_k ?_ ?_); exact rfl; intro K hK; go_simp; refine hK _ ?_; clear hK K
      (first | ((with_reducible apply wl_oneG); exact rfl; exact rfl; first | exact f0 (by with_reducible assumption) | exact f1 (by with_reducible assumption) | exact f2 (by with_reducible assumption) | exact f3 (by with_reducible assumption) | with_reducible assumption | exact g22 (by with_reducible assumption) | exact g25 (by with_reducible assumption)) | ((with_reducible apply wl_rowG); exact rfl; exact rfl; first | with_reducible assumption | exact RowK.now (by with_reducible assumption) | exact f4 (by with_reducible assumption)))
      have lthpq := heap_lt hp; (with_reducible refine wl_all ?_); intro X1 q hbn hlq hq; replace hp := below_look hbn hp; replace hz := hz.trans (hbn.mono hz.size); clear hbn; simp only [put_lit, List.set_cons_zero, List.set_cons_succ]
      (with_reducible refine wl_k ?_ ?_); exact rfl; intro K hK; go_simp; refine hK _ ?_; clear hK K
      (with_reducible refine wl_put rfl rfl hq ?_); rw [put_noneA]; intro X2 hbx hsz hkx hnx; replace hp := (hkx _ (by omega)).trans hp; replace hz := hbx _ _ (by omega) hz; clear hq; have hq := hnx; clear hnx
      clear hbx hkx hsz
      have hzs := hz.size
      have hqb : q ≠ b := by omega
      replace HBd := Lib.hid (HBd.out.old hz)
      replace hK := hK.trans (Kb.of (b := b) hz (by omega))
      replace HTB := Lib.hid (HTB.out.old hz)
      clear hrow hz
      by_cases hj0 : j = 0
      · have hj1 : ¬ (j : Int) > 0 := by omega
        have HEQ : Hid (sepText txt true (ts.take (j + 1)) = sepText txt true (ts.take j) ++ txt t) := Lib.hid (by rw [HST.out, hj0]; simp)
        have HC := Lib.hid (HI.out t HM.out X2 B b _ D _ HBd.out (by omega) (by have := HLL.out; omega) HTB.out HD.out)
        clear hj0 HST HLL
        go_upto_region 7 with (fail)
        apply wp_region_lit
        (with_reducible refine wl_k ?_ ?_); exact rfl; intro K hK; go_simp; refine hK _ ?_; clear hK K
        (first | ((with_reducible apply wl_oneG); exact rfl; exact rfl; first | exact f0 (by with_reducible assumption) | exact f1 (by with_reducible assumption) | exact f2 (by with_reducible assumption) | exact f3 (by with_reducible assumption) | with_reducible assumption | exact g22 (by with_reducible assumption) | exact g25 (by with_reducible assumption)) | ((with_reducible apply wl_rowG); exact rfl; exact rfl; first | with_reducible assumption | exact RowK.now (by with_reducible assumption) | exact f4 (by with_reducible assumption)))
        (with_reducible refine wl_ck ?_ ?_); exact rfl; intro K hK; go_simp; refine ⟨_, _, ⟨rfl, rfl⟩, hK _ _ ⟨_, HC.out, ?_⟩⟩; clear hK K; rintro e w7 ⟨rfl, hbd7, hk7⟩; refine ⟨_, rfl, ?_⟩; simp only [put_lit, List.set_cons_zero, List.set_cons_succ]
        rw [List.append_assoc, ← HEQ.out] at hbd7
        have HBd7 := Lib.hid hbd7
        replace hp := hk7.look hp hpb (by decide)
        replace hK := hK.trans hk7
        clear hbd7 hk7 hq
        clear HBd HTB HC HM HEQ
        go_wp2_with fail
        go_roundw
        case rel => exact ⟨j + 1, by omega, by go_num, HBd7, hK, hp⟩
        case measure => simp [intOf]; omega
      · have hj1 : (j : Int) > 0 := by omega
        have hj2 : 0 < j := by omega
        have HEQ : Hid (sepText txt true (ts.take (j + 1)) = sepText txt true (ts.take j) ++ [44, 32] ++ txt t) := Lib.hid (by
          rw [HST.out, show (j == 0) = false by simp [hj0]]; simp)
        have HLL2 := Lib.hid (show (l0 ++ sepText txt true (ts.take j)).length + 2 + (txt t).length ≤ 1000000000 by
          have := HLL.out; rw [show (j == 0) = false by simp [hj0]] at this; simpa using this)
        clear hj0 HST HLL
        have HW := Lib.hid (WriteS B b _ cSep X2 HBd.out (by have := HLL2.out; have hc : cSep.size = 2 := rfl; omega) (by omega))
        go_upto_region 6 with (fail)
        apply wp_region_lit
        (with_reducible refine wl_k ?_ ?_); exact rfl; intro K hK; go_simp; refine hK _ ?_; clear hK K
        (with_reducible apply wl_oneG); exact rfl; exact rfl; exact g72 hp
        (with_reducible refine wl_ck ?_ ?_); exact rfl; intro K hK; go_simp; refine ⟨_, _, ⟨rfl, rfl⟩, hK _ _ ⟨_, HW.out, ?_⟩⟩; clear hK K; rintro e w6 ⟨rfl, hbd6, hk6⟩; refine ⟨_, rfl, ?_⟩; simp only [put_lit, List.set_cons_zero, List.set_cons_succ]
        have hk6s := hk6.size
        replace HTB := Lib.hid (HTB.out.kb HD.out hk6)
        replace hp := hk6.look hp hpb (by decide)
        replace hq := hk6.look hq hqb (by decide)
        replace hK := hK.trans hk6
        have HBd6 := Lib.hid hbd6
        clear hk6 hbd6 HW HBd
        have HC := Lib.hid (HI.out t HM.out w6 B b _ D _ HBd6.out (by omega) (by have := HLL2.out; rw [List.length_append]; have hc : cSep.data.toList.length = 2 := rfl; omega) HTB.out HD.out)
        go_upto_region 7 with (fail)
        apply wp_region_lit
        (with_reducible refine wl_k ?_ ?_); exact rfl; intro K hK; go_simp; refine hK _ ?_; clear hK K
        (first | ((with_reducible apply wl_oneG); exact rfl; exact rfl; first | exact f0 (by with_reducible assumption) | exact f1 (by with_reducible assumption) | exact f2 (by with_reducible assumption) | exact f3 (by with_reducible assumption) | with_reducible assumption | exact g22 (by with_reducible assumption) | exact g25 (by with_reducible assumption)) | ((with_reducible apply wl_rowG); exact rfl; exact rfl; first | with_reducible assumption | exact RowK.now (by with_reducible assumption) | exact f4 (by with_reducible assumption)))
        (with_reducible refine wl_ck ?_ ?_); exact rfl; intro K hK; go_simp; refine ⟨_, _, ⟨rfl, rfl⟩, hK _ _ ⟨_, HC.out, ?_⟩⟩; clear hK K; rintro e w7 ⟨rfl, hbd7, hk7⟩; refine ⟨_, rfl, ?_⟩; simp only [put_lit, List.set_cons_zero, List.set_cons_succ]
        have HBd7 : Hid (Bd w7 B b (l0 ++ sepText txt true (ts.take (j + 1)))) := Lib.hid (by
          rw [HEQ.out]; simpa [cSep] using hbd7)
        replace hp := hk7.look hp hpb (by decide)
        replace hK := hK.trans hk7
        clear hbd7 hk7 hq
        clear HTB HC HM HEQ HBd6 HLL2
        go_wp2_with fail
        go_roundw
        case rel => exact ⟨j + 1, by omega, by go_num, HBd7, hK, hp⟩
        case measure => simp [intOf]; omega
    · have hltI : ¬ (j : Int) < (l : Int) := by omega
      replace HBd : Hid (Bd wr B b (l0 ++ sepText txt true ts)) := Lib.hid (by have := HBd.out; rwa [List.take_of_length_le (by rw [HL.out]; omega)] at this)
      go_wp2_with fail
      go_end0
      exact ⟨rfl, HBd.out, hK⟩
end Go.Proofs.YtokmaehefenpmaaDoor
