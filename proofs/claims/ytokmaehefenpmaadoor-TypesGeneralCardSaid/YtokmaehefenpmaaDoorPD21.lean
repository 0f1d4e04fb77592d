/- TypesGeneral: the law function (under way). -/
import Derived.Test.YtokmaehefenpmaaDoorPD14
import Derived.Test.YtokmaehefenpmaaDoorPD16
import Derived.Test.YtokmaehefenpmaaDoorPD19
import Derived.Test.YtokmaehefenpmaaDoorPD20
import Derived.Test.YtokmaehefenpmaaDoorPD9
namespace Go.Proofs.YtokmaehefenpmaaDoor
open Go.RowKit Go.ChangeMaps Go.Proofs.YtokmaehefenpmaaDoor.Nm
set_option linter.unusedSimpArgs false
theorem OwnI.nocap {w : World} {B : Nat} {A : Option Addr} {l c : Nat} {ns : List Int} (h : OwnI w B (.slice A l c) ns) (hA : A = none) : c = 0 := by
  subst hA
  rcases h.2 with ⟨e, -⟩ | ⟨g, cap, cur, e, -⟩
  · cases e; rfl
  · cases e
theorem OwnI.ixs {w : World} {B : Nat} {A : Option Addr} {l c : Nat} {ns : List Int} (h : OwnI w B (.slice A l c) ns) : IxAt w ns A l c := by
  obtain ⟨A', l', c', e, h1⟩ := h.ix
  cases e; exact h1
theorem OwnI.weak {w : World} {B B' : Nat} {v : Value} {ns : List Int} (h : OwnI w B v ns) (hB : B' ≤ B) : OwnI w B' v ns := by
  refine ⟨h.1, h.2.imp id ?_⟩
  rintro ⟨g, cap, cur, h2, h3, h4⟩
  exact ⟨g, cap, cur, h2, by omega, h4⟩
/-- The equations that the types solve. -/
def PF (ts : List Ty) (fs : Eqs) : Prop := OpenE fs ∧ ∀ p, p ∈ fs → (∀ v : Nat, p.1.occ v = true ∨ p.2.occ v = true → Vd ts v) ∧ applyTy ts p.1 = applyTy ts p.2
theorem eq_tail {A : Option Addr} {l c : Nat} {w : World} {zs : List Int} (h : IxAt w zs A l c) {j : Nat} (hj : j < l) : ∃ z b off, zs[j]? = some z ∧ A = some ⟨b, off, none⟩ ∧ ∀ w', Below w.heap.size w w' → OneAt w' 3 ⟨b, off + j, none⟩ (.int .i64 z) := by
  have hz : zs[j]? = some (zs[j]'(by rw [h.1]; exact hj)) := List.getElem?_eq_getElem _
  obtain ⟨b, off, e, hc⟩ := h.2.2.2 j _ hz
  refine ⟨_, b, off, hz, e, fun w' hb => ?_⟩
  obtain ⟨b', off', e', hc'⟩ := (h.old hb).2.2.2 j _ hz
  rw [e] at e'
  cases e'
  exact int_at hc'
set_option maxHeartbeats 8000000 in
set_option maxRecDepth 100000 in
theorem TypesGeneral_any (es : Eqs) (ts : List Ty) (A : Option Addr) (l c : Nat) (A0 : Option Addr) (l0 c0 : Nat) (w : World) (D D0 : Nat → Prop) (h : EqsAt w D es A l c) (h0 : TysAt w D0 ts A0 l0 c0) :
    Calls Tryd.prog 14 #[.slice A l c, .slice A0 l0 c0] w fun e w' => e = .returned (.bool true) ∧ Below w.heap.size w w' := by
  have HT := Lib.hid h
  have HL := Lib.hid h.len
  have HTS := Lib.hid h0
  have HL0 := Lib.hid h0.len
  have hcm := h.cap
  have hmx := h.max
  unfold maxLen at hmx
  clear h h0
  have hb := Below.refl w.heap.size w
  go_enter Tryd.func14, Tryd.ntmps14
  have HC := Lib.hid (pairs_any es A l c w D HT.out)
  go_upto_region 1 with (fail)
  apply wp_region_lit
  (with_reducible refine wl_k ?_ ?_); exact rfl; intro K hK; go_simp; refine hK _ ?_; clear hK K
  (with_reducible refine wl_ck ?_ ?_); exact rfl; intro K hK; go_simp; refine ⟨_, _, ⟨rfl, rfl⟩, hK _ _ ⟨_, HC.out, ?_⟩⟩; clear hK K; rintro e w7 ⟨⟨b7, rfl, hes⟩, hb7⟩; refine ⟨_, rfl, ?_⟩; simp only [put_lit, List.set_cons_zero, List.set_cons_succ]
  replace hb := hb.trans (hb7.mono hb.size); clear hb7
  clear HC
  cases b7 with
  | false =>
    clear hes
    (with_reducible refine wl_k ?_ ?_); exact rfl; intro K hK; go_simp; refine hK _ ?_; clear hK K
    (with_reducible refine wl_k ?_ ?_); exact rfl; intro K hK; go_simp; refine hK _ ?_; clear hK K
    (first | ((with_reducible refine wl_skipU ?_ ?_ ?_); exact rfl; exact rfl) | ((with_reducible refine wl_skip ?_ ?_); exact rfl; simp only [put_lit, List.set_cons_zero, List.set_cons_succ]))
    (first | ((with_reducible refine wl_skipU ?_ ?_ ?_); exact rfl; exact rfl) | ((with_reducible refine wl_skip ?_ ?_); exact rfl; simp only [put_lit, List.set_cons_zero, List.set_cons_succ]))
    (first | ((with_reducible refine wl_skipU ?_ ?_ ?_); exact rfl; exact rfl) | ((with_reducible refine wl_skip ?_ ?_); exact rfl; simp only [put_lit, List.set_cons_zero, List.set_cons_succ]))
    (with_reducible refine wl_k ?_ ?_); exact rfl; intro K hK; go_simp; refine hK _ ?_; clear hK K
    go_upto_region 2 with (fail)
    apply wp_region_lit
    (with_reducible refine wl_k ?_ ?_); exact rfl; intro K hK; go_simp; refine hK _ ?_; clear hK K
    go_wp2_with fail
    go_ret
    exact ⟨rfl, hb⟩
  | true =>
    have HES := Lib.hid (hes rfl)
    clear hes
    have HC := Lib.hid (small_any ts A0 l0 c0 w7 D0 (HTS.out.old hb))
    (with_reducible refine wl_k ?_ ?_); exact rfl; intro K hK; go_simp; refine hK _ ?_; clear hK K
    (with_reducible refine wl_k ?_ ?_); exact rfl; intro K hK; go_simp; refine hK _ ?_; clear hK K
    (with_reducible refine wl_k ?_ ?_); exact rfl; intro K hK; go_simp; refine hK _ ?_; clear hK K
    (with_reducible refine wl_ck ?_ ?_); exact rfl; intro K hK; go_simp; refine ⟨_, _, ⟨rfl, rfl⟩, hK _ _ ⟨_, HC.out, ?_⟩⟩; clear hK K; rintro e w8 ⟨⟨b8, rfl, hsm⟩, hb8⟩; refine ⟨_, rfl, ?_⟩; simp only [put_lit, List.set_cons_zero, List.set_cons_succ]
    replace hb := hb.trans (hb8.mono hb.size); clear hb8
    clear HC
    cases b8 with
    | false =>
      clear hsm
      (with_reducible refine wl_k ?_ ?_); exact rfl; intro K hK; go_simp; refine hK _ ?_; clear hK K
      (with_reducible refine wl_k ?_ ?_); exact rfl; intro K hK; go_simp; refine hK _ ?_; clear hK K
      go_upto_region 2 with (fail)
      apply wp_region_lit
      (with_reducible refine wl_k ?_ ?_); exact rfl; intro K hK; go_simp; refine hK _ ?_; clear hK K
      go_wp2_with fail
      go_ret
      exact ⟨rfl, hb⟩
    | true =>
      have HSM := Lib.hid (hsm rfl)
      clear hsm
      (with_reducible refine wl_k ?_ ?_); exact rfl; intro K hK; go_simp; refine hK _ ?_; clear hK K
      (with_reducible refine wl_k ?_ ?_); exact rfl; intro K hK; go_simp; refine hK _ ?_; clear hK K
      have HNL : Hid (∀ u, u ∈ ts → u.nodes ≤ 1000000) := Lib.hid (fun u hu => by have := HSM.out.2 u hu; omega)
      have hl40 : l ≤ 40 := by rw [← HL.out]; exact HES.out
      have hl060 : l0 ≤ 60 := by rw [← HL0.out]; exact HSM.out.1
      go_upto_region 3 with (fail)
      apply wp_region_lit
      (with_reducible refine wl_k ?_ ?_); exact rfl; intro K hK; go_simp; refine hK _ ?_; clear hK K
      go_upto_region 4 with (fail)
      apply wp_region_lit
      (with_reducible refine wl_k ?_ ?_); exact rfl; intro K hK; go_simp; refine hK _ ?_; clear hK K
      go_wp2_with fail
      go_loopw [5, 6] (fun lv i wr => ∃ (j : Nat) (fs : Eqs), j ≤ l ∧ i = .int .i64 (j : Int) ∧ Hid (OwnE wr w.heap.size lv fs) ∧ Hid (PF ts fs) ∧ Hid (fs.length ≤ j) ∧ Below w.heap.size w wr) (fun _ i _ => l - (intOf i).toNat)
      case atStart => exact ⟨0, [], by omega, rfl, Lib.hid (own_nil _ _), Lib.hid ⟨fun p hp => by simp at hp, fun p hp => by simp at hp⟩, Lib.hid (Nat.zero_le _), hb⟩
      case round =>
        clear hb
        obtain ⟨j, fs, hj, rfl, HOW, HPF, HFL, hb⟩ := hrel
        obtain ⟨wo, rfl⟩ : ∃ wo, wo = wr := ⟨_, rfl⟩
        obtain ⟨A5, c5, rfl, -⟩ := HOW.out.src
        obtain ⟨n5, hn5⟩ : ∃ n, n = fs.length := ⟨_, rfl⟩
        rw [← hn5] at HOW HFL
        simp only [← hn5]
        have HN5 := Lib.hid hn5
        clear hn5
        go_upto_region 5 with (fail)
        by_cases hlt : j < l
        · have hltI : (j : Int) < (l : Int) := by omega
          obtain ⟨t, u, hi⟩ := HT.out.ex hlt
          obtain ⟨bl, off, k1, s1, n1, A1, l1, c1, k2, s2, n2, A2, l2, c2, rfl, hr8, hr1, hr2, ht, hu⟩ := (HT.out.low.old hb).get hi (C := fun b => w.heap.size ≤ b) (fun b h1 h2 => by have := h1.2; omega)
          have HI := Lib.hid hi
          have HR8 := Lib.hid hr8
          have HR1 := Lib.hid hr1
          have HR2 := Lib.hid hr2
          have HTT := Lib.hid ht
          have HUU := Lib.hid hu
          clear hi hr8 hr1 hr2 ht hu
          apply wp_region_lit
          (with_reducible refine wl_k ?_ ?_); exact rfl; intro K hK; go_simp; refine hK _ ?_; clear hK K
          (with_reducible refine wl_k ?_ ?_); exact rfl; intro K hK; go_simp; refine hK _ ?_; clear hK K
          (with_reducible refine wl_k ?_ ?_); exact rfl; intro K hK; go_simp; refine hK _ ?_; clear hK K
          (with_reducible refine wl_k ?_ ?_); exact rfl; intro K hK; go_simp; refine hK _ ?_; clear hK K
          obtain ⟨vt, hvt⟩ : ∃ v, v = validB true t := ⟨_, rfl⟩
          obtain ⟨vu, hvu⟩ : ∃ v, v = validB true u := ⟨_, rfl⟩
          have h1 := OpenI_any t wo _ _ HTT.out
          rw [← hvt] at h1
          have HC := Lib.hid h1
          have HC2 : Hid (∀ w', Below wo.heap.size wo w' → Calls Tryd.prog 44 #[.agg (cell4 k2 s2 n2 A2 l2 c2)] w' fun e w2 => e = .returned (.bool vu) ∧ Below w'.heap.size w' w2) := Lib.hid fun w' hw => by rw [hvu]; exact OpenI_any u w' _ _ (HUU.out.old hw)
          have HVT := Lib.hid hvt
          have HVU := Lib.hid hvu
          clear h1 hvt hvu
          go_upto_region 7 with (fail)
          apply wp_region_lit
          (with_reducible refine wl_k ?_ ?_); exact rfl; intro K hK; go_simp; refine hK _ ?_; clear hK K
          (with_reducible refine wl_k ?_ ?_); exact rfl; intro K hK; go_simp; refine hK _ ?_; clear hK K
          (with_reducible refine wl_k ?_ ?_); exact rfl; intro K hK; go_simp; refine hK _ ?_; clear hK K
          (with_reducible refine wl_k ?_ ?_); exact rfl; intro K hK; go_simp; refine hK _ ?_; clear hK K
          ((with_reducible apply wl_rowG); exact rfl; exact rfl; exact HR1.out _ (Keep.refl _ _))
          (with_reducible refine wl_ck ?_ ?_); exact rfl; intro K hK; go_simp; refine ⟨_, _, ⟨rfl, rfl⟩, hK _ _ ⟨_, HC.out, ?_⟩⟩; clear hK K; rintro e w9 ⟨rfl, hb9⟩; refine ⟨_, rfl, ?_⟩; simp only [put_lit, List.set_cons_zero, List.set_cons_succ]
          clear HC
          have hz := hb9
          clear hb9
          cases vt with
          | false =>
            (with_reducible refine wl_k ?_ ?_); exact rfl; intro K hK; go_simp; refine hK _ ?_; clear hK K
            (with_reducible refine wl_k ?_ ?_); exact rfl; intro K hK; go_simp; refine hK _ ?_; clear hK K
            (first | ((with_reducible refine wl_skipU ?_ ?_ ?_); exact rfl; exact rfl) | ((with_reducible refine wl_skip ?_ ?_); exact rfl; simp only [put_lit, List.set_cons_zero, List.set_cons_succ]))
            (first | ((with_reducible refine wl_skipU ?_ ?_ ?_); exact rfl; exact rfl) | ((with_reducible refine wl_skip ?_ ?_); exact rfl; simp only [put_lit, List.set_cons_zero, List.set_cons_succ]))
            (first | ((with_reducible refine wl_skipU ?_ ?_ ?_); exact rfl; exact rfl) | ((with_reducible refine wl_skip ?_ ?_); exact rfl; simp only [put_lit, List.set_cons_zero, List.set_cons_succ]))
            (first | ((with_reducible refine wl_skipU ?_ ?_ ?_); exact rfl; exact rfl) | ((with_reducible refine wl_skip ?_ ?_); exact rfl; simp only [put_lit, List.set_cons_zero, List.set_cons_succ]))
            (first | ((with_reducible refine wl_skipU ?_ ?_ ?_); exact rfl; exact rfl) | ((with_reducible refine wl_skip ?_ ?_); exact rfl; simp only [put_lit, List.set_cons_zero, List.set_cons_succ]))
            (first | ((with_reducible refine wl_skipU ?_ ?_ ?_); exact rfl; exact rfl) | ((with_reducible refine wl_skip ?_ ?_); exact rfl; simp only [put_lit, List.set_cons_zero, List.set_cons_succ]))
            (first | ((with_reducible refine wl_skipU ?_ ?_ ?_); exact rfl; exact rfl) | ((with_reducible refine wl_skip ?_ ?_); exact rfl; simp only [put_lit, List.set_cons_zero, List.set_cons_succ]))
            (with_reducible refine wl_k ?_ ?_); exact rfl; intro K hK; go_simp; refine hK _ ?_; clear hK K
            have HC := Lib.hid (awake_any w9)
            go_upto_region 8 with (fail)
            apply wp_region_lit
            (with_reducible refine wl_ck ?_ ?_); exact rfl; intro K hK; go_simp; refine ⟨_, _, ⟨rfl, rfl⟩, hK _ _ ⟨_, HC.out, ?_⟩⟩; clear hK K; rintro e wa ⟨rfl, hba⟩; refine ⟨_, rfl, ?_⟩; simp only [put_lit, List.set_cons_zero, List.set_cons_succ]
            (with_reducible refine wl_k ?_ ?_); exact rfl; intro K hK; go_simp; refine hK _ ?_; clear hK K
            have hbb := hb.trans (hz.mono hb.size)
            replace hbb := hbb.trans (hba.mono hbb.size); clear hba
            clear HC
            go_wp2_with fail
            go_ret
            exact ⟨rfl, hbb⟩
          | true =>
            (with_reducible refine wl_k ?_ ?_); exact rfl; intro K hK; go_simp; refine hK _ ?_; clear hK K
            (with_reducible refine wl_k ?_ ?_); exact rfl; intro K hK; go_simp; refine hK _ ?_; clear hK K
            (with_reducible refine wl_k ?_ ?_); exact rfl; intro K hK; go_simp; refine hK _ ?_; clear hK K
            (with_reducible refine wl_k ?_ ?_); exact rfl; intro K hK; go_simp; refine hK _ ?_; clear hK K
            (with_reducible refine wl_k ?_ ?_); exact rfl; intro K hK; go_simp; refine hK _ ?_; clear hK K
            (with_reducible refine wl_k ?_ ?_); exact rfl; intro K hK; go_simp; refine hK _ ?_; clear hK K
            ((with_reducible apply wl_rowG); exact rfl; exact rfl; exact HR2.out _ (Keep.of hz))
            (with_reducible refine wl_ck ?_ ?_); exact rfl; intro K hK; go_simp; refine ⟨_, _, ⟨rfl, rfl⟩, hK _ _ ⟨_, (HC2.out _ hz), ?_⟩⟩; clear hK K; rintro e wa ⟨rfl, hba⟩; refine ⟨_, rfl, ?_⟩; simp only [put_lit, List.set_cons_zero, List.set_cons_succ]
            replace hz := hz.trans (hba.mono hz.size); clear hba
            cases vu with
            | false =>
              (with_reducible refine wl_k ?_ ?_); exact rfl; intro K hK; go_simp; refine hK _ ?_; clear hK K
              (with_reducible refine wl_k ?_ ?_); exact rfl; intro K hK; go_simp; refine hK _ ?_; clear hK K
              have HC := Lib.hid (awake_any wa)
              go_upto_region 8 with (fail)
              apply wp_region_lit
              (with_reducible refine wl_ck ?_ ?_); exact rfl; intro K hK; go_simp; refine ⟨_, _, ⟨rfl, rfl⟩, hK _ _ ⟨_, HC.out, ?_⟩⟩; clear hK K; rintro e wb ⟨rfl, hbb2⟩; refine ⟨_, rfl, ?_⟩; simp only [put_lit, List.set_cons_zero, List.set_cons_succ]
              (with_reducible refine wl_k ?_ ?_); exact rfl; intro K hK; go_simp; refine hK _ ?_; clear hK K
              have hbb := hb.trans (hz.mono hb.size)
              replace hbb := hbb.trans (hbb2.mono hbb.size); clear hbb2
              clear HC
              go_wp2_with fail
              go_ret
              exact ⟨rfl, hbb⟩
            | true =>
              (with_reducible refine wl_k ?_ ?_); exact rfl; intro K hK; go_simp; refine hK _ ?_; clear hK K
              (with_reducible refine wl_k ?_ ?_); exact rfl; intro K hK; go_simp; refine hK _ ?_; clear hK K
              clear HC2
              have HWZ : Hid (wo.heap.size ≤ wa.heap.size) := Lib.hid hz.size
              have HNT : Hid (t.nodes ≤ 40 ∧ u.nodes ≤ 40) := Lib.hid ⟨open_small HVT.out.symm, open_small HVU.out.symm⟩
              have HCT : Hid (∀ w', Below wo.heap.size wo w' → Calls Tryd.prog 45 #[.agg (cell4 k1 s1 n1 A1 l1 c1)] w' (VaPost w' t)) := Lib.hid fun w' hw => VarsI_any t (by have := HNT.out; omega) w' _ _ (HTT.out.old hw)
              have HCU : Hid (∀ w', Below wo.heap.size wo w' → Calls Tryd.prog 45 #[.agg (cell4 k2 s2 n2 A2 l2 c2)] w' (VaPost w' u)) := Lib.hid fun w' hw => VarsI_any u (by have := HNT.out; omega) w' _ _ (HUU.out.old hw)
              go_upto_region 9 with (fail)
              refine wp_region_held_drew (S := Below wo.heap.size wo) mixed hz.drew (fun hS => ?_)
              refine ha_k (i := 0) rfl (by kernel_rfl) (by kernel_rfl) (by kernel_rfl) (fun _ _ _ _ h => h) hS rfl (fun K hK => ?_); go_simp; refine hK _ ?_; clear hK K; try simp only [put_lit, List.set_cons_zero, List.set_cons_succ]
              refine ha_k (i := 1) rfl (by kernel_rfl) (by kernel_rfl) (by kernel_rfl) (fun _ _ _ _ h => h) hS rfl (fun K hK => ?_); go_simp; refine hK _ ?_; clear hK K; try simp only [put_lit, List.set_cons_zero, List.set_cons_succ]
              refine ha_k (i := 2) rfl (by kernel_rfl) (by kernel_rfl) (by kernel_rfl) (fun _ _ _ _ h => h) hS rfl (fun K hK => ?_); go_simp; refine hK _ ?_; clear hK K; try simp only [put_lit, List.set_cons_zero, List.set_cons_succ]
              refine ha_k (i := 3) rfl (by kernel_rfl) (by kernel_rfl) (by kernel_rfl) (fun _ _ _ _ h => h) hS rfl (fun K hK => ?_); go_simp; refine hK _ ?_; clear hK K; try simp only [put_lit, List.set_cons_zero, List.set_cons_succ]
              refine ha_val (i := 4) rfl (by kernel_rfl) (by kernel_rfl) (by kernel_rfl) (fun _ _ _ h => h) hS rfl (fun w' hw' => ex_row rfl (HR1.out w' (Keep.of hw'))) ?_; try simp only [List.getElem_toArray, List.getElem_cons_succ, List.getElem_cons_zero, put_lit, List.set_cons_zero, List.set_cons_succ]
              refine ha_k (i := 6) rfl (by kernel_rfl) (by kernel_rfl) (by kernel_rfl) (fun _ _ _ _ h => h) hS rfl (fun K hK => ?_); go_simp; refine hK _ ?_; clear hK K; try simp only [put_lit, List.set_cons_zero, List.set_cons_succ]
              refine ha_k (i := 7) rfl (by kernel_rfl) (by kernel_rfl) (by kernel_rfl) (fun _ _ _ _ h => h) hS rfl (fun K hK => ?_); go_simp; refine hK _ ?_; clear hK K; try simp only [put_lit, List.set_cons_zero, List.set_cons_succ]
              refine ha_k (i := 8) rfl (by kernel_rfl) (by kernel_rfl) (by kernel_rfl) (fun _ _ _ _ h => h) hS rfl (fun K hK => ?_); go_simp; refine hK _ ?_; clear hK K; try simp only [put_lit, List.set_cons_zero, List.set_cons_succ]
              refine ha_k (i := 9) rfl (by kernel_rfl) (by kernel_rfl) (by kernel_rfl) (fun _ _ _ _ h => h) hS rfl (fun K hK => ?_); go_simp; refine hK _ ?_; clear hK K; try simp only [put_lit, List.set_cons_zero, List.set_cons_succ]
              refine ha_val (i := 10) rfl (by kernel_rfl) (by kernel_rfl) (by kernel_rfl) (fun _ _ _ h => h) hS rfl (fun w' hw' => ex_row rfl (HR2.out w' (Keep.of hw'))) ?_; try simp only [List.getElem_toArray, List.getElem_cons_succ, List.getElem_cons_zero, put_lit, List.set_cons_zero, List.set_cons_succ]
              refine ha_call (i := 5) (by kernel_rfl) rfl rfl (fun K hK => ?_); go_simp; refine ⟨_, _, ⟨rfl, rfl⟩, hK _ _ ⟨_, HCT.out _ hS, ?_⟩⟩; clear hK K; rintro e w9 ⟨Aa, la, ca, za, rfl, howa, hma, hla, hb9⟩
              have hsz1 := hS.size
              replace hS := hS.trans (hb9.mono hS.size)
              refine ⟨_, rfl, hS, ?_⟩
              try simp only [List.getElem_toArray, List.getElem_cons_succ, List.getElem_cons_zero, put_lit, List.set_cons_zero, List.set_cons_succ]
              refine ha_call (i := 11) (by kernel_rfl) rfl rfl (fun K hK => ?_); go_simp; refine ⟨_, _, ⟨rfl, rfl⟩, hK _ _ ⟨_, HCU.out _ hS, ?_⟩⟩; clear hK K; rintro e wb ⟨Ab, lb, cb, zb, rfl, howb, hmb, hlb, hbb⟩
              have hsz2 := hS.size
              replace hS := hS.trans (hbb.mono hS.size)
              refine ⟨_, rfl, hS, ?_⟩
              try simp only [List.getElem_toArray, List.getElem_cons_succ, List.getElem_cons_zero, put_lit, List.set_cons_zero, List.set_cons_succ]
              have hlz : za.length + zb.length ≤ 80 := by have := HNT.out; omega
              refine ha_catI (i := 12) (B := wo.heap.size) (by kernel_rfl) rfl rfl _ _ rfl rfl rfl ((howa.old hbb).weak (by omega)) howb.ixs howb.nocap (by omega) hS.size (fun A l c w' hg => hg.bel _ _ (fun b e => by have := (howa.old hbb).lt b e; omega) hS.size hS) ?_
              intro A7 l7 c7 w9' hown hgro hS9
              try simp only [List.getElem_toArray, List.getElem_cons_succ, List.getElem_cons_zero, put_lit, List.set_cons_zero, List.set_cons_succ]
              replace hS := hS9
              have HIX := Lib.hid hown.ixs
              have hlen7 : l7 ≤ 80 := by have := hown.ixs.1; simp at this; omega
              have HMZ : Hid (∀ x, x ∈ za ++ zb ↔ x ∈ t.nums ∨ x ∈ u.nums) := Lib.hid (fun x => by rw [List.mem_append, hma x, hmb x])
              have HLZ := Lib.hid hown.ixs.1
              clear hS9 howa hma hla hb9 howb hmb hlb hbb hlz hown hgro HCT HCU hsz1 hsz2
              refine ha_k (i := 13) rfl (by kernel_rfl) (by kernel_rfl) (by kernel_rfl) (fun _ _ _ _ h => h) hS rfl (fun K hK => ?_); go_simp; refine hK _ ?_; clear hK K; try simp only [put_lit, List.set_cons_zero, List.set_cons_succ]
              refine wpAnyH_done (by kernel_rfl) ?_ _
              replace hz := hS
              clear hS
              obtain ⟨zs, hzs⟩ : ∃ zs, zs = za ++ zb := ⟨_, rfl⟩
              rw [← hzs] at HIX HMZ HLZ
              clear hzs
              have HZL : Hid (∀ x, x ∈ zs → 0 ≤ x) := Lib.hid (fun x hx => by
                rcases (HMZ.out x).1 hx with h | h
                · exact (nums_open HVT.out.symm x h).1
                · exact (nums_open HVU.out.symm x h).1)
              have hy := Below.refl w9'.heap.size w9'
              go_upto_region 10 with (fail)
              apply wp_region_lit
              (with_reducible refine wl_k ?_ ?_); exact rfl; intro K hK; go_simp; refine hK _ ?_; clear hK K
              go_upto_region 11 with (fail)
              apply wp_region_lit
              (with_reducible refine wl_k ?_ ?_); exact rfl; intro K hK; go_simp; refine hK _ ?_; clear hK K
              go_wp2_with fail
              go_loopw [8, 9] (fun th i wr => ∃ (m : Nat) (b : Bool), m ≤ l7 ∧ i = .int .i64 (m : Int) ∧ th = .bool b ∧ Hid (b = true ↔ ∀ (i : Nat) (z : Int), i < m → zs[i]? = some z → Vd ts z.toNat) ∧ Below w9'.heap.size w9' wr) (fun _ i _ => l7 - (intOf i).toNat)
              case atStart => exact ⟨0, true, by omega, rfl, rfl, Lib.hid ⟨fun _ i z hi => by omega, fun _ => rfl⟩, hy⟩
              case round =>
                clear hy
                obtain ⟨m, b, hm, rfl, rfl, HBD, hy⟩ := hrel
                obtain ⟨wm, rfl⟩ : ∃ wm, wm = wr := ⟨_, rfl⟩
                go_upto_region 12 with (fail)
                by_cases hltm : m < l7
                · have hltmI : (m : Int) < (l7 : Int) := by omega
                  obtain ⟨z, bz, oz, hz1, rfl, hone⟩ := eq_tail (HIX.out.old hy) hltm
                  obtain ⟨zn, rfl⟩ : ∃ zn : Nat, z = (zn : Int) := ⟨z.toNat, by have := HZL.out z (List.mem_of_getElem? hz1); omega⟩
                  have HZ1 := Lib.hid hz1
                  have HON := Lib.hid hone
                  have HST : Hid (∀ b2 : Bool, (b2 = true ↔ Vd ts zn) → ((b && b2) = true ↔ ∀ (i : Nat) (z : Int), i < m + 1 → zs[i]? = some z → Vd ts z.toNat)) := Lib.hid (fun b2 h2 => by
                    rw [Bool.and_eq_true, HBD.out, h2]
                    constructor
                    · rintro ⟨h3, h4⟩ i z hi hzi
                      rcases Nat.lt_or_ge i m with h | h
                      · exact h3 i z h hzi
                      · obtain rfl : i = m := by omega
                        rw [HZ1.out] at hzi
                        cases hzi
                        simpa using h4
                    · intro h3
                      exact ⟨fun i z hi hzi => h3 i z (by omega) hzi, by simpa using h3 m _ (by omega) HZ1.out⟩)
                  clear hz1 hone
                  apply wp_region_lit
                  (with_reducible refine wl_k ?_ ?_); exact rfl; intro K hK; go_simp; refine hK _ ?_; clear hK K
                  (with_reducible refine wl_k ?_ ?_); exact rfl; intro K hK; go_simp; refine hK _ ?_; clear hK K
                  (with_reducible refine wl_k ?_ ?_); exact rfl; intro K hK; go_simp; refine hK _ ?_; clear hK K
                  (with_reducible refine wl_k ?_ ?_); exact rfl; intro K hK; go_simp; refine hK _ ?_; clear hK K
                  cases b with
                  | false =>
                    have HB2 : Hid (false = true ↔ ∀ (i : Nat) (z : Int), i < m + 1 → zs[i]? = some z → Vd ts z.toNat) := Lib.hid (by
                      by_cases hv : Vd ts zn
                      · simpa using HST.out true (by simp [hv])
                      · simpa using HST.out false (by simp [hv]))
                    go_upto_region 14 with (fail)
                    apply wp_region_lit
                    (with_reducible refine wl_k ?_ ?_); exact rfl; intro K hK; go_simp; refine hK _ ?_; clear hK K
                    (with_reducible refine wl_k ?_ ?_); exact rfl; intro K hK; go_simp; refine hK _ ?_; clear hK K
                    (first | ((with_reducible refine wl_skipU ?_ ?_ ?_); exact rfl; exact rfl) | ((with_reducible refine wl_skip ?_ ?_); exact rfl; simp only [put_lit, List.set_cons_zero, List.set_cons_succ]))
                    (first | ((with_reducible refine wl_skipU ?_ ?_ ?_); exact rfl; exact rfl) | ((with_reducible refine wl_skip ?_ ?_); exact rfl; simp only [put_lit, List.set_cons_zero, List.set_cons_succ]))
                    (first | ((with_reducible refine wl_skipU ?_ ?_ ?_); exact rfl; exact rfl) | ((with_reducible refine wl_skip ?_ ?_); exact rfl; simp only [put_lit, List.set_cons_zero, List.set_cons_succ]))
                    (first | ((with_reducible refine wl_skipU ?_ ?_ ?_); exact rfl; exact rfl) | ((with_reducible refine wl_skip ?_ ?_); exact rfl; simp only [put_lit, List.set_cons_zero, List.set_cons_succ]))
                    (first | ((with_reducible refine wl_skipU ?_ ?_ ?_); exact rfl; exact rfl) | ((with_reducible refine wl_skip ?_ ?_); exact rfl; simp only [put_lit, List.set_cons_zero, List.set_cons_succ]))
                    (first | ((with_reducible refine wl_skipU ?_ ?_ ?_); exact rfl; exact rfl) | ((with_reducible refine wl_skip ?_ ?_); exact rfl; simp only [put_lit, List.set_cons_zero, List.set_cons_succ]))
                    (first | ((with_reducible refine wl_skipU ?_ ?_ ?_); exact rfl; exact rfl) | ((with_reducible refine wl_skip ?_ ?_); exact rfl; simp only [put_lit, List.set_cons_zero, List.set_cons_succ]))
                    (with_reducible refine wl_k ?_ ?_); exact rfl; intro K hK; go_simp; refine hK _ ?_; clear hK K
                    (with_reducible refine wl_k ?_ ?_); exact rfl; intro K hK; go_simp; refine hK _ ?_; clear hK K
                    (first | ((with_reducible refine wl_skipU ?_ ?_ ?_); exact rfl; exact rfl) | ((with_reducible refine wl_skip ?_ ?_); exact rfl; simp only [put_lit, List.set_cons_zero, List.set_cons_succ]))
                    (first | ((with_reducible refine wl_skipU ?_ ?_ ?_); exact rfl; exact rfl) | ((with_reducible refine wl_skip ?_ ?_); exact rfl; simp only [put_lit, List.set_cons_zero, List.set_cons_succ]))
                    (first | ((with_reducible refine wl_skipU ?_ ?_ ?_); exact rfl; exact rfl) | ((with_reducible refine wl_skip ?_ ?_); exact rfl; simp only [put_lit, List.set_cons_zero, List.set_cons_succ]))
                    (first | ((with_reducible refine wl_skipU ?_ ?_ ?_); exact rfl; exact rfl) | ((with_reducible refine wl_skip ?_ ?_); exact rfl; simp only [put_lit, List.set_cons_zero, List.set_cons_succ]))
                    (first | ((with_reducible refine wl_skipU ?_ ?_ ?_); exact rfl; exact rfl) | ((with_reducible refine wl_skip ?_ ?_); exact rfl; simp only [put_lit, List.set_cons_zero, List.set_cons_succ]))
                    (first | ((with_reducible refine wl_skipU ?_ ?_ ?_); exact rfl; exact rfl) | ((with_reducible refine wl_skip ?_ ?_); exact rfl; simp only [put_lit, List.set_cons_zero, List.set_cons_succ]))
                    (first | ((with_reducible refine wl_skipU ?_ ?_ ?_); exact rfl; exact rfl) | ((with_reducible refine wl_skip ?_ ?_); exact rfl; simp only [put_lit, List.set_cons_zero, List.set_cons_succ]))
                    (first | ((with_reducible refine wl_skipU ?_ ?_ ?_); exact rfl; exact rfl) | ((with_reducible refine wl_skip ?_ ?_); exact rfl; simp only [put_lit, List.set_cons_zero, List.set_cons_succ]))
                    (with_reducible refine wl_k ?_ ?_); exact rfl; intro K hK; go_simp; refine hK _ ?_; clear hK K
                    (with_reducible refine wl_k ?_ ?_); exact rfl; intro K hK; go_simp; refine hK _ ?_; clear hK K
                    go_wp2_with fail
                    go_roundw
                    case rel => exact ⟨m + 1, false, by omega, by go_num, rfl, HB2, hy⟩
                    case measure => simp [intOf]; omega
                  | true =>
                    by_cases hzl : zn < l0
                    · have hzlI : (zn : Int) < (l0 : Int) := by omega
                      obtain ⟨bt, ot, x, rowx, rfl, -, hx, -⟩ := (HTS.out.old hb).get hzl
                      obtain ⟨rowx, hrx, htx⟩ := ((((HTS.out.old hb).old hz).old hy)).rowK hx
                      have HRX := Lib.hid hrx
                      obtain ⟨vb, hvb⟩ : ∃ vb, vb = validB false x := ⟨_, rfl⟩
                      have h1 := ValidI_any x wm _ _ htx
                      rw [← hvb] at h1
                      have HC := Lib.hid h1
                      have HB2 : Hid (vb = true ↔ ∀ (i : Nat) (z : Int), i < m + 1 → zs[i]? = some z → Vd ts z.toNat) := Lib.hid (by
                        have := HST.out vb (by
                          rw [hvb]
                          constructor
                          · intro h; exact ⟨x, hx, h⟩
                          · rintro ⟨y, h1, h2⟩
                            rw [hx] at h1
                            cases h1
                            exact h2)
                        simpa using this)
                      clear hrx htx hvb h1 hx
                      go_upto_region 14 with (fail)
                      apply wp_region_lit
                      (with_reducible refine wl_k ?_ ?_); exact rfl; intro K hK; go_simp; refine hK _ ?_; clear hK K
                      (with_reducible refine wl_k ?_ ?_); exact rfl; intro K hK; go_simp; refine hK _ ?_; clear hK K
                      (with_reducible refine wl_k ?_ ?_); exact rfl; intro K hK; go_simp; refine hK _ ?_; clear hK K
                      (with_reducible refine wl_k ?_ ?_); exact rfl; intro K hK; go_simp; refine hK _ ?_; clear hK K
                      (with_reducible refine wl_k ?_ ?_); exact rfl; intro K hK; go_simp; refine hK _ ?_; clear hK K
                      ((with_reducible apply wl_oneG); exact rfl; exact rfl; exact HON.out _ (Below.refl _ _))
                      (with_reducible refine wl_k ?_ ?_); exact rfl; intro K hK; go_simp; refine hK _ ?_; clear hK K
                      (with_reducible refine wl_k ?_ ?_); exact rfl; intro K hK; go_simp; refine hK _ ?_; clear hK K
                      (with_reducible refine wl_k ?_ ?_); exact rfl; intro K hK; go_simp; refine hK _ ?_; clear hK K
                      (with_reducible refine wl_k ?_ ?_); exact rfl; intro K hK; go_simp; refine hK _ ?_; clear hK K
                      (with_reducible refine wl_k ?_ ?_); exact rfl; intro K hK; go_simp; refine hK _ ?_; clear hK K
                      (with_reducible refine wl_k ?_ ?_); exact rfl; intro K hK; go_simp; refine hK _ ?_; clear hK K
                      (with_reducible refine wl_k ?_ ?_); exact rfl; intro K hK; go_simp; refine hK _ ?_; clear hK K
                      (with_reducible refine wl_k ?_ ?_); exact rfl; intro K hK; go_simp; refine hK _ ?_; clear hK K
                      (with_reducible refine wl_k ?_ ?_); exact rfl; intro K hK; go_simp; refine hK _ ?_; clear hK K
                      ((with_reducible apply wl_oneG); exact rfl; exact rfl; exact HON.out _ (Below.refl _ _))
                      (with_reducible refine wl_k ?_ ?_); exact rfl; intro K hK; go_simp; refine hK _ ?_; clear hK K
                      ((with_reducible apply wl_rowG); exact rfl; exact rfl; exact RowK.now HRX.out)
                      (with_reducible refine wl_ck ?_ ?_); exact rfl; intro K hK; go_simp; refine ⟨_, _, ⟨rfl, rfl⟩, hK _ _ ⟨_, HC.out, ?_⟩⟩; clear hK K; rintro e wx ⟨rfl, hbx⟩; refine ⟨_, rfl, ?_⟩; simp only [put_lit, List.set_cons_zero, List.set_cons_succ]
                      (with_reducible refine wl_k ?_ ?_); exact rfl; intro K hK; go_simp; refine hK _ ?_; clear hK K
                      (with_reducible refine wl_k ?_ ?_); exact rfl; intro K hK; go_simp; refine hK _ ?_; clear hK K
                      replace hy := hy.trans (hbx.mono hy.size); clear hbx
                      clear HC HRX
                      go_wp2_with fail
                      go_roundw
                      case rel => exact ⟨m + 1, vb, by omega, by go_num, rfl, HB2, hy⟩
                      case measure => simp [intOf]; omega
                    · have hzlI : ¬ (zn : Int) < (l0 : Int) := by omega
                      have HB2 : Hid (false = true ↔ ∀ (i : Nat) (z : Int), i < m + 1 → zs[i]? = some z → Vd ts z.toNat) := Lib.hid (by
                        have := HST.out false (by
                          constructor
                          · intro h; cases h
                          · rintro ⟨y, h1, -⟩
                            have := (List.getElem?_eq_some_iff.1 h1).1
                            rw [HL0.out] at this
                            exact absurd this hzl)
                        simpa using this)
                      go_upto_region 14 with (fail)
                      apply wp_region_lit
                      (with_reducible refine wl_k ?_ ?_); exact rfl; intro K hK; go_simp; refine hK _ ?_; clear hK K
                      (with_reducible refine wl_k ?_ ?_); exact rfl; intro K hK; go_simp; refine hK _ ?_; clear hK K
                      (with_reducible refine wl_k ?_ ?_); exact rfl; intro K hK; go_simp; refine hK _ ?_; clear hK K
                      (with_reducible refine wl_k ?_ ?_); exact rfl; intro K hK; go_simp; refine hK _ ?_; clear hK K
                      (with_reducible refine wl_k ?_ ?_); exact rfl; intro K hK; go_simp; refine hK _ ?_; clear hK K
                      ((with_reducible apply wl_oneG); exact rfl; exact rfl; exact HON.out _ (Below.refl _ _))
                      (with_reducible refine wl_k ?_ ?_); exact rfl; intro K hK; go_simp; refine hK _ ?_; clear hK K
                      (with_reducible refine wl_k ?_ ?_); exact rfl; intro K hK; go_simp; refine hK _ ?_; clear hK K
                      (with_reducible refine wl_k ?_ ?_); exact rfl; intro K hK; go_simp; refine hK _ ?_; clear hK K
                      (with_reducible refine wl_k ?_ ?_); exact rfl; intro K hK; go_simp; refine hK _ ?_; clear hK K
                      (with_reducible refine wl_k ?_ ?_); exact rfl; intro K hK; go_simp; refine hK _ ?_; clear hK K
                      (first | ((with_reducible refine wl_skipU ?_ ?_ ?_); exact rfl; exact rfl) | ((with_reducible refine wl_skip ?_ ?_); exact rfl; simp only [put_lit, List.set_cons_zero, List.set_cons_succ]))
                      (first | ((with_reducible refine wl_skipU ?_ ?_ ?_); exact rfl; exact rfl) | ((with_reducible refine wl_skip ?_ ?_); exact rfl; simp only [put_lit, List.set_cons_zero, List.set_cons_succ]))
                      (first | ((with_reducible refine wl_skipU ?_ ?_ ?_); exact rfl; exact rfl) | ((with_reducible refine wl_skip ?_ ?_); exact rfl; simp only [put_lit, List.set_cons_zero, List.set_cons_succ]))
                      (first | ((with_reducible refine wl_skipU ?_ ?_ ?_); exact rfl; exact rfl) | ((with_reducible refine wl_skip ?_ ?_); exact rfl; simp only [put_lit, List.set_cons_zero, List.set_cons_succ]))
                      (first | ((with_reducible refine wl_skipU ?_ ?_ ?_); exact rfl; exact rfl) | ((with_reducible refine wl_skip ?_ ?_); exact rfl; simp only [put_lit, List.set_cons_zero, List.set_cons_succ]))
                      (first | ((with_reducible refine wl_skipU ?_ ?_ ?_); exact rfl; exact rfl) | ((with_reducible refine wl_skip ?_ ?_); exact rfl; simp only [put_lit, List.set_cons_zero, List.set_cons_succ]))
                      (first | ((with_reducible refine wl_skipU ?_ ?_ ?_); exact rfl; exact rfl) | ((with_reducible refine wl_skip ?_ ?_); exact rfl; simp only [put_lit, List.set_cons_zero, List.set_cons_succ]))
                      (first | ((with_reducible refine wl_skipU ?_ ?_ ?_); exact rfl; exact rfl) | ((with_reducible refine wl_skip ?_ ?_); exact rfl; simp only [put_lit, List.set_cons_zero, List.set_cons_succ]))
                      (with_reducible refine wl_k ?_ ?_); exact rfl; intro K hK; go_simp; refine hK _ ?_; clear hK K
                      (with_reducible refine wl_k ?_ ?_); exact rfl; intro K hK; go_simp; refine hK _ ?_; clear hK K
                      go_wp2_with fail
                      go_roundw
                      case rel => exact ⟨m + 1, false, by omega, by go_num, rfl, HB2, hy⟩
                      case measure => simp [intOf]; omega
                · have hltmI : ¬ (m : Int) < (l7 : Int) := by omega
                  apply wp_region_lit
                  (with_reducible refine wl_k ?_ ?_); exact rfl; intro K hK; go_simp; refine hK _ ?_; clear hK K
                  (with_reducible refine wl_k ?_ ?_); exact rfl; intro K hK; go_simp; refine hK _ ?_; clear hK K
                  (with_reducible refine wl_k ?_ ?_); exact rfl; intro K hK; go_simp; refine hK _ ?_; clear hK K
                  (with_reducible refine wl_k ?_ ?_); exact rfl; intro K hK; go_simp; refine hK _ ?_; clear hK K
                  have HBE : Hid (b = true ↔ ∀ v : Nat, t.occ v = true ∨ u.occ v = true → Vd ts v) := Lib.hid (by
                    rw [HBD.out]
                    constructor
                    · intro h v hv
                      have hmem : (v : Int) ∈ zs := (HMZ.out _).2 (hv.imp (nums_occ t).2 (nums_occ u).2)
                      obtain ⟨i, hi⟩ := List.mem_iff_getElem?.1 hmem
                      have hil := (List.getElem?_eq_some_iff.1 hi).1
                      simpa using h i _ (by have := HLZ.out; omega) hi
                    · intro h i z _ hzi
                      have hmem := List.mem_of_getElem? hzi
                      obtain ⟨zn, rfl⟩ : ∃ zn : Nat, z = (zn : Int) := ⟨z.toNat, by have := HZL.out z hmem; omega⟩
                      simpa using h zn (((HMZ.out _).1 hmem).imp (nums_occ t).1 (nums_occ u).1))
                  have hyz := hz.trans (hy.mono hz.size)
                  clear hy hz
                  have HC1 : Hid (∀ w', Below wo.heap.size wo w' → Calls Tryd.prog 23 #[.agg (cell4 k1 s1 n1 A1 l1 c1), .slice A0 l0 c0] w' (NewTy w' (applyTy ts t))) := Lib.hid fun w' hw => ApplyI_any ts HNL.out t (by have := HNT.out; omega) w' _ _ (HTT.out.old hw) _ A0 l0 c0 ((HTS.out.old hb).old hw)
                  have HC2 : Hid (∀ w', Below wo.heap.size wo w' → Calls Tryd.prog 23 #[.agg (cell4 k2 s2 n2 A2 l2 c2), .slice A0 l0 c0] w' (NewTy w' (applyTy ts u))) := Lib.hid fun w' hw => ApplyI_any ts HNL.out u (by have := HNT.out; omega) w' _ _ (HUU.out.old hw) _ A0 l0 c0 ((HTS.out.old hb).old hw)
                  go_upto_region 15 with (fail)
                  refine wp_region_held_drew (S := Below wo.heap.size wo) mixed hyz.drew (fun hS => ?_)
                  cases b with
                  | false =>
                    refine ha_k (i := 0) rfl (by kernel_rfl) (by kernel_rfl) (by kernel_rfl) (fun _ _ _ _ h => h) hS rfl (fun K hK => ?_); go_simp; refine hK _ ?_; clear hK K; try simp only [put_lit, List.set_cons_zero, List.set_cons_succ]
                    refine ha_k (i := 1) rfl (by kernel_rfl) (by kernel_rfl) (by kernel_rfl) (fun _ _ _ _ h => h) hS rfl (fun K hK => ?_); go_simp; refine hK _ ?_; clear hK K; try simp only [put_lit, List.set_cons_zero, List.set_cons_succ]
                    refine ha_skip (i := 2) rfl (by kernel_rfl) (by kernel_rfl) (by kernel_rfl) (fun _ _ _ h => h) hS rfl ?_; simp only [List.getElem_toArray, List.getElem_cons_succ, List.getElem_cons_zero, put_lit, List.set_cons_zero, List.set_cons_succ]
                    refine ha_skip (i := 3) rfl (by kernel_rfl) (by kernel_rfl) (by kernel_rfl) (fun _ _ _ h => h) hS rfl ?_; simp only [List.getElem_toArray, List.getElem_cons_succ, List.getElem_cons_zero, put_lit, List.set_cons_zero, List.set_cons_succ]
                    refine ha_skip (i := 4) rfl (by kernel_rfl) (by kernel_rfl) (by kernel_rfl) (fun _ _ _ h => h) hS rfl ?_; simp only [List.getElem_toArray, List.getElem_cons_succ, List.getElem_cons_zero, put_lit, List.set_cons_zero, List.set_cons_succ]
                    refine ha_skip (i := 5) rfl (by kernel_rfl) (by kernel_rfl) (by kernel_rfl) (fun _ _ _ h => h) hS rfl ?_; simp only [List.getElem_toArray, List.getElem_cons_succ, List.getElem_cons_zero, put_lit, List.set_cons_zero, List.set_cons_succ]
                    refine ha_skip (i := 6) rfl (by kernel_rfl) (by kernel_rfl) (by kernel_rfl) (fun _ _ _ h => h) hS rfl ?_; simp only [List.getElem_toArray, List.getElem_cons_succ, List.getElem_cons_zero, put_lit, List.set_cons_zero, List.set_cons_succ]
                    refine ha_skip (i := 7) rfl (by kernel_rfl) (by kernel_rfl) (by kernel_rfl) (fun _ _ _ h => h) hS rfl ?_; simp only [List.getElem_toArray, List.getElem_cons_succ, List.getElem_cons_zero, put_lit, List.set_cons_zero, List.set_cons_succ]
                    refine ha_skip (i := 8) rfl (by kernel_rfl) (by kernel_rfl) (by kernel_rfl) (fun _ _ _ h => h) hS rfl ?_; simp only [List.getElem_toArray, List.getElem_cons_succ, List.getElem_cons_zero, put_lit, List.set_cons_zero, List.set_cons_succ]
                    refine ha_skip (i := 9) rfl (by kernel_rfl) (by kernel_rfl) (by kernel_rfl) (fun _ _ _ h => h) hS rfl ?_; simp only [List.getElem_toArray, List.getElem_cons_succ, List.getElem_cons_zero, put_lit, List.set_cons_zero, List.set_cons_succ]
                    refine ha_skip (i := 10) rfl (by kernel_rfl) (by kernel_rfl) (by kernel_rfl) (fun _ _ _ h => h) hS rfl ?_; simp only [List.getElem_toArray, List.getElem_cons_succ, List.getElem_cons_zero, put_lit, List.set_cons_zero, List.set_cons_succ]
                    refine ha_skip (i := 11) rfl (by kernel_rfl) (by kernel_rfl) (by kernel_rfl) (fun _ _ _ h => h) hS rfl ?_; simp only [List.getElem_toArray, List.getElem_cons_succ, List.getElem_cons_zero, put_lit, List.set_cons_zero, List.set_cons_succ]
                    refine ha_skip (i := 12) rfl (by kernel_rfl) (by kernel_rfl) (by kernel_rfl) (fun _ _ _ h => h) hS rfl ?_; simp only [List.getElem_toArray, List.getElem_cons_succ, List.getElem_cons_zero, put_lit, List.set_cons_zero, List.set_cons_succ]
                    refine ha_skip (i := 13) rfl (by kernel_rfl) (by kernel_rfl) (by kernel_rfl) (fun _ _ _ h => h) hS rfl ?_; simp only [List.getElem_toArray, List.getElem_cons_succ, List.getElem_cons_zero, put_lit, List.set_cons_zero, List.set_cons_succ]
                    refine ha_skip (i := 14) rfl (by kernel_rfl) (by kernel_rfl) (by kernel_rfl) (fun _ _ _ h => h) hS rfl ?_; simp only [List.getElem_toArray, List.getElem_cons_succ, List.getElem_cons_zero, put_lit, List.set_cons_zero, List.set_cons_succ]
                    refine ha_skip (i := 15) rfl (by kernel_rfl) (by kernel_rfl) (by kernel_rfl) (fun _ _ _ h => h) hS rfl ?_; simp only [List.getElem_toArray, List.getElem_cons_succ, List.getElem_cons_zero, put_lit, List.set_cons_zero, List.set_cons_succ]
                    refine ha_skip (i := 16) rfl (by kernel_rfl) (by kernel_rfl) (by kernel_rfl) (fun _ _ _ h => h) hS rfl ?_; simp only [List.getElem_toArray, List.getElem_cons_succ, List.getElem_cons_zero, put_lit, List.set_cons_zero, List.set_cons_succ]
                    refine ha_k (i := 17) rfl (by kernel_rfl) (by kernel_rfl) (by kernel_rfl) (fun _ _ _ _ h => h) hS rfl (fun K hK => ?_); go_simp; refine hK _ ?_; clear hK K; try simp only [put_lit, List.set_cons_zero, List.set_cons_succ]
                    refine wpAnyH_done (by kernel_rfl) ?_ _
                    have hbw := hb.trans (hS.mono hb.size)
                    have HOW2 := Lib.hid (HOW.out.old hS)
                    have HFL2 : Hid (n5 ≤ j + 1) := Lib.hid (by have := HFL.out; omega)
                    clear hS hyz HC1 HC2
                    go_wp2_with fail
                    go_roundw
                    case rel => exact ⟨j + 1, fs, by omega, by go_num, HOW2, HPF, Lib.hid (by rw [← HN5.out]; exact HFL2.out), hbw⟩
                    case measure => simp [intOf]; omega
                  | true =>
                    obtain ⟨q, hq⟩ : ∃ q, q = eqTy (applyTy ts t) (applyTy ts u) := ⟨_, rfl⟩
                    have HQ := Lib.hid hq
                    clear hq
                    refine ha_k (i := 0) rfl (by kernel_rfl) (by kernel_rfl) (by kernel_rfl) (fun _ _ _ _ h => h) hS rfl (fun K hK => ?_); go_simp; refine hK _ ?_; clear hK K; try simp only [put_lit, List.set_cons_zero, List.set_cons_succ]
                    refine ha_k (i := 1) rfl (by kernel_rfl) (by kernel_rfl) (by kernel_rfl) (fun _ _ _ _ h => h) hS rfl (fun K hK => ?_); go_simp; refine hK _ ?_; clear hK K; try simp only [put_lit, List.set_cons_zero, List.set_cons_succ]
                    refine ha_k (i := 2) rfl (by kernel_rfl) (by kernel_rfl) (by kernel_rfl) (fun _ _ _ _ h => h) hS rfl (fun K hK => ?_); go_simp; refine hK _ ?_; clear hK K; try simp only [put_lit, List.set_cons_zero, List.set_cons_succ]
                    refine ha_k (i := 3) rfl (by kernel_rfl) (by kernel_rfl) (by kernel_rfl) (fun _ _ _ _ h => h) hS rfl (fun K hK => ?_); go_simp; refine hK _ ?_; clear hK K; try simp only [put_lit, List.set_cons_zero, List.set_cons_succ]
                    refine ha_k (i := 4) rfl (by kernel_rfl) (by kernel_rfl) (by kernel_rfl) (fun _ _ _ _ h => h) hS rfl (fun K hK => ?_); go_simp; refine hK _ ?_; clear hK K; try simp only [put_lit, List.set_cons_zero, List.set_cons_succ]
                    refine ha_k (i := 5) rfl (by kernel_rfl) (by kernel_rfl) (by kernel_rfl) (fun _ _ _ _ h => h) hS rfl (fun K hK => ?_); go_simp; refine hK _ ?_; clear hK K; try simp only [put_lit, List.set_cons_zero, List.set_cons_succ]
                    refine ha_val (i := 6) rfl (by kernel_rfl) (by kernel_rfl) (by kernel_rfl) (fun _ _ _ h => h) hS rfl (fun w' hw' => ex_row rfl (HR1.out w' (Keep.of hw'))) ?_; try simp only [List.getElem_toArray, List.getElem_cons_succ, List.getElem_cons_zero, put_lit, List.set_cons_zero, List.set_cons_succ]
                    refine ha_k (i := 7) rfl (by kernel_rfl) (by kernel_rfl) (by kernel_rfl) (fun _ _ _ _ h => h) hS rfl (fun K hK => ?_); go_simp; refine hK _ ?_; clear hK K; try simp only [put_lit, List.set_cons_zero, List.set_cons_succ]
                    refine ha_k (i := 9) rfl (by kernel_rfl) (by kernel_rfl) (by kernel_rfl) (fun _ _ _ _ h => h) hS rfl (fun K hK => ?_); go_simp; refine hK _ ?_; clear hK K; try simp only [put_lit, List.set_cons_zero, List.set_cons_succ]
                    refine ha_k (i := 10) rfl (by kernel_rfl) (by kernel_rfl) (by kernel_rfl) (fun _ _ _ _ h => h) hS rfl (fun K hK => ?_); go_simp; refine hK _ ?_; clear hK K; try simp only [put_lit, List.set_cons_zero, List.set_cons_succ]
                    refine ha_k (i := 11) rfl (by kernel_rfl) (by kernel_rfl) (by kernel_rfl) (fun _ _ _ _ h => h) hS rfl (fun K hK => ?_); go_simp; refine hK _ ?_; clear hK K; try simp only [put_lit, List.set_cons_zero, List.set_cons_succ]
                    refine ha_k (i := 12) rfl (by kernel_rfl) (by kernel_rfl) (by kernel_rfl) (fun _ _ _ _ h => h) hS rfl (fun K hK => ?_); go_simp; refine hK _ ?_; clear hK K; try simp only [put_lit, List.set_cons_zero, List.set_cons_succ]
                    refine ha_val (i := 13) rfl (by kernel_rfl) (by kernel_rfl) (by kernel_rfl) (fun _ _ _ h => h) hS rfl (fun w' hw' => ex_row rfl (HR2.out w' (Keep.of hw'))) ?_; try simp only [List.getElem_toArray, List.getElem_cons_succ, List.getElem_cons_zero, put_lit, List.set_cons_zero, List.set_cons_succ]
                    refine ha_k (i := 14) rfl (by kernel_rfl) (by kernel_rfl) (by kernel_rfl) (fun _ _ _ _ h => h) hS rfl (fun K hK => ?_); go_simp; refine hK _ ?_; clear hK K; try simp only [put_lit, List.set_cons_zero, List.set_cons_succ]
                    refine ha_call (i := 8) (by kernel_rfl) rfl rfl (fun K hK => ?_); go_simp; refine ⟨_, _, ⟨rfl, rfl⟩, hK _ _ ⟨_, HC1.out _ hS, ?_⟩⟩; clear hK K; rintro e w9 ⟨row9, rfl, hta9, hb9⟩
                    replace hS := hS.trans (hb9.mono hS.size)
                    refine ⟨_, rfl, hS, ?_⟩
                    obtain ⟨k9, s9, n9, A9, l9, c9, ts9, hu9, rfl, -⟩ := hta9.parts
                    have HA9 := Lib.hid hta9
                    clear hta9 hu9 hb9
                    try simp only [List.getElem_toArray, List.getElem_cons_succ, List.getElem_cons_zero, put_lit, List.set_cons_zero, List.set_cons_succ]
                    refine ha_call (i := 15) (by kernel_rfl) rfl rfl (fun K hK => ?_); go_simp; refine ⟨_, _, ⟨rfl, rfl⟩, hK _ _ ⟨_, HC2.out _ hS, ?_⟩⟩; clear hK K; rintro e wx ⟨rowa, rfl, htaa, hba2⟩
                    replace hS := hS.trans (hba2.mono hS.size)
                    refine ⟨_, rfl, hS, ?_⟩
                    obtain ⟨ka, sa, na, Aa, la, ca, tsa, hua, rfl, -⟩ := htaa.parts
                    have he := EqType_any _ _ wx _ _ _ _ (HA9.out.old hba2) htaa
                    rw [← HQ.out] at he
                    have HC3 := Lib.hid he
                    clear htaa hua hba2 he HA9
                    try simp only [List.getElem_toArray, List.getElem_cons_succ, List.getElem_cons_zero, put_lit, List.set_cons_zero, List.set_cons_succ]
                    refine ha_call (i := 16) (by kernel_rfl) rfl rfl (fun K hK => ?_); go_simp; refine ⟨_, _, ⟨rfl, rfl⟩, hK _ _ ⟨_, HC3.out, ?_⟩⟩; clear hK K; rintro e wy ⟨rfl, hby⟩
                    replace hS := hS.trans (hby.mono hS.size)
                    refine ⟨_, rfl, hS, ?_⟩
                    clear hby HC3
                    try simp only [List.getElem_toArray, List.getElem_cons_succ, List.getElem_cons_zero, put_lit, List.set_cons_zero, List.set_cons_succ]
                    refine ha_k (i := 17) rfl (by kernel_rfl) (by kernel_rfl) (by kernel_rfl) (fun _ _ _ _ h => h) hS rfl (fun K hK => ?_); go_simp; refine hK _ ?_; clear hK K; try simp only [put_lit, List.set_cons_zero, List.set_cons_succ]
                    refine wpAnyH_done (by kernel_rfl) ?_ _
                    have hbw := hb.trans (hS.mono hb.size)
                    have HOW2 := Lib.hid (HOW.out.old hS)
                    have HFL2 : Hid (n5 + 1 ≤ j + 1) := Lib.hid (by have := HFL.out; omega)
                    have HS9 := Lib.hid hS
                    clear hS hyz HC1 HC2
                    cases q with
                    | false =>
                      go_wp2_with fail
                      go_roundw
                      case rel => exact ⟨j + 1, fs, by omega, by go_num, HOW2, HPF, Lib.hid (by rw [← HN5.out]; have := HFL2.out; omega), hbw⟩
                      case measure => simp [intOf]; omega
                    | true =>
                      have HPF2 : Hid (PF ts (fs ++ [(t, u)])) := Lib.hid ⟨fun p hp => by
                        rcases List.mem_append.1 hp with hp | hp
                        · exact HPF.out.1 p hp
                        · simp at hp; subst hp; exact ⟨HVT.out.symm, HVU.out.symm⟩, fun p hp => by
                        rcases List.mem_append.1 hp with hp | hp
                        · exact HPF.out.2 p hp
                        · simp at hp; subst hp
                          exact ⟨HBE.out.1 rfl, by have := HQ.out; simpa [eqTy] using this.symm⟩⟩
                      have hwo := hb.size
                      go_upto_region 16 with (fail)
                      apply wp_region_lit
                      (with_reducible refine wl_k ?_ ?_); exact rfl; intro K hK; go_simp; refine hK _ ?_; clear hK K
                      (with_reducible refine wl_k ?_ ?_); exact rfl; intro K hK; go_simp; refine hK _ ?_; clear hK K
                      (with_reducible refine wl_k ?_ ?_); exact rfl; intro K hK; go_simp; refine hK _ ?_; clear hK K
                      (with_reducible refine wl_k ?_ ?_); exact rfl; intro K hK; go_simp; refine hK _ ?_; clear hK K
                      ((with_reducible apply wl_rowG); exact rfl; exact rfl; exact HR8.out _ (Keep.of HS9.out))
                      (with_reducible refine wl_bs1 rfl ?_)
                      intro W7 q7 hbn hlq7 hq7
                      have HOY7 := Lib.hid (HOW2.out.old hbn)
                      have HX17 := Lib.hid ((((HTT.out.old HS9.out).old hbn)).weak (D' := fun b => b < w.heap.size) fun b h => h.2)
                      have HX27 := Lib.hid ((((HUU.out.old HS9.out).old hbn)).weak (D' := fun b => b < w.heap.size) fun b h => h.2)
                      replace hbw := hbw.trans (hbn.mono hbw.size); clear hbn
                      simp only [put_lit, List.set_cons_zero, List.set_cons_succ]
                      refine wl_catE (v := .slice A5 n5 c5) rfl _ _ rfl rfl rfl HOY7.out (src_one hq7 HX17.out HX27.out) rfl (fun e => by cases e) (by have := HFL2.out; have := HN5.out; simp; omega) hbw.size ?_
                      intro v6 W6 hown hk6 hv6
                      have HOW6 := Lib.hid hown
                      have hbz := Below.keep hbw hk6 (fun b e => (HOY7.out.lt b e).1)
                      clear hown hk6 hv6 hq7 HOY7 HX17 HX27
                      simp only [put_lit, List.set_cons_zero, List.set_cons_succ]
                      (with_reducible refine wl_k ?_ ?_); exact rfl; intro K hK; go_simp; refine hK _ ?_; clear hK K
                      go_wp2_with fail
                      go_roundw
                      case rel => exact ⟨j + 1, _, by omega, by go_num, HOW6, HPF2, Lib.hid (by have := HFL2.out; have := HN5.out; simp; omega), hbz⟩
                      case measure => simp [intOf]; omega
        · have hltI : ¬ (j : Int) < (l : Int) := by omega
          apply wp_region_lit
          (with_reducible refine wl_k ?_ ?_); exact rfl; intro K hK; go_simp; refine hK _ ?_; clear hK K
          (with_reducible refine wl_k ?_ ?_); exact rfl; intro K hK; go_simp; refine hK _ ?_; clear hK K
          (with_reducible refine wl_k ?_ ?_); exact rfl; intro K hK; go_simp; refine hK _ ?_; clear hK K
          (with_reducible refine wl_k ?_ ?_); exact rfl; intro K hK; go_simp; refine hK _ ?_; clear hK K
          obtain ⟨kb, rb, hstb⟩ := unify_run fs
          obtain ⟨s, rfl, hprop⟩ := general_plain HPF.out.1 HPF.out.2 (hstb HPF.out.1)
          obtain ⟨hgs, -, -, -⟩ := steps_sound (hstb HPF.out.1) (start_good _) (fine_open HPF.out.1) s rfl
          have HPR := Lib.hid hprop
          have HGS := Lib.hid hgs
          obtain ⟨hq1, hq2, hq3, hq4, -⟩ := HOW.out.parts
          have HC := Lib.hid ((Unify_any fs kb (.ok s) hstb A5 n5 c5 wo Any (hq2.eqs hq1 hq3 hq4)).mono fun e w' h => h.say)
          clear hstb hprop hgs hq1 hq2 hq3 hq4 hltI hlt
          go_upto_region 17 with (fail)
          apply wp_region_lit
          (with_reducible refine wl_k ?_ ?_); exact rfl; intro K hK; go_simp; refine hK _ ?_; clear hK K
          (with_reducible refine wl_ck ?_ ?_); exact rfl; intro K hK; go_simp; refine ⟨_, _, ⟨rfl, rfl⟩, hK _ _ ⟨_, HC.out, ?_⟩⟩; clear hK K; rintro e w8 ⟨A8, l8, c8, e8, rfl, hsay⟩; refine ⟨_, rfl, ?_⟩; simp only [put_lit, List.set_cons_zero, List.set_cons_succ]
          (with_reducible refine wl_k ?_ ?_); exact rfl; intro K hK; go_simp; refine hK _ ?_; clear hK K
          (with_reducible refine wl_k ?_ ?_); exact rfl; intro K hK; go_simp; refine hK _ ?_; clear hK K
          (with_reducible refine wl_k ?_ ?_); exact rfl; intro K hK; go_simp; refine hK _ ?_; clear hK K
          (with_reducible refine wl_k ?_ ?_); exact rfl; intro K hK; go_simp; refine hK _ ?_; clear hK K
          (with_reducible refine wl_k ?_ ?_); exact rfl; intro K hK; go_simp; refine hK _ ?_; clear hK K
          clear HC
          obtain ⟨hb8, ⟨ho, -⟩ | ⟨-, h, -⟩ | ⟨-, rfl, s1, h1, hta⟩⟩ := hsay
          · exact absurd HPF.out.1 ho
          · cases h
          cases h1
          have HTA := Lib.hid hta
          have HLS := Lib.hid hta.len
          have hmx8 : l8 ≤ 9223372036854775807 := by have h1 := hta.cap; have h2 := hta.max; unfold maxLen at h2; omega
          clear hta
          replace hb := hb.trans (hb8.mono hb.size); clear hb8
          have HB8 := Lib.hid hb
          have hz := Below.refl w8.heap.size w8
          clear hb
          go_upto_region 18 with (fail)
          apply wp_region_lit
          (with_reducible refine wl_k ?_ ?_); exact rfl; intro K hK; go_simp; refine hK _ ?_; clear hK K
          (with_reducible refine wl_k ?_ ?_); exact rfl; intro K hK; go_simp; refine hK _ ?_; clear hK K
          go_upto_region 20 with (fail)
          apply wp_region_lit
          (with_reducible refine wl_k ?_ ?_); exact rfl; intro K hK; go_simp; refine hK _ ?_; clear hK K
          go_wp2_with fail
          go_loopw [12] (fun i wr => ∃ v : Nat, v ≤ l8 ∧ i = .int .i64 (v : Int) ∧ Below w8.heap.size w8 wr) (fun i _ => l8 - (intOf i).toNat)
          case atStart => exact ⟨0, by omega, rfl, hz⟩
          case round =>
            clear hz
            obtain ⟨v, hv, rfl, hz⟩ := hrel
            go_upto_region 21 with (fail)
            by_cases hlt : v < l8
            · have hltI : (v : Int) < (l8 : Int) := by omega
              obtain ⟨bl, off, x, row0, rfl, -, hx, -⟩ := (HTA.out.old hz).get hlt
              obtain ⟨row, hrow, htx⟩ := (HTA.out.old hz).rowK hx
              obtain ⟨k1, s1, n1, A1, l1, c1, ts1, hu1, rfl, -⟩ := htx.parts
              have HTX := Lib.hid htx
              have HRW := Lib.hid hrow
              have HXN : Hid (x.nodes ≤ 40) := Lib.hid (HGS.out.size x (List.mem_of_getElem? hx))
              have HXI := Lib.hid hx
              clear htx hrow hu1 hx
              apply wp_region_lit
              (with_reducible refine wl_k ?_ ?_); exact rfl; intro K hK; go_simp; refine hK _ ?_; clear hK K
              (with_reducible refine wl_k ?_ ?_); exact rfl; intro K hK; go_simp; refine hK _ ?_; clear hK K
              (with_reducible refine wl_k ?_ ?_); exact rfl; intro K hK; go_simp; refine hK _ ?_; clear hK K
              (with_reducible refine wl_k ?_ ?_); exact rfl; intro K hK; go_simp; refine hK _ ?_; clear hK K
              by_cases hv0 : v < l0
              · have hv0I : (v : Int) < (l0 : Int) := by omega
                have HT0 := Lib.hid ((HTS.out.old HB8.out).old hz)
                obtain ⟨bt, ot, y, rowy, rfl, -, hy, -⟩ := HT0.out.get hv0
                obtain ⟨rowy, hry, hty⟩ := HT0.out.rowK hy
                obtain ⟨k2, s2, n2, A2, l2, c2, ts2, hu2, rfl, -⟩ := hty.parts
                have HTY := Lib.hid hty
                have HRY := Lib.hid hry
                obtain ⟨vb, hvb⟩ : ∃ vb, vb = validB false y := ⟨_, rfl⟩
                have HVB := Lib.hid hvb
                have HYI := Lib.hid hy
                have HCV : Hid (∀ w', Below wr.heap.size wr w' → Calls Tryd.prog 38 #[.agg (cell4 k2 s2 n2 A2 l2 c2)] w' fun e w2 => e = .returned (.bool vb) ∧ Below w'.heap.size w' w2) := Lib.hid fun w' hw => by rw [hvb]; exact ValidI_any y w' _ _ (HTY.out.old hw)
                have HC1 : Hid (∀ w', Below wr.heap.size wr w' → Calls Tryd.prog 22 #[.agg (cell4 k1 s1 n1 A1 l1 c1), .slice (some ⟨bt, ot, none⟩) l0 c0] w' (NewTy w' (applyTy ts x))) := Lib.hid fun w' hw => Apply_any ts HNL.out x (by have := HXN.out; omega) w' _ _ _ (HTX.out.old hw) _ l0 c0 (HT0.out.old hw)
                clear hty hry hu2 hvb hy
                go_upto_region 23 with (fail)
                refine wp_region_held_drew (S := Below wr.heap.size wr) mixed ((Below.refl _ _).drew) (fun hS => ?_)
                refine ha_k (i := 0) rfl (by kernel_rfl) (by kernel_rfl) (by kernel_rfl) (fun _ _ _ _ h => h) hS rfl (fun K hK => ?_); go_simp; refine hK _ ?_; clear hK K; try simp only [put_lit, List.set_cons_zero, List.set_cons_succ]
                refine ha_k (i := 1) rfl (by kernel_rfl) (by kernel_rfl) (by kernel_rfl) (fun _ _ _ _ h => h) hS rfl (fun K hK => ?_); go_simp; refine hK _ ?_; clear hK K; try simp only [put_lit, List.set_cons_zero, List.set_cons_succ]
                refine ha_k (i := 2) rfl (by kernel_rfl) (by kernel_rfl) (by kernel_rfl) (fun _ _ _ _ h => h) hS rfl (fun K hK => ?_); go_simp; refine hK _ ?_; clear hK K; try simp only [put_lit, List.set_cons_zero, List.set_cons_succ]
                refine ha_k (i := 3) rfl (by kernel_rfl) (by kernel_rfl) (by kernel_rfl) (fun _ _ _ _ h => h) hS rfl (fun K hK => ?_); go_simp; refine hK _ ?_; clear hK K; try simp only [put_lit, List.set_cons_zero, List.set_cons_succ]
                refine ha_k (i := 4) rfl (by kernel_rfl) (by kernel_rfl) (by kernel_rfl) (fun _ _ _ _ h => h) hS rfl (fun K hK => ?_); go_simp; refine hK _ ?_; clear hK K; try simp only [put_lit, List.set_cons_zero, List.set_cons_succ]
                refine ha_k (i := 5) rfl (by kernel_rfl) (by kernel_rfl) (by kernel_rfl) (fun _ _ _ _ h => h) hS rfl (fun K hK => ?_); go_simp; refine hK _ ?_; clear hK K; try simp only [put_lit, List.set_cons_zero, List.set_cons_succ]
                refine ha_k (i := 6) rfl (by kernel_rfl) (by kernel_rfl) (by kernel_rfl) (fun _ _ _ _ h => h) hS rfl (fun K hK => ?_); go_simp; refine hK _ ?_; clear hK K; try simp only [put_lit, List.set_cons_zero, List.set_cons_succ]
                refine ha_k (i := 7) rfl (by kernel_rfl) (by kernel_rfl) (by kernel_rfl) (fun _ _ _ _ h => h) hS rfl (fun K hK => ?_); go_simp; refine hK _ ?_; clear hK K; try simp only [put_lit, List.set_cons_zero, List.set_cons_succ]
                refine ha_val (i := 8) rfl (by kernel_rfl) (by kernel_rfl) (by kernel_rfl) (fun _ _ _ h => h) hS rfl (fun w' hw' => ex_row rfl (HRY.out.at hw')) ?_; try simp only [List.getElem_toArray, List.getElem_cons_succ, List.getElem_cons_zero, put_lit, List.set_cons_zero, List.set_cons_succ]
                refine ha_call (i := 9) (by kernel_rfl) rfl rfl (fun K hK => ?_); go_simp; refine ⟨_, _, ⟨rfl, rfl⟩, hK _ _ ⟨_, HCV.out _ hS, ?_⟩⟩; clear hK K; rintro e w9 ⟨rfl, hb9⟩
                replace hS := hS.trans (hb9.mono hS.size)
                refine ⟨_, rfl, hS, ?_⟩
                clear hb9 HCV
                try simp only [List.getElem_toArray, List.getElem_cons_succ, List.getElem_cons_zero, put_lit, List.set_cons_zero, List.set_cons_succ]
                cases vb with
                | true =>
                  have HEQ : Hid (applyTy ts x = y) := Lib.hid (HPR.out v x y HXI.out HYI.out HVB.out.symm)
                  refine ha_k (i := 10) rfl (by kernel_rfl) (by kernel_rfl) (by kernel_rfl) (fun _ _ _ _ h => h) hS rfl (fun K hK => ?_); go_simp; refine hK _ ?_; clear hK K; try simp only [put_lit, List.set_cons_zero, List.set_cons_succ]
                  refine ha_k (i := 11) rfl (by kernel_rfl) (by kernel_rfl) (by kernel_rfl) (fun _ _ _ _ h => h) hS rfl (fun K hK => ?_); go_simp; refine hK _ ?_; clear hK K; try simp only [put_lit, List.set_cons_zero, List.set_cons_succ]
                  refine ha_k (i := 12) rfl (by kernel_rfl) (by kernel_rfl) (by kernel_rfl) (fun _ _ _ _ h => h) hS rfl (fun K hK => ?_); go_simp; refine hK _ ?_; clear hK K; try simp only [put_lit, List.set_cons_zero, List.set_cons_succ]
                  refine ha_k (i := 13) rfl (by kernel_rfl) (by kernel_rfl) (by kernel_rfl) (fun _ _ _ _ h => h) hS rfl (fun K hK => ?_); go_simp; refine hK _ ?_; clear hK K; try simp only [put_lit, List.set_cons_zero, List.set_cons_succ]
                  refine ha_k (i := 14) rfl (by kernel_rfl) (by kernel_rfl) (by kernel_rfl) (fun _ _ _ _ h => h) hS rfl (fun K hK => ?_); go_simp; refine hK _ ?_; clear hK K; try simp only [put_lit, List.set_cons_zero, List.set_cons_succ]
                  refine ha_val (i := 15) rfl (by kernel_rfl) (by kernel_rfl) (by kernel_rfl) (fun _ _ _ h => h) hS rfl (fun w' hw' => ex_row rfl (HRW.out.at hw')) ?_; try simp only [List.getElem_toArray, List.getElem_cons_succ, List.getElem_cons_zero, put_lit, List.set_cons_zero, List.set_cons_succ]
                  refine ha_k (i := 16) rfl (by kernel_rfl) (by kernel_rfl) (by kernel_rfl) (fun _ _ _ _ h => h) hS rfl (fun K hK => ?_); go_simp; refine hK _ ?_; clear hK K; try simp only [put_lit, List.set_cons_zero, List.set_cons_succ]
                  refine ha_k (i := 18) rfl (by kernel_rfl) (by kernel_rfl) (by kernel_rfl) (fun _ _ _ _ h => h) hS rfl (fun K hK => ?_); go_simp; refine hK _ ?_; clear hK K; try simp only [put_lit, List.set_cons_zero, List.set_cons_succ]
                  refine ha_k (i := 19) rfl (by kernel_rfl) (by kernel_rfl) (by kernel_rfl) (fun _ _ _ _ h => h) hS rfl (fun K hK => ?_); go_simp; refine hK _ ?_; clear hK K; try simp only [put_lit, List.set_cons_zero, List.set_cons_succ]
                  refine ha_k (i := 20) rfl (by kernel_rfl) (by kernel_rfl) (by kernel_rfl) (fun _ _ _ _ h => h) hS rfl (fun K hK => ?_); go_simp; refine hK _ ?_; clear hK K; try simp only [put_lit, List.set_cons_zero, List.set_cons_succ]
                  refine ha_val (i := 21) rfl (by kernel_rfl) (by kernel_rfl) (by kernel_rfl) (fun _ _ _ h => h) hS rfl (fun w' hw' => ex_row rfl (HRY.out.at hw')) ?_; try simp only [List.getElem_toArray, List.getElem_cons_succ, List.getElem_cons_zero, put_lit, List.set_cons_zero, List.set_cons_succ]
                  refine ha_call (i := 17) (by kernel_rfl) rfl rfl (fun K hK => ?_); go_simp; refine ⟨_, _, ⟨rfl, rfl⟩, hK _ _ ⟨_, HC1.out _ hS, ?_⟩⟩; clear hK K; rintro e wa ⟨rowa, rfl, htaa, hba⟩
                  replace hS := hS.trans (hba.mono hS.size)
                  refine ⟨_, rfl, hS, ?_⟩
                  obtain ⟨ka, sa, na, Aa, la, ca, tsa, hua, rfl, -⟩ := htaa.parts
                  have he := EqType_any _ _ wa _ _ _ _ htaa (HTY.out.old hS)
                  rw [eqTy_of_eq HEQ.out] at he
                  have HC3 := Lib.hid he
                  clear htaa hua hba he
                  try simp only [List.getElem_toArray, List.getElem_cons_succ, List.getElem_cons_zero, put_lit, List.set_cons_zero, List.set_cons_succ]
                  refine ha_call (i := 22) (by kernel_rfl) rfl rfl (fun K hK => ?_); go_simp; refine ⟨_, _, ⟨rfl, rfl⟩, hK _ _ ⟨_, HC3.out, ?_⟩⟩; clear hK K; rintro e wb ⟨rfl, hbb⟩
                  replace hS := hS.trans (hbb.mono hS.size)
                  refine ⟨_, rfl, hS, ?_⟩
                  clear hbb HC3
                  try simp only [List.getElem_toArray, List.getElem_cons_succ, List.getElem_cons_zero, put_lit, List.set_cons_zero, List.set_cons_succ]
                  refine ha_k (i := 23) rfl (by kernel_rfl) (by kernel_rfl) (by kernel_rfl) (fun _ _ _ _ h => h) hS rfl (fun K hK => ?_); go_simp; refine hK _ ?_; clear hK K; try simp only [put_lit, List.set_cons_zero, List.set_cons_succ]
                  refine ha_k (i := 24) rfl (by kernel_rfl) (by kernel_rfl) (by kernel_rfl) (fun _ _ _ _ h => h) hS rfl (fun K hK => ?_); go_simp; refine hK _ ?_; clear hK K; try simp only [put_lit, List.set_cons_zero, List.set_cons_succ]
                  refine wpAnyH_done (by kernel_rfl) ?_ _
                  replace hz := hz.trans (hS.mono hz.size)
                  clear hS HC1
                  go_wp2_with fail
                  go_roundw
                  case rel => exact ⟨v + 1, by omega, by go_num, hz⟩
                  case measure => simp [intOf]; omega
                | false =>
                  refine ha_k (i := 10) rfl (by kernel_rfl) (by kernel_rfl) (by kernel_rfl) (fun _ _ _ _ h => h) hS rfl (fun K hK => ?_); go_simp; refine hK _ ?_; clear hK K; try simp only [put_lit, List.set_cons_zero, List.set_cons_succ]
                  refine ha_k (i := 11) rfl (by kernel_rfl) (by kernel_rfl) (by kernel_rfl) (fun _ _ _ _ h => h) hS rfl (fun K hK => ?_); go_simp; refine hK _ ?_; clear hK K; try simp only [put_lit, List.set_cons_zero, List.set_cons_succ]
                  refine ha_skip (i := 12) rfl (by kernel_rfl) (by kernel_rfl) (by kernel_rfl) (fun _ _ _ h => h) hS rfl ?_; simp only [List.getElem_toArray, List.getElem_cons_succ, List.getElem_cons_zero, put_lit, List.set_cons_zero, List.set_cons_succ]
                  refine ha_skip (i := 13) rfl (by kernel_rfl) (by kernel_rfl) (by kernel_rfl) (fun _ _ _ h => h) hS rfl ?_; simp only [List.getElem_toArray, List.getElem_cons_succ, List.getElem_cons_zero, put_lit, List.set_cons_zero, List.set_cons_succ]
                  refine ha_skip (i := 14) rfl (by kernel_rfl) (by kernel_rfl) (by kernel_rfl) (fun _ _ _ h => h) hS rfl ?_; simp only [List.getElem_toArray, List.getElem_cons_succ, List.getElem_cons_zero, put_lit, List.set_cons_zero, List.set_cons_succ]
                  refine ha_skip (i := 15) rfl (by kernel_rfl) (by kernel_rfl) (by kernel_rfl) (fun _ _ _ h => h) hS rfl ?_; simp only [List.getElem_toArray, List.getElem_cons_succ, List.getElem_cons_zero, put_lit, List.set_cons_zero, List.set_cons_succ]
                  refine ha_skip (i := 16) rfl (by kernel_rfl) (by kernel_rfl) (by kernel_rfl) (fun _ _ _ h => h) hS rfl ?_; simp only [List.getElem_toArray, List.getElem_cons_succ, List.getElem_cons_zero, put_lit, List.set_cons_zero, List.set_cons_succ]
                  refine ha_skip (i := 17) rfl (by kernel_rfl) (by kernel_rfl) (by kernel_rfl) (fun _ _ _ h => h) hS rfl ?_; simp only [List.getElem_toArray, List.getElem_cons_succ, List.getElem_cons_zero, put_lit, List.set_cons_zero, List.set_cons_succ]
                  refine ha_skip (i := 18) rfl (by kernel_rfl) (by kernel_rfl) (by kernel_rfl) (fun _ _ _ h => h) hS rfl ?_; simp only [List.getElem_toArray, List.getElem_cons_succ, List.getElem_cons_zero, put_lit, List.set_cons_zero, List.set_cons_succ]
                  refine ha_skip (i := 19) rfl (by kernel_rfl) (by kernel_rfl) (by kernel_rfl) (fun _ _ _ h => h) hS rfl ?_; simp only [List.getElem_toArray, List.getElem_cons_succ, List.getElem_cons_zero, put_lit, List.set_cons_zero, List.set_cons_succ]
                  refine ha_skip (i := 20) rfl (by kernel_rfl) (by kernel_rfl) (by kernel_rfl) (fun _ _ _ h => h) hS rfl ?_; simp only [List.getElem_toArray, List.getElem_cons_succ, List.getElem_cons_zero, put_lit, List.set_cons_zero, List.set_cons_succ]
                  refine ha_skip (i := 21) rfl (by kernel_rfl) (by kernel_rfl) (by kernel_rfl) (fun _ _ _ h => h) hS rfl ?_; simp only [List.getElem_toArray, List.getElem_cons_succ, List.getElem_cons_zero, put_lit, List.set_cons_zero, List.set_cons_succ]
                  refine ha_skip (i := 22) rfl (by kernel_rfl) (by kernel_rfl) (by kernel_rfl) (fun _ _ _ h => h) hS rfl ?_; simp only [List.getElem_toArray, List.getElem_cons_succ, List.getElem_cons_zero, put_lit, List.set_cons_zero, List.set_cons_succ]
                  refine ha_skip (i := 23) rfl (by kernel_rfl) (by kernel_rfl) (by kernel_rfl) (fun _ _ _ h => h) hS rfl ?_; simp only [List.getElem_toArray, List.getElem_cons_succ, List.getElem_cons_zero, put_lit, List.set_cons_zero, List.set_cons_succ]
                  refine ha_k (i := 24) rfl (by kernel_rfl) (by kernel_rfl) (by kernel_rfl) (fun _ _ _ _ h => h) hS rfl (fun K hK => ?_); go_simp; refine hK _ ?_; clear hK K; try simp only [put_lit, List.set_cons_zero, List.set_cons_succ]
                  refine wpAnyH_done (by kernel_rfl) ?_ _
                  replace hz := hz.trans (hS.mono hz.size)
                  clear hS HC1
                  go_wp2_with fail
                  go_roundw
                  case rel => exact ⟨v + 1, by omega, by go_num, hz⟩
                  case measure => simp [intOf]; omega
              · have hv0I : ¬ (v : Int) < (l0 : Int) := by omega
                go_upto_region 23 with (fail)
                refine wp_region_held_drew (S := Below wr.heap.size wr) mixed ((Below.refl _ _).drew) (fun hS => ?_)
                refine ha_k (i := 0) rfl (by kernel_rfl) (by kernel_rfl) (by kernel_rfl) (fun _ _ _ _ h => h) hS rfl (fun K hK => ?_); go_simp; refine hK _ ?_; clear hK K; try simp only [put_lit, List.set_cons_zero, List.set_cons_succ]
                refine ha_k (i := 1) rfl (by kernel_rfl) (by kernel_rfl) (by kernel_rfl) (fun _ _ _ _ h => h) hS rfl (fun K hK => ?_); go_simp; refine hK _ ?_; clear hK K; try simp only [put_lit, List.set_cons_zero, List.set_cons_succ]
                refine ha_k (i := 2) rfl (by kernel_rfl) (by kernel_rfl) (by kernel_rfl) (fun _ _ _ _ h => h) hS rfl (fun K hK => ?_); go_simp; refine hK _ ?_; clear hK K; try simp only [put_lit, List.set_cons_zero, List.set_cons_succ]
                refine ha_k (i := 3) rfl (by kernel_rfl) (by kernel_rfl) (by kernel_rfl) (fun _ _ _ _ h => h) hS rfl (fun K hK => ?_); go_simp; refine hK _ ?_; clear hK K; try simp only [put_lit, List.set_cons_zero, List.set_cons_succ]
                refine ha_k (i := 4) rfl (by kernel_rfl) (by kernel_rfl) (by kernel_rfl) (fun _ _ _ _ h => h) hS rfl (fun K hK => ?_); go_simp; refine hK _ ?_; clear hK K; try simp only [put_lit, List.set_cons_zero, List.set_cons_succ]
                refine ha_skip (i := 5) rfl (by kernel_rfl) (by kernel_rfl) (by kernel_rfl) (fun _ _ _ h => h) hS rfl ?_; simp only [List.getElem_toArray, List.getElem_cons_succ, List.getElem_cons_zero, put_lit, List.set_cons_zero, List.set_cons_succ]
                refine ha_skip (i := 6) rfl (by kernel_rfl) (by kernel_rfl) (by kernel_rfl) (fun _ _ _ h => h) hS rfl ?_; simp only [List.getElem_toArray, List.getElem_cons_succ, List.getElem_cons_zero, put_lit, List.set_cons_zero, List.set_cons_succ]
                refine ha_skip (i := 7) rfl (by kernel_rfl) (by kernel_rfl) (by kernel_rfl) (fun _ _ _ h => h) hS rfl ?_; simp only [List.getElem_toArray, List.getElem_cons_succ, List.getElem_cons_zero, put_lit, List.set_cons_zero, List.set_cons_succ]
                refine ha_skip (i := 8) rfl (by kernel_rfl) (by kernel_rfl) (by kernel_rfl) (fun _ _ _ h => h) hS rfl ?_; simp only [List.getElem_toArray, List.getElem_cons_succ, List.getElem_cons_zero, put_lit, List.set_cons_zero, List.set_cons_succ]
                refine ha_skip (i := 9) rfl (by kernel_rfl) (by kernel_rfl) (by kernel_rfl) (fun _ _ _ h => h) hS rfl ?_; simp only [List.getElem_toArray, List.getElem_cons_succ, List.getElem_cons_zero, put_lit, List.set_cons_zero, List.set_cons_succ]
                refine ha_k (i := 10) rfl (by kernel_rfl) (by kernel_rfl) (by kernel_rfl) (fun _ _ _ _ h => h) hS rfl (fun K hK => ?_); go_simp; refine hK _ ?_; clear hK K; try simp only [put_lit, List.set_cons_zero, List.set_cons_succ]
                refine ha_k (i := 11) rfl (by kernel_rfl) (by kernel_rfl) (by kernel_rfl) (fun _ _ _ _ h => h) hS rfl (fun K hK => ?_); go_simp; refine hK _ ?_; clear hK K; try simp only [put_lit, List.set_cons_zero, List.set_cons_succ]
                refine ha_skip (i := 12) rfl (by kernel_rfl) (by kernel_rfl) (by kernel_rfl) (fun _ _ _ h => h) hS rfl ?_; simp only [List.getElem_toArray, List.getElem_cons_succ, List.getElem_cons_zero, put_lit, List.set_cons_zero, List.set_cons_succ]
                refine ha_skip (i := 13) rfl (by kernel_rfl) (by kernel_rfl) (by kernel_rfl) (fun _ _ _ h => h) hS rfl ?_; simp only [List.getElem_toArray, List.getElem_cons_succ, List.getElem_cons_zero, put_lit, List.set_cons_zero, List.set_cons_succ]
                refine ha_skip (i := 14) rfl (by kernel_rfl) (by kernel_rfl) (by kernel_rfl) (fun _ _ _ h => h) hS rfl ?_; simp only [List.getElem_toArray, List.getElem_cons_succ, List.getElem_cons_zero, put_lit, List.set_cons_zero, List.set_cons_succ]
                refine ha_skip (i := 15) rfl (by kernel_rfl) (by kernel_rfl) (by kernel_rfl) (fun _ _ _ h => h) hS rfl ?_; simp only [List.getElem_toArray, List.getElem_cons_succ, List.getElem_cons_zero, put_lit, List.set_cons_zero, List.set_cons_succ]
                refine ha_skip (i := 16) rfl (by kernel_rfl) (by kernel_rfl) (by kernel_rfl) (fun _ _ _ h => h) hS rfl ?_; simp only [List.getElem_toArray, List.getElem_cons_succ, List.getElem_cons_zero, put_lit, List.set_cons_zero, List.set_cons_succ]
                refine ha_skip (i := 17) rfl (by kernel_rfl) (by kernel_rfl) (by kernel_rfl) (fun _ _ _ h => h) hS rfl ?_; simp only [List.getElem_toArray, List.getElem_cons_succ, List.getElem_cons_zero, put_lit, List.set_cons_zero, List.set_cons_succ]
                refine ha_skip (i := 18) rfl (by kernel_rfl) (by kernel_rfl) (by kernel_rfl) (fun _ _ _ h => h) hS rfl ?_; simp only [List.getElem_toArray, List.getElem_cons_succ, List.getElem_cons_zero, put_lit, List.set_cons_zero, List.set_cons_succ]
                refine ha_skip (i := 19) rfl (by kernel_rfl) (by kernel_rfl) (by kernel_rfl) (fun _ _ _ h => h) hS rfl ?_; simp only [List.getElem_toArray, List.getElem_cons_succ, List.getElem_cons_zero, put_lit, List.set_cons_zero, List.set_cons_succ]
                refine ha_skip (i := 20) rfl (by kernel_rfl) (by kernel_rfl) (by kernel_rfl) (fun _ _ _ h => h) hS rfl ?_; simp only [List.getElem_toArray, List.getElem_cons_succ, List.getElem_cons_zero, put_lit, List.set_cons_zero, List.set_cons_succ]
                refine ha_skip (i := 21) rfl (by kernel_rfl) (by kernel_rfl) (by kernel_rfl) (fun _ _ _ h => h) hS rfl ?_; simp only [List.getElem_toArray, List.getElem_cons_succ, List.getElem_cons_zero, put_lit, List.set_cons_zero, List.set_cons_succ]
                refine ha_skip (i := 22) rfl (by kernel_rfl) (by kernel_rfl) (by kernel_rfl) (fun _ _ _ h => h) hS rfl ?_; simp only [List.getElem_toArray, List.getElem_cons_succ, List.getElem_cons_zero, put_lit, List.set_cons_zero, List.set_cons_succ]
                refine ha_skip (i := 23) rfl (by kernel_rfl) (by kernel_rfl) (by kernel_rfl) (fun _ _ _ h => h) hS rfl ?_; simp only [List.getElem_toArray, List.getElem_cons_succ, List.getElem_cons_zero, put_lit, List.set_cons_zero, List.set_cons_succ]
                refine ha_k (i := 24) rfl (by kernel_rfl) (by kernel_rfl) (by kernel_rfl) (fun _ _ _ _ h => h) hS rfl (fun K hK => ?_); go_simp; refine hK _ ?_; clear hK K; try simp only [put_lit, List.set_cons_zero, List.set_cons_succ]
                refine wpAnyH_done (by kernel_rfl) ?_ _
                replace hz := hz.trans (hS.mono hz.size)
                clear hS
                go_wp2_with fail
                go_roundw
                case rel => exact ⟨v + 1, by omega, by go_num, hz⟩
                case measure => simp [intOf]; omega
            · have hltI : ¬ (v : Int) < (l8 : Int) := by omega
              apply wp_region_lit
              (with_reducible refine wl_k ?_ ?_); exact rfl; intro K hK; go_simp; refine hK _ ?_; clear hK K
              (with_reducible refine wl_k ?_ ?_); exact rfl; intro K hK; go_simp; refine hK _ ?_; clear hK K
              (with_reducible refine wl_k ?_ ?_); exact rfl; intro K hK; go_simp; refine hK _ ?_; clear hK K
              (with_reducible refine wl_k ?_ ?_); exact rfl; intro K hK; go_simp; refine hK _ ?_; clear hK K
              have HC := Lib.hid (awake_any wr)
              go_upto_region 25 with (fail)
              apply wp_region_lit
              (with_reducible refine wl_ck ?_ ?_); exact rfl; intro K hK; go_simp; refine ⟨_, _, ⟨rfl, rfl⟩, hK _ _ ⟨_, HC.out, ?_⟩⟩; clear hK K; rintro e w9 ⟨rfl, hb9⟩; refine ⟨_, rfl, ?_⟩; simp only [put_lit, List.set_cons_zero, List.set_cons_succ]
              (with_reducible refine wl_k ?_ ?_); exact rfl; intro K hK; go_simp; refine hK _ ?_; clear hK K
              clear HC
              go_wp2_with fail
              go_ret
              exact ⟨rfl, (HB8.out.trans (hz.mono HB8.out.size)).trans (hb9.mono (by have := HB8.out.size; have := hz.size; omega))⟩
end Go.Proofs.YtokmaehefenpmaaDoor
