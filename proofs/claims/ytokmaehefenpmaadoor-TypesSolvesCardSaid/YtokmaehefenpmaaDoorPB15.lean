/- TypesSolves: the law function answers true. -/
import Derived.Test.YtokmaehefenpmaaDoorPB13
import Derived.Test.YtokmaehefenpmaaDoorPB14
import Derived.Test.YtokmaehefenpmaaDoorPB3
namespace Go.Proofs.YtokmaehefenpmaaDoor
open Go.RowKit Go.ChangeMaps Go.Proofs.YtokmaehefenpmaaDoor.Nm
set_option linter.unusedSimpArgs false
theorem unify_run (es : Eqs) : ∃ k r, OpenE es → Steps k es (start (mOf es)) r := by
  by_cases h : OpenE es
  · obtain ⟨k, r, hs⟩ := steps_end _ _ es (start (mOf es)) (start_good _) (fine_open h) (Nat.le_refl _) (Nat.le_refl _)
    exact ⟨k, r, fun _ => hs⟩
  · exact ⟨0, .ok [], fun h2 => absurd h2 h⟩
/-- What Unify hands back, in one form. -/
def USay (es : Eqs) (r : Except Int (List Ty)) (A : Option Addr) (l c : Nat) (err : Int) (w w' : World) : Prop := Below w.heap.size w w' ∧ ((¬ OpenE es ∧ A = none ∧ l = 0 ∧ c = 0 ∧ err = 30) ∨ (OpenE es ∧ r = .error err ∧ A = none ∧ l = 0 ∧ c = 0) ∨ (OpenE es ∧ err = 0 ∧ ∃ s, r = .ok s ∧ TysAt w' (fun b => w.heap.size ≤ b) s A l c))
theorem UPost.say {w w' : World} {es : Eqs} {r : Except Int (List Ty)} {e : Ending} (h : UPost w es r e w') : ∃ A l c err, e = .returned (.tuple #[.slice A l c, .int .i64 err]) ∧ USay es r A l c err w w' := by
  obtain ⟨hb, ⟨ho, he⟩ | ⟨ho, hr⟩⟩ := h
  · exact ⟨none, 0, 0, 30, he, hb, .inl ⟨ho, rfl, rfl, rfl, rfl⟩⟩
  · cases r with
    | error c => exact ⟨none, 0, 0, c, hr, hb, .inr (.inl ⟨ho, rfl, rfl, rfl, rfl⟩)⟩
    | ok s =>
      obtain ⟨A, l, c, he, ht⟩ := hr
      exact ⟨A, l, c, 0, he, hb, .inr (.inr ⟨ho, rfl, s, rfl, ht⟩)⟩
theorem eqTy_of_eq {t u : Ty} (h : t = u) : eqTy t u = true := by subst h; simp [eqTy]
set_option maxHeartbeats 8000000 in
set_option maxRecDepth 100000 in
theorem TypesSolves_any (es : Eqs) (A : Option Addr) (l c : Nat) (w : World) (D : Nat → Prop) (h : EqsAt w D es A l c) :
    Calls Tryd.prog 13 #[.slice A l c] w fun e w' => e = .returned (.bool true) ∧ Below w.heap.size w w' := by
  obtain ⟨kk, r, hst⟩ := unify_run es
  have HT := Lib.hid h
  have HL := Lib.hid h.len
  have HST := Lib.hid hst
  have hcm := h.cap
  have hmx := h.max
  unfold maxLen at hmx
  clear h hst
  have hb := Below.refl w.heap.size w
  go_enter Tryd.func13, Tryd.ntmps13
  have HC := Lib.hid (pairs_any es A l c w D HT.out)
  go_upto_region 1 with (fail)
  apply wp_region_lit
  (with_reducible refine wl_k ?_ ?_); exact rfl; intro K hK; go_simp; refine hK _ ?_; clear hK K
  (with_reducible refine wl_ck ?_ ?_); exact rfl; intro K hK; go_simp; refine ⟨_, _, ⟨rfl, rfl⟩, hK _ _ ⟨_, HC.out, ?_⟩⟩; clear hK K; rintro e w7 ⟨⟨b7, rfl, -⟩, hb7⟩; refine ⟨_, rfl, ?_⟩; simp only [put_lit, List.set_cons_zero, List.set_cons_succ]
  (with_reducible refine wl_k ?_ ?_); exact rfl; intro K hK; go_simp; refine hK _ ?_; clear hK K
  replace hb := hb.trans (hb7.mono hb.size); clear hb7
  clear HC
  cases b7 with
  | false =>
    go_upto_region 2 with (fail)
    apply wp_region_lit
    (with_reducible refine wl_k ?_ ?_); exact rfl; intro K hK; go_simp; refine hK _ ?_; clear hK K
    go_wp2_with fail
    go_ret
    exact ⟨rfl, hb⟩
  | true =>
    have HC := Lib.hid ((Unify_any es kk r HST.out A l c w7 D (HT.out.old hb)).mono fun e w' h => h.say)
    go_upto_region 3 with (fail)
    apply wp_region_lit
    (with_reducible refine wl_k ?_ ?_); exact rfl; intro K hK; go_simp; refine hK _ ?_; clear hK K
    (with_reducible refine wl_ck ?_ ?_); exact rfl; intro K hK; go_simp; refine ⟨_, _, ⟨rfl, rfl⟩, hK _ _ ⟨_, HC.out, ?_⟩⟩; clear hK K; rintro e w8 ⟨A8, l8, c8, err, rfl, hsay⟩; refine ⟨_, rfl, ?_⟩; simp only [put_lit, List.set_cons_zero, List.set_cons_succ]
    (with_reducible refine wl_k ?_ ?_); exact rfl; intro K hK; go_simp; refine hK _ ?_; clear hK K
    (with_reducible refine wl_k ?_ ?_); exact rfl; intro K hK; go_simp; refine hK _ ?_; clear hK K
    (with_reducible refine wl_k ?_ ?_); exact rfl; intro K hK; go_simp; refine hK _ ?_; clear hK K
    (with_reducible refine wl_k ?_ ?_); exact rfl; intro K hK; go_simp; refine hK _ ?_; clear hK K
    (with_reducible refine wl_k ?_ ?_); exact rfl; intro K hK; go_simp; refine hK _ ?_; clear hK K
    clear HC
    obtain ⟨hb8, ⟨-, rfl, rfl, rfl, rfl⟩ | ⟨ho, hr, rfl, rfl, rfl⟩ | ⟨ho, rfl, s, hr, hta⟩⟩ := hsay
    · replace hb := hb.trans (hb8.mono hb.size); clear hb8
      go_upto_region 4 with (fail)
      apply wp_region_lit
      (with_reducible refine wl_k ?_ ?_); exact rfl; intro K hK; go_simp; refine hK _ ?_; clear hK K
      (with_reducible refine wl_k ?_ ?_); exact rfl; intro K hK; go_simp; refine hK _ ?_; clear hK K
      have HC := Lib.hid (awake_any w8)
      go_upto_region 5 with (fail)
      apply wp_region_lit
      (with_reducible refine wl_k ?_ ?_); exact rfl; intro K hK; go_simp; refine hK _ ?_; clear hK K
      (with_reducible refine wl_k ?_ ?_); exact rfl; intro K hK; go_simp; refine hK _ ?_; clear hK K
      (with_reducible refine wl_k ?_ ?_); exact rfl; intro K hK; go_simp; refine hK _ ?_; clear hK K
      (with_reducible refine wl_k ?_ ?_); exact rfl; intro K hK; go_simp; refine hK _ ?_; clear hK K
      (with_reducible refine wl_ck ?_ ?_); exact rfl; intro K hK; go_simp; refine ⟨_, _, ⟨rfl, rfl⟩, hK _ _ ⟨_, HC.out, ?_⟩⟩; clear hK K; rintro e w9 ⟨rfl, hb9⟩; refine ⟨_, rfl, ?_⟩; simp only [put_lit, List.set_cons_zero, List.set_cons_succ]
      (with_reducible refine wl_k ?_ ?_); exact rfl; intro K hK; go_simp; refine hK _ ?_; clear hK K
      (with_reducible refine wl_k ?_ ?_); exact rfl; intro K hK; go_simp; refine hK _ ?_; clear hK K
      replace hb := hb.trans (hb9.mono hb.size); clear hb9
      clear HC
      go_wp2_with fail
      go_ret
      exact ⟨rfl, hb⟩
    · rcases steps_err (HST.out ho) (start_good _) (fine_open ho) err hr with rfl | rfl | rfl
      all_goals
        clear hr ho
        replace hb := hb.trans (hb8.mono hb.size); clear hb8
        go_upto_region 4 with (fail)
        apply wp_region_lit
        (with_reducible refine wl_k ?_ ?_); exact rfl; intro K hK; go_simp; refine hK _ ?_; clear hK K
        (with_reducible refine wl_k ?_ ?_); exact rfl; intro K hK; go_simp; refine hK _ ?_; clear hK K
        have HC := Lib.hid (awake_any w8)
        go_upto_region 5 with (fail)
        apply wp_region_lit
        (with_reducible refine wl_k ?_ ?_); exact rfl; intro K hK; go_simp; refine hK _ ?_; clear hK K
        (with_reducible refine wl_k ?_ ?_); exact rfl; intro K hK; go_simp; refine hK _ ?_; clear hK K
        (with_reducible refine wl_k ?_ ?_); exact rfl; intro K hK; go_simp; refine hK _ ?_; clear hK K
        (with_reducible refine wl_k ?_ ?_); exact rfl; intro K hK; go_simp; refine hK _ ?_; clear hK K
        (with_reducible refine wl_ck ?_ ?_); exact rfl; intro K hK; go_simp; refine ⟨_, _, ⟨rfl, rfl⟩, hK _ _ ⟨_, HC.out, ?_⟩⟩; clear hK K; rintro e w9 ⟨rfl, hb9⟩; refine ⟨_, rfl, ?_⟩; simp only [put_lit, List.set_cons_zero, List.set_cons_succ]
        (with_reducible refine wl_k ?_ ?_); exact rfl; intro K hK; go_simp; refine hK _ ?_; clear hK K
        (with_reducible refine wl_k ?_ ?_); exact rfl; intro K hK; go_simp; refine hK _ ?_; clear hK K
        replace hb := hb.trans (hb9.mono hb.size); clear hb9
        clear HC
        go_wp2_with fail
        go_ret
        exact ⟨rfl, hb⟩
    · obtain ⟨hgs, -, hsol, -⟩ := steps_sound (HST.out ho) (start_good _) (fine_open ho) s hr
      have HGS := Lib.hid hgs
      have HSOL := Lib.hid hsol
      have HTA := Lib.hid hta
      have HO := Lib.hid ho
      have HHL : Hid (w7.heap.size ≤ w8.heap.size) := Lib.hid hb8.size
      have hmx8 : l8 ≤ 9223372036854775807 := by have h1 := hta.cap; have h2 := hta.max; unfold maxLen at h2; omega
      have HL8 := Lib.hid hta.len
      have HNL : Hid (∀ u, u ∈ s → u.nodes ≤ 1000000) := Lib.hid (fun u hu => by have := hgs.size u hu; omega)
      clear hgs hsol hta ho hr
      replace hb := hb.trans (hb8.mono hb.size); clear hb8
      have HB8 := Lib.hid hb
      have hz := Below.refl w8.heap.size w8
      clear hb
      go_upto_region 4 with (fail)
      apply wp_region_lit
      (with_reducible refine wl_k ?_ ?_); exact rfl; intro K hK; go_simp; refine hK _ ?_; clear hK K
      (with_reducible refine wl_k ?_ ?_); exact rfl; intro K hK; go_simp; refine hK _ ?_; clear hK K
      go_upto_region 6 with (fail)
      apply wp_region_lit
      (with_reducible refine wl_k ?_ ?_); exact rfl; intro K hK; go_simp; refine hK _ ?_; clear hK K
      go_wp2_with fail
      go_loopw [5] (fun i wr => ∃ j : Nat, j ≤ l ∧ i = .int .i64 (j : Int) ∧ Below w8.heap.size w8 wr) (fun i _ => l - (intOf i).toNat)
      case atStart => exact ⟨0, by omega, rfl, hz⟩
      case round =>
        clear hz
        obtain ⟨j, hj, rfl, hz⟩ := hrel
        go_upto_region 7 with (fail)
        by_cases hlt : j < l
        · have hltI : (j : Int) < (l : Int) := by omega
          obtain ⟨t, u, hi⟩ := HT.out.ex hlt
          obtain ⟨bl, off, k1, s1, n1, A1, l1, c1, k2, s2, n2, A2, l2, c2, rfl, -, hr1, hr2, ht, hu⟩ := ((HT.out.old HB8.out).old hz).low.get hi (C := fun b => wr.heap.size ≤ b) (fun b h1 h2 => by have := h1.2; omega)
          have hmem := List.mem_of_getElem? hi
          have HR1 := Lib.hid hr1
          have HR2 := Lib.hid hr2
          have HTT := Lib.hid ht
          have HUU := Lib.hid hu
          have HEQ : Hid (applyTy s t = applyTy s u) := Lib.hid (HSOL.out _ hmem)
          have HNT : Hid (t.nodes ≤ 1000000 ∧ u.nodes ≤ 1000000) := Lib.hid (by have h1 := HO.out _ hmem; have h2 := open_small h1.1; have h3 := open_small h1.2; simp only at h2 h3; omega)
          clear hi hr1 hr2 ht hu hmem
          apply wp_region_lit
          (with_reducible refine wl_k ?_ ?_); exact rfl; intro K hK; go_simp; refine hK _ ?_; clear hK K
          (with_reducible refine wl_k ?_ ?_); exact rfl; intro K hK; go_simp; refine hK _ ?_; clear hK K
          (with_reducible refine wl_k ?_ ?_); exact rfl; intro K hK; go_simp; refine hK _ ?_; clear hK K
          (with_reducible refine wl_k ?_ ?_); exact rfl; intro K hK; go_simp; refine hK _ ?_; clear hK K
          have HC1 : Hid (∀ w', Below wr.heap.size wr w' → Calls Tryd.prog 22 #[.agg (cell4 k1 s1 n1 A1 l1 c1), .slice A8 l8 c8] w' (NewTy w' (applyTy s t))) := Lib.hid fun w' hw => Apply_any s HNL.out t HNT.out.1 w' _ _ _ (HTT.out.old hw) A8 l8 c8 ((HTA.out.old hz).old hw)
          have HC2 : Hid (∀ w', Below wr.heap.size wr w' → Calls Tryd.prog 22 #[.agg (cell4 k2 s2 n2 A2 l2 c2), .slice A8 l8 c8] w' (NewTy w' (applyTy s u))) := Lib.hid fun w' hw => Apply_any s HNL.out u HNT.out.2 w' _ _ _ (HUU.out.old hw) A8 l8 c8 ((HTA.out.old hz).old hw)
          go_upto_region 9 with (fail)
          refine wp_region_held_drew (S := Below wr.heap.size wr) mixed ((Below.refl _ _).drew) (fun hS => ?_)
          refine ha_k (i := 0) rfl (by kernel_rfl) (by kernel_rfl) (by kernel_rfl) (fun _ _ _ _ h => h) hS rfl (fun K hK => ?_); go_simp; refine hK _ ?_; clear hK K; try simp only [put_lit, List.set_cons_zero, List.set_cons_succ]
          refine ha_k (i := 1) rfl (by kernel_rfl) (by kernel_rfl) (by kernel_rfl) (fun _ _ _ _ h => h) hS rfl (fun K hK => ?_); go_simp; refine hK _ ?_; clear hK K; try simp only [put_lit, List.set_cons_zero, List.set_cons_succ]
          refine ha_k (i := 2) rfl (by kernel_rfl) (by kernel_rfl) (by kernel_rfl) (fun _ _ _ _ h => h) hS rfl (fun K hK => ?_); go_simp; refine hK _ ?_; clear hK K; try simp only [put_lit, List.set_cons_zero, List.set_cons_succ]
          refine ha_k (i := 3) rfl (by kernel_rfl) (by kernel_rfl) (by kernel_rfl) (fun _ _ _ _ h => h) hS rfl (fun K hK => ?_); go_simp; refine hK _ ?_; clear hK K; try simp only [put_lit, List.set_cons_zero, List.set_cons_succ]
          refine ha_val (i := 4) rfl (by kernel_rfl) (by kernel_rfl) (by kernel_rfl) (fun _ _ _ h => h) hS rfl (fun w' hw' => ex_row rfl (HR1.out w' (Keep.of hw'))) ?_; try simp only [List.getElem_toArray, List.getElem_cons_succ, List.getElem_cons_zero, put_lit, List.set_cons_zero, List.set_cons_succ]
          refine ha_k (i := 5) rfl (by kernel_rfl) (by kernel_rfl) (by kernel_rfl) (fun _ _ _ _ h => h) hS rfl (fun K hK => ?_); go_simp; refine hK _ ?_; clear hK K; try simp only [put_lit, List.set_cons_zero, List.set_cons_succ]
          refine ha_k (i := 7) rfl (by kernel_rfl) (by kernel_rfl) (by kernel_rfl) (fun _ _ _ _ h => h) hS rfl (fun K hK => ?_); go_simp; refine hK _ ?_; clear hK K; try simp only [put_lit, List.set_cons_zero, List.set_cons_succ]
          refine ha_k (i := 8) rfl (by kernel_rfl) (by kernel_rfl) (by kernel_rfl) (fun _ _ _ _ h => h) hS rfl (fun K hK => ?_); go_simp; refine hK _ ?_; clear hK K; try simp only [put_lit, List.set_cons_zero, List.set_cons_succ]
          refine ha_k (i := 9) rfl (by kernel_rfl) (by kernel_rfl) (by kernel_rfl) (fun _ _ _ _ h => h) hS rfl (fun K hK => ?_); go_simp; refine hK _ ?_; clear hK K; try simp only [put_lit, List.set_cons_zero, List.set_cons_succ]
          refine ha_k (i := 10) rfl (by kernel_rfl) (by kernel_rfl) (by kernel_rfl) (fun _ _ _ _ h => h) hS rfl (fun K hK => ?_); go_simp; refine hK _ ?_; clear hK K; try simp only [put_lit, List.set_cons_zero, List.set_cons_succ]
          refine ha_val (i := 11) rfl (by kernel_rfl) (by kernel_rfl) (by kernel_rfl) (fun _ _ _ h => h) hS rfl (fun w' hw' => ex_row rfl (HR2.out w' (Keep.of hw'))) ?_; try simp only [List.getElem_toArray, List.getElem_cons_succ, List.getElem_cons_zero, put_lit, List.set_cons_zero, List.set_cons_succ]
          refine ha_k (i := 12) rfl (by kernel_rfl) (by kernel_rfl) (by kernel_rfl) (fun _ _ _ _ h => h) hS rfl (fun K hK => ?_); go_simp; refine hK _ ?_; clear hK K; try simp only [put_lit, List.set_cons_zero, List.set_cons_succ]
          refine ha_call (i := 6) (by kernel_rfl) rfl rfl (fun K hK => ?_); go_simp; refine ⟨_, _, ⟨rfl, rfl⟩, hK _ _ ⟨_, HC1.out _ hS, ?_⟩⟩; clear hK K; rintro e w9 ⟨row9, rfl, hta9, hb9⟩
          replace hS := hS.trans (hb9.mono hS.size)
          refine ⟨_, rfl, hS, ?_⟩
          obtain ⟨k9, s9, n9, A9, l9, c9, ts9, hu9, rfl, -⟩ := hta9.parts
          have HA9 := Lib.hid hta9
          clear hta9 hu9 hb9
          try simp only [List.getElem_toArray, List.getElem_cons_succ, List.getElem_cons_zero, put_lit, List.set_cons_zero, List.set_cons_succ]
          refine ha_call (i := 13) (by kernel_rfl) rfl rfl (fun K hK => ?_); go_simp; refine ⟨_, _, ⟨rfl, rfl⟩, hK _ _ ⟨_, HC2.out _ hS, ?_⟩⟩; clear hK K; rintro e wa ⟨rowa, rfl, htaa, hba⟩
          replace hS := hS.trans (hba.mono hS.size)
          refine ⟨_, rfl, hS, ?_⟩
          obtain ⟨ka, sa, na, Aa, la, ca, tsa, hua, rfl, -⟩ := htaa.parts
          have he := EqType_any _ _ wa _ _ _ _ (HA9.out.old hba) htaa
          rw [eqTy_of_eq HEQ.out] at he
          have HC3 := Lib.hid he
          clear htaa hua hba he HA9
          try simp only [List.getElem_toArray, List.getElem_cons_succ, List.getElem_cons_zero, put_lit, List.set_cons_zero, List.set_cons_succ]
          refine ha_call (i := 14) (by kernel_rfl) rfl rfl (fun K hK => ?_); go_simp; refine ⟨_, _, ⟨rfl, rfl⟩, hK _ _ ⟨_, HC3.out, ?_⟩⟩; clear hK K; rintro e wb ⟨rfl, hbb⟩
          replace hS := hS.trans (hbb.mono hS.size)
          refine ⟨_, rfl, hS, ?_⟩
          clear hbb HC3
          try simp only [List.getElem_toArray, List.getElem_cons_succ, List.getElem_cons_zero, put_lit, List.set_cons_zero, List.set_cons_succ]
          refine ha_k (i := 15) rfl (by kernel_rfl) (by kernel_rfl) (by kernel_rfl) (fun _ _ _ _ h => h) hS rfl (fun K hK => ?_); go_simp; refine hK _ ?_; clear hK K; try simp only [put_lit, List.set_cons_zero, List.set_cons_succ]
          refine wpAnyH_done (by kernel_rfl) ?_ _
          replace hz := hz.trans (hS.mono hz.size)
          clear hS HC1 HC2 HR1 HR2 HTT HUU
          go_wp2_with fail
          go_roundw
          case rel => exact ⟨j + 1, by omega, by go_num, hz⟩
          case measure => simp [intOf]; omega
        · have hltI : ¬ (j : Int) < (l : Int) := by omega
          apply wp_region_lit
          (with_reducible refine wl_k ?_ ?_); exact rfl; intro K hK; go_simp; refine hK _ ?_; clear hK K
          (with_reducible refine wl_k ?_ ?_); exact rfl; intro K hK; go_simp; refine hK _ ?_; clear hK K
          (with_reducible refine wl_k ?_ ?_); exact rfl; intro K hK; go_simp; refine hK _ ?_; clear hK K
          (with_reducible refine wl_k ?_ ?_); exact rfl; intro K hK; go_simp; refine hK _ ?_; clear hK K
          clear hltI hlt hj
          go_upto_region 11 with (fail)
          apply wp_region_lit
          (with_reducible refine wl_k ?_ ?_); exact rfl; intro K hK; go_simp; refine hK _ ?_; clear hK K
          go_wp2_with fail
          go_loopw [6] (fun i wr => ∃ j : Nat, j ≤ l8 ∧ i = .int .i64 (j : Int) ∧ Below w8.heap.size w8 wr) (fun i _ => l8 - (intOf i).toNat)
          case atStart => exact ⟨0, by omega, rfl, hz⟩
          case round =>
            clear hz
            obtain ⟨j, hj, rfl, hz⟩ := hrel
            go_upto_region 12 with (fail)
            by_cases hlt : j < l8
            · have hltI : (j : Int) < (l8 : Int) := by omega
              obtain ⟨bl, off, t, row0, rfl, -, ht, -⟩ := (HTA.out.old hz).get hlt
              obtain ⟨row, hrow, hta⟩ := (HTA.out.old hz).rowK ht
              obtain ⟨k1, s1, n1, A1, l1, c1, ts1, hu1, rfl, -⟩ := hta.parts
              have hmem := List.mem_of_getElem? ht
              have HTT := Lib.hid hta
              have HRW := Lib.hid hrow
              have HNT : Hid (t.nodes ≤ 40) := Lib.hid (HGS.out.size t hmem)
              have HID : Hid (applyTy s t = t) := Lib.hid (HGS.out.idem t hmem)
              clear hta hrow hu1 ht hmem
              apply wp_region_lit
              (with_reducible refine wl_k ?_ ?_); exact rfl; intro K hK; go_simp; refine hK _ ?_; clear hK K
              (with_reducible refine wl_k ?_ ?_); exact rfl; intro K hK; go_simp; refine hK _ ?_; clear hK K
              (with_reducible refine wl_k ?_ ?_); exact rfl; intro K hK; go_simp; refine hK _ ?_; clear hK K
              (with_reducible refine wl_k ?_ ?_); exact rfl; intro K hK; go_simp; refine hK _ ?_; clear hK K
              have HC1 : Hid (∀ w', Below wr.heap.size wr w' → Calls Tryd.prog 22 #[.agg (cell4 k1 s1 n1 A1 l1 c1), .slice (some ⟨bl, off, none⟩) l8 c8] w' (NewTy w' (applyTy s t))) := Lib.hid fun w' hw => Apply_any s HNL.out t (by have := HNT.out; omega) w' _ _ _ (HTT.out.old hw) _ l8 c8 ((HTA.out.old hz).old hw)
              obtain ⟨q, hqe⟩ : ∃ q : Nat, q = min t.nodes (40 + 1) := ⟨_, rfl⟩
              have HCN : Hid (∀ w', Below wr.heap.size wr w' → Calls Tryd.prog 43 #[.agg (cell4 k1 s1 n1 A1 l1 c1), .int .i64 40] w' fun e w2 => e = .returned (.int .i64 (q : Int)) ∧ Below w'.heap.size w' w2) := Lib.hid fun w' hw => by rw [hqe]; exact TypeNodes_any 40 (by omega) t w' _ _ (HTT.out.old hw)
              have hq : ¬ ((q : Int) > 40) := by have := HNT.out; omega
              clear hqe
              go_upto_region 14 with (fail)
              refine wp_region_held_drew (S := Below wr.heap.size wr) mixed ((Below.refl _ _).drew) (fun hS => ?_)
              refine ha_k (i := 0) rfl (by kernel_rfl) (by kernel_rfl) (by kernel_rfl) (fun _ _ _ _ h => h) hS rfl (fun K hK => ?_); go_simp; refine hK _ ?_; clear hK K; try simp only [put_lit, List.set_cons_zero, List.set_cons_succ]
              refine ha_k (i := 1) rfl (by kernel_rfl) (by kernel_rfl) (by kernel_rfl) (fun _ _ _ _ h => h) hS rfl (fun K hK => ?_); go_simp; refine hK _ ?_; clear hK K; try simp only [put_lit, List.set_cons_zero, List.set_cons_succ]
              refine ha_k (i := 2) rfl (by kernel_rfl) (by kernel_rfl) (by kernel_rfl) (fun _ _ _ _ h => h) hS rfl (fun K hK => ?_); go_simp; refine hK _ ?_; clear hK K; try simp only [put_lit, List.set_cons_zero, List.set_cons_succ]
              refine ha_val (i := 3) rfl (by kernel_rfl) (by kernel_rfl) (by kernel_rfl) (fun _ _ _ h => h) hS rfl (fun w' hw' => ex_row rfl (HRW.out.at hw')) ?_; try simp only [List.getElem_toArray, List.getElem_cons_succ, List.getElem_cons_zero, put_lit, List.set_cons_zero, List.set_cons_succ]
              refine ha_call (i := 4) (by kernel_rfl) rfl rfl (fun K hK => ?_); go_simp; refine ⟨_, _, ⟨rfl, rfl⟩, hK _ _ ⟨_, HCN.out _ hS, ?_⟩⟩; clear hK K; rintro e w9 ⟨rfl, hb9⟩
              replace hS := hS.trans (hb9.mono hS.size)
              refine ⟨_, rfl, hS, ?_⟩
              clear hb9
              try simp only [List.getElem_toArray, List.getElem_cons_succ, List.getElem_cons_zero, put_lit, List.set_cons_zero, List.set_cons_succ]
              refine ha_k (i := 5) rfl (by kernel_rfl) (by kernel_rfl) (by kernel_rfl) (fun _ _ _ _ h => h) hS rfl (fun K hK => ?_); go_simp; refine hK _ ?_; clear hK K; try simp only [put_lit, List.set_cons_zero, List.set_cons_succ]
              refine ha_k (i := 6) rfl (by kernel_rfl) (by kernel_rfl) (by kernel_rfl) (fun _ _ _ _ h => h) hS rfl (fun K hK => ?_); go_simp; refine hK _ ?_; clear hK K; try simp only [put_lit, List.set_cons_zero, List.set_cons_succ]
              refine ha_k (i := 7) rfl (by kernel_rfl) (by kernel_rfl) (by kernel_rfl) (fun _ _ _ _ h => h) hS rfl (fun K hK => ?_); go_simp; refine hK _ ?_; clear hK K; try simp only [put_lit, List.set_cons_zero, List.set_cons_succ]
              refine ha_k (i := 8) rfl (by kernel_rfl) (by kernel_rfl) (by kernel_rfl) (fun _ _ _ _ h => h) hS rfl (fun K hK => ?_); go_simp; refine hK _ ?_; clear hK K; try simp only [put_lit, List.set_cons_zero, List.set_cons_succ]
              refine ha_k (i := 9) rfl (by kernel_rfl) (by kernel_rfl) (by kernel_rfl) (fun _ _ _ _ h => h) hS rfl (fun K hK => ?_); go_simp; refine hK _ ?_; clear hK K; try simp only [put_lit, List.set_cons_zero, List.set_cons_succ]
              refine ha_val (i := 10) rfl (by kernel_rfl) (by kernel_rfl) (by kernel_rfl) (fun _ _ _ h => h) hS rfl (fun w' hw' => ex_row rfl (HRW.out.at hw')) ?_; try simp only [List.getElem_toArray, List.getElem_cons_succ, List.getElem_cons_zero, put_lit, List.set_cons_zero, List.set_cons_succ]
              refine ha_k (i := 11) rfl (by kernel_rfl) (by kernel_rfl) (by kernel_rfl) (fun _ _ _ _ h => h) hS rfl (fun K hK => ?_); go_simp; refine hK _ ?_; clear hK K; try simp only [put_lit, List.set_cons_zero, List.set_cons_succ]
              refine ha_k (i := 13) rfl (by kernel_rfl) (by kernel_rfl) (by kernel_rfl) (fun _ _ _ _ h => h) hS rfl (fun K hK => ?_); go_simp; refine hK _ ?_; clear hK K; try simp only [put_lit, List.set_cons_zero, List.set_cons_succ]
              refine ha_k (i := 14) rfl (by kernel_rfl) (by kernel_rfl) (by kernel_rfl) (fun _ _ _ _ h => h) hS rfl (fun K hK => ?_); go_simp; refine hK _ ?_; clear hK K; try simp only [put_lit, List.set_cons_zero, List.set_cons_succ]
              refine ha_k (i := 15) rfl (by kernel_rfl) (by kernel_rfl) (by kernel_rfl) (fun _ _ _ _ h => h) hS rfl (fun K hK => ?_); go_simp; refine hK _ ?_; clear hK K; try simp only [put_lit, List.set_cons_zero, List.set_cons_succ]
              refine ha_val (i := 16) rfl (by kernel_rfl) (by kernel_rfl) (by kernel_rfl) (fun _ _ _ h => h) hS rfl (fun w' hw' => ex_row rfl (HRW.out.at hw')) ?_; try simp only [List.getElem_toArray, List.getElem_cons_succ, List.getElem_cons_zero, put_lit, List.set_cons_zero, List.set_cons_succ]
              refine ha_call (i := 12) (by kernel_rfl) rfl rfl (fun K hK => ?_); go_simp; refine ⟨_, _, ⟨rfl, rfl⟩, hK _ _ ⟨_, HC1.out _ hS, ?_⟩⟩; clear hK K; rintro e wa ⟨rowa, rfl, htaa, hba⟩
              replace hS := hS.trans (hba.mono hS.size)
              refine ⟨_, rfl, hS, ?_⟩
              obtain ⟨ka, sa, na, Aa, la, ca, tsa, hua, rfl, -⟩ := htaa.parts
              have he := EqType_any _ _ wa _ _ _ _ htaa (HTT.out.old hS)
              rw [eqTy_of_eq HID.out] at he
              have HC3 := Lib.hid he
              clear htaa hua hba he
              try simp only [List.getElem_toArray, List.getElem_cons_succ, List.getElem_cons_zero, put_lit, List.set_cons_zero, List.set_cons_succ]
              refine ha_call (i := 17) (by kernel_rfl) rfl rfl (fun K hK => ?_); go_simp; refine ⟨_, _, ⟨rfl, rfl⟩, hK _ _ ⟨_, HC3.out, ?_⟩⟩; clear hK K; rintro e wb ⟨rfl, hbb⟩
              replace hS := hS.trans (hbb.mono hS.size)
              refine ⟨_, rfl, hS, ?_⟩
              clear hbb HC3
              try simp only [List.getElem_toArray, List.getElem_cons_succ, List.getElem_cons_zero, put_lit, List.set_cons_zero, List.set_cons_succ]
              refine ha_k (i := 18) rfl (by kernel_rfl) (by kernel_rfl) (by kernel_rfl) (fun _ _ _ _ h => h) hS rfl (fun K hK => ?_); go_simp; refine hK _ ?_; clear hK K; try simp only [put_lit, List.set_cons_zero, List.set_cons_succ]
              refine ha_k (i := 19) rfl (by kernel_rfl) (by kernel_rfl) (by kernel_rfl) (fun _ _ _ _ h => h) hS rfl (fun K hK => ?_); go_simp; refine hK _ ?_; clear hK K; try simp only [put_lit, List.set_cons_zero, List.set_cons_succ]
              refine wpAnyH_done (by kernel_rfl) ?_ _
              replace hz := hz.trans (hS.mono hz.size)
              clear hS HC1 HCN HRW HTT hq
              go_wp2_with fail
              go_roundw
              case rel => exact ⟨j + 1, by omega, by go_num, hz⟩
              case measure => simp [intOf]; omega
            · have hltI : ¬ (j : Int) < (l8 : Int) := by omega
              apply wp_region_lit
              (with_reducible refine wl_k ?_ ?_); exact rfl; intro K hK; go_simp; refine hK _ ?_; clear hK K
              (with_reducible refine wl_k ?_ ?_); exact rfl; intro K hK; go_simp; refine hK _ ?_; clear hK K
              (with_reducible refine wl_k ?_ ?_); exact rfl; intro K hK; go_simp; refine hK _ ?_; clear hK K
              (with_reducible refine wl_k ?_ ?_); exact rfl; intro K hK; go_simp; refine hK _ ?_; clear hK K
              have HC := Lib.hid (awake_any wr)
              go_upto_region 16 with (fail)
              apply wp_region_lit
              (with_reducible refine wl_ck ?_ ?_); exact rfl; intro K hK; go_simp; refine ⟨_, _, ⟨rfl, rfl⟩, hK _ _ ⟨_, HC.out, ?_⟩⟩; clear hK K; rintro e w9 ⟨rfl, hb9⟩; refine ⟨_, rfl, ?_⟩; simp only [put_lit, List.set_cons_zero, List.set_cons_succ]
              (with_reducible refine wl_k ?_ ?_); exact rfl; intro K hK; go_simp; refine hK _ ?_; clear hK K
              clear HC
              go_wp2_with fail
              go_ret
              exact ⟨rfl, (HB8.out.trans (hz.mono HB8.out.size)).trans (hb9.mono (by have := HB8.out.size; have := hz.size; omega))⟩
end Go.Proofs.YtokmaehefenpmaaDoor
