/- Two lists merged, a list sorted, by the program. -/
import Derived.Test.YtbhdgeoljlhmcaaS18
import Derived.Outline
namespace Go.Proofs.Ytbhdgeoljlhmcaa
open Go.RowKit Go.Proofs.Ytbhdgeoljlhmcaa.Nm Go.Proofs.Ytbhdgeoljlhmcaa.St
set_option linter.unusedSimpArgs false
set_option maxHeartbeats 4000000 in
set_option maxRecDepth 100000 in
theorem merge_any (A1 A2 : Option Addr) (n1 n2 c1 c2 : Nat) (l1 l2 : List ByteArray) (hn1 : n1 ≤ 100000) (hn2 : n2 ≤ 100000) (hc1 : n1 ≤ c1) (hc2 : n2 ≤ c2) (w : World) (h1 : StrAt w A1 n1 c1 l1) (h2 : StrAt w A2 n2 c2 l2) :
    Calls Try.prog 62 #[.slice A1 n1 c1, .slice A2 n2 c2] w fun e w' => ∃ v', e = .returned v' ∧ w'.ownsRow w.heap.size 9 1 v' (n1 + n2) (strs (mergeL l1 l2)) ∧ Below w.heap.size w w' := by
  have H1 := Lib.hid h1
  have H2 := Lib.hid h2
  clear h1 h2
  go_enter Try.func62, Try.ntmps62
  go_wp2_with fail
  go_loopw [0, 1, 5] (fun av bv ov wr => ∃ (B1 B2 : Option Addr) (m1 m2 d1 d2 : Nat) (x1 x2 o : List ByteArray), av = .slice B1 m1 d1 ∧ bv = .slice B2 m2 d2 ∧ m1 ≤ n1 ∧ m2 ≤ n2 ∧ m1 ≤ d1 ∧ m2 ≤ d2 ∧ Hid (StrAt w B1 m1 d1 x1) ∧ Hid (StrAt w B2 m2 d2 x2) ∧
    Hid (mergeL l1 l2 = o ++ mergeL x1 x2) ∧ Hid (o.length + m1 + m2 = n1 + n2) ∧ Hid (wr.ownsRow w.heap.size 9 1 ov o.length (strs o)) ∧ Hid (Below w.heap.size w wr)) (fun av bv _ _ => slLen av + slLen bv)
  case atStart => exact ⟨A1, A2, n1, n2, c1, c2, l1, l2, [], rfl, rfl, Nat.le_refl _, Nat.le_refl _, hc1, hc2, H1, H2, Lib.hid rfl, Lib.hid (by simp), Lib.hid ⟨rfl, Or.inl ⟨rfl, rfl⟩⟩, Lib.hid (Below.refl _ _)⟩
  case round =>
    clear H1 H2
    obtain ⟨B1, B2, m1, m2, d1, d2, x1, x2, o, rfl, rfl, hm1, hm2, hd1, hd2, H1, H2, HM, HL, HO, HB⟩ := hrel
    have HB' := Lib.hid HB.out.size
    by_cases hz : m1 = 0 ∨ m2 = 0
    · have HF : Hid (mergeL l1 l2 = (o ++ x1) ++ x2) := Lib.hid (by
        rw [HM.out]
        rcases hz with hz | hz
        · have := H1.out.1; rw [hz] at this; obtain rfl := List.length_eq_zero_iff.1 this; simp [mergeL]
        · have := H2.out.1; rw [hz] at this; obtain rfl := List.length_eq_zero_iff.1 this; cases x1 <;> simp [mergeL])
      obtain ⟨v1, w1, hr1, ho1, hg1, -⟩ := run_app29 29 HO.out (H1.out.below HB.out) HB'.out (show o.length ≤ 1000000 by have := HL.out; omega) (show m1 ≤ 1000000 by omega)
      have hb1 := HB.out.grown hg1 HB'.out (fun q hq => (HO.out.lt q hq).1)
      obtain ⟨v2, w2, hr2, ho2, hg2, -⟩ := run_app29 29 ho1 (H2.out.below hb1) hb1.size (show o.length + m1 ≤ 1000000 by have := HL.out; omega) (show m2 ≤ 1000000 by omega)
      have hb2 := hb1.grown hg2 hb1.size (fun q hq => (ho1.lt q hq).1)
      have HR1 := Lib.hid hr1
      have HR2 := Lib.hid hr2
      have HO2 := Lib.hid ho2
      have HB2 := Lib.hid hb2
      clear hr1 hr2 ho1 ho2 hg1 hg2 hb1 hb2 HO HM H1 H2 HB HB'
      have hex : (m1 = 0) ∨ (m2 = 0 ∧ (0 : Int) < m1) := by omega
      rcases hex with rfl | ⟨rfl, hpos⟩
      all_goals
        go_upto_region 6 with (fail)
        apply wp_region_lit
        refine wl_k rfl (fun K hK => ?_); go_simp; refine hK _ ?_; clear hK K
        refine wl_k rfl (fun K hK => ?_); go_simp; refine hK _ ?_; clear hK K
        refine wl_w rfl (ex_app29 _ _ rfl rfl rfl HR1.out) ?_
        simp only [put_lit, List.set_cons_zero, List.set_cons_succ]
        go_upto_region 7 with (fail)
        apply wp_region_lit
        refine wl_k rfl (fun K hK => ?_); go_simp; refine hK _ ?_; clear hK K
        refine wl_k rfl (fun K hK => ?_); go_simp; refine hK _ ?_; clear hK K
        refine wl_w rfl (ex_app29 _ _ rfl rfl rfl HR2.out) ?_
        simp only [put_lit, List.set_cons_zero, List.set_cons_succ]
        go_wp2_with fail
        go_ret
        refine ⟨_, rfl, ?_, HB2.out⟩
        rw [← HL.out, HF.out]
        exact HO2.out
    · obtain ⟨a, t1, rfl⟩ : ∃ a t1, x1 = a :: t1 := by
        cases x1 with
        | nil => have := H1.out.1; simp at this; omega
        | cons a t => exact ⟨a, t, rfl⟩
      obtain ⟨b, t2, rfl⟩ : ∃ b t2, x2 = b :: t2 := by
        cases x2 with
        | nil => have := H2.out.1; simp at this; omega
        | cons a t => exact ⟨a, t, rfl⟩
      obtain ⟨ad1, rfl, hca⟩ := H1.out.cell (j := 0) (x := a) rfl
      obtain ⟨ad2, rfl, hcb⟩ := H2.out.cell (j := 0) (x := b) rfl
      have hp1 : (0 : Int) < m1 := by omega
      have hp2 : (0 : Int) < m2 := by omega
      have hq1 : 0 < m1 := by omega
      have hq2 : 0 < m2 := by omega
      have HCA := Lib.hid hca
      have HCB := Lib.hid hcb
      clear hca hcb
      go_upto_region 3 with (fail)
      refine wp_region_held_drew (S := Below w.heap.size w) mixed HB.out.drew (fun hS => ?_)
      refine ha_k (i := 0) rfl (by kernel_rfl) (by kernel_rfl) (by kernel_rfl) (fun _ _ _ _ h => h) hS rfl (fun K hK => ?_); go_simp; refine hK _ ?_; clear hK K; try simp only [put_lit, List.set_cons_zero, List.set_cons_succ]
      (refine ha_val (i := 1) rfl (by kernel_rfl) (by kernel_rfl) (by kernel_rfl) (fun _ _ _ h => h) hS rfl (fun w' _ => ex_ixS (j := 0) _ _ rfl rfl rfl hq2) ?_; try simp only [put_lit, List.set_cons_zero, List.set_cons_succ])
      (refine ha_val (i := 2) rfl (by kernel_rfl) (by kernel_rfl) (by kernel_rfl) (fun _ _ _ h => h) hS rfl (fun w' hw' => ex_one rfl (one9 (below_cell hw' HCB.out))) ?_; try simp only [put_lit, List.set_cons_zero, List.set_cons_succ])
      refine ha_k (i := 3) rfl (by kernel_rfl) (by kernel_rfl) (by kernel_rfl) (fun _ _ _ _ h => h) hS rfl (fun K hK => ?_); go_simp; refine hK _ ?_; clear hK K; try simp only [put_lit, List.set_cons_zero, List.set_cons_succ]
      (refine ha_val (i := 4) rfl (by kernel_rfl) (by kernel_rfl) (by kernel_rfl) (fun _ _ _ h => h) hS rfl (fun w' _ => ex_ixS (j := 0) _ _ rfl rfl rfl hq1) ?_; try simp only [put_lit, List.set_cons_zero, List.set_cons_succ])
      (refine ha_val (i := 5) rfl (by kernel_rfl) (by kernel_rfl) (by kernel_rfl) (fun _ _ _ h => h) hS rfl (fun w' hw' => ex_one rfl (one9 (below_cell hw' HCA.out))) ?_; try simp only [put_lit, List.set_cons_zero, List.set_cons_succ])
      refine ha_k (i := 6) rfl (by kernel_rfl) (by kernel_rfl) (by kernel_rfl) (fun _ _ _ _ h => h) hS rfl (fun K hK => ?_); go_simp; refine hK _ ?_; clear hK K; try simp only [put_lit, List.set_cons_zero, List.set_cons_succ]
      refine wpAnyH_done (by kernel_rfl) ?_ _
      replace HO := Lib.hid (own_below HO.out (Below.refl _ wr).drew)
      replace HB' : Hid (w.heap.size ≤ wr.drew.heap.size) := Lib.hid HB'.out
      replace HB := Lib.hid hS
      clear hS
      generalize wr.drew = wr at *
      obtain ⟨q, hq⟩ : ∃ q, q = ltB b a := ⟨_, rfl⟩
      have HQ := Lib.hid hq
      rw [show Op.bytesLess b.toList a.toList = q from hq.symm]
      clear hq hz
      cases q with
      | true =>
        obtain ⟨B2', hB2', hcut⟩ := H2.out.cut (lo := 1) (hi := m2) (by omega) (Nat.le_refl _) hd2
        rw [List.take_of_length_le (by rw [H2.out.1]; exact Nat.le_refl _), List.drop_one, List.tail_cons] at hcut
        have HC2 := Lib.hid hcut
        clear hcut
        go_upto_region 4 with (fail)
        refine wp_region_held_drew (S := Below w.heap.size w) mixed HB.out.drew (fun hS => ?_)
        refine ha_k (i := 0) rfl (by kernel_rfl) (by kernel_rfl) (by kernel_rfl) (fun _ _ _ _ h => h) hS rfl (fun K hK => ?_); go_simp; refine hK _ ?_; clear hK K; try simp only [put_lit, List.set_cons_zero, List.set_cons_succ]
        refine ha_k (i := 1) rfl (by kernel_rfl) (by kernel_rfl) (by kernel_rfl) (fun _ _ _ _ h => h) hS rfl (fun K hK => ?_); go_simp; refine hK _ ?_; clear hK K; try simp only [put_lit, List.set_cons_zero, List.set_cons_succ]
        (refine ha_val (i := 2) rfl (by kernel_rfl) (by kernel_rfl) (by kernel_rfl) (fun _ _ _ h => h) hS rfl (fun w' _ => ex_ixS (j := 0) _ _ rfl rfl rfl hq2) ?_; try simp only [put_lit, List.set_cons_zero, List.set_cons_succ])
        (refine ha_val (i := 3) rfl (by kernel_rfl) (by kernel_rfl) (by kernel_rfl) (fun _ _ _ h => h) hS rfl (fun w' hw' => ex_one rfl (one9 (below_cell hw' HCB.out))) ?_; try simp only [put_lit, List.set_cons_zero, List.set_cons_succ])
        refine ha_k (i := 6) rfl (by kernel_rfl) (by kernel_rfl) (by kernel_rfl) (fun _ _ _ _ h => h) hS rfl (fun K hK => ?_); go_simp; refine hK _ ?_; clear hK K; try simp only [put_lit, List.set_cons_zero, List.set_cons_succ]
        (refine ha_val (i := 7) (v := .slice B2' (m2 - 1) (d2 - 1)) rfl (by kernel_rfl) (by kernel_rfl) (by kernel_rfl) (fun _ _ _ h => h) hS rfl (fun w' _ => (ex_slL (lo := 1) _ _ rfl rfl rfl hq2).trans (by rw [hB2'])) ?_; try simp only [put_lit, List.set_cons_zero, List.set_cons_succ])
        refine ha_do (i := 4) (by kernel_rfl) rfl rfl (ex_bs29_1 _ rfl rfl) (hS.alloc (by have := hS.size; omega) _) ?_; try simp only [put_lit, List.set_cons_zero, List.set_cons_succ]
        have hSa := hS.alloc (by have := hS.size; omega) (.cells #[.string b] 9)
        obtain ⟨v', w', hr, hown, hgr, -⟩ := run_push29 b 29 (own_below HO.out (Below.refl _ wr).drew) (by have := hS.size; omega) (by have := HL.out; omega)
        have hS' := hSa.grown hgr (by have := hSa.size; omega) (fun q hq => by have := (HO.out.lt q hq).1; omega)
        refine ha_do (i := 5) (by kernel_rfl) rfl rfl (ex_app29 _ _ rfl rfl rfl hr) hS' ?_; try simp only [put_lit, List.set_cons_zero, List.set_cons_succ]
        replace hS := hS'
        have HO2 := Lib.hid hown
        clear hr hown hgr hSa hS' HO
        refine ha_k (i := 8) rfl (by kernel_rfl) (by kernel_rfl) (by kernel_rfl) (fun _ _ _ _ h => h) hS rfl (fun K hK => ?_); go_simp; refine hK _ ?_; clear hK K; try simp only [put_lit, List.set_cons_zero, List.set_cons_succ]
        refine ha_k (i := 9) rfl (by kernel_rfl) (by kernel_rfl) (by kernel_rfl) (fun _ _ _ _ h => h) hS rfl (fun K hK => ?_); go_simp; refine hK _ ?_; clear hK K; try simp only [put_lit, List.set_cons_zero, List.set_cons_succ]
        refine wpAnyH_done (by kernel_rfl) ?_ _
        go_wp2_with fail
        go_roundw
        case rel => exact ⟨some ad1, B2', m1, m2 - 1, d1, d2 - 1, a :: t1, t2, o ++ [b], rfl, rfl, hm1, by omega, hd1, by omega, H1, HC2, Lib.hid (by rw [HM.out, mergeL, if_pos HQ.out.symm]; simp), Lib.hid (by have := HL.out; simp; omega), Lib.hid (by rw [List.length_append]; exact HO2.out), Lib.hid hS⟩
        case measure => simp [slLen]; omega
      | false =>
        obtain ⟨B1', hB1', hcut⟩ := H1.out.cut (lo := 1) (hi := m1) (by omega) (Nat.le_refl _) hd1
        rw [List.take_of_length_le (by rw [H1.out.1]; exact Nat.le_refl _), List.drop_one, List.tail_cons] at hcut
        have HC2 := Lib.hid hcut
        clear hcut
        go_upto_region 5 with (fail)
        refine wp_region_held_drew (S := Below w.heap.size w) mixed HB.out.drew (fun hS => ?_)
        refine ha_k (i := 0) rfl (by kernel_rfl) (by kernel_rfl) (by kernel_rfl) (fun _ _ _ _ h => h) hS rfl (fun K hK => ?_); go_simp; refine hK _ ?_; clear hK K; try simp only [put_lit, List.set_cons_zero, List.set_cons_succ]
        refine ha_k (i := 1) rfl (by kernel_rfl) (by kernel_rfl) (by kernel_rfl) (fun _ _ _ _ h => h) hS rfl (fun K hK => ?_); go_simp; refine hK _ ?_; clear hK K; try simp only [put_lit, List.set_cons_zero, List.set_cons_succ]
        (refine ha_val (i := 2) rfl (by kernel_rfl) (by kernel_rfl) (by kernel_rfl) (fun _ _ _ h => h) hS rfl (fun w' _ => ex_ixS (j := 0) _ _ rfl rfl rfl hq1) ?_; try simp only [put_lit, List.set_cons_zero, List.set_cons_succ])
        (refine ha_val (i := 3) rfl (by kernel_rfl) (by kernel_rfl) (by kernel_rfl) (fun _ _ _ h => h) hS rfl (fun w' hw' => ex_one rfl (one9 (below_cell hw' HCA.out))) ?_; try simp only [put_lit, List.set_cons_zero, List.set_cons_succ])
        refine ha_k (i := 6) rfl (by kernel_rfl) (by kernel_rfl) (by kernel_rfl) (fun _ _ _ _ h => h) hS rfl (fun K hK => ?_); go_simp; refine hK _ ?_; clear hK K; try simp only [put_lit, List.set_cons_zero, List.set_cons_succ]
        (refine ha_val (i := 7) (v := .slice B1' (m1 - 1) (d1 - 1)) rfl (by kernel_rfl) (by kernel_rfl) (by kernel_rfl) (fun _ _ _ h => h) hS rfl (fun w' _ => (ex_slL (lo := 1) _ _ rfl rfl rfl hq1).trans (by rw [hB1'])) ?_; try simp only [put_lit, List.set_cons_zero, List.set_cons_succ])
        refine ha_do (i := 4) (by kernel_rfl) rfl rfl (ex_bs29_1 _ rfl rfl) (hS.alloc (by have := hS.size; omega) _) ?_; try simp only [put_lit, List.set_cons_zero, List.set_cons_succ]
        have hSa := hS.alloc (by have := hS.size; omega) (.cells #[.string a] 9)
        obtain ⟨v', w', hr, hown, hgr, -⟩ := run_push29 a 29 (own_below HO.out (Below.refl _ wr).drew) (by have := hS.size; omega) (by have := HL.out; omega)
        have hS' := hSa.grown hgr (by have := hSa.size; omega) (fun q hq => by have := (HO.out.lt q hq).1; omega)
        refine ha_do (i := 5) (by kernel_rfl) rfl rfl (ex_app29 _ _ rfl rfl rfl hr) hS' ?_; try simp only [put_lit, List.set_cons_zero, List.set_cons_succ]
        replace hS := hS'
        have HO2 := Lib.hid hown
        clear hr hown hgr hSa hS' HO
        refine ha_k (i := 8) rfl (by kernel_rfl) (by kernel_rfl) (by kernel_rfl) (fun _ _ _ _ h => h) hS rfl (fun K hK => ?_); go_simp; refine hK _ ?_; clear hK K; try simp only [put_lit, List.set_cons_zero, List.set_cons_succ]
        refine ha_k (i := 9) rfl (by kernel_rfl) (by kernel_rfl) (by kernel_rfl) (fun _ _ _ _ h => h) hS rfl (fun K hK => ?_); go_simp; refine hK _ ?_; clear hK K; try simp only [put_lit, List.set_cons_zero, List.set_cons_succ]
        refine wpAnyH_done (by kernel_rfl) ?_ _
        go_wp2_with fail
        go_roundw
        case rel => exact ⟨B1', some ad2, m1 - 1, m2, d1 - 1, d2, t1, b :: t2, o ++ [a], rfl, rfl, by omega, hm2, by omega, hd2, HC2, H2, Lib.hid (by rw [HM.out, mergeL, if_neg (by rw [← HQ.out]; simp)]; simp), Lib.hid (by have := HL.out; simp; omega), Lib.hid (by rw [List.length_append]; exact HO2.out), Lib.hid hS⟩
        case measure => simp [slLen]; omega
theorem own_str2 {w : World} {b n : Nat} {v : Value} {l : List ByteArray} (h : w.ownsRow b 9 1 v n (strs l)) (hl : l.length = n) : ∃ A cap, v = .slice A n cap ∧ n ≤ cap ∧ StrAt w A n cap l := by
  obtain ⟨A, cap, h1, h2⟩ := own_str h hl
  refine ⟨A, cap, h1, ?_, h2⟩
  rcases h.2 with ⟨_, h0⟩ | ⟨g, cap', cur, hv, hB, hg, h3, _⟩
  · omega
  · rw [h1] at hv; cases hv; exact h3
theorem mergeL_length (a b : List ByteArray) : (mergeL a b).length = a.length + b.length := by
  fun_induction mergeL a b with
  | case1 b => simp
  | case2 x a => simp
  | case3 x a y b h ih => simp only [List.length_cons, ih]; omega
  | case4 x a y b h ih => simp only [List.length_cons, ih]; omega
theorem sortL_length (l : List ByteArray) : (sortL l).length = l.length := by
  fun_induction sortL l with
  | case1 l h => rfl
  | case2 l h ih1 ih2 => rw [mergeL_length, ih1, ih2, List.length_take, List.length_drop]; omega
set_option maxHeartbeats 4000000 in
set_option maxRecDepth 100000 in
theorem Sorted_any : ∀ (N : Nat) (A : Option Addr) (n c : Nat) (l : List ByteArray) (w : World), n ≤ N → n ≤ 100000 → n ≤ c → StrAt w A n c l →
    Calls Try.prog 26 #[.slice A n c] w fun e w' => ∃ v', e = .returned v' ∧ w'.ownsRow w.heap.size 9 1 v' n (strs (sortL l)) ∧ Below w.heap.size w w' := by
  intro N
  induction N with
  | zero =>
    intro A n c l w hN hn hc hl
    obtain rfl : n = 0 := by omega
    have HL := Lib.hid hl
    have H0 := Lib.hid hl.1
    clear hl
    go_enter Try.func26, Try.ntmps26
    go_upto_region 2 with (fail)
    apply wp_region_lit
    refine wl_k rfl (fun K hK => ?_); go_simp; refine hK _ ?_; clear hK K
    refine wl_ck rfl (fun K hK => ?_); go_simp; refine ⟨_, _, ⟨rfl, rfl⟩, hK _ _ ⟨_, CloneS_any A 0 c l (by omega) _ HL.out, ?_⟩⟩; clear hK K; rintro e w1 ⟨v', rfl, ho, hb⟩; refine ⟨_, rfl, ?_⟩; simp only [put_lit, List.set_cons_zero, List.set_cons_succ]
    have HO := Lib.hid ho
    clear ho
    go_wp2_with fail
    go_ret
    refine ⟨_, rfl, ?_, hb⟩
    rw [sortL, dif_pos (by rw [H0.out]; omega)]; exact HO.out
  | succ N ih =>
    intro A n c l w hN hn hc hl
    have HI := Lib.hid ih
    have HL := Lib.hid hl
    have H0 := Lib.hid hl.1
    clear ih hl
    by_cases h2 : (n : Int) < 2
    · go_enter Try.func26, Try.ntmps26
      go_upto_region 2 with (fail)
      apply wp_region_lit
      refine wl_k rfl (fun K hK => ?_); go_simp; refine hK _ ?_; clear hK K
      refine wl_ck rfl (fun K hK => ?_); go_simp; refine ⟨_, _, ⟨rfl, rfl⟩, hK _ _ ⟨_, CloneS_any A n c l (by omega) _ HL.out, ?_⟩⟩; clear hK K; rintro e w1 ⟨v', rfl, ho, hb⟩; refine ⟨_, rfl, ?_⟩; simp only [put_lit, List.set_cons_zero, List.set_cons_succ]
      have HO := Lib.hid ho
      clear ho
      go_wp2_with fail
      go_ret
      refine ⟨_, rfl, ?_, hb⟩
      rw [sortL, dif_pos (by rw [H0.out]; omega)]; exact HO.out
    · go_enter Try.func26, Try.ntmps26
      go_upto_region 4 with (fail)
      obtain ⟨m, hm⟩ : ∃ m, m = n / 2 := ⟨_, rfl⟩
      rw [show (n : Int) / 2 = (m : Int) by omega]
      have hm1 : m ≤ N := by omega
      have hm2 : n - m ≤ N := by omega
      have hm3 : m ≤ n := by omega
      have HM := Lib.hid hm
      have hn2 : 2 ≤ n := by omega
      clear hm h2
      obtain ⟨B1, hB1, hs1⟩ := HL.out.cut (lo := 0) (hi := m) (Nat.zero_le _) hm3 hc
      obtain ⟨B2, hB2, hs2⟩ := HL.out.cut (lo := m) (hi := n) hm3 (Nat.le_refl _) hc
      rw [Nat.sub_zero, Nat.sub_zero, List.drop_zero] at hs1
      rw [Nat.sub_zero, Nat.sub_zero] at hB1
      rw [List.take_of_length_le (by rw [H0.out]; exact Nat.le_refl _)] at hs2
      have hbd := (Below.refl w.heap.size w).drew
      have HS1 := Lib.hid (hs1.below hbd)
      have HS2 := Lib.hid (hs2.below hbd)
      clear hs1 hs2 HL hbd
      refine wp_region_held_drew (S := Kept [] w) mixed (Kept.drew [] w) (fun hS => ?_)
      refine ha_k (i := 0) rfl (by kernel_rfl) (by kernel_rfl) (by kernel_rfl) (fun _ _ _ _ h => h) hS rfl (fun K hK => ?_); go_simp; refine hK _ ?_; clear hK K; try simp only [put_lit, List.set_cons_zero, List.set_cons_succ]
      refine ha_k (i := 1) rfl (by kernel_rfl) (by kernel_rfl) (by kernel_rfl) (fun _ _ _ _ h => h) hS rfl (fun K hK => ?_); go_simp; refine hK _ ?_; clear hK K; try simp only [put_lit, List.set_cons_zero, List.set_cons_succ]
      refine ha_val (i := 2) (v := .slice B1 m c) rfl (by kernel_rfl) (by kernel_rfl) (by kernel_rfl) (fun _ _ _ h => h) hS rfl (fun w' _ => (ex_slH (hi := m) _ _ rfl rfl rfl (by omega)).trans (by rw [hB1])) ?_; try simp only [put_lit, List.set_cons_zero, List.set_cons_succ]
      refine ha_k (i := 4) rfl (by kernel_rfl) (by kernel_rfl) (by kernel_rfl) (fun _ _ _ _ h => h) hS rfl (fun K hK => ?_); go_simp; refine hK _ ?_; clear hK K; try simp only [put_lit, List.set_cons_zero, List.set_cons_succ]
      refine ha_k (i := 5) rfl (by kernel_rfl) (by kernel_rfl) (by kernel_rfl) (fun _ _ _ _ h => h) hS rfl (fun K hK => ?_); go_simp; refine hK _ ?_; clear hK K; try simp only [put_lit, List.set_cons_zero, List.set_cons_succ]
      refine ha_val (i := 6) (v := .slice B2 (n - m) (c - m)) rfl (by kernel_rfl) (by kernel_rfl) (by kernel_rfl) (fun _ _ _ h => h) hS rfl (fun w' _ => (ex_slL (lo := m) _ _ rfl rfl rfl hm3).trans (by rw [hB2])) ?_; try simp only [put_lit, List.set_cons_zero, List.set_cons_succ]
      refine ha_call (i := 3) (by kernel_rfl) rfl rfl (fun K hK => ?_); go_simp; refine ⟨_, _, ⟨rfl, rfl⟩, hK _ _ ⟨_, HI.out B1 m c _ _ hm1 (by omega) (by omega) HS1.out, ?_⟩⟩; clear hK K; rintro e w1 ⟨v1, rfl, ho1, hb1⟩; refine ⟨_, rfl, hS.below hb1, ?_⟩; replace hS := hS.below hb1; (replace HS2 := Lib.hid (HS2.out.below hb1); have HO1 := Lib.hid ho1; have hz1 := hb1.size; clear ho1 hb1); try simp only [put_lit, List.set_cons_zero, List.set_cons_succ]
      refine ha_call (i := 7) (by kernel_rfl) rfl rfl (fun K hK => ?_); go_simp; refine ⟨_, _, ⟨rfl, rfl⟩, hK _ _ ⟨_, HI.out B2 (n - m) (c - m) _ _ hm2 (by omega) (by omega) HS2.out, ?_⟩⟩; clear hK K; rintro e w2 ⟨v2, rfl, ho2, hb1⟩; refine ⟨_, rfl, hS.below hb1, ?_⟩; replace hS := hS.below hb1; (replace HO1 := Lib.hid (own_below HO1.out hb1); have HO2 := Lib.hid ho2; have hz2 := hb1.size; clear ho2 hb1); try simp only [put_lit, List.set_cons_zero, List.set_cons_succ]
      obtain ⟨C1, d1, rfl, hd1, hs1⟩ := own_str2 HO1.out (by rw [sortL_length, List.length_take, H0.out]; omega)
      obtain ⟨C2, d2, rfl, hd2, hs2⟩ := own_str2 HO2.out (by rw [sortL_length, List.length_drop, H0.out])
      have HT1 := Lib.hid hs1
      have HT2 := Lib.hid hs2
      clear hs1 hs2 HO1 HO2
      refine ha_call (i := 8) (by kernel_rfl) rfl rfl (fun K hK => ?_); go_simp; refine ⟨_, _, ⟨rfl, rfl⟩, hK _ _ ⟨_, merge_any C1 C2 m (n - m) d1 d2 _ _ (by omega) (by omega) hd1 hd2 _ HT1.out HT2.out, ?_⟩⟩; clear hK K; rintro e w3 ⟨v3, rfl, ho3, hb1⟩; refine ⟨_, rfl, hS.below hb1, ?_⟩; replace hS := hS.below hb1; (have HO3 := Lib.hid ho3; clear ho3 hb1); try simp only [put_lit, List.set_cons_zero, List.set_cons_succ]
      refine ha_k (i := 9) rfl (by kernel_rfl) (by kernel_rfl) (by kernel_rfl) (fun _ _ _ _ h => h) hS rfl (fun K hK => ?_); go_simp; refine hK _ ?_; clear hK K; try simp only [put_lit, List.set_cons_zero, List.set_cons_succ]
      refine wpAnyH_done (by kernel_rfl) ?_ _
      have hbz : w.heap.size ≤ w2.heap.size := by have : w.drew.heap.size = w.heap.size := rfl; omega
      have hbf := hS.toBelow (B := w.heap.size) (Nat.le_refl _) (by simp)
      go_wp2_with fail
      go_ret
      refine ⟨_, rfl, ?_, hbf⟩
      have ho := own_weak HO3.out hbz
      rw [show m + (n - m) = n by omega] at ho
      rw [sortL, dif_neg (by rw [H0.out]; omega), H0.out, ← HM.out]
      exact ho
end Go.Proofs.Ytbhdgeoljlhmcaa
