/- A new variable that may be made at any time of a drawn region: it is taken where it comes up. The sum of a slice of decimals. The document's sum of a slice of decimals; the law. The law of the sums of slices of decimals. A slice of decimals as an argument of a row. -/
import Derived.Test.YtclainfdeghgnaaK9
import Derived.Test.YtclainfdeghgnaaW53
import Derived.Test.YtclainfdeghgnaaW50
import Derived.Outline
import Derived.Test.YtclainfdeghgnaaRa
import Derived.Deep.SlicePairs
namespace Go.Proofs.Ytclainfdeghgnaa.Nm
open Go.RowKit
theorem Kept.setNew {D : List Nat} {p : Nat} {W w : World} (h : Kept D W w) (hm : W.heap.size ≤ p) (cs : Array Value) : Kept D W (w.setRow p cs) :=
  ⟨by simpa using h.1, fun k hk hp => by rw [setRow_other w p k cs (fun e => by omega)]; exact h.2 k hk hp⟩
section
variable {P : Program} {ops : Array Oper} {Q : Exit → Act → World → Prop} {md : Region.Mode} {D : List Nat} {W : World} {i : Nat} {oi : Oper} {fuel : Nat} {listed : Array Bool} {a : Act} {w : World} {z : Array Value} {ty : TypeId}
theorem ha_mk (hr : Region.ready md ops listed = [i]) (ho : ops[i]? = some oi) (hg : Region.wanted oi (yielded ops a.tmps) = true)
    (hal : ∀ ev w, (execOp ev oi).run P w = .ok (.value (.pointer (some ⟨w.heap.size, 0, none⟩))) (w.alloc (.cells z ty))) (hS : Kept D W w)
    (h : ∀ w' p, Below w.heap.size w w' → W.heap.size ≤ p → w.heap.size ≤ p → w'.heap[p]? = some (.cells z ty) → Kept D W w' → wpAnyH P md ops Q (Kept D W) fuel (listed.setIfInBounds i true) (a.put oi.dst (.pointer (some ⟨p, 0, none⟩))) w') :
    wpAnyH P md ops Q (Kept D W) (fuel + 1) listed a w := by
  have hb : Below w.heap.size w (w.alloc (.cells z ty)) := (Below.refl _ _).alloc (Nat.le_refl _) _
  refine ha_do hr ho hg (hal a.eval w) (hS.below hb) ?_
  exact h _ _ hb hS.1 (Nat.le_refl _) (ha_new rfl) (hS.below hb)
theorem sh_mk (ho : ops[i]? = some oi) (hg : Region.wanted oi (yielded ops a.tmps) = true)
    (hal : ∀ ev w, (execOp ev oi).run P w = .ok (.value (.pointer (some ⟨w.heap.size, 0, none⟩))) (w.alloc (.cells z ty))) (hS : Kept D W w)
    (h : ∀ w' p, Below w.heap.size w w' → W.heap.size ≤ p → w.heap.size ≤ p → w'.heap[p]? = some (.cells z ty) → Kept D W w' → wpAnyH P md ops Q (Kept D W) fuel (listed.setIfInBounds i true) (a.put oi.dst (.pointer (some ⟨p, 0, none⟩))) w') :
    StepH P md ops Q (Kept D W) fuel listed a w i := by
  have hb : Below w.heap.size w (w.alloc (.cells z ty)) := (Below.refl _ _).alloc (Nat.le_refl _) _
  unfold StepH wpOp
  simp only [ho]
  rw [if_pos hg]
  refine .inl ?_
  unfold Oper.wp
  rw [hal]
  exact ⟨hS.below hb, h _ _ hb hS.1 (Nat.le_refl _) (ha_new rfl) (hS.below hb)⟩
end
end Go.Proofs.Ytclainfdeghgnaa.Nm

namespace Go.Proofs.Ytclainfdeghgnaa
open Go.RowKit Go.Proofs.Ytclainfdeghgnaa.Nm Go.Proofs.Ytclainfdeghgnaa.Lm
/-- what has been added of the first i elements: a decimal, and the error's number -/
def totK (U K : Nat → Int) : Nat → Int × Int × Int
  | 0 => (0, 0, 0)
  | n + 1 => if (totK U K n).2.2 = 0 then (if (addS (totK U K n).1 (totK U K n).2.1 (U n) (K n)).2.2 = 0 then addS (totK U K n).1 (totK U K n).2.1 (U n) (K n) else (0, 0, (addS (totK U K n).1 (totK U K n).2.1 (U n) (K n)).2.2)) else totK U K n
theorem totK_on {U K : Nat → Int} {n : Nat} {u k u' k' : Int} (h : totK U K n = (u, k, 0)) (ha : addS u k (U n) (K n) = (u', k', 0)) : totK U K (n + 1) = (u', k', 0) := by
  unfold totK
  rw [h]
  simp [ha]
theorem totK_off {U K : Nat → Int} {n : Nat} {u k u' k' e : Int} (h : totK U K n = (u, k, 0)) (ha : addS u k (U n) (K n) = (u', k', e)) (he : e ≠ 0) : totK U K (n + 1) = (0, 0, e) := by
  unfold totK
  rw [h]
  simp [ha, he]
theorem totK_stay {U K : Nat → Int} {n : Nat} {e : Int} (h : totK U K n = (0, 0, e)) (he : e ≠ 0) (m : Nat) : totK U K (n + m) = (0, 0, e) := by
  induction m with
  | zero => exact h
  | succ m ih =>
    show totK U K (n + m + 1) = _
    unfold totK
    rw [ih]
    simp [he]
theorem totK_stop {U K : Nat → Int} {n N : Nat} {u k u' k' e : Int} (h : totK U K n = (u, k, 0)) (ha : addS u k (U n) (K n) = (u', k', e)) (he : e ≠ 0) (hn : n < N) : totK U K N = (0, 0, e) := by
  obtain ⟨m, rfl⟩ : ∃ m, N = n + 1 + m := ⟨N - (n + 1), by omega⟩
  exact totK_stay (totK_off h ha he) he m
/-- a slice of decimals reads as these -/
def Decs (w : World) (A : Option Addr) (n : Nat) (U K : Nat → Int) : Prop :=
  ∀ i, i < n → ∃ b off Cs t fr, A = some ⟨b, off, none⟩ ∧ w.heap[b]? = some (.cells Cs t fr) ∧ Cs.extract (off + i * 2) (off + i * 2 + 2) = dc (U i) (K i)
theorem rowEl {w : World} {b off i : Nat} {u k : Int} {Cs : Array Value} {t : TypeId} {fr : Nat × Nat} (hb : w.heap[b]? = some (.cells Cs t fr)) (hx : Cs.extract (off + i * 2) (off + i * 2 + 2) = dc u k) : RowAt w 33 ⟨b, off + i * 2, none⟩ (dc u k) := row_mid hb (D := dc u k) (n := 2) hx u33 rfl rfl info33
theorem u53 : Try.prog.underlying 53 = some (.slice 33) := by kernel_rfl
set_option maxHeartbeats 2000000 in
set_option maxRecDepth 100000 in
theorem Total_any (A : Option Addr) (n c : Nat) (U K : Nat → Int) (u k e : Int) (w : World) (hn : n ≤ 200) (HD : Hid (Decs w A n U K)) (HT : Hid (totK U K n = (u, k, e))) :
    Calls Try.prog 38 #[.slice A n c] w fun e' w' => e' = .returned (.tuple #[.agg (dc u k), .int .i64 e]) ∧ Below w.heap.size w w' := by
  go_enter Try.func38, Try.ntmps38
  go_upto_region 2 with (fail)
  refine wp_world (fun W => W.heap[w.heap.size]? = some (.cells (dc 0 0) 33 (0, 0)) ∧ W.heap[w.heap.size + 1]? = some (.cells (dc 0 0) 33 (0, 0)) ∧ Below w.heap.size w W) ⟨ha_old (ha_new rfl), ha_new (by simp), ((Below.refl _ _).alloc (Nat.le_refl _) _).alloc (by simp) _⟩ ?_
  rintro W ⟨h2, h4, hb⟩
  go_wp2_with fail
  go_loopw [10] (fun i wr => ∃ (j : Nat) (u1 k1 : Int), j ≤ n ∧ i = .int .i64 (j : Int) ∧ Hid (totK U K j = (u1, k1, 0)) ∧ wr.heap[w.heap.size]? = some (.cells (dc 0 0) 33 (0, 0)) ∧ wr.heap[w.heap.size + 1]? = some (.cells (dc u1 k1) 33 (0, 0)) ∧ Below w.heap.size w wr) (fun i _ => n - (intOf i).toNat)
  case atStart => exact ⟨0, 0, 0, by omega, rfl, Lib.hid rfl, h2, h4, hb⟩
  case round =>
    clear h2 h4 hb
    obtain ⟨j, u1, k1, hj, rfl, HJ, h2, h4, hb⟩ := hrel
    by_cases hlt : j < n
    · obtain ⟨b, off, Cs, t, fr, rfl, hs0, hx⟩ := HD.out j hlt
      have hs := below_look hb hs0
      clear hs0
      rcases ha : addS u1 k1 (U j) (K j) with ⟨u2, k2, e2⟩
      have HA := Lib.hid ha
      clear ha
      go_upto_region 4 with (fail)
      apply wp_region_lit
      refine wl_k rfl (fun K hK => ?_); go_simp; refine hK _ ?_; clear hK K
      ((with_reducible apply wl_rowG); exact rfl; exact rfl; exact rowEl hs hx)
      (have lth2p6 := heap_lt h2; have lth4p6 := heap_lt h4; have lsp6 := hb.size; (with_reducible apply wl_new33); intro w2 p6 hbn hlp6 hp6; replace h2 := below_look hbn h2; replace h4 := below_look hbn h4; replace hb := hb.trans (hbn.mono hb.size); clear hbn)
      ((with_reducible apply wl_put33); exact rfl; exact rfl; exact hp6; intro w3 hbx hk hq; replace h2 := hk _ _ (by omega) h2; replace h4 := hk _ _ (by omega) h4; replace hb := hbx _ _ (by omega) hb; clear hp6; have hp6 := hq; clear hbx hk hq)
      go_upto_region 6 with (fail)
      apply wp_region_lit
      ((with_reducible apply wl_rowG); exact rfl; exact rfl; exact rowDc h4)
      ((with_reducible apply wl_rowG); exact rfl; exact rfl; exact rowDc hp6)
      refine wl_ck rfl (fun K hK => ?_); go_simp; refine ⟨_, _, ⟨rfl, rfl⟩, hK _ _ ⟨_, Add_any _ _ _ _ _ _ _ HA _, ?_⟩⟩; clear hK K; rintro e w4 ⟨rfl, hb1⟩; refine ⟨_, rfl, ?_⟩; simp only [put_lit, List.set_cons_zero, List.set_cons_succ]
      replace h2 := below_look hb1 h2; replace h4 := below_look hb1 h4; replace hb := hb.trans (hb1.mono hb.size); clear hb1
      refine wl_k rfl (fun K hK => ?_); go_simp; refine hK _ ?_; clear hK K
      refine wl_k rfl (fun K hK => ?_); go_simp; refine hK _ ?_; clear hK K
      refine wl_k rfl (fun K hK => ?_); go_simp; refine hK _ ?_; clear hK K
      ((with_reducible apply wl_put33); exact rfl; exact rfl; exact h4; intro w5 hbx hk hq; replace h2 := hk _ _ (by omega) h2; replace hb := hbx _ _ (by omega) hb; clear h4; have h4 := hq; clear hbx hk hq)
      by_cases he : e2 = 0
      · subst he
        have HN := Lib.hid (totK_on HJ.out HA.out)
        clear HA HJ
        go_wp2_with fail
        go_roundw
        case rel => exact ⟨j + 1, u2, k2, by omega, by go_num, HN, h2, h4, hb⟩
        case measure => simp [intOf]; omega
      · have HN := Lib.hid ((totK_stop HJ.out HA.out he hlt).symm.trans HT.out)
        clear HA HJ HT HD
        have c0 := dc0 h2
        have c1 := dc1 h2
        have f0 : w5.frozen? ⟨w.heap.size, 0, none⟩ = false := frozen_of_row _ _ _ _ _ h2
        have f1 : w5.frozen? ⟨w.heap.size, 1, none⟩ = false := frozen_of_row _ _ _ _ _ h2
        go_wp2_with fail
        have hh := HN.out
        simp only [Prod.mk.injEq] at hh
        obtain ⟨rfl, rfl, rfl⟩ := hh
        exact bodyPost_ret (res_decErr rfl _ _ w.heap.size rfl ((hs_new (hs_new h2)).trans rfl)) rfl ⟨rfl, (hb.setCell (by simp) _).setCell (by simp) _⟩
    · obtain rfl : j = n := by omega
      have HN := Lib.hid (HJ.out.symm.trans HT.out)
      clear HJ HT HD
      have c0 := dc0 h2
      have c1 := dc1 h2
      have d0 := dc0 h4
      have d1 := dc1 h4
      have f0 : wr.frozen? ⟨w.heap.size, 0, none⟩ = false := frozen_of_row _ _ _ _ _ h2
      have f1 : wr.frozen? ⟨w.heap.size, 1, none⟩ = false := frozen_of_row _ _ _ _ _ h2
      go_wp2_with fail
      have hh := HN.out
      simp only [Prod.mk.injEq] at hh
      obtain ⟨rfl, rfl, rfl⟩ := hh
      exact bodyPost_ret (res_decErr rfl _ _ w.heap.size rfl ((hs_new (hs_new h2)).trans rfl)) rfl ⟨rfl, (hb.setCell (by simp) _).setCell (by simp) _⟩
end Go.Proofs.Ytclainfdeghgnaa

namespace Go.Proofs.Ytclainfdeghgnaa
open Go.RowKit Go.Proofs.Ytclainfdeghgnaa.Nm Go.Proofs.Ytclainfdeghgnaa.Lm
set_option maxHeartbeats 2000000 in
set_option maxRecDepth 100000 in
theorem TotalI_any (A : Option Addr) (n c : Nat) (U K : Nat → Int) (u k e : Int) (w : World) (hn : n ≤ 200) (HD : Hid (Decs w A n U K)) (HT : Hid (totK U K n = (u, k, e))) :
    Calls Try.prog 39 #[.slice A n c] w fun e' w' => e' = .returned (.tuple #[.agg (dc u k), .int .i64 e]) ∧ Below w.heap.size w w' := by
  go_enter Try.func39, Try.ntmps39
  go_upto_region 3 with (fail)
  refine wp_world (fun W => W.heap[w.heap.size]? = some (.cells (dc 0 0) 33 (0, 0)) ∧ W.heap[w.heap.size + 1]? = some (.cells (dc 0 0) 33 (0, 0)) ∧ Below w.heap.size w W) ⟨ha_old (ha_new rfl), ha_new (by simp), ((Below.refl _ _).alloc (Nat.le_refl _) _).alloc (by simp) _⟩ ?_
  rintro W ⟨h2, h4, hb⟩
  go_wp2_with fail
  go_loopw [5] (fun i wr => ∃ (j : Nat) (u1 k1 : Int), j ≤ n ∧ i = .int .i64 (j : Int) ∧ Hid (totK U K j = (u1, k1, 0)) ∧ wr.heap[w.heap.size]? = some (.cells (dc 0 0) 33 (0, 0)) ∧ wr.heap[w.heap.size + 1]? = some (.cells (dc u1 k1) 33 (0, 0)) ∧ Below w.heap.size w wr) (fun i _ => n - (intOf i).toNat)
  case atStart => exact ⟨0, 0, 0, by omega, rfl, Lib.hid rfl, h2, h4, hb⟩
  case round =>
    clear h2 h4 hb
    obtain ⟨j, u1, k1, hj, rfl, HJ, h2, h4, hb⟩ := hrel
    by_cases hlt : j < n
    · obtain ⟨b, off, Cs, t, fr, rfl, hs0, hx⟩ := HD.out j hlt
      have hs := below_look hb hs0
      clear hs0
      rcases ha : addS u1 k1 (U j) (K j) with ⟨u2, k2, e2⟩
      have HA := Lib.hid ha
      clear ha
      go_upto_region 5 with (fail)
      have l2 := heap_lt h2
      have l4 := heap_lt h4
      have l0 := hb.size
      replace hb := hb.drew
      refine wp_region_held_drew (S := Kept [] wr) mixed (Kept.drew [] wr) (fun hS => ?_)
      refine ha_val (i := 0) rfl (by kernel_rfl) (by kernel_rfl) (by kernel_rfl) (fun _ _ _ h => h) hS rfl (fun w' hw' => ex_row rfl (rowDc (hw'.look h4 (by simp <;> omega)))) ?_; try simp only [put_lit, List.set_cons_zero, List.set_cons_succ]
      refine ha_k (i := 1) rfl (by kernel_rfl) (by kernel_rfl) (by kernel_rfl) (fun _ _ _ _ h => h) hS rfl (fun K hK => ?_); go_simp; refine hK _ ?_; clear hK K; try simp only [put_lit, List.set_cons_zero, List.set_cons_succ]
      refine ha_k (i := 2) rfl (by kernel_rfl) (by kernel_rfl) (by kernel_rfl) (fun _ _ _ _ h => h) hS rfl (fun K hK => ?_); go_simp; refine hK _ ?_; clear hK K; try simp only [put_lit, List.set_cons_zero, List.set_cons_succ]
      refine ha_k (i := 3) rfl (by kernel_rfl) (by kernel_rfl) (by kernel_rfl) (fun _ _ _ _ h => h) hS rfl (fun K hK => ?_); go_simp; refine hK _ ?_; clear hK K; try simp only [put_lit, List.set_cons_zero, List.set_cons_succ]
      refine ha_val (i := 4) rfl (by kernel_rfl) (by kernel_rfl) (by kernel_rfl) (fun _ _ _ h => h) hS rfl (fun w' hw' => ex_row rfl (rowEl (hw'.look hs (by simp)) hx)) ?_; try simp only [put_lit, List.set_cons_zero, List.set_cons_succ]
      refine ha_two (i := 5) (j := 9) (by kernel_rfl) ?_ ?_
      · refine sh_call (i := 5) rfl rfl (fun K hK => ?_); go_simp; refine ⟨_, _, ⟨rfl, rfl⟩, hK _ _ ⟨_, AddI_any _ _ _ _ _ _ _ HA _, ?_⟩⟩; clear hK K; rintro e w3 ⟨rfl, hb1⟩; refine ⟨_, rfl, hS.below hb1, ?_⟩; replace hS := hS.below hb1; replace h2 := below_look hb1 h2; replace h4 := below_look hb1 h4; replace hb := hb.trans (hb1.mono hb.size); clear hb1; try simp only [put_lit, List.set_cons_zero, List.set_cons_succ]
        refine ha_k (i := 6) rfl (by kernel_rfl) (by kernel_rfl) (by kernel_rfl) (fun _ _ _ _ h => h) hS rfl (fun K hK => ?_); go_simp; refine hK _ ?_; clear hK K; try simp only [put_lit, List.set_cons_zero, List.set_cons_succ]
        refine ha_k (i := 7) rfl (by kernel_rfl) (by kernel_rfl) (by kernel_rfl) (fun _ _ _ _ h => h) hS rfl (fun K hK => ?_); go_simp; refine hK _ ?_; clear hK K; try simp only [put_lit, List.set_cons_zero, List.set_cons_succ]
        refine ha_k (i := 8) rfl (by kernel_rfl) (by kernel_rfl) (by kernel_rfl) (fun _ _ _ _ h => h) hS rfl (fun K hK => ?_); go_simp; refine hK _ ?_; clear hK K; try simp only [put_lit, List.set_cons_zero, List.set_cons_succ]
        refine ha_mk (i := 9) (by kernel_rfl) rfl rfl (fun ev w' => ex_alloc33 rfl ev w') hS (fun w4 p6 hb1 hLp6 hlp6 hp6 hS => ?_); replace h2 := below_look hb1 h2; replace h4 := below_look hb1 h4; replace hb := hb.trans (hb1.mono hb.size); clear hb1; try simp only [put_lit, List.set_cons_zero, List.set_cons_succ]
        refine ha_store (i := 10) (by kernel_rfl) rfl rfl 33 _ _ rfl _ (dc u2 k2) rfl rfl 33 _ hp6 info33 rfl (by simp [dc, Value.oneCell']) (hS.setNew (by omega) _) (fun hS => ?_); try simp only [put_lit, List.set_cons_zero, List.set_cons_succ]
        refine ha_k (i := 11) rfl (by kernel_rfl) (by kernel_rfl) (by kernel_rfl) (fun _ _ _ _ h => h) hS rfl (fun K hK => ?_); go_simp; refine hK _ ?_; clear hK K; try simp only [put_lit, List.set_cons_zero, List.set_cons_succ]
        refine wpAnyH_done (by kernel_rfl) ?_ _
        replace h2 := hr_old (g := p6) (cs := dc u2 k2) h2 (by omega)
        replace h4 := hr_old (g := p6) (cs := dc u2 k2) h4 (by omega)
        replace hb := below_setRow hb (g := p6) (by omega) (dc u2 k2)
        replace hp6 := hr_new (cs := dc u2 k2) hp6
        by_cases he : e2 = 0
        · subst he
          have HN := Lib.hid (totK_on HJ.out HA.out)
          clear HA HJ
          go_upto_region 8 with (fail)
          apply wp_region_lit
          ((with_reducible apply wl_rowG); exact rfl; exact rfl; exact rowDc hp6)
          ((with_reducible apply wl_put33); exact rfl; exact rfl; exact h4; intro w6 hbx hk hq; replace h2 := hk _ _ (by omega) h2; replace hb := hbx _ _ (by omega) hb; clear h4; have h4 := hq; clear hbx hk hq)
          go_wp2_with fail
          go_roundw
          case rel => exact ⟨j + 1, u2, k2, by omega, by go_num, HN, h2, h4, hb⟩
          case measure => simp [intOf]; omega
        · have HN := Lib.hid ((totK_stop HJ.out HA.out he hlt).symm.trans HT.out)
          clear HA HJ HT HD
          have c0 := dc0 h2
          have c1 := dc1 h2
          have f0 : (w4.setRow p6 (dc u2 k2)).frozen? ⟨w.heap.size, 0, none⟩ = false := frozen_of_row _ _ _ _ _ h2
          have f1 : (w4.setRow p6 (dc u2 k2)).frozen? ⟨w.heap.size, 1, none⟩ = false := frozen_of_row _ _ _ _ _ h2
          go_wp2_with fail
          have hh := HN.out
          simp only [Prod.mk.injEq] at hh
          obtain ⟨rfl, rfl, rfl⟩ := hh
          exact bodyPost_ret (res_decErr rfl _ _ w.heap.size rfl ((hs_new (hs_new h2)).trans rfl)) rfl ⟨rfl, (hb.setCell (by simp) _).setCell (by simp) _⟩
      · refine sh_mk (i := 9) rfl rfl (fun ev w' => ex_alloc33 rfl ev w') hS (fun w4 p6 hb1 hLp6 hlp6 hp6 hS => ?_); replace h2 := below_look hb1 h2; replace h4 := below_look hb1 h4; replace hb := hb.trans (hb1.mono hb.size); clear hb1; try simp only [put_lit, List.set_cons_zero, List.set_cons_succ]
        refine ha_call (i := 5) (by kernel_rfl) rfl rfl (fun K hK => ?_); go_simp; refine ⟨_, _, ⟨rfl, rfl⟩, hK _ _ ⟨_, AddI_any _ _ _ _ _ _ _ HA _, ?_⟩⟩; clear hK K; rintro e w3 ⟨rfl, hb1⟩; refine ⟨_, rfl, hS.below hb1, ?_⟩; replace hS := hS.below hb1; replace h2 := below_look hb1 h2; replace h4 := below_look hb1 h4; replace hp6 := below_look hb1 hp6; replace hb := hb.trans (hb1.mono hb.size); clear hb1; try simp only [put_lit, List.set_cons_zero, List.set_cons_succ]
        refine ha_k (i := 6) rfl (by kernel_rfl) (by kernel_rfl) (by kernel_rfl) (fun _ _ _ _ h => h) hS rfl (fun K hK => ?_); go_simp; refine hK _ ?_; clear hK K; try simp only [put_lit, List.set_cons_zero, List.set_cons_succ]
        refine ha_k (i := 7) rfl (by kernel_rfl) (by kernel_rfl) (by kernel_rfl) (fun _ _ _ _ h => h) hS rfl (fun K hK => ?_); go_simp; refine hK _ ?_; clear hK K; try simp only [put_lit, List.set_cons_zero, List.set_cons_succ]
        refine ha_k (i := 8) rfl (by kernel_rfl) (by kernel_rfl) (by kernel_rfl) (fun _ _ _ _ h => h) hS rfl (fun K hK => ?_); go_simp; refine hK _ ?_; clear hK K; try simp only [put_lit, List.set_cons_zero, List.set_cons_succ]
        refine ha_store (i := 10) (by kernel_rfl) rfl rfl 33 _ _ rfl _ (dc u2 k2) rfl rfl 33 _ hp6 info33 rfl (by simp [dc, Value.oneCell']) (hS.setNew (by omega) _) (fun hS => ?_); try simp only [put_lit, List.set_cons_zero, List.set_cons_succ]
        refine ha_k (i := 11) rfl (by kernel_rfl) (by kernel_rfl) (by kernel_rfl) (fun _ _ _ _ h => h) hS rfl (fun K hK => ?_); go_simp; refine hK _ ?_; clear hK K; try simp only [put_lit, List.set_cons_zero, List.set_cons_succ]
        refine wpAnyH_done (by kernel_rfl) ?_ _
        replace h2 := hr_old (g := p6) (cs := dc u2 k2) h2 (by omega)
        replace h4 := hr_old (g := p6) (cs := dc u2 k2) h4 (by omega)
        replace hb := below_setRow hb (g := p6) (by omega) (dc u2 k2)
        replace hp6 := hr_new (cs := dc u2 k2) hp6
        by_cases he : e2 = 0
        · subst he
          have HN := Lib.hid (totK_on HJ.out HA.out)
          clear HA HJ
          go_upto_region 8 with (fail)
          apply wp_region_lit
          ((with_reducible apply wl_rowG); exact rfl; exact rfl; exact rowDc hp6)
          ((with_reducible apply wl_put33); exact rfl; exact rfl; exact h4; intro w6 hbx hk hq; replace h2 := hk _ _ (by omega) h2; replace hb := hbx _ _ (by omega) hb; clear h4; have h4 := hq; clear hbx hk hq)
          go_wp2_with fail
          go_roundw
          case rel => exact ⟨j + 1, u2, k2, by omega, by go_num, HN, h2, h4, hb⟩
          case measure => simp [intOf]; omega
        · have HN := Lib.hid ((totK_stop HJ.out HA.out he hlt).symm.trans HT.out)
          clear HA HJ HT HD
          have c0 := dc0 h2
          have c1 := dc1 h2
          have f0 : (w3.setRow p6 (dc u2 k2)).frozen? ⟨w.heap.size, 0, none⟩ = false := frozen_of_row _ _ _ _ _ h2
          have f1 : (w3.setRow p6 (dc u2 k2)).frozen? ⟨w.heap.size, 1, none⟩ = false := frozen_of_row _ _ _ _ _ h2
          go_wp2_with fail
          have hh := HN.out
          simp only [Prod.mk.injEq] at hh
          obtain ⟨rfl, rfl, rfl⟩ := hh
          exact bodyPost_ret (res_decErr rfl _ _ w.heap.size rfl ((hs_new (hs_new h2)).trans rfl)) rfl ⟨rfl, (hb.setCell (by simp) _).setCell (by simp) _⟩
    · obtain rfl : j = n := by omega
      have HN := Lib.hid (HJ.out.symm.trans HT.out)
      clear HJ HT HD
      have c0 := dc0 h2
      have c1 := dc1 h2
      have d0 := dc0 h4
      have d1 := dc1 h4
      have f0 : wr.frozen? ⟨w.heap.size, 0, none⟩ = false := frozen_of_row _ _ _ _ _ h2
      have f1 : wr.frozen? ⟨w.heap.size, 1, none⟩ = false := frozen_of_row _ _ _ _ _ h2
      go_wp2_with fail
      have hh := HN.out
      simp only [Prod.mk.injEq] at hh
      obtain ⟨rfl, rfl, rfl⟩ := hh
      exact bodyPost_ret (res_decErr rfl _ _ w.heap.size rfl ((hs_new (hs_new h2)).trans rfl)) rfl ⟨rfl, (hb.setCell (by simp) _).setCell (by simp) _⟩
end Go.Proofs.Ytclainfdeghgnaa

namespace Go.Proofs.Ytclainfdeghgnaa
open Go.RowKit Go.Proofs.Ytclainfdeghgnaa.Nm
set_option maxHeartbeats 2000000 in
set_option maxRecDepth 100000 in
theorem NumberSums_any (A : Option Addr) (n c : Nat) (U K : Nat → Int) (w : World) (HD : Hid (Decs w A n U K)) :
    Calls Try.prog 13 #[.slice A n c] w fun e w' => e = .returned (.bool true) ∧ Below w.heap.size w w' := by
  have hb := Below.refl w.heap.size w
  by_cases hn : (200 : Int) < (n : Int)
  · go_enter Try.func13, Try.ntmps13
    go_wp2_with (go_at_call 21; refine (awake_any _).mono ?_; rintro e w9 ⟨rfl, hb1⟩; replace hb := hb.trans (hb1.mono hb.size); clear hb1)
    go_ret
    exact ⟨rfl, hb⟩
  · rcases ht : totK U K n with ⟨u, k, e⟩
    have HT := Lib.hid ht
    clear ht
    go_enter Try.func13, Try.ntmps13
    go_upto_region 3 with (fail)
    apply wp_region_lit
    refine wl_k rfl (fun K hK => ?_); go_simp; refine hK _ ?_; clear hK K
    refine wl_ck rfl (fun K hK => ?_); go_simp; refine ⟨_, _, ⟨rfl, rfl⟩, hK _ _ ⟨_, Total_any _ _ _ _ _ _ _ _ _ (by omega) HD HT, ?_⟩⟩; clear hK K; rintro e w1 ⟨rfl, hb1⟩; refine ⟨_, rfl, ?_⟩; simp only [put_lit, List.set_cons_zero, List.set_cons_succ]
    have HD1 : Hid (Decs w1 A n U K) := Lib.hid fun i hi => by
      obtain ⟨b, off, Cs, t, fr, h1, h2, h3⟩ := HD.out i hi
      exact ⟨b, off, Cs, t, fr, h1, below_look hb1 h2, h3⟩
    replace hb := hb.trans (hb1.mono hb.size); clear hb1
    clear HD
    refine wl_k rfl (fun K hK => ?_); go_simp; refine hK _ ?_; clear hK K
    refine wl_k rfl (fun K hK => ?_); go_simp; refine hK _ ?_; clear hK K
    refine wl_k rfl (fun K hK => ?_); go_simp; refine hK _ ?_; clear hK K
    (have ls := hb.size; (with_reducible apply wl_new33); intro w2 p3 hbn hlp3 hp3)
    have HD2 : Hid (Decs w2 A n U K) := Lib.hid fun i hi => by
      obtain ⟨b, off, Cs, t, fr, h1, h2, h3⟩ := HD1.out i hi
      exact ⟨b, off, Cs, t, fr, h1, below_look hbn h2, h3⟩
    have HL2 : Hid (∀ i, i < n → ∃ b off Cs t fr, A = some ⟨b, off, none⟩ ∧ b ≠ p3 ∧ w2.heap[b]? = some (.cells Cs t fr) ∧ Cs.extract (off + i * 2) (off + i * 2 + 2) = dc (U i) (K i)) := Lib.hid fun i hi => by
      obtain ⟨b, off, Cs, t, fr, h1, h2, h3⟩ := HD1.out i hi
      exact ⟨b, off, Cs, t, fr, h1, by have := heap_lt h2; omega, below_look hbn h2, h3⟩
    replace hb := hb.trans (hbn.mono hb.size)
    clear HD1 HD2 hbn
    ((with_reducible apply wl_put33); exact rfl; exact rfl; exact hp3; intro w3 hbx hk hq)
    have HD : Hid (Decs w3 A n U K) := Lib.hid fun i hi => by
      obtain ⟨b, off, Cs, t, fr, h1, h4, h2, h3⟩ := HL2.out i hi
      exact ⟨b, off, Cs, t, fr, h1, hk _ _ h4 h2, h3⟩
    replace hb := hbx _ _ (by omega) hb
    clear hp3 HL2
    have hp3 := hq
    clear hbx hk hq
    go_upto_region 4 with (fail)
    apply wp_region_lit
    refine wl_k rfl (fun K hK => ?_); go_simp; refine hK _ ?_; clear hK K
    refine wl_ck rfl (fun K hK => ?_); go_simp; refine ⟨_, _, ⟨rfl, rfl⟩, hK _ _ ⟨_, TotalI_any _ _ _ _ _ _ _ _ _ (by omega) HD HT, ?_⟩⟩; clear hK K; rintro e w4 ⟨rfl, hb1⟩; refine ⟨_, rfl, ?_⟩; simp only [put_lit, List.set_cons_zero, List.set_cons_succ]
    replace hp3 := below_look hb1 hp3; replace hb := hb.trans (hb1.mono hb.size); clear hb1
    refine wl_k rfl (fun K hK => ?_); go_simp; refine hK _ ?_; clear hK K
    refine wl_k rfl (fun K hK => ?_); go_simp; refine hK _ ?_; clear hK K
    refine wl_k rfl (fun K hK => ?_); go_simp; refine hK _ ?_; clear hK K
    (have lthp3p5 := heap_lt hp3; have lsp5 := hb.size; (with_reducible apply wl_new33); intro w5 p5 hbn hlp5 hp5; replace hp3 := below_look hbn hp3; replace hb := hb.trans (hbn.mono hb.size); clear hbn)
    ((with_reducible apply wl_put33); exact rfl; exact rfl; exact hp5; intro w6 hbx hk hq; replace hp3 := hk _ _ (by omega) hp3; replace hb := hbx _ _ (by omega) hb; clear hp5; have hp5 := hq; clear hbx hk hq)
    go_upto_region 5 with (fail)
    clear HD HT
    apply wp_region_lit
    ((with_reducible apply wl_rowG); exact rfl; exact rfl; exact rowDc hp3)
    ((with_reducible apply wl_rowG); exact rfl; exact rfl; exact rowDc hp5)
    simp only [dc]
    go_wp2_with (go_at_call 21; refine (awake_any _).mono ?_; rintro e w9 ⟨rfl, hb1⟩; replace hb := hb.trans (hb1.mono hb.size); clear hb1)
    go_ret
    exact ⟨rfl, hb⟩
end Go.Proofs.Ytclainfdeghgnaa

namespace Go.Proofs.Ytclainfdeghgnaa
open Go.ChangeShapes Go.WideShapes Go.ChangeAt Go.RowKit
theorem pair_row {w : World} {a : Addr} {i : Nat} {v0 v1 : Value} (h0 : w.cell? (a.add (i * 2)) = some v0) (h1 : w.cell? (a.add (i * 2 + 1)) = some v1) (hs : a.spot = none) :
    ∃ Cs t fr, w.heap[a.block]? = some (.cells Cs t fr) ∧ Cs.extract (a.off + i * 2) (a.off + i * 2 + 2) = #[v0, v1] := by
  have e : ∀ n, a.add n = ⟨a.block, a.off + n, none⟩ := fun n => by
    obtain ⟨b, o, s⟩ := a
    unfold Addr.add
    split
    · rename_i h; subst h; simp at hs; simp [hs]
    · rfl
  rw [e] at h0 h1
  unfold World.cell? at h0 h1
  simp only [] at h0 h1
  cases hc : w.heap[a.block]? with
  | none => rw [hc] at h0; cases h0
  | some o =>
    cases o with
    | cells Cs t fr =>
      rw [hc] at h0 h1
      simp at h0 h1
      refine ⟨Cs, t, fr, rfl, ?_⟩
      obtain ⟨l0, g0⟩ := Array.getElem?_eq_some_iff.1 h0
      obtain ⟨l1, g1⟩ := Array.getElem?_eq_some_iff.1 h1
      apply Array.ext
      · simp; omega
      · intro j hj1 hj2
        have hj : j = 0 ∨ j = 1 := by simp at hj2; omega
        rcases hj with rfl | rfl
        · simp [g0]
        · simpa [Nat.add_assoc] using g1
    | _ => rw [hc] at h0; cases h0
theorem u53r : Try.prog.underlying 53 = some (.slice 33) := by kernel_rfl
section
variable {H : Type} {enc : TypeId × Value → H} {w : World} {base b0 : Nat} {sp : Nat → Bool} {held : Bool} {r : Reach} {v : Value} {d : DataW H} {p : List MemPlace}
set_option maxRecDepth 100000 in
theorem open_decs (hv : Value.okWide Try.prog w r b0 53 v) (h : DataW.Trod enc Try.prog w base sp held 53 v d p) :
    ∃ (A : Option Addr) (n c : Nat) (U K : Nat → Int), v = .slice A n c ∧ Decs w A n U K := by
  obtain ⟨A, n, c, rfl⟩ := okWide_slice u53r hv
  obtain ⟨fuel, hf⟩ := h
  obtain ⟨f0, f1, hfs, e0, e1⟩ := fields2 flds33
  simp only [Prod.mk.injEq] at e0 e1
  have hu := u33r
  rw [hfs] at hu
  rcases Deep.open_slice_pairs u53r hu cells33 e0.2 e1.2 (by rw [e0.1]; exact cells3) (by rw [e1.1]; exact cells3) hf with ⟨hc, _⟩ | ⟨a, len, cap, m, k, V0, V1, D0, D1, P0, P1, hc, _, hl, _, hmm, _, hall⟩
  · simp [Value.cells] at hc
    obtain ⟨rfl, rfl, rfl⟩ := hc
    exact ⟨_, _, _, fun _ => 0, fun _ => 0, rfl, fun i hi => absurd hi (by omega)⟩
  · simp [Value.cells] at hc
    obtain ⟨rfl, rfl, rfl⟩ := hc
    refine ⟨_, _, _, fun i => match V0 i with | .int _ z => z | _ => 0, fun i => match V1 i with | .int _ z => z | _ => 0, rfl, fun i hi => ?_⟩
    have him : i < m := by rw [hmm]; split <;> omega
    obtain ⟨c0, c1, t0, t1⟩ := hall i him
    rw [e0.1] at t0
    rw [e1.1] at t1
    obtain ⟨x, hx, _, _⟩ := DataW.trod_int row_u3 t0
    obtain ⟨y, hy, _, _⟩ := DataW.trod_int row_u3 t1
    simp at hx hy
    have hs : a.spot = none := by
      obtain ⟨z0, _⟩ := hall 0 (by omega)
      unfold World.cell? at z0
      simp [Addr.add] at z0
      split at z0
      · split at z0
        · cases z0
        · rename_i h; simpa using h
      · cases z0
    obtain ⟨Cs, t, fr, h1, h2⟩ := pair_row c0 c1 hs
    refine ⟨a.block, a.off, Cs, t, fr, ?_, h1, ?_⟩
    · obtain ⟨b, o, s⟩ := a; simp at hs; simp [hs]
    · rw [h2, hx, hy]; simp only [hx, hy]; rfl
end
end Go.Proofs.Ytclainfdeghgnaa
