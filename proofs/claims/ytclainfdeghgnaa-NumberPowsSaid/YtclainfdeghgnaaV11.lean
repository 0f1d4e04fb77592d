/- Powers of a number, the program's. Powers of a number, the document's; the law. -/
import Derived.Test.YtclainfdeghgnaaV10
import Derived.Test.YtclainfdeghgnaaW8
import Derived.Outline
namespace Go.Proofs.Ytclainfdeghgnaa
open Go.RowKit Go.Proofs.Ytclainfdeghgnaa.Nm
/-- the power after so many steps, and the error -/
def powK (n : Nat) (s : Bool) (m : List UInt8) (x : Int) : Nat → Int × Int
  | 0 => (1, 0)
  | k + 1 => if (powK n s m x k).2 = 0 then bringW n s m ((powK n s m x k).1 * x) else powK n s m x k
theorem powK_step {n : Nat} {s : Bool} {m : List UInt8} {x z : Int} {k : Nat} (h : powK n s m x k = (z, 0)) : powK n s m x (k + 1) = bringW n s m (z * x) := by
  rw [powK, h]
  simp
theorem powK_stuck {n : Nat} {s : Bool} {m : List UInt8} {x r er : Int} {k N : Nat} (h : powK n s m x k = (r, er)) (he : er ≠ 0) (hk : k ≤ N) : powK n s m x N = (r, er) := by
  induction N with
  | zero =>
    obtain rfl : k = 0 := by omega
    exact h
  | succ N ih =>
    by_cases e : k = N + 1
    · rw [← e]; exact h
    · have := ih (by omega)
      rw [powK, this, if_neg he]
theorem powK_bd {n : Int} {s : Bool} {m : List UInt8} {x z e : Int} {k : Nat} (hr : isRight n = true) (h : powK n.toNat s m x k = (z, e)) : z.natAbs ≤ 18446744073709551616 := by
  induction k generalizing z e with
  | zero =>
    rw [powK, Prod.mk.injEq] at h
    omega
  | succ k ih =>
    rw [powK] at h
    by_cases he : (powK n.toNat s m x k).2 = 0
    · rw [if_pos he] at h
      exact bring_bd hr h
    · rw [if_neg he] at h
      exact ih h
/-- what a text to a power is, brought into a width at each step: the text, and the error -/
def powS (a : ByteArray) (p n : Int) (s : Bool) (m : ByteArray) : ByteArray × Int :=
  match rdm a with
  | none => (⟨#[]⟩, 4)
  | some x => if isRight n then (if isModeL m.data.toList then (if hasI n s x = true ∧ 0 ≤ p ∧ p ≤ 64 then (if (powK n.toNat s m.toList x p.toNat).2 = 0 then (⟨(txt (powK n.toNat s m.toList x p.toNat).1).toArray⟩, 0) else (⟨#[]⟩, (powK n.toNat s m.toList x p.toNat).2)) else (⟨#[]⟩, 1)) else (⟨#[]⟩, 3)) else (⟨#[]⟩, 3)
set_option maxHeartbeats 400000 in
theorem Pow_none (m md : ByteArray) (p bits : Int) (s : Bool) (hx : rdm m = none) (w : World) :
    Calls Try.prog 40 #[.string m, .int .i64 p, .int .i64 bits, .bool s, .string md] w fun e w' => e = .returned (.tuple #[.string ⟨#[]⟩, .int .i64 4]) ∧ Below w.heap.size w w' := by
  go_enter Try.func40, Try.ntmps40
  go_upto_region 1 with (fail)
  apply wp_region_lit
  refine wl_k rfl (fun K hK => ?_); go_simp; refine hK _ ?_; clear hK K
  refine wl_ck rfl (fun K hK => ?_); go_simp; refine ⟨_, _, ⟨rfl, rfl⟩, hK _ _ ⟨_, read_any2 m 0 false (Or.inr ⟨hx, rfl, rfl⟩) _, ?_⟩⟩; clear hK K; rintro e w1 ⟨rfl, hb1⟩; refine ⟨_, rfl, ?_⟩; simp only [put_lit, List.set_cons_zero, List.set_cons_succ]
  have hb := hb1
  clear hb1
  refine wl_k rfl (fun K hK => ?_); go_simp; refine hK _ ?_; clear hK K
  refine wl_k rfl (fun K hK => ?_); go_simp; refine hK _ ?_; clear hK K
  refine wl_k rfl (fun K hK => ?_); go_simp; refine hK _ ?_; clear hK K
  (have lsp2 := hb.size; (with_reducible apply wl_new75); intro w2 p2 hbn hlp2 hp2; replace hb := hb.trans (hbn.mono hb.size); clear hbn)
  ((with_reducible apply wl_put75); exact rfl; exact rfl; exact hp2; intro w3 hbx hk hq; replace hb := hbx _ _ (by omega) hb; clear hp2; have hp2 := hq; clear hbx hk hq)
  go_wp2_with fail
  exact bodyPost_ret (results_tmp2 rfl _ _ _) rfl ⟨rfl, hb⟩
set_option maxHeartbeats 400000 in
theorem Pow_name1 (m md : ByteArray) (p bits : Int) (s : Bool) (x : Int) (hx : rdm m = some x) (hr : Hid (isRight bits = false)) (w : World) :
    Calls Try.prog 40 #[.string m, .int .i64 p, .int .i64 bits, .bool s, .string md] w fun e w' => e = .returned (.tuple #[.string ⟨#[]⟩, .int .i64 3]) ∧ Below w.heap.size w w' := by
  go_enter Try.func40, Try.ntmps40
  go_upto_region 1 with (fail)
  apply wp_region_lit
  refine wl_k rfl (fun K hK => ?_); go_simp; refine hK _ ?_; clear hK K
  refine wl_ck rfl (fun K hK => ?_); go_simp; refine ⟨_, _, ⟨rfl, rfl⟩, hK _ _ ⟨_, read_any2 m x true (Or.inl ⟨hx, rfl⟩) _, ?_⟩⟩; clear hK K; rintro e w1 ⟨rfl, hb1⟩; refine ⟨_, rfl, ?_⟩; simp only [put_lit, List.set_cons_zero, List.set_cons_succ]
  have hb := hb1
  clear hb1
  refine wl_k rfl (fun K hK => ?_); go_simp; refine hK _ ?_; clear hK K
  refine wl_k rfl (fun K hK => ?_); go_simp; refine hK _ ?_; clear hK K
  refine wl_k rfl (fun K hK => ?_); go_simp; refine hK _ ?_; clear hK K
  (have lsp2 := hb.size; (with_reducible apply wl_new75); intro w2 p2 hbn hlp2 hp2; replace hb := hb.trans (hbn.mono hb.size); clear hbn)
  ((with_reducible apply wl_put75); exact rfl; exact rfl; exact hp2; intro w3 hbx hk hq; replace hb := hbx _ _ (by omega) hb; clear hp2; have hp2 := hq; clear hbx hk hq)
  go_upto_region 5 with (fail)
  have L2 := heap_lt hp2
  refine wp_world (fun W => W.heap[p2]? = some (.cells (lv x) 75 (0, 0)) ∧ W.heap[w3.heap.size]? = some (.cells (wi bits s) 68 (0, 0)) ∧ Below w.heap.size w W) ⟨ha_old hp2, ha_new rfl, hb.alloc hb.size _⟩ ?_
  obtain ⟨p3, hp3⟩ : ∃ p3, p3 = w3.heap.size := ⟨_, rfl⟩
  have lp3 : w.heap.size ≤ p3 := by have := hb.size; omega
  rw [← hp3] at L2 ⊢
  clear hp2 hb hp3
  rintro W ⟨hp2, h0, hb⟩
  apply wp_region_lit
  ((with_reducible apply wl_rowG); exact rfl; exact rfl; exact rowWi (by with_reducible assumption))
  refine wl_ck rfl (fun K hK => ?_); go_simp; refine ⟨_, _, ⟨rfl, rfl⟩, hK _ _ ⟨_, right_any _ _ false (Lib.hid hr.out.symm) _, ?_⟩⟩; clear hK K; rintro e w4 ⟨rfl, hb1⟩; refine ⟨_, rfl, ?_⟩; simp only [put_lit, List.set_cons_zero, List.set_cons_succ]
  replace h0 := below_look hb1 h0; replace hp2 := below_look hb1 hp2; replace hb := hb.trans (hb1.mono hb.size); clear hb1
  go_wp2_with fail
  exact bodyPost_ret (results_tmp2 rfl _ _ _) rfl ⟨rfl, hb⟩
set_option maxHeartbeats 400000 in
theorem Pow_name2 (m md : ByteArray) (p bits : Int) (s : Bool) (x : Int) (hx : rdm m = some x) (hr : Hid (isRight bits = true)) (hm : Hid (isModeL md.data.toList = false)) (w : World) :
    Calls Try.prog 40 #[.string m, .int .i64 p, .int .i64 bits, .bool s, .string md] w fun e w' => e = .returned (.tuple #[.string ⟨#[]⟩, .int .i64 3]) ∧ Below w.heap.size w w' := by
  go_enter Try.func40, Try.ntmps40
  go_upto_region 1 with (fail)
  apply wp_region_lit
  refine wl_k rfl (fun K hK => ?_); go_simp; refine hK _ ?_; clear hK K
  refine wl_ck rfl (fun K hK => ?_); go_simp; refine ⟨_, _, ⟨rfl, rfl⟩, hK _ _ ⟨_, read_any2 m x true (Or.inl ⟨hx, rfl⟩) _, ?_⟩⟩; clear hK K; rintro e w1 ⟨rfl, hb1⟩; refine ⟨_, rfl, ?_⟩; simp only [put_lit, List.set_cons_zero, List.set_cons_succ]
  have hb := hb1
  clear hb1
  refine wl_k rfl (fun K hK => ?_); go_simp; refine hK _ ?_; clear hK K
  refine wl_k rfl (fun K hK => ?_); go_simp; refine hK _ ?_; clear hK K
  refine wl_k rfl (fun K hK => ?_); go_simp; refine hK _ ?_; clear hK K
  (have lsp2 := hb.size; (with_reducible apply wl_new75); intro w2 p2 hbn hlp2 hp2; replace hb := hb.trans (hbn.mono hb.size); clear hbn)
  ((with_reducible apply wl_put75); exact rfl; exact rfl; exact hp2; intro w3 hbx hk hq; replace hb := hbx _ _ (by omega) hb; clear hp2; have hp2 := hq; clear hbx hk hq)
  go_upto_region 5 with (fail)
  have L2 := heap_lt hp2
  refine wp_world (fun W => W.heap[p2]? = some (.cells (lv x) 75 (0, 0)) ∧ W.heap[w3.heap.size]? = some (.cells (wi bits s) 68 (0, 0)) ∧ Below w.heap.size w W) ⟨ha_old hp2, ha_new rfl, hb.alloc hb.size _⟩ ?_
  obtain ⟨p3, hp3⟩ : ∃ p3, p3 = w3.heap.size := ⟨_, rfl⟩
  have lp3 : w.heap.size ≤ p3 := by have := hb.size; omega
  rw [← hp3] at L2 ⊢
  clear hp2 hb hp3
  rintro W ⟨hp2, h0, hb⟩
  apply wp_region_lit
  ((with_reducible apply wl_rowG); exact rfl; exact rfl; exact rowWi (by with_reducible assumption))
  refine wl_ck rfl (fun K hK => ?_); go_simp; refine ⟨_, _, ⟨rfl, rfl⟩, hK _ _ ⟨_, right_any _ _ true (Lib.hid hr.out.symm) _, ?_⟩⟩; clear hK K; rintro e w4 ⟨rfl, hb1⟩; refine ⟨_, rfl, ?_⟩; simp only [put_lit, List.set_cons_zero, List.set_cons_succ]
  replace h0 := below_look hb1 h0; replace hp2 := below_look hb1 hp2; replace hb := hb.trans (hb1.mono hb.size); clear hb1
  refine wl_k rfl (fun K hK => ?_); go_simp; refine hK _ ?_; clear hK K
  refine wl_k rfl (fun K hK => ?_); go_simp; refine hK _ ?_; clear hK K
  refine wl_k rfl (fun K hK => ?_); go_simp; refine hK _ ?_; clear hK K
  refine wl_ck rfl (fun K hK => ?_); go_simp; refine ⟨_, _, ⟨rfl, rfl⟩, hK _ _ ⟨_, isMode_any _ false (Lib.hid hm.out.symm) _, ?_⟩⟩; clear hK K; rintro e w5 ⟨rfl, hb1⟩; refine ⟨_, rfl, ?_⟩; simp only [put_lit, List.set_cons_zero, List.set_cons_succ]
  replace h0 := below_look hb1 h0; replace hp2 := below_look hb1 hp2; replace hb := hb.trans (hb1.mono hb.size); clear hb1
  go_wp2_with fail
  exact bodyPost_ret (results_tmp2 rfl _ _ _) rfl ⟨rfl, hb⟩
set_option maxHeartbeats 1000000 in
theorem Pow_range (m md : ByteArray) (p bits : Int) (s : Bool) (x : Int) (hx : rdm m = some x) (hr : Hid (isRight bits = true)) (hm : Hid (isModeL md.data.toList = true)) (R : Bool) (HR : Hid (hasI bits s x = R)) (hn : R = false ∨ p < 0 ∨ 64 < p) (w : World) :
    Calls Try.prog 40 #[.string m, .int .i64 p, .int .i64 bits, .bool s, .string md] w fun e w' => e = .returned (.tuple #[.string ⟨#[]⟩, .int .i64 1]) ∧ Below w.heap.size w w' := by
  have bx := Lib.hid (rdm_bd hx)
  cases R
  · clear hn
    go_enter Try.func40, Try.ntmps40
    go_upto_region 1 with (fail)
    apply wp_region_lit
    refine wl_k rfl (fun K hK => ?_); go_simp; refine hK _ ?_; clear hK K
    refine wl_ck rfl (fun K hK => ?_); go_simp; refine ⟨_, _, ⟨rfl, rfl⟩, hK _ _ ⟨_, read_any2 m x true (Or.inl ⟨hx, rfl⟩) _, ?_⟩⟩; clear hK K; rintro e w1 ⟨rfl, hb1⟩; refine ⟨_, rfl, ?_⟩; simp only [put_lit, List.set_cons_zero, List.set_cons_succ]
    have hb := hb1
    clear hb1
    refine wl_k rfl (fun K hK => ?_); go_simp; refine hK _ ?_; clear hK K
    refine wl_k rfl (fun K hK => ?_); go_simp; refine hK _ ?_; clear hK K
    refine wl_k rfl (fun K hK => ?_); go_simp; refine hK _ ?_; clear hK K
    (have lsp2 := hb.size; (with_reducible apply wl_new75); intro w2 p2 hbn hlp2 hp2; replace hb := hb.trans (hbn.mono hb.size); clear hbn)
    ((with_reducible apply wl_put75); exact rfl; exact rfl; exact hp2; intro w3 hbx hk hq; replace hb := hbx _ _ (by omega) hb; clear hp2; have hp2 := hq; clear hbx hk hq)
    go_upto_region 5 with (fail)
    have L2 := heap_lt hp2
    refine wp_world (fun W => W.heap[p2]? = some (.cells (lv x) 75 (0, 0)) ∧ W.heap[w3.heap.size]? = some (.cells (wi bits s) 68 (0, 0)) ∧ Below w.heap.size w W) ⟨ha_old hp2, ha_new rfl, hb.alloc hb.size _⟩ ?_
    obtain ⟨p3, hp3⟩ : ∃ p3, p3 = w3.heap.size := ⟨_, rfl⟩
    have lp3 : w.heap.size ≤ p3 := by have := hb.size; omega
    rw [← hp3] at L2 ⊢
    clear hp2 hb hp3
    rintro W ⟨hp2, h0, hb⟩
    apply wp_region_lit
    ((with_reducible apply wl_rowG); exact rfl; exact rfl; exact rowWi (by with_reducible assumption))
    refine wl_ck rfl (fun K hK => ?_); go_simp; refine ⟨_, _, ⟨rfl, rfl⟩, hK _ _ ⟨_, right_any _ _ true (Lib.hid hr.out.symm) _, ?_⟩⟩; clear hK K; rintro e w4 ⟨rfl, hb1⟩; refine ⟨_, rfl, ?_⟩; simp only [put_lit, List.set_cons_zero, List.set_cons_succ]
    replace h0 := below_look hb1 h0; replace hp2 := below_look hb1 hp2; replace hb := hb.trans (hb1.mono hb.size); clear hb1
    refine wl_k rfl (fun K hK => ?_); go_simp; refine hK _ ?_; clear hK K
    refine wl_k rfl (fun K hK => ?_); go_simp; refine hK _ ?_; clear hK K
    refine wl_k rfl (fun K hK => ?_); go_simp; refine hK _ ?_; clear hK K
    refine wl_ck rfl (fun K hK => ?_); go_simp; refine ⟨_, _, ⟨rfl, rfl⟩, hK _ _ ⟨_, isMode_any _ true (Lib.hid hm.out.symm) _, ?_⟩⟩; clear hK K; rintro e w5 ⟨rfl, hb1⟩; refine ⟨_, rfl, ?_⟩; simp only [put_lit, List.set_cons_zero, List.set_cons_succ]
    replace h0 := below_look hb1 h0; replace hp2 := below_look hb1 hp2; replace hb := hb.trans (hb1.mono hb.size); clear hb1
    go_upto_region 7 with (fail)
    apply wp_region_lit
    ((with_reducible apply wl_rowG); exact rfl; exact rfl; exact rowWi (by with_reducible assumption))
    ((with_reducible apply wl_rowG); exact rfl; exact rfl; (first | exact rowL (by with_reducible assumption) | exact rowD (by with_reducible assumption) | exact rowR (by with_reducible assumption)))
    refine wl_ck rfl (fun K hK => ?_); go_simp; refine ⟨_, _, ⟨rfl, rfl⟩, hK _ _ ⟨_, has_wi _ _ _ hr.out bx.out false HR _, ?_⟩⟩; clear hK K; rintro e w6 ⟨rfl, hb1⟩; refine ⟨_, rfl, ?_⟩; simp only [put_lit, List.set_cons_zero, List.set_cons_succ]
    replace h0 := below_look hb1 h0; replace hp2 := below_look hb1 hp2; replace hb := hb.trans (hb1.mono hb.size); clear hb1
    go_wp2_with fail
    exact bodyPost_ret (results_tmp2 rfl _ _ _) rfl ⟨rfl, hb⟩
  · by_cases h1 : p < 0
    · clear hn
      go_enter Try.func40, Try.ntmps40
      go_upto_region 1 with (fail)
      apply wp_region_lit
      refine wl_k rfl (fun K hK => ?_); go_simp; refine hK _ ?_; clear hK K
      refine wl_ck rfl (fun K hK => ?_); go_simp; refine ⟨_, _, ⟨rfl, rfl⟩, hK _ _ ⟨_, read_any2 m x true (Or.inl ⟨hx, rfl⟩) _, ?_⟩⟩; clear hK K; rintro e w1 ⟨rfl, hb1⟩; refine ⟨_, rfl, ?_⟩; simp only [put_lit, List.set_cons_zero, List.set_cons_succ]
      have hb := hb1
      clear hb1
      refine wl_k rfl (fun K hK => ?_); go_simp; refine hK _ ?_; clear hK K
      refine wl_k rfl (fun K hK => ?_); go_simp; refine hK _ ?_; clear hK K
      refine wl_k rfl (fun K hK => ?_); go_simp; refine hK _ ?_; clear hK K
      (have lsp2 := hb.size; (with_reducible apply wl_new75); intro w2 p2 hbn hlp2 hp2; replace hb := hb.trans (hbn.mono hb.size); clear hbn)
      ((with_reducible apply wl_put75); exact rfl; exact rfl; exact hp2; intro w3 hbx hk hq; replace hb := hbx _ _ (by omega) hb; clear hp2; have hp2 := hq; clear hbx hk hq)
      go_upto_region 5 with (fail)
      have L2 := heap_lt hp2
      refine wp_world (fun W => W.heap[p2]? = some (.cells (lv x) 75 (0, 0)) ∧ W.heap[w3.heap.size]? = some (.cells (wi bits s) 68 (0, 0)) ∧ Below w.heap.size w W) ⟨ha_old hp2, ha_new rfl, hb.alloc hb.size _⟩ ?_
      obtain ⟨p3, hp3⟩ : ∃ p3, p3 = w3.heap.size := ⟨_, rfl⟩
      have lp3 : w.heap.size ≤ p3 := by have := hb.size; omega
      rw [← hp3] at L2 ⊢
      clear hp2 hb hp3
      rintro W ⟨hp2, h0, hb⟩
      apply wp_region_lit
      ((with_reducible apply wl_rowG); exact rfl; exact rfl; exact rowWi (by with_reducible assumption))
      refine wl_ck rfl (fun K hK => ?_); go_simp; refine ⟨_, _, ⟨rfl, rfl⟩, hK _ _ ⟨_, right_any _ _ true (Lib.hid hr.out.symm) _, ?_⟩⟩; clear hK K; rintro e w4 ⟨rfl, hb1⟩; refine ⟨_, rfl, ?_⟩; simp only [put_lit, List.set_cons_zero, List.set_cons_succ]
      replace h0 := below_look hb1 h0; replace hp2 := below_look hb1 hp2; replace hb := hb.trans (hb1.mono hb.size); clear hb1
      refine wl_k rfl (fun K hK => ?_); go_simp; refine hK _ ?_; clear hK K
      refine wl_k rfl (fun K hK => ?_); go_simp; refine hK _ ?_; clear hK K
      refine wl_k rfl (fun K hK => ?_); go_simp; refine hK _ ?_; clear hK K
      refine wl_ck rfl (fun K hK => ?_); go_simp; refine ⟨_, _, ⟨rfl, rfl⟩, hK _ _ ⟨_, isMode_any _ true (Lib.hid hm.out.symm) _, ?_⟩⟩; clear hK K; rintro e w5 ⟨rfl, hb1⟩; refine ⟨_, rfl, ?_⟩; simp only [put_lit, List.set_cons_zero, List.set_cons_succ]
      replace h0 := below_look hb1 h0; replace hp2 := below_look hb1 hp2; replace hb := hb.trans (hb1.mono hb.size); clear hb1
      go_upto_region 7 with (fail)
      apply wp_region_lit
      ((with_reducible apply wl_rowG); exact rfl; exact rfl; exact rowWi (by with_reducible assumption))
      ((with_reducible apply wl_rowG); exact rfl; exact rfl; (first | exact rowL (by with_reducible assumption) | exact rowD (by with_reducible assumption) | exact rowR (by with_reducible assumption)))
      refine wl_ck rfl (fun K hK => ?_); go_simp; refine ⟨_, _, ⟨rfl, rfl⟩, hK _ _ ⟨_, has_wi _ _ _ hr.out bx.out true HR _, ?_⟩⟩; clear hK K; rintro e w6 ⟨rfl, hb1⟩; refine ⟨_, rfl, ?_⟩; simp only [put_lit, List.set_cons_zero, List.set_cons_succ]
      replace h0 := below_look hb1 h0; replace hp2 := below_look hb1 hp2; replace hb := hb.trans (hb1.mono hb.size); clear hb1
      go_wp2_with fail
      exact bodyPost_ret (results_tmp2 rfl _ _ _) rfl ⟨rfl, hb⟩
    · have h2 : 64 < p := by
        rcases hn with h | h | h
        · cases h
        · omega
        · exact h
      clear hn
      go_enter Try.func40, Try.ntmps40
      go_upto_region 1 with (fail)
      apply wp_region_lit
      refine wl_k rfl (fun K hK => ?_); go_simp; refine hK _ ?_; clear hK K
      refine wl_ck rfl (fun K hK => ?_); go_simp; refine ⟨_, _, ⟨rfl, rfl⟩, hK _ _ ⟨_, read_any2 m x true (Or.inl ⟨hx, rfl⟩) _, ?_⟩⟩; clear hK K; rintro e w1 ⟨rfl, hb1⟩; refine ⟨_, rfl, ?_⟩; simp only [put_lit, List.set_cons_zero, List.set_cons_succ]
      have hb := hb1
      clear hb1
      refine wl_k rfl (fun K hK => ?_); go_simp; refine hK _ ?_; clear hK K
      refine wl_k rfl (fun K hK => ?_); go_simp; refine hK _ ?_; clear hK K
      refine wl_k rfl (fun K hK => ?_); go_simp; refine hK _ ?_; clear hK K
      (have lsp2 := hb.size; (with_reducible apply wl_new75); intro w2 p2 hbn hlp2 hp2; replace hb := hb.trans (hbn.mono hb.size); clear hbn)
      ((with_reducible apply wl_put75); exact rfl; exact rfl; exact hp2; intro w3 hbx hk hq; replace hb := hbx _ _ (by omega) hb; clear hp2; have hp2 := hq; clear hbx hk hq)
      go_upto_region 5 with (fail)
      have L2 := heap_lt hp2
      refine wp_world (fun W => W.heap[p2]? = some (.cells (lv x) 75 (0, 0)) ∧ W.heap[w3.heap.size]? = some (.cells (wi bits s) 68 (0, 0)) ∧ Below w.heap.size w W) ⟨ha_old hp2, ha_new rfl, hb.alloc hb.size _⟩ ?_
      obtain ⟨p3, hp3⟩ : ∃ p3, p3 = w3.heap.size := ⟨_, rfl⟩
      have lp3 : w.heap.size ≤ p3 := by have := hb.size; omega
      rw [← hp3] at L2 ⊢
      clear hp2 hb hp3
      rintro W ⟨hp2, h0, hb⟩
      apply wp_region_lit
      ((with_reducible apply wl_rowG); exact rfl; exact rfl; exact rowWi (by with_reducible assumption))
      refine wl_ck rfl (fun K hK => ?_); go_simp; refine ⟨_, _, ⟨rfl, rfl⟩, hK _ _ ⟨_, right_any _ _ true (Lib.hid hr.out.symm) _, ?_⟩⟩; clear hK K; rintro e w4 ⟨rfl, hb1⟩; refine ⟨_, rfl, ?_⟩; simp only [put_lit, List.set_cons_zero, List.set_cons_succ]
      replace h0 := below_look hb1 h0; replace hp2 := below_look hb1 hp2; replace hb := hb.trans (hb1.mono hb.size); clear hb1
      refine wl_k rfl (fun K hK => ?_); go_simp; refine hK _ ?_; clear hK K
      refine wl_k rfl (fun K hK => ?_); go_simp; refine hK _ ?_; clear hK K
      refine wl_k rfl (fun K hK => ?_); go_simp; refine hK _ ?_; clear hK K
      refine wl_ck rfl (fun K hK => ?_); go_simp; refine ⟨_, _, ⟨rfl, rfl⟩, hK _ _ ⟨_, isMode_any _ true (Lib.hid hm.out.symm) _, ?_⟩⟩; clear hK K; rintro e w5 ⟨rfl, hb1⟩; refine ⟨_, rfl, ?_⟩; simp only [put_lit, List.set_cons_zero, List.set_cons_succ]
      replace h0 := below_look hb1 h0; replace hp2 := below_look hb1 hp2; replace hb := hb.trans (hb1.mono hb.size); clear hb1
      go_upto_region 7 with (fail)
      apply wp_region_lit
      ((with_reducible apply wl_rowG); exact rfl; exact rfl; exact rowWi (by with_reducible assumption))
      ((with_reducible apply wl_rowG); exact rfl; exact rfl; (first | exact rowL (by with_reducible assumption) | exact rowD (by with_reducible assumption) | exact rowR (by with_reducible assumption)))
      refine wl_ck rfl (fun K hK => ?_); go_simp; refine ⟨_, _, ⟨rfl, rfl⟩, hK _ _ ⟨_, has_wi _ _ _ hr.out bx.out true HR _, ?_⟩⟩; clear hK K; rintro e w6 ⟨rfl, hb1⟩; refine ⟨_, rfl, ?_⟩; simp only [put_lit, List.set_cons_zero, List.set_cons_succ]
      replace h0 := below_look hb1 h0; replace hp2 := below_look hb1 hp2; replace hb := hb.trans (hb1.mono hb.size); clear hb1
      go_wp2_with fail
      exact bodyPost_ret (results_tmp2 rfl _ _ _) rfl ⟨rfl, hb⟩
set_option maxHeartbeats 4000000 in
set_option maxRecDepth 100000 in
theorem Pow_ok (m md : ByteArray) (N : Nat) (hN : N ≤ 64) (bits : Int) (s : Bool) (x : Int) (hx : rdm m = some x) (hr : Hid (isRight bits = true)) (hm : Hid (isModeL md.data.toList = true)) (HR : Hid (hasI bits s x = true)) (z0 er : Int) (HP : Hid (powK bits.toNat s md.toList x N = (z0, er))) (T : ByteArray) (HR0 : Hid (er = 0 → T = ⟨(txt z0).toArray⟩)) (HR1 : Hid (er ≠ 0 → T = ⟨#[]⟩)) (w : World) :
    Calls Try.prog 40 #[.string m, .int .i64 (N : Int), .int .i64 bits, .bool s, .string md] w fun e w' => e = .returned (.tuple #[.string T, .int .i64 er]) ∧ Below w.heap.size w w' := by
  have bx := Lib.hid (rdm_bd hx)
  have xb := Lib.hid (hasI_bd hr.out HR.out)
  have n0 : ¬ (N : Int) < 0 := by omega
  have n1 : ¬ 64 < (N : Int) := by omega
  go_enter Try.func40, Try.ntmps40
  go_upto_region 1 with (fail)
  apply wp_region_lit
  refine wl_k rfl (fun K hK => ?_); go_simp; refine hK _ ?_; clear hK K
  refine wl_ck rfl (fun K hK => ?_); go_simp; refine ⟨_, _, ⟨rfl, rfl⟩, hK _ _ ⟨_, read_any2 m x true (Or.inl ⟨hx, rfl⟩) _, ?_⟩⟩; clear hK K; rintro e w1 ⟨rfl, hb1⟩; refine ⟨_, rfl, ?_⟩; simp only [put_lit, List.set_cons_zero, List.set_cons_succ]
  have hb := hb1
  clear hb1
  refine wl_k rfl (fun K hK => ?_); go_simp; refine hK _ ?_; clear hK K
  refine wl_k rfl (fun K hK => ?_); go_simp; refine hK _ ?_; clear hK K
  refine wl_k rfl (fun K hK => ?_); go_simp; refine hK _ ?_; clear hK K
  (have lsp2 := hb.size; (with_reducible apply wl_new75); intro w2 p2 hbn hlp2 hp2; replace hb := hb.trans (hbn.mono hb.size); clear hbn)
  ((with_reducible apply wl_put75); exact rfl; exact rfl; exact hp2; intro w3 hbx hk hq; replace hb := hbx _ _ (by omega) hb; clear hp2; have hp2 := hq; clear hbx hk hq)
  go_upto_region 5 with (fail)
  have L2 := heap_lt hp2
  refine wp_world (fun W => W.heap[p2]? = some (.cells (lv x) 75 (0, 0)) ∧ W.heap[w3.heap.size]? = some (.cells (wi bits s) 68 (0, 0)) ∧ Below w.heap.size w W) ⟨ha_old hp2, ha_new rfl, hb.alloc hb.size _⟩ ?_
  obtain ⟨p3, hp3⟩ : ∃ p3, p3 = w3.heap.size := ⟨_, rfl⟩
  have lp3 : w.heap.size ≤ p3 := by have := hb.size; omega
  rw [← hp3] at L2 ⊢
  clear hp2 hb hp3
  rintro W ⟨hp2, h0, hb⟩
  apply wp_region_lit
  ((with_reducible apply wl_rowG); exact rfl; exact rfl; exact rowWi (by with_reducible assumption))
  refine wl_ck rfl (fun K hK => ?_); go_simp; refine ⟨_, _, ⟨rfl, rfl⟩, hK _ _ ⟨_, right_any _ _ true (Lib.hid hr.out.symm) _, ?_⟩⟩; clear hK K; rintro e w4 ⟨rfl, hb1⟩; refine ⟨_, rfl, ?_⟩; simp only [put_lit, List.set_cons_zero, List.set_cons_succ]
  replace h0 := below_look hb1 h0; replace hp2 := below_look hb1 hp2; replace hb := hb.trans (hb1.mono hb.size); clear hb1
  refine wl_k rfl (fun K hK => ?_); go_simp; refine hK _ ?_; clear hK K
  refine wl_k rfl (fun K hK => ?_); go_simp; refine hK _ ?_; clear hK K
  refine wl_k rfl (fun K hK => ?_); go_simp; refine hK _ ?_; clear hK K
  refine wl_ck rfl (fun K hK => ?_); go_simp; refine ⟨_, _, ⟨rfl, rfl⟩, hK _ _ ⟨_, isMode_any _ true (Lib.hid hm.out.symm) _, ?_⟩⟩; clear hK K; rintro e w5 ⟨rfl, hb1⟩; refine ⟨_, rfl, ?_⟩; simp only [put_lit, List.set_cons_zero, List.set_cons_succ]
  replace h0 := below_look hb1 h0; replace hp2 := below_look hb1 hp2; replace hb := hb.trans (hb1.mono hb.size); clear hb1
  go_upto_region 7 with (fail)
  apply wp_region_lit
  ((with_reducible apply wl_rowG); exact rfl; exact rfl; exact rowWi (by with_reducible assumption))
  ((with_reducible apply wl_rowG); exact rfl; exact rfl; (first | exact rowL (by with_reducible assumption) | exact rowD (by with_reducible assumption) | exact rowR (by with_reducible assumption)))
  refine wl_ck rfl (fun K hK => ?_); go_simp; refine ⟨_, _, ⟨rfl, rfl⟩, hK _ _ ⟨_, has_wi _ _ _ hr.out bx.out true HR _, ?_⟩⟩; clear hK K; rintro e w6 ⟨rfl, hb1⟩; refine ⟨_, rfl, ?_⟩; simp only [put_lit, List.set_cons_zero, List.set_cons_succ]
  replace h0 := below_look hb1 h0; replace hp2 := below_look hb1 hp2; replace hb := hb.trans (hb1.mono hb.size); clear hb1
  go_upto_region 9 with (fail)
  clear n0 n1
  apply wp_region_lit
  refine wl_ck rfl (fun K hK => ?_); go_simp; refine ⟨_, _, ⟨rfl, rfl⟩, hK _ _ ⟨_, small_any 1 (by decide) (by decide) _, ?_⟩⟩; clear hK K; rintro e w7 ⟨rfl, hb1⟩; refine ⟨_, rfl, ?_⟩; simp only [put_lit, List.set_cons_zero, List.set_cons_succ]
  replace h0 := below_look hb1 h0; replace hp2 := below_look hb1 hp2; replace hb := hb.trans (hb1.mono hb.size); clear hb1
  (have lth0p15 := heap_lt h0; have lthp2p15 := heap_lt hp2; have lsp15 := hb.size; (with_reducible apply wl_new75); intro w8 p15 hbn hlp15 hp15; replace h0 := below_look hbn h0; replace hp2 := below_look hbn hp2; replace hb := hb.trans (hbn.mono hb.size); clear hbn)
  ((with_reducible apply wl_put75); exact rfl; exact rfl; exact hp15; intro w9 hbx hk hq; replace h0 := hk _ _ (by omega) h0; replace hp2 := hk _ _ (by omega) hp2; replace hb := hbx _ _ (by omega) hb; clear hp15; have hp15 := hq; clear hbx hk hq)
  go_wp2_with fail
  go_loopw [49] (fun i wr => ∃ (k : Nat) (z : Int), k ≤ N ∧ i = .int .i64 (k : Int) ∧ Hid (powK bits.toNat s md.toList x k = (z, 0)) ∧ wr.heap[p2]? = some (.cells (lv x) 75 (0, 0)) ∧ wr.heap[p3]? = some (.cells (wi bits s) 68 (0, 0)) ∧ wr.heap[p15]? = some (.cells (lv z) 75 (0, 0)) ∧ Below w.heap.size w wr) (fun i _ => (N - intOf i).toNat)
  case atStart => exact ⟨0, 1, by omega, rfl, Lib.hid rfl, hp2, h0, hp15, hb⟩
  case round =>
    clear hp2 h0 hp15 hb
    obtain ⟨k, z, hk, rfl, HK, hp2, h0, hp15, hb⟩ := hrel
    have zb := Lib.hid (powK_bd hr.out HK.out)
    have mb : Hid (z.natAbs * x.natAbs ≤ 340282366920938463463374607431768211456) := Lib.hid (mul_bd zb.out xb.out)
    by_cases hlt : k < N
    · obtain ⟨r, e1, hB⟩ : ∃ r e1, bringW bits.toNat s md.toList (z * x) = (r, e1) := ⟨_, _, rfl⟩
      have HB := Lib.hid hB
      have HK1 : Hid (powK bits.toNat s md.toList x (k + 1) = (r, e1)) := Lib.hid (by rw [powK_step HK.out]; exact hB)
      clear hB
      go_upto_region 13 with (fail)
      have L1 := heap_lt hp2
      have L2 := heap_lt h0
      replace hb := hb.drew
      refine wp_region_held_drew (S := Kept [p15] wr) mixed (Kept.drew [p15] wr) (fun hS => ?_)
      refine ha_val (i := 0) rfl (by kernel_rfl) (by kernel_rfl) (by kernel_rfl) (fun _ _ _ h => h) hS rfl (fun w' hw' => ex_row rfl (rowWi (hw'.look h0 (by simp <;> omega)))) ?_; try simp only [put_lit, List.set_cons_zero, List.set_cons_succ]
      refine ha_val (i := 2) rfl (by kernel_rfl) (by kernel_rfl) (by kernel_rfl) (fun _ _ _ h => h) hS rfl (fun w' hw' => ex_row rfl (rowL (hw'.look hp2 (by simp <;> omega)))) ?_; try simp only [put_lit, List.set_cons_zero, List.set_cons_succ]
      refine ha_k (i := 4) rfl (by kernel_rfl) (by kernel_rfl) (by kernel_rfl) (fun _ _ _ _ h => h) hS rfl (fun K hK => ?_); go_simp; refine hK _ ?_; clear hK K; try simp only [put_lit, List.set_cons_zero, List.set_cons_succ]
      refine ha_do (i := 1) (by kernel_rfl) rfl rfl (ex_row rfl (rowL hp15)) hS ?_; try simp only [put_lit, List.set_cons_zero, List.set_cons_succ]
      refine ha_call (i := 3) (by kernel_rfl) rfl rfl (fun K hK => ?_); go_simp; refine ⟨_, _, ⟨rfl, rfl⟩, hK _ _ ⟨_, mul_any z x (big64 (by have := mb.out; omega)) _, ?_⟩⟩; clear hK K; rintro e w10 ⟨rfl, hb1⟩; refine ⟨_, rfl, hS.below hb1, ?_⟩; replace hS := hS.below hb1; replace h0 := below_look hb1 h0; replace hp2 := below_look hb1 hp2; replace hp15 := below_look hb1 hp15; replace hb := hb.trans (hb1.mono hb.size); clear hb1; try simp only [put_lit, List.set_cons_zero, List.set_cons_succ]
      refine ha_call (i := 5) (by kernel_rfl) rfl rfl (fun K hK => ?_); go_simp; refine ⟨_, _, ⟨rfl, rfl⟩, hK _ _ ⟨_, bring_wi _ _ _ _ hr.out (by have := mb.out; rw [Int.natAbs_mul]; omega) r e1 HB _, ?_⟩⟩; clear hK K; rintro e w11 ⟨rfl, hb1⟩; refine ⟨_, rfl, hS.below hb1, ?_⟩; replace hS := hS.below hb1; replace h0 := below_look hb1 h0; replace hp2 := below_look hb1 hp2; replace hp15 := below_look hb1 hp15; replace hb := hb.trans (hb1.mono hb.size); clear hb1; try simp only [put_lit, List.set_cons_zero, List.set_cons_succ]
      refine ha_k (i := 6) rfl (by kernel_rfl) (by kernel_rfl) (by kernel_rfl) (fun _ _ _ _ h => h) hS rfl (fun K hK => ?_); go_simp; refine hK _ ?_; clear hK K; try simp only [put_lit, List.set_cons_zero, List.set_cons_succ]
      refine ha_k (i := 7) rfl (by kernel_rfl) (by kernel_rfl) (by kernel_rfl) (fun _ _ _ _ h => h) hS rfl (fun K hK => ?_); go_simp; refine hK _ ?_; clear hK K; try simp only [put_lit, List.set_cons_zero, List.set_cons_succ]
      refine ha_k (i := 8) rfl (by kernel_rfl) (by kernel_rfl) (by kernel_rfl) (fun _ _ _ _ h => h) hS rfl (fun K hK => ?_); go_simp; refine hK _ ?_; clear hK K; try simp only [put_lit, List.set_cons_zero, List.set_cons_succ]
      refine ha_store (i := 9) (by kernel_rfl) rfl rfl 75 _ _ rfl _ (lv (r)) rfl rfl 75 _ hp15 (by rw [info75, lv_size]) (by rw [lv_size, lv_size]) (lv_one _) (hS.setRow (by simp) _) (fun hS => ?_); try simp only [put_lit, List.set_cons_zero, List.set_cons_succ]
      refine ha_k (i := 10) rfl (by kernel_rfl) (by kernel_rfl) (by kernel_rfl) (fun _ _ _ _ h => h) hS rfl (fun K hK => ?_); go_simp; refine hK _ ?_; clear hK K; try simp only [put_lit, List.set_cons_zero, List.set_cons_succ]
      refine wpAnyH_done (by kernel_rfl) ?_ _
      replace hb := below_setRow hb (g := p15) (by omega) (lv r)
      by_cases he : e1 = 0
      · subst he
        go_wp2_with fail
        go_roundw
        case rel => exact ⟨k + 1, r, by omega, by go_num, HK1, hr_old hp2 (by omega), hr_old h0 (by omega), hr_new hp15, hb⟩
        case measure => simp [intOf]; omega
      · have hs := powK_stuck HK1.out he (show k + 1 ≤ N by omega)
        rw [HP.out, Prod.mk.injEq] at hs
        obtain ⟨rfl, rfl⟩ := hs
        have HT := Lib.hid (HR1.out he)
        go_wp2_with fail
        exact bodyPost_ret (results_tmp2 rfl _ _ _) rfl ⟨by rw [HT.out]; rfl, hb⟩
    · obtain rfl : k = N := by omega
      have hs := HK.out
      rw [HP.out, Prod.mk.injEq] at hs
      obtain ⟨rfl, rfl⟩ := hs
      have HT := Lib.hid (HR0.out rfl)
      go_upto_region 17 with (fail)
      apply wp_region_lit
      ((with_reducible apply wl_rowG); exact rfl; exact rfl; exact rowL hp15)
      refine wl_ck rfl (fun K hK => ?_); go_simp; refine ⟨_, _, ⟨rfl, rfl⟩, hK _ _ ⟨_, text_any _ (small64 (by have := zb.out; omega)) _, ?_⟩⟩; clear hK K; rintro e w12 ⟨rfl, hb1⟩; refine ⟨_, rfl, ?_⟩; simp only [put_lit, List.set_cons_zero, List.set_cons_succ]
      replace hb := hb.trans (hb1.mono hb.size); clear hb1
      go_wp2_with fail
      exact bodyPost_ret (results_tmp2 rfl _ _ _) rfl ⟨by rw [HT.out]; rfl, hb⟩
theorem Pow_any (m md : ByteArray) (p bits : Int) (s : Bool) (t : ByteArray) (er : Int) (h : Hid (powS m p bits s md = (t, er))) (w : World) :
    Calls Try.prog 40 #[.string m, .int .i64 p, .int .i64 bits, .bool s, .string md] w fun e w' => e = .returned (.tuple #[.string t, .int .i64 er]) ∧ Below w.heap.size w w' := by
  have h := h.out
  unfold powS at h
  cases hx : rdm m with
  | none =>
    rw [hx] at h
    simp only [Prod.mk.injEq] at h
    obtain ⟨rfl, rfl⟩ := h
    exact Pow_none m md p bits s hx w
  | some x =>
    rw [hx] at h
    simp only at h
    by_cases hr : isRight bits = true
    · rw [if_pos hr] at h
      by_cases hm : isModeL md.data.toList = true
      · rw [if_pos hm] at h
        by_cases hc : hasI bits s x = true ∧ 0 ≤ p ∧ p ≤ 64
        · rw [if_pos hc] at h
          obtain ⟨c1, c2, c3⟩ := hc
          obtain ⟨N, rfl⟩ := Int.eq_ofNat_of_zero_le c2
          rw [Int.toNat_natCast] at h
          rcases hB : powK bits.toNat s md.toList x N with ⟨r, e1⟩
          rw [hB] at h
          simp only at h
          have := Pow_ok m md N (by omega) bits s x hx (Lib.hid hr) (Lib.hid hm) (Lib.hid c1) r e1 (Lib.hid hB) t
          by_cases he : e1 = 0
          · rw [if_pos he] at h
            simp only [Prod.mk.injEq] at h
            obtain ⟨rfl, rfl⟩ := h
            rw [he] at this
            exact this (Lib.hid fun _ => rfl) (Lib.hid fun h => absurd rfl h) w
          · rw [if_neg he] at h
            simp only [Prod.mk.injEq] at h
            obtain ⟨rfl, rfl⟩ := h
            exact this (Lib.hid fun h => absurd h he) (Lib.hid fun _ => rfl) w
        · rw [if_neg hc] at h
          simp only [Prod.mk.injEq] at h
          obtain ⟨rfl, rfl⟩ := h
          refine Pow_range m md p bits s x hx (Lib.hid hr) (Lib.hid hm) _ (Lib.hid rfl) ?_ w
          cases hR : hasI bits s x
          · exact Or.inl rfl
          · right
            by_cases q1 : p < 0
            · exact Or.inl q1
            · by_cases q2 : 64 < p
              · exact Or.inr q2
              · exact absurd ⟨hR, by omega, by omega⟩ hc
      · rw [if_neg hm] at h
        simp only [Prod.mk.injEq] at h
        obtain ⟨rfl, rfl⟩ := h
        exact Pow_name2 m md p bits s x hx (Lib.hid hr) (Lib.hid (by simpa using hm)) w
    · rw [if_neg hr] at h
      simp only [Prod.mk.injEq] at h
      obtain ⟨rfl, rfl⟩ := h
      exact Pow_name1 m md p bits s x hx (Lib.hid (by simpa using hr)) w
end Go.Proofs.Ytclainfdeghgnaa

namespace Go.Proofs.Ytclainfdeghgnaa
open Go.RowKit Go.Proofs.Ytclainfdeghgnaa.Nm Go.Proofs.Ytclainfdeghgnaa.Lm
theorem nl_sml {n : Nat} (h : n ≤ 1000000000000000000000000000000000000000000000000000000000000000) : nl n ≤ 7 := nl_le _ _ (Nat.lt_of_le_of_lt h (by rw [B_eq]; decide))
set_option maxHeartbeats 400000 in
theorem PowI_none (m md : ByteArray) (p n : Int) (s : Bool) (hx : rdm m = none) (w : World) :
    Calls Try.prog 41 #[.string m, .int .i64 p, .int .i64 n, .bool s, .string md] w fun e w' => e = .returned (.tuple #[.string ⟨#[]⟩, .int .i64 4]) ∧ Below w.heap.size w w' := by
  have R1 := Lib.hid (ReadI_any m)
  rw [hx] at R1
  clear hx
  go_enter Try.func41, Try.ntmps41
  go_upto_region 1 with (fail)
  have hb := Below.refl w.heap.size w
  apply wp_region_lit
  refine wl_k rfl (fun K hK => ?_); go_simp; refine hK _ ?_; clear hK K
  refine wl_ck rfl (fun K hK => ?_); go_simp; refine ⟨_, _, ⟨rfl, rfl⟩, hK _ _ ⟨_, R1.out _, ?_⟩⟩; clear hK K; rintro e w1 ⟨A1, c1, rfl, i1, hb1⟩; refine ⟨_, rfl, ?_⟩; simp only [put_lit, List.set_cons_zero, List.set_cons_succ]
  replace hb := hb.trans (hb1.mono hb.size); clear hb1
  refine wl_k rfl (fun K hK => ?_); go_simp; refine hK _ ?_; clear hK K
  refine wl_k rfl (fun K hK => ?_); go_simp; refine hK _ ?_; clear hK K
  refine wl_k rfl (fun K hK => ?_); go_simp; refine hK _ ?_; clear hK K
  (have lsp6 := hb.size; (with_reducible apply wl_new84); intro w2 p6 hbn hlp6 hp6; replace i1 := i1.below hbn; replace hb := hb.trans (hbn.mono hb.size); clear hbn)
  ((with_reducible apply wl_putI); exact rfl; exact rfl; exact hp6; intro w3 hbx hk hq hi; replace i1 := hi _ _ _ i1; replace hb := hbx _ _ (by omega) hb; clear hp6; have hp6 := hq; clear hbx hk hq hi)
  go_wp2_with fail
  exact bodyPost_ret (results_tmp2 rfl _ _ _) rfl ⟨rfl, hb⟩
set_option maxHeartbeats 400000 in
theorem PowI_name1 (m md : ByteArray) (p n : Int) (s : Bool) (x : Int) (hx : rdm m = some x) (hr : Hid (isRight n = false)) (w : World) :
    Calls Try.prog 41 #[.string m, .int .i64 p, .int .i64 n, .bool s, .string md] w fun e w' => e = .returned (.tuple #[.string ⟨#[]⟩, .int .i64 3]) ∧ Below w.heap.size w w' := by
  have R1 := Lib.hid (ReadI_any m)
  rw [hx] at R1
  simp only [Option.getD_some, Option.isSome_some] at R1
  clear hx
  go_enter Try.func41, Try.ntmps41
  go_upto_region 1 with (fail)
  have hb := Below.refl w.heap.size w
  apply wp_region_lit
  refine wl_k rfl (fun K hK => ?_); go_simp; refine hK _ ?_; clear hK K
  refine wl_ck rfl (fun K hK => ?_); go_simp; refine ⟨_, _, ⟨rfl, rfl⟩, hK _ _ ⟨_, R1.out _, ?_⟩⟩; clear hK K; rintro e w1 ⟨A1, c1, rfl, i1, hb1⟩; refine ⟨_, rfl, ?_⟩; simp only [put_lit, List.set_cons_zero, List.set_cons_succ]
  replace hb := hb.trans (hb1.mono hb.size); clear hb1
  refine wl_k rfl (fun K hK => ?_); go_simp; refine hK _ ?_; clear hK K
  refine wl_k rfl (fun K hK => ?_); go_simp; refine hK _ ?_; clear hK K
  refine wl_k rfl (fun K hK => ?_); go_simp; refine hK _ ?_; clear hK K
  (have lsp6 := hb.size; (with_reducible apply wl_new84); intro w2 p6 hbn hlp6 hp6; replace i1 := i1.below hbn; replace hb := hb.trans (hbn.mono hb.size); clear hbn)
  ((with_reducible apply wl_putI); exact rfl; exact rfl; exact hp6; intro w3 hbx hk hq hi; replace i1 := hi _ _ _ i1; replace hb := hbx _ _ (by omega) hb; clear hp6; have hp6 := hq; clear hbx hk hq hi)
  go_upto_region 4 with (fail)
  apply wp_region_lit
  refine wl_k rfl (fun K hK => ?_); go_simp; refine hK _ ?_; clear hK K
  refine wl_ck rfl (fun K hK => ?_); go_simp; refine ⟨_, _, ⟨rfl, rfl⟩, hK _ _ ⟨_, isWidth_any n false (Lib.hid hr.out.symm) _, ?_⟩⟩; clear hK K; rintro e w4 ⟨rfl, hb1⟩; refine ⟨_, rfl, ?_⟩; simp only [put_lit, List.set_cons_zero, List.set_cons_succ]
  replace hp6 := below_look hb1 hp6; replace i1 := i1.below hb1; replace hb := hb.trans (hb1.mono hb.size); clear hb1
  go_wp2_with fail
  exact bodyPost_ret (results_tmp2 rfl _ _ _) rfl ⟨rfl, hb⟩
set_option maxHeartbeats 400000 in
theorem PowI_name2 (m md : ByteArray) (p n : Int) (s : Bool) (x : Int) (hx : rdm m = some x) (hr : Hid (isRight n = true)) (hm : Hid (isModeL md.data.toList = false)) (w : World) :
    Calls Try.prog 41 #[.string m, .int .i64 p, .int .i64 n, .bool s, .string md] w fun e w' => e = .returned (.tuple #[.string ⟨#[]⟩, .int .i64 3]) ∧ Below w.heap.size w w' := by
  have R1 := Lib.hid (ReadI_any m)
  rw [hx] at R1
  simp only [Option.getD_some, Option.isSome_some] at R1
  clear hx
  go_enter Try.func41, Try.ntmps41
  go_upto_region 1 with (fail)
  have hb := Below.refl w.heap.size w
  apply wp_region_lit
  refine wl_k rfl (fun K hK => ?_); go_simp; refine hK _ ?_; clear hK K
  refine wl_ck rfl (fun K hK => ?_); go_simp; refine ⟨_, _, ⟨rfl, rfl⟩, hK _ _ ⟨_, R1.out _, ?_⟩⟩; clear hK K; rintro e w1 ⟨A1, c1, rfl, i1, hb1⟩; refine ⟨_, rfl, ?_⟩; simp only [put_lit, List.set_cons_zero, List.set_cons_succ]
  replace hb := hb.trans (hb1.mono hb.size); clear hb1
  refine wl_k rfl (fun K hK => ?_); go_simp; refine hK _ ?_; clear hK K
  refine wl_k rfl (fun K hK => ?_); go_simp; refine hK _ ?_; clear hK K
  refine wl_k rfl (fun K hK => ?_); go_simp; refine hK _ ?_; clear hK K
  (have lsp6 := hb.size; (with_reducible apply wl_new84); intro w2 p6 hbn hlp6 hp6; replace i1 := i1.below hbn; replace hb := hb.trans (hbn.mono hb.size); clear hbn)
  ((with_reducible apply wl_putI); exact rfl; exact rfl; exact hp6; intro w3 hbx hk hq hi; replace i1 := hi _ _ _ i1; replace hb := hbx _ _ (by omega) hb; clear hp6; have hp6 := hq; clear hbx hk hq hi)
  go_upto_region 4 with (fail)
  apply wp_region_lit
  refine wl_k rfl (fun K hK => ?_); go_simp; refine hK _ ?_; clear hK K
  refine wl_ck rfl (fun K hK => ?_); go_simp; refine ⟨_, _, ⟨rfl, rfl⟩, hK _ _ ⟨_, isWidth_any n true (Lib.hid hr.out.symm) _, ?_⟩⟩; clear hK K; rintro e w4 ⟨rfl, hb1⟩; refine ⟨_, rfl, ?_⟩; simp only [put_lit, List.set_cons_zero, List.set_cons_succ]
  replace hp6 := below_look hb1 hp6; replace i1 := i1.below hb1; replace hb := hb.trans (hb1.mono hb.size); clear hb1
  refine wl_k rfl (fun K hK => ?_); go_simp; refine hK _ ?_; clear hK K
  refine wl_k rfl (fun K hK => ?_); go_simp; refine hK _ ?_; clear hK K
  refine wl_k rfl (fun K hK => ?_); go_simp; refine hK _ ?_; clear hK K
  refine wl_ck rfl (fun K hK => ?_); go_simp; refine ⟨_, _, ⟨rfl, rfl⟩, hK _ _ ⟨_, isModeI_any md false (Lib.hid hm.out.symm) _, ?_⟩⟩; clear hK K; rintro e w5 ⟨rfl, hb1⟩; refine ⟨_, rfl, ?_⟩; simp only [put_lit, List.set_cons_zero, List.set_cons_succ]
  replace hp6 := below_look hb1 hp6; replace i1 := i1.below hb1; replace hb := hb.trans (hb1.mono hb.size); clear hb1
  go_wp2_with fail
  exact bodyPost_ret (results_tmp2 rfl _ _ _) rfl ⟨rfl, hb⟩
set_option maxHeartbeats 1000000 in
theorem PowI_range (m md : ByteArray) (p n : Int) (s : Bool) (x : Int) (hx : rdm m = some x) (hr : Hid (isRight n = true)) (hm : Hid (isModeL md.data.toList = true)) (R : Bool) (HR : Hid (hasW n.toNat s x = R)) (hn : R = false ∨ p < 0 ∨ 64 < p) (w : World) :
    Calls Try.prog 41 #[.string m, .int .i64 p, .int .i64 n, .bool s, .string md] w fun e w' => e = .returned (.tuple #[.string ⟨#[]⟩, .int .i64 1]) ∧ Below w.heap.size w w' := by
  have R1 := Lib.hid (ReadI_any m)
  have nx := rdm_nl (m := m)
  rw [hx] at R1 nx
  simp only [Option.getD_some, Option.isSome_some] at R1 nx
  obtain ⟨k0, hk0, k1, k2, k3⟩ := right_bits hr.out
  have n1 : 1 ≤ n := by omega
  have n2 : n ≤ 64 := by omega
  clear hk0 k1 k2 k3
  clear hx
  cases R
  · clear hn
    go_enter Try.func41, Try.ntmps41
    go_upto_region 1 with (fail)
    have hb := Below.refl w.heap.size w
    apply wp_region_lit
    refine wl_k rfl (fun K hK => ?_); go_simp; refine hK _ ?_; clear hK K
    refine wl_ck rfl (fun K hK => ?_); go_simp; refine ⟨_, _, ⟨rfl, rfl⟩, hK _ _ ⟨_, R1.out _, ?_⟩⟩; clear hK K; rintro e w1 ⟨A1, c1, rfl, i1, hb1⟩; refine ⟨_, rfl, ?_⟩; simp only [put_lit, List.set_cons_zero, List.set_cons_succ]
    replace hb := hb.trans (hb1.mono hb.size); clear hb1
    refine wl_k rfl (fun K hK => ?_); go_simp; refine hK _ ?_; clear hK K
    refine wl_k rfl (fun K hK => ?_); go_simp; refine hK _ ?_; clear hK K
    refine wl_k rfl (fun K hK => ?_); go_simp; refine hK _ ?_; clear hK K
    (have lsp6 := hb.size; (with_reducible apply wl_new84); intro w2 p6 hbn hlp6 hp6; replace i1 := i1.below hbn; replace hb := hb.trans (hbn.mono hb.size); clear hbn)
    ((with_reducible apply wl_putI); exact rfl; exact rfl; exact hp6; intro w3 hbx hk hq hi; replace i1 := hi _ _ _ i1; replace hb := hbx _ _ (by omega) hb; clear hp6; have hp6 := hq; clear hbx hk hq hi)
    go_upto_region 4 with (fail)
    apply wp_region_lit
    refine wl_k rfl (fun K hK => ?_); go_simp; refine hK _ ?_; clear hK K
    refine wl_ck rfl (fun K hK => ?_); go_simp; refine ⟨_, _, ⟨rfl, rfl⟩, hK _ _ ⟨_, isWidth_any n true (Lib.hid hr.out.symm) _, ?_⟩⟩; clear hK K; rintro e w4 ⟨rfl, hb1⟩; refine ⟨_, rfl, ?_⟩; simp only [put_lit, List.set_cons_zero, List.set_cons_succ]
    replace hp6 := below_look hb1 hp6; replace i1 := i1.below hb1; replace hb := hb.trans (hb1.mono hb.size); clear hb1
    refine wl_k rfl (fun K hK => ?_); go_simp; refine hK _ ?_; clear hK K
    refine wl_k rfl (fun K hK => ?_); go_simp; refine hK _ ?_; clear hK K
    refine wl_k rfl (fun K hK => ?_); go_simp; refine hK _ ?_; clear hK K
    refine wl_ck rfl (fun K hK => ?_); go_simp; refine ⟨_, _, ⟨rfl, rfl⟩, hK _ _ ⟨_, isModeI_any md true (Lib.hid hm.out.symm) _, ?_⟩⟩; clear hK K; rintro e w5 ⟨rfl, hb1⟩; refine ⟨_, rfl, ?_⟩; simp only [put_lit, List.set_cons_zero, List.set_cons_succ]
    replace hp6 := below_look hb1 hp6; replace i1 := i1.below hb1; replace hb := hb.trans (hb1.mono hb.size); clear hb1
    go_upto_region 6 with (fail)
    apply wp_region_lit
    ((with_reducible apply wl_rowG); exact rfl; exact rfl; exact rowIv (by with_reducible assumption))
    refine wl_k rfl (fun K hK => ?_); go_simp; refine hK _ ?_; clear hK K
    refine wl_k rfl (fun K hK => ?_); go_simp; refine hK _ ?_; clear hK K
    refine wl_ck rfl (fun K hK => ?_); go_simp; refine ⟨_, _, ⟨rfl, rfl⟩, hK _ _ ⟨_, withinI_any x n s A1 c1 n1 n2 _ i1 (by omega) false HR, ?_⟩⟩; clear hK K; rintro e w6 ⟨rfl, hb1⟩; refine ⟨_, rfl, ?_⟩; simp only [put_lit, List.set_cons_zero, List.set_cons_succ]
    replace hp6 := below_look hb1 hp6; replace i1 := i1.below hb1; replace hb := hb.trans (hb1.mono hb.size); clear hb1
    go_wp2_with fail
    exact bodyPost_ret (results_tmp2 rfl _ _ _) rfl ⟨rfl, hb⟩
  · by_cases h1 : p < 0
    · clear hn
      go_enter Try.func41, Try.ntmps41
      go_upto_region 1 with (fail)
      have hb := Below.refl w.heap.size w
      apply wp_region_lit
      refine wl_k rfl (fun K hK => ?_); go_simp; refine hK _ ?_; clear hK K
      refine wl_ck rfl (fun K hK => ?_); go_simp; refine ⟨_, _, ⟨rfl, rfl⟩, hK _ _ ⟨_, R1.out _, ?_⟩⟩; clear hK K; rintro e w1 ⟨A1, c1, rfl, i1, hb1⟩; refine ⟨_, rfl, ?_⟩; simp only [put_lit, List.set_cons_zero, List.set_cons_succ]
      replace hb := hb.trans (hb1.mono hb.size); clear hb1
      refine wl_k rfl (fun K hK => ?_); go_simp; refine hK _ ?_; clear hK K
      refine wl_k rfl (fun K hK => ?_); go_simp; refine hK _ ?_; clear hK K
      refine wl_k rfl (fun K hK => ?_); go_simp; refine hK _ ?_; clear hK K
      (have lsp6 := hb.size; (with_reducible apply wl_new84); intro w2 p6 hbn hlp6 hp6; replace i1 := i1.below hbn; replace hb := hb.trans (hbn.mono hb.size); clear hbn)
      ((with_reducible apply wl_putI); exact rfl; exact rfl; exact hp6; intro w3 hbx hk hq hi; replace i1 := hi _ _ _ i1; replace hb := hbx _ _ (by omega) hb; clear hp6; have hp6 := hq; clear hbx hk hq hi)
      go_upto_region 4 with (fail)
      apply wp_region_lit
      refine wl_k rfl (fun K hK => ?_); go_simp; refine hK _ ?_; clear hK K
      refine wl_ck rfl (fun K hK => ?_); go_simp; refine ⟨_, _, ⟨rfl, rfl⟩, hK _ _ ⟨_, isWidth_any n true (Lib.hid hr.out.symm) _, ?_⟩⟩; clear hK K; rintro e w4 ⟨rfl, hb1⟩; refine ⟨_, rfl, ?_⟩; simp only [put_lit, List.set_cons_zero, List.set_cons_succ]
      replace hp6 := below_look hb1 hp6; replace i1 := i1.below hb1; replace hb := hb.trans (hb1.mono hb.size); clear hb1
      refine wl_k rfl (fun K hK => ?_); go_simp; refine hK _ ?_; clear hK K
      refine wl_k rfl (fun K hK => ?_); go_simp; refine hK _ ?_; clear hK K
      refine wl_k rfl (fun K hK => ?_); go_simp; refine hK _ ?_; clear hK K
      refine wl_ck rfl (fun K hK => ?_); go_simp; refine ⟨_, _, ⟨rfl, rfl⟩, hK _ _ ⟨_, isModeI_any md true (Lib.hid hm.out.symm) _, ?_⟩⟩; clear hK K; rintro e w5 ⟨rfl, hb1⟩; refine ⟨_, rfl, ?_⟩; simp only [put_lit, List.set_cons_zero, List.set_cons_succ]
      replace hp6 := below_look hb1 hp6; replace i1 := i1.below hb1; replace hb := hb.trans (hb1.mono hb.size); clear hb1
      go_upto_region 6 with (fail)
      apply wp_region_lit
      ((with_reducible apply wl_rowG); exact rfl; exact rfl; exact rowIv (by with_reducible assumption))
      refine wl_k rfl (fun K hK => ?_); go_simp; refine hK _ ?_; clear hK K
      refine wl_k rfl (fun K hK => ?_); go_simp; refine hK _ ?_; clear hK K
      refine wl_ck rfl (fun K hK => ?_); go_simp; refine ⟨_, _, ⟨rfl, rfl⟩, hK _ _ ⟨_, withinI_any x n s A1 c1 n1 n2 _ i1 (by omega) true HR, ?_⟩⟩; clear hK K; rintro e w6 ⟨rfl, hb1⟩; refine ⟨_, rfl, ?_⟩; simp only [put_lit, List.set_cons_zero, List.set_cons_succ]
      replace hp6 := below_look hb1 hp6; replace i1 := i1.below hb1; replace hb := hb.trans (hb1.mono hb.size); clear hb1
      go_wp2_with fail
      exact bodyPost_ret (results_tmp2 rfl _ _ _) rfl ⟨rfl, hb⟩
    · have h2 : 64 < p := by
        rcases hn with h | h | h
        · cases h
        · omega
        · exact h
      clear hn
      go_enter Try.func41, Try.ntmps41
      go_upto_region 1 with (fail)
      have hb := Below.refl w.heap.size w
      apply wp_region_lit
      refine wl_k rfl (fun K hK => ?_); go_simp; refine hK _ ?_; clear hK K
      refine wl_ck rfl (fun K hK => ?_); go_simp; refine ⟨_, _, ⟨rfl, rfl⟩, hK _ _ ⟨_, R1.out _, ?_⟩⟩; clear hK K; rintro e w1 ⟨A1, c1, rfl, i1, hb1⟩; refine ⟨_, rfl, ?_⟩; simp only [put_lit, List.set_cons_zero, List.set_cons_succ]
      replace hb := hb.trans (hb1.mono hb.size); clear hb1
      refine wl_k rfl (fun K hK => ?_); go_simp; refine hK _ ?_; clear hK K
      refine wl_k rfl (fun K hK => ?_); go_simp; refine hK _ ?_; clear hK K
      refine wl_k rfl (fun K hK => ?_); go_simp; refine hK _ ?_; clear hK K
      (have lsp6 := hb.size; (with_reducible apply wl_new84); intro w2 p6 hbn hlp6 hp6; replace i1 := i1.below hbn; replace hb := hb.trans (hbn.mono hb.size); clear hbn)
      ((with_reducible apply wl_putI); exact rfl; exact rfl; exact hp6; intro w3 hbx hk hq hi; replace i1 := hi _ _ _ i1; replace hb := hbx _ _ (by omega) hb; clear hp6; have hp6 := hq; clear hbx hk hq hi)
      go_upto_region 4 with (fail)
      apply wp_region_lit
      refine wl_k rfl (fun K hK => ?_); go_simp; refine hK _ ?_; clear hK K
      refine wl_ck rfl (fun K hK => ?_); go_simp; refine ⟨_, _, ⟨rfl, rfl⟩, hK _ _ ⟨_, isWidth_any n true (Lib.hid hr.out.symm) _, ?_⟩⟩; clear hK K; rintro e w4 ⟨rfl, hb1⟩; refine ⟨_, rfl, ?_⟩; simp only [put_lit, List.set_cons_zero, List.set_cons_succ]
      replace hp6 := below_look hb1 hp6; replace i1 := i1.below hb1; replace hb := hb.trans (hb1.mono hb.size); clear hb1
      refine wl_k rfl (fun K hK => ?_); go_simp; refine hK _ ?_; clear hK K
      refine wl_k rfl (fun K hK => ?_); go_simp; refine hK _ ?_; clear hK K
      refine wl_k rfl (fun K hK => ?_); go_simp; refine hK _ ?_; clear hK K
      refine wl_ck rfl (fun K hK => ?_); go_simp; refine ⟨_, _, ⟨rfl, rfl⟩, hK _ _ ⟨_, isModeI_any md true (Lib.hid hm.out.symm) _, ?_⟩⟩; clear hK K; rintro e w5 ⟨rfl, hb1⟩; refine ⟨_, rfl, ?_⟩; simp only [put_lit, List.set_cons_zero, List.set_cons_succ]
      replace hp6 := below_look hb1 hp6; replace i1 := i1.below hb1; replace hb := hb.trans (hb1.mono hb.size); clear hb1
      go_upto_region 6 with (fail)
      apply wp_region_lit
      ((with_reducible apply wl_rowG); exact rfl; exact rfl; exact rowIv (by with_reducible assumption))
      refine wl_k rfl (fun K hK => ?_); go_simp; refine hK _ ?_; clear hK K
      refine wl_k rfl (fun K hK => ?_); go_simp; refine hK _ ?_; clear hK K
      refine wl_ck rfl (fun K hK => ?_); go_simp; refine ⟨_, _, ⟨rfl, rfl⟩, hK _ _ ⟨_, withinI_any x n s A1 c1 n1 n2 _ i1 (by omega) true HR, ?_⟩⟩; clear hK K; rintro e w6 ⟨rfl, hb1⟩; refine ⟨_, rfl, ?_⟩; simp only [put_lit, List.set_cons_zero, List.set_cons_succ]
      replace hp6 := below_look hb1 hp6; replace i1 := i1.below hb1; replace hb := hb.trans (hb1.mono hb.size); clear hb1
      go_wp2_with fail
      exact bodyPost_ret (results_tmp2 rfl _ _ _) rfl ⟨rfl, hb⟩
set_option maxHeartbeats 4000000 in
set_option maxRecDepth 100000 in
theorem PowI_ok (m md : ByteArray) (N : Nat) (hN : N ≤ 64) (n : Int) (s : Bool) (x : Int) (hx : rdm m = some x) (hr : Hid (isRight n = true)) (hm : Hid (isModeL md.data.toList = true)) (HR : Hid (hasW n.toNat s x = true)) (xb : Hid (x.natAbs ≤ 18446744073709551616)) (z0 er : Int) (HP : Hid (powK n.toNat s md.toList x N = (z0, er))) (T : ByteArray) (HR0 : Hid (er = 0 → T = ⟨(txt z0).toArray⟩)) (HR1 : Hid (er ≠ 0 → T = ⟨#[]⟩)) (w : World) :
    Calls Try.prog 41 #[.string m, .int .i64 (N : Int), .int .i64 n, .bool s, .string md] w fun e w' => e = .returned (.tuple #[.string T, .int .i64 er]) ∧ Below w.heap.size w w' := by
  have R1 := Lib.hid (ReadI_any m)
  have nx := rdm_nl (m := m)
  rw [hx] at R1 nx
  simp only [Option.getD_some, Option.isSome_some] at R1 nx
  obtain ⟨k0, hk0, k1, k2, k3⟩ := right_bits hr.out
  have n1 : 1 ≤ n := by omega
  have n2 : n ≤ 64 := by omega
  clear hk0 k1 k2 k3
  clear hx
  have n0 : ¬ (N : Int) < 0 := by omega
  have n3 : ¬ 64 < (N : Int) := by omega
  go_enter Try.func41, Try.ntmps41
  go_upto_region 1 with (fail)
  have hb := Below.refl w.heap.size w
  apply wp_region_lit
  refine wl_k rfl (fun K hK => ?_); go_simp; refine hK _ ?_; clear hK K
  refine wl_ck rfl (fun K hK => ?_); go_simp; refine ⟨_, _, ⟨rfl, rfl⟩, hK _ _ ⟨_, R1.out _, ?_⟩⟩; clear hK K; rintro e w1 ⟨A1, c1, rfl, i1, hb1⟩; refine ⟨_, rfl, ?_⟩; simp only [put_lit, List.set_cons_zero, List.set_cons_succ]
  replace hb := hb.trans (hb1.mono hb.size); clear hb1
  refine wl_k rfl (fun K hK => ?_); go_simp; refine hK _ ?_; clear hK K
  refine wl_k rfl (fun K hK => ?_); go_simp; refine hK _ ?_; clear hK K
  refine wl_k rfl (fun K hK => ?_); go_simp; refine hK _ ?_; clear hK K
  (have lsp6 := hb.size; (with_reducible apply wl_new84); intro w2 p6 hbn hlp6 hp6; replace i1 := i1.below hbn; replace hb := hb.trans (hbn.mono hb.size); clear hbn)
  ((with_reducible apply wl_putI); exact rfl; exact rfl; exact hp6; intro w3 hbx hk hq hi; replace i1 := hi _ _ _ i1; replace hb := hbx _ _ (by omega) hb; clear hp6; have hp6 := hq; clear hbx hk hq hi)
  go_upto_region 4 with (fail)
  apply wp_region_lit
  refine wl_k rfl (fun K hK => ?_); go_simp; refine hK _ ?_; clear hK K
  refine wl_ck rfl (fun K hK => ?_); go_simp; refine ⟨_, _, ⟨rfl, rfl⟩, hK _ _ ⟨_, isWidth_any n true (Lib.hid hr.out.symm) _, ?_⟩⟩; clear hK K; rintro e w4 ⟨rfl, hb1⟩; refine ⟨_, rfl, ?_⟩; simp only [put_lit, List.set_cons_zero, List.set_cons_succ]
  replace hp6 := below_look hb1 hp6; replace i1 := i1.below hb1; replace hb := hb.trans (hb1.mono hb.size); clear hb1
  refine wl_k rfl (fun K hK => ?_); go_simp; refine hK _ ?_; clear hK K
  refine wl_k rfl (fun K hK => ?_); go_simp; refine hK _ ?_; clear hK K
  refine wl_k rfl (fun K hK => ?_); go_simp; refine hK _ ?_; clear hK K
  refine wl_ck rfl (fun K hK => ?_); go_simp; refine ⟨_, _, ⟨rfl, rfl⟩, hK _ _ ⟨_, isModeI_any md true (Lib.hid hm.out.symm) _, ?_⟩⟩; clear hK K; rintro e w5 ⟨rfl, hb1⟩; refine ⟨_, rfl, ?_⟩; simp only [put_lit, List.set_cons_zero, List.set_cons_succ]
  replace hp6 := below_look hb1 hp6; replace i1 := i1.below hb1; replace hb := hb.trans (hb1.mono hb.size); clear hb1
  go_upto_region 6 with (fail)
  apply wp_region_lit
  ((with_reducible apply wl_rowG); exact rfl; exact rfl; exact rowIv (by with_reducible assumption))
  refine wl_k rfl (fun K hK => ?_); go_simp; refine hK _ ?_; clear hK K
  refine wl_k rfl (fun K hK => ?_); go_simp; refine hK _ ?_; clear hK K
  refine wl_ck rfl (fun K hK => ?_); go_simp; refine ⟨_, _, ⟨rfl, rfl⟩, hK _ _ ⟨_, withinI_any x n s A1 c1 n1 n2 _ i1 (by omega) true HR, ?_⟩⟩; clear hK K; rintro e w6 ⟨rfl, hb1⟩; refine ⟨_, rfl, ?_⟩; simp only [put_lit, List.set_cons_zero, List.set_cons_succ]
  replace hp6 := below_look hb1 hp6; replace i1 := i1.below hb1; replace hb := hb.trans (hb1.mono hb.size); clear hb1
  go_upto_region 8 with (fail)
  clear n0 n3
  apply wp_region_lit
  refine wl_ck rfl (fun K hK => ?_); go_simp; refine ⟨_, _, ⟨rfl, rfl⟩, hK _ _ ⟨_, Of_any 1 (by decide) (by decide) _, ?_⟩⟩; clear hK K; rintro e w7 ⟨A2, c2, rfl, i2, hb1⟩; refine ⟨_, rfl, ?_⟩; simp only [put_lit, List.set_cons_zero, List.set_cons_succ]
  replace hp6 := below_look hb1 hp6; replace i1 := i1.below hb1; replace hb := hb.trans (hb1.mono hb.size); clear hb1
  (have lthp6p14 := heap_lt hp6; have lsp14 := hb.size; (with_reducible apply wl_new84); intro w8 p14 hbn hlp14 hp14; replace hp6 := below_look hbn hp6; replace i1 := i1.below hbn; replace i2 := i2.below hbn; replace hb := hb.trans (hbn.mono hb.size); clear hbn)
  ((with_reducible apply wl_putI); exact rfl; exact rfl; exact hp14; intro w9 hbx hk hq hi; replace hp6 := hk _ _ (by omega) hp6; replace i1 := hi _ _ _ i1; replace i2 := hi _ _ _ i2; replace hb := hbx _ _ (by omega) hb; clear hp14; have hp14 := hq; clear hbx hk hq hi)
  go_wp2_with fail
  go_loopw [15] (fun i wr => ∃ (k : Nat) (z : Int) (A2 : Option Addr) (c2 : Nat), k ≤ N ∧ i = .int .i64 (k : Int) ∧ Hid (powK n.toNat s md.toList x k = (z, 0)) ∧ wr.heap[p6]? = some (.cells (iv x A1 c1) 84 (0, 0)) ∧ wr.heap[p14]? = some (.cells (iv z A2 c2) 84 (0, 0)) ∧ IvAt wr x A1 c1 ∧ IvAt wr z A2 c2 ∧ Below w.heap.size w wr) (fun i _ => (N - intOf i).toNat)
  case atStart => exact ⟨0, 1, A2, c2, by omega, rfl, Lib.hid rfl, hp6, hp14, i1, i2, hb⟩
  case round =>
    clear hp6 hp14 i1 i2 hb
    obtain ⟨k, z, A2, c2, hk, rfl, HK, hp6, hp14, i1, i2, hb⟩ := hrel
    have zb := Lib.hid (powK_bd hr.out HK.out)
    have nz := Lib.hid (nl_sml (n := z.natAbs) (by have := zb.out; omega))
    by_cases hlt : k < N
    · obtain ⟨r, e1, hB⟩ : ∃ r e1, bringW n.toNat s md.toList (z * x) = (r, e1) := ⟨_, _, rfl⟩
      have HB := Lib.hid hB
      have HK1 : Hid (powK n.toNat s md.toList x (k + 1) = (r, e1)) := Lib.hid (by rw [powK_step HK.out]; exact hB)
      have nzx := Lib.hid (nl_sml (n := (z * x).natAbs) (by have := mul_bd zb.out xb.out; rw [Int.natAbs_mul]; omega))
      clear hB
      go_upto_region 12 with (fail)
      apply wp_region_lit
      ((with_reducible apply wl_rowG); exact rfl; exact rfl; exact rowIv hp14)
      ((with_reducible apply wl_rowG); exact rfl; exact rfl; exact rowIv hp6)
      refine wl_ck rfl (fun K hK => ?_); go_simp; refine ⟨_, _, ⟨rfl, rfl⟩, hK _ _ ⟨_, TimesI_any z x _ _ _ _ _ i2 i1 (by have := nz.out; omega) (by omega), ?_⟩⟩; clear hK K; rintro e w10 ⟨A3, c3, rfl, i3, hb1⟩; refine ⟨_, rfl, ?_⟩; simp only [put_lit, List.set_cons_zero, List.set_cons_succ]
      replace hp6 := below_look hb1 hp6; replace hp14 := below_look hb1 hp14; replace i1 := i1.below hb1; replace i2 := i2.below hb1; replace hb := hb.trans (hb1.mono hb.size); clear hb1
      refine wl_k rfl (fun K hK => ?_); go_simp; refine hK _ ?_; clear hK K
      refine wl_k rfl (fun K hK => ?_); go_simp; refine hK _ ?_; clear hK K
      refine wl_k rfl (fun K hK => ?_); go_simp; refine hK _ ?_; clear hK K
      refine wl_ck rfl (fun K hK => ?_); go_simp; refine ⟨_, _, ⟨rfl, rfl⟩, hK _ _ ⟨_, broughtI_any (z * x) n s md A3 c3 n1 n2 _ i3 (by have := nzx.out; omega) hm r e1 HB, ?_⟩⟩; clear hK K; rintro e w11 ⟨A4, c4, rfl, i4, hb1⟩; refine ⟨_, rfl, ?_⟩; simp only [put_lit, List.set_cons_zero, List.set_cons_succ]
      replace hp6 := below_look hb1 hp6; replace hp14 := below_look hb1 hp14; replace i1 := i1.below hb1; replace i2 := i2.below hb1; replace hb := hb.trans (hb1.mono hb.size); clear hb1
      clear i3
      refine wl_k rfl (fun K hK => ?_); go_simp; refine hK _ ?_; clear hK K
      refine wl_k rfl (fun K hK => ?_); go_simp; refine hK _ ?_; clear hK K
      refine wl_k rfl (fun K hK => ?_); go_simp; refine hK _ ?_; clear hK K
      (have lthp6p16 := heap_lt hp6; have lthp14p16 := heap_lt hp14; have lsp16 := hb.size; (with_reducible apply wl_new84); intro w12 p16 hbn hlp16 hp16; replace hp6 := below_look hbn hp6; replace hp14 := below_look hbn hp14; replace i1 := i1.below hbn; replace i2 := i2.below hbn; replace i4 := i4.below hbn; replace hb := hb.trans (hbn.mono hb.size); clear hbn)
      ((with_reducible apply wl_putI); exact rfl; exact rfl; exact hp16; intro w13 hbx hk hq hi; replace hp6 := hk _ _ (by omega) hp6; replace hp14 := hk _ _ (by omega) hp14; replace i1 := hi _ _ _ i1; replace i2 := hi _ _ _ i2; replace i4 := hi _ _ _ i4; replace hb := hbx _ _ (by omega) hb; clear hp16; have hp16 := hq; clear hbx hk hq hi)
      by_cases he : e1 = 0
      · subst he
        go_upto_region 15 with (fail)
        apply wp_region_lit
        ((with_reducible apply wl_rowG); exact rfl; exact rfl; exact rowIv hp16)
        ((with_reducible apply wl_putI); exact rfl; exact rfl; exact hp14; intro w14 hbx hk hq hi; replace hp6 := hk _ _ (by omega) hp6; replace i1 := hi _ _ _ i1; replace i4 := hi _ _ _ i4; replace hb := hbx _ _ (by omega) hb; clear hp14; have hp14 := hq; clear hbx hk hq hi)
        go_wp2_with fail
        go_roundw
        case rel => exact ⟨k + 1, r, A4, c4, by omega, by go_num, HK1, hp6, hp14, i1, i4, hb⟩
        case measure => simp [intOf]; omega
      · have hs := powK_stuck HK1.out he (show k + 1 ≤ N by omega)
        rw [HP.out, Prod.mk.injEq] at hs
        obtain ⟨rfl, rfl⟩ := hs
        have HT := Lib.hid (HR1.out he)
        go_wp2_with fail
        exact bodyPost_ret (results_tmp2 rfl _ _ _) rfl ⟨by rw [HT.out]; rfl, hb⟩
    · obtain rfl : k = N := by omega
      have hs := HK.out
      rw [HP.out, Prod.mk.injEq] at hs
      obtain ⟨rfl, rfl⟩ := hs
      have HT := Lib.hid (HR0.out rfl)
      go_upto_region 16 with (fail)
      apply wp_region_lit
      ((with_reducible apply wl_rowG); exact rfl; exact rfl; exact rowIv hp14)
      refine wl_ck rfl (fun K hK => ?_); go_simp; refine ⟨_, _, ⟨rfl, rfl⟩, hK _ _ ⟨_, TextI_any _ A2 c2 _ i2 (by have := nz.out; omega) (small64 (by have := zb.out; omega)), ?_⟩⟩; clear hK K; rintro e w12 ⟨rfl, hb1⟩; refine ⟨_, rfl, ?_⟩; simp only [put_lit, List.set_cons_zero, List.set_cons_succ]
      replace hb := hb.trans (hb1.mono hb.size); clear hb1
      go_wp2_with fail
      exact bodyPost_ret (results_tmp2 rfl _ _ _) rfl ⟨by rw [HT.out]; rfl, hb⟩
theorem PowI_any (m md : ByteArray) (p bits : Int) (s : Bool) (t : ByteArray) (er : Int) (h : Hid (powS m p bits s md = (t, er))) (w : World) :
    Calls Try.prog 41 #[.string m, .int .i64 p, .int .i64 bits, .bool s, .string md] w fun e w' => e = .returned (.tuple #[.string t, .int .i64 er]) ∧ Below w.heap.size w w' := by
  have h := h.out
  unfold powS at h
  cases hx : rdm m with
  | none =>
    rw [hx] at h
    simp only [Prod.mk.injEq] at h
    obtain ⟨rfl, rfl⟩ := h
    exact PowI_none m md p bits s hx w
  | some x =>
    rw [hx] at h
    simp only at h
    by_cases hr : isRight bits = true
    · rw [if_pos hr] at h
      by_cases hm : isModeL md.data.toList = true
      · rw [if_pos hm] at h
        by_cases hc : hasI bits s x = true ∧ 0 ≤ p ∧ p ≤ 64
        · rw [if_pos hc] at h
          obtain ⟨c1, c2, c3⟩ := hc
          obtain ⟨N, rfl⟩ := Int.eq_ofNat_of_zero_le c2
          rw [Int.toNat_natCast] at h
          rcases hB : powK bits.toNat s md.toList x N with ⟨r, e1⟩
          rw [hB] at h
          simp only at h
          have := PowI_ok m md N (by omega) bits s x hx (Lib.hid hr) (Lib.hid hm) (Lib.hid c1) (Lib.hid (hasI_bd hr c1)) r e1 (Lib.hid hB) t
          by_cases he : e1 = 0
          · rw [if_pos he] at h
            simp only [Prod.mk.injEq] at h
            obtain ⟨rfl, rfl⟩ := h
            rw [he] at this
            exact this (Lib.hid fun _ => rfl) (Lib.hid fun h => absurd rfl h) w
          · rw [if_neg he] at h
            simp only [Prod.mk.injEq] at h
            obtain ⟨rfl, rfl⟩ := h
            exact this (Lib.hid fun h => absurd h he) (Lib.hid fun _ => rfl) w
        · rw [if_neg hc] at h
          simp only [Prod.mk.injEq] at h
          obtain ⟨rfl, rfl⟩ := h
          refine PowI_range m md p bits s x hx (Lib.hid hr) (Lib.hid hm) _ (Lib.hid rfl) ?_ w
          cases hR : hasI bits s x
          · exact Or.inl hR
          · right
            by_cases q1 : p < 0
            · exact Or.inl q1
            · by_cases q2 : 64 < p
              · exact Or.inr q2
              · exact absurd ⟨hR, by omega, by omega⟩ hc
      · rw [if_neg hm] at h
        simp only [Prod.mk.injEq] at h
        obtain ⟨rfl, rfl⟩ := h
        exact PowI_name2 m md p bits s x hx (Lib.hid hr) (Lib.hid (by simpa using hm)) w
    · rw [if_neg hr] at h
      simp only [Prod.mk.injEq] at h
      obtain ⟨rfl, rfl⟩ := h
      exact PowI_name1 m md p bits s x hx (Lib.hid (by simpa using hr)) w
set_option maxHeartbeats 1000000 in
set_option maxRecDepth 100000 in
theorem NumberPows_any (m : ByteArray) (p n : Int) (s : Bool) (md : ByteArray) (w : World) :
    Calls Try.prog 14 #[.string m, .int .i64 p, .agg (kvB n s md)] w fun e w' => e = .returned (.bool true) ∧ Below w.heap.size w w' := by
  rcases hr : powS m p n s md with ⟨r, er⟩
  have HR := Lib.hid hr
  clear hr
  cases la : decide (200 < m.size)
  · have LA := Lib.hid la
    clear la
    go_enter Try.func14, Try.ntmps14
    go_upto_region 1 with (fail)
    refine wp_world (fun W => W.heap[w.heap.size]? = some (.cells (kvB n s md) 25 (0, 0)) ∧ Below w.heap.size w W) ⟨ha_new rfl, (Below.refl _ _).alloc (Nat.le_refl _) _⟩ ?_
    rintro W ⟨h0, hb⟩
    go_upto_region 3 with (go_at_call 20; refine (longs m _ _ LA).mono ?_; rintro e w9 ⟨rfl, hb1⟩; replace h0 := below_look hb1 h0; replace hb := hb.trans (hb1.mono hb.size); clear hb1)
    apply wp_region_lit
    refine wl_k rfl (fun K hK => ?_); go_simp; refine hK _ ?_; clear hK K
    refine wl_k rfl (fun K hK => ?_); go_simp; refine hK _ ?_; clear hK K
    refine wl_k rfl (fun K hK => ?_); go_simp; refine hK _ ?_; clear hK K
    ((with_reducible apply wl_oneG); exact rfl; exact rfl; exact one_of u3 rfl (kv0 h0))
    refine wl_k rfl (fun K hK => ?_); go_simp; refine hK _ ?_; clear hK K
    ((with_reducible apply wl_oneG); exact rfl; exact rfl; exact one_of u4 rfl (kv1 h0))
    refine wl_k rfl (fun K hK => ?_); go_simp; refine hK _ ?_; clear hK K
    ((with_reducible apply wl_oneG); exact rfl; exact rfl; exact one_of u9t rfl (kv2 h0))
    refine wl_ck rfl (fun K hK => ?_); go_simp; refine ⟨_, _, ⟨rfl, rfl⟩, hK _ _ ⟨_, Pow_any _ _ _ _ _ _ _ HR _, ?_⟩⟩; clear hK K; rintro e w2 ⟨rfl, hb1⟩; refine ⟨_, rfl, ?_⟩; simp only [put_lit, List.set_cons_zero, List.set_cons_succ]
    replace h0 := below_look hb1 h0; replace hb := hb.trans (hb1.mono hb.size); clear hb1
    go_upto_region 4 with (fail)
    apply wp_region_lit
    refine wl_k rfl (fun K hK => ?_); go_simp; refine hK _ ?_; clear hK K
    refine wl_k rfl (fun K hK => ?_); go_simp; refine hK _ ?_; clear hK K
    refine wl_k rfl (fun K hK => ?_); go_simp; refine hK _ ?_; clear hK K
    ((with_reducible apply wl_oneG); exact rfl; exact rfl; exact one_of u3 rfl (kv0 h0))
    refine wl_k rfl (fun K hK => ?_); go_simp; refine hK _ ?_; clear hK K
    ((with_reducible apply wl_oneG); exact rfl; exact rfl; exact one_of u4 rfl (kv1 h0))
    refine wl_k rfl (fun K hK => ?_); go_simp; refine hK _ ?_; clear hK K
    ((with_reducible apply wl_oneG); exact rfl; exact rfl; exact one_of u9t rfl (kv2 h0))
    refine wl_ck rfl (fun K hK => ?_); go_simp; refine ⟨_, _, ⟨rfl, rfl⟩, hK _ _ ⟨_, PowI_any _ _ _ _ _ _ _ HR _, ?_⟩⟩; clear hK K; rintro e w3 ⟨rfl, hb1⟩; refine ⟨_, rfl, ?_⟩; simp only [put_lit, List.set_cons_zero, List.set_cons_succ]
    replace h0 := below_look hb1 h0; replace hb := hb.trans (hb1.mono hb.size); clear hb1
    go_wp2_with (go_at_call 21; refine (awake_any _).mono ?_; rintro e w9 ⟨rfl, hb1⟩; replace hb := hb.trans (hb1.mono hb.size); clear hb1)
    go_ret
    exact ⟨rfl, hb⟩
  · have LA := Lib.hid la
    clear la
    go_enter Try.func14, Try.ntmps14
    go_upto_region 1 with (fail)
    refine wp_world (fun W => W.heap[w.heap.size]? = some (.cells (kvB n s md) 25 (0, 0)) ∧ Below w.heap.size w W) ⟨ha_new rfl, (Below.refl _ _).alloc (Nat.le_refl _) _⟩ ?_
    rintro W ⟨h0, hb⟩
    go_wp2_with (first | (go_at_call 20; refine (longs m _ _ LA).mono ?_; rintro e w9 ⟨rfl, hb1⟩; replace hb := hb.trans (hb1.mono hb.size); clear hb1) | (go_at_call 21; refine (awake_any _).mono ?_; rintro e w9 ⟨rfl, hb1⟩; replace hb := hb.trans (hb1.mono hb.size); clear hb1))
    go_ret
    exact ⟨rfl, hb⟩
end Go.Proofs.Ytclainfdeghgnaa
