/- An operation on two texts: the result. -/
import Derived.Test.YtclainfdeghgnaaW22
import Derived.Test.YtclainfdeghgnaaK7
import Derived.Outline
namespace Go.Proofs.Ytclainfdeghgnaa
open Go.RowKit Go.Proofs.Ytclainfdeghgnaa.Nm

set_option maxHeartbeats 1000000 in
theorem Do_plain (op a b md : ByteArray) (bits : Int) (s : Bool) (x y z r er : Int) (hx : rdm a = some x) (hy : rdm b = some y) (hr : Hid (isRight bits = true)) (hm : Hid (isModeL md.data.toList = true)) (ho : Hid (isOpL op.data.toList = true))
    (hs1 : (op.toList == [60, 60]) = false) (hs2 : (op.toList == [62, 62]) = false) (hhx : Hid (hasI bits s x = true)) (hhy : Hid (hasI bits s y = true))
    (hd1 : (op.toList == [47]) = false) (hd2 : (op.toList == [37]) = false)
    (hex : Hid (∀ w, Calls Try.prog 60 #[.agg (wi bits s), .string op, .agg (lv x), .agg (lv y)] w fun e w' => e = .returned (.agg (lv z)) ∧ Below w.heap.size w w'))
    (hz : Hid (z.natAbs ≤ 100000000000000000000000000000000000000000000000000000000000)) (HB : Hid (bringW bits.toNat s md.toList z = (r, er))) (hrb : Hid (r.natAbs < 10 ^ 64))
    (R : Ending) (HR0 : Hid (er = 0 → R = .returned (.tuple #[.string ⟨(txt r).toArray⟩, .int .i64 0]))) (HR1 : Hid (er ≠ 0 → R = .returned (.tuple #[.string ⟨#[]⟩, .int .i64 er]))) (w : World) :
    Calls Try.prog 22 #[.string op, .string a, .string b, .int .i64 bits, .bool s, .string md] w fun e w' => e = R ∧ Below w.heap.size w w' := by
  have bx := Lib.hid (rdm_bd hx)
  have bY := Lib.hid (rdm_bd hy)
  go_enter Try.func22, Try.ntmps22
  go_wp2_with (go_at_call 52; refine (reads2_ok w.heap.size _ a b x y hx hy _ (ha_new rfl)).mono ?_)
  rintro e w1 ⟨g, cap, rfl, hgl, hT, hb⟩
  replace hb := ((Below.refl w.heap.size w).alloc (Nat.le_refl _) _).trans (hb.mono (by simp))
  have hgl2 : w.heap.size ≤ g := by simp at hgl; omega
  clear hgl
  go_upto_region 5 with (fail)
  have ltg := hT.lt
  refine wp_world (fun W => W.heap[w1.heap.size]? = some (.cells (wi bits s) 68 (0, 0)) ∧ TwoAt W g x y ∧ Below w.heap.size w W) ⟨ha_new rfl, hT.below ((Below.refl _ _).alloc (Nat.le_refl _) _), hb.alloc hb.size _⟩ ?_
  obtain ⟨p, hp⟩ : ∃ p, p = w1.heap.size := ⟨_, rfl⟩
  rw [← hp] at ltg ⊢
  have hpl : w.heap.size ≤ p := by rw [hp]; exact hb.size
  clear hT hb hp
  rintro W ⟨h0, hT, hb⟩
  apply wp_region_lit
  ((with_reducible apply wl_rowG); exact rfl; exact rfl; exact rowWi (by with_reducible assumption))
  refine wl_ck rfl (fun K hK => ?_); go_simp; refine ⟨_, _, ⟨rfl, rfl⟩, hK _ _ ⟨_, right_any _ _ true (Lib.hid hr.out.symm) _, ?_⟩⟩; clear hK K; rintro e w2 ⟨rfl, hb1⟩; refine ⟨_, rfl, ?_⟩; simp only [put_lit, List.set_cons_zero, List.set_cons_succ]
  replace h0 := below_look hb1 h0; replace hT := hT.below hb1; replace hb := hb.trans (hb1.mono hb.size); clear hb1
  refine wl_k rfl (fun K hK => ?_); go_simp; refine hK _ ?_; clear hK K
  refine wl_k rfl (fun K hK => ?_); go_simp; refine hK _ ?_; clear hK K
  refine wl_k rfl (fun K hK => ?_); go_simp; refine hK _ ?_; clear hK K
  refine wl_ck rfl (fun K hK => ?_); go_simp; refine ⟨_, _, ⟨rfl, rfl⟩, hK _ _ ⟨_, isMode_any _ true (Lib.hid hm.out.symm) _, ?_⟩⟩; clear hK K; rintro e w2 ⟨rfl, hb1⟩; refine ⟨_, rfl, ?_⟩; simp only [put_lit, List.set_cons_zero, List.set_cons_succ]
  replace h0 := below_look hb1 h0; replace hT := hT.below hb1; replace hb := hb.trans (hb1.mono hb.size); clear hb1
  refine wl_k rfl (fun K hK => ?_); go_simp; refine hK _ ?_; clear hK K
  refine wl_k rfl (fun K hK => ?_); go_simp; refine hK _ ?_; clear hK K
  refine wl_k rfl (fun K hK => ?_); go_simp; refine hK _ ?_; clear hK K
  refine wl_wG rfl (ex_ops rfl (fun _ => rfl)) ?_
  simp only [put_lit, List.set_cons_zero, List.set_cons_succ]
  have hb1 := (Below.refl w2.heap.size w2).alloc (Nat.le_refl _) (.cells opCells 9)
  have hg5 : (w2.alloc (.cells opCells 9)).heap[w2.heap.size]? = some (.cells opCells 9 (0, 0)) := ha_new rfl
  replace h0 := below_look hb1 h0; replace hT := hT.below hb1; replace hb := hb.trans (hb1.mono hb.size); clear hb1
  refine wl_k rfl (fun K hK => ?_); go_simp; refine hK _ ?_; clear hK K
  refine wl_ck rfl (fun K hK => ?_); go_simp; refine ⟨_, _, ⟨rfl, rfl⟩, hK _ _ ⟨_, contains_ops _ _ true (Lib.hid ho.out.symm) _ hg5, ?_⟩⟩; clear hK K; rintro e w4 ⟨rfl, hb1⟩; refine ⟨_, rfl, ?_⟩; simp only [put_lit, List.set_cons_zero, List.set_cons_succ]
  replace h0 := below_look hb1 h0; replace hT := hT.below hb1; replace hb := hb.trans (hb1.mono hb.size); clear hb1
  clear hg5
  refine wl_k rfl (fun K hK => ?_); go_simp; refine hK _ ?_; clear hK K
  refine wl_k rfl (fun K hK => ?_); go_simp; refine hK _ ?_; clear hK K
  go_upto_region 8 with (fail)
  have hdum : (2 : Nat) ≤ 2 := Nat.le_refl 2
  refine wp_region_belowAll mixed (by kernel_rfl) ?_
  (refine wq_row_as rfl (fun w' hw' => rowWi (below_look hw' h0)) ?_; go_big_quiet_want; go_big_quiet_op; go_big_quiet_on)
  (go_big_quiet_want; go_big_quiet_op; first | go_big_quiet_on | (refine ⟨_, fun _ _ => rfl, ?_⟩; go_big_quiet_on))
  (go_big_quiet_want; go_big_quiet_op; first | go_big_quiet_on | (refine ⟨_, fun _ _ => rfl, ?_⟩; go_big_quiet_on))
  (refine wq_row_as rfl (fun w' hw' => two0 (TwoAt.below hw' hT)) ?_; go_big_quiet_want; go_big_quiet_op; go_big_quiet_on)
  (go_big_quiet_want; go_big_quiet_op; refine ⟨_, fun w' hw' => calls_class hw' (has_wi _ _ _ hr.out bx.out true hhx w'), ?_⟩; go_big_quiet_on)
  (go_big_quiet_want; go_big_quiet_op; first | go_big_quiet_on | (refine ⟨_, fun _ _ => rfl, ?_⟩; go_big_quiet_on))
  (go_big_quiet_want; go_big_quiet_op; first | go_big_quiet_on | (refine ⟨_, fun _ _ => rfl, ?_⟩; go_big_quiet_on))
  (refine wq_row_as rfl (fun w' hw' => rowWi (below_look hw' h0)) ?_; go_big_quiet_want; go_big_quiet_op; go_big_quiet_on)
  (go_big_quiet_want; go_big_quiet_op; first | go_big_quiet_on | (refine ⟨_, fun _ _ => rfl, ?_⟩; go_big_quiet_on))
  (go_big_quiet_want; go_big_quiet_op; first | go_big_quiet_on | (refine ⟨_, fun _ _ => rfl, ?_⟩; go_big_quiet_on))
  (refine wq_row_as rfl (fun w' hw' => two1 (TwoAt.below hw' hT)) ?_; go_big_quiet_want; go_big_quiet_op; go_big_quiet_on)
  (go_big_quiet_want; go_big_quiet_op; refine ⟨_, fun w' hw' => calls_class hw' (has_wi _ _ _ hr.out bY.out true hhy w'), ?_⟩; go_big_quiet_on)
  (go_big_quiet_want; go_big_quiet_op; first | go_big_quiet_on | (refine ⟨_, fun _ _ => rfl, ?_⟩; go_big_quiet_on))
  (go_big_quiet_want; go_big_quiet_op; first | go_big_quiet_on | (refine ⟨_, fun _ _ => rfl, ?_⟩; go_big_quiet_on))
  (go_big_quiet_want; go_big_quiet_op; first | go_big_quiet_on | (refine ⟨_, fun _ _ => rfl, ?_⟩; go_big_quiet_on))
  (go_big_quiet_want; go_big_quiet_op; first | go_big_quiet_on | (refine ⟨_, fun _ _ => rfl, ?_⟩; go_big_quiet_on))
  (go_big_quiet_want; go_big_quiet_op; first | go_big_quiet_on | (refine ⟨_, fun _ _ => rfl, ?_⟩; go_big_quiet_on))
  go_big_quiet_skip
  go_big_quiet_skip
  go_big_quiet_skip
  go_big_quiet_skip
  go_big_quiet_skip
  go_big_quiet_skip
  go_big_quiet_skip
  go_big_quiet_skip
  go_big_quiet_skip
  go_big_quiet_skip
  go_big_quiet_skip
  go_big_quiet_skip
  go_big_quiet_skip
  (go_big_quiet_want; go_big_quiet_op; first | go_big_quiet_on | (refine ⟨_, fun _ _ => rfl, ?_⟩; go_big_quiet_on))
  (go_big_quiet_want; go_big_quiet_op; first | go_big_quiet_on | (refine ⟨_, fun _ _ => rfl, ?_⟩; go_big_quiet_on))
  intro w6 hb1
  replace h0 := below_look hb1 h0; replace hT := hT.below hb1; replace hb := hb.trans (hb1.mono hb.size); clear hb1
  go_upto_region 10 with (fail)
  apply wp_region_lit
  refine wl_k rfl (fun K hK => ?_); go_simp; refine hK _ ?_; clear hK K
  refine wl_k rfl (fun K hK => ?_); go_simp; refine hK _ ?_; clear hK K
  refine wl_k rfl (fun K hK => ?_); go_simp; refine hK _ ?_; clear hK K
  refine wl_k rfl (fun K hK => ?_); go_simp; refine hK _ ?_; clear hK K
  refine wl_k rfl (fun K hK => ?_); go_simp; refine hK _ ?_; clear hK K
  refine wl_k rfl (fun K hK => ?_); go_simp; refine hK _ ?_; clear hK K
  refine wl_k rfl (fun K hK => ?_); go_simp; refine hK _ ?_; clear hK K
  refine wl_skip rfl ?_
  simp only [put_lit, List.set_cons_zero, List.set_cons_succ]
  refine wl_skip rfl ?_
  simp only [put_lit, List.set_cons_zero, List.set_cons_succ]
  refine wl_skip rfl ?_
  simp only [put_lit, List.set_cons_zero, List.set_cons_succ]
  refine wl_skip rfl ?_
  simp only [put_lit, List.set_cons_zero, List.set_cons_succ]
  refine wl_skip rfl ?_
  simp only [put_lit, List.set_cons_zero, List.set_cons_succ]
  refine wl_k rfl (fun K hK => ?_); go_simp; refine hK _ ?_; clear hK K
  go_upto_region 12 with (fail)
  refine wp_region_late 15 14 18 (lv 0) 75 mixed (by kernel_rfl) (by kernel_rfl) ⟨_, rfl, rfl, rfl, ex_alloc75 rfl⟩ ?_
  simp only [List.take_succ_cons, List.take_zero, List.drop_succ_cons, List.drop_zero]
  ((with_reducible apply ws_row); exact rfl; exact rfl; (intro w' hw'; exact rowWi (below_look hw' h0)))
  simp only [put_lit, List.set_cons_zero, List.set_cons_succ]
  ((with_reducible apply ws_row); exact rfl; exact rfl; (intro w' hw'; exact rowWi (below_look hw' h0)))
  simp only [put_lit, List.set_cons_zero, List.set_cons_succ]
  refine ws_k rfl (fun K hK => ?_); go_simp; refine hK _ ?_; clear hK K
  refine ws_k rfl (fun K hK => ?_); go_simp; refine hK _ ?_; clear hK K
  refine ws_k rfl (fun K hK => ?_); go_simp; refine hK _ ?_; clear hK K
  ((with_reducible apply ws_row); exact rfl; exact rfl; (intro w' hw'; exact two0 (TwoAt.below hw' hT)))
  simp only [put_lit, List.set_cons_zero, List.set_cons_succ]
  refine ws_k rfl (fun K hK => ?_); go_simp; refine hK _ ?_; clear hK K
  refine ws_k rfl (fun K hK => ?_); go_simp; refine hK _ ?_; clear hK K
  ((with_reducible apply ws_row); exact rfl; exact rfl; (intro w' hw'; exact two1 (TwoAt.below hw' hT)))
  simp only [put_lit, List.set_cons_zero, List.set_cons_succ]
  refine ws_ck rfl (fun K hK => ?_); go_simp; refine ⟨_, _, ⟨rfl, rfl⟩, hK _ _ ⟨_, fun w' hw' => (hex.out w'), ?_⟩⟩; clear hK K; simp only [put_lit, List.set_cons_zero, List.set_cons_succ]
  refine ws_k rfl (fun K hK => ?_); go_simp; refine hK _ ?_; clear hK K
  refine ws_ck rfl (fun K hK => ?_); go_simp; refine ⟨_, _, ⟨rfl, rfl⟩, hK _ _ ⟨_, fun w' hw' => (bring_wi _ _ _ _ hr.out hz.out _ _ HB.out w'), ?_⟩⟩; clear hK K; simp only [put_lit, List.set_cons_zero, List.set_cons_succ]
  refine ws_k rfl (fun K hK => ?_); go_simp; refine hK _ ?_; clear hK K
  refine ws_k rfl (fun K hK => ?_); go_simp; refine hK _ ?_; clear hK K
  refine ws_k rfl (fun K hK => ?_); go_simp; refine hK _ ?_; clear hK K
  rintro p5 w9 ⟨hb1, hl5, hp5⟩
  have hl6 : w.heap.size ≤ p5 := by have := hb.size; omega
  replace hb := hb.trans (hb1.mono hb.size)
  clear hb1 h0 hT
  simp only [put_lit, List.set_cons_zero, List.set_cons_succ]
  ((with_reducible apply wl_put75); exact rfl; exact rfl; exact hp5; intro w10 hbx hk hq; replace hb := hbx _ _ (by omega) hb; clear hp5; have hp5 := hq; clear hbx hk hq)
  refine wl_k rfl (fun K hK => ?_); go_simp; refine hK _ ?_; clear hK K
  refine onlyN_nil ?_
  go_upto_region 13 with (fail)
  by_cases he : er = 0
  · have HR := Lib.hid (HR0.out he)
    subst he
    go_upto_region 15 with (fail)
    apply wp_region_lit
    ((with_reducible apply wl_rowG); exact rfl; exact rfl; (first | exact rowL (by with_reducible assumption) | exact rowD (by with_reducible assumption) | exact rowR (by with_reducible assumption)))
    refine wl_ck rfl (fun K hK => ?_); go_simp; refine ⟨_, _, ⟨rfl, rfl⟩, hK _ _ ⟨_, text_any _ hrb.out _, ?_⟩⟩; clear hK K; rintro e w11 ⟨rfl, hb1⟩; refine ⟨_, rfl, ?_⟩; simp only [put_lit, List.set_cons_zero, List.set_cons_succ]
    replace hb := hb.trans (hb1.mono hb.size); clear hb1
    go_wp2_with fail
    exact bodyPost_ret (results_tmp2 rfl _ _ _) rfl ⟨by rw [HR.out]; rfl, hb⟩
  · have HR := Lib.hid (HR1.out he)
    go_wp2_with fail
    exact bodyPost_ret (results_tmp2 rfl _ _ _) rfl ⟨by rw [HR.out]; rfl, hb⟩
set_option maxHeartbeats 1000000 in
theorem Do_div1 (op a b md : ByteArray) (bits : Int) (s : Bool) (x y z r er : Int) (hx : rdm a = some x) (hy : rdm b = some y) (hr : Hid (isRight bits = true)) (hm : Hid (isModeL md.data.toList = true)) (ho : Hid (isOpL op.data.toList = true))
    (hs1 : (op.toList == [60, 60]) = false) (hs2 : (op.toList == [62, 62]) = false) (hhx : Hid (hasI bits s x = true)) (hhy : Hid (hasI bits s y = true))
    (hd1 : (op.toList == [47]) = true) (HQ : Hid (decide (y = 0) = false))
    (hex : Hid (∀ w, Calls Try.prog 60 #[.agg (wi bits s), .string op, .agg (lv x), .agg (lv y)] w fun e w' => e = .returned (.agg (lv z)) ∧ Below w.heap.size w w'))
    (hz : Hid (z.natAbs ≤ 100000000000000000000000000000000000000000000000000000000000)) (HB : Hid (bringW bits.toNat s md.toList z = (r, er))) (hrb : Hid (r.natAbs < 10 ^ 64))
    (R : Ending) (HR0 : Hid (er = 0 → R = .returned (.tuple #[.string ⟨(txt r).toArray⟩, .int .i64 0]))) (HR1 : Hid (er ≠ 0 → R = .returned (.tuple #[.string ⟨#[]⟩, .int .i64 er]))) (w : World) :
    Calls Try.prog 22 #[.string op, .string a, .string b, .int .i64 bits, .bool s, .string md] w fun e w' => e = R ∧ Below w.heap.size w w' := by
  have bx := Lib.hid (rdm_bd hx)
  have bY := Lib.hid (rdm_bd hy)
  go_enter Try.func22, Try.ntmps22
  go_wp2_with (go_at_call 52; refine (reads2_ok w.heap.size _ a b x y hx hy _ (ha_new rfl)).mono ?_)
  rintro e w1 ⟨g, cap, rfl, hgl, hT, hb⟩
  replace hb := ((Below.refl w.heap.size w).alloc (Nat.le_refl _) _).trans (hb.mono (by simp))
  have hgl2 : w.heap.size ≤ g := by simp at hgl; omega
  clear hgl
  go_upto_region 5 with (fail)
  have ltg := hT.lt
  refine wp_world (fun W => W.heap[w1.heap.size]? = some (.cells (wi bits s) 68 (0, 0)) ∧ TwoAt W g x y ∧ Below w.heap.size w W) ⟨ha_new rfl, hT.below ((Below.refl _ _).alloc (Nat.le_refl _) _), hb.alloc hb.size _⟩ ?_
  obtain ⟨p, hp⟩ : ∃ p, p = w1.heap.size := ⟨_, rfl⟩
  rw [← hp] at ltg ⊢
  have hpl : w.heap.size ≤ p := by rw [hp]; exact hb.size
  clear hT hb hp
  rintro W ⟨h0, hT, hb⟩
  apply wp_region_lit
  ((with_reducible apply wl_rowG); exact rfl; exact rfl; exact rowWi (by with_reducible assumption))
  refine wl_ck rfl (fun K hK => ?_); go_simp; refine ⟨_, _, ⟨rfl, rfl⟩, hK _ _ ⟨_, right_any _ _ true (Lib.hid hr.out.symm) _, ?_⟩⟩; clear hK K; rintro e w2 ⟨rfl, hb1⟩; refine ⟨_, rfl, ?_⟩; simp only [put_lit, List.set_cons_zero, List.set_cons_succ]
  replace h0 := below_look hb1 h0; replace hT := hT.below hb1; replace hb := hb.trans (hb1.mono hb.size); clear hb1
  refine wl_k rfl (fun K hK => ?_); go_simp; refine hK _ ?_; clear hK K
  refine wl_k rfl (fun K hK => ?_); go_simp; refine hK _ ?_; clear hK K
  refine wl_k rfl (fun K hK => ?_); go_simp; refine hK _ ?_; clear hK K
  refine wl_ck rfl (fun K hK => ?_); go_simp; refine ⟨_, _, ⟨rfl, rfl⟩, hK _ _ ⟨_, isMode_any _ true (Lib.hid hm.out.symm) _, ?_⟩⟩; clear hK K; rintro e w2 ⟨rfl, hb1⟩; refine ⟨_, rfl, ?_⟩; simp only [put_lit, List.set_cons_zero, List.set_cons_succ]
  replace h0 := below_look hb1 h0; replace hT := hT.below hb1; replace hb := hb.trans (hb1.mono hb.size); clear hb1
  refine wl_k rfl (fun K hK => ?_); go_simp; refine hK _ ?_; clear hK K
  refine wl_k rfl (fun K hK => ?_); go_simp; refine hK _ ?_; clear hK K
  refine wl_k rfl (fun K hK => ?_); go_simp; refine hK _ ?_; clear hK K
  refine wl_wG rfl (ex_ops rfl (fun _ => rfl)) ?_
  simp only [put_lit, List.set_cons_zero, List.set_cons_succ]
  have hb1 := (Below.refl w2.heap.size w2).alloc (Nat.le_refl _) (.cells opCells 9)
  have hg5 : (w2.alloc (.cells opCells 9)).heap[w2.heap.size]? = some (.cells opCells 9 (0, 0)) := ha_new rfl
  replace h0 := below_look hb1 h0; replace hT := hT.below hb1; replace hb := hb.trans (hb1.mono hb.size); clear hb1
  refine wl_k rfl (fun K hK => ?_); go_simp; refine hK _ ?_; clear hK K
  refine wl_ck rfl (fun K hK => ?_); go_simp; refine ⟨_, _, ⟨rfl, rfl⟩, hK _ _ ⟨_, contains_ops _ _ true (Lib.hid ho.out.symm) _ hg5, ?_⟩⟩; clear hK K; rintro e w4 ⟨rfl, hb1⟩; refine ⟨_, rfl, ?_⟩; simp only [put_lit, List.set_cons_zero, List.set_cons_succ]
  replace h0 := below_look hb1 h0; replace hT := hT.below hb1; replace hb := hb.trans (hb1.mono hb.size); clear hb1
  clear hg5
  refine wl_k rfl (fun K hK => ?_); go_simp; refine hK _ ?_; clear hK K
  refine wl_k rfl (fun K hK => ?_); go_simp; refine hK _ ?_; clear hK K
  go_upto_region 8 with (fail)
  have hdum : (2 : Nat) ≤ 2 := Nat.le_refl 2
  refine wp_region_belowAll mixed (by kernel_rfl) ?_
  (refine wq_row_as rfl (fun w' hw' => rowWi (below_look hw' h0)) ?_; go_big_quiet_want; go_big_quiet_op; go_big_quiet_on)
  (go_big_quiet_want; go_big_quiet_op; first | go_big_quiet_on | (refine ⟨_, fun _ _ => rfl, ?_⟩; go_big_quiet_on))
  (go_big_quiet_want; go_big_quiet_op; first | go_big_quiet_on | (refine ⟨_, fun _ _ => rfl, ?_⟩; go_big_quiet_on))
  (refine wq_row_as rfl (fun w' hw' => two0 (TwoAt.below hw' hT)) ?_; go_big_quiet_want; go_big_quiet_op; go_big_quiet_on)
  (go_big_quiet_want; go_big_quiet_op; refine ⟨_, fun w' hw' => calls_class hw' (has_wi _ _ _ hr.out bx.out true hhx w'), ?_⟩; go_big_quiet_on)
  (go_big_quiet_want; go_big_quiet_op; first | go_big_quiet_on | (refine ⟨_, fun _ _ => rfl, ?_⟩; go_big_quiet_on))
  (go_big_quiet_want; go_big_quiet_op; first | go_big_quiet_on | (refine ⟨_, fun _ _ => rfl, ?_⟩; go_big_quiet_on))
  (refine wq_row_as rfl (fun w' hw' => rowWi (below_look hw' h0)) ?_; go_big_quiet_want; go_big_quiet_op; go_big_quiet_on)
  (go_big_quiet_want; go_big_quiet_op; first | go_big_quiet_on | (refine ⟨_, fun _ _ => rfl, ?_⟩; go_big_quiet_on))
  (go_big_quiet_want; go_big_quiet_op; first | go_big_quiet_on | (refine ⟨_, fun _ _ => rfl, ?_⟩; go_big_quiet_on))
  (refine wq_row_as rfl (fun w' hw' => two1 (TwoAt.below hw' hT)) ?_; go_big_quiet_want; go_big_quiet_op; go_big_quiet_on)
  (go_big_quiet_want; go_big_quiet_op; refine ⟨_, fun w' hw' => calls_class hw' (has_wi _ _ _ hr.out bY.out true hhy w'), ?_⟩; go_big_quiet_on)
  (go_big_quiet_want; go_big_quiet_op; first | go_big_quiet_on | (refine ⟨_, fun _ _ => rfl, ?_⟩; go_big_quiet_on))
  (go_big_quiet_want; go_big_quiet_op; first | go_big_quiet_on | (refine ⟨_, fun _ _ => rfl, ?_⟩; go_big_quiet_on))
  (go_big_quiet_want; go_big_quiet_op; first | go_big_quiet_on | (refine ⟨_, fun _ _ => rfl, ?_⟩; go_big_quiet_on))
  (go_big_quiet_want; go_big_quiet_op; first | go_big_quiet_on | (refine ⟨_, fun _ _ => rfl, ?_⟩; go_big_quiet_on))
  (go_big_quiet_want; go_big_quiet_op; first | go_big_quiet_on | (refine ⟨_, fun _ _ => rfl, ?_⟩; go_big_quiet_on))
  go_big_quiet_skip
  go_big_quiet_skip
  go_big_quiet_skip
  go_big_quiet_skip
  go_big_quiet_skip
  go_big_quiet_skip
  go_big_quiet_skip
  go_big_quiet_skip
  go_big_quiet_skip
  go_big_quiet_skip
  go_big_quiet_skip
  go_big_quiet_skip
  go_big_quiet_skip
  (go_big_quiet_want; go_big_quiet_op; first | go_big_quiet_on | (refine ⟨_, fun _ _ => rfl, ?_⟩; go_big_quiet_on))
  (go_big_quiet_want; go_big_quiet_op; first | go_big_quiet_on | (refine ⟨_, fun _ _ => rfl, ?_⟩; go_big_quiet_on))
  intro w6 hb1
  replace h0 := below_look hb1 h0; replace hT := hT.below hb1; replace hb := hb.trans (hb1.mono hb.size); clear hb1
  go_upto_region 10 with (fail)
  apply wp_region_lit
  refine wl_k rfl (fun K hK => ?_); go_simp; refine hK _ ?_; clear hK K
  refine wl_k rfl (fun K hK => ?_); go_simp; refine hK _ ?_; clear hK K
  refine wl_k rfl (fun K hK => ?_); go_simp; refine hK _ ?_; clear hK K
  refine wl_skip rfl ?_
  simp only [put_lit, List.set_cons_zero, List.set_cons_succ]
  refine wl_skip rfl ?_
  simp only [put_lit, List.set_cons_zero, List.set_cons_succ]
  refine wl_k rfl (fun K hK => ?_); go_simp; refine hK _ ?_; clear hK K
  refine wl_k rfl (fun K hK => ?_); go_simp; refine hK _ ?_; clear hK K
  refine wl_k rfl (fun K hK => ?_); go_simp; refine hK _ ?_; clear hK K
  refine wl_k rfl (fun K hK => ?_); go_simp; refine hK _ ?_; clear hK K
  ((with_reducible apply wl_rowG); exact rfl; exact rfl; exact two1 hT)
  simp only [put_lit, List.set_cons_zero, List.set_cons_succ]
  refine wl_wG rfl (ex_build (D := lv 0) 75 _ rfl (L := []) rfl built_lzero) ?_
  simp only [put_lit, List.set_cons_zero, List.set_cons_succ]
  refine wl_wG rfl (by rw [ex_eql75 (a := y) (b := 0) _ _ _ rfl rfl rfl bY.out (by decide), HQ.out]) ?_
  simp only [put_lit, List.set_cons_zero, List.set_cons_succ]
  refine wl_k rfl (fun K hK => ?_); go_simp; refine hK _ ?_; clear hK K
  go_upto_region 12 with (fail)
  refine wp_region_late 15 14 18 (lv 0) 75 mixed (by kernel_rfl) (by kernel_rfl) ⟨_, rfl, rfl, rfl, ex_alloc75 rfl⟩ ?_
  simp only [List.take_succ_cons, List.take_zero, List.drop_succ_cons, List.drop_zero]
  ((with_reducible apply ws_row); exact rfl; exact rfl; (intro w' hw'; exact rowWi (below_look hw' h0)))
  simp only [put_lit, List.set_cons_zero, List.set_cons_succ]
  ((with_reducible apply ws_row); exact rfl; exact rfl; (intro w' hw'; exact rowWi (below_look hw' h0)))
  simp only [put_lit, List.set_cons_zero, List.set_cons_succ]
  refine ws_k rfl (fun K hK => ?_); go_simp; refine hK _ ?_; clear hK K
  refine ws_k rfl (fun K hK => ?_); go_simp; refine hK _ ?_; clear hK K
  refine ws_k rfl (fun K hK => ?_); go_simp; refine hK _ ?_; clear hK K
  ((with_reducible apply ws_row); exact rfl; exact rfl; (intro w' hw'; exact two0 (TwoAt.below hw' hT)))
  simp only [put_lit, List.set_cons_zero, List.set_cons_succ]
  refine ws_k rfl (fun K hK => ?_); go_simp; refine hK _ ?_; clear hK K
  refine ws_k rfl (fun K hK => ?_); go_simp; refine hK _ ?_; clear hK K
  ((with_reducible apply ws_row); exact rfl; exact rfl; (intro w' hw'; exact two1 (TwoAt.below hw' hT)))
  simp only [put_lit, List.set_cons_zero, List.set_cons_succ]
  refine ws_ck rfl (fun K hK => ?_); go_simp; refine ⟨_, _, ⟨rfl, rfl⟩, hK _ _ ⟨_, fun w' hw' => (hex.out w'), ?_⟩⟩; clear hK K; simp only [put_lit, List.set_cons_zero, List.set_cons_succ]
  refine ws_k rfl (fun K hK => ?_); go_simp; refine hK _ ?_; clear hK K
  refine ws_ck rfl (fun K hK => ?_); go_simp; refine ⟨_, _, ⟨rfl, rfl⟩, hK _ _ ⟨_, fun w' hw' => (bring_wi _ _ _ _ hr.out hz.out _ _ HB.out w'), ?_⟩⟩; clear hK K; simp only [put_lit, List.set_cons_zero, List.set_cons_succ]
  refine ws_k rfl (fun K hK => ?_); go_simp; refine hK _ ?_; clear hK K
  refine ws_k rfl (fun K hK => ?_); go_simp; refine hK _ ?_; clear hK K
  refine ws_k rfl (fun K hK => ?_); go_simp; refine hK _ ?_; clear hK K
  rintro p5 w9 ⟨hb1, hl5, hp5⟩
  have hl6 : w.heap.size ≤ p5 := by have := hb.size; omega
  replace hb := hb.trans (hb1.mono hb.size)
  clear hb1 h0 hT
  simp only [put_lit, List.set_cons_zero, List.set_cons_succ]
  ((with_reducible apply wl_put75); exact rfl; exact rfl; exact hp5; intro w10 hbx hk hq; replace hb := hbx _ _ (by omega) hb; clear hp5; have hp5 := hq; clear hbx hk hq)
  refine wl_k rfl (fun K hK => ?_); go_simp; refine hK _ ?_; clear hK K
  refine onlyN_nil ?_
  go_upto_region 13 with (fail)
  by_cases he : er = 0
  · have HR := Lib.hid (HR0.out he)
    subst he
    go_upto_region 15 with (fail)
    apply wp_region_lit
    ((with_reducible apply wl_rowG); exact rfl; exact rfl; (first | exact rowL (by with_reducible assumption) | exact rowD (by with_reducible assumption) | exact rowR (by with_reducible assumption)))
    refine wl_ck rfl (fun K hK => ?_); go_simp; refine ⟨_, _, ⟨rfl, rfl⟩, hK _ _ ⟨_, text_any _ hrb.out _, ?_⟩⟩; clear hK K; rintro e w11 ⟨rfl, hb1⟩; refine ⟨_, rfl, ?_⟩; simp only [put_lit, List.set_cons_zero, List.set_cons_succ]
    replace hb := hb.trans (hb1.mono hb.size); clear hb1
    go_wp2_with fail
    exact bodyPost_ret (results_tmp2 rfl _ _ _) rfl ⟨by rw [HR.out]; rfl, hb⟩
  · have HR := Lib.hid (HR1.out he)
    go_wp2_with fail
    exact bodyPost_ret (results_tmp2 rfl _ _ _) rfl ⟨by rw [HR.out]; rfl, hb⟩
set_option maxHeartbeats 1000000 in
theorem Do_div2 (op a b md : ByteArray) (bits : Int) (s : Bool) (x y z r er : Int) (hx : rdm a = some x) (hy : rdm b = some y) (hr : Hid (isRight bits = true)) (hm : Hid (isModeL md.data.toList = true)) (ho : Hid (isOpL op.data.toList = true))
    (hs1 : (op.toList == [60, 60]) = false) (hs2 : (op.toList == [62, 62]) = false) (hhx : Hid (hasI bits s x = true)) (hhy : Hid (hasI bits s y = true))
    (hd1 : (op.toList == [47]) = false) (hd2 : (op.toList == [37]) = true) (HQ : Hid (decide (y = 0) = false))
    (hex : Hid (∀ w, Calls Try.prog 60 #[.agg (wi bits s), .string op, .agg (lv x), .agg (lv y)] w fun e w' => e = .returned (.agg (lv z)) ∧ Below w.heap.size w w'))
    (hz : Hid (z.natAbs ≤ 100000000000000000000000000000000000000000000000000000000000)) (HB : Hid (bringW bits.toNat s md.toList z = (r, er))) (hrb : Hid (r.natAbs < 10 ^ 64))
    (R : Ending) (HR0 : Hid (er = 0 → R = .returned (.tuple #[.string ⟨(txt r).toArray⟩, .int .i64 0]))) (HR1 : Hid (er ≠ 0 → R = .returned (.tuple #[.string ⟨#[]⟩, .int .i64 er]))) (w : World) :
    Calls Try.prog 22 #[.string op, .string a, .string b, .int .i64 bits, .bool s, .string md] w fun e w' => e = R ∧ Below w.heap.size w w' := by
  have bx := Lib.hid (rdm_bd hx)
  have bY := Lib.hid (rdm_bd hy)
  go_enter Try.func22, Try.ntmps22
  go_wp2_with (go_at_call 52; refine (reads2_ok w.heap.size _ a b x y hx hy _ (ha_new rfl)).mono ?_)
  rintro e w1 ⟨g, cap, rfl, hgl, hT, hb⟩
  replace hb := ((Below.refl w.heap.size w).alloc (Nat.le_refl _) _).trans (hb.mono (by simp))
  have hgl2 : w.heap.size ≤ g := by simp at hgl; omega
  clear hgl
  go_upto_region 5 with (fail)
  have ltg := hT.lt
  refine wp_world (fun W => W.heap[w1.heap.size]? = some (.cells (wi bits s) 68 (0, 0)) ∧ TwoAt W g x y ∧ Below w.heap.size w W) ⟨ha_new rfl, hT.below ((Below.refl _ _).alloc (Nat.le_refl _) _), hb.alloc hb.size _⟩ ?_
  obtain ⟨p, hp⟩ : ∃ p, p = w1.heap.size := ⟨_, rfl⟩
  rw [← hp] at ltg ⊢
  have hpl : w.heap.size ≤ p := by rw [hp]; exact hb.size
  clear hT hb hp
  rintro W ⟨h0, hT, hb⟩
  apply wp_region_lit
  ((with_reducible apply wl_rowG); exact rfl; exact rfl; exact rowWi (by with_reducible assumption))
  refine wl_ck rfl (fun K hK => ?_); go_simp; refine ⟨_, _, ⟨rfl, rfl⟩, hK _ _ ⟨_, right_any _ _ true (Lib.hid hr.out.symm) _, ?_⟩⟩; clear hK K; rintro e w2 ⟨rfl, hb1⟩; refine ⟨_, rfl, ?_⟩; simp only [put_lit, List.set_cons_zero, List.set_cons_succ]
  replace h0 := below_look hb1 h0; replace hT := hT.below hb1; replace hb := hb.trans (hb1.mono hb.size); clear hb1
  refine wl_k rfl (fun K hK => ?_); go_simp; refine hK _ ?_; clear hK K
  refine wl_k rfl (fun K hK => ?_); go_simp; refine hK _ ?_; clear hK K
  refine wl_k rfl (fun K hK => ?_); go_simp; refine hK _ ?_; clear hK K
  refine wl_ck rfl (fun K hK => ?_); go_simp; refine ⟨_, _, ⟨rfl, rfl⟩, hK _ _ ⟨_, isMode_any _ true (Lib.hid hm.out.symm) _, ?_⟩⟩; clear hK K; rintro e w2 ⟨rfl, hb1⟩; refine ⟨_, rfl, ?_⟩; simp only [put_lit, List.set_cons_zero, List.set_cons_succ]
  replace h0 := below_look hb1 h0; replace hT := hT.below hb1; replace hb := hb.trans (hb1.mono hb.size); clear hb1
  refine wl_k rfl (fun K hK => ?_); go_simp; refine hK _ ?_; clear hK K
  refine wl_k rfl (fun K hK => ?_); go_simp; refine hK _ ?_; clear hK K
  refine wl_k rfl (fun K hK => ?_); go_simp; refine hK _ ?_; clear hK K
  refine wl_wG rfl (ex_ops rfl (fun _ => rfl)) ?_
  simp only [put_lit, List.set_cons_zero, List.set_cons_succ]
  have hb1 := (Below.refl w2.heap.size w2).alloc (Nat.le_refl _) (.cells opCells 9)
  have hg5 : (w2.alloc (.cells opCells 9)).heap[w2.heap.size]? = some (.cells opCells 9 (0, 0)) := ha_new rfl
  replace h0 := below_look hb1 h0; replace hT := hT.below hb1; replace hb := hb.trans (hb1.mono hb.size); clear hb1
  refine wl_k rfl (fun K hK => ?_); go_simp; refine hK _ ?_; clear hK K
  refine wl_ck rfl (fun K hK => ?_); go_simp; refine ⟨_, _, ⟨rfl, rfl⟩, hK _ _ ⟨_, contains_ops _ _ true (Lib.hid ho.out.symm) _ hg5, ?_⟩⟩; clear hK K; rintro e w4 ⟨rfl, hb1⟩; refine ⟨_, rfl, ?_⟩; simp only [put_lit, List.set_cons_zero, List.set_cons_succ]
  replace h0 := below_look hb1 h0; replace hT := hT.below hb1; replace hb := hb.trans (hb1.mono hb.size); clear hb1
  clear hg5
  refine wl_k rfl (fun K hK => ?_); go_simp; refine hK _ ?_; clear hK K
  refine wl_k rfl (fun K hK => ?_); go_simp; refine hK _ ?_; clear hK K
  go_upto_region 8 with (fail)
  have hdum : (2 : Nat) ≤ 2 := Nat.le_refl 2
  refine wp_region_belowAll mixed (by kernel_rfl) ?_
  (refine wq_row_as rfl (fun w' hw' => rowWi (below_look hw' h0)) ?_; go_big_quiet_want; go_big_quiet_op; go_big_quiet_on)
  (go_big_quiet_want; go_big_quiet_op; first | go_big_quiet_on | (refine ⟨_, fun _ _ => rfl, ?_⟩; go_big_quiet_on))
  (go_big_quiet_want; go_big_quiet_op; first | go_big_quiet_on | (refine ⟨_, fun _ _ => rfl, ?_⟩; go_big_quiet_on))
  (refine wq_row_as rfl (fun w' hw' => two0 (TwoAt.below hw' hT)) ?_; go_big_quiet_want; go_big_quiet_op; go_big_quiet_on)
  (go_big_quiet_want; go_big_quiet_op; refine ⟨_, fun w' hw' => calls_class hw' (has_wi _ _ _ hr.out bx.out true hhx w'), ?_⟩; go_big_quiet_on)
  (go_big_quiet_want; go_big_quiet_op; first | go_big_quiet_on | (refine ⟨_, fun _ _ => rfl, ?_⟩; go_big_quiet_on))
  (go_big_quiet_want; go_big_quiet_op; first | go_big_quiet_on | (refine ⟨_, fun _ _ => rfl, ?_⟩; go_big_quiet_on))
  (refine wq_row_as rfl (fun w' hw' => rowWi (below_look hw' h0)) ?_; go_big_quiet_want; go_big_quiet_op; go_big_quiet_on)
  (go_big_quiet_want; go_big_quiet_op; first | go_big_quiet_on | (refine ⟨_, fun _ _ => rfl, ?_⟩; go_big_quiet_on))
  (go_big_quiet_want; go_big_quiet_op; first | go_big_quiet_on | (refine ⟨_, fun _ _ => rfl, ?_⟩; go_big_quiet_on))
  (refine wq_row_as rfl (fun w' hw' => two1 (TwoAt.below hw' hT)) ?_; go_big_quiet_want; go_big_quiet_op; go_big_quiet_on)
  (go_big_quiet_want; go_big_quiet_op; refine ⟨_, fun w' hw' => calls_class hw' (has_wi _ _ _ hr.out bY.out true hhy w'), ?_⟩; go_big_quiet_on)
  (go_big_quiet_want; go_big_quiet_op; first | go_big_quiet_on | (refine ⟨_, fun _ _ => rfl, ?_⟩; go_big_quiet_on))
  (go_big_quiet_want; go_big_quiet_op; first | go_big_quiet_on | (refine ⟨_, fun _ _ => rfl, ?_⟩; go_big_quiet_on))
  (go_big_quiet_want; go_big_quiet_op; first | go_big_quiet_on | (refine ⟨_, fun _ _ => rfl, ?_⟩; go_big_quiet_on))
  (go_big_quiet_want; go_big_quiet_op; first | go_big_quiet_on | (refine ⟨_, fun _ _ => rfl, ?_⟩; go_big_quiet_on))
  (go_big_quiet_want; go_big_quiet_op; first | go_big_quiet_on | (refine ⟨_, fun _ _ => rfl, ?_⟩; go_big_quiet_on))
  go_big_quiet_skip
  go_big_quiet_skip
  go_big_quiet_skip
  go_big_quiet_skip
  go_big_quiet_skip
  go_big_quiet_skip
  go_big_quiet_skip
  go_big_quiet_skip
  go_big_quiet_skip
  go_big_quiet_skip
  go_big_quiet_skip
  go_big_quiet_skip
  go_big_quiet_skip
  (go_big_quiet_want; go_big_quiet_op; first | go_big_quiet_on | (refine ⟨_, fun _ _ => rfl, ?_⟩; go_big_quiet_on))
  (go_big_quiet_want; go_big_quiet_op; first | go_big_quiet_on | (refine ⟨_, fun _ _ => rfl, ?_⟩; go_big_quiet_on))
  intro w6 hb1
  replace h0 := below_look hb1 h0; replace hT := hT.below hb1; replace hb := hb.trans (hb1.mono hb.size); clear hb1
  go_upto_region 10 with (fail)
  apply wp_region_lit
  refine wl_k rfl (fun K hK => ?_); go_simp; refine hK _ ?_; clear hK K
  refine wl_k rfl (fun K hK => ?_); go_simp; refine hK _ ?_; clear hK K
  refine wl_k rfl (fun K hK => ?_); go_simp; refine hK _ ?_; clear hK K
  refine wl_k rfl (fun K hK => ?_); go_simp; refine hK _ ?_; clear hK K
  refine wl_k rfl (fun K hK => ?_); go_simp; refine hK _ ?_; clear hK K
  refine wl_k rfl (fun K hK => ?_); go_simp; refine hK _ ?_; clear hK K
  refine wl_k rfl (fun K hK => ?_); go_simp; refine hK _ ?_; clear hK K
  refine wl_k rfl (fun K hK => ?_); go_simp; refine hK _ ?_; clear hK K
  refine wl_k rfl (fun K hK => ?_); go_simp; refine hK _ ?_; clear hK K
  ((with_reducible apply wl_rowG); exact rfl; exact rfl; exact two1 hT)
  simp only [put_lit, List.set_cons_zero, List.set_cons_succ]
  refine wl_wG rfl (ex_build (D := lv 0) 75 _ rfl (L := []) rfl built_lzero) ?_
  simp only [put_lit, List.set_cons_zero, List.set_cons_succ]
  refine wl_wG rfl (by rw [ex_eql75 (a := y) (b := 0) _ _ _ rfl rfl rfl bY.out (by decide), HQ.out]) ?_
  simp only [put_lit, List.set_cons_zero, List.set_cons_succ]
  refine wl_k rfl (fun K hK => ?_); go_simp; refine hK _ ?_; clear hK K
  go_upto_region 12 with (fail)
  refine wp_region_late 15 14 18 (lv 0) 75 mixed (by kernel_rfl) (by kernel_rfl) ⟨_, rfl, rfl, rfl, ex_alloc75 rfl⟩ ?_
  simp only [List.take_succ_cons, List.take_zero, List.drop_succ_cons, List.drop_zero]
  ((with_reducible apply ws_row); exact rfl; exact rfl; (intro w' hw'; exact rowWi (below_look hw' h0)))
  simp only [put_lit, List.set_cons_zero, List.set_cons_succ]
  ((with_reducible apply ws_row); exact rfl; exact rfl; (intro w' hw'; exact rowWi (below_look hw' h0)))
  simp only [put_lit, List.set_cons_zero, List.set_cons_succ]
  refine ws_k rfl (fun K hK => ?_); go_simp; refine hK _ ?_; clear hK K
  refine ws_k rfl (fun K hK => ?_); go_simp; refine hK _ ?_; clear hK K
  refine ws_k rfl (fun K hK => ?_); go_simp; refine hK _ ?_; clear hK K
  ((with_reducible apply ws_row); exact rfl; exact rfl; (intro w' hw'; exact two0 (TwoAt.below hw' hT)))
  simp only [put_lit, List.set_cons_zero, List.set_cons_succ]
  refine ws_k rfl (fun K hK => ?_); go_simp; refine hK _ ?_; clear hK K
  refine ws_k rfl (fun K hK => ?_); go_simp; refine hK _ ?_; clear hK K
  ((with_reducible apply ws_row); exact rfl; exact rfl; (intro w' hw'; exact two1 (TwoAt.below hw' hT)))
  simp only [put_lit, List.set_cons_zero, List.set_cons_succ]
  refine ws_ck rfl (fun K hK => ?_); go_simp; refine ⟨_, _, ⟨rfl, rfl⟩, hK _ _ ⟨_, fun w' hw' => (hex.out w'), ?_⟩⟩; clear hK K; simp only [put_lit, List.set_cons_zero, List.set_cons_succ]
  refine ws_k rfl (fun K hK => ?_); go_simp; refine hK _ ?_; clear hK K
  refine ws_ck rfl (fun K hK => ?_); go_simp; refine ⟨_, _, ⟨rfl, rfl⟩, hK _ _ ⟨_, fun w' hw' => (bring_wi _ _ _ _ hr.out hz.out _ _ HB.out w'), ?_⟩⟩; clear hK K; simp only [put_lit, List.set_cons_zero, List.set_cons_succ]
  refine ws_k rfl (fun K hK => ?_); go_simp; refine hK _ ?_; clear hK K
  refine ws_k rfl (fun K hK => ?_); go_simp; refine hK _ ?_; clear hK K
  refine ws_k rfl (fun K hK => ?_); go_simp; refine hK _ ?_; clear hK K
  rintro p5 w9 ⟨hb1, hl5, hp5⟩
  have hl6 : w.heap.size ≤ p5 := by have := hb.size; omega
  replace hb := hb.trans (hb1.mono hb.size)
  clear hb1 h0 hT
  simp only [put_lit, List.set_cons_zero, List.set_cons_succ]
  ((with_reducible apply wl_put75); exact rfl; exact rfl; exact hp5; intro w10 hbx hk hq; replace hb := hbx _ _ (by omega) hb; clear hp5; have hp5 := hq; clear hbx hk hq)
  refine wl_k rfl (fun K hK => ?_); go_simp; refine hK _ ?_; clear hK K
  refine onlyN_nil ?_
  go_upto_region 13 with (fail)
  by_cases he : er = 0
  · have HR := Lib.hid (HR0.out he)
    subst he
    go_upto_region 15 with (fail)
    apply wp_region_lit
    ((with_reducible apply wl_rowG); exact rfl; exact rfl; (first | exact rowL (by with_reducible assumption) | exact rowD (by with_reducible assumption) | exact rowR (by with_reducible assumption)))
    refine wl_ck rfl (fun K hK => ?_); go_simp; refine ⟨_, _, ⟨rfl, rfl⟩, hK _ _ ⟨_, text_any _ hrb.out _, ?_⟩⟩; clear hK K; rintro e w11 ⟨rfl, hb1⟩; refine ⟨_, rfl, ?_⟩; simp only [put_lit, List.set_cons_zero, List.set_cons_succ]
    replace hb := hb.trans (hb1.mono hb.size); clear hb1
    go_wp2_with fail
    exact bodyPost_ret (results_tmp2 rfl _ _ _) rfl ⟨by rw [HR.out]; rfl, hb⟩
  · have HR := Lib.hid (HR1.out he)
    go_wp2_with fail
    exact bodyPost_ret (results_tmp2 rfl _ _ _) rfl ⟨by rw [HR.out]; rfl, hb⟩
end Go.Proofs.Ytclainfdeghgnaa
