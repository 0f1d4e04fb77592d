/- An operation on two texts: the result. -/
import Derived.Test.YtclainfdeghgnaaW21
import Derived.Outline
namespace Go.Proofs.Ytclainfdeghgnaa
open Go.RowKit Go.Proofs.Ytclainfdeghgnaa.Nm

set_option maxHeartbeats 1000000 in
theorem Do_zero1 (op a b md : ByteArray) (bits : Int) (s : Bool) (x : Int) (hx : rdm a = some x) (hy : rdm b = some 0) (hr : Hid (isRight bits = true)) (hm : Hid (isModeL md.data.toList = true)) (ho : Hid (isOpL op.data.toList = true))
    (hs1 : (op.toList == [60, 60]) = false) (hs2 : (op.toList == [62, 62]) = false) (hhx : Hid (hasI bits s x = true)) (hhy : Hid (hasI bits s 0 = true))
    (hd1 : (op.toList == [47]) = true) (w : World) :
    Calls Try.prog 22 #[.string op, .string a, .string b, .int .i64 bits, .bool s, .string md] w fun e w' => e = .returned (.tuple #[.string ⟨#[]⟩, .int .i64 70]) ∧ Below w.heap.size w w' := by
  have bx := Lib.hid (rdm_bd hx)
  have bY := Lib.hid (rdm_bd hy)
  obtain ⟨y, hy0⟩ : ∃ y : Int, y = 0 := ⟨_, rfl⟩
  rw [← hy0] at hy hhy bY
  have HQ : Hid (decide (y = 0) = true) := Lib.hid (by simpa using hy0)
  clear hy0
  go_enter Try.func22, Try.ntmps22
  go_wp2_with (go_at_call 52; refine (reads2_ok w.heap.size _ a b x y hx hy _ (ha_new rfl)).mono ?_)
  rintro e w1 ⟨g, cap, rfl, hgl, hT, hb⟩
  replace hb := ((Below.refl w.heap.size w).alloc (Nat.le_refl _) _).trans (hb.mono (by simp))
  have hgl2 : w.heap.size ≤ g := by simp at hgl; omega
  clear hgl
  go_upto_region 5 with (fail)
  have ltg := hT.lt
  refine wp_world (fun W => W.heap[w1.heap.size]? = some (.cells (wi bits s) 68 (0, 0)) ∧ TwoAt W g x y ∧ Below w.heap.size w W) ⟨ha_new rfl, hT.below ((Below.refl _ _).alloc (Nat.le_refl _) _), hb.alloc hb.size _⟩ ?_
  obtain ⟨p, hp⟩ : ∃ p, p = w1.heap.size := ⟨_, rfl⟩
  rw [← hp] at ltg ⊢
  have hpl : w.heap.size ≤ p := by rw [hp]; exact hb.size
  clear hT hb hp
  rintro W ⟨h0, hT, hb⟩
  apply wp_region_lit
  ((with_reducible apply wl_rowG); exact rfl; exact rfl; exact rowWi (by with_reducible assumption))
  refine wl_ck rfl (fun K hK => ?_); go_simp; refine ⟨_, _, ⟨rfl, rfl⟩, hK _ _ ⟨_, right_any _ _ true (Lib.hid hr.out.symm) _, ?_⟩⟩; clear hK K; rintro e w2 ⟨rfl, hb1⟩; refine ⟨_, rfl, ?_⟩; simp only [put_lit, List.set_cons_zero, List.set_cons_succ]
  replace h0 := below_look hb1 h0; replace hT := hT.below hb1; replace hb := hb.trans (hb1.mono hb.size); clear hb1
  refine wl_k rfl (fun K hK => ?_); go_simp; refine hK _ ?_; clear hK K
  refine wl_k rfl (fun K hK => ?_); go_simp; refine hK _ ?_; clear hK K
  refine wl_k rfl (fun K hK => ?_); go_simp; refine hK _ ?_; clear hK K
  refine wl_ck rfl (fun K hK => ?_); go_simp; refine ⟨_, _, ⟨rfl, rfl⟩, hK _ _ ⟨_, isMode_any _ true (Lib.hid hm.out.symm) _, ?_⟩⟩; clear hK K; rintro e w2 ⟨rfl, hb1⟩; refine ⟨_, rfl, ?_⟩; simp only [put_lit, List.set_cons_zero, List.set_cons_succ]
  replace h0 := below_look hb1 h0; replace hT := hT.below hb1; replace hb := hb.trans (hb1.mono hb.size); clear hb1
  refine wl_k rfl (fun K hK => ?_); go_simp; refine hK _ ?_; clear hK K
  refine wl_k rfl (fun K hK => ?_); go_simp; refine hK _ ?_; clear hK K
  refine wl_k rfl (fun K hK => ?_); go_simp; refine hK _ ?_; clear hK K
  refine wl_wG rfl (ex_ops rfl (fun _ => rfl)) ?_
  simp only [put_lit, List.set_cons_zero, List.set_cons_succ]
  have hb1 := (Below.refl w2.heap.size w2).alloc (Nat.le_refl _) (.cells opCells 9)
  have hg5 : (w2.alloc (.cells opCells 9)).heap[w2.heap.size]? = some (.cells opCells 9 (0, 0)) := ha_new rfl
  replace h0 := below_look hb1 h0; replace hT := hT.below hb1; replace hb := hb.trans (hb1.mono hb.size); clear hb1
  refine wl_k rfl (fun K hK => ?_); go_simp; refine hK _ ?_; clear hK K
  refine wl_ck rfl (fun K hK => ?_); go_simp; refine ⟨_, _, ⟨rfl, rfl⟩, hK _ _ ⟨_, contains_ops _ _ true (Lib.hid ho.out.symm) _ hg5, ?_⟩⟩; clear hK K; rintro e w4 ⟨rfl, hb1⟩; refine ⟨_, rfl, ?_⟩; simp only [put_lit, List.set_cons_zero, List.set_cons_succ]
  replace h0 := below_look hb1 h0; replace hT := hT.below hb1; replace hb := hb.trans (hb1.mono hb.size); clear hb1
  clear hg5
  refine wl_k rfl (fun K hK => ?_); go_simp; refine hK _ ?_; clear hK K
  refine wl_k rfl (fun K hK => ?_); go_simp; refine hK _ ?_; clear hK K
  go_upto_region 8 with (fail)
  have hdum : (2 : Nat) ≤ 2 := Nat.le_refl 2
  refine wp_region_belowAll mixed (by kernel_rfl) ?_
  (refine wq_row_as rfl (fun w' hw' => rowWi (below_look hw' h0)) ?_; go_big_quiet_want; go_big_quiet_op; go_big_quiet_on)
  (go_big_quiet_want; go_big_quiet_op; first | go_big_quiet_on | (refine ⟨_, fun _ _ => rfl, ?_⟩; go_big_quiet_on))
  (go_big_quiet_want; go_big_quiet_op; first | go_big_quiet_on | (refine ⟨_, fun _ _ => rfl, ?_⟩; go_big_quiet_on))
  (refine wq_row_as rfl (fun w' hw' => two0 (TwoAt.below hw' hT)) ?_; go_big_quiet_want; go_big_quiet_op; go_big_quiet_on)
  (go_big_quiet_want; go_big_quiet_op; refine ⟨_, fun w' hw' => calls_class hw' (has_wi _ _ _ hr.out bx.out true hhx w'), ?_⟩; go_big_quiet_on)
  (go_big_quiet_want; go_big_quiet_op; first | go_big_quiet_on | (refine ⟨_, fun _ _ => rfl, ?_⟩; go_big_quiet_on))
  (go_big_quiet_want; go_big_quiet_op; first | go_big_quiet_on | (refine ⟨_, fun _ _ => rfl, ?_⟩; go_big_quiet_on))
  (refine wq_row_as rfl (fun w' hw' => rowWi (below_look hw' h0)) ?_; go_big_quiet_want; go_big_quiet_op; go_big_quiet_on)
  (go_big_quiet_want; go_big_quiet_op; first | go_big_quiet_on | (refine ⟨_, fun _ _ => rfl, ?_⟩; go_big_quiet_on))
  (go_big_quiet_want; go_big_quiet_op; first | go_big_quiet_on | (refine ⟨_, fun _ _ => rfl, ?_⟩; go_big_quiet_on))
  (refine wq_row_as rfl (fun w' hw' => two1 (TwoAt.below hw' hT)) ?_; go_big_quiet_want; go_big_quiet_op; go_big_quiet_on)
  (go_big_quiet_want; go_big_quiet_op; refine ⟨_, fun w' hw' => calls_class hw' (has_wi _ _ _ hr.out bY.out true hhy w'), ?_⟩; go_big_quiet_on)
  (go_big_quiet_want; go_big_quiet_op; first | go_big_quiet_on | (refine ⟨_, fun _ _ => rfl, ?_⟩; go_big_quiet_on))
  (go_big_quiet_want; go_big_quiet_op; first | go_big_quiet_on | (refine ⟨_, fun _ _ => rfl, ?_⟩; go_big_quiet_on))
  (go_big_quiet_want; go_big_quiet_op; first | go_big_quiet_on | (refine ⟨_, fun _ _ => rfl, ?_⟩; go_big_quiet_on))
  (go_big_quiet_want; go_big_quiet_op; first | go_big_quiet_on | (refine ⟨_, fun _ _ => rfl, ?_⟩; go_big_quiet_on))
  (go_big_quiet_want; go_big_quiet_op; first | go_big_quiet_on | (refine ⟨_, fun _ _ => rfl, ?_⟩; go_big_quiet_on))
  go_big_quiet_skip
  go_big_quiet_skip
  go_big_quiet_skip
  go_big_quiet_skip
  go_big_quiet_skip
  go_big_quiet_skip
  go_big_quiet_skip
  go_big_quiet_skip
  go_big_quiet_skip
  go_big_quiet_skip
  go_big_quiet_skip
  go_big_quiet_skip
  go_big_quiet_skip
  (go_big_quiet_want; go_big_quiet_op; first | go_big_quiet_on | (refine ⟨_, fun _ _ => rfl, ?_⟩; go_big_quiet_on))
  (go_big_quiet_want; go_big_quiet_op; first | go_big_quiet_on | (refine ⟨_, fun _ _ => rfl, ?_⟩; go_big_quiet_on))
  intro w6 hb1
  replace h0 := below_look hb1 h0; replace hT := hT.below hb1; replace hb := hb.trans (hb1.mono hb.size); clear hb1
  go_upto_region 10 with (fail)
  apply wp_region_lit
  refine wl_k rfl (fun K hK => ?_); go_simp; refine hK _ ?_; clear hK K
  refine wl_k rfl (fun K hK => ?_); go_simp; refine hK _ ?_; clear hK K
  refine wl_k rfl (fun K hK => ?_); go_simp; refine hK _ ?_; clear hK K
  refine wl_skip rfl ?_
  simp only [put_lit, List.set_cons_zero, List.set_cons_succ]
  refine wl_skip rfl ?_
  simp only [put_lit, List.set_cons_zero, List.set_cons_succ]
  refine wl_k rfl (fun K hK => ?_); go_simp; refine hK _ ?_; clear hK K
  refine wl_k rfl (fun K hK => ?_); go_simp; refine hK _ ?_; clear hK K
  refine wl_k rfl (fun K hK => ?_); go_simp; refine hK _ ?_; clear hK K
  refine wl_k rfl (fun K hK => ?_); go_simp; refine hK _ ?_; clear hK K
  ((with_reducible apply wl_rowG); exact rfl; exact rfl; exact two1 hT)
  simp only [put_lit, List.set_cons_zero, List.set_cons_succ]
  refine wl_wG rfl (ex_build (D := lv 0) 75 _ rfl (L := []) rfl built_lzero) ?_
  simp only [put_lit, List.set_cons_zero, List.set_cons_succ]
  refine wl_wG rfl (by rw [ex_eql75 (a := y) (b := 0) _ _ _ rfl rfl rfl bY.out (by decide), HQ.out]) ?_
  simp only [put_lit, List.set_cons_zero, List.set_cons_succ]
  refine wl_k rfl (fun K hK => ?_); go_simp; refine hK _ ?_; clear hK K
  go_wp2_with fail
  exact bodyPost_ret (results_tmp2 rfl _ _ _) rfl ⟨rfl, hb⟩
set_option maxHeartbeats 1000000 in
theorem Do_zero2 (op a b md : ByteArray) (bits : Int) (s : Bool) (x : Int) (hx : rdm a = some x) (hy : rdm b = some 0) (hr : Hid (isRight bits = true)) (hm : Hid (isModeL md.data.toList = true)) (ho : Hid (isOpL op.data.toList = true))
    (hs1 : (op.toList == [60, 60]) = false) (hs2 : (op.toList == [62, 62]) = false) (hhx : Hid (hasI bits s x = true)) (hhy : Hid (hasI bits s 0 = true))
    (hd1 : (op.toList == [47]) = false) (hd2 : (op.toList == [37]) = true) (w : World) :
    Calls Try.prog 22 #[.string op, .string a, .string b, .int .i64 bits, .bool s, .string md] w fun e w' => e = .returned (.tuple #[.string ⟨#[]⟩, .int .i64 70]) ∧ Below w.heap.size w w' := by
  have bx := Lib.hid (rdm_bd hx)
  have bY := Lib.hid (rdm_bd hy)
  obtain ⟨y, hy0⟩ : ∃ y : Int, y = 0 := ⟨_, rfl⟩
  rw [← hy0] at hy hhy bY
  have HQ : Hid (decide (y = 0) = true) := Lib.hid (by simpa using hy0)
  clear hy0
  go_enter Try.func22, Try.ntmps22
  go_wp2_with (go_at_call 52; refine (reads2_ok w.heap.size _ a b x y hx hy _ (ha_new rfl)).mono ?_)
  rintro e w1 ⟨g, cap, rfl, hgl, hT, hb⟩
  replace hb := ((Below.refl w.heap.size w).alloc (Nat.le_refl _) _).trans (hb.mono (by simp))
  have hgl2 : w.heap.size ≤ g := by simp at hgl; omega
  clear hgl
  go_upto_region 5 with (fail)
  have ltg := hT.lt
  refine wp_world (fun W => W.heap[w1.heap.size]? = some (.cells (wi bits s) 68 (0, 0)) ∧ TwoAt W g x y ∧ Below w.heap.size w W) ⟨ha_new rfl, hT.below ((Below.refl _ _).alloc (Nat.le_refl _) _), hb.alloc hb.size _⟩ ?_
  obtain ⟨p, hp⟩ : ∃ p, p = w1.heap.size := ⟨_, rfl⟩
  rw [← hp] at ltg ⊢
  have hpl : w.heap.size ≤ p := by rw [hp]; exact hb.size
  clear hT hb hp
  rintro W ⟨h0, hT, hb⟩
  apply wp_region_lit
  ((with_reducible apply wl_rowG); exact rfl; exact rfl; exact rowWi (by with_reducible assumption))
  refine wl_ck rfl (fun K hK => ?_); go_simp; refine ⟨_, _, ⟨rfl, rfl⟩, hK _ _ ⟨_, right_any _ _ true (Lib.hid hr.out.symm) _, ?_⟩⟩; clear hK K; rintro e w2 ⟨rfl, hb1⟩; refine ⟨_, rfl, ?_⟩; simp only [put_lit, List.set_cons_zero, List.set_cons_succ]
  replace h0 := below_look hb1 h0; replace hT := hT.below hb1; replace hb := hb.trans (hb1.mono hb.size); clear hb1
  refine wl_k rfl (fun K hK => ?_); go_simp; refine hK _ ?_; clear hK K
  refine wl_k rfl (fun K hK => ?_); go_simp; refine hK _ ?_; clear hK K
  refine wl_k rfl (fun K hK => ?_); go_simp; refine hK _ ?_; clear hK K
  refine wl_ck rfl (fun K hK => ?_); go_simp; refine ⟨_, _, ⟨rfl, rfl⟩, hK _ _ ⟨_, isMode_any _ true (Lib.hid hm.out.symm) _, ?_⟩⟩; clear hK K; rintro e w2 ⟨rfl, hb1⟩; refine ⟨_, rfl, ?_⟩; simp only [put_lit, List.set_cons_zero, List.set_cons_succ]
  replace h0 := below_look hb1 h0; replace hT := hT.below hb1; replace hb := hb.trans (hb1.mono hb.size); clear hb1
  refine wl_k rfl (fun K hK => ?_); go_simp; refine hK _ ?_; clear hK K
  refine wl_k rfl (fun K hK => ?_); go_simp; refine hK _ ?_; clear hK K
  refine wl_k rfl (fun K hK => ?_); go_simp; refine hK _ ?_; clear hK K
  refine wl_wG rfl (ex_ops rfl (fun _ => rfl)) ?_
  simp only [put_lit, List.set_cons_zero, List.set_cons_succ]
  have hb1 := (Below.refl w2.heap.size w2).alloc (Nat.le_refl _) (.cells opCells 9)
  have hg5 : (w2.alloc (.cells opCells 9)).heap[w2.heap.size]? = some (.cells opCells 9 (0, 0)) := ha_new rfl
  replace h0 := below_look hb1 h0; replace hT := hT.below hb1; replace hb := hb.trans (hb1.mono hb.size); clear hb1
  refine wl_k rfl (fun K hK => ?_); go_simp; refine hK _ ?_; clear hK K
  refine wl_ck rfl (fun K hK => ?_); go_simp; refine ⟨_, _, ⟨rfl, rfl⟩, hK _ _ ⟨_, contains_ops _ _ true (Lib.hid ho.out.symm) _ hg5, ?_⟩⟩; clear hK K; rintro e w4 ⟨rfl, hb1⟩; refine ⟨_, rfl, ?_⟩; simp only [put_lit, List.set_cons_zero, List.set_cons_succ]
  replace h0 := below_look hb1 h0; replace hT := hT.below hb1; replace hb := hb.trans (hb1.mono hb.size); clear hb1
  clear hg5
  refine wl_k rfl (fun K hK => ?_); go_simp; refine hK _ ?_; clear hK K
  refine wl_k rfl (fun K hK => ?_); go_simp; refine hK _ ?_; clear hK K
  go_upto_region 8 with (fail)
  have hdum : (2 : Nat) ≤ 2 := Nat.le_refl 2
  refine wp_region_belowAll mixed (by kernel_rfl) ?_
  (refine wq_row_as rfl (fun w' hw' => rowWi (below_look hw' h0)) ?_; go_big_quiet_want; go_big_quiet_op; go_big_quiet_on)
  (go_big_quiet_want; go_big_quiet_op; first | go_big_quiet_on | (refine ⟨_, fun _ _ => rfl, ?_⟩; go_big_quiet_on))
  (go_big_quiet_want; go_big_quiet_op; first | go_big_quiet_on | (refine ⟨_, fun _ _ => rfl, ?_⟩; go_big_quiet_on))
  (refine wq_row_as rfl (fun w' hw' => two0 (TwoAt.below hw' hT)) ?_; go_big_quiet_want; go_big_quiet_op; go_big_quiet_on)
  (go_big_quiet_want; go_big_quiet_op; refine ⟨_, fun w' hw' => calls_class hw' (has_wi _ _ _ hr.out bx.out true hhx w'), ?_⟩; go_big_quiet_on)
  (go_big_quiet_want; go_big_quiet_op; first | go_big_quiet_on | (refine ⟨_, fun _ _ => rfl, ?_⟩; go_big_quiet_on))
  (go_big_quiet_want; go_big_quiet_op; first | go_big_quiet_on | (refine ⟨_, fun _ _ => rfl, ?_⟩; go_big_quiet_on))
  (refine wq_row_as rfl (fun w' hw' => rowWi (below_look hw' h0)) ?_; go_big_quiet_want; go_big_quiet_op; go_big_quiet_on)
  (go_big_quiet_want; go_big_quiet_op; first | go_big_quiet_on | (refine ⟨_, fun _ _ => rfl, ?_⟩; go_big_quiet_on))
  (go_big_quiet_want; go_big_quiet_op; first | go_big_quiet_on | (refine ⟨_, fun _ _ => rfl, ?_⟩; go_big_quiet_on))
  (refine wq_row_as rfl (fun w' hw' => two1 (TwoAt.below hw' hT)) ?_; go_big_quiet_want; go_big_quiet_op; go_big_quiet_on)
  (go_big_quiet_want; go_big_quiet_op; refine ⟨_, fun w' hw' => calls_class hw' (has_wi _ _ _ hr.out bY.out true hhy w'), ?_⟩; go_big_quiet_on)
  (go_big_quiet_want; go_big_quiet_op; first | go_big_quiet_on | (refine ⟨_, fun _ _ => rfl, ?_⟩; go_big_quiet_on))
  (go_big_quiet_want; go_big_quiet_op; first | go_big_quiet_on | (refine ⟨_, fun _ _ => rfl, ?_⟩; go_big_quiet_on))
  (go_big_quiet_want; go_big_quiet_op; first | go_big_quiet_on | (refine ⟨_, fun _ _ => rfl, ?_⟩; go_big_quiet_on))
  (go_big_quiet_want; go_big_quiet_op; first | go_big_quiet_on | (refine ⟨_, fun _ _ => rfl, ?_⟩; go_big_quiet_on))
  (go_big_quiet_want; go_big_quiet_op; first | go_big_quiet_on | (refine ⟨_, fun _ _ => rfl, ?_⟩; go_big_quiet_on))
  go_big_quiet_skip
  go_big_quiet_skip
  go_big_quiet_skip
  go_big_quiet_skip
  go_big_quiet_skip
  go_big_quiet_skip
  go_big_quiet_skip
  go_big_quiet_skip
  go_big_quiet_skip
  go_big_quiet_skip
  go_big_quiet_skip
  go_big_quiet_skip
  go_big_quiet_skip
  (go_big_quiet_want; go_big_quiet_op; first | go_big_quiet_on | (refine ⟨_, fun _ _ => rfl, ?_⟩; go_big_quiet_on))
  (go_big_quiet_want; go_big_quiet_op; first | go_big_quiet_on | (refine ⟨_, fun _ _ => rfl, ?_⟩; go_big_quiet_on))
  intro w6 hb1
  replace h0 := below_look hb1 h0; replace hT := hT.below hb1; replace hb := hb.trans (hb1.mono hb.size); clear hb1
  go_upto_region 10 with (fail)
  apply wp_region_lit
  refine wl_k rfl (fun K hK => ?_); go_simp; refine hK _ ?_; clear hK K
  refine wl_k rfl (fun K hK => ?_); go_simp; refine hK _ ?_; clear hK K
  refine wl_k rfl (fun K hK => ?_); go_simp; refine hK _ ?_; clear hK K
  refine wl_k rfl (fun K hK => ?_); go_simp; refine hK _ ?_; clear hK K
  refine wl_k rfl (fun K hK => ?_); go_simp; refine hK _ ?_; clear hK K
  refine wl_k rfl (fun K hK => ?_); go_simp; refine hK _ ?_; clear hK K
  refine wl_k rfl (fun K hK => ?_); go_simp; refine hK _ ?_; clear hK K
  refine wl_k rfl (fun K hK => ?_); go_simp; refine hK _ ?_; clear hK K
  refine wl_k rfl (fun K hK => ?_); go_simp; refine hK _ ?_; clear hK K
  ((with_reducible apply wl_rowG); exact rfl; exact rfl; exact two1 hT)
  simp only [put_lit, List.set_cons_zero, List.set_cons_succ]
  refine wl_wG rfl (ex_build (D := lv 0) 75 _ rfl (L := []) rfl built_lzero) ?_
  simp only [put_lit, List.set_cons_zero, List.set_cons_succ]
  refine wl_wG rfl (by rw [ex_eql75 (a := y) (b := 0) _ _ _ rfl rfl rfl bY.out (by decide), HQ.out]) ?_
  simp only [put_lit, List.set_cons_zero, List.set_cons_succ]
  refine wl_k rfl (fun K hK => ?_); go_simp; refine hK _ ?_; clear hK K
  go_wp2_with fail
  exact bodyPost_ret (results_tmp2 rfl _ _ _) rfl ⟨rfl, hb⟩
end Go.Proofs.Ytclainfdeghgnaa
