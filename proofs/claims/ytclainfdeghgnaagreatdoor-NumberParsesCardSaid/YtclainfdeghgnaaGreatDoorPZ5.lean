/- An operation on two texts: the result. The exact result of an operation. Which decimals are valid. Which errors decimals, a mode and a scale give; a decimal of units that may be too many. A decimal of units that may be too many. A quotient rounded. A region that draws its order, with last stores, where one part of a tuple is taken ahead of a store or behind it. -/
import Derived.Outline
import Derived.Test.YtclainfdeghgnaaGreatDoorPZ4
namespace Go.Proofs.YtclainfdeghgnaaGreatDoor
open Go.RowKit Go.Proofs.YtclainfdeghgnaaGreatDoor.Nm

set_option maxHeartbeats 1000000 in
theorem Do_plain (op a b md : ByteArray) (bits : Int) (s : Bool) (x y z r er : Int) (hx : rdm a = some x) (hy : rdm b = some y) (hr : Hid (isRight bits = true)) (hm : Hid (isModeL md.data.toList = true)) (ho : Hid (isOpL op.data.toList = true))
    (hs1 : (op.toList == [60, 60]) = false) (hs2 : (op.toList == [62, 62]) = false) (hhx : Hid (hasI bits s x = true)) (hhy : Hid (hasI bits s y = true))
    (hd1 : (op.toList == [47]) = false) (hd2 : (op.toList == [37]) = false)
    (hex : Hid (∀ w, Calls Tryz.prog 25 #[.agg (wi bits s), .string op, .agg (lv x), .agg (lv y)] w fun e w' => e = .returned (.agg (lv z)) ∧ Below w.heap.size w w'))
    (hz : Hid (z.natAbs ≤ 100000000000000000000000000000000000000000000000000000000000)) (HB : Hid (bringW bits.toNat s md.toList z = (r, er))) (hrb : Hid (r.natAbs < 10 ^ 64))
    (R : Ending) (HR0 : Hid (er = 0 → R = .returned (.tuple #[.string ⟨(txt r).toArray⟩, .int .i64 0]))) (HR1 : Hid (er ≠ 0 → R = .returned (.tuple #[.string ⟨#[]⟩, .int .i64 er]))) (w : World) :
    Calls Tryz.prog 8 #[.string op, .string a, .string b, .int .i64 bits, .bool s, .string md] w fun e w' => e = R ∧ Below w.heap.size w w' := by
  have bx := Lib.hid (rdm_bd hx)
  have bY := Lib.hid (rdm_bd hy)
  go_enter Tryz.func8, Tryz.ntmps8
  go_wp2_with (go_at_call 17; refine (reads2_ok w.heap.size _ a b x y hx hy _ (ha_new rfl)).mono ?_)
  rintro e w1 ⟨g, cap, rfl, hgl, hT, hb⟩
  replace hb := ((Below.refl w.heap.size w).alloc (Nat.le_refl _) _).trans (hb.mono (by simp))
  have hgl2 : w.heap.size ≤ g := by simp at hgl; omega
  clear hgl
  go_upto_region 5 with (fail)
  have ltg := hT.lt
  refine wp_world (fun W => W.heap[w1.heap.size]? = some (.cells (wi bits s) 50 (0, 0)) ∧ TwoAt W g x y ∧ Below w.heap.size w W) ⟨ha_new rfl, hT.below ((Below.refl _ _).alloc (Nat.le_refl _) _), hb.alloc hb.size _⟩ ?_
  obtain ⟨p, hp⟩ : ∃ p, p = w1.heap.size := ⟨_, rfl⟩
  rw [← hp] at ltg ⊢
  have hpl : w.heap.size ≤ p := by rw [hp]; exact hb.size
  clear hT hb hp
  rintro W ⟨h0, hT, hb⟩
  apply wp_region_lit
  ((with_reducible apply wl_rowG); exact rfl; exact rfl; exact rowWi (by with_reducible assumption))
  refine wl_ck rfl (fun K hK => ?_); go_simp; refine ⟨_, _, ⟨rfl, rfl⟩, hK _ _ ⟨_, right_any _ _ true (Lib.hid hr.out.symm) _, ?_⟩⟩; clear hK K; rintro e w2 ⟨rfl, hb1⟩; refine ⟨_, rfl, ?_⟩; simp only [put_lit, List.set_cons_zero, List.set_cons_succ]
  replace h0 := below_look hb1 h0; replace hT := hT.below hb1; replace hb := hb.trans (hb1.mono hb.size); clear hb1
  refine wl_k rfl (fun K hK => ?_); go_simp; refine hK _ ?_; clear hK K
  refine wl_k rfl (fun K hK => ?_); go_simp; refine hK _ ?_; clear hK K
  refine wl_k rfl (fun K hK => ?_); go_simp; refine hK _ ?_; clear hK K
  refine wl_ck rfl (fun K hK => ?_); go_simp; refine ⟨_, _, ⟨rfl, rfl⟩, hK _ _ ⟨_, isMode_any _ true (Lib.hid hm.out.symm) _, ?_⟩⟩; clear hK K; rintro e w2 ⟨rfl, hb1⟩; refine ⟨_, rfl, ?_⟩; simp only [put_lit, List.set_cons_zero, List.set_cons_succ]
  replace h0 := below_look hb1 h0; replace hT := hT.below hb1; replace hb := hb.trans (hb1.mono hb.size); clear hb1
  refine wl_k rfl (fun K hK => ?_); go_simp; refine hK _ ?_; clear hK K
  refine wl_k rfl (fun K hK => ?_); go_simp; refine hK _ ?_; clear hK K
  refine wl_k rfl (fun K hK => ?_); go_simp; refine hK _ ?_; clear hK K
  refine wl_wG rfl (ex_ops rfl (fun _ => rfl)) ?_
  simp only [put_lit, List.set_cons_zero, List.set_cons_succ]
  have hb1 := (Below.refl w2.heap.size w2).alloc (Nat.le_refl _) (.cells opCells 9)
  have hg5 : (w2.alloc (.cells opCells 9)).heap[w2.heap.size]? = some (.cells opCells 9 (0, 0)) := ha_new rfl
  replace h0 := below_look hb1 h0; replace hT := hT.below hb1; replace hb := hb.trans (hb1.mono hb.size); clear hb1
  refine wl_k rfl (fun K hK => ?_); go_simp; refine hK _ ?_; clear hK K
  refine wl_ck rfl (fun K hK => ?_); go_simp; refine ⟨_, _, ⟨rfl, rfl⟩, hK _ _ ⟨_, contains_ops _ _ true (Lib.hid ho.out.symm) _ hg5, ?_⟩⟩; clear hK K; rintro e w4 ⟨rfl, hb1⟩; refine ⟨_, rfl, ?_⟩; simp only [put_lit, List.set_cons_zero, List.set_cons_succ]
  replace h0 := below_look hb1 h0; replace hT := hT.below hb1; replace hb := hb.trans (hb1.mono hb.size); clear hb1
  clear hg5
  refine wl_k rfl (fun K hK => ?_); go_simp; refine hK _ ?_; clear hK K
  refine wl_k rfl (fun K hK => ?_); go_simp; refine hK _ ?_; clear hK K
  go_upto_region 8 with (fail)
  have hdum : (2 : Nat) ≤ 2 := Nat.le_refl 2
  refine wp_region_belowAll mixed (by kernel_rfl) ?_
  (refine wq_row_as rfl (fun w' hw' => rowWi (below_look hw' h0)) ?_; go_big_quiet_want; go_big_quiet_op; go_big_quiet_on)
  (go_big_quiet_want; go_big_quiet_op; first | go_big_quiet_on | (refine ⟨_, fun _ _ => rfl, ?_⟩; go_big_quiet_on))
  (go_big_quiet_want; go_big_quiet_op; first | go_big_quiet_on | (refine ⟨_, fun _ _ => rfl, ?_⟩; go_big_quiet_on))
  (refine wq_row_as rfl (fun w' hw' => two0 (TwoAt.below hw' hT)) ?_; go_big_quiet_want; go_big_quiet_op; go_big_quiet_on)
  (go_big_quiet_want; go_big_quiet_op; refine ⟨_, fun w' hw' => calls_class hw' (has_wi _ _ _ hr.out bx.out true hhx w'), ?_⟩; go_big_quiet_on)
  (go_big_quiet_want; go_big_quiet_op; first | go_big_quiet_on | (refine ⟨_, fun _ _ => rfl, ?_⟩; go_big_quiet_on))
  (go_big_quiet_want; go_big_quiet_op; first | go_big_quiet_on | (refine ⟨_, fun _ _ => rfl, ?_⟩; go_big_quiet_on))
  (refine wq_row_as rfl (fun w' hw' => rowWi (below_look hw' h0)) ?_; go_big_quiet_want; go_big_quiet_op; go_big_quiet_on)
  (go_big_quiet_want; go_big_quiet_op; first | go_big_quiet_on | (refine ⟨_, fun _ _ => rfl, ?_⟩; go_big_quiet_on))
  (go_big_quiet_want; go_big_quiet_op; first | go_big_quiet_on | (refine ⟨_, fun _ _ => rfl, ?_⟩; go_big_quiet_on))
  (refine wq_row_as rfl (fun w' hw' => two1 (TwoAt.below hw' hT)) ?_; go_big_quiet_want; go_big_quiet_op; go_big_quiet_on)
  (go_big_quiet_want; go_big_quiet_op; refine ⟨_, fun w' hw' => calls_class hw' (has_wi _ _ _ hr.out bY.out true hhy w'), ?_⟩; go_big_quiet_on)
  (go_big_quiet_want; go_big_quiet_op; first | go_big_quiet_on | (refine ⟨_, fun _ _ => rfl, ?_⟩; go_big_quiet_on))
  (go_big_quiet_want; go_big_quiet_op; first | go_big_quiet_on | (refine ⟨_, fun _ _ => rfl, ?_⟩; go_big_quiet_on))
  (go_big_quiet_want; go_big_quiet_op; first | go_big_quiet_on | (refine ⟨_, fun _ _ => rfl, ?_⟩; go_big_quiet_on))
  (go_big_quiet_want; go_big_quiet_op; first | go_big_quiet_on | (refine ⟨_, fun _ _ => rfl, ?_⟩; go_big_quiet_on))
  (go_big_quiet_want; go_big_quiet_op; first | go_big_quiet_on | (refine ⟨_, fun _ _ => rfl, ?_⟩; go_big_quiet_on))
  go_big_quiet_skip
  go_big_quiet_skip
  go_big_quiet_skip
  go_big_quiet_skip
  go_big_quiet_skip
  go_big_quiet_skip
  go_big_quiet_skip
  go_big_quiet_skip
  go_big_quiet_skip
  go_big_quiet_skip
  go_big_quiet_skip
  go_big_quiet_skip
  go_big_quiet_skip
  (go_big_quiet_want; go_big_quiet_op; first | go_big_quiet_on | (refine ⟨_, fun _ _ => rfl, ?_⟩; go_big_quiet_on))
  (go_big_quiet_want; go_big_quiet_op; first | go_big_quiet_on | (refine ⟨_, fun _ _ => rfl, ?_⟩; go_big_quiet_on))
  intro w6 hb1
  replace h0 := below_look hb1 h0; replace hT := hT.below hb1; replace hb := hb.trans (hb1.mono hb.size); clear hb1
  go_upto_region 10 with (fail)
  apply wp_region_lit
  refine wl_k rfl (fun K hK => ?_); go_simp; refine hK _ ?_; clear hK K
  refine wl_k rfl (fun K hK => ?_); go_simp; refine hK _ ?_; clear hK K
  refine wl_k rfl (fun K hK => ?_); go_simp; refine hK _ ?_; clear hK K
  refine wl_k rfl (fun K hK => ?_); go_simp; refine hK _ ?_; clear hK K
  refine wl_k rfl (fun K hK => ?_); go_simp; refine hK _ ?_; clear hK K
  refine wl_k rfl (fun K hK => ?_); go_simp; refine hK _ ?_; clear hK K
  refine wl_k rfl (fun K hK => ?_); go_simp; refine hK _ ?_; clear hK K
  refine wl_skip rfl ?_
  simp only [put_lit, List.set_cons_zero, List.set_cons_succ]
  refine wl_skip rfl ?_
  simp only [put_lit, List.set_cons_zero, List.set_cons_succ]
  refine wl_skip rfl ?_
  simp only [put_lit, List.set_cons_zero, List.set_cons_succ]
  refine wl_skip rfl ?_
  simp only [put_lit, List.set_cons_zero, List.set_cons_succ]
  refine wl_skip rfl ?_
  simp only [put_lit, List.set_cons_zero, List.set_cons_succ]
  refine wl_k rfl (fun K hK => ?_); go_simp; refine hK _ ?_; clear hK K
  go_upto_region 12 with (fail)
  refine wp_region_late 15 14 18 (lv 0) 57 mixed (by kernel_rfl) (by kernel_rfl) ⟨_, rfl, rfl, rfl, ex_alloc75 rfl⟩ ?_
  simp only [List.take_succ_cons, List.take_zero, List.drop_succ_cons, List.drop_zero]
  ((with_reducible apply ws_row); exact rfl; exact rfl; (intro w' hw'; exact rowWi (below_look hw' h0)))
  simp only [put_lit, List.set_cons_zero, List.set_cons_succ]
  ((with_reducible apply ws_row); exact rfl; exact rfl; (intro w' hw'; exact rowWi (below_look hw' h0)))
  simp only [put_lit, List.set_cons_zero, List.set_cons_succ]
  refine ws_k rfl (fun K hK => ?_); go_simp; refine hK _ ?_; clear hK K
  refine ws_k rfl (fun K hK => ?_); go_simp; refine hK _ ?_; clear hK K
  refine ws_k rfl (fun K hK => ?_); go_simp; refine hK _ ?_; clear hK K
  ((with_reducible apply ws_row); exact rfl; exact rfl; (intro w' hw'; exact two0 (TwoAt.below hw' hT)))
  simp only [put_lit, List.set_cons_zero, List.set_cons_succ]
  refine ws_k rfl (fun K hK => ?_); go_simp; refine hK _ ?_; clear hK K
  refine ws_k rfl (fun K hK => ?_); go_simp; refine hK _ ?_; clear hK K
  ((with_reducible apply ws_row); exact rfl; exact rfl; (intro w' hw'; exact two1 (TwoAt.below hw' hT)))
  simp only [put_lit, List.set_cons_zero, List.set_cons_succ]
  refine ws_ck rfl (fun K hK => ?_); go_simp; refine ⟨_, _, ⟨rfl, rfl⟩, hK _ _ ⟨_, fun w' hw' => (hex.out w'), ?_⟩⟩; clear hK K; simp only [put_lit, List.set_cons_zero, List.set_cons_succ]
  refine ws_k rfl (fun K hK => ?_); go_simp; refine hK _ ?_; clear hK K
  refine ws_ck rfl (fun K hK => ?_); go_simp; refine ⟨_, _, ⟨rfl, rfl⟩, hK _ _ ⟨_, fun w' hw' => (bring_wi _ _ _ _ hr.out hz.out _ _ HB.out w'), ?_⟩⟩; clear hK K; simp only [put_lit, List.set_cons_zero, List.set_cons_succ]
  refine ws_k rfl (fun K hK => ?_); go_simp; refine hK _ ?_; clear hK K
  refine ws_k rfl (fun K hK => ?_); go_simp; refine hK _ ?_; clear hK K
  refine ws_k rfl (fun K hK => ?_); go_simp; refine hK _ ?_; clear hK K
  rintro p5 w9 ⟨hb1, hl5, hp5⟩
  have hl6 : w.heap.size ≤ p5 := by have := hb.size; omega
  replace hb := hb.trans (hb1.mono hb.size)
  clear hb1 h0 hT
  simp only [put_lit, List.set_cons_zero, List.set_cons_succ]
  ((with_reducible apply wl_put75); exact rfl; exact rfl; exact hp5; intro w10 hbx hk hq; replace hb := hbx _ _ (by omega) hb; clear hp5; have hp5 := hq; clear hbx hk hq)
  refine wl_k rfl (fun K hK => ?_); go_simp; refine hK _ ?_; clear hK K
  refine onlyN_nil ?_
  go_upto_region 13 with (fail)
  by_cases he : er = 0
  · have HR := Lib.hid (HR0.out he)
    subst he
    go_upto_region 15 with (fail)
    apply wp_region_lit
    ((with_reducible apply wl_rowG); exact rfl; exact rfl; (first | exact rowL (by with_reducible assumption) | exact rowD (by with_reducible assumption) | exact rowR (by with_reducible assumption)))
    refine wl_ck rfl (fun K hK => ?_); go_simp; refine ⟨_, _, ⟨rfl, rfl⟩, hK _ _ ⟨_, text_any _ hrb.out _, ?_⟩⟩; clear hK K; rintro e w11 ⟨rfl, hb1⟩; refine ⟨_, rfl, ?_⟩; simp only [put_lit, List.set_cons_zero, List.set_cons_succ]
    replace hb := hb.trans (hb1.mono hb.size); clear hb1
    go_wp2_with fail
    exact bodyPost_ret (results_tmp2 rfl _ _ _) rfl ⟨by rw [HR.out]; rfl, hb⟩
  · have HR := Lib.hid (HR1.out he)
    go_wp2_with fail
    exact bodyPost_ret (results_tmp2 rfl _ _ _) rfl ⟨by rw [HR.out]; rfl, hb⟩
end Go.Proofs.YtclainfdeghgnaaGreatDoor
namespace Go.Proofs.YtclainfdeghgnaaGreatDoor
open Go.RowKit Go.Proofs.YtclainfdeghgnaaGreatDoor.Nm

theorem lit_eq {m : ByteArray} {L : List UInt8} (h : m.data.toList = L) {l : List UInt8} {b : Bool} (hb : (L == l) = b) : (m.toList == l) = b := by
  rw [ByteArray.toList_eq, h]; exact hb
set_option maxHeartbeats 400000 in
theorem exact_add (op : ByteArray) (bits : Int) (s : Bool) (x y : Int) (hop : op.data.toList = [43]) (hz : Hid (x.natAbs + y.natAbs < 10 ^ 64)) (w : World) :
    Calls Tryz.prog 25 #[.agg (wi bits s), .string op, .agg (lv x), .agg (lv y)] w fun e w' => e = .returned (.agg (lv (x + y))) ∧ Below w.heap.size w w' := by
  have l1 := lit_eq hop (l := [43]) rfl
  clear hop
  go_enter Tryz.func25, Tryz.ntmps25
  go_upto_region 1 with (fail)
  refine wp_world (fun W => W.heap[w.heap.size]? = some (.cells (wi bits s) 50 (0, 0)) ∧ W.heap[w.heap.size + 1]? = some (.cells (lv x) 57 (0, 0)) ∧ W.heap[w.heap.size + 1 + 1]? = some (.cells (lv y) 57 (0, 0)) ∧ W.heap[w.heap.size + 1 + 1 + 1]? = some (.cells (lv 0) 57 (0, 0)) ∧ Below w.heap.size w W) ⟨ha_old (ha_old (ha_old (ha_new rfl))), ha_old (ha_old (ha_new (by simp))), ha_old (ha_new (by simp)), by rw [← zero_long]; exact ha_new (by simp), ((((Below.refl _ _).alloc (Nat.le_refl _) _).alloc (by simp) _).alloc (by simp; omega) _).alloc (by simp; omega) _⟩ ?_
  rintro W ⟨h0, h1, h2, h3, hb⟩
  go_upto_region 3 with (fail)
  apply wp_region_lit
  ((with_reducible apply wl_rowG); exact rfl; exact rfl; (first | exact rowL (by with_reducible assumption) | exact rowD (by with_reducible assumption) | exact rowR (by with_reducible assumption)))
  ((with_reducible apply wl_rowG); exact rfl; exact rfl; (first | exact rowL (by with_reducible assumption) | exact rowD (by with_reducible assumption) | exact rowR (by with_reducible assumption)))
  refine wl_ck rfl (fun K hK => ?_); go_simp; refine ⟨_, _, ⟨rfl, rfl⟩, hK _ _ ⟨_, add_any _ _ hz.out _, ?_⟩⟩; clear hK K; rintro e w1 ⟨rfl, hb1⟩; refine ⟨_, rfl, ?_⟩; simp only [put_lit, List.set_cons_zero, List.set_cons_succ]
  replace h3 := below_look hb1 h3; replace hb := hb.trans (hb1.mono hb.size); clear hb1
  ((with_reducible apply wl_put75); exact rfl; exact rfl; exact h3; intro w12 hbx hk hq; replace hb := hbx _ _ (by omega) hb; clear h3; have h3 := hq; clear hbx hk hq)
  go_wp2_with fail
  exact bodyPost_ret (res_long rfl _ _ (w.heap.size + 1 + 1 + 1) rfl h3) rfl ⟨rfl, hb⟩
end Go.Proofs.YtclainfdeghgnaaGreatDoor
namespace Go.Proofs.YtclainfdeghgnaaGreatDoor
open Go.RowKit Go.Proofs.YtclainfdeghgnaaGreatDoor.Nm

/-- A decimal by value. -/
def dc (u k : Int) : Array Value := #[.int .i64 u, .int .i64 k]
def validD (u k : Int) : Bool := decide (-100000000000000000 ≤ u) && decide (u ≤ 100000000000000000) && decide (0 ≤ k) && decide (k ≤ 9)
theorem info33 : (Tryz.prog.info? 25).map (·.size) = some 2 := by kernel_rfl
theorem u33 : Tryz.prog.underlying 25 = some (.struct (Tryz.prog.fieldsOf 25)) := by kernel_rfl
theorem rowDc {w : World} {b : Nat} {u k : Int} {t : TypeId} {fr : Nat × Nat} (hb : w.heap[b]? = some (.cells (dc u k) t fr)) : RowAt w 25 ⟨b, 0, none⟩ (dc u k) := row_mid hb (D := dc u k) (n := 2) rfl u33 rfl rfl info33
theorem dc0 {w : World} {b : Nat} {u k : Int} {t : TypeId} {fr : Nat × Nat} (hb : w.heap[b]? = some (.cells (dc u k) t fr)) : w.cell? ⟨b, 0, none⟩ = some (.int .i64 u) := by rw [cell_of_row _ _ _ _ _ _ hb]; rfl
theorem dc1 {w : World} {b : Nat} {u k : Int} {t : TypeId} {fr : Nat × Nat} (hb : w.heap[b]? = some (.cells (dc u k) t fr)) : w.cell? ⟨b, 1, none⟩ = some (.int .i64 k) := by rw [cell_of_row _ _ _ _ _ _ hb]; rfl
set_option maxHeartbeats 400000 in
theorem ValidDecimal_any (u k : Int) (R : Bool) (HR : Hid (R = validD u k)) (w : World) :
    Calls Tryz.prog 72 #[.agg (dc u k)] w fun e w' => e = .returned (.bool R) ∧ Below w.heap.size w w' := by
  go_enter Tryz.func72, Tryz.ntmps72
  go_upto_region 1 with (fail)
  refine wp_world (fun W => W.heap[w.heap.size]? = some (.cells (dc u k) 25 (0, 0)) ∧ Below w.heap.size w W) ⟨ha_new rfl, ((Below.refl _ _).alloc (Nat.le_refl _) _)⟩ ?_
  rintro W ⟨h0, hb⟩
  have c0 := dc0 h0
  have c1 := dc1 h0
  go_wp2_with fail
  all_goals
    go_ret
    refine ⟨congrArg (fun b => Ending.returned (.bool b)) (?_ : _ = R), hb⟩
    rw [HR.out]
    clear HR h0 hb c0 c1
    unfold validD
    first
    | (simp [*]; done)
    | (simp [*]; omega)
set_option maxHeartbeats 400000 in
theorem valid1_any (u k : Int) (R : Bool) (HR : Hid (R = validD u k)) (w : World) :
    Calls Tryz.prog 71 #[.agg (dc u k)] w fun e w' => e = .returned (.bool (!R)) ∧ Below w.heap.size w w' := by
  go_enter Tryz.func71, Tryz.ntmps71
  go_upto_region 1 with (fail)
  refine wp_world (fun W => W.heap[w.heap.size]? = some (.cells (dc u k) 25 (0, 0)) ∧ Below w.heap.size w W) ⟨ha_new rfl, ((Below.refl _ _).alloc (Nat.le_refl _) _)⟩ ?_
  rintro W ⟨h0, hb⟩
  apply wp_region_lit
  ((with_reducible apply wl_rowG); exact rfl; exact rfl; exact rowDc (by with_reducible assumption))
  refine wl_ck rfl (fun K hK => ?_); go_simp; refine ⟨_, _, ⟨rfl, rfl⟩, hK _ _ ⟨_, ValidDecimal_any u k R HR _, ?_⟩⟩; clear hK K; rintro e w1 ⟨rfl, hb1⟩; refine ⟨_, rfl, ?_⟩; simp only [put_lit, List.set_cons_zero, List.set_cons_succ]
  replace hb := hb.trans (hb1.mono hb.size); clear hb1
  go_wp2_with fail
  go_ret
  exact ⟨rfl, hb⟩
/-- The cells of decimals side by side. -/
def flatD (ds : List (Int × Int)) : Array Value := (ds.flatMap fun d => [Value.int .i64 d.1, .int .i64 d.2]).toArray
theorem flatD_get (ds : List (Int × Int)) (k : Nat) (hk : k < ds.length) : (flatD ds)[k * 2]? = some (.int .i64 ds[k].1) ∧ (flatD ds)[k * 2 + 1]? = some (.int .i64 ds[k].2) := by
  unfold flatD
  simp only [List.getElem?_toArray]
  induction ds generalizing k with
  | nil => simp at hk
  | cons d ds ih =>
    cases k with
    | zero => simp
    | succ k =>
      have := ih k (by simpa using hk)
      have e1 : (k + 1) * 2 = k * 2 + 1 + 1 := by omega
      rw [e1]
      simpa using this
theorem decs0 {w : World} {b k : Nat} {ds : List (Int × Int)} {t : TypeId} {fr : Nat × Nat} (hb : w.heap[b]? = some (.cells (flatD ds) t fr)) (hk : k < ds.length) : w.cell? ⟨b, k * 2, none⟩ = some (.int .i64 ds[k].1) := by
  rw [cell_of_row _ _ _ _ _ _ hb]; exact (flatD_get ds k hk).1
theorem decs1 {w : World} {b k : Nat} {ds : List (Int × Int)} {t : TypeId} {fr : Nat × Nat} (hb : w.heap[b]? = some (.cells (flatD ds) t fr)) (hk : k < ds.length) : w.cell? ⟨b, k * 2 + 1, none⟩ = some (.int .i64 ds[k].2) := by
  rw [cell_of_row _ _ _ _ _ _ hb]; exact (flatD_get ds k hk).2
def allD (ds : List (Int × Int)) : Bool := ds.all fun d => validD d.1 d.2

set_option maxHeartbeats 1000000 in
theorem IndexFunc_any (g c : Nat) (ds : List (Int × Int)) (hn : ds.length ≤ 1000) (w : World) (hg : w.heap[g]? = some (.cells (flatD ds) 25 (0, 0))) :
    Calls Tryz.prog 92 #[.slice (some ⟨g, 0, none⟩) ds.length c, .func (.func 71) #[] #[]] w fun e w' => ∃ r, e = .returned (.int .i64 r) ∧ ((r < 0 ∧ allD ds = true) ∨ (0 ≤ r ∧ allD ds = false)) ∧ Below w.heap.size w w' := by
  have lt0 := heap_lt hg
  go_enter Tryz.func92, Tryz.ntmps92
  go_wp2_with fail
  go_loopw [8] (fun i wr => ∃ k : Nat, k ≤ ds.length ∧ i = .int .i64 k ∧ Hid (∀ j, (h : j < ds.length) → j < k → validD ds[j].1 ds[j].2 = true) ∧ wr.heap[g]? = some (.cells (flatD ds) 25 (0, 0)) ∧ Below w.heap.size w wr) (fun i _ => (ds.length - intOf i).toNat)
  case atStart => exact ⟨0, by omega, rfl, Lib.hid (fun j _ hj => absurd hj (by omega)), hg, Below.refl _ _⟩
  case round =>
    obtain ⟨k, hk, rfl, HV, h0, hb⟩ := hrel
    by_cases hc : k < ds.length
    · have a0 := decs0 h0 hc
      have a1 := decs1 h0 hc
      obtain ⟨u, hu⟩ : ∃ u, u = ds[k].1 := ⟨_, rfl⟩
      obtain ⟨q, hq⟩ : ∃ q, q = ds[k].2 := ⟨_, rfl⟩
      rw [← hu] at a0
      rw [← hq] at a1
      have HU := Lib.hid hu
      have HQ := Lib.hid hq
      clear hu hq
      cases hv : validD u q
      · have HVF := Lib.hid hv
        clear hv
        go_wp2_with (go_at_call 71; refine (valid1_any u q false (Lib.hid HVF.out.symm) _).mono ?_)
        rintro e w1 ⟨rfl, hb1⟩
        replace hb := hb.trans (hb1.mono hb.size)
        go_wp2_with fail
        go_ret
        refine ⟨_, rfl, Or.inr ⟨by omega, ?_⟩, hb⟩
        unfold allD
        rw [List.all_eq_false]
        exact ⟨ds[k], List.getElem_mem _, by rw [← HU.out, ← HQ.out, HVF.out]; simp⟩
      · have HVT := Lib.hid hv
        clear hv
        go_wp2_with (go_at_call 71; refine (valid1_any u q true (Lib.hid HVT.out.symm) _).mono ?_)
        rintro e w1 ⟨rfl, hb1⟩
        replace h0 := below_look hb1 h0
        replace hb := hb.trans (hb1.mono hb.size)
        clear a0 a1 hb1
        go_wp2_with fail
        go_roundw
        case rel =>
          refine ⟨k + 1, by omega, by go_num, Lib.hid ?_, h0, hb⟩
          intro i hi1 hi
          rcases Nat.lt_or_ge i k with h | h
          · exact HV.out i hi1 h
          · obtain rfl : i = k := by omega
            rw [← HU.out, ← HQ.out]; exact HVT.out
        case measure => simp [intOf]; omega
    · obtain rfl : k = ds.length := by omega
      go_wp2_with fail
      go_ret
      refine ⟨_, rfl, Or.inl ⟨by omega, ?_⟩, hb⟩
      unfold allD
      rw [List.all_eq_true]
      intro d hd
      obtain ⟨i, hi, rfl⟩ := List.mem_iff_getElem.1 hd
      exact HV.out i hi hi
set_option maxHeartbeats 400000 in
theorem ContainsFunc_any (g c : Nat) (ds : List (Int × Int)) (hn : ds.length ≤ 1000) (w : World) (hg : w.heap[g]? = some (.cells (flatD ds) 25 (0, 0))) (R : Bool) (HR : Hid (R = allD ds)) :
    Calls Tryz.prog 70 #[.slice (some ⟨g, 0, none⟩) ds.length c, .func (.func 71) #[] #[]] w fun e w' => e = .returned (.bool (!R)) ∧ Below w.heap.size w w' := by
  go_enter Tryz.func70, Tryz.ntmps70
  go_wp2_with (go_at_call 92; refine (IndexFunc_any g c ds hn w hg).mono ?_)
  rintro e w1 ⟨r, rfl, hr, hb⟩
  rcases hr with ⟨hr, ha⟩ | ⟨hr, ha⟩
  · rw [ha] at HR
    go_wp2_with fail
    go_ret
    refine ⟨congrArg (fun b => Ending.returned (.bool b)) (?_ : _ = !R), hb⟩
    rw [HR.out]
    first | rfl | (simp; omega)
  · rw [ha] at HR
    go_wp2_with fail
    go_ret
    refine ⟨congrArg (fun b => Ending.returned (.bool b)) (?_ : _ = !R), hb⟩
    rw [HR.out]
    first | rfl | (simp; omega)
set_option maxHeartbeats 400000 in
theorem valid_any (g c : Nat) (ds : List (Int × Int)) (hn : ds.length ≤ 1000) (R : Bool) (HR : Hid (R = allD ds)) (w : World) (hg : w.heap[g]? = some (.cells (flatD ds) 25 (0, 0))) :
    Calls Tryz.prog 35 #[.slice (some ⟨g, 0, none⟩) ds.length c] w fun e w' => e = .returned (.bool R) ∧ Below w.heap.size w w' := by
  go_enter Tryz.func35, Tryz.ntmps35
  go_wp2_with (go_at_call 70; refine (ContainsFunc_any g c ds hn w hg R HR).mono ?_)
  rintro e w1 ⟨rfl, hb⟩
  go_wp2_with fail
  go_ret
  exact ⟨by simp, hb⟩
end Go.Proofs.YtclainfdeghgnaaGreatDoor
namespace Go.Proofs.YtclainfdeghgnaaGreatDoor
open Go.RowKit Go.Proofs.YtclainfdeghgnaaGreatDoor.Nm

def roundTexts : List ByteArray := [⟨#[100, 111, 119, 110]⟩, ⟨#[102, 108, 111, 111, 114]⟩, ⟨#[104, 97, 108, 102]⟩, ⟨#[101, 118, 101, 110]⟩]
def isRoundL (l : List UInt8) : Bool := l == [100, 111, 119, 110] || l == [102, 108, 111, 111, 114] || l == [104, 97, 108, 102] || l == [101, 118, 101, 110]
theorem isRound_mem (m : ByteArray) : Lib.containsS roundTexts m = isRoundL m.data.toList := by
  rw [Bool.eq_iff_iff, Lib.containsS_iff]
  unfold roundTexts isRoundL
  simp only [List.mem_cons, List.not_mem_nil, or_false, bytes_eq, Bool.or_eq_true, beq_iff_eq, or_assoc]
def roundCells : Array Value := #[.string ⟨#[100, 111, 119, 110]⟩, .string ⟨#[102, 108, 111, 111, 114]⟩, .string ⟨#[104, 97, 108, 102]⟩, .string ⟨#[101, 118, 101, 110]⟩]
theorem contains_rounds (g : Nat) (m : ByteArray) (R : Bool) (HR : Hid (R = isRoundL m.data.toList)) (w : World) (hg : w.heap[g]? = some (.cells (roundCells) 9 (0, 0))) :
    Calls Tryz.prog 20 #[.slice (some ⟨g, 0, none⟩) 4 4, .string m] w fun e w' => e = .returned (.bool R) ∧ Below w.heap.size w w' := by
  refine (Tryz.slices_Contains_string g 0 4 4 roundTexts m _ (by decide) (by decide) ?_).mono ?_
  · intro j hj
    rw [cell_of_row _ _ _ _ _ _ hg]
    match j, hj with
    | 0, _ | 1, _ | 2, _ | 3, _ => rfl
  · rintro e w1 ⟨rfl, rfl⟩
    rw [show roundTexts.take 4 = roundTexts from rfl, isRound_mem, ← HR.out]
    exact ⟨rfl, Below.refl _ _⟩

def refusedS (ds : List (Int × Int)) (scale : Int) (mode : List UInt8) : Int :=
  if allD ds = false then 4 else if isRoundL mode = false then 3 else if scale < 0 ∨ 9 < scale then 1 else 0
set_option maxHeartbeats 400000 in
theorem refused_any (g c : Nat) (ds : List (Int × Int)) (hn : ds.length ≤ 1000) (scale : Int) (m : ByteArray) (E : Int) (HE : Hid (E = refusedS ds scale m.data.toList)) (w : World) (hg : w.heap[g]? = some (.cells (flatD ds) 25 (0, 0))) :
    Calls Tryz.prog 27 #[.int .i64 scale, .string m, .slice (some ⟨g, 0, none⟩) ds.length c] w fun e w' => e = .returned (.int .i64 E) ∧ Below w.heap.size w w' := by
  cases hv : allD ds
  · have HV := Lib.hid hv
    clear hv
    go_enter Tryz.func27, Tryz.ntmps27
    go_wp2_with (go_at_call 35; refine (valid_any g c ds hn false (Lib.hid HV.out.symm) w hg).mono ?_)
    rintro e w1 ⟨rfl, hb⟩
    go_wp2_with fail
    go_ret
    refine ⟨congrArg (fun b => Ending.returned (.int .i64 b)) (?_ : _ = E), hb⟩
    rw [HE.out, refusedS, if_pos HV.out]
  · have HV := Lib.hid hv
    clear hv
    cases hm : isRoundL m.data.toList
    · have HM := Lib.hid hm
      clear hm
      go_enter Tryz.func27, Tryz.ntmps27
      go_wp2_with (go_at_call 35; refine (valid_any g c ds hn true (Lib.hid HV.out.symm) w hg).mono ?_)
      rintro e w1 ⟨rfl, hb⟩
      go_wp2_with (go_at_call 20; refine (contains_rounds w1.heap.size _ false (Lib.hid HM.out.symm) _ (ha_new rfl)).mono ?_)
      rintro e w2 ⟨rfl, hb2⟩
      replace hb := (hb.alloc hb.size _).trans (hb2.mono (by have := hb.size; simp; omega))
      go_wp2_with fail
      go_ret
      refine ⟨congrArg (fun b => Ending.returned (.int .i64 b)) (?_ : _ = E), hb⟩
      rw [HE.out, refusedS, if_neg (by rw [HV.out]; simp), if_pos HM.out]
    · have HM := Lib.hid hm
      clear hm
      go_enter Tryz.func27, Tryz.ntmps27
      go_wp2_with (go_at_call 35; refine (valid_any g c ds hn true (Lib.hid HV.out.symm) w hg).mono ?_)
      rintro e w1 ⟨rfl, hb⟩
      go_wp2_with (go_at_call 20; refine (contains_rounds w1.heap.size _ true (Lib.hid HM.out.symm) _ (ha_new rfl)).mono ?_)
      rintro e w2 ⟨rfl, hb2⟩
      replace hb := (hb.alloc hb.size _).trans (hb2.mono (by have := hb.size; simp; omega))
      have HE2 : Hid (E = if scale < 0 ∨ 9 < scale then 1 else 0) := Lib.hid (by rw [HE.out, refusedS, if_neg (by rw [HV.out]; simp), if_neg (by rw [HM.out]; simp)])
      go_wp2_with fail
      all_goals
        go_ret
        refine ⟨congrArg (fun b => Ending.returned (.int .i64 b)) (?_ : _ = E), hb⟩
        rw [HE2.out]
        first
        | (rw [if_pos (by omega)])
        | (rw [if_neg (by omega)])
end Go.Proofs.YtclainfdeghgnaaGreatDoor
namespace Go.Proofs.YtclainfdeghgnaaGreatDoor
open Go.RowKit Go.Proofs.YtclainfdeghgnaaGreatDoor.Nm

theorem res_decErr {fn : Func} {p q : Tmp} (h : fn.results = #[.cell p 25, .tmp q]) (tmps : Array Value) (w : World) (g : Nat) (hp : tmps.getD p undef = .pointer (some ⟨g, 0, none⟩)) {u k : Int}
    (hg : w.heap[g]? = some (.cells (dc u k) 25 (0, 0))) : (results fn tmps).run Tryz.prog w = .ok (.tuple #[.agg (dc u k), tmps.getD q undef]) w := by
  have hp' : tmps[p]?.getD undef = .pointer (some ⟨g, 0, none⟩) := by simpa using hp
  have l1 : (loadVar 25 ⟨g, 0, none⟩).run Tryz.prog w = .ok (.agg (dc u k)) w := by have := rowDc hg; unfold RowAt at this; exact this
  rw [results_cell_tmp h]
  simp [hp', asAddr, l1, Result.andThen]
theorem run_fld (w : World) (b : Bool) (f : Nat → Nat) : (Instr.field 57 (.agg (#[.bool b] ++ row f)) 1).run Tryz.prog w = .ok (.agg (row f)) w := by kernel_rfl
theorem ex_fld {ev : Operand → Value} {o : Oper} (x : Operand) (ho : o.op = .field 57 x 1) {z : Int} (hx : ev x = .agg (lv z)) (w : World) :
    (execOp ev o).run Tryz.prog w = .ok (.value (.agg (dv z.natAbs))) w := by
  have h := run_fld w (ng z) (dg z.natAbs)
  unfold execOp
  simp only [ho]
  simp [hx]
  rw [show lv z = #[.bool (ng z)] ++ row (dg z.natAbs) from rfl, h]
  rfl
theorem cmp_over {z : Int} (hz : z.natAbs < 10 ^ 64) (hc : 100000000000000000 < z.natAbs) : 0 < cmpD z.natAbs (100000000000000000 : Int).natAbs := by
  have h := cmpD_spec (b := (100000000000000000 : Int).natAbs) hz (by decide)
  exact h.2.2.2 (by simpa using hc)
theorem cmp_under {z : Int} (hz : z.natAbs < 10 ^ 64) (hc : z.natAbs ≤ 100000000000000000) : cmpD z.natAbs (100000000000000000 : Int).natAbs ≤ 0 := by
  have h := cmpD_spec (b := (100000000000000000 : Int).natAbs) hz (by decide)
  have h2 := h.2.2
  have h3 : ¬ (100000000000000000 : Int).natAbs < z.natAbs := by simpa using hc
  omega
set_option maxHeartbeats 400000 in
theorem made_over (z : Int) (scale : Int) (hz : Hid (z.natAbs < 10 ^ 64)) (hc : Hid (100000000000000000 < z.natAbs)) (w : World) :
    Calls Tryz.prog 30 #[.agg (lv z), .int .i64 scale] w fun e w' => e = .returned (.tuple #[.agg (dc 0 0), .int .i64 2]) ∧ Below w.heap.size w w' := by
  have hq := cmp_over hz.out hc.out
  generalize hB : (100000000000000000 : Int).natAbs = B at hq
  go_enter Tryz.func30, Tryz.ntmps30
  go_upto_region 1 with (fail)
  refine wp_world (fun W => W.heap[w.heap.size]? = some (.cells (lv z) 57 (0, 0)) ∧ W.heap[w.heap.size + 1]? = some (.cells (dc 0 0) 25 (0, 0)) ∧ Below w.heap.size w W) ⟨ha_old (ha_new rfl), ha_new (by simp), ((Below.refl _ _).alloc (Nat.le_refl _) _).alloc (by simp) _⟩ ?_
  rintro W ⟨h0, h1, hb⟩
  refine wp_region_belowAll mixed (by kernel_rfl) ?_
  refine wq_k rfl (fun K hK => ?_); go_simp; refine hK _ ?_; clear hK K
  ((with_reducible apply wq_row); exact rfl; exact rfl; (intro w' hw'; first | exact rowL (below_look hw' (by with_reducible assumption)) | exact rowD (below_look hw' (by with_reducible assumption)) | exact rowR (below_look hw' (by with_reducible assumption))))
  refine wq_ck rfl (fun K hK => ?_); go_simp; refine ⟨_, _, ⟨rfl, rfl⟩, hK _ _ ⟨_, fun w' hw' => calls_class hw' (small_any _ (by decide) (by decide) w'), ?_⟩⟩; clear hK K; simp only [put_lit, List.set_cons_zero, List.set_cons_succ]
  refine wq_val rfl (fun w' _ => ex_fld _ rfl rfl w') ?_; simp only [put_lit, List.set_cons_zero, List.set_cons_succ]
  refine wq_ck rfl (fun K hK => ?_); go_simp; refine ⟨_, _, ⟨rfl, rfl⟩, hK _ _ ⟨_, fun w' hw' => calls_class hw' (compareDigits_any _ _ w'), ?_⟩⟩; clear hK K; simp only [put_lit, List.set_cons_zero, List.set_cons_succ]
  refine wq_k rfl (fun K hK => ?_); go_simp; refine hK _ ?_; clear hK K
  intro w1 hb1
  replace h0 := below_look hb1 h0; replace h1 := below_look hb1 h1; replace hb := hb.trans (hb1.mono hb.size); clear hb1
  clear hq hB
  have c0 := dc0 h1
  have c1 := dc1 h1
  have f0 : w1.frozen? ⟨w.heap.size + 1, 0, none⟩ = false := frozen_of_row _ _ _ _ _ h1
  have f1 : w1.frozen? ⟨w.heap.size + 1, 1, none⟩ = false := frozen_of_row _ _ _ _ _ h1
  go_wp2_with fail
  exact bodyPost_ret (res_decErr rfl _ _ (w.heap.size + 1) rfl ((hs_new (hs_new h1)).trans rfl)) rfl ⟨rfl, (hb.setCell (by simp) _).setCell (by simp) _⟩
set_option maxHeartbeats 400000 in
theorem made_ok (z : Int) (scale : Int) (hz : Hid (z.natAbs < 10 ^ 64)) (hc : Hid (z.natAbs ≤ 100000000000000000)) (w : World) :
    Calls Tryz.prog 30 #[.agg (lv z), .int .i64 scale] w fun e w' => e = .returned (.tuple #[.agg (dc z scale), .int .i64 0]) ∧ Below w.heap.size w w' := by
  have hq := cmp_under hz.out hc.out
  generalize hB : (100000000000000000 : Int).natAbs = B at hq
  go_enter Tryz.func30, Tryz.ntmps30
  go_upto_region 1 with (fail)
  refine wp_world (fun W => W.heap[w.heap.size]? = some (.cells (lv z) 57 (0, 0)) ∧ W.heap[w.heap.size + 1]? = some (.cells (dc 0 0) 25 (0, 0)) ∧ Below w.heap.size w W) ⟨ha_old (ha_new rfl), ha_new (by simp), ((Below.refl _ _).alloc (Nat.le_refl _) _).alloc (by simp) _⟩ ?_
  rintro W ⟨h0, h1, hb⟩
  refine wp_region_belowAll mixed (by kernel_rfl) ?_
  refine wq_k rfl (fun K hK => ?_); go_simp; refine hK _ ?_; clear hK K
  ((with_reducible apply wq_row); exact rfl; exact rfl; (intro w' hw'; first | exact rowL (below_look hw' (by with_reducible assumption)) | exact rowD (below_look hw' (by with_reducible assumption)) | exact rowR (below_look hw' (by with_reducible assumption))))
  refine wq_ck rfl (fun K hK => ?_); go_simp; refine ⟨_, _, ⟨rfl, rfl⟩, hK _ _ ⟨_, fun w' hw' => calls_class hw' (small_any _ (by decide) (by decide) w'), ?_⟩⟩; clear hK K; simp only [put_lit, List.set_cons_zero, List.set_cons_succ]
  refine wq_val rfl (fun w' _ => ex_fld _ rfl rfl w') ?_; simp only [put_lit, List.set_cons_zero, List.set_cons_succ]
  refine wq_ck rfl (fun K hK => ?_); go_simp; refine ⟨_, _, ⟨rfl, rfl⟩, hK _ _ ⟨_, fun w' hw' => calls_class hw' (compareDigits_any _ _ w'), ?_⟩⟩; clear hK K; simp only [put_lit, List.set_cons_zero, List.set_cons_succ]
  refine wq_k rfl (fun K hK => ?_); go_simp; refine hK _ ?_; clear hK K
  intro w1 hb1
  replace h0 := below_look hb1 h0; replace h1 := below_look hb1 h1; replace hb := hb.trans (hb1.mono hb.size); clear hb1
  clear hB
  go_upto_region 3 with (fail)
  clear hq
  apply wp_region_lit
  ((with_reducible apply wl_rowG); exact rfl; exact rfl; (first | exact rowL (by with_reducible assumption) | exact rowD (by with_reducible assumption) | exact rowR (by with_reducible assumption)))
  refine wl_ck rfl (fun K hK => ?_); go_simp; refine ⟨_, _, ⟨rfl, rfl⟩, hK _ _ ⟨_, toInt_any _ (by have := hc.out; omega) _, ?_⟩⟩; clear hK K; rintro e w2 ⟨rfl, hb1⟩; refine ⟨_, rfl, ?_⟩; simp only [put_lit, List.set_cons_zero, List.set_cons_succ]
  replace h0 := below_look hb1 h0; replace h1 := below_look hb1 h1; replace hb := hb.trans (hb1.mono hb.size); clear hb1
  have c0 := dc0 h1
  have c1 := dc1 h1
  have f0 : w2.frozen? ⟨w.heap.size + 1, 0, none⟩ = false := frozen_of_row _ _ _ _ _ h1
  have f1 : w2.frozen? ⟨w.heap.size + 1, 1, none⟩ = false := frozen_of_row _ _ _ _ _ h1
  go_wp2_with fail
  exact bodyPost_ret (res_decErr rfl _ _ (w.heap.size + 1) rfl ((hs_new (hs_new h1)).trans rfl)) rfl ⟨rfl, (hb.setCell (by simp) _).setCell (by simp) _⟩
end Go.Proofs.YtclainfdeghgnaaGreatDoor
namespace Go.Proofs.YtclainfdeghgnaaGreatDoor
open Go.RowKit Go.Proofs.YtclainfdeghgnaaGreatDoor.Nm

/-- Whether a mode takes the magnitude up. -/
def upS (L : List UInt8) (neg : Bool) (q r b : Nat) : Bool :=
  if L = [102, 108, 111, 111, 114] then neg && decide (r ≠ 0)
  else if L = [104, 97, 108, 102] then decide (b ≤ r + r)
  else if L = [101, 118, 101, 110] then decide (b < r + r) || (decide (r + r = b) && decide (q % 2 = 1))
  else false
def roundS (L : List UInt8) (a b : Int) : Int :=
  sg (ng a != ng b) (a.natAbs / b.natAbs + if upS L (ng a != ng b) (a.natAbs / b.natAbs) (a.natAbs % b.natAbs) b.natAbs then 1 else 0)
set_option maxHeartbeats 400000 in
theorem rounded_down (a b : Int) (m : ByteArray) (hm : m.data.toList = [100, 111, 119, 110]) (BA : Hid (a.natAbs < 10 ^ 64)) (BB0 : Hid (0 < b.natAbs)) (BB : Hid (b.natAbs < 10 ^ 63)) (BQ : Hid (a.natAbs < 10 ^ 63)) (w : World) :
    Calls Tryz.prog 31 #[.agg (lv a), .agg (lv b), .string m] w fun e w' => e = .returned (.agg (lv (sg (ng a != ng b) (a.natAbs / b.natAbs)))) ∧ Below w.heap.size w w' := by
  have l1 := lit_eq hm (l := [102, 108, 111, 111, 114]) rfl
  have l2 := lit_eq hm (l := [104, 97, 108, 102]) rfl
  have l3 := lit_eq hm (l := [101, 118, 101, 110]) rfl
  clear hm
  go_enter Tryz.func31, Tryz.ntmps31
  go_upto_region 1 with (fail)
  refine wp_world (fun W => W.heap[w.heap.size]? = some (.cells (lv a) 57 (0, 0)) ∧ W.heap[w.heap.size + 1]? = some (.cells (lv b) 57 (0, 0)) ∧ W.heap[w.heap.size + 1 + 1]? = some (.cells (lv 0) 57 (0, 0)) ∧ Below w.heap.size w W) ⟨ha_old (ha_old (ha_new rfl)), ha_old (ha_new (by simp)), by rw [← zero_long]; exact ha_new (by simp), (((Below.refl _ _).alloc (Nat.le_refl _) _).alloc (by simp) _).alloc (by simp; omega) _⟩ ?_
  rintro W ⟨h0, h1, h2, hb⟩
  apply wp_region_lit
  refine wl_k rfl (fun K hK => ?_); go_simp; refine hK _ ?_; clear hK K
  ((with_reducible apply wl_rowG); exact rfl; exact rfl; (first | exact rowL (by with_reducible assumption) | exact rowD (by with_reducible assumption) | exact rowR (by with_reducible assumption)))
  refine wl_k rfl (fun K hK => ?_); go_simp; refine hK _ ?_; clear hK K
  ((with_reducible apply wl_rowG); exact rfl; exact rfl; (first | exact rowL (by with_reducible assumption) | exact rowD (by with_reducible assumption) | exact rowR (by with_reducible assumption)))
  refine wl_ck rfl (fun K hK => ?_); go_simp; refine ⟨_, _, ⟨rfl, rfl⟩, hK _ _ ⟨_, divDigits_any _ _ BA.out BB0.out BB.out _, ?_⟩⟩; clear hK K; rintro e w1 ⟨rfl, hb1⟩; refine ⟨_, rfl, ?_⟩; simp only [put_lit, List.set_cons_zero, List.set_cons_succ]
  replace h0 := below_look hb1 h0; replace h1 := below_look hb1 h1; replace h2 := below_look hb1 h2; replace hb := hb.trans (hb1.mono hb.size); clear hb1
  refine wl_k rfl (fun K hK => ?_); go_simp; refine hK _ ?_; clear hK K
  refine wl_k rfl (fun K hK => ?_); go_simp; refine hK _ ?_; clear hK K
  refine wl_k rfl (fun K hK => ?_); go_simp; refine hK _ ?_; clear hK K
  (have lth0p2 := heap_lt h0; have lth1p2 := heap_lt h1; have lth2p2 := heap_lt h2; have lsp2 := hb.size; (with_reducible apply wl_new73); intro w2 p2 hbn hlp2 hp2; replace h0 := below_look hbn h0; replace h1 := below_look hbn h1; replace h2 := below_look hbn h2; replace hb := hb.trans (hbn.mono hb.size); clear hbn)
  (have lth0p3 := heap_lt h0; have lth1p3 := heap_lt h1; have lth2p3 := heap_lt h2; have lthp2p3 := heap_lt hp2; have lsp3 := hb.size; (with_reducible apply wl_new73); intro w3 p3 hbn hlp3 hp3; replace h0 := below_look hbn h0; replace h1 := below_look hbn h1; replace h2 := below_look hbn h2; replace hp2 := below_look hbn hp2; replace hb := hb.trans (hbn.mono hb.size); clear hbn)
  ((with_reducible apply wl_put73); exact rfl; exact rfl; exact hp2; intro w4 hbx hk hq; replace h0 := hk _ _ (by omega) h0; replace h1 := hk _ _ (by omega) h1; replace h2 := hk _ _ (by omega) h2; replace hp3 := hk _ _ (by omega) hp3; replace hb := hbx _ _ (by omega) hb; clear hp2; have hp2 := hq; clear hbx hk hq)
  ((with_reducible apply wl_put73); exact rfl; exact rfl; exact hp3; intro w5 hbx hk hq; replace h0 := hk _ _ (by omega) h0; replace h1 := hk _ _ (by omega) h1; replace h2 := hk _ _ (by omega) h2; replace hp2 := hk _ _ (by omega) hp2; replace hb := hbx _ _ (by omega) hb; clear hp3; have hp3 := hq; clear hbx hk hq)
  have n0 : w5.cell? ⟨w.heap.size, 0, none⟩ = some (.bool (ng a)) := by rw [cell_of_row _ _ _ _ _ _ h0]; exact lv_neg a
  have n1 : w5.cell? ⟨w.heap.size + 1, 0, none⟩ = some (.bool (ng b)) := by rw [cell_of_row _ _ _ _ _ _ h1]; exact lv_neg b
  obtain ⟨q, hq⟩ : ∃ q, q = a.natAbs / b.natAbs := ⟨_, rfl⟩
  obtain ⟨r, hr⟩ : ∃ r, r = a.natAbs % b.natAbs := ⟨_, rfl⟩
  rw [← hq] at hp2
  rw [← hr] at hp3
  have QB : Hid (q + 1 < 10 ^ 64) := Lib.hid (by
    have h1 := Nat.div_le_self a.natAbs b.natAbs
    have h2 := BA.out
    have h3 : (10 : Nat) ^ 64 = 10000000000000000000000000000000000000000000000000000000000000000 := by decide
    have h4 := BQ.out
    omega)
  have RB : Hid (r < b.natAbs) := Lib.hid (by rw [hr]; exact Nat.mod_lt _ BB0.out)
  have HQ := Lib.hid hq
  have HR := Lib.hid hr
  clear hq hr
  go_upto_region 3 with (fail)
  refine wp_region_belowAll mixed (by kernel_rfl) ?_
  ((with_reducible apply wq_row); exact rfl; exact rfl; (intro w' hw'; first | exact rowL (below_look hw' (by with_reducible assumption)) | exact rowD (below_look hw' (by with_reducible assumption)) | exact rowR (below_look hw' (by with_reducible assumption))))
  ((with_reducible apply wq_row); exact rfl; exact rfl; (intro w' hw'; first | exact rowL (below_look hw' (by with_reducible assumption)) | exact rowD (below_look hw' (by with_reducible assumption)) | exact rowR (below_look hw' (by with_reducible assumption))))
  refine wq_ck rfl (fun K hK => ?_); go_simp; refine ⟨_, _, ⟨rfl, rfl⟩, hK _ _ ⟨_, fun w' hw' => calls_class hw' (addDigits_any _ _ w'), ?_⟩⟩; clear hK K; simp only [put_lit, List.set_cons_zero, List.set_cons_succ]
  refine wq_k rfl (fun K hK => ?_); go_simp; refine hK _ ?_; clear hK K
  ((with_reducible apply wq_row); exact rfl; exact rfl; (intro w' hw'; first | exact rowL (below_look hw' (by with_reducible assumption)) | exact rowD (below_look hw' (by with_reducible assumption)) | exact rowR (below_look hw' (by with_reducible assumption))))
  refine wq_ck rfl (fun K hK => ?_); go_simp; refine ⟨_, _, ⟨rfl, rfl⟩, hK _ _ ⟨_, fun w' hw' => calls_class hw' (compareDigits_any _ _ w'), ?_⟩⟩; clear hK K; simp only [put_lit, List.set_cons_zero, List.set_cons_succ]
  refine wq_k rfl (fun K hK => ?_); go_simp; refine hK _ ?_; clear hK K
  intro w6 hb1
  replace h0 := below_look hb1 h0; replace h1 := below_look hb1 h1; replace h2 := below_look hb1 h2; replace hp2 := below_look hb1 hp2; replace hp3 := below_look hb1 hp3; replace hb := hb.trans (hb1.mono hb.size); clear hb1
  have HT := cmpD_spec (a := r + r) (b := b.natAbs) (by have := RB.out; have := BB.out; have h3 : (10 : Nat) ^ 63 * 10 = 10 ^ 64 := by decide
                                                        omega) (Nat.lt_trans BB.out (by decide))
  generalize hTT : cmpD (r + r) b.natAbs = T at HT
  generalize hNN : (!(ng a == ng b)) = N
  clear n0 n1 hTT
  go_upto_region 14 with (fail)
  apply wp_region_lit
  ((with_reducible apply wl_rowG); exact rfl; exact rfl; (first | exact rowL (by with_reducible assumption) | exact rowD (by with_reducible assumption) | exact rowR (by with_reducible assumption)))
  refine wl_k rfl (fun K hK => ?_); go_simp; refine hK _ ?_; clear hK K
  refine wl_ck rfl (fun K hK => ?_); go_simp; refine ⟨_, _, ⟨rfl, rfl⟩, hK _ _ ⟨_, signed_any _ _ (by have := QB.out; omega) _, ?_⟩⟩; clear hK K; rintro e w7 ⟨rfl, hb1⟩; refine ⟨_, rfl, ?_⟩; simp only [put_lit, List.set_cons_zero, List.set_cons_succ]
  replace h2 := below_look hb1 h2; replace hb := hb.trans (hb1.mono hb.size); clear hb1
  ((with_reducible apply wl_put75); exact rfl; exact rfl; exact h2; intro w8 hbx hk hq; replace hb := hbx _ _ (by omega) hb; clear h2; have h2 := hq; clear hbx hk hq)
  go_wp2_with fail
  refine bodyPost_ret (res_long rfl _ _ (w.heap.size + 1 + 1) rfl h2) rfl ⟨?_, hb⟩
  rw [show (ng a != ng b) = N from hNN, HQ.out]
set_option maxHeartbeats 1000000 in
theorem rounded_floor (a b : Int) (m : ByteArray) (hm : m.data.toList = [102, 108, 111, 111, 114]) (BA : Hid (a.natAbs < 10 ^ 64)) (BB0 : Hid (0 < b.natAbs)) (BB : Hid (b.natAbs < 10 ^ 63)) (BQ : Hid (a.natAbs < 10 ^ 63)) (R : Int) (hR : Hid (R = roundS [102, 108, 111, 111, 114] a b)) (w : World) :
    Calls Tryz.prog 31 #[.agg (lv a), .agg (lv b), .string m] w fun e w' => e = .returned (.agg (lv R)) ∧ Below w.heap.size w w' := by
  have l1 := lit_eq hm (l := [102, 108, 111, 111, 114]) rfl
  have l2 := lit_eq hm (l := [104, 97, 108, 102]) rfl
  have l3 := lit_eq hm (l := [101, 118, 101, 110]) rfl
  clear hm
  go_enter Tryz.func31, Tryz.ntmps31
  go_upto_region 1 with (fail)
  refine wp_world (fun W => W.heap[w.heap.size]? = some (.cells (lv a) 57 (0, 0)) ∧ W.heap[w.heap.size + 1]? = some (.cells (lv b) 57 (0, 0)) ∧ W.heap[w.heap.size + 1 + 1]? = some (.cells (lv 0) 57 (0, 0)) ∧ Below w.heap.size w W) ⟨ha_old (ha_old (ha_new rfl)), ha_old (ha_new (by simp)), by rw [← zero_long]; exact ha_new (by simp), (((Below.refl _ _).alloc (Nat.le_refl _) _).alloc (by simp) _).alloc (by simp; omega) _⟩ ?_
  rintro W ⟨h0, h1, h2, hb⟩
  apply wp_region_lit
  refine wl_k rfl (fun K hK => ?_); go_simp; refine hK _ ?_; clear hK K
  ((with_reducible apply wl_rowG); exact rfl; exact rfl; (first | exact rowL (by with_reducible assumption) | exact rowD (by with_reducible assumption) | exact rowR (by with_reducible assumption)))
  refine wl_k rfl (fun K hK => ?_); go_simp; refine hK _ ?_; clear hK K
  ((with_reducible apply wl_rowG); exact rfl; exact rfl; (first | exact rowL (by with_reducible assumption) | exact rowD (by with_reducible assumption) | exact rowR (by with_reducible assumption)))
  refine wl_ck rfl (fun K hK => ?_); go_simp; refine ⟨_, _, ⟨rfl, rfl⟩, hK _ _ ⟨_, divDigits_any _ _ BA.out BB0.out BB.out _, ?_⟩⟩; clear hK K; rintro e w1 ⟨rfl, hb1⟩; refine ⟨_, rfl, ?_⟩; simp only [put_lit, List.set_cons_zero, List.set_cons_succ]
  replace h0 := below_look hb1 h0; replace h1 := below_look hb1 h1; replace h2 := below_look hb1 h2; replace hb := hb.trans (hb1.mono hb.size); clear hb1
  refine wl_k rfl (fun K hK => ?_); go_simp; refine hK _ ?_; clear hK K
  refine wl_k rfl (fun K hK => ?_); go_simp; refine hK _ ?_; clear hK K
  refine wl_k rfl (fun K hK => ?_); go_simp; refine hK _ ?_; clear hK K
  (have lth0p2 := heap_lt h0; have lth1p2 := heap_lt h1; have lth2p2 := heap_lt h2; have lsp2 := hb.size; (with_reducible apply wl_new73); intro w2 p2 hbn hlp2 hp2; replace h0 := below_look hbn h0; replace h1 := below_look hbn h1; replace h2 := below_look hbn h2; replace hb := hb.trans (hbn.mono hb.size); clear hbn)
  (have lth0p3 := heap_lt h0; have lth1p3 := heap_lt h1; have lth2p3 := heap_lt h2; have lthp2p3 := heap_lt hp2; have lsp3 := hb.size; (with_reducible apply wl_new73); intro w3 p3 hbn hlp3 hp3; replace h0 := below_look hbn h0; replace h1 := below_look hbn h1; replace h2 := below_look hbn h2; replace hp2 := below_look hbn hp2; replace hb := hb.trans (hbn.mono hb.size); clear hbn)
  ((with_reducible apply wl_put73); exact rfl; exact rfl; exact hp2; intro w4 hbx hk hq; replace h0 := hk _ _ (by omega) h0; replace h1 := hk _ _ (by omega) h1; replace h2 := hk _ _ (by omega) h2; replace hp3 := hk _ _ (by omega) hp3; replace hb := hbx _ _ (by omega) hb; clear hp2; have hp2 := hq; clear hbx hk hq)
  ((with_reducible apply wl_put73); exact rfl; exact rfl; exact hp3; intro w5 hbx hk hq; replace h0 := hk _ _ (by omega) h0; replace h1 := hk _ _ (by omega) h1; replace h2 := hk _ _ (by omega) h2; replace hp2 := hk _ _ (by omega) hp2; replace hb := hbx _ _ (by omega) hb; clear hp3; have hp3 := hq; clear hbx hk hq)
  have n0 : w5.cell? ⟨w.heap.size, 0, none⟩ = some (.bool (ng a)) := by rw [cell_of_row _ _ _ _ _ _ h0]; exact lv_neg a
  have n1 : w5.cell? ⟨w.heap.size + 1, 0, none⟩ = some (.bool (ng b)) := by rw [cell_of_row _ _ _ _ _ _ h1]; exact lv_neg b
  obtain ⟨q, hq⟩ : ∃ q, q = a.natAbs / b.natAbs := ⟨_, rfl⟩
  obtain ⟨r, hr⟩ : ∃ r, r = a.natAbs % b.natAbs := ⟨_, rfl⟩
  rw [← hq] at hp2
  rw [← hr] at hp3
  have QB : Hid (q + 1 < 10 ^ 64) := Lib.hid (by
    have h1 := Nat.div_le_self a.natAbs b.natAbs
    have h2 := BA.out
    have h3 : (10 : Nat) ^ 64 = 10000000000000000000000000000000000000000000000000000000000000000 := by decide
    have h4 := BQ.out
    omega)
  have RB : Hid (r < b.natAbs) := Lib.hid (by rw [hr]; exact Nat.mod_lt _ BB0.out)
  have HQ := Lib.hid hq
  have HR := Lib.hid hr
  clear hq hr
  go_upto_region 3 with (fail)
  refine wp_region_belowAll mixed (by kernel_rfl) ?_
  ((with_reducible apply wq_row); exact rfl; exact rfl; (intro w' hw'; first | exact rowL (below_look hw' (by with_reducible assumption)) | exact rowD (below_look hw' (by with_reducible assumption)) | exact rowR (below_look hw' (by with_reducible assumption))))
  ((with_reducible apply wq_row); exact rfl; exact rfl; (intro w' hw'; first | exact rowL (below_look hw' (by with_reducible assumption)) | exact rowD (below_look hw' (by with_reducible assumption)) | exact rowR (below_look hw' (by with_reducible assumption))))
  refine wq_ck rfl (fun K hK => ?_); go_simp; refine ⟨_, _, ⟨rfl, rfl⟩, hK _ _ ⟨_, fun w' hw' => calls_class hw' (addDigits_any _ _ w'), ?_⟩⟩; clear hK K; simp only [put_lit, List.set_cons_zero, List.set_cons_succ]
  refine wq_k rfl (fun K hK => ?_); go_simp; refine hK _ ?_; clear hK K
  ((with_reducible apply wq_row); exact rfl; exact rfl; (intro w' hw'; first | exact rowL (below_look hw' (by with_reducible assumption)) | exact rowD (below_look hw' (by with_reducible assumption)) | exact rowR (below_look hw' (by with_reducible assumption))))
  refine wq_ck rfl (fun K hK => ?_); go_simp; refine ⟨_, _, ⟨rfl, rfl⟩, hK _ _ ⟨_, fun w' hw' => calls_class hw' (compareDigits_any _ _ w'), ?_⟩⟩; clear hK K; simp only [put_lit, List.set_cons_zero, List.set_cons_succ]
  refine wq_k rfl (fun K hK => ?_); go_simp; refine hK _ ?_; clear hK K
  intro w6 hb1
  replace h0 := below_look hb1 h0; replace h1 := below_look hb1 h1; replace h2 := below_look hb1 h2; replace hp2 := below_look hb1 hp2; replace hp3 := below_look hb1 hp3; replace hb := hb.trans (hb1.mono hb.size); clear hb1
  have HT := cmpD_spec (a := r + r) (b := b.natAbs) (by have := RB.out; have := BB.out; have h3 : (10 : Nat) ^ 63 * 10 = 10 ^ 64 := by decide
                                                        omega) (Nat.lt_trans BB.out (by decide))
  generalize hTT : cmpD (r + r) b.natAbs = T at HT
  generalize hNN : (!(ng a == ng b)) = N
  clear n0 n1 hTT
  go_upto_region 7 with (fail)
  have HN := Lib.hid hNN
  clear hNN
  have HTT := Lib.hid HT
  clear HT
  cases N
  · apply wp_region_lit
    refine wl_k rfl (fun K hK => ?_); go_simp; refine hK _ ?_; clear hK K
    refine wl_k rfl (fun K hK => ?_); go_simp; refine hK _ ?_; clear hK K
    refine wl_skip rfl ?_
    simp only [put_lit, List.set_cons_zero, List.set_cons_succ]
    refine wl_skip rfl ?_
    simp only [put_lit, List.set_cons_zero, List.set_cons_succ]
    refine wl_skip rfl ?_
    simp only [put_lit, List.set_cons_zero, List.set_cons_succ]
    refine wl_k rfl (fun K hK => ?_); go_simp; refine hK _ ?_; clear hK K
    refine wl_k rfl (fun K hK => ?_); go_simp; refine hK _ ?_; clear hK K
    go_upto_region 14 with (fail)
    apply wp_region_lit
    ((with_reducible apply wl_rowG); exact rfl; exact rfl; (first | exact rowL (by with_reducible assumption) | exact rowD (by with_reducible assumption) | exact rowR (by with_reducible assumption)))
    refine wl_k rfl (fun K hK => ?_); go_simp; refine hK _ ?_; clear hK K
    refine wl_ck rfl (fun K hK => ?_); go_simp; refine ⟨_, _, ⟨rfl, rfl⟩, hK _ _ ⟨_, signed_any _ _ (by have := QB.out; omega) _, ?_⟩⟩; clear hK K; rintro e w7 ⟨rfl, hb1⟩; refine ⟨_, rfl, ?_⟩; simp only [put_lit, List.set_cons_zero, List.set_cons_succ]
    replace h2 := below_look hb1 h2; replace hb := hb.trans (hb1.mono hb.size); clear hb1
    ((with_reducible apply wl_put75); exact rfl; exact rfl; exact h2; intro w8 hbx hk hq; replace hb := hbx _ _ (by omega) hb; clear h2; have h2 := hq; clear hbx hk hq)
    go_wp2_with fail
    refine bodyPost_ret (res_long rfl _ _ (w.heap.size + 1 + 1) rfl h2) rfl ⟨?_, hb⟩
    rw [hR.out, roundS, show (ng a != ng b) = false from HN.out, ← HQ.out, ← HR.out]
    simp [upS]
  · by_cases hr0 : r = 0
    · have HZ : Hid (decide (r ≠ 0) = false) := Lib.hid (by simpa using hr0)
      clear hr0
      apply wp_region_lit
      refine wl_k rfl (fun K hK => ?_); go_simp; refine hK _ ?_; clear hK K
      refine wl_k rfl (fun K hK => ?_); go_simp; refine hK _ ?_; clear hK K
      ((with_reducible apply wl_rowG); exact rfl; exact rfl; (first | exact rowL (by with_reducible assumption) | exact rowD (by with_reducible assumption) | exact rowR (by with_reducible assumption)))
      refine wl_wG rfl (ex_build 55 _ rfl (L := []) rfl built_zero) ?_
      simp only [put_lit, List.set_cons_zero, List.set_cons_succ]
      refine wl_wG rfl (by rw [ex_neq73 (a := r) (b := 0) _ _ _ rfl rfl rfl (by have := RB.out; have := BB.out; have h3 : (10 : Nat) ^ 63 * 10 = 10 ^ 64 := by decide
                                                                                omega) (by decide), HZ.out]) ?_
      simp only [put_lit, List.set_cons_zero, List.set_cons_succ]
      refine wl_k rfl (fun K hK => ?_); go_simp; refine hK _ ?_; clear hK K
      refine wl_k rfl (fun K hK => ?_); go_simp; refine hK _ ?_; clear hK K
      go_upto_region 14 with (fail)
      apply wp_region_lit
      ((with_reducible apply wl_rowG); exact rfl; exact rfl; (first | exact rowL (by with_reducible assumption) | exact rowD (by with_reducible assumption) | exact rowR (by with_reducible assumption)))
      refine wl_k rfl (fun K hK => ?_); go_simp; refine hK _ ?_; clear hK K
      refine wl_ck rfl (fun K hK => ?_); go_simp; refine ⟨_, _, ⟨rfl, rfl⟩, hK _ _ ⟨_, signed_any _ _ (by have := QB.out; omega) _, ?_⟩⟩; clear hK K; rintro e w7 ⟨rfl, hb1⟩; refine ⟨_, rfl, ?_⟩; simp only [put_lit, List.set_cons_zero, List.set_cons_succ]
      replace h2 := below_look hb1 h2; replace hb := hb.trans (hb1.mono hb.size); clear hb1
      ((with_reducible apply wl_put75); exact rfl; exact rfl; exact h2; intro w8 hbx hk hq; replace hb := hbx _ _ (by omega) hb; clear h2; have h2 := hq; clear hbx hk hq)
      go_wp2_with fail
      refine bodyPost_ret (res_long rfl _ _ (w.heap.size + 1 + 1) rfl h2) rfl ⟨?_, hb⟩
      rw [hR.out, roundS, show (ng a != ng b) = true from HN.out, ← HQ.out, ← HR.out]
      simp only [upS, if_true, HZ.out]
      simp
    · have HZ : Hid (decide (r ≠ 0) = true) := Lib.hid (by simpa using hr0)
      clear hr0
      apply wp_region_lit
      refine wl_k rfl (fun K hK => ?_); go_simp; refine hK _ ?_; clear hK K
      refine wl_k rfl (fun K hK => ?_); go_simp; refine hK _ ?_; clear hK K
      ((with_reducible apply wl_rowG); exact rfl; exact rfl; (first | exact rowL (by with_reducible assumption) | exact rowD (by with_reducible assumption) | exact rowR (by with_reducible assumption)))
      refine wl_wG rfl (ex_build 55 _ rfl (L := []) rfl built_zero) ?_
      simp only [put_lit, List.set_cons_zero, List.set_cons_succ]
      refine wl_wG rfl (by rw [ex_neq73 (a := r) (b := 0) _ _ _ rfl rfl rfl (by have := RB.out; have := BB.out; have h3 : (10 : Nat) ^ 63 * 10 = 10 ^ 64 := by decide
                                                                                omega) (by decide), HZ.out]) ?_
      simp only [put_lit, List.set_cons_zero, List.set_cons_succ]
      refine wl_k rfl (fun K hK => ?_); go_simp; refine hK _ ?_; clear hK K
      refine wl_k rfl (fun K hK => ?_); go_simp; refine hK _ ?_; clear hK K
      go_upto_region 13 with (fail)
      refine wp_region_below 4 mixed (by kernel_rfl) ?_; simp only [List.take_succ_cons, List.take_zero, List.drop_succ_cons, List.drop_zero]
      ((with_reducible apply wq_row); exact rfl; exact rfl; (intro w' hw'; first | exact rowL (below_look hw' (by with_reducible assumption)) | exact rowD (below_look hw' (by with_reducible assumption)) | exact rowR (below_look hw' (by with_reducible assumption))))
      refine wq_ck rfl (fun K hK => ?_); go_simp; refine ⟨_, _, ⟨rfl, rfl⟩, hK _ _ ⟨_, fun w' hw' => calls_class hw' (small_any _ (by decide) (by decide) w'), ?_⟩⟩; clear hK K; simp only [put_lit, List.set_cons_zero, List.set_cons_succ]
      refine wq_val rfl (fun w' _ => ex_fld _ rfl rfl w') ?_; simp only [put_lit, List.set_cons_zero, List.set_cons_succ]
      refine wq_ck rfl (fun K hK => ?_); go_simp; refine ⟨_, _, ⟨rfl, rfl⟩, hK _ _ ⟨_, fun w' hw' => calls_class hw' (addDigits_any _ _ w'), ?_⟩⟩; clear hK K; simp only [put_lit, List.set_cons_zero, List.set_cons_succ]
      intro w7 hb1
      replace h2 := below_look hb1 h2; replace hp2 := below_look hb1 hp2; replace hb := hb.trans (hb1.mono hb.size); clear hb1
      ((with_reducible apply wl_put73); exact rfl; exact rfl; exact hp2; intro w8 hbx hk hq; replace h2 := hk _ _ (by omega) h2; replace hb := hbx _ _ (by omega) hb; clear hp2; have hp2 := hq; clear hbx hk hq)
      go_upto_region 14 with (fail)
      apply wp_region_lit
      ((with_reducible apply wl_rowG); exact rfl; exact rfl; (first | exact rowL (by with_reducible assumption) | exact rowD (by with_reducible assumption) | exact rowR (by with_reducible assumption)))
      refine wl_k rfl (fun K hK => ?_); go_simp; refine hK _ ?_; clear hK K
      refine wl_ck rfl (fun K hK => ?_); go_simp; refine ⟨_, _, ⟨rfl, rfl⟩, hK _ _ ⟨_, signed_any _ _ (by have := QB.out; omega) _, ?_⟩⟩; clear hK K; rintro e w7 ⟨rfl, hb1⟩; refine ⟨_, rfl, ?_⟩; simp only [put_lit, List.set_cons_zero, List.set_cons_succ]
      replace h2 := below_look hb1 h2; replace hb := hb.trans (hb1.mono hb.size); clear hb1
      ((with_reducible apply wl_put75); exact rfl; exact rfl; exact h2; intro w8 hbx hk hq; replace hb := hbx _ _ (by omega) hb; clear h2; have h2 := hq; clear hbx hk hq)
      go_wp2_with fail
      refine bodyPost_ret (res_long rfl _ _ (w.heap.size + 1 + 1) rfl h2) rfl ⟨?_, hb⟩
      rw [hR.out, roundS, show (ng a != ng b) = true from HN.out, ← HQ.out, ← HR.out]
      simp only [upS, if_true, HZ.out]
      simp
set_option maxHeartbeats 1000000 in
theorem rounded_half (a b : Int) (m : ByteArray) (hm : m.data.toList = [104, 97, 108, 102]) (BA : Hid (a.natAbs < 10 ^ 64)) (BB0 : Hid (0 < b.natAbs)) (BB : Hid (b.natAbs < 10 ^ 63)) (BQ : Hid (a.natAbs < 10 ^ 63)) (R : Int) (hR : Hid (R = roundS [104, 97, 108, 102] a b)) (w : World) :
    Calls Tryz.prog 31 #[.agg (lv a), .agg (lv b), .string m] w fun e w' => e = .returned (.agg (lv R)) ∧ Below w.heap.size w w' := by
  have l1 := lit_eq hm (l := [102, 108, 111, 111, 114]) rfl
  have l2 := lit_eq hm (l := [104, 97, 108, 102]) rfl
  have l3 := lit_eq hm (l := [101, 118, 101, 110]) rfl
  clear hm
  go_enter Tryz.func31, Tryz.ntmps31
  go_upto_region 1 with (fail)
  refine wp_world (fun W => W.heap[w.heap.size]? = some (.cells (lv a) 57 (0, 0)) ∧ W.heap[w.heap.size + 1]? = some (.cells (lv b) 57 (0, 0)) ∧ W.heap[w.heap.size + 1 + 1]? = some (.cells (lv 0) 57 (0, 0)) ∧ Below w.heap.size w W) ⟨ha_old (ha_old (ha_new rfl)), ha_old (ha_new (by simp)), by rw [← zero_long]; exact ha_new (by simp), (((Below.refl _ _).alloc (Nat.le_refl _) _).alloc (by simp) _).alloc (by simp; omega) _⟩ ?_
  rintro W ⟨h0, h1, h2, hb⟩
  apply wp_region_lit
  refine wl_k rfl (fun K hK => ?_); go_simp; refine hK _ ?_; clear hK K
  ((with_reducible apply wl_rowG); exact rfl; exact rfl; (first | exact rowL (by with_reducible assumption) | exact rowD (by with_reducible assumption) | exact rowR (by with_reducible assumption)))
  refine wl_k rfl (fun K hK => ?_); go_simp; refine hK _ ?_; clear hK K
  ((with_reducible apply wl_rowG); exact rfl; exact rfl; (first | exact rowL (by with_reducible assumption) | exact rowD (by with_reducible assumption) | exact rowR (by with_reducible assumption)))
  refine wl_ck rfl (fun K hK => ?_); go_simp; refine ⟨_, _, ⟨rfl, rfl⟩, hK _ _ ⟨_, divDigits_any _ _ BA.out BB0.out BB.out _, ?_⟩⟩; clear hK K; rintro e w1 ⟨rfl, hb1⟩; refine ⟨_, rfl, ?_⟩; simp only [put_lit, List.set_cons_zero, List.set_cons_succ]
  replace h0 := below_look hb1 h0; replace h1 := below_look hb1 h1; replace h2 := below_look hb1 h2; replace hb := hb.trans (hb1.mono hb.size); clear hb1
  refine wl_k rfl (fun K hK => ?_); go_simp; refine hK _ ?_; clear hK K
  refine wl_k rfl (fun K hK => ?_); go_simp; refine hK _ ?_; clear hK K
  refine wl_k rfl (fun K hK => ?_); go_simp; refine hK _ ?_; clear hK K
  (have lth0p2 := heap_lt h0; have lth1p2 := heap_lt h1; have lth2p2 := heap_lt h2; have lsp2 := hb.size; (with_reducible apply wl_new73); intro w2 p2 hbn hlp2 hp2; replace h0 := below_look hbn h0; replace h1 := below_look hbn h1; replace h2 := below_look hbn h2; replace hb := hb.trans (hbn.mono hb.size); clear hbn)
  (have lth0p3 := heap_lt h0; have lth1p3 := heap_lt h1; have lth2p3 := heap_lt h2; have lthp2p3 := heap_lt hp2; have lsp3 := hb.size; (with_reducible apply wl_new73); intro w3 p3 hbn hlp3 hp3; replace h0 := below_look hbn h0; replace h1 := below_look hbn h1; replace h2 := below_look hbn h2; replace hp2 := below_look hbn hp2; replace hb := hb.trans (hbn.mono hb.size); clear hbn)
  ((with_reducible apply wl_put73); exact rfl; exact rfl; exact hp2; intro w4 hbx hk hq; replace h0 := hk _ _ (by omega) h0; replace h1 := hk _ _ (by omega) h1; replace h2 := hk _ _ (by omega) h2; replace hp3 := hk _ _ (by omega) hp3; replace hb := hbx _ _ (by omega) hb; clear hp2; have hp2 := hq; clear hbx hk hq)
  ((with_reducible apply wl_put73); exact rfl; exact rfl; exact hp3; intro w5 hbx hk hq; replace h0 := hk _ _ (by omega) h0; replace h1 := hk _ _ (by omega) h1; replace h2 := hk _ _ (by omega) h2; replace hp2 := hk _ _ (by omega) hp2; replace hb := hbx _ _ (by omega) hb; clear hp3; have hp3 := hq; clear hbx hk hq)
  have n0 : w5.cell? ⟨w.heap.size, 0, none⟩ = some (.bool (ng a)) := by rw [cell_of_row _ _ _ _ _ _ h0]; exact lv_neg a
  have n1 : w5.cell? ⟨w.heap.size + 1, 0, none⟩ = some (.bool (ng b)) := by rw [cell_of_row _ _ _ _ _ _ h1]; exact lv_neg b
  obtain ⟨q, hq⟩ : ∃ q, q = a.natAbs / b.natAbs := ⟨_, rfl⟩
  obtain ⟨r, hr⟩ : ∃ r, r = a.natAbs % b.natAbs := ⟨_, rfl⟩
  rw [← hq] at hp2
  rw [← hr] at hp3
  have QB : Hid (q + 1 < 10 ^ 64) := Lib.hid (by
    have h1 := Nat.div_le_self a.natAbs b.natAbs
    have h2 := BA.out
    have h3 : (10 : Nat) ^ 64 = 10000000000000000000000000000000000000000000000000000000000000000 := by decide
    have h4 := BQ.out
    omega)
  have RB : Hid (r < b.natAbs) := Lib.hid (by rw [hr]; exact Nat.mod_lt _ BB0.out)
  have HQ := Lib.hid hq
  have HR := Lib.hid hr
  clear hq hr
  go_upto_region 3 with (fail)
  refine wp_region_belowAll mixed (by kernel_rfl) ?_
  ((with_reducible apply wq_row); exact rfl; exact rfl; (intro w' hw'; first | exact rowL (below_look hw' (by with_reducible assumption)) | exact rowD (below_look hw' (by with_reducible assumption)) | exact rowR (below_look hw' (by with_reducible assumption))))
  ((with_reducible apply wq_row); exact rfl; exact rfl; (intro w' hw'; first | exact rowL (below_look hw' (by with_reducible assumption)) | exact rowD (below_look hw' (by with_reducible assumption)) | exact rowR (below_look hw' (by with_reducible assumption))))
  refine wq_ck rfl (fun K hK => ?_); go_simp; refine ⟨_, _, ⟨rfl, rfl⟩, hK _ _ ⟨_, fun w' hw' => calls_class hw' (addDigits_any _ _ w'), ?_⟩⟩; clear hK K; simp only [put_lit, List.set_cons_zero, List.set_cons_succ]
  refine wq_k rfl (fun K hK => ?_); go_simp; refine hK _ ?_; clear hK K
  ((with_reducible apply wq_row); exact rfl; exact rfl; (intro w' hw'; first | exact rowL (below_look hw' (by with_reducible assumption)) | exact rowD (below_look hw' (by with_reducible assumption)) | exact rowR (below_look hw' (by with_reducible assumption))))
  refine wq_ck rfl (fun K hK => ?_); go_simp; refine ⟨_, _, ⟨rfl, rfl⟩, hK _ _ ⟨_, fun w' hw' => calls_class hw' (compareDigits_any _ _ w'), ?_⟩⟩; clear hK K; simp only [put_lit, List.set_cons_zero, List.set_cons_succ]
  refine wq_k rfl (fun K hK => ?_); go_simp; refine hK _ ?_; clear hK K
  intro w6 hb1
  replace h0 := below_look hb1 h0; replace h1 := below_look hb1 h1; replace h2 := below_look hb1 h2; replace hp2 := below_look hb1 hp2; replace hp3 := below_look hb1 hp3; replace hb := hb.trans (hb1.mono hb.size); clear hb1
  have HT := cmpD_spec (a := r + r) (b := b.natAbs) (by have := RB.out; have := BB.out; have h3 : (10 : Nat) ^ 63 * 10 = 10 ^ 64 := by decide
                                                        omega) (Nat.lt_trans BB.out (by decide))
  generalize hTT : cmpD (r + r) b.natAbs = T at HT
  generalize hNN : (!(ng a == ng b)) = N
  clear n0 n1 hTT
  have HN := Lib.hid hNN
  clear hNN
  have HTT := Lib.hid HT
  clear HT
  by_cases hT : 0 ≤ T
  · go_upto_region 13 with (fail)
    refine wp_region_below 4 mixed (by kernel_rfl) ?_; simp only [List.take_succ_cons, List.take_zero, List.drop_succ_cons, List.drop_zero]
    ((with_reducible apply wq_row); exact rfl; exact rfl; (intro w' hw'; first | exact rowL (below_look hw' (by with_reducible assumption)) | exact rowD (below_look hw' (by with_reducible assumption)) | exact rowR (below_look hw' (by with_reducible assumption))))
    refine wq_ck rfl (fun K hK => ?_); go_simp; refine ⟨_, _, ⟨rfl, rfl⟩, hK _ _ ⟨_, fun w' hw' => calls_class hw' (small_any _ (by decide) (by decide) w'), ?_⟩⟩; clear hK K; simp only [put_lit, List.set_cons_zero, List.set_cons_succ]
    refine wq_val rfl (fun w' _ => ex_fld _ rfl rfl w') ?_; simp only [put_lit, List.set_cons_zero, List.set_cons_succ]
    refine wq_ck rfl (fun K hK => ?_); go_simp; refine ⟨_, _, ⟨rfl, rfl⟩, hK _ _ ⟨_, fun w' hw' => calls_class hw' (addDigits_any _ _ w'), ?_⟩⟩; clear hK K; simp only [put_lit, List.set_cons_zero, List.set_cons_succ]
    intro w7 hb1
    replace h2 := below_look hb1 h2; replace hp2 := below_look hb1 hp2; replace hb := hb.trans (hb1.mono hb.size); clear hb1
    ((with_reducible apply wl_put73); exact rfl; exact rfl; exact hp2; intro w8 hbx hk hq; replace h2 := hk _ _ (by omega) h2; replace hb := hbx _ _ (by omega) hb; clear hp2; have hp2 := hq; clear hbx hk hq)
    go_upto_region 14 with (fail)
    apply wp_region_lit
    ((with_reducible apply wl_rowG); exact rfl; exact rfl; (first | exact rowL (by with_reducible assumption) | exact rowD (by with_reducible assumption) | exact rowR (by with_reducible assumption)))
    refine wl_k rfl (fun K hK => ?_); go_simp; refine hK _ ?_; clear hK K
    refine wl_ck rfl (fun K hK => ?_); go_simp; refine ⟨_, _, ⟨rfl, rfl⟩, hK _ _ ⟨_, signed_any _ _ (by have := QB.out; omega) _, ?_⟩⟩; clear hK K; rintro e w7 ⟨rfl, hb1⟩; refine ⟨_, rfl, ?_⟩; simp only [put_lit, List.set_cons_zero, List.set_cons_succ]
    replace h2 := below_look hb1 h2; replace hb := hb.trans (hb1.mono hb.size); clear hb1
    ((with_reducible apply wl_put75); exact rfl; exact rfl; exact h2; intro w8 hbx hk hq; replace hb := hbx _ _ (by omega) hb; clear h2; have h2 := hq; clear hbx hk hq)
    go_wp2_with fail
    refine bodyPost_ret (res_long rfl _ _ (w.heap.size + 1 + 1) rfl h2) rfl ⟨?_, hb⟩
    rw [hR.out, roundS, show (ng a != ng b) = N from HN.out, ← HQ.out, ← HR.out]
    have hu : upS [104, 97, 108, 102] N q r b.natAbs = true := by
      have := HTT.out
      simp only [upS]
      simp
      omega
    rw [hu]
    rfl
  · go_upto_region 14 with (fail)
    apply wp_region_lit
    ((with_reducible apply wl_rowG); exact rfl; exact rfl; (first | exact rowL (by with_reducible assumption) | exact rowD (by with_reducible assumption) | exact rowR (by with_reducible assumption)))
    refine wl_k rfl (fun K hK => ?_); go_simp; refine hK _ ?_; clear hK K
    refine wl_ck rfl (fun K hK => ?_); go_simp; refine ⟨_, _, ⟨rfl, rfl⟩, hK _ _ ⟨_, signed_any _ _ (by have := QB.out; omega) _, ?_⟩⟩; clear hK K; rintro e w7 ⟨rfl, hb1⟩; refine ⟨_, rfl, ?_⟩; simp only [put_lit, List.set_cons_zero, List.set_cons_succ]
    replace h2 := below_look hb1 h2; replace hb := hb.trans (hb1.mono hb.size); clear hb1
    ((with_reducible apply wl_put75); exact rfl; exact rfl; exact h2; intro w8 hbx hk hq; replace hb := hbx _ _ (by omega) hb; clear h2; have h2 := hq; clear hbx hk hq)
    go_wp2_with fail
    refine bodyPost_ret (res_long rfl _ _ (w.heap.size + 1 + 1) rfl h2) rfl ⟨?_, hb⟩
    rw [hR.out, roundS, show (ng a != ng b) = N from HN.out, ← HQ.out, ← HR.out]
    have hu : upS [104, 97, 108, 102] N q r b.natAbs = false := by
      have := HTT.out
      simp only [upS]
      simp
      omega
    rw [hu]
    rfl
set_option maxHeartbeats 1000000 in
theorem rounded_even (a b : Int) (m : ByteArray) (hm : m.data.toList = [101, 118, 101, 110]) (BA : Hid (a.natAbs < 10 ^ 64)) (BB0 : Hid (0 < b.natAbs)) (BB : Hid (b.natAbs < 10 ^ 63)) (BQ : Hid (a.natAbs < 10 ^ 63)) (R : Int) (hR : Hid (R = roundS [101, 118, 101, 110] a b)) (w : World) :
    Calls Tryz.prog 31 #[.agg (lv a), .agg (lv b), .string m] w fun e w' => e = .returned (.agg (lv R)) ∧ Below w.heap.size w w' := by
  have l1 := lit_eq hm (l := [102, 108, 111, 111, 114]) rfl
  have l2 := lit_eq hm (l := [104, 97, 108, 102]) rfl
  have l3 := lit_eq hm (l := [101, 118, 101, 110]) rfl
  clear hm
  go_enter Tryz.func31, Tryz.ntmps31
  go_upto_region 1 with (fail)
  refine wp_world (fun W => W.heap[w.heap.size]? = some (.cells (lv a) 57 (0, 0)) ∧ W.heap[w.heap.size + 1]? = some (.cells (lv b) 57 (0, 0)) ∧ W.heap[w.heap.size + 1 + 1]? = some (.cells (lv 0) 57 (0, 0)) ∧ Below w.heap.size w W) ⟨ha_old (ha_old (ha_new rfl)), ha_old (ha_new (by simp)), by rw [← zero_long]; exact ha_new (by simp), (((Below.refl _ _).alloc (Nat.le_refl _) _).alloc (by simp) _).alloc (by simp; omega) _⟩ ?_
  rintro W ⟨h0, h1, h2, hb⟩
  apply wp_region_lit
  refine wl_k rfl (fun K hK => ?_); go_simp; refine hK _ ?_; clear hK K
  ((with_reducible apply wl_rowG); exact rfl; exact rfl; (first | exact rowL (by with_reducible assumption) | exact rowD (by with_reducible assumption) | exact rowR (by with_reducible assumption)))
  refine wl_k rfl (fun K hK => ?_); go_simp; refine hK _ ?_; clear hK K
  ((with_reducible apply wl_rowG); exact rfl; exact rfl; (first | exact rowL (by with_reducible assumption) | exact rowD (by with_reducible assumption) | exact rowR (by with_reducible assumption)))
  refine wl_ck rfl (fun K hK => ?_); go_simp; refine ⟨_, _, ⟨rfl, rfl⟩, hK _ _ ⟨_, divDigits_any _ _ BA.out BB0.out BB.out _, ?_⟩⟩; clear hK K; rintro e w1 ⟨rfl, hb1⟩; refine ⟨_, rfl, ?_⟩; simp only [put_lit, List.set_cons_zero, List.set_cons_succ]
  replace h0 := below_look hb1 h0; replace h1 := below_look hb1 h1; replace h2 := below_look hb1 h2; replace hb := hb.trans (hb1.mono hb.size); clear hb1
  refine wl_k rfl (fun K hK => ?_); go_simp; refine hK _ ?_; clear hK K
  refine wl_k rfl (fun K hK => ?_); go_simp; refine hK _ ?_; clear hK K
  refine wl_k rfl (fun K hK => ?_); go_simp; refine hK _ ?_; clear hK K
  (have lth0p2 := heap_lt h0; have lth1p2 := heap_lt h1; have lth2p2 := heap_lt h2; have lsp2 := hb.size; (with_reducible apply wl_new73); intro w2 p2 hbn hlp2 hp2; replace h0 := below_look hbn h0; replace h1 := below_look hbn h1; replace h2 := below_look hbn h2; replace hb := hb.trans (hbn.mono hb.size); clear hbn)
  (have lth0p3 := heap_lt h0; have lth1p3 := heap_lt h1; have lth2p3 := heap_lt h2; have lthp2p3 := heap_lt hp2; have lsp3 := hb.size; (with_reducible apply wl_new73); intro w3 p3 hbn hlp3 hp3; replace h0 := below_look hbn h0; replace h1 := below_look hbn h1; replace h2 := below_look hbn h2; replace hp2 := below_look hbn hp2; replace hb := hb.trans (hbn.mono hb.size); clear hbn)
  ((with_reducible apply wl_put73); exact rfl; exact rfl; exact hp2; intro w4 hbx hk hq; replace h0 := hk _ _ (by omega) h0; replace h1 := hk _ _ (by omega) h1; replace h2 := hk _ _ (by omega) h2; replace hp3 := hk _ _ (by omega) hp3; replace hb := hbx _ _ (by omega) hb; clear hp2; have hp2 := hq; clear hbx hk hq)
  ((with_reducible apply wl_put73); exact rfl; exact rfl; exact hp3; intro w5 hbx hk hq; replace h0 := hk _ _ (by omega) h0; replace h1 := hk _ _ (by omega) h1; replace h2 := hk _ _ (by omega) h2; replace hp2 := hk _ _ (by omega) hp2; replace hb := hbx _ _ (by omega) hb; clear hp3; have hp3 := hq; clear hbx hk hq)
  have n0 : w5.cell? ⟨w.heap.size, 0, none⟩ = some (.bool (ng a)) := by rw [cell_of_row _ _ _ _ _ _ h0]; exact lv_neg a
  have n1 : w5.cell? ⟨w.heap.size + 1, 0, none⟩ = some (.bool (ng b)) := by rw [cell_of_row _ _ _ _ _ _ h1]; exact lv_neg b
  obtain ⟨q, hq⟩ : ∃ q, q = a.natAbs / b.natAbs := ⟨_, rfl⟩
  obtain ⟨r, hr⟩ : ∃ r, r = a.natAbs % b.natAbs := ⟨_, rfl⟩
  rw [← hq] at hp2
  rw [← hr] at hp3
  have QB : Hid (q + 1 < 10 ^ 64) := Lib.hid (by
    have h1 := Nat.div_le_self a.natAbs b.natAbs
    have h2 := BA.out
    have h3 : (10 : Nat) ^ 64 = 10000000000000000000000000000000000000000000000000000000000000000 := by decide
    have h4 := BQ.out
    omega)
  have RB : Hid (r < b.natAbs) := Lib.hid (by rw [hr]; exact Nat.mod_lt _ BB0.out)
  have HQ := Lib.hid hq
  have HR := Lib.hid hr
  clear hq hr
  go_upto_region 3 with (fail)
  refine wp_region_belowAll mixed (by kernel_rfl) ?_
  ((with_reducible apply wq_row); exact rfl; exact rfl; (intro w' hw'; first | exact rowL (below_look hw' (by with_reducible assumption)) | exact rowD (below_look hw' (by with_reducible assumption)) | exact rowR (below_look hw' (by with_reducible assumption))))
  ((with_reducible apply wq_row); exact rfl; exact rfl; (intro w' hw'; first | exact rowL (below_look hw' (by with_reducible assumption)) | exact rowD (below_look hw' (by with_reducible assumption)) | exact rowR (below_look hw' (by with_reducible assumption))))
  refine wq_ck rfl (fun K hK => ?_); go_simp; refine ⟨_, _, ⟨rfl, rfl⟩, hK _ _ ⟨_, fun w' hw' => calls_class hw' (addDigits_any _ _ w'), ?_⟩⟩; clear hK K; simp only [put_lit, List.set_cons_zero, List.set_cons_succ]
  refine wq_k rfl (fun K hK => ?_); go_simp; refine hK _ ?_; clear hK K
  ((with_reducible apply wq_row); exact rfl; exact rfl; (intro w' hw'; first | exact rowL (below_look hw' (by with_reducible assumption)) | exact rowD (below_look hw' (by with_reducible assumption)) | exact rowR (below_look hw' (by with_reducible assumption))))
  refine wq_ck rfl (fun K hK => ?_); go_simp; refine ⟨_, _, ⟨rfl, rfl⟩, hK _ _ ⟨_, fun w' hw' => calls_class hw' (compareDigits_any _ _ w'), ?_⟩⟩; clear hK K; simp only [put_lit, List.set_cons_zero, List.set_cons_succ]
  refine wq_k rfl (fun K hK => ?_); go_simp; refine hK _ ?_; clear hK K
  intro w6 hb1
  replace h0 := below_look hb1 h0; replace h1 := below_look hb1 h1; replace h2 := below_look hb1 h2; replace hp2 := below_look hb1 hp2; replace hp3 := below_look hb1 hp3; replace hb := hb.trans (hb1.mono hb.size); clear hb1
  have HT := cmpD_spec (a := r + r) (b := b.natAbs) (by have := RB.out; have := BB.out; have h3 : (10 : Nat) ^ 63 * 10 = 10 ^ 64 := by decide
                                                        omega) (Nat.lt_trans BB.out (by decide))
  generalize hTT : cmpD (r + r) b.natAbs = T at HT
  generalize hNN : (!(ng a == ng b)) = N
  clear n0 n1 hTT
  have HN := Lib.hid hNN
  clear hNN
  have HTT := Lib.hid HT
  clear HT
  have cq : w6.cell? ⟨p2, 0, none⟩ = some (.int .u8 (dg q 0)) := by rw [cell_of_row _ _ _ _ _ _ hp2, dv, row_get _ _ (by omega)]
  have hq0 : (dg q 0 : Int) = (q : Int) % 10 := by unfold dg; omega
  rw [hq0] at cq
  clear hq0
  rcases Int.lt_trichotomy T 0 with hT | hT | hT
  · go_upto_region 14 with (fail)
    apply wp_region_lit
    ((with_reducible apply wl_rowG); exact rfl; exact rfl; (first | exact rowL (by with_reducible assumption) | exact rowD (by with_reducible assumption) | exact rowR (by with_reducible assumption)))
    refine wl_k rfl (fun K hK => ?_); go_simp; refine hK _ ?_; clear hK K
    refine wl_ck rfl (fun K hK => ?_); go_simp; refine ⟨_, _, ⟨rfl, rfl⟩, hK _ _ ⟨_, signed_any _ _ (by have := QB.out; omega) _, ?_⟩⟩; clear hK K; rintro e w7 ⟨rfl, hb1⟩; refine ⟨_, rfl, ?_⟩; simp only [put_lit, List.set_cons_zero, List.set_cons_succ]
    replace h2 := below_look hb1 h2; replace hb := hb.trans (hb1.mono hb.size); clear hb1
    ((with_reducible apply wl_put75); exact rfl; exact rfl; exact h2; intro w8 hbx hk hq; replace hb := hbx _ _ (by omega) hb; clear h2; have h2 := hq; clear hbx hk hq)
    go_wp2_with fail
    refine bodyPost_ret (res_long rfl _ _ (w.heap.size + 1 + 1) rfl h2) rfl ⟨?_, hb⟩
    rw [hR.out, roundS, show (ng a != ng b) = N from HN.out, ← HQ.out, ← HR.out]
    have hu : upS [101, 118, 101, 110] N q r b.natAbs = false := by
      have := HTT.out
      (try have := HO.out)
      simp only [upS]
      simp
      omega
    rw [hu]
    rfl
  · subst hT
    by_cases ho : q % 2 = 1
    · have ho2 : ((q : Int) % 10) % 2 = 1 := by omega
      have HO := Lib.hid ho
      clear ho
      go_upto_region 13 with (fail)
      refine wp_region_below 4 mixed (by kernel_rfl) ?_; simp only [List.take_succ_cons, List.take_zero, List.drop_succ_cons, List.drop_zero]
      ((with_reducible apply wq_row); exact rfl; exact rfl; (intro w' hw'; first | exact rowL (below_look hw' (by with_reducible assumption)) | exact rowD (below_look hw' (by with_reducible assumption)) | exact rowR (below_look hw' (by with_reducible assumption))))
      refine wq_ck rfl (fun K hK => ?_); go_simp; refine ⟨_, _, ⟨rfl, rfl⟩, hK _ _ ⟨_, fun w' hw' => calls_class hw' (small_any _ (by decide) (by decide) w'), ?_⟩⟩; clear hK K; simp only [put_lit, List.set_cons_zero, List.set_cons_succ]
      refine wq_val rfl (fun w' _ => ex_fld _ rfl rfl w') ?_; simp only [put_lit, List.set_cons_zero, List.set_cons_succ]
      refine wq_ck rfl (fun K hK => ?_); go_simp; refine ⟨_, _, ⟨rfl, rfl⟩, hK _ _ ⟨_, fun w' hw' => calls_class hw' (addDigits_any _ _ w'), ?_⟩⟩; clear hK K; simp only [put_lit, List.set_cons_zero, List.set_cons_succ]
      intro w7 hb1
      replace h2 := below_look hb1 h2; replace hp2 := below_look hb1 hp2; replace hb := hb.trans (hb1.mono hb.size); clear hb1
      ((with_reducible apply wl_put73); exact rfl; exact rfl; exact hp2; intro w8 hbx hk hq; replace h2 := hk _ _ (by omega) h2; replace hb := hbx _ _ (by omega) hb; clear hp2; have hp2 := hq; clear hbx hk hq)
      go_upto_region 14 with (fail)
      apply wp_region_lit
      ((with_reducible apply wl_rowG); exact rfl; exact rfl; (first | exact rowL (by with_reducible assumption) | exact rowD (by with_reducible assumption) | exact rowR (by with_reducible assumption)))
      refine wl_k rfl (fun K hK => ?_); go_simp; refine hK _ ?_; clear hK K
      refine wl_ck rfl (fun K hK => ?_); go_simp; refine ⟨_, _, ⟨rfl, rfl⟩, hK _ _ ⟨_, signed_any _ _ (by have := QB.out; omega) _, ?_⟩⟩; clear hK K; rintro e w7 ⟨rfl, hb1⟩; refine ⟨_, rfl, ?_⟩; simp only [put_lit, List.set_cons_zero, List.set_cons_succ]
      replace h2 := below_look hb1 h2; replace hb := hb.trans (hb1.mono hb.size); clear hb1
      ((with_reducible apply wl_put75); exact rfl; exact rfl; exact h2; intro w8 hbx hk hq; replace hb := hbx _ _ (by omega) hb; clear h2; have h2 := hq; clear hbx hk hq)
      go_wp2_with fail
      refine bodyPost_ret (res_long rfl _ _ (w.heap.size + 1 + 1) rfl h2) rfl ⟨?_, hb⟩
      rw [hR.out, roundS, show (ng a != ng b) = N from HN.out, ← HQ.out, ← HR.out]
      have hu : upS [101, 118, 101, 110] N q r b.natAbs = true := by
        have := HTT.out
        (try have := HO.out)
        simp only [upS]
        simp
        omega
      rw [hu]
      rfl
    · have ho2 : ((q : Int) % 10) % 2 = 0 := by omega
      have HO := Lib.hid ho
      clear ho
      go_upto_region 14 with (fail)
      apply wp_region_lit
      ((with_reducible apply wl_rowG); exact rfl; exact rfl; (first | exact rowL (by with_reducible assumption) | exact rowD (by with_reducible assumption) | exact rowR (by with_reducible assumption)))
      refine wl_k rfl (fun K hK => ?_); go_simp; refine hK _ ?_; clear hK K
      refine wl_ck rfl (fun K hK => ?_); go_simp; refine ⟨_, _, ⟨rfl, rfl⟩, hK _ _ ⟨_, signed_any _ _ (by have := QB.out; omega) _, ?_⟩⟩; clear hK K; rintro e w7 ⟨rfl, hb1⟩; refine ⟨_, rfl, ?_⟩; simp only [put_lit, List.set_cons_zero, List.set_cons_succ]
      replace h2 := below_look hb1 h2; replace hb := hb.trans (hb1.mono hb.size); clear hb1
      ((with_reducible apply wl_put75); exact rfl; exact rfl; exact h2; intro w8 hbx hk hq; replace hb := hbx _ _ (by omega) hb; clear h2; have h2 := hq; clear hbx hk hq)
      go_wp2_with fail
      refine bodyPost_ret (res_long rfl _ _ (w.heap.size + 1 + 1) rfl h2) rfl ⟨?_, hb⟩
      rw [hR.out, roundS, show (ng a != ng b) = N from HN.out, ← HQ.out, ← HR.out]
      have hu : upS [101, 118, 101, 110] N q r b.natAbs = false := by
        have := HTT.out
        (try have := HO.out)
        simp only [upS]
        simp
        omega
      rw [hu]
      rfl
  · go_upto_region 13 with (fail)
    refine wp_region_below 4 mixed (by kernel_rfl) ?_; simp only [List.take_succ_cons, List.take_zero, List.drop_succ_cons, List.drop_zero]
    ((with_reducible apply wq_row); exact rfl; exact rfl; (intro w' hw'; first | exact rowL (below_look hw' (by with_reducible assumption)) | exact rowD (below_look hw' (by with_reducible assumption)) | exact rowR (below_look hw' (by with_reducible assumption))))
    refine wq_ck rfl (fun K hK => ?_); go_simp; refine ⟨_, _, ⟨rfl, rfl⟩, hK _ _ ⟨_, fun w' hw' => calls_class hw' (small_any _ (by decide) (by decide) w'), ?_⟩⟩; clear hK K; simp only [put_lit, List.set_cons_zero, List.set_cons_succ]
    refine wq_val rfl (fun w' _ => ex_fld _ rfl rfl w') ?_; simp only [put_lit, List.set_cons_zero, List.set_cons_succ]
    refine wq_ck rfl (fun K hK => ?_); go_simp; refine ⟨_, _, ⟨rfl, rfl⟩, hK _ _ ⟨_, fun w' hw' => calls_class hw' (addDigits_any _ _ w'), ?_⟩⟩; clear hK K; simp only [put_lit, List.set_cons_zero, List.set_cons_succ]
    intro w7 hb1
    replace h2 := below_look hb1 h2; replace hp2 := below_look hb1 hp2; replace hb := hb.trans (hb1.mono hb.size); clear hb1
    ((with_reducible apply wl_put73); exact rfl; exact rfl; exact hp2; intro w8 hbx hk hq; replace h2 := hk _ _ (by omega) h2; replace hb := hbx _ _ (by omega) hb; clear hp2; have hp2 := hq; clear hbx hk hq)
    go_upto_region 14 with (fail)
    apply wp_region_lit
    ((with_reducible apply wl_rowG); exact rfl; exact rfl; (first | exact rowL (by with_reducible assumption) | exact rowD (by with_reducible assumption) | exact rowR (by with_reducible assumption)))
    refine wl_k rfl (fun K hK => ?_); go_simp; refine hK _ ?_; clear hK K
    refine wl_ck rfl (fun K hK => ?_); go_simp; refine ⟨_, _, ⟨rfl, rfl⟩, hK _ _ ⟨_, signed_any _ _ (by have := QB.out; omega) _, ?_⟩⟩; clear hK K; rintro e w7 ⟨rfl, hb1⟩; refine ⟨_, rfl, ?_⟩; simp only [put_lit, List.set_cons_zero, List.set_cons_succ]
    replace h2 := below_look hb1 h2; replace hb := hb.trans (hb1.mono hb.size); clear hb1
    ((with_reducible apply wl_put75); exact rfl; exact rfl; exact h2; intro w8 hbx hk hq; replace hb := hbx _ _ (by omega) hb; clear h2; have h2 := hq; clear hbx hk hq)
    go_wp2_with fail
    refine bodyPost_ret (res_long rfl _ _ (w.heap.size + 1 + 1) rfl h2) rfl ⟨?_, hb⟩
    rw [hR.out, roundS, show (ng a != ng b) = N from HN.out, ← HQ.out, ← HR.out]
    have hu : upS [101, 118, 101, 110] N q r b.natAbs = true := by
      have := HTT.out
      (try have := HO.out)
      simp only [upS]
      simp
      omega
    rw [hu]
    rfl
theorem roundS_down (a b : Int) : roundS [100, 111, 119, 110] a b = sg (ng a != ng b) (a.natAbs / b.natAbs) := by simp [roundS, upS]
theorem rounded_any (a b : Int) (m : ByteArray) (hm : isRoundL m.data.toList = true) (hb0 : 0 < b.natAbs) (hb1 : b.natAbs < 10 ^ 63) (ha : a.natAbs < 10 ^ 63) (w : World) :
    Calls Tryz.prog 31 #[.agg (lv a), .agg (lv b), .string m] w fun e w' => e = .returned (.agg (lv (roundS m.data.toList a b))) ∧ Below w.heap.size w w' := by
  have ha2 : a.natAbs < 10 ^ 64 := Nat.lt_trans ha (by decide)
  unfold isRoundL at hm
  simp only [Bool.or_eq_true, beq_iff_eq] at hm
  rcases hm with ((h | h) | h) | h
  · have := rounded_down a b m h (Lib.hid ha2) (Lib.hid hb0) (Lib.hid hb1) (Lib.hid ha) w
    rw [h, roundS_down]; exact this
  · rw [h]; exact rounded_floor a b m h (Lib.hid ha2) (Lib.hid hb0) (Lib.hid hb1) (Lib.hid ha) _ (Lib.hid rfl) w
  · rw [h]; exact rounded_half a b m h (Lib.hid ha2) (Lib.hid hb0) (Lib.hid hb1) (Lib.hid ha) _ (Lib.hid rfl) w
  · rw [h]; exact rounded_even a b m h (Lib.hid ha2) (Lib.hid hb0) (Lib.hid hb1) (Lib.hid ha) _ (Lib.hid rfl) w
end Go.Proofs.YtclainfdeghgnaaGreatDoor
namespace Go.Proofs.YtclainfdeghgnaaGreatDoor.Nm
open Go.RowKit
section
variable {P : Program}
theorem wp_region_tail_late {id : Nat} {Q : Exit → Act → World → Prop} {a : Act} {w : World} {l : List Oper} (n d : Nat) (hm : P.follows .mixedOrders = true) (hB : Region.lexTailB .text l.toArray n = true) (hD : lateB l.toArray d = true)
    (h : wpQuiet P l.toArray (fun w' => Below w.heap.size w w') (fun a' => ∀ w', Below w.heap.size w w' → wpList P l.toArray (OnlyN Q) (l.drop n) a' w') (l.take n) a) : (Code.region id l.toArray true).wp P Q a w := by
  simp only [Region.lexTailB, Bool.and_eq_true, decide_eq_true_eq] at hB
  obtain ⟨⟨⟨⟨hsel, hn⟩, hs⟩, hc⟩, hlex⟩ := hB
  have hn' : n < l.length := by simpa using hn
  have htl : (l.take n).length = n := by simp; omega
  have hdl : (l.drop n).length = l.toArray.size - n := by simp
  have inv0 : HeadInv .text l.toArray n (Array.replicate l.toArray.size false) :=
    ⟨by simp, fun j oj _ hl => (by rw [getD_replicate_false] at hl; cases hl), fun t _ ht => getD_in (by simpa using ht) (getD_replicate_false _ _)⟩
  have H := wpAnyK_lex (C := fun w' => Below w.heap.size w w') (md := .text) (g := l.toArray.size - n) hsel hs hc hn (l.take n) 0 _ a (fun j hj => by
    have hj' : j < n := by rw [htl] at hj; exact hj
    simp [hj']) (by simpa using htl) inv0 (by rw [htl]; exact hlex) h
  refine Code.wp_mono (Q := OnlyN Q) OnlyN.up (wp_region_any hm ?_)
  obtain ⟨od, hod⟩ : ∃ od, l.toArray[d]? = some od := by
    unfold lateB at hD
    cases hx : l.toArray[d]? with
    | none => rw [hx] at hD; cases hD
    | some od => exact ⟨od, rfl⟩
  refine late_any hod (Region.noSelect_spec hsel) hD _ _ _ _ (by simp) ?_
  have := wpAny_of_headK (md := .text) (Q' := OnlyN Q) (g := l.toArray.size - n) (fun listed a' w' hw' hL => by
    have := wpAny_of_seq (md := .text) (Q' := OnlyN Q) (l.drop n) n listed a' w' (fun j => by simp [List.getElem?_drop]) (by rw [hdl]; exact hL.1) (hL.2 w' hw')
    rwa [hdl] at this) _ _ _ { w with drawn := w.drawn + 1 } ((Below.refl _ w).drew) H
  rw [htl, show n + (l.toArray.size - n) = l.toArray.size by omega] at this
  exact this
end
end Go.Proofs.YtclainfdeghgnaaGreatDoor.Nm
