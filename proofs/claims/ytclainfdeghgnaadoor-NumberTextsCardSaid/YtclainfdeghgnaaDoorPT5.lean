/- An operation on two texts: the result. The exact result of an operation. Which decimals are valid. Which errors decimals, a mode and a scale give; a decimal of units that may be too many. A decimal of units that may be too many. A quotient rounded. A region that draws its order, with last stores, where one part of a tuple is taken ahead of a store or behind it. A quotient of decimals. The examples of the chapter hold. Plain facts about limbs of 32 bits: carries, borrows, products, quotients bit by bit. No program in sight. The document's magnitudes: a slice of limbs, trimmed. The document's sums of magnitudes. The document's differences of magnitudes, and which of two is the greater one. The document's products of magnitudes. The document's bits of a magnitude, and its quotients bit by bit. The document's whole numbers: signs, sums, products. The document's whole numbers: of an int; differences, products, quotients, powers. The document's powers of 2 and of 10, floors, comparisons. The document's floors and comparisons. A number's text is read as the number; numbers wrapped into a width. The document's decimal text of a whole number. The document's numbers as ints; decimals of exact units. Texts of decimals, plainly: a decimal's text is read as it, and only its text. What the document's Parse gives, plainly; both readers read the same. Contracts of the shelf at this dump, in plain words (written by the kit's own tools; those that are wanted). Steps for decimals in variables. -/
import Derived.Outline
import Derived.Test.YtclainfdeghgnaaDoorPT4
import Init
import Derived.Deep.RegionHeld
import Derived.Laws.BytesString
import Derived.Test.YtclainfdeghgnaaDoorPT2
import Derived.Test.YtclainfdeghgnaaDoorPT3
import Derived.Lib.ItoaMem
import Derived.Lib.AtoiAll
import Derived.Lib.IndexMore
import Derived.Lib.IndexBytes
import Derived.Shelf.LaysM
import Derived.Shelf.Strconv.Itoa3
import Derived.Test.YtclainfdeghgnaaDoorProg
namespace Go.Proofs.YtclainfdeghgnaaDoor
open Go.RowKit Go.Proofs.YtclainfdeghgnaaDoor.Nm

set_option maxHeartbeats 1000000 in
theorem Do_plain (op a b md : ByteArray) (bits : Int) (s : Bool) (x y z r er : Int) (hx : rdm a = some x) (hy : rdm b = some y) (hr : Hid (isRight bits = true)) (hm : Hid (isModeL md.data.toList = true)) (ho : Hid (isOpL op.data.toList = true))
    (hs1 : (op.toList == [60, 60]) = false) (hs2 : (op.toList == [62, 62]) = false) (hhx : Hid (hasI bits s x = true)) (hhy : Hid (hasI bits s y = true))
    (hd1 : (op.toList == [47]) = false) (hd2 : (op.toList == [37]) = false)
    (hex : Hid (∀ w, Calls Tryd.prog 35 #[.agg (wi bits s), .string op, .agg (lv x), .agg (lv y)] w fun e w' => e = .returned (.agg (lv z)) ∧ Below w.heap.size w w'))
    (hz : Hid (z.natAbs ≤ 100000000000000000000000000000000000000000000000000000000000)) (HB : Hid (bringW bits.toNat s md.toList z = (r, er))) (hrb : Hid (r.natAbs < 10 ^ 64))
    (R : Ending) (HR0 : Hid (er = 0 → R = .returned (.tuple #[.string ⟨(txt r).toArray⟩, .int .i64 0]))) (HR1 : Hid (er ≠ 0 → R = .returned (.tuple #[.string ⟨#[]⟩, .int .i64 er]))) (w : World) :
    Calls Tryd.prog 18 #[.string op, .string a, .string b, .int .i64 bits, .bool s, .string md] w fun e w' => e = R ∧ Below w.heap.size w w' := by
  have bx := Lib.hid (rdm_bd hx)
  have bY := Lib.hid (rdm_bd hy)
  go_enter Tryd.func18, Tryd.ntmps18
  go_wp2_with (go_at_call 27; refine (reads2_ok w.heap.size _ a b x y hx hy _ (ha_new rfl)).mono ?_)
  rintro e w1 ⟨g, cap, rfl, hgl, hT, hb⟩
  replace hb := ((Below.refl w.heap.size w).alloc (Nat.le_refl _) _).trans (hb.mono (by simp))
  have hgl2 : w.heap.size ≤ g := by simp at hgl; omega
  clear hgl
  go_upto_region 5 with (fail)
  have ltg := hT.lt
  refine wp_world (fun W => W.heap[w1.heap.size]? = some (.cells (wi bits s) 62 (0, 0)) ∧ TwoAt W g x y ∧ Below w.heap.size w W) ⟨ha_new rfl, hT.below ((Below.refl _ _).alloc (Nat.le_refl _) _), hb.alloc hb.size _⟩ ?_
  obtain ⟨p, hp⟩ : ∃ p, p = w1.heap.size := ⟨_, rfl⟩
  rw [← hp] at ltg ⊢
  have hpl : w.heap.size ≤ p := by rw [hp]; exact hb.size
  clear hT hb hp
  rintro W ⟨h0, hT, hb⟩
  apply wp_region_lit
  ((with_reducible apply wl_rowG); exact rfl; exact rfl; exact rowWi (by with_reducible assumption))
  refine wl_ck rfl (fun K hK => ?_); go_simp; refine ⟨_, _, ⟨rfl, rfl⟩, hK _ _ ⟨_, right_any _ _ true (Lib.hid hr.out.symm) _, ?_⟩⟩; clear hK K; rintro e w2 ⟨rfl, hb1⟩; refine ⟨_, rfl, ?_⟩; simp only [put_lit, List.set_cons_zero, List.set_cons_succ]
  replace h0 := below_look hb1 h0; replace hT := hT.below hb1; replace hb := hb.trans (hb1.mono hb.size); clear hb1
  refine wl_k rfl (fun K hK => ?_); go_simp; refine hK _ ?_; clear hK K
  refine wl_k rfl (fun K hK => ?_); go_simp; refine hK _ ?_; clear hK K
  refine wl_k rfl (fun K hK => ?_); go_simp; refine hK _ ?_; clear hK K
  refine wl_ck rfl (fun K hK => ?_); go_simp; refine ⟨_, _, ⟨rfl, rfl⟩, hK _ _ ⟨_, isMode_any _ true (Lib.hid hm.out.symm) _, ?_⟩⟩; clear hK K; rintro e w2 ⟨rfl, hb1⟩; refine ⟨_, rfl, ?_⟩; simp only [put_lit, List.set_cons_zero, List.set_cons_succ]
  replace h0 := below_look hb1 h0; replace hT := hT.below hb1; replace hb := hb.trans (hb1.mono hb.size); clear hb1
  refine wl_k rfl (fun K hK => ?_); go_simp; refine hK _ ?_; clear hK K
  refine wl_k rfl (fun K hK => ?_); go_simp; refine hK _ ?_; clear hK K
  refine wl_k rfl (fun K hK => ?_); go_simp; refine hK _ ?_; clear hK K
  refine wl_wG rfl (ex_ops rfl (fun _ => rfl)) ?_
  simp only [put_lit, List.set_cons_zero, List.set_cons_succ]
  have hb1 := (Below.refl w2.heap.size w2).alloc (Nat.le_refl _) (.cells opCells 9)
  have hg5 : (w2.alloc (.cells opCells 9)).heap[w2.heap.size]? = some (.cells opCells 9 (0, 0)) := ha_new rfl
  replace h0 := below_look hb1 h0; replace hT := hT.below hb1; replace hb := hb.trans (hb1.mono hb.size); clear hb1
  refine wl_k rfl (fun K hK => ?_); go_simp; refine hK _ ?_; clear hK K
  refine wl_ck rfl (fun K hK => ?_); go_simp; refine ⟨_, _, ⟨rfl, rfl⟩, hK _ _ ⟨_, contains_ops _ _ true (Lib.hid ho.out.symm) _ hg5, ?_⟩⟩; clear hK K; rintro e w4 ⟨rfl, hb1⟩; refine ⟨_, rfl, ?_⟩; simp only [put_lit, List.set_cons_zero, List.set_cons_succ]
  replace h0 := below_look hb1 h0; replace hT := hT.below hb1; replace hb := hb.trans (hb1.mono hb.size); clear hb1
  clear hg5
  refine wl_k rfl (fun K hK => ?_); go_simp; refine hK _ ?_; clear hK K
  refine wl_k rfl (fun K hK => ?_); go_simp; refine hK _ ?_; clear hK K
  go_upto_region 8 with (fail)
  have hdum : (2 : Nat) ≤ 2 := Nat.le_refl 2
  refine wp_region_belowAll mixed (by kernel_rfl) ?_
  (refine wq_row_as rfl (fun w' hw' => rowWi (below_look hw' h0)) ?_; go_big_quiet_want; go_big_quiet_op; go_big_quiet_on)
  (go_big_quiet_want; go_big_quiet_op; first | go_big_quiet_on | (refine ⟨_, fun _ _ => rfl, ?_⟩; go_big_quiet_on))
  (go_big_quiet_want; go_big_quiet_op; first | go_big_quiet_on | (refine ⟨_, fun _ _ => rfl, ?_⟩; go_big_quiet_on))
  (refine wq_row_as rfl (fun w' hw' => two0 (TwoAt.below hw' hT)) ?_; go_big_quiet_want; go_big_quiet_op; go_big_quiet_on)
  (go_big_quiet_want; go_big_quiet_op; refine ⟨_, fun w' hw' => calls_class hw' (has_wi _ _ _ hr.out bx.out true hhx w'), ?_⟩; go_big_quiet_on)
  (go_big_quiet_want; go_big_quiet_op; first | go_big_quiet_on | (refine ⟨_, fun _ _ => rfl, ?_⟩; go_big_quiet_on))
  (go_big_quiet_want; go_big_quiet_op; first | go_big_quiet_on | (refine ⟨_, fun _ _ => rfl, ?_⟩; go_big_quiet_on))
  (refine wq_row_as rfl (fun w' hw' => rowWi (below_look hw' h0)) ?_; go_big_quiet_want; go_big_quiet_op; go_big_quiet_on)
  (go_big_quiet_want; go_big_quiet_op; first | go_big_quiet_on | (refine ⟨_, fun _ _ => rfl, ?_⟩; go_big_quiet_on))
  (go_big_quiet_want; go_big_quiet_op; first | go_big_quiet_on | (refine ⟨_, fun _ _ => rfl, ?_⟩; go_big_quiet_on))
  (refine wq_row_as rfl (fun w' hw' => two1 (TwoAt.below hw' hT)) ?_; go_big_quiet_want; go_big_quiet_op; go_big_quiet_on)
  (go_big_quiet_want; go_big_quiet_op; refine ⟨_, fun w' hw' => calls_class hw' (has_wi _ _ _ hr.out bY.out true hhy w'), ?_⟩; go_big_quiet_on)
  (go_big_quiet_want; go_big_quiet_op; first | go_big_quiet_on | (refine ⟨_, fun _ _ => rfl, ?_⟩; go_big_quiet_on))
  (go_big_quiet_want; go_big_quiet_op; first | go_big_quiet_on | (refine ⟨_, fun _ _ => rfl, ?_⟩; go_big_quiet_on))
  (go_big_quiet_want; go_big_quiet_op; first | go_big_quiet_on | (refine ⟨_, fun _ _ => rfl, ?_⟩; go_big_quiet_on))
  (go_big_quiet_want; go_big_quiet_op; first | go_big_quiet_on | (refine ⟨_, fun _ _ => rfl, ?_⟩; go_big_quiet_on))
  (go_big_quiet_want; go_big_quiet_op; first | go_big_quiet_on | (refine ⟨_, fun _ _ => rfl, ?_⟩; go_big_quiet_on))
  go_big_quiet_skip
  go_big_quiet_skip
  go_big_quiet_skip
  go_big_quiet_skip
  go_big_quiet_skip
  go_big_quiet_skip
  go_big_quiet_skip
  go_big_quiet_skip
  go_big_quiet_skip
  go_big_quiet_skip
  go_big_quiet_skip
  go_big_quiet_skip
  go_big_quiet_skip
  (go_big_quiet_want; go_big_quiet_op; first | go_big_quiet_on | (refine ⟨_, fun _ _ => rfl, ?_⟩; go_big_quiet_on))
  (go_big_quiet_want; go_big_quiet_op; first | go_big_quiet_on | (refine ⟨_, fun _ _ => rfl, ?_⟩; go_big_quiet_on))
  intro w6 hb1
  replace h0 := below_look hb1 h0; replace hT := hT.below hb1; replace hb := hb.trans (hb1.mono hb.size); clear hb1
  go_upto_region 10 with (fail)
  apply wp_region_lit
  refine wl_k rfl (fun K hK => ?_); go_simp; refine hK _ ?_; clear hK K
  refine wl_k rfl (fun K hK => ?_); go_simp; refine hK _ ?_; clear hK K
  refine wl_k rfl (fun K hK => ?_); go_simp; refine hK _ ?_; clear hK K
  refine wl_k rfl (fun K hK => ?_); go_simp; refine hK _ ?_; clear hK K
  refine wl_k rfl (fun K hK => ?_); go_simp; refine hK _ ?_; clear hK K
  refine wl_k rfl (fun K hK => ?_); go_simp; refine hK _ ?_; clear hK K
  refine wl_k rfl (fun K hK => ?_); go_simp; refine hK _ ?_; clear hK K
  refine wl_skip rfl ?_
  simp only [put_lit, List.set_cons_zero, List.set_cons_succ]
  refine wl_skip rfl ?_
  simp only [put_lit, List.set_cons_zero, List.set_cons_succ]
  refine wl_skip rfl ?_
  simp only [put_lit, List.set_cons_zero, List.set_cons_succ]
  refine wl_skip rfl ?_
  simp only [put_lit, List.set_cons_zero, List.set_cons_succ]
  refine wl_skip rfl ?_
  simp only [put_lit, List.set_cons_zero, List.set_cons_succ]
  refine wl_k rfl (fun K hK => ?_); go_simp; refine hK _ ?_; clear hK K
  go_upto_region 12 with (fail)
  refine wp_region_late 15 14 18 (lv 0) 69 mixed (by kernel_rfl) (by kernel_rfl) ⟨_, rfl, rfl, rfl, ex_alloc75 rfl⟩ ?_
  simp only [List.take_succ_cons, List.take_zero, List.drop_succ_cons, List.drop_zero]
  ((with_reducible apply ws_row); exact rfl; exact rfl; (intro w' hw'; exact rowWi (below_look hw' h0)))
  simp only [put_lit, List.set_cons_zero, List.set_cons_succ]
  ((with_reducible apply ws_row); exact rfl; exact rfl; (intro w' hw'; exact rowWi (below_look hw' h0)))
  simp only [put_lit, List.set_cons_zero, List.set_cons_succ]
  refine ws_k rfl (fun K hK => ?_); go_simp; refine hK _ ?_; clear hK K
  refine ws_k rfl (fun K hK => ?_); go_simp; refine hK _ ?_; clear hK K
  refine ws_k rfl (fun K hK => ?_); go_simp; refine hK _ ?_; clear hK K
  ((with_reducible apply ws_row); exact rfl; exact rfl; (intro w' hw'; exact two0 (TwoAt.below hw' hT)))
  simp only [put_lit, List.set_cons_zero, List.set_cons_succ]
  refine ws_k rfl (fun K hK => ?_); go_simp; refine hK _ ?_; clear hK K
  refine ws_k rfl (fun K hK => ?_); go_simp; refine hK _ ?_; clear hK K
  ((with_reducible apply ws_row); exact rfl; exact rfl; (intro w' hw'; exact two1 (TwoAt.below hw' hT)))
  simp only [put_lit, List.set_cons_zero, List.set_cons_succ]
  refine ws_ck rfl (fun K hK => ?_); go_simp; refine ⟨_, _, ⟨rfl, rfl⟩, hK _ _ ⟨_, fun w' hw' => (hex.out w'), ?_⟩⟩; clear hK K; simp only [put_lit, List.set_cons_zero, List.set_cons_succ]
  refine ws_k rfl (fun K hK => ?_); go_simp; refine hK _ ?_; clear hK K
  refine ws_ck rfl (fun K hK => ?_); go_simp; refine ⟨_, _, ⟨rfl, rfl⟩, hK _ _ ⟨_, fun w' hw' => (bring_wi _ _ _ _ hr.out hz.out _ _ HB.out w'), ?_⟩⟩; clear hK K; simp only [put_lit, List.set_cons_zero, List.set_cons_succ]
  refine ws_k rfl (fun K hK => ?_); go_simp; refine hK _ ?_; clear hK K
  refine ws_k rfl (fun K hK => ?_); go_simp; refine hK _ ?_; clear hK K
  refine ws_k rfl (fun K hK => ?_); go_simp; refine hK _ ?_; clear hK K
  rintro p5 w9 ⟨hb1, hl5, hp5⟩
  have hl6 : w.heap.size ≤ p5 := by have := hb.size; omega
  replace hb := hb.trans (hb1.mono hb.size)
  clear hb1 h0 hT
  simp only [put_lit, List.set_cons_zero, List.set_cons_succ]
  ((with_reducible apply wl_put75); exact rfl; exact rfl; exact hp5; intro w10 hbx hk hq; replace hb := hbx _ _ (by omega) hb; clear hp5; have hp5 := hq; clear hbx hk hq)
  refine wl_k rfl (fun K hK => ?_); go_simp; refine hK _ ?_; clear hK K
  refine onlyN_nil ?_
  go_upto_region 13 with (fail)
  by_cases he : er = 0
  · have HR := Lib.hid (HR0.out he)
    subst he
    go_upto_region 15 with (fail)
    apply wp_region_lit
    ((with_reducible apply wl_rowG); exact rfl; exact rfl; (first | exact rowL (by with_reducible assumption) | exact rowD (by with_reducible assumption) | exact rowR (by with_reducible assumption)))
    refine wl_ck rfl (fun K hK => ?_); go_simp; refine ⟨_, _, ⟨rfl, rfl⟩, hK _ _ ⟨_, text_any _ hrb.out _, ?_⟩⟩; clear hK K; rintro e w11 ⟨rfl, hb1⟩; refine ⟨_, rfl, ?_⟩; simp only [put_lit, List.set_cons_zero, List.set_cons_succ]
    replace hb := hb.trans (hb1.mono hb.size); clear hb1
    go_wp2_with fail
    exact bodyPost_ret (results_tmp2 rfl _ _ _) rfl ⟨by rw [HR.out]; rfl, hb⟩
  · have HR := Lib.hid (HR1.out he)
    go_wp2_with fail
    exact bodyPost_ret (results_tmp2 rfl _ _ _) rfl ⟨by rw [HR.out]; rfl, hb⟩
end Go.Proofs.YtclainfdeghgnaaDoor
namespace Go.Proofs.YtclainfdeghgnaaDoor
open Go.RowKit Go.Proofs.YtclainfdeghgnaaDoor.Nm

theorem lit_eq {m : ByteArray} {L : List UInt8} (h : m.data.toList = L) {l : List UInt8} {b : Bool} (hb : (L == l) = b) : (m.toList == l) = b := by
  rw [ByteArray.toList_eq, h]; exact hb
set_option maxHeartbeats 400000 in
theorem exact_add (op : ByteArray) (bits : Int) (s : Bool) (x y : Int) (hop : op.data.toList = [43]) (hz : Hid (x.natAbs + y.natAbs < 10 ^ 64)) (w : World) :
    Calls Tryd.prog 35 #[.agg (wi bits s), .string op, .agg (lv x), .agg (lv y)] w fun e w' => e = .returned (.agg (lv (x + y))) ∧ Below w.heap.size w w' := by
  have l1 := lit_eq hop (l := [43]) rfl
  clear hop
  go_enter Tryd.func35, Tryd.ntmps35
  go_upto_region 1 with (fail)
  refine wp_world (fun W => W.heap[w.heap.size]? = some (.cells (wi bits s) 62 (0, 0)) ∧ W.heap[w.heap.size + 1]? = some (.cells (lv x) 69 (0, 0)) ∧ W.heap[w.heap.size + 1 + 1]? = some (.cells (lv y) 69 (0, 0)) ∧ W.heap[w.heap.size + 1 + 1 + 1]? = some (.cells (lv 0) 69 (0, 0)) ∧ Below w.heap.size w W) ⟨ha_old (ha_old (ha_old (ha_new rfl))), ha_old (ha_old (ha_new (by simp))), ha_old (ha_new (by simp)), by rw [← zero_long]; exact ha_new (by simp), ((((Below.refl _ _).alloc (Nat.le_refl _) _).alloc (by simp) _).alloc (by simp; omega) _).alloc (by simp; omega) _⟩ ?_
  rintro W ⟨h0, h1, h2, h3, hb⟩
  go_upto_region 3 with (fail)
  apply wp_region_lit
  ((with_reducible apply wl_rowG); exact rfl; exact rfl; (first | exact rowL (by with_reducible assumption) | exact rowD (by with_reducible assumption) | exact rowR (by with_reducible assumption)))
  ((with_reducible apply wl_rowG); exact rfl; exact rfl; (first | exact rowL (by with_reducible assumption) | exact rowD (by with_reducible assumption) | exact rowR (by with_reducible assumption)))
  refine wl_ck rfl (fun K hK => ?_); go_simp; refine ⟨_, _, ⟨rfl, rfl⟩, hK _ _ ⟨_, add_any _ _ hz.out _, ?_⟩⟩; clear hK K; rintro e w1 ⟨rfl, hb1⟩; refine ⟨_, rfl, ?_⟩; simp only [put_lit, List.set_cons_zero, List.set_cons_succ]
  replace h3 := below_look hb1 h3; replace hb := hb.trans (hb1.mono hb.size); clear hb1
  ((with_reducible apply wl_put75); exact rfl; exact rfl; exact h3; intro w12 hbx hk hq; replace hb := hbx _ _ (by omega) hb; clear h3; have h3 := hq; clear hbx hk hq)
  go_wp2_with fail
  exact bodyPost_ret (res_long rfl _ _ (w.heap.size + 1 + 1 + 1) rfl h3) rfl ⟨rfl, hb⟩
end Go.Proofs.YtclainfdeghgnaaDoor
namespace Go.Proofs.YtclainfdeghgnaaDoor
open Go.RowKit Go.Proofs.YtclainfdeghgnaaDoor.Nm

/-- A decimal by value. -/
def dc (u k : Int) : Array Value := #[.int .i64 u, .int .i64 k]
def validD (u k : Int) : Bool := decide (-100000000000000000 ≤ u) && decide (u ≤ 100000000000000000) && decide (0 ≤ k) && decide (k ≤ 9)
theorem info33 : (Tryd.prog.info? 23).map (·.size) = some 2 := by kernel_rfl
theorem u33 : Tryd.prog.underlying 23 = some (.struct (Tryd.prog.fieldsOf 23)) := by kernel_rfl
theorem rowDc {w : World} {b : Nat} {u k : Int} {t : TypeId} {fr : Nat × Nat} (hb : w.heap[b]? = some (.cells (dc u k) t fr)) : RowAt w 23 ⟨b, 0, none⟩ (dc u k) := row_mid hb (D := dc u k) (n := 2) rfl u33 rfl rfl info33
theorem dc0 {w : World} {b : Nat} {u k : Int} {t : TypeId} {fr : Nat × Nat} (hb : w.heap[b]? = some (.cells (dc u k) t fr)) : w.cell? ⟨b, 0, none⟩ = some (.int .i64 u) := by rw [cell_of_row _ _ _ _ _ _ hb]; rfl
theorem dc1 {w : World} {b : Nat} {u k : Int} {t : TypeId} {fr : Nat × Nat} (hb : w.heap[b]? = some (.cells (dc u k) t fr)) : w.cell? ⟨b, 1, none⟩ = some (.int .i64 k) := by rw [cell_of_row _ _ _ _ _ _ hb]; rfl
set_option maxHeartbeats 400000 in
theorem ValidDecimal_any (u k : Int) (R : Bool) (HR : Hid (R = validD u k)) (w : World) :
    Calls Tryd.prog 9 #[.agg (dc u k)] w fun e w' => e = .returned (.bool R) ∧ Below w.heap.size w w' := by
  go_enter Tryd.func9, Tryd.ntmps9
  go_upto_region 1 with (fail)
  refine wp_world (fun W => W.heap[w.heap.size]? = some (.cells (dc u k) 23 (0, 0)) ∧ Below w.heap.size w W) ⟨ha_new rfl, ((Below.refl _ _).alloc (Nat.le_refl _) _)⟩ ?_
  rintro W ⟨h0, hb⟩
  have c0 := dc0 h0
  have c1 := dc1 h0
  go_wp2_with fail
  all_goals
    go_ret
    refine ⟨congrArg (fun b => Ending.returned (.bool b)) (?_ : _ = R), hb⟩
    rw [HR.out]
    clear HR h0 hb c0 c1
    unfold validD
    first
    | (simp [*]; done)
    | (simp [*]; omega)
set_option maxHeartbeats 400000 in
theorem valid1_any (u k : Int) (R : Bool) (HR : Hid (R = validD u k)) (w : World) :
    Calls Tryd.prog 23 #[.agg (dc u k)] w fun e w' => e = .returned (.bool (!R)) ∧ Below w.heap.size w w' := by
  go_enter Tryd.func23, Tryd.ntmps23
  go_upto_region 1 with (fail)
  refine wp_world (fun W => W.heap[w.heap.size]? = some (.cells (dc u k) 23 (0, 0)) ∧ Below w.heap.size w W) ⟨ha_new rfl, ((Below.refl _ _).alloc (Nat.le_refl _) _)⟩ ?_
  rintro W ⟨h0, hb⟩
  apply wp_region_lit
  ((with_reducible apply wl_rowG); exact rfl; exact rfl; exact rowDc (by with_reducible assumption))
  refine wl_ck rfl (fun K hK => ?_); go_simp; refine ⟨_, _, ⟨rfl, rfl⟩, hK _ _ ⟨_, ValidDecimal_any u k R HR _, ?_⟩⟩; clear hK K; rintro e w1 ⟨rfl, hb1⟩; refine ⟨_, rfl, ?_⟩; simp only [put_lit, List.set_cons_zero, List.set_cons_succ]
  replace hb := hb.trans (hb1.mono hb.size); clear hb1
  go_wp2_with fail
  go_ret
  exact ⟨rfl, hb⟩
/-- The cells of decimals side by side. -/
def flatD (ds : List (Int × Int)) : Array Value := (ds.flatMap fun d => [Value.int .i64 d.1, .int .i64 d.2]).toArray
theorem flatD_get (ds : List (Int × Int)) (k : Nat) (hk : k < ds.length) : (flatD ds)[k * 2]? = some (.int .i64 ds[k].1) ∧ (flatD ds)[k * 2 + 1]? = some (.int .i64 ds[k].2) := by
  unfold flatD
  simp only [List.getElem?_toArray]
  induction ds generalizing k with
  | nil => simp at hk
  | cons d ds ih =>
    cases k with
    | zero => simp
    | succ k =>
      have := ih k (by simpa using hk)
      have e1 : (k + 1) * 2 = k * 2 + 1 + 1 := by omega
      rw [e1]
      simpa using this
theorem decs0 {w : World} {b k : Nat} {ds : List (Int × Int)} {t : TypeId} {fr : Nat × Nat} (hb : w.heap[b]? = some (.cells (flatD ds) t fr)) (hk : k < ds.length) : w.cell? ⟨b, k * 2, none⟩ = some (.int .i64 ds[k].1) := by
  rw [cell_of_row _ _ _ _ _ _ hb]; exact (flatD_get ds k hk).1
theorem decs1 {w : World} {b k : Nat} {ds : List (Int × Int)} {t : TypeId} {fr : Nat × Nat} (hb : w.heap[b]? = some (.cells (flatD ds) t fr)) (hk : k < ds.length) : w.cell? ⟨b, k * 2 + 1, none⟩ = some (.int .i64 ds[k].2) := by
  rw [cell_of_row _ _ _ _ _ _ hb]; exact (flatD_get ds k hk).2
def allD (ds : List (Int × Int)) : Bool := ds.all fun d => validD d.1 d.2

set_option maxHeartbeats 1000000 in
theorem IndexFunc_any (g c : Nat) (ds : List (Int × Int)) (hn : ds.length ≤ 1000) (w : World) (hg : w.heap[g]? = some (.cells (flatD ds) 23 (0, 0))) :
    Calls Tryd.prog 45 #[.slice (some ⟨g, 0, none⟩) ds.length c, .func (.func 23) #[] #[]] w fun e w' => ∃ r, e = .returned (.int .i64 r) ∧ ((r < 0 ∧ allD ds = true) ∨ (0 ≤ r ∧ allD ds = false)) ∧ Below w.heap.size w w' := by
  have lt0 := heap_lt hg
  go_enter Tryd.func45, Tryd.ntmps45
  go_wp2_with fail
  go_loopw [8] (fun i wr => ∃ k : Nat, k ≤ ds.length ∧ i = .int .i64 k ∧ Hid (∀ j, (h : j < ds.length) → j < k → validD ds[j].1 ds[j].2 = true) ∧ wr.heap[g]? = some (.cells (flatD ds) 23 (0, 0)) ∧ Below w.heap.size w wr) (fun i _ => (ds.length - intOf i).toNat)
  case atStart => exact ⟨0, by omega, rfl, Lib.hid (fun j _ hj => absurd hj (by omega)), hg, Below.refl _ _⟩
  case round =>
    obtain ⟨k, hk, rfl, HV, h0, hb⟩ := hrel
    by_cases hc : k < ds.length
    · have a0 := decs0 h0 hc
      have a1 := decs1 h0 hc
      obtain ⟨u, hu⟩ : ∃ u, u = ds[k].1 := ⟨_, rfl⟩
      obtain ⟨q, hq⟩ : ∃ q, q = ds[k].2 := ⟨_, rfl⟩
      rw [← hu] at a0
      rw [← hq] at a1
      have HU := Lib.hid hu
      have HQ := Lib.hid hq
      clear hu hq
      cases hv : validD u q
      · have HVF := Lib.hid hv
        clear hv
        go_wp2_with (go_at_call 23; refine (valid1_any u q false (Lib.hid HVF.out.symm) _).mono ?_)
        rintro e w1 ⟨rfl, hb1⟩
        replace hb := hb.trans (hb1.mono hb.size)
        go_wp2_with fail
        go_ret
        refine ⟨_, rfl, Or.inr ⟨by omega, ?_⟩, hb⟩
        unfold allD
        rw [List.all_eq_false]
        exact ⟨ds[k], List.getElem_mem _, by rw [← HU.out, ← HQ.out, HVF.out]; simp⟩
      · have HVT := Lib.hid hv
        clear hv
        go_wp2_with (go_at_call 23; refine (valid1_any u q true (Lib.hid HVT.out.symm) _).mono ?_)
        rintro e w1 ⟨rfl, hb1⟩
        replace h0 := below_look hb1 h0
        replace hb := hb.trans (hb1.mono hb.size)
        clear a0 a1 hb1
        go_wp2_with fail
        go_roundw
        case rel =>
          refine ⟨k + 1, by omega, by go_num, Lib.hid ?_, h0, hb⟩
          intro i hi1 hi
          rcases Nat.lt_or_ge i k with h | h
          · exact HV.out i hi1 h
          · obtain rfl : i = k := by omega
            rw [← HU.out, ← HQ.out]; exact HVT.out
        case measure => simp [intOf]; omega
    · obtain rfl : k = ds.length := by omega
      go_wp2_with fail
      go_ret
      refine ⟨_, rfl, Or.inl ⟨by omega, ?_⟩, hb⟩
      unfold allD
      rw [List.all_eq_true]
      intro d hd
      obtain ⟨i, hi, rfl⟩ := List.mem_iff_getElem.1 hd
      exact HV.out i hi hi
set_option maxHeartbeats 400000 in
theorem ContainsFunc_any (g c : Nat) (ds : List (Int × Int)) (hn : ds.length ≤ 1000) (w : World) (hg : w.heap[g]? = some (.cells (flatD ds) 23 (0, 0))) (R : Bool) (HR : Hid (R = allD ds)) :
    Calls Tryd.prog 22 #[.slice (some ⟨g, 0, none⟩) ds.length c, .func (.func 23) #[] #[]] w fun e w' => e = .returned (.bool (!R)) ∧ Below w.heap.size w w' := by
  go_enter Tryd.func22, Tryd.ntmps22
  go_wp2_with (go_at_call 45; refine (IndexFunc_any g c ds hn w hg).mono ?_)
  rintro e w1 ⟨r, rfl, hr, hb⟩
  rcases hr with ⟨hr, ha⟩ | ⟨hr, ha⟩
  · rw [ha] at HR
    go_wp2_with fail
    go_ret
    refine ⟨congrArg (fun b => Ending.returned (.bool b)) (?_ : _ = !R), hb⟩
    rw [HR.out]
    first | rfl | (simp; omega)
  · rw [ha] at HR
    go_wp2_with fail
    go_ret
    refine ⟨congrArg (fun b => Ending.returned (.bool b)) (?_ : _ = !R), hb⟩
    rw [HR.out]
    first | rfl | (simp; omega)
set_option maxHeartbeats 400000 in
theorem valid_any (g c : Nat) (ds : List (Int × Int)) (hn : ds.length ≤ 1000) (R : Bool) (HR : Hid (R = allD ds)) (w : World) (hg : w.heap[g]? = some (.cells (flatD ds) 23 (0, 0))) :
    Calls Tryd.prog 14 #[.slice (some ⟨g, 0, none⟩) ds.length c] w fun e w' => e = .returned (.bool R) ∧ Below w.heap.size w w' := by
  go_enter Tryd.func14, Tryd.ntmps14
  go_wp2_with (go_at_call 22; refine (ContainsFunc_any g c ds hn w hg R HR).mono ?_)
  rintro e w1 ⟨rfl, hb⟩
  go_wp2_with fail
  go_ret
  exact ⟨by simp, hb⟩
end Go.Proofs.YtclainfdeghgnaaDoor
namespace Go.Proofs.YtclainfdeghgnaaDoor
open Go.RowKit Go.Proofs.YtclainfdeghgnaaDoor.Nm

def roundTexts : List ByteArray := [⟨#[100, 111, 119, 110]⟩, ⟨#[102, 108, 111, 111, 114]⟩, ⟨#[104, 97, 108, 102]⟩, ⟨#[101, 118, 101, 110]⟩]
def isRoundL (l : List UInt8) : Bool := l == [100, 111, 119, 110] || l == [102, 108, 111, 111, 114] || l == [104, 97, 108, 102] || l == [101, 118, 101, 110]
theorem isRound_mem (m : ByteArray) : Lib.containsS roundTexts m = isRoundL m.data.toList := by
  rw [Bool.eq_iff_iff, Lib.containsS_iff]
  unfold roundTexts isRoundL
  simp only [List.mem_cons, List.not_mem_nil, or_false, bytes_eq, Bool.or_eq_true, beq_iff_eq, or_assoc]
def roundCells : Array Value := #[.string ⟨#[100, 111, 119, 110]⟩, .string ⟨#[102, 108, 111, 111, 114]⟩, .string ⟨#[104, 97, 108, 102]⟩, .string ⟨#[101, 118, 101, 110]⟩]
theorem contains_rounds (g : Nat) (m : ByteArray) (R : Bool) (HR : Hid (R = isRoundL m.data.toList)) (w : World) (hg : w.heap[g]? = some (.cells (roundCells) 9 (0, 0))) :
    Calls Tryd.prog 30 #[.slice (some ⟨g, 0, none⟩) 4 4, .string m] w fun e w' => e = .returned (.bool R) ∧ Below w.heap.size w w' := by
  refine (Tryd.slices_Contains_string g 0 4 4 roundTexts m _ (by decide) (by decide) ?_).mono ?_
  · intro j hj
    rw [cell_of_row _ _ _ _ _ _ hg]
    match j, hj with
    | 0, _ | 1, _ | 2, _ | 3, _ => rfl
  · rintro e w1 ⟨rfl, rfl⟩
    rw [show roundTexts.take 4 = roundTexts from rfl, isRound_mem, ← HR.out]
    exact ⟨rfl, Below.refl _ _⟩

def refusedS (ds : List (Int × Int)) (scale : Int) (mode : List UInt8) : Int :=
  if allD ds = false then 4 else if isRoundL mode = false then 3 else if scale < 0 ∨ 9 < scale then 1 else 0
set_option maxHeartbeats 400000 in
theorem refused_any (g c : Nat) (ds : List (Int × Int)) (hn : ds.length ≤ 1000) (scale : Int) (m : ByteArray) (E : Int) (HE : Hid (E = refusedS ds scale m.data.toList)) (w : World) (hg : w.heap[g]? = some (.cells (flatD ds) 23 (0, 0))) :
    Calls Tryd.prog 37 #[.int .i64 scale, .string m, .slice (some ⟨g, 0, none⟩) ds.length c] w fun e w' => e = .returned (.int .i64 E) ∧ Below w.heap.size w w' := by
  cases hv : allD ds
  · have HV := Lib.hid hv
    clear hv
    go_enter Tryd.func37, Tryd.ntmps37
    go_wp2_with (go_at_call 14; refine (valid_any g c ds hn false (Lib.hid HV.out.symm) w hg).mono ?_)
    rintro e w1 ⟨rfl, hb⟩
    go_wp2_with fail
    go_ret
    refine ⟨congrArg (fun b => Ending.returned (.int .i64 b)) (?_ : _ = E), hb⟩
    rw [HE.out, refusedS, if_pos HV.out]
  · have HV := Lib.hid hv
    clear hv
    cases hm : isRoundL m.data.toList
    · have HM := Lib.hid hm
      clear hm
      go_enter Tryd.func37, Tryd.ntmps37
      go_wp2_with (go_at_call 14; refine (valid_any g c ds hn true (Lib.hid HV.out.symm) w hg).mono ?_)
      rintro e w1 ⟨rfl, hb⟩
      go_wp2_with (go_at_call 30; refine (contains_rounds w1.heap.size _ false (Lib.hid HM.out.symm) _ (ha_new rfl)).mono ?_)
      rintro e w2 ⟨rfl, hb2⟩
      replace hb := (hb.alloc hb.size _).trans (hb2.mono (by have := hb.size; simp; omega))
      go_wp2_with fail
      go_ret
      refine ⟨congrArg (fun b => Ending.returned (.int .i64 b)) (?_ : _ = E), hb⟩
      rw [HE.out, refusedS, if_neg (by rw [HV.out]; simp), if_pos HM.out]
    · have HM := Lib.hid hm
      clear hm
      go_enter Tryd.func37, Tryd.ntmps37
      go_wp2_with (go_at_call 14; refine (valid_any g c ds hn true (Lib.hid HV.out.symm) w hg).mono ?_)
      rintro e w1 ⟨rfl, hb⟩
      go_wp2_with (go_at_call 30; refine (contains_rounds w1.heap.size _ true (Lib.hid HM.out.symm) _ (ha_new rfl)).mono ?_)
      rintro e w2 ⟨rfl, hb2⟩
      replace hb := (hb.alloc hb.size _).trans (hb2.mono (by have := hb.size; simp; omega))
      have HE2 : Hid (E = if scale < 0 ∨ 9 < scale then 1 else 0) := Lib.hid (by rw [HE.out, refusedS, if_neg (by rw [HV.out]; simp), if_neg (by rw [HM.out]; simp)])
      go_wp2_with fail
      all_goals
        go_ret
        refine ⟨congrArg (fun b => Ending.returned (.int .i64 b)) (?_ : _ = E), hb⟩
        rw [HE2.out]
        first
        | (rw [if_pos (by omega)])
        | (rw [if_neg (by omega)])
end Go.Proofs.YtclainfdeghgnaaDoor
namespace Go.Proofs.YtclainfdeghgnaaDoor
open Go.RowKit Go.Proofs.YtclainfdeghgnaaDoor.Nm

theorem res_decErr {fn : Func} {p q : Tmp} (h : fn.results = #[.cell p 23, .tmp q]) (tmps : Array Value) (w : World) (g : Nat) (hp : tmps.getD p undef = .pointer (some ⟨g, 0, none⟩)) {u k : Int}
    (hg : w.heap[g]? = some (.cells (dc u k) 23 (0, 0))) : (results fn tmps).run Tryd.prog w = .ok (.tuple #[.agg (dc u k), tmps.getD q undef]) w := by
  have hp' : tmps[p]?.getD undef = .pointer (some ⟨g, 0, none⟩) := by simpa using hp
  have l1 : (loadVar 23 ⟨g, 0, none⟩).run Tryd.prog w = .ok (.agg (dc u k)) w := by have := rowDc hg; unfold RowAt at this; exact this
  rw [results_cell_tmp h]
  simp [hp', asAddr, l1, Result.andThen]
theorem run_fld (w : World) (b : Bool) (f : Nat → Nat) : (Instr.field 69 (.agg (#[.bool b] ++ row f)) 1).run Tryd.prog w = .ok (.agg (row f)) w := by kernel_rfl
theorem ex_fld {ev : Operand → Value} {o : Oper} (x : Operand) (ho : o.op = .field 69 x 1) {z : Int} (hx : ev x = .agg (lv z)) (w : World) :
    (execOp ev o).run Tryd.prog w = .ok (.value (.agg (dv z.natAbs))) w := by
  have h := run_fld w (ng z) (dg z.natAbs)
  unfold execOp
  simp only [ho]
  simp [hx]
  rw [show lv z = #[.bool (ng z)] ++ row (dg z.natAbs) from rfl, h]
  rfl
theorem cmp_over {z : Int} (hz : z.natAbs < 10 ^ 64) (hc : 100000000000000000 < z.natAbs) : 0 < cmpD z.natAbs (100000000000000000 : Int).natAbs := by
  have h := cmpD_spec (b := (100000000000000000 : Int).natAbs) hz (by decide)
  exact h.2.2.2 (by simpa using hc)
theorem cmp_under {z : Int} (hz : z.natAbs < 10 ^ 64) (hc : z.natAbs ≤ 100000000000000000) : cmpD z.natAbs (100000000000000000 : Int).natAbs ≤ 0 := by
  have h := cmpD_spec (b := (100000000000000000 : Int).natAbs) hz (by decide)
  have h2 := h.2.2
  have h3 : ¬ (100000000000000000 : Int).natAbs < z.natAbs := by simpa using hc
  omega
set_option maxHeartbeats 400000 in
theorem made_over (z : Int) (scale : Int) (hz : Hid (z.natAbs < 10 ^ 64)) (hc : Hid (100000000000000000 < z.natAbs)) (w : World) :
    Calls Tryd.prog 40 #[.agg (lv z), .int .i64 scale] w fun e w' => e = .returned (.tuple #[.agg (dc 0 0), .int .i64 2]) ∧ Below w.heap.size w w' := by
  have hq := cmp_over hz.out hc.out
  generalize hB : (100000000000000000 : Int).natAbs = B at hq
  go_enter Tryd.func40, Tryd.ntmps40
  go_upto_region 1 with (fail)
  refine wp_world (fun W => W.heap[w.heap.size]? = some (.cells (lv z) 69 (0, 0)) ∧ W.heap[w.heap.size + 1]? = some (.cells (dc 0 0) 23 (0, 0)) ∧ Below w.heap.size w W) ⟨ha_old (ha_new rfl), ha_new (by simp), ((Below.refl _ _).alloc (Nat.le_refl _) _).alloc (by simp) _⟩ ?_
  rintro W ⟨h0, h1, hb⟩
  refine wp_region_belowAll mixed (by kernel_rfl) ?_
  refine wq_k rfl (fun K hK => ?_); go_simp; refine hK _ ?_; clear hK K
  ((with_reducible apply wq_row); exact rfl; exact rfl; (intro w' hw'; first | exact rowL (below_look hw' (by with_reducible assumption)) | exact rowD (below_look hw' (by with_reducible assumption)) | exact rowR (below_look hw' (by with_reducible assumption))))
  refine wq_ck rfl (fun K hK => ?_); go_simp; refine ⟨_, _, ⟨rfl, rfl⟩, hK _ _ ⟨_, fun w' hw' => calls_class hw' (small_any _ (by decide) (by decide) w'), ?_⟩⟩; clear hK K; simp only [put_lit, List.set_cons_zero, List.set_cons_succ]
  refine wq_val rfl (fun w' _ => ex_fld _ rfl rfl w') ?_; simp only [put_lit, List.set_cons_zero, List.set_cons_succ]
  refine wq_ck rfl (fun K hK => ?_); go_simp; refine ⟨_, _, ⟨rfl, rfl⟩, hK _ _ ⟨_, fun w' hw' => calls_class hw' (compareDigits_any _ _ w'), ?_⟩⟩; clear hK K; simp only [put_lit, List.set_cons_zero, List.set_cons_succ]
  refine wq_k rfl (fun K hK => ?_); go_simp; refine hK _ ?_; clear hK K
  intro w1 hb1
  replace h0 := below_look hb1 h0; replace h1 := below_look hb1 h1; replace hb := hb.trans (hb1.mono hb.size); clear hb1
  clear hq hB
  have c0 := dc0 h1
  have c1 := dc1 h1
  have f0 : w1.frozen? ⟨w.heap.size + 1, 0, none⟩ = false := frozen_of_row _ _ _ _ _ h1
  have f1 : w1.frozen? ⟨w.heap.size + 1, 1, none⟩ = false := frozen_of_row _ _ _ _ _ h1
  go_wp2_with fail
  exact bodyPost_ret (res_decErr rfl _ _ (w.heap.size + 1) rfl ((hs_new (hs_new h1)).trans rfl)) rfl ⟨rfl, (hb.setCell (by simp) _).setCell (by simp) _⟩
set_option maxHeartbeats 400000 in
theorem made_ok (z : Int) (scale : Int) (hz : Hid (z.natAbs < 10 ^ 64)) (hc : Hid (z.natAbs ≤ 100000000000000000)) (w : World) :
    Calls Tryd.prog 40 #[.agg (lv z), .int .i64 scale] w fun e w' => e = .returned (.tuple #[.agg (dc z scale), .int .i64 0]) ∧ Below w.heap.size w w' := by
  have hq := cmp_under hz.out hc.out
  generalize hB : (100000000000000000 : Int).natAbs = B at hq
  go_enter Tryd.func40, Tryd.ntmps40
  go_upto_region 1 with (fail)
  refine wp_world (fun W => W.heap[w.heap.size]? = some (.cells (lv z) 69 (0, 0)) ∧ W.heap[w.heap.size + 1]? = some (.cells (dc 0 0) 23 (0, 0)) ∧ Below w.heap.size w W) ⟨ha_old (ha_new rfl), ha_new (by simp), ((Below.refl _ _).alloc (Nat.le_refl _) _).alloc (by simp) _⟩ ?_
  rintro W ⟨h0, h1, hb⟩
  refine wp_region_belowAll mixed (by kernel_rfl) ?_
  refine wq_k rfl (fun K hK => ?_); go_simp; refine hK _ ?_; clear hK K
  ((with_reducible apply wq_row); exact rfl; exact rfl; (intro w' hw'; first | exact rowL (below_look hw' (by with_reducible assumption)) | exact rowD (below_look hw' (by with_reducible assumption)) | exact rowR (below_look hw' (by with_reducible assumption))))
  refine wq_ck rfl (fun K hK => ?_); go_simp; refine ⟨_, _, ⟨rfl, rfl⟩, hK _ _ ⟨_, fun w' hw' => calls_class hw' (small_any _ (by decide) (by decide) w'), ?_⟩⟩; clear hK K; simp only [put_lit, List.set_cons_zero, List.set_cons_succ]
  refine wq_val rfl (fun w' _ => ex_fld _ rfl rfl w') ?_; simp only [put_lit, List.set_cons_zero, List.set_cons_succ]
  refine wq_ck rfl (fun K hK => ?_); go_simp; refine ⟨_, _, ⟨rfl, rfl⟩, hK _ _ ⟨_, fun w' hw' => calls_class hw' (compareDigits_any _ _ w'), ?_⟩⟩; clear hK K; simp only [put_lit, List.set_cons_zero, List.set_cons_succ]
  refine wq_k rfl (fun K hK => ?_); go_simp; refine hK _ ?_; clear hK K
  intro w1 hb1
  replace h0 := below_look hb1 h0; replace h1 := below_look hb1 h1; replace hb := hb.trans (hb1.mono hb.size); clear hb1
  clear hB
  go_upto_region 3 with (fail)
  clear hq
  apply wp_region_lit
  ((with_reducible apply wl_rowG); exact rfl; exact rfl; (first | exact rowL (by with_reducible assumption) | exact rowD (by with_reducible assumption) | exact rowR (by with_reducible assumption)))
  refine wl_ck rfl (fun K hK => ?_); go_simp; refine ⟨_, _, ⟨rfl, rfl⟩, hK _ _ ⟨_, toInt_any _ (by have := hc.out; omega) _, ?_⟩⟩; clear hK K; rintro e w2 ⟨rfl, hb1⟩; refine ⟨_, rfl, ?_⟩; simp only [put_lit, List.set_cons_zero, List.set_cons_succ]
  replace h0 := below_look hb1 h0; replace h1 := below_look hb1 h1; replace hb := hb.trans (hb1.mono hb.size); clear hb1
  have c0 := dc0 h1
  have c1 := dc1 h1
  have f0 : w2.frozen? ⟨w.heap.size + 1, 0, none⟩ = false := frozen_of_row _ _ _ _ _ h1
  have f1 : w2.frozen? ⟨w.heap.size + 1, 1, none⟩ = false := frozen_of_row _ _ _ _ _ h1
  go_wp2_with fail
  exact bodyPost_ret (res_decErr rfl _ _ (w.heap.size + 1) rfl ((hs_new (hs_new h1)).trans rfl)) rfl ⟨rfl, (hb.setCell (by simp) _).setCell (by simp) _⟩
end Go.Proofs.YtclainfdeghgnaaDoor
namespace Go.Proofs.YtclainfdeghgnaaDoor
open Go.RowKit Go.Proofs.YtclainfdeghgnaaDoor.Nm

/-- Whether a mode takes the magnitude up. -/
def upS (L : List UInt8) (neg : Bool) (q r b : Nat) : Bool :=
  if L = [102, 108, 111, 111, 114] then neg && decide (r ≠ 0)
  else if L = [104, 97, 108, 102] then decide (b ≤ r + r)
  else if L = [101, 118, 101, 110] then decide (b < r + r) || (decide (r + r = b) && decide (q % 2 = 1))
  else false
def roundS (L : List UInt8) (a b : Int) : Int :=
  sg (ng a != ng b) (a.natAbs / b.natAbs + if upS L (ng a != ng b) (a.natAbs / b.natAbs) (a.natAbs % b.natAbs) b.natAbs then 1 else 0)
set_option maxHeartbeats 400000 in
theorem rounded_down (a b : Int) (m : ByteArray) (hm : m.data.toList = [100, 111, 119, 110]) (BA : Hid (a.natAbs < 10 ^ 64)) (BB0 : Hid (0 < b.natAbs)) (BB : Hid (b.natAbs < 10 ^ 63)) (BQ : Hid (a.natAbs < 10 ^ 63)) (w : World) :
    Calls Tryd.prog 41 #[.agg (lv a), .agg (lv b), .string m] w fun e w' => e = .returned (.agg (lv (sg (ng a != ng b) (a.natAbs / b.natAbs)))) ∧ Below w.heap.size w w' := by
  have l1 := lit_eq hm (l := [102, 108, 111, 111, 114]) rfl
  have l2 := lit_eq hm (l := [104, 97, 108, 102]) rfl
  have l3 := lit_eq hm (l := [101, 118, 101, 110]) rfl
  clear hm
  go_enter Tryd.func41, Tryd.ntmps41
  go_upto_region 1 with (fail)
  refine wp_world (fun W => W.heap[w.heap.size]? = some (.cells (lv a) 69 (0, 0)) ∧ W.heap[w.heap.size + 1]? = some (.cells (lv b) 69 (0, 0)) ∧ W.heap[w.heap.size + 1 + 1]? = some (.cells (lv 0) 69 (0, 0)) ∧ Below w.heap.size w W) ⟨ha_old (ha_old (ha_new rfl)), ha_old (ha_new (by simp)), by rw [← zero_long]; exact ha_new (by simp), (((Below.refl _ _).alloc (Nat.le_refl _) _).alloc (by simp) _).alloc (by simp; omega) _⟩ ?_
  rintro W ⟨h0, h1, h2, hb⟩
  apply wp_region_lit
  refine wl_k rfl (fun K hK => ?_); go_simp; refine hK _ ?_; clear hK K
  ((with_reducible apply wl_rowG); exact rfl; exact rfl; (first | exact rowL (by with_reducible assumption) | exact rowD (by with_reducible assumption) | exact rowR (by with_reducible assumption)))
  refine wl_k rfl (fun K hK => ?_); go_simp; refine hK _ ?_; clear hK K
  ((with_reducible apply wl_rowG); exact rfl; exact rfl; (first | exact rowL (by with_reducible assumption) | exact rowD (by with_reducible assumption) | exact rowR (by with_reducible assumption)))
  refine wl_ck rfl (fun K hK => ?_); go_simp; refine ⟨_, _, ⟨rfl, rfl⟩, hK _ _ ⟨_, divDigits_any _ _ BA.out BB0.out BB.out _, ?_⟩⟩; clear hK K; rintro e w1 ⟨rfl, hb1⟩; refine ⟨_, rfl, ?_⟩; simp only [put_lit, List.set_cons_zero, List.set_cons_succ]
  replace h0 := below_look hb1 h0; replace h1 := below_look hb1 h1; replace h2 := below_look hb1 h2; replace hb := hb.trans (hb1.mono hb.size); clear hb1
  refine wl_k rfl (fun K hK => ?_); go_simp; refine hK _ ?_; clear hK K
  refine wl_k rfl (fun K hK => ?_); go_simp; refine hK _ ?_; clear hK K
  refine wl_k rfl (fun K hK => ?_); go_simp; refine hK _ ?_; clear hK K
  (have lth0p2 := heap_lt h0; have lth1p2 := heap_lt h1; have lth2p2 := heap_lt h2; have lsp2 := hb.size; (with_reducible apply wl_new73); intro w2 p2 hbn hlp2 hp2; replace h0 := below_look hbn h0; replace h1 := below_look hbn h1; replace h2 := below_look hbn h2; replace hb := hb.trans (hbn.mono hb.size); clear hbn)
  (have lth0p3 := heap_lt h0; have lth1p3 := heap_lt h1; have lth2p3 := heap_lt h2; have lthp2p3 := heap_lt hp2; have lsp3 := hb.size; (with_reducible apply wl_new73); intro w3 p3 hbn hlp3 hp3; replace h0 := below_look hbn h0; replace h1 := below_look hbn h1; replace h2 := below_look hbn h2; replace hp2 := below_look hbn hp2; replace hb := hb.trans (hbn.mono hb.size); clear hbn)
  ((with_reducible apply wl_put73); exact rfl; exact rfl; exact hp2; intro w4 hbx hk hq; replace h0 := hk _ _ (by omega) h0; replace h1 := hk _ _ (by omega) h1; replace h2 := hk _ _ (by omega) h2; replace hp3 := hk _ _ (by omega) hp3; replace hb := hbx _ _ (by omega) hb; clear hp2; have hp2 := hq; clear hbx hk hq)
  ((with_reducible apply wl_put73); exact rfl; exact rfl; exact hp3; intro w5 hbx hk hq; replace h0 := hk _ _ (by omega) h0; replace h1 := hk _ _ (by omega) h1; replace h2 := hk _ _ (by omega) h2; replace hp2 := hk _ _ (by omega) hp2; replace hb := hbx _ _ (by omega) hb; clear hp3; have hp3 := hq; clear hbx hk hq)
  have n0 : w5.cell? ⟨w.heap.size, 0, none⟩ = some (.bool (ng a)) := by rw [cell_of_row _ _ _ _ _ _ h0]; exact lv_neg a
  have n1 : w5.cell? ⟨w.heap.size + 1, 0, none⟩ = some (.bool (ng b)) := by rw [cell_of_row _ _ _ _ _ _ h1]; exact lv_neg b
  obtain ⟨q, hq⟩ : ∃ q, q = a.natAbs / b.natAbs := ⟨_, rfl⟩
  obtain ⟨r, hr⟩ : ∃ r, r = a.natAbs % b.natAbs := ⟨_, rfl⟩
  rw [← hq] at hp2
  rw [← hr] at hp3
  have QB : Hid (q + 1 < 10 ^ 64) := Lib.hid (by
    have h1 := Nat.div_le_self a.natAbs b.natAbs
    have h2 := BA.out
    have h3 : (10 : Nat) ^ 64 = 10000000000000000000000000000000000000000000000000000000000000000 := by decide
    have h4 := BQ.out
    omega)
  have RB : Hid (r < b.natAbs) := Lib.hid (by rw [hr]; exact Nat.mod_lt _ BB0.out)
  have HQ := Lib.hid hq
  have HR := Lib.hid hr
  clear hq hr
  go_upto_region 3 with (fail)
  refine wp_region_belowAll mixed (by kernel_rfl) ?_
  ((with_reducible apply wq_row); exact rfl; exact rfl; (intro w' hw'; first | exact rowL (below_look hw' (by with_reducible assumption)) | exact rowD (below_look hw' (by with_reducible assumption)) | exact rowR (below_look hw' (by with_reducible assumption))))
  ((with_reducible apply wq_row); exact rfl; exact rfl; (intro w' hw'; first | exact rowL (below_look hw' (by with_reducible assumption)) | exact rowD (below_look hw' (by with_reducible assumption)) | exact rowR (below_look hw' (by with_reducible assumption))))
  refine wq_ck rfl (fun K hK => ?_); go_simp; refine ⟨_, _, ⟨rfl, rfl⟩, hK _ _ ⟨_, fun w' hw' => calls_class hw' (addDigits_any _ _ w'), ?_⟩⟩; clear hK K; simp only [put_lit, List.set_cons_zero, List.set_cons_succ]
  refine wq_k rfl (fun K hK => ?_); go_simp; refine hK _ ?_; clear hK K
  ((with_reducible apply wq_row); exact rfl; exact rfl; (intro w' hw'; first | exact rowL (below_look hw' (by with_reducible assumption)) | exact rowD (below_look hw' (by with_reducible assumption)) | exact rowR (below_look hw' (by with_reducible assumption))))
  refine wq_ck rfl (fun K hK => ?_); go_simp; refine ⟨_, _, ⟨rfl, rfl⟩, hK _ _ ⟨_, fun w' hw' => calls_class hw' (compareDigits_any _ _ w'), ?_⟩⟩; clear hK K; simp only [put_lit, List.set_cons_zero, List.set_cons_succ]
  refine wq_k rfl (fun K hK => ?_); go_simp; refine hK _ ?_; clear hK K
  intro w6 hb1
  replace h0 := below_look hb1 h0; replace h1 := below_look hb1 h1; replace h2 := below_look hb1 h2; replace hp2 := below_look hb1 hp2; replace hp3 := below_look hb1 hp3; replace hb := hb.trans (hb1.mono hb.size); clear hb1
  have HT := cmpD_spec (a := r + r) (b := b.natAbs) (by have := RB.out; have := BB.out; have h3 : (10 : Nat) ^ 63 * 10 = 10 ^ 64 := by decide
                                                        omega) (Nat.lt_trans BB.out (by decide))
  generalize hTT : cmpD (r + r) b.natAbs = T at HT
  generalize hNN : (!(ng a == ng b)) = N
  clear n0 n1 hTT
  go_upto_region 14 with (fail)
  apply wp_region_lit
  ((with_reducible apply wl_rowG); exact rfl; exact rfl; (first | exact rowL (by with_reducible assumption) | exact rowD (by with_reducible assumption) | exact rowR (by with_reducible assumption)))
  refine wl_k rfl (fun K hK => ?_); go_simp; refine hK _ ?_; clear hK K
  refine wl_ck rfl (fun K hK => ?_); go_simp; refine ⟨_, _, ⟨rfl, rfl⟩, hK _ _ ⟨_, signed_any _ _ (by have := QB.out; omega) _, ?_⟩⟩; clear hK K; rintro e w7 ⟨rfl, hb1⟩; refine ⟨_, rfl, ?_⟩; simp only [put_lit, List.set_cons_zero, List.set_cons_succ]
  replace h2 := below_look hb1 h2; replace hb := hb.trans (hb1.mono hb.size); clear hb1
  ((with_reducible apply wl_put75); exact rfl; exact rfl; exact h2; intro w8 hbx hk hq; replace hb := hbx _ _ (by omega) hb; clear h2; have h2 := hq; clear hbx hk hq)
  go_wp2_with fail
  refine bodyPost_ret (res_long rfl _ _ (w.heap.size + 1 + 1) rfl h2) rfl ⟨?_, hb⟩
  rw [show (ng a != ng b) = N from hNN, HQ.out]
set_option maxHeartbeats 1000000 in
theorem rounded_floor (a b : Int) (m : ByteArray) (hm : m.data.toList = [102, 108, 111, 111, 114]) (BA : Hid (a.natAbs < 10 ^ 64)) (BB0 : Hid (0 < b.natAbs)) (BB : Hid (b.natAbs < 10 ^ 63)) (BQ : Hid (a.natAbs < 10 ^ 63)) (R : Int) (hR : Hid (R = roundS [102, 108, 111, 111, 114] a b)) (w : World) :
    Calls Tryd.prog 41 #[.agg (lv a), .agg (lv b), .string m] w fun e w' => e = .returned (.agg (lv R)) ∧ Below w.heap.size w w' := by
  have l1 := lit_eq hm (l := [102, 108, 111, 111, 114]) rfl
  have l2 := lit_eq hm (l := [104, 97, 108, 102]) rfl
  have l3 := lit_eq hm (l := [101, 118, 101, 110]) rfl
  clear hm
  go_enter Tryd.func41, Tryd.ntmps41
  go_upto_region 1 with (fail)
  refine wp_world (fun W => W.heap[w.heap.size]? = some (.cells (lv a) 69 (0, 0)) ∧ W.heap[w.heap.size + 1]? = some (.cells (lv b) 69 (0, 0)) ∧ W.heap[w.heap.size + 1 + 1]? = some (.cells (lv 0) 69 (0, 0)) ∧ Below w.heap.size w W) ⟨ha_old (ha_old (ha_new rfl)), ha_old (ha_new (by simp)), by rw [← zero_long]; exact ha_new (by simp), (((Below.refl _ _).alloc (Nat.le_refl _) _).alloc (by simp) _).alloc (by simp; omega) _⟩ ?_
  rintro W ⟨h0, h1, h2, hb⟩
  apply wp_region_lit
  refine wl_k rfl (fun K hK => ?_); go_simp; refine hK _ ?_; clear hK K
  ((with_reducible apply wl_rowG); exact rfl; exact rfl; (first | exact rowL (by with_reducible assumption) | exact rowD (by with_reducible assumption) | exact rowR (by with_reducible assumption)))
  refine wl_k rfl (fun K hK => ?_); go_simp; refine hK _ ?_; clear hK K
  ((with_reducible apply wl_rowG); exact rfl; exact rfl; (first | exact rowL (by with_reducible assumption) | exact rowD (by with_reducible assumption) | exact rowR (by with_reducible assumption)))
  refine wl_ck rfl (fun K hK => ?_); go_simp; refine ⟨_, _, ⟨rfl, rfl⟩, hK _ _ ⟨_, divDigits_any _ _ BA.out BB0.out BB.out _, ?_⟩⟩; clear hK K; rintro e w1 ⟨rfl, hb1⟩; refine ⟨_, rfl, ?_⟩; simp only [put_lit, List.set_cons_zero, List.set_cons_succ]
  replace h0 := below_look hb1 h0; replace h1 := below_look hb1 h1; replace h2 := below_look hb1 h2; replace hb := hb.trans (hb1.mono hb.size); clear hb1
  refine wl_k rfl (fun K hK => ?_); go_simp; refine hK _ ?_; clear hK K
  refine wl_k rfl (fun K hK => ?_); go_simp; refine hK _ ?_; clear hK K
  refine wl_k rfl (fun K hK => ?_); go_simp; refine hK _ ?_; clear hK K
  (have lth0p2 := heap_lt h0; have lth1p2 := heap_lt h1; have lth2p2 := heap_lt h2; have lsp2 := hb.size; (with_reducible apply wl_new73); intro w2 p2 hbn hlp2 hp2; replace h0 := below_look hbn h0; replace h1 := below_look hbn h1; replace h2 := below_look hbn h2; replace hb := hb.trans (hbn.mono hb.size); clear hbn)
  (have lth0p3 := heap_lt h0; have lth1p3 := heap_lt h1; have lth2p3 := heap_lt h2; have lthp2p3 := heap_lt hp2; have lsp3 := hb.size; (with_reducible apply wl_new73); intro w3 p3 hbn hlp3 hp3; replace h0 := below_look hbn h0; replace h1 := below_look hbn h1; replace h2 := below_look hbn h2; replace hp2 := below_look hbn hp2; replace hb := hb.trans (hbn.mono hb.size); clear hbn)
  ((with_reducible apply wl_put73); exact rfl; exact rfl; exact hp2; intro w4 hbx hk hq; replace h0 := hk _ _ (by omega) h0; replace h1 := hk _ _ (by omega) h1; replace h2 := hk _ _ (by omega) h2; replace hp3 := hk _ _ (by omega) hp3; replace hb := hbx _ _ (by omega) hb; clear hp2; have hp2 := hq; clear hbx hk hq)
  ((with_reducible apply wl_put73); exact rfl; exact rfl; exact hp3; intro w5 hbx hk hq; replace h0 := hk _ _ (by omega) h0; replace h1 := hk _ _ (by omega) h1; replace h2 := hk _ _ (by omega) h2; replace hp2 := hk _ _ (by omega) hp2; replace hb := hbx _ _ (by omega) hb; clear hp3; have hp3 := hq; clear hbx hk hq)
  have n0 : w5.cell? ⟨w.heap.size, 0, none⟩ = some (.bool (ng a)) := by rw [cell_of_row _ _ _ _ _ _ h0]; exact lv_neg a
  have n1 : w5.cell? ⟨w.heap.size + 1, 0, none⟩ = some (.bool (ng b)) := by rw [cell_of_row _ _ _ _ _ _ h1]; exact lv_neg b
  obtain ⟨q, hq⟩ : ∃ q, q = a.natAbs / b.natAbs := ⟨_, rfl⟩
  obtain ⟨r, hr⟩ : ∃ r, r = a.natAbs % b.natAbs := ⟨_, rfl⟩
  rw [← hq] at hp2
  rw [← hr] at hp3
  have QB : Hid (q + 1 < 10 ^ 64) := Lib.hid (by
    have h1 := Nat.div_le_self a.natAbs b.natAbs
    have h2 := BA.out
    have h3 : (10 : Nat) ^ 64 = 10000000000000000000000000000000000000000000000000000000000000000 := by decide
    have h4 := BQ.out
    omega)
  have RB : Hid (r < b.natAbs) := Lib.hid (by rw [hr]; exact Nat.mod_lt _ BB0.out)
  have HQ := Lib.hid hq
  have HR := Lib.hid hr
  clear hq hr
  go_upto_region 3 with (fail)
  refine wp_region_belowAll mixed (by kernel_rfl) ?_
  ((with_reducible apply wq_row); exact rfl; exact rfl; (intro w' hw'; first | exact rowL (below_look hw' (by with_reducible assumption)) | exact rowD (below_look hw' (by with_reducible assumption)) | exact rowR (below_look hw' (by with_reducible assumption))))
  ((with_reducible apply wq_row); exact rfl; exact rfl; (intro w' hw'; first | exact rowL (below_look hw' (by with_reducible assumption)) | exact rowD (below_look hw' (by with_reducible assumption)) | exact rowR (below_look hw' (by with_reducible assumption))))
  refine wq_ck rfl (fun K hK => ?_); go_simp; refine ⟨_, _, ⟨rfl, rfl⟩, hK _ _ ⟨_, fun w' hw' => calls_class hw' (addDigits_any _ _ w'), ?_⟩⟩; clear hK K; simp only [put_lit, List.set_cons_zero, List.set_cons_succ]
  refine wq_k rfl (fun K hK => ?_); go_simp; refine hK _ ?_; clear hK K
  ((with_reducible apply wq_row); exact rfl; exact rfl; (intro w' hw'; first | exact rowL (below_look hw' (by with_reducible assumption)) | exact rowD (below_look hw' (by with_reducible assumption)) | exact rowR (below_look hw' (by with_reducible assumption))))
  refine wq_ck rfl (fun K hK => ?_); go_simp; refine ⟨_, _, ⟨rfl, rfl⟩, hK _ _ ⟨_, fun w' hw' => calls_class hw' (compareDigits_any _ _ w'), ?_⟩⟩; clear hK K; simp only [put_lit, List.set_cons_zero, List.set_cons_succ]
  refine wq_k rfl (fun K hK => ?_); go_simp; refine hK _ ?_; clear hK K
  intro w6 hb1
  replace h0 := below_look hb1 h0; replace h1 := below_look hb1 h1; replace h2 := below_look hb1 h2; replace hp2 := below_look hb1 hp2; replace hp3 := below_look hb1 hp3; replace hb := hb.trans (hb1.mono hb.size); clear hb1
  have HT := cmpD_spec (a := r + r) (b := b.natAbs) (by have := RB.out; have := BB.out; have h3 : (10 : Nat) ^ 63 * 10 = 10 ^ 64 := by decide
                                                        omega) (Nat.lt_trans BB.out (by decide))
  generalize hTT : cmpD (r + r) b.natAbs = T at HT
  generalize hNN : (!(ng a == ng b)) = N
  clear n0 n1 hTT
  go_upto_region 7 with (fail)
  have HN := Lib.hid hNN
  clear hNN
  have HTT := Lib.hid HT
  clear HT
  cases N
  · apply wp_region_lit
    refine wl_k rfl (fun K hK => ?_); go_simp; refine hK _ ?_; clear hK K
    refine wl_k rfl (fun K hK => ?_); go_simp; refine hK _ ?_; clear hK K
    refine wl_skip rfl ?_
    simp only [put_lit, List.set_cons_zero, List.set_cons_succ]
    refine wl_skip rfl ?_
    simp only [put_lit, List.set_cons_zero, List.set_cons_succ]
    refine wl_skip rfl ?_
    simp only [put_lit, List.set_cons_zero, List.set_cons_succ]
    refine wl_k rfl (fun K hK => ?_); go_simp; refine hK _ ?_; clear hK K
    refine wl_k rfl (fun K hK => ?_); go_simp; refine hK _ ?_; clear hK K
    go_upto_region 14 with (fail)
    apply wp_region_lit
    ((with_reducible apply wl_rowG); exact rfl; exact rfl; (first | exact rowL (by with_reducible assumption) | exact rowD (by with_reducible assumption) | exact rowR (by with_reducible assumption)))
    refine wl_k rfl (fun K hK => ?_); go_simp; refine hK _ ?_; clear hK K
    refine wl_ck rfl (fun K hK => ?_); go_simp; refine ⟨_, _, ⟨rfl, rfl⟩, hK _ _ ⟨_, signed_any _ _ (by have := QB.out; omega) _, ?_⟩⟩; clear hK K; rintro e w7 ⟨rfl, hb1⟩; refine ⟨_, rfl, ?_⟩; simp only [put_lit, List.set_cons_zero, List.set_cons_succ]
    replace h2 := below_look hb1 h2; replace hb := hb.trans (hb1.mono hb.size); clear hb1
    ((with_reducible apply wl_put75); exact rfl; exact rfl; exact h2; intro w8 hbx hk hq; replace hb := hbx _ _ (by omega) hb; clear h2; have h2 := hq; clear hbx hk hq)
    go_wp2_with fail
    refine bodyPost_ret (res_long rfl _ _ (w.heap.size + 1 + 1) rfl h2) rfl ⟨?_, hb⟩
    rw [hR.out, roundS, show (ng a != ng b) = false from HN.out, ← HQ.out, ← HR.out]
    simp [upS]
  · by_cases hr0 : r = 0
    · have HZ : Hid (decide (r ≠ 0) = false) := Lib.hid (by simpa using hr0)
      clear hr0
      apply wp_region_lit
      refine wl_k rfl (fun K hK => ?_); go_simp; refine hK _ ?_; clear hK K
      refine wl_k rfl (fun K hK => ?_); go_simp; refine hK _ ?_; clear hK K
      ((with_reducible apply wl_rowG); exact rfl; exact rfl; (first | exact rowL (by with_reducible assumption) | exact rowD (by with_reducible assumption) | exact rowR (by with_reducible assumption)))
      refine wl_wG rfl (ex_build 67 _ rfl (L := []) rfl built_zero) ?_
      simp only [put_lit, List.set_cons_zero, List.set_cons_succ]
      refine wl_wG rfl (by rw [ex_neq73 (a := r) (b := 0) _ _ _ rfl rfl rfl (by have := RB.out; have := BB.out; have h3 : (10 : Nat) ^ 63 * 10 = 10 ^ 64 := by decide
                                                                                omega) (by decide), HZ.out]) ?_
      simp only [put_lit, List.set_cons_zero, List.set_cons_succ]
      refine wl_k rfl (fun K hK => ?_); go_simp; refine hK _ ?_; clear hK K
      refine wl_k rfl (fun K hK => ?_); go_simp; refine hK _ ?_; clear hK K
      go_upto_region 14 with (fail)
      apply wp_region_lit
      ((with_reducible apply wl_rowG); exact rfl; exact rfl; (first | exact rowL (by with_reducible assumption) | exact rowD (by with_reducible assumption) | exact rowR (by with_reducible assumption)))
      refine wl_k rfl (fun K hK => ?_); go_simp; refine hK _ ?_; clear hK K
      refine wl_ck rfl (fun K hK => ?_); go_simp; refine ⟨_, _, ⟨rfl, rfl⟩, hK _ _ ⟨_, signed_any _ _ (by have := QB.out; omega) _, ?_⟩⟩; clear hK K; rintro e w7 ⟨rfl, hb1⟩; refine ⟨_, rfl, ?_⟩; simp only [put_lit, List.set_cons_zero, List.set_cons_succ]
      replace h2 := below_look hb1 h2; replace hb := hb.trans (hb1.mono hb.size); clear hb1
      ((with_reducible apply wl_put75); exact rfl; exact rfl; exact h2; intro w8 hbx hk hq; replace hb := hbx _ _ (by omega) hb; clear h2; have h2 := hq; clear hbx hk hq)
      go_wp2_with fail
      refine bodyPost_ret (res_long rfl _ _ (w.heap.size + 1 + 1) rfl h2) rfl ⟨?_, hb⟩
      rw [hR.out, roundS, show (ng a != ng b) = true from HN.out, ← HQ.out, ← HR.out]
      simp only [upS, if_true, HZ.out]
      simp
    · have HZ : Hid (decide (r ≠ 0) = true) := Lib.hid (by simpa using hr0)
      clear hr0
      apply wp_region_lit
      refine wl_k rfl (fun K hK => ?_); go_simp; refine hK _ ?_; clear hK K
      refine wl_k rfl (fun K hK => ?_); go_simp; refine hK _ ?_; clear hK K
      ((with_reducible apply wl_rowG); exact rfl; exact rfl; (first | exact rowL (by with_reducible assumption) | exact rowD (by with_reducible assumption) | exact rowR (by with_reducible assumption)))
      refine wl_wG rfl (ex_build 67 _ rfl (L := []) rfl built_zero) ?_
      simp only [put_lit, List.set_cons_zero, List.set_cons_succ]
      refine wl_wG rfl (by rw [ex_neq73 (a := r) (b := 0) _ _ _ rfl rfl rfl (by have := RB.out; have := BB.out; have h3 : (10 : Nat) ^ 63 * 10 = 10 ^ 64 := by decide
                                                                                omega) (by decide), HZ.out]) ?_
      simp only [put_lit, List.set_cons_zero, List.set_cons_succ]
      refine wl_k rfl (fun K hK => ?_); go_simp; refine hK _ ?_; clear hK K
      refine wl_k rfl (fun K hK => ?_); go_simp; refine hK _ ?_; clear hK K
      go_upto_region 13 with (fail)
      refine wp_region_below 4 mixed (by kernel_rfl) ?_; simp only [List.take_succ_cons, List.take_zero, List.drop_succ_cons, List.drop_zero]
      ((with_reducible apply wq_row); exact rfl; exact rfl; (intro w' hw'; first | exact rowL (below_look hw' (by with_reducible assumption)) | exact rowD (below_look hw' (by with_reducible assumption)) | exact rowR (below_look hw' (by with_reducible assumption))))
      refine wq_ck rfl (fun K hK => ?_); go_simp; refine ⟨_, _, ⟨rfl, rfl⟩, hK _ _ ⟨_, fun w' hw' => calls_class hw' (small_any _ (by decide) (by decide) w'), ?_⟩⟩; clear hK K; simp only [put_lit, List.set_cons_zero, List.set_cons_succ]
      refine wq_val rfl (fun w' _ => ex_fld _ rfl rfl w') ?_; simp only [put_lit, List.set_cons_zero, List.set_cons_succ]
      refine wq_ck rfl (fun K hK => ?_); go_simp; refine ⟨_, _, ⟨rfl, rfl⟩, hK _ _ ⟨_, fun w' hw' => calls_class hw' (addDigits_any _ _ w'), ?_⟩⟩; clear hK K; simp only [put_lit, List.set_cons_zero, List.set_cons_succ]
      intro w7 hb1
      replace h2 := below_look hb1 h2; replace hp2 := below_look hb1 hp2; replace hb := hb.trans (hb1.mono hb.size); clear hb1
      ((with_reducible apply wl_put73); exact rfl; exact rfl; exact hp2; intro w8 hbx hk hq; replace h2 := hk _ _ (by omega) h2; replace hb := hbx _ _ (by omega) hb; clear hp2; have hp2 := hq; clear hbx hk hq)
      go_upto_region 14 with (fail)
      apply wp_region_lit
      ((with_reducible apply wl_rowG); exact rfl; exact rfl; (first | exact rowL (by with_reducible assumption) | exact rowD (by with_reducible assumption) | exact rowR (by with_reducible assumption)))
      refine wl_k rfl (fun K hK => ?_); go_simp; refine hK _ ?_; clear hK K
      refine wl_ck rfl (fun K hK => ?_); go_simp; refine ⟨_, _, ⟨rfl, rfl⟩, hK _ _ ⟨_, signed_any _ _ (by have := QB.out; omega) _, ?_⟩⟩; clear hK K; rintro e w7 ⟨rfl, hb1⟩; refine ⟨_, rfl, ?_⟩; simp only [put_lit, List.set_cons_zero, List.set_cons_succ]
      replace h2 := below_look hb1 h2; replace hb := hb.trans (hb1.mono hb.size); clear hb1
      ((with_reducible apply wl_put75); exact rfl; exact rfl; exact h2; intro w8 hbx hk hq; replace hb := hbx _ _ (by omega) hb; clear h2; have h2 := hq; clear hbx hk hq)
      go_wp2_with fail
      refine bodyPost_ret (res_long rfl _ _ (w.heap.size + 1 + 1) rfl h2) rfl ⟨?_, hb⟩
      rw [hR.out, roundS, show (ng a != ng b) = true from HN.out, ← HQ.out, ← HR.out]
      simp only [upS, if_true, HZ.out]
      simp
set_option maxHeartbeats 1000000 in
theorem rounded_half (a b : Int) (m : ByteArray) (hm : m.data.toList = [104, 97, 108, 102]) (BA : Hid (a.natAbs < 10 ^ 64)) (BB0 : Hid (0 < b.natAbs)) (BB : Hid (b.natAbs < 10 ^ 63)) (BQ : Hid (a.natAbs < 10 ^ 63)) (R : Int) (hR : Hid (R = roundS [104, 97, 108, 102] a b)) (w : World) :
    Calls Tryd.prog 41 #[.agg (lv a), .agg (lv b), .string m] w fun e w' => e = .returned (.agg (lv R)) ∧ Below w.heap.size w w' := by
  have l1 := lit_eq hm (l := [102, 108, 111, 111, 114]) rfl
  have l2 := lit_eq hm (l := [104, 97, 108, 102]) rfl
  have l3 := lit_eq hm (l := [101, 118, 101, 110]) rfl
  clear hm
  go_enter Tryd.func41, Tryd.ntmps41
  go_upto_region 1 with (fail)
  refine wp_world (fun W => W.heap[w.heap.size]? = some (.cells (lv a) 69 (0, 0)) ∧ W.heap[w.heap.size + 1]? = some (.cells (lv b) 69 (0, 0)) ∧ W.heap[w.heap.size + 1 + 1]? = some (.cells (lv 0) 69 (0, 0)) ∧ Below w.heap.size w W) ⟨ha_old (ha_old (ha_new rfl)), ha_old (ha_new (by simp)), by rw [← zero_long]; exact ha_new (by simp), (((Below.refl _ _).alloc (Nat.le_refl _) _).alloc (by simp) _).alloc (by simp; omega) _⟩ ?_
  rintro W ⟨h0, h1, h2, hb⟩
  apply wp_region_lit
  refine wl_k rfl (fun K hK => ?_); go_simp; refine hK _ ?_; clear hK K
  ((with_reducible apply wl_rowG); exact rfl; exact rfl; (first | exact rowL (by with_reducible assumption) | exact rowD (by with_reducible assumption) | exact rowR (by with_reducible assumption)))
  refine wl_k rfl (fun K hK => ?_); go_simp; refine hK _ ?_; clear hK K
  ((with_reducible apply wl_rowG); exact rfl; exact rfl; (first | exact rowL (by with_reducible assumption) | exact rowD (by with_reducible assumption) | exact rowR (by with_reducible assumption)))
  refine wl_ck rfl (fun K hK => ?_); go_simp; refine ⟨_, _, ⟨rfl, rfl⟩, hK _ _ ⟨_, divDigits_any _ _ BA.out BB0.out BB.out _, ?_⟩⟩; clear hK K; rintro e w1 ⟨rfl, hb1⟩; refine ⟨_, rfl, ?_⟩; simp only [put_lit, List.set_cons_zero, List.set_cons_succ]
  replace h0 := below_look hb1 h0; replace h1 := below_look hb1 h1; replace h2 := below_look hb1 h2; replace hb := hb.trans (hb1.mono hb.size); clear hb1
  refine wl_k rfl (fun K hK => ?_); go_simp; refine hK _ ?_; clear hK K
  refine wl_k rfl (fun K hK => ?_); go_simp; refine hK _ ?_; clear hK K
  refine wl_k rfl (fun K hK => ?_); go_simp; refine hK _ ?_; clear hK K
  (have lth0p2 := heap_lt h0; have lth1p2 := heap_lt h1; have lth2p2 := heap_lt h2; have lsp2 := hb.size; (with_reducible apply wl_new73); intro w2 p2 hbn hlp2 hp2; replace h0 := below_look hbn h0; replace h1 := below_look hbn h1; replace h2 := below_look hbn h2; replace hb := hb.trans (hbn.mono hb.size); clear hbn)
  (have lth0p3 := heap_lt h0; have lth1p3 := heap_lt h1; have lth2p3 := heap_lt h2; have lthp2p3 := heap_lt hp2; have lsp3 := hb.size; (with_reducible apply wl_new73); intro w3 p3 hbn hlp3 hp3; replace h0 := below_look hbn h0; replace h1 := below_look hbn h1; replace h2 := below_look hbn h2; replace hp2 := below_look hbn hp2; replace hb := hb.trans (hbn.mono hb.size); clear hbn)
  ((with_reducible apply wl_put73); exact rfl; exact rfl; exact hp2; intro w4 hbx hk hq; replace h0 := hk _ _ (by omega) h0; replace h1 := hk _ _ (by omega) h1; replace h2 := hk _ _ (by omega) h2; replace hp3 := hk _ _ (by omega) hp3; replace hb := hbx _ _ (by omega) hb; clear hp2; have hp2 := hq; clear hbx hk hq)
  ((with_reducible apply wl_put73); exact rfl; exact rfl; exact hp3; intro w5 hbx hk hq; replace h0 := hk _ _ (by omega) h0; replace h1 := hk _ _ (by omega) h1; replace h2 := hk _ _ (by omega) h2; replace hp2 := hk _ _ (by omega) hp2; replace hb := hbx _ _ (by omega) hb; clear hp3; have hp3 := hq; clear hbx hk hq)
  have n0 : w5.cell? ⟨w.heap.size, 0, none⟩ = some (.bool (ng a)) := by rw [cell_of_row _ _ _ _ _ _ h0]; exact lv_neg a
  have n1 : w5.cell? ⟨w.heap.size + 1, 0, none⟩ = some (.bool (ng b)) := by rw [cell_of_row _ _ _ _ _ _ h1]; exact lv_neg b
  obtain ⟨q, hq⟩ : ∃ q, q = a.natAbs / b.natAbs := ⟨_, rfl⟩
  obtain ⟨r, hr⟩ : ∃ r, r = a.natAbs % b.natAbs := ⟨_, rfl⟩
  rw [← hq] at hp2
  rw [← hr] at hp3
  have QB : Hid (q + 1 < 10 ^ 64) := Lib.hid (by
    have h1 := Nat.div_le_self a.natAbs b.natAbs
    have h2 := BA.out
    have h3 : (10 : Nat) ^ 64 = 10000000000000000000000000000000000000000000000000000000000000000 := by decide
    have h4 := BQ.out
    omega)
  have RB : Hid (r < b.natAbs) := Lib.hid (by rw [hr]; exact Nat.mod_lt _ BB0.out)
  have HQ := Lib.hid hq
  have HR := Lib.hid hr
  clear hq hr
  go_upto_region 3 with (fail)
  refine wp_region_belowAll mixed (by kernel_rfl) ?_
  ((with_reducible apply wq_row); exact rfl; exact rfl; (intro w' hw'; first | exact rowL (below_look hw' (by with_reducible assumption)) | exact rowD (below_look hw' (by with_reducible assumption)) | exact rowR (below_look hw' (by with_reducible assumption))))
  ((with_reducible apply wq_row); exact rfl; exact rfl; (intro w' hw'; first | exact rowL (below_look hw' (by with_reducible assumption)) | exact rowD (below_look hw' (by with_reducible assumption)) | exact rowR (below_look hw' (by with_reducible assumption))))
  refine wq_ck rfl (fun K hK => ?_); go_simp; refine ⟨_, _, ⟨rfl, rfl⟩, hK _ _ ⟨_, fun w' hw' => calls_class hw' (addDigits_any _ _ w'), ?_⟩⟩; clear hK K; simp only [put_lit, List.set_cons_zero, List.set_cons_succ]
  refine wq_k rfl (fun K hK => ?_); go_simp; refine hK _ ?_; clear hK K
  ((with_reducible apply wq_row); exact rfl; exact rfl; (intro w' hw'; first | exact rowL (below_look hw' (by with_reducible assumption)) | exact rowD (below_look hw' (by with_reducible assumption)) | exact rowR (below_look hw' (by with_reducible assumption))))
  refine wq_ck rfl (fun K hK => ?_); go_simp; refine ⟨_, _, ⟨rfl, rfl⟩, hK _ _ ⟨_, fun w' hw' => calls_class hw' (compareDigits_any _ _ w'), ?_⟩⟩; clear hK K; simp only [put_lit, List.set_cons_zero, List.set_cons_succ]
  refine wq_k rfl (fun K hK => ?_); go_simp; refine hK _ ?_; clear hK K
  intro w6 hb1
  replace h0 := below_look hb1 h0; replace h1 := below_look hb1 h1; replace h2 := below_look hb1 h2; replace hp2 := below_look hb1 hp2; replace hp3 := below_look hb1 hp3; replace hb := hb.trans (hb1.mono hb.size); clear hb1
  have HT := cmpD_spec (a := r + r) (b := b.natAbs) (by have := RB.out; have := BB.out; have h3 : (10 : Nat) ^ 63 * 10 = 10 ^ 64 := by decide
                                                        omega) (Nat.lt_trans BB.out (by decide))
  generalize hTT : cmpD (r + r) b.natAbs = T at HT
  generalize hNN : (!(ng a == ng b)) = N
  clear n0 n1 hTT
  have HN := Lib.hid hNN
  clear hNN
  have HTT := Lib.hid HT
  clear HT
  by_cases hT : 0 ≤ T
  · go_upto_region 13 with (fail)
    refine wp_region_below 4 mixed (by kernel_rfl) ?_; simp only [List.take_succ_cons, List.take_zero, List.drop_succ_cons, List.drop_zero]
    ((with_reducible apply wq_row); exact rfl; exact rfl; (intro w' hw'; first | exact rowL (below_look hw' (by with_reducible assumption)) | exact rowD (below_look hw' (by with_reducible assumption)) | exact rowR (below_look hw' (by with_reducible assumption))))
    refine wq_ck rfl (fun K hK => ?_); go_simp; refine ⟨_, _, ⟨rfl, rfl⟩, hK _ _ ⟨_, fun w' hw' => calls_class hw' (small_any _ (by decide) (by decide) w'), ?_⟩⟩; clear hK K; simp only [put_lit, List.set_cons_zero, List.set_cons_succ]
    refine wq_val rfl (fun w' _ => ex_fld _ rfl rfl w') ?_; simp only [put_lit, List.set_cons_zero, List.set_cons_succ]
    refine wq_ck rfl (fun K hK => ?_); go_simp; refine ⟨_, _, ⟨rfl, rfl⟩, hK _ _ ⟨_, fun w' hw' => calls_class hw' (addDigits_any _ _ w'), ?_⟩⟩; clear hK K; simp only [put_lit, List.set_cons_zero, List.set_cons_succ]
    intro w7 hb1
    replace h2 := below_look hb1 h2; replace hp2 := below_look hb1 hp2; replace hb := hb.trans (hb1.mono hb.size); clear hb1
    ((with_reducible apply wl_put73); exact rfl; exact rfl; exact hp2; intro w8 hbx hk hq; replace h2 := hk _ _ (by omega) h2; replace hb := hbx _ _ (by omega) hb; clear hp2; have hp2 := hq; clear hbx hk hq)
    go_upto_region 14 with (fail)
    apply wp_region_lit
    ((with_reducible apply wl_rowG); exact rfl; exact rfl; (first | exact rowL (by with_reducible assumption) | exact rowD (by with_reducible assumption) | exact rowR (by with_reducible assumption)))
    refine wl_k rfl (fun K hK => ?_); go_simp; refine hK _ ?_; clear hK K
    refine wl_ck rfl (fun K hK => ?_); go_simp; refine ⟨_, _, ⟨rfl, rfl⟩, hK _ _ ⟨_, signed_any _ _ (by have := QB.out; omega) _, ?_⟩⟩; clear hK K; rintro e w7 ⟨rfl, hb1⟩; refine ⟨_, rfl, ?_⟩; simp only [put_lit, List.set_cons_zero, List.set_cons_succ]
    replace h2 := below_look hb1 h2; replace hb := hb.trans (hb1.mono hb.size); clear hb1
    ((with_reducible apply wl_put75); exact rfl; exact rfl; exact h2; intro w8 hbx hk hq; replace hb := hbx _ _ (by omega) hb; clear h2; have h2 := hq; clear hbx hk hq)
    go_wp2_with fail
    refine bodyPost_ret (res_long rfl _ _ (w.heap.size + 1 + 1) rfl h2) rfl ⟨?_, hb⟩
    rw [hR.out, roundS, show (ng a != ng b) = N from HN.out, ← HQ.out, ← HR.out]
    have hu : upS [104, 97, 108, 102] N q r b.natAbs = true := by
      have := HTT.out
      simp only [upS]
      simp
      omega
    rw [hu]
    rfl
  · go_upto_region 14 with (fail)
    apply wp_region_lit
    ((with_reducible apply wl_rowG); exact rfl; exact rfl; (first | exact rowL (by with_reducible assumption) | exact rowD (by with_reducible assumption) | exact rowR (by with_reducible assumption)))
    refine wl_k rfl (fun K hK => ?_); go_simp; refine hK _ ?_; clear hK K
    refine wl_ck rfl (fun K hK => ?_); go_simp; refine ⟨_, _, ⟨rfl, rfl⟩, hK _ _ ⟨_, signed_any _ _ (by have := QB.out; omega) _, ?_⟩⟩; clear hK K; rintro e w7 ⟨rfl, hb1⟩; refine ⟨_, rfl, ?_⟩; simp only [put_lit, List.set_cons_zero, List.set_cons_succ]
    replace h2 := below_look hb1 h2; replace hb := hb.trans (hb1.mono hb.size); clear hb1
    ((with_reducible apply wl_put75); exact rfl; exact rfl; exact h2; intro w8 hbx hk hq; replace hb := hbx _ _ (by omega) hb; clear h2; have h2 := hq; clear hbx hk hq)
    go_wp2_with fail
    refine bodyPost_ret (res_long rfl _ _ (w.heap.size + 1 + 1) rfl h2) rfl ⟨?_, hb⟩
    rw [hR.out, roundS, show (ng a != ng b) = N from HN.out, ← HQ.out, ← HR.out]
    have hu : upS [104, 97, 108, 102] N q r b.natAbs = false := by
      have := HTT.out
      simp only [upS]
      simp
      omega
    rw [hu]
    rfl
set_option maxHeartbeats 1000000 in
theorem rounded_even (a b : Int) (m : ByteArray) (hm : m.data.toList = [101, 118, 101, 110]) (BA : Hid (a.natAbs < 10 ^ 64)) (BB0 : Hid (0 < b.natAbs)) (BB : Hid (b.natAbs < 10 ^ 63)) (BQ : Hid (a.natAbs < 10 ^ 63)) (R : Int) (hR : Hid (R = roundS [101, 118, 101, 110] a b)) (w : World) :
    Calls Tryd.prog 41 #[.agg (lv a), .agg (lv b), .string m] w fun e w' => e = .returned (.agg (lv R)) ∧ Below w.heap.size w w' := by
  have l1 := lit_eq hm (l := [102, 108, 111, 111, 114]) rfl
  have l2 := lit_eq hm (l := [104, 97, 108, 102]) rfl
  have l3 := lit_eq hm (l := [101, 118, 101, 110]) rfl
  clear hm
  go_enter Tryd.func41, Tryd.ntmps41
  go_upto_region 1 with (fail)
  refine wp_world (fun W => W.heap[w.heap.size]? = some (.cells (lv a) 69 (0, 0)) ∧ W.heap[w.heap.size + 1]? = some (.cells (lv b) 69 (0, 0)) ∧ W.heap[w.heap.size + 1 + 1]? = some (.cells (lv 0) 69 (0, 0)) ∧ Below w.heap.size w W) ⟨ha_old (ha_old (ha_new rfl)), ha_old (ha_new (by simp)), by rw [← zero_long]; exact ha_new (by simp), (((Below.refl _ _).alloc (Nat.le_refl _) _).alloc (by simp) _).alloc (by simp; omega) _⟩ ?_
  rintro W ⟨h0, h1, h2, hb⟩
  apply wp_region_lit
  refine wl_k rfl (fun K hK => ?_); go_simp; refine hK _ ?_; clear hK K
  ((with_reducible apply wl_rowG); exact rfl; exact rfl; (first | exact rowL (by with_reducible assumption) | exact rowD (by with_reducible assumption) | exact rowR (by with_reducible assumption)))
  refine wl_k rfl (fun K hK => ?_); go_simp; refine hK _ ?_; clear hK K
  ((with_reducible apply wl_rowG); exact rfl; exact rfl; (first | exact rowL (by with_reducible assumption) | exact rowD (by with_reducible assumption) | exact rowR (by with_reducible assumption)))
  refine wl_ck rfl (fun K hK => ?_); go_simp; refine ⟨_, _, ⟨rfl, rfl⟩, hK _ _ ⟨_, divDigits_any _ _ BA.out BB0.out BB.out _, ?_⟩⟩; clear hK K; rintro e w1 ⟨rfl, hb1⟩; refine ⟨_, rfl, ?_⟩; simp only [put_lit, List.set_cons_zero, List.set_cons_succ]
  replace h0 := below_look hb1 h0; replace h1 := below_look hb1 h1; replace h2 := below_look hb1 h2; replace hb := hb.trans (hb1.mono hb.size); clear hb1
  refine wl_k rfl (fun K hK => ?_); go_simp; refine hK _ ?_; clear hK K
  refine wl_k rfl (fun K hK => ?_); go_simp; refine hK _ ?_; clear hK K
  refine wl_k rfl (fun K hK => ?_); go_simp; refine hK _ ?_; clear hK K
  (have lth0p2 := heap_lt h0; have lth1p2 := heap_lt h1; have lth2p2 := heap_lt h2; have lsp2 := hb.size; (with_reducible apply wl_new73); intro w2 p2 hbn hlp2 hp2; replace h0 := below_look hbn h0; replace h1 := below_look hbn h1; replace h2 := below_look hbn h2; replace hb := hb.trans (hbn.mono hb.size); clear hbn)
  (have lth0p3 := heap_lt h0; have lth1p3 := heap_lt h1; have lth2p3 := heap_lt h2; have lthp2p3 := heap_lt hp2; have lsp3 := hb.size; (with_reducible apply wl_new73); intro w3 p3 hbn hlp3 hp3; replace h0 := below_look hbn h0; replace h1 := below_look hbn h1; replace h2 := below_look hbn h2; replace hp2 := below_look hbn hp2; replace hb := hb.trans (hbn.mono hb.size); clear hbn)
  ((with_reducible apply wl_put73); exact rfl; exact rfl; exact hp2; intro w4 hbx hk hq; replace h0 := hk _ _ (by omega) h0; replace h1 := hk _ _ (by omega) h1; replace h2 := hk _ _ (by omega) h2; replace hp3 := hk _ _ (by omega) hp3; replace hb := hbx _ _ (by omega) hb; clear hp2; have hp2 := hq; clear hbx hk hq)
  ((with_reducible apply wl_put73); exact rfl; exact rfl; exact hp3; intro w5 hbx hk hq; replace h0 := hk _ _ (by omega) h0; replace h1 := hk _ _ (by omega) h1; replace h2 := hk _ _ (by omega) h2; replace hp2 := hk _ _ (by omega) hp2; replace hb := hbx _ _ (by omega) hb; clear hp3; have hp3 := hq; clear hbx hk hq)
  have n0 : w5.cell? ⟨w.heap.size, 0, none⟩ = some (.bool (ng a)) := by rw [cell_of_row _ _ _ _ _ _ h0]; exact lv_neg a
  have n1 : w5.cell? ⟨w.heap.size + 1, 0, none⟩ = some (.bool (ng b)) := by rw [cell_of_row _ _ _ _ _ _ h1]; exact lv_neg b
  obtain ⟨q, hq⟩ : ∃ q, q = a.natAbs / b.natAbs := ⟨_, rfl⟩
  obtain ⟨r, hr⟩ : ∃ r, r = a.natAbs % b.natAbs := ⟨_, rfl⟩
  rw [← hq] at hp2
  rw [← hr] at hp3
  have QB : Hid (q + 1 < 10 ^ 64) := Lib.hid (by
    have h1 := Nat.div_le_self a.natAbs b.natAbs
    have h2 := BA.out
    have h3 : (10 : Nat) ^ 64 = 10000000000000000000000000000000000000000000000000000000000000000 := by decide
    have h4 := BQ.out
    omega)
  have RB : Hid (r < b.natAbs) := Lib.hid (by rw [hr]; exact Nat.mod_lt _ BB0.out)
  have HQ := Lib.hid hq
  have HR := Lib.hid hr
  clear hq hr
  go_upto_region 3 with (fail)
  refine wp_region_belowAll mixed (by kernel_rfl) ?_
  ((with_reducible apply wq_row); exact rfl; exact rfl; (intro w' hw'; first | exact rowL (below_look hw' (by with_reducible assumption)) | exact rowD (below_look hw' (by with_reducible assumption)) | exact rowR (below_look hw' (by with_reducible assumption))))
  ((with_reducible apply wq_row); exact rfl; exact rfl; (intro w' hw'; first | exact rowL (below_look hw' (by with_reducible assumption)) | exact rowD (below_look hw' (by with_reducible assumption)) | exact rowR (below_look hw' (by with_reducible assumption))))
  refine wq_ck rfl (fun K hK => ?_); go_simp; refine ⟨_, _, ⟨rfl, rfl⟩, hK _ _ ⟨_, fun w' hw' => calls_class hw' (addDigits_any _ _ w'), ?_⟩⟩; clear hK K; simp only [put_lit, List.set_cons_zero, List.set_cons_succ]
  refine wq_k rfl (fun K hK => ?_); go_simp; refine hK _ ?_; clear hK K
  ((with_reducible apply wq_row); exact rfl; exact rfl; (intro w' hw'; first | exact rowL (below_look hw' (by with_reducible assumption)) | exact rowD (below_look hw' (by with_reducible assumption)) | exact rowR (below_look hw' (by with_reducible assumption))))
  refine wq_ck rfl (fun K hK => ?_); go_simp; refine ⟨_, _, ⟨rfl, rfl⟩, hK _ _ ⟨_, fun w' hw' => calls_class hw' (compareDigits_any _ _ w'), ?_⟩⟩; clear hK K; simp only [put_lit, List.set_cons_zero, List.set_cons_succ]
  refine wq_k rfl (fun K hK => ?_); go_simp; refine hK _ ?_; clear hK K
  intro w6 hb1
  replace h0 := below_look hb1 h0; replace h1 := below_look hb1 h1; replace h2 := below_look hb1 h2; replace hp2 := below_look hb1 hp2; replace hp3 := below_look hb1 hp3; replace hb := hb.trans (hb1.mono hb.size); clear hb1
  have HT := cmpD_spec (a := r + r) (b := b.natAbs) (by have := RB.out; have := BB.out; have h3 : (10 : Nat) ^ 63 * 10 = 10 ^ 64 := by decide
                                                        omega) (Nat.lt_trans BB.out (by decide))
  generalize hTT : cmpD (r + r) b.natAbs = T at HT
  generalize hNN : (!(ng a == ng b)) = N
  clear n0 n1 hTT
  have HN := Lib.hid hNN
  clear hNN
  have HTT := Lib.hid HT
  clear HT
  have cq : w6.cell? ⟨p2, 0, none⟩ = some (.int .u8 (dg q 0)) := by rw [cell_of_row _ _ _ _ _ _ hp2, dv, row_get _ _ (by omega)]
  have hq0 : (dg q 0 : Int) = (q : Int) % 10 := by unfold dg; omega
  rw [hq0] at cq
  clear hq0
  rcases Int.lt_trichotomy T 0 with hT | hT | hT
  · go_upto_region 14 with (fail)
    apply wp_region_lit
    ((with_reducible apply wl_rowG); exact rfl; exact rfl; (first | exact rowL (by with_reducible assumption) | exact rowD (by with_reducible assumption) | exact rowR (by with_reducible assumption)))
    refine wl_k rfl (fun K hK => ?_); go_simp; refine hK _ ?_; clear hK K
    refine wl_ck rfl (fun K hK => ?_); go_simp; refine ⟨_, _, ⟨rfl, rfl⟩, hK _ _ ⟨_, signed_any _ _ (by have := QB.out; omega) _, ?_⟩⟩; clear hK K; rintro e w7 ⟨rfl, hb1⟩; refine ⟨_, rfl, ?_⟩; simp only [put_lit, List.set_cons_zero, List.set_cons_succ]
    replace h2 := below_look hb1 h2; replace hb := hb.trans (hb1.mono hb.size); clear hb1
    ((with_reducible apply wl_put75); exact rfl; exact rfl; exact h2; intro w8 hbx hk hq; replace hb := hbx _ _ (by omega) hb; clear h2; have h2 := hq; clear hbx hk hq)
    go_wp2_with fail
    refine bodyPost_ret (res_long rfl _ _ (w.heap.size + 1 + 1) rfl h2) rfl ⟨?_, hb⟩
    rw [hR.out, roundS, show (ng a != ng b) = N from HN.out, ← HQ.out, ← HR.out]
    have hu : upS [101, 118, 101, 110] N q r b.natAbs = false := by
      have := HTT.out
      (try have := HO.out)
      simp only [upS]
      simp
      omega
    rw [hu]
    rfl
  · subst hT
    by_cases ho : q % 2 = 1
    · have ho2 : ((q : Int) % 10) % 2 = 1 := by omega
      have HO := Lib.hid ho
      clear ho
      go_upto_region 13 with (fail)
      refine wp_region_below 4 mixed (by kernel_rfl) ?_; simp only [List.take_succ_cons, List.take_zero, List.drop_succ_cons, List.drop_zero]
      ((with_reducible apply wq_row); exact rfl; exact rfl; (intro w' hw'; first | exact rowL (below_look hw' (by with_reducible assumption)) | exact rowD (below_look hw' (by with_reducible assumption)) | exact rowR (below_look hw' (by with_reducible assumption))))
      refine wq_ck rfl (fun K hK => ?_); go_simp; refine ⟨_, _, ⟨rfl, rfl⟩, hK _ _ ⟨_, fun w' hw' => calls_class hw' (small_any _ (by decide) (by decide) w'), ?_⟩⟩; clear hK K; simp only [put_lit, List.set_cons_zero, List.set_cons_succ]
      refine wq_val rfl (fun w' _ => ex_fld _ rfl rfl w') ?_; simp only [put_lit, List.set_cons_zero, List.set_cons_succ]
      refine wq_ck rfl (fun K hK => ?_); go_simp; refine ⟨_, _, ⟨rfl, rfl⟩, hK _ _ ⟨_, fun w' hw' => calls_class hw' (addDigits_any _ _ w'), ?_⟩⟩; clear hK K; simp only [put_lit, List.set_cons_zero, List.set_cons_succ]
      intro w7 hb1
      replace h2 := below_look hb1 h2; replace hp2 := below_look hb1 hp2; replace hb := hb.trans (hb1.mono hb.size); clear hb1
      ((with_reducible apply wl_put73); exact rfl; exact rfl; exact hp2; intro w8 hbx hk hq; replace h2 := hk _ _ (by omega) h2; replace hb := hbx _ _ (by omega) hb; clear hp2; have hp2 := hq; clear hbx hk hq)
      go_upto_region 14 with (fail)
      apply wp_region_lit
      ((with_reducible apply wl_rowG); exact rfl; exact rfl; (first | exact rowL (by with_reducible assumption) | exact rowD (by with_reducible assumption) | exact rowR (by with_reducible assumption)))
      refine wl_k rfl (fun K hK => ?_); go_simp; refine hK _ ?_; clear hK K
      refine wl_ck rfl (fun K hK => ?_); go_simp; refine ⟨_, _, ⟨rfl, rfl⟩, hK _ _ ⟨_, signed_any _ _ (by have := QB.out; omega) _, ?_⟩⟩; clear hK K; rintro e w7 ⟨rfl, hb1⟩; refine ⟨_, rfl, ?_⟩; simp only [put_lit, List.set_cons_zero, List.set_cons_succ]
      replace h2 := below_look hb1 h2; replace hb := hb.trans (hb1.mono hb.size); clear hb1
      ((with_reducible apply wl_put75); exact rfl; exact rfl; exact h2; intro w8 hbx hk hq; replace hb := hbx _ _ (by omega) hb; clear h2; have h2 := hq; clear hbx hk hq)
      go_wp2_with fail
      refine bodyPost_ret (res_long rfl _ _ (w.heap.size + 1 + 1) rfl h2) rfl ⟨?_, hb⟩
      rw [hR.out, roundS, show (ng a != ng b) = N from HN.out, ← HQ.out, ← HR.out]
      have hu : upS [101, 118, 101, 110] N q r b.natAbs = true := by
        have := HTT.out
        (try have := HO.out)
        simp only [upS]
        simp
        omega
      rw [hu]
      rfl
    · have ho2 : ((q : Int) % 10) % 2 = 0 := by omega
      have HO := Lib.hid ho
      clear ho
      go_upto_region 14 with (fail)
      apply wp_region_lit
      ((with_reducible apply wl_rowG); exact rfl; exact rfl; (first | exact rowL (by with_reducible assumption) | exact rowD (by with_reducible assumption) | exact rowR (by with_reducible assumption)))
      refine wl_k rfl (fun K hK => ?_); go_simp; refine hK _ ?_; clear hK K
      refine wl_ck rfl (fun K hK => ?_); go_simp; refine ⟨_, _, ⟨rfl, rfl⟩, hK _ _ ⟨_, signed_any _ _ (by have := QB.out; omega) _, ?_⟩⟩; clear hK K; rintro e w7 ⟨rfl, hb1⟩; refine ⟨_, rfl, ?_⟩; simp only [put_lit, List.set_cons_zero, List.set_cons_succ]
      replace h2 := below_look hb1 h2; replace hb := hb.trans (hb1.mono hb.size); clear hb1
      ((with_reducible apply wl_put75); exact rfl; exact rfl; exact h2; intro w8 hbx hk hq; replace hb := hbx _ _ (by omega) hb; clear h2; have h2 := hq; clear hbx hk hq)
      go_wp2_with fail
      refine bodyPost_ret (res_long rfl _ _ (w.heap.size + 1 + 1) rfl h2) rfl ⟨?_, hb⟩
      rw [hR.out, roundS, show (ng a != ng b) = N from HN.out, ← HQ.out, ← HR.out]
      have hu : upS [101, 118, 101, 110] N q r b.natAbs = false := by
        have := HTT.out
        (try have := HO.out)
        simp only [upS]
        simp
        omega
      rw [hu]
      rfl
  · go_upto_region 13 with (fail)
    refine wp_region_below 4 mixed (by kernel_rfl) ?_; simp only [List.take_succ_cons, List.take_zero, List.drop_succ_cons, List.drop_zero]
    ((with_reducible apply wq_row); exact rfl; exact rfl; (intro w' hw'; first | exact rowL (below_look hw' (by with_reducible assumption)) | exact rowD (below_look hw' (by with_reducible assumption)) | exact rowR (below_look hw' (by with_reducible assumption))))
    refine wq_ck rfl (fun K hK => ?_); go_simp; refine ⟨_, _, ⟨rfl, rfl⟩, hK _ _ ⟨_, fun w' hw' => calls_class hw' (small_any _ (by decide) (by decide) w'), ?_⟩⟩; clear hK K; simp only [put_lit, List.set_cons_zero, List.set_cons_succ]
    refine wq_val rfl (fun w' _ => ex_fld _ rfl rfl w') ?_; simp only [put_lit, List.set_cons_zero, List.set_cons_succ]
    refine wq_ck rfl (fun K hK => ?_); go_simp; refine ⟨_, _, ⟨rfl, rfl⟩, hK _ _ ⟨_, fun w' hw' => calls_class hw' (addDigits_any _ _ w'), ?_⟩⟩; clear hK K; simp only [put_lit, List.set_cons_zero, List.set_cons_succ]
    intro w7 hb1
    replace h2 := below_look hb1 h2; replace hp2 := below_look hb1 hp2; replace hb := hb.trans (hb1.mono hb.size); clear hb1
    ((with_reducible apply wl_put73); exact rfl; exact rfl; exact hp2; intro w8 hbx hk hq; replace h2 := hk _ _ (by omega) h2; replace hb := hbx _ _ (by omega) hb; clear hp2; have hp2 := hq; clear hbx hk hq)
    go_upto_region 14 with (fail)
    apply wp_region_lit
    ((with_reducible apply wl_rowG); exact rfl; exact rfl; (first | exact rowL (by with_reducible assumption) | exact rowD (by with_reducible assumption) | exact rowR (by with_reducible assumption)))
    refine wl_k rfl (fun K hK => ?_); go_simp; refine hK _ ?_; clear hK K
    refine wl_ck rfl (fun K hK => ?_); go_simp; refine ⟨_, _, ⟨rfl, rfl⟩, hK _ _ ⟨_, signed_any _ _ (by have := QB.out; omega) _, ?_⟩⟩; clear hK K; rintro e w7 ⟨rfl, hb1⟩; refine ⟨_, rfl, ?_⟩; simp only [put_lit, List.set_cons_zero, List.set_cons_succ]
    replace h2 := below_look hb1 h2; replace hb := hb.trans (hb1.mono hb.size); clear hb1
    ((with_reducible apply wl_put75); exact rfl; exact rfl; exact h2; intro w8 hbx hk hq; replace hb := hbx _ _ (by omega) hb; clear h2; have h2 := hq; clear hbx hk hq)
    go_wp2_with fail
    refine bodyPost_ret (res_long rfl _ _ (w.heap.size + 1 + 1) rfl h2) rfl ⟨?_, hb⟩
    rw [hR.out, roundS, show (ng a != ng b) = N from HN.out, ← HQ.out, ← HR.out]
    have hu : upS [101, 118, 101, 110] N q r b.natAbs = true := by
      have := HTT.out
      (try have := HO.out)
      simp only [upS]
      simp
      omega
    rw [hu]
    rfl
theorem roundS_down (a b : Int) : roundS [100, 111, 119, 110] a b = sg (ng a != ng b) (a.natAbs / b.natAbs) := by simp [roundS, upS]
theorem rounded_any (a b : Int) (m : ByteArray) (hm : isRoundL m.data.toList = true) (hb0 : 0 < b.natAbs) (hb1 : b.natAbs < 10 ^ 63) (ha : a.natAbs < 10 ^ 63) (w : World) :
    Calls Tryd.prog 41 #[.agg (lv a), .agg (lv b), .string m] w fun e w' => e = .returned (.agg (lv (roundS m.data.toList a b))) ∧ Below w.heap.size w w' := by
  have ha2 : a.natAbs < 10 ^ 64 := Nat.lt_trans ha (by decide)
  unfold isRoundL at hm
  simp only [Bool.or_eq_true, beq_iff_eq] at hm
  rcases hm with ((h | h) | h) | h
  · have := rounded_down a b m h (Lib.hid ha2) (Lib.hid hb0) (Lib.hid hb1) (Lib.hid ha) w
    rw [h, roundS_down]; exact this
  · rw [h]; exact rounded_floor a b m h (Lib.hid ha2) (Lib.hid hb0) (Lib.hid hb1) (Lib.hid ha) _ (Lib.hid rfl) w
  · rw [h]; exact rounded_half a b m h (Lib.hid ha2) (Lib.hid hb0) (Lib.hid hb1) (Lib.hid ha) _ (Lib.hid rfl) w
  · rw [h]; exact rounded_even a b m h (Lib.hid ha2) (Lib.hid hb0) (Lib.hid hb1) (Lib.hid ha) _ (Lib.hid rfl) w
end Go.Proofs.YtclainfdeghgnaaDoor
namespace Go.Proofs.YtclainfdeghgnaaDoor.Nm
open Go.RowKit
section
variable {P : Program}
theorem wp_region_tail_late {id : Nat} {Q : Exit → Act → World → Prop} {a : Act} {w : World} {l : List Oper} (n d : Nat) (hm : P.follows .mixedOrders = true) (hB : Region.lexTailB .text l.toArray n = true) (hD : lateB l.toArray d = true)
    (h : wpQuiet P l.toArray (fun w' => Below w.heap.size w w') (fun a' => ∀ w', Below w.heap.size w w' → wpList P l.toArray (OnlyN Q) (l.drop n) a' w') (l.take n) a) : (Code.region id l.toArray true).wp P Q a w := by
  simp only [Region.lexTailB, Bool.and_eq_true, decide_eq_true_eq] at hB
  obtain ⟨⟨⟨⟨hsel, hn⟩, hs⟩, hc⟩, hlex⟩ := hB
  have hn' : n < l.length := by simpa using hn
  have htl : (l.take n).length = n := by simp; omega
  have hdl : (l.drop n).length = l.toArray.size - n := by simp
  have inv0 : HeadInv .text l.toArray n (Array.replicate l.toArray.size false) :=
    ⟨by simp, fun j oj _ hl => (by rw [getD_replicate_false] at hl; cases hl), fun t _ ht => getD_in (by simpa using ht) (getD_replicate_false _ _)⟩
  have H := wpAnyK_lex (C := fun w' => Below w.heap.size w w') (md := .text) (g := l.toArray.size - n) hsel hs hc hn (l.take n) 0 _ a (fun j hj => by
    have hj' : j < n := by rw [htl] at hj; exact hj
    simp [hj']) (by simpa using htl) inv0 (by rw [htl]; exact hlex) h
  refine Code.wp_mono (Q := OnlyN Q) OnlyN.up (wp_region_any hm ?_)
  obtain ⟨od, hod⟩ : ∃ od, l.toArray[d]? = some od := by
    unfold lateB at hD
    cases hx : l.toArray[d]? with
    | none => rw [hx] at hD; cases hD
    | some od => exact ⟨od, rfl⟩
  refine late_any hod (Region.noSelect_spec hsel) hD _ _ _ _ (by simp) ?_
  have := wpAny_of_headK (md := .text) (Q' := OnlyN Q) (g := l.toArray.size - n) (fun listed a' w' hw' hL => by
    have := wpAny_of_seq (md := .text) (Q' := OnlyN Q) (l.drop n) n listed a' w' (fun j => by simp [List.getElem?_drop]) (by rw [hdl]; exact hL.1) (hL.2 w' hw')
    rwa [hdl] at this) _ _ _ { w with drawn := w.drawn + 1 } ((Below.refl _ w).drew) H
  rw [htl, show n + (l.toArray.size - n) = l.toArray.size by omega] at this
  exact this
end
end Go.Proofs.YtclainfdeghgnaaDoor.Nm
namespace Go.Proofs.YtclainfdeghgnaaDoor
open Go.RowKit Go.Proofs.YtclainfdeghgnaaDoor.Nm

/-- What a made decimal is: its units, its scale, its error. -/
def madeU (z : Int) : Int := if 100000000000000000 < z.natAbs then 0 else z
def madeK (z scale : Int) : Int := if 100000000000000000 < z.natAbs then 0 else scale
def madeE (z : Int) : Int := if 100000000000000000 < z.natAbs then 2 else 0
theorem made_any (z : Int) (scale : Int) (hz : z.natAbs < 10 ^ 64) (u k e : Int) (hu : Hid (u = madeU z)) (hk : Hid (k = madeK z scale)) (he : Hid (e = madeE z)) (w : World) :
    Calls Tryd.prog 40 #[.agg (lv z), .int .i64 scale] w fun e' w' => e' = .returned (.tuple #[.agg (dc u k), .int .i64 e]) ∧ Below w.heap.size w w' := by
  rw [hu.out, hk.out, he.out]
  unfold madeU madeK madeE
  by_cases h : 100000000000000000 < z.natAbs
  · simp only [if_pos h]; exact made_over z scale (Lib.hid hz) (Lib.hid h) w
  · simp only [if_neg h]; exact made_ok z scale (Lib.hid hz) (Lib.hid (by omega)) w

structure DivBd (u1 k1 u2 k2 scale : Int) : Prop where
  a1 : -9223372036854775808 ≤ u1
  a2 : u1 ≤ 9223372036854775807
  b1 : -9223372036854775808 ≤ u2
  b2 : u2 ≤ 9223372036854775807
  s0 : 0 ≤ k2 + scale
  s1 : k2 + scale ≤ 9223372036854775806
  t0 : 0 ≤ k1
  t1 : k1 ≤ 9223372036854775806
  p1 : 10 ^ (k2 + scale).toNat < 10 ^ 64
  p2 : 10 ^ k1.toNat < 10 ^ 64
  m1 : u1.natAbs * ((10 ^ (k2 + scale).toNat : Nat) : Int).natAbs < 10 ^ 64
  m2 : u2.natAbs * ((10 ^ k1.toNat : Nat) : Int).natAbs < 10 ^ 64
  ra : (u1 * ((10 ^ (k2 + scale).toNat : Nat) : Int)).natAbs < 10 ^ 63
  rb0 : 0 < (u2 * ((10 ^ k1.toNat : Nat) : Int)).natAbs
  rb1 : (u2 * ((10 ^ k1.toNat : Nat) : Int)).natAbs < 10 ^ 63
/-- A decimal stored: behind it the world under a name. -/
theorem wl_put33 {ops : Array Oper} {rest : List Oper} {ty' : TypeId} {x y : Operand} {pos : String} {after : Array Edge} {a : Act} {w : World} {Q : Exit → Act → World → Prop} {b : Nat} {u k u0 k0 : Int} (hx : a.eval x = .pointer (some ⟨b, 0, none⟩)) (hy : a.eval y = .agg (dc u k)) (hb : w.heap[b]? = some (.cells (dc u0 k0) 23 (0, 0)))
    (h : ∀ W, (∀ B w0, B ≤ b → Below B w0 w → Below B w0 W) → (∀ k o, k ≠ b → w.heap[k]? = some o → W.heap[k]? = some o) → W.heap[b]? = some (.cells (dc u k) 23 (0, 0)) → wpList Tryd.prog ops Q rest a W) : wpList Tryd.prog ops Q (⟨none, .store 23 x y, ty', pos, after, none⟩ :: rest) a w :=
  wpList_store_row rfl 23 x y rfl b (dc u k) hx hy 23 (dc u0 k0) hb (by rw [info33]; rfl) rfl (by simp [dc, Value.oneCell']) (h _ (fun _ _ hB h0 => below_setRow h0 hB _) (fun _ _ hne h0 => hr_old h0 hne) (hr_new hb))
set_option maxHeartbeats 1000000 in
theorem Div_ok (u1 k1 u2 k2 scale : Int) (m : ByteArray) (E : Int) (HE : Hid (E = refusedS [(u1, k1), (u2, k2)] scale m.data.toList)) (hE : E = 0) (h20 : ¬ u2 = 0) (DB : Hid (DivBd u1 k1 u2 k2 scale)) (hsc : 0 ≤ scale) (hsc2 : scale ≤ 9) (hk2 : 0 ≤ k2) (hk22 : k2 ≤ 9)
    (HRM : Hid (isRoundL m.data.toList = true)) (u k e : Int) (z : Int) (Hz : Hid (z = roundS m.data.toList (u1 * ((10 ^ (k2 + scale).toNat : Nat) : Int)) (u2 * ((10 ^ k1.toNat : Nat) : Int)))) (hzb : Hid (z.natAbs < 10 ^ 64)) (hu : Hid (u = madeU z)) (hk : Hid (k = madeK z scale)) (he : Hid (e = madeE z)) (w : World) :
    Calls Tryd.prog 19 #[.agg (dc u1 k1), .agg (dc u2 k2), .int .i64 scale, .string m] w fun e' w' => e' = .returned (.tuple #[.agg (dc u k), .int .i64 e]) ∧ Below w.heap.size w w' := by
  have i1 : IntKind.i64.wrap (k2 + scale) = k2 + scale := IntWalk.i64_in _ (by omega)
  go_enter Tryd.func19, Tryd.ntmps19
  go_upto_region 1 with (fail)
  refine wp_world (fun W => W.heap[w.heap.size]? = some (.cells (dc u1 k1) 23 (0, 0)) ∧ W.heap[w.heap.size + 1]? = some (.cells (dc u2 k2) 23 (0, 0)) ∧ W.heap[w.heap.size + 1 + 1]? = some (.cells (dc 0 0) 23 (0, 0)) ∧ Below w.heap.size w W) ⟨ha_old (ha_old (ha_new rfl)), ha_old (ha_new (by simp)), ha_new (by simp), (((Below.refl _ _).alloc (Nat.le_refl _) _).alloc (by simp) _).alloc (by simp; omega) _⟩ ?_
  rintro W ⟨h0, h1, h2, hb⟩
  have a0 := dc0 h0
  have a1 := dc1 h0
  have b0 := dc0 h1
  have b1 := dc1 h1
  go_wp2_with (go_at_call 37; refine (refused_any W.heap.size 2 [(u1, k1), (u2, k2)] (by simp) scale m E HE _ (ha_new rfl)).mono ?_)
  rintro e w1 ⟨rfl, hb1⟩
  replace hb1 := ((Below.refl W.heap.size W).alloc (Nat.le_refl _) _).trans (hb1.mono (by simp))
  clear a0 a1 b0 b1
  replace h0 := below_look hb1 h0; replace h1 := below_look hb1 h1; replace h2 := below_look hb1 h2; replace hb := hb.trans (hb1.mono hb.size); clear hb1
  have a0 := dc0 h0
  have a1 := dc1 h0
  have b0 := dc0 h1
  have b1 := dc1 h1
  go_upto_region 6 with (fail)
  clear h20 hE
  refine wp_region_float 9 11 (lv 0) 69 mixed (by kernel_rfl) ⟨_, rfl, rfl, rfl, ex_alloc75 rfl⟩ ?_; simp only [List.take_succ_cons, List.take_zero, List.drop_succ_cons, List.drop_zero]
  refine ws_k rfl (fun K hK => ?_); go_simp; refine hK _ ?_; clear hK K
  ((with_reducible apply ws_one); exact rfl; exact rfl; (intro w' hw'; exact one_of u3 rfl (below_cell hw' (by with_reducible assumption))))
  simp only [put_lit, List.set_cons_zero, List.set_cons_succ]
  refine ws_ck rfl (fun K hK => ?_); go_simp; refine ⟨_, _, ⟨rfl, rfl⟩, hK _ _ ⟨_, fun w' hw' => (small_any _ DB.out.a1 DB.out.a2 w'), ?_⟩⟩; clear hK K; simp only [put_lit, List.set_cons_zero, List.set_cons_succ]
  refine ws_k rfl (fun K hK => ?_); go_simp; refine hK _ ?_; clear hK K
  ((with_reducible apply ws_one); exact rfl; exact rfl; (intro w' hw'; exact one_of u3 rfl (below_cell hw' (by with_reducible assumption))))
  simp only [put_lit, List.set_cons_zero, List.set_cons_succ]
  refine ws_k rfl (fun K hK => ?_); go_simp; refine hK _ ?_; clear hK K
  refine ws_k rfl (fun K hK => ?_); go_simp; refine hK _ ?_; clear hK K
  refine ws_ck rfl (fun K hK => ?_); go_simp; refine ⟨_, _, ⟨rfl, rfl⟩, hK _ _ ⟨_, fun w' hw' => (pow10_any _ DB.out.p1 DB.out.s0 DB.out.s1 w'), ?_⟩⟩; clear hK K; simp only [put_lit, List.set_cons_zero, List.set_cons_succ]
  refine ws_ck rfl (fun K hK => ?_); go_simp; refine ⟨_, _, ⟨rfl, rfl⟩, hK _ _ ⟨_, fun w' hw' => (mul_any _ _ DB.out.m1 w'), ?_⟩⟩; clear hK K; simp only [put_lit, List.set_cons_zero, List.set_cons_succ]
  rintro p5 w9 ⟨hb1, hl5, hp5⟩
  have lt2 := heap_lt h2
  clear a0 a1 b0 b1
  replace h0 := below_look hb1 h0; replace h1 := below_look hb1 h1; replace h2 := below_look hb1 h2; replace hb := hb.trans (hb1.mono hb.size); clear hb1
  simp only [put_lit, List.set_cons_zero, List.set_cons_succ]
  ((with_reducible apply wl_put75); exact rfl; exact rfl; exact hp5; intro w10 hbx hk hq; replace h0 := hk _ _ (by omega) h0; replace h1 := hk _ _ (by omega) h1; replace h2 := hk _ _ (by omega) h2; replace hb := hbx _ _ (by omega) hb; clear hp5; have hp5 := hq; clear hbx hk hq)
  have a0 := dc0 h0
  have a1 := dc1 h0
  have b0 := dc0 h1
  have b1 := dc1 h1
  go_upto_region 7 with (fail)
  refine wp_region_tail_late 14 13 mixed (by kernel_rfl) (by kernel_rfl) ?_
  simp only [List.take_succ_cons, List.take_zero, List.drop_succ_cons, List.drop_zero]
  ((with_reducible apply wq_row); exact rfl; exact rfl; (intro w' hw'; first | exact rowL (below_look hw' (by with_reducible assumption)) | exact rowD (below_look hw' (by with_reducible assumption)) | exact rowR (below_look hw' (by with_reducible assumption))))
  refine wq_k rfl (fun K hK => ?_); go_simp; refine hK _ ?_; clear hK K
  ((with_reducible apply wq_one); exact rfl; exact rfl; (intro w' hw'; exact one_of u3 rfl (below_cell hw' (by with_reducible assumption))))
  refine wq_ck rfl (fun K hK => ?_); go_simp; refine ⟨_, _, ⟨rfl, rfl⟩, hK _ _ ⟨_, fun w' hw' => calls_class hw' (small_any _ DB.out.b1 DB.out.b2 w'), ?_⟩⟩; clear hK K; simp only [put_lit, List.set_cons_zero, List.set_cons_succ]
  refine wq_k rfl (fun K hK => ?_); go_simp; refine hK _ ?_; clear hK K
  ((with_reducible apply wq_one); exact rfl; exact rfl; (intro w' hw'; exact one_of u3 rfl (below_cell hw' (by with_reducible assumption))))
  refine wq_ck rfl (fun K hK => ?_); go_simp; refine ⟨_, _, ⟨rfl, rfl⟩, hK _ _ ⟨_, fun w' hw' => calls_class hw' (pow10_any _ DB.out.p2 DB.out.t0 DB.out.t1 w'), ?_⟩⟩; clear hK K; simp only [put_lit, List.set_cons_zero, List.set_cons_succ]
  refine wq_ck rfl (fun K hK => ?_); go_simp; refine ⟨_, _, ⟨rfl, rfl⟩, hK _ _ ⟨_, fun w' hw' => calls_class hw' (mul_any _ _ DB.out.m2 w'), ?_⟩⟩; clear hK K; simp only [put_lit, List.set_cons_zero, List.set_cons_succ]
  refine wq_k rfl (fun K hK => ?_); go_simp; refine hK _ ?_; clear hK K
  refine wq_ck rfl (fun K hK => ?_); go_simp; refine ⟨_, _, ⟨rfl, rfl⟩, hK _ _ ⟨_, fun w' hw' => calls_class hw' (rounded_any _ _ _ HRM.out DB.out.rb0 DB.out.rb1 DB.out.ra w'), ?_⟩⟩; clear hK K; simp only [put_lit, List.set_cons_zero, List.set_cons_succ]
  rw [← Hz.out]
  refine wq_k rfl (fun K hK => ?_); go_simp; refine hK _ ?_; clear hK K
  refine wq_ck rfl (fun K hK => ?_); go_simp; refine ⟨_, _, ⟨rfl, rfl⟩, hK _ _ ⟨_, fun w' hw' => calls_class hw' (made_any _ _ hzb.out _ _ _ hu hk he w'), ?_⟩⟩; clear hK K; simp only [put_lit, List.set_cons_zero, List.set_cons_succ]
  refine wq_k rfl (fun K hK => ?_); go_simp; refine hK _ ?_; clear hK K
  refine wq_k rfl (fun K hK => ?_); go_simp; refine hK _ ?_; clear hK K
  intro w11 hb1
  clear a0 a1 b0 b1
  replace h2 := below_look hb1 h2; replace hb := hb.trans (hb1.mono hb.size); clear hb1
  ((with_reducible apply wl_put33); exact rfl; exact rfl; exact h2; intro w12 hbx hk hq; replace hb := hbx _ _ (by omega) hb; clear h2; have h2 := hq; clear hbx hk hq)
  refine wl_k rfl (fun K hK => ?_); go_simp; refine hK _ ?_; clear hK K
  refine onlyN_nil ?_
  go_wp2_with fail
  exact bodyPost_ret (res_decErr rfl _ _ (w.heap.size + 1 + 1) rfl h2) rfl ⟨rfl, hb⟩
end Go.Proofs.YtclainfdeghgnaaDoor
namespace Go.Proofs.YtclainfdeghgnaaDoor
open Go.RowKit Go.Proofs.YtclainfdeghgnaaDoor.Nm

theorem aw_rd1 : rdm ⟨#[49, 50, 55]⟩ = some 127 := by decide
theorem aw_rd2 : rdm ⟨#[49]⟩ = some 1 := by decide
theorem aw_bring (m : ByteArray) (hm : m.data.toList = [119, 114, 97, 112]) : bringW (8 : Int).toNat true m.toList (127 + 1) = (-128, 0) := by
  rw [ByteArray.toList_eq, hm]; decide
theorem aw_txt : txt (-128) = [45, 49, 50, 56] := by
  have h1 : dlen 128 = 3 := by rw [dlen_big (by decide), dlen_big (by decide), dlen_small (by decide)]
  unfold txt sgn
  rw [ng_def, show (-128 : Int).natAbs = 128 from rfl, h1]
  decide
theorem aw_Do (op a b md : ByteArray) (ho : op = ⟨#[43]⟩) (ha : a = ⟨#[49, 50, 55]⟩) (hb : b = ⟨#[49]⟩) (hmd : md = ⟨#[119, 114, 97, 112]⟩) (w : World) :
    Calls Tryd.prog 18 #[.string op, .string a, .string b, .int .i64 8, .bool true, .string md] w fun e w' => e = .returned (.tuple #[.string ⟨#[45, 49, 50, 56]⟩, .int .i64 0]) ∧ Below w.heap.size w w' := by
  have hol : op.data.toList = [43] := by rw [ho]
  have hml : md.data.toList = [119, 114, 97, 112] := by rw [hmd]
  have b64 : (127 : Int).natAbs + (1 : Int).natAbs < 10 ^ 64 := by decide
  refine Do_plain op a b md 8 true 127 1 (127 + 1) (-128) 0 (by rw [ha]; exact aw_rd1) (by rw [hb]; exact aw_rd2) (Lib.hid (by decide)) (Lib.hid (by rw [hml]; decide)) (Lib.hid (by rw [hol]; decide))
    (lit_eq hol rfl) (lit_eq hol rfl) (Lib.hid (by decide)) (Lib.hid (by decide)) (lit_eq hol rfl) (lit_eq hol rfl) (Lib.hid (exact_add op 8 true 127 1 hol (Lib.hid b64))) (Lib.hid (by decide)) (Lib.hid (aw_bring md hml)) (Lib.hid (by decide)) _ (Lib.hid fun _ => ?_) (Lib.hid fun h => absurd rfl h) w
  rw [aw_txt]
theorem aw_Div (m : ByteArray) (hm : m = ⟨#[104, 97, 108, 102]⟩) (w : World) :
    Calls Tryd.prog 19 #[.agg (dc 2 0), .agg (dc 3 0), .int .i64 2, .string m] w fun e' w' => e' = .returned (.tuple #[.agg (dc 67 2), .int .i64 0]) ∧ Below w.heap.size w w' := by
  have hml : m.data.toList = [104, 97, 108, 102] := by rw [hm]
  have db : DivBd 2 0 3 0 2 := ⟨by decide, by decide, by decide, by decide, by decide, by decide, by decide, by decide, by decide, by decide, by decide, by decide, by decide, by decide, by decide⟩
  have hz : (67 : Int) = roundS m.data.toList (2 * ((10 ^ ((0 : Int) + 2).toNat : Nat) : Int)) (3 * ((10 ^ (0 : Int).toNat : Nat) : Int)) := by
    rw [hml]; unfold roundS; rw [ng_def, ng_def]; decide
  exact Div_ok 2 0 3 0 2 m 0 (Lib.hid (by rw [hml]; decide)) rfl (by decide) (Lib.hid db) (by decide) (by decide) (by decide) (by decide) (Lib.hid (by rw [hml]; decide)) 67 2 0 67 (Lib.hid hz) (Lib.hid (by decide)) (Lib.hid (by decide)) (Lib.hid (by decide)) (Lib.hid (by decide)) w
theorem aw_Div2 (m : ByteArray) (hm : m = ⟨#[104, 97, 108, 102]⟩) (w : World) :
    Calls Tryd.prog 19 #[.agg #[.int .i64 2, .int .i64 0], .agg #[.int .i64 3, .int .i64 0], .int .i64 2, .string m] w fun e' w' => e' = .returned (.tuple #[.agg #[.int .i64 67, .int .i64 2], .int .i64 0]) ∧ Below w.heap.size w w' := aw_Div m hm w
set_option maxHeartbeats 400000 in
theorem awake_any (w : World) : Calls Tryd.prog 11 #[] w fun e w' => e = .returned (.bool true) ∧ Below w.heap.size w w' := by
  have l1 : ((ByteArray.mk #[45, 49, 50, 56]).toList == [45, 49, 50, 56]) = true := lit_eq (L := [45, 49, 50, 56]) rfl rfl
  go_enter Tryd.func11, Tryd.ntmps11
  go_upto_region 2 with (go_at_call 18; refine (aw_Do _ _ _ _ rfl rfl rfl rfl _).mono ?_; rintro e w1 ⟨rfl, hb⟩)
  go_upto_region 3 with (go_at_call 19; refine (aw_Div2 _ rfl _).mono ?_; rintro e w2 ⟨rfl, hb2⟩; replace hb := hb.trans (hb2.mono hb.size); clear hb2)
  go_wp2_with fail
  go_ret
  exact ⟨rfl, hb.alloc hb.size _⟩
end Go.Proofs.YtclainfdeghgnaaDoor
namespace Go.Proofs.YtclainfdeghgnaaDoor.Lm
/-- One more than the greatest limb. -/
def B : Nat := 4294967296
/-- A limb. -/
def lm (n i : Nat) : Nat := n / B ^ i % B
theorem mod_succ (n k : Nat) : n % B ^ (k + 1) = n % B ^ k + B ^ k * lm n k := by
  rw [Nat.pow_succ]; exact Nat.mod_mul
theorem div_split (n i : Nat) : n / B ^ i = B * (n / B ^ (i + 1)) + lm n i := by
  rw [Nat.pow_succ, ← Nat.div_div_eq_div_mul]; unfold lm
  have := Nat.div_add_mod (n / B ^ i) B
  omega
end Go.Proofs.YtclainfdeghgnaaDoor.Lm

namespace Go.Proofs.YtclainfdeghgnaaDoor
open Go.RowKit Go.Proofs.YtclainfdeghgnaaDoor.Nm Go.Proofs.YtclainfdeghgnaaDoor.Lm

end Go.Proofs.YtclainfdeghgnaaDoor

namespace Go.Proofs.YtclainfdeghgnaaDoor
open Go.RowKit Go.Proofs.YtclainfdeghgnaaDoor.Nm Go.Proofs.YtclainfdeghgnaaDoor.Lm

end Go.Proofs.YtclainfdeghgnaaDoor

namespace Go.Proofs.YtclainfdeghgnaaDoor
open Go.RowKit Go.Proofs.YtclainfdeghgnaaDoor.Nm Go.Proofs.YtclainfdeghgnaaDoor.Lm

end Go.Proofs.YtclainfdeghgnaaDoor

namespace Go.Proofs.YtclainfdeghgnaaDoor
open Go.RowKit Go.Proofs.YtclainfdeghgnaaDoor.Nm Go.Proofs.YtclainfdeghgnaaDoor.Lm

end Go.Proofs.YtclainfdeghgnaaDoor

namespace Go.Proofs.YtclainfdeghgnaaDoor
open Go.RowKit Go.Proofs.YtclainfdeghgnaaDoor.Nm Go.Proofs.YtclainfdeghgnaaDoor.Lm

end Go.Proofs.YtclainfdeghgnaaDoor
namespace Go.Proofs.YtclainfdeghgnaaDoor
open Go.RowKit Go.Proofs.YtclainfdeghgnaaDoor.Nm Go.Proofs.YtclainfdeghgnaaDoor.Lm

end Go.Proofs.YtclainfdeghgnaaDoor

namespace Go.Proofs.YtclainfdeghgnaaDoor
open Go.RowKit Go.Proofs.YtclainfdeghgnaaDoor.Nm Go.Proofs.YtclainfdeghgnaaDoor.Lm
end Go.Proofs.YtclainfdeghgnaaDoor
namespace Go.Proofs.YtclainfdeghgnaaDoor
open Go.RowKit Go.Proofs.YtclainfdeghgnaaDoor.Nm Go.Proofs.YtclainfdeghgnaaDoor.Lm
def p2 (k : Nat) : Int := ((2 ^ k : Nat) : Int)
end Go.Proofs.YtclainfdeghgnaaDoor

namespace Go.Proofs.YtclainfdeghgnaaDoor
open Go.RowKit Go.Proofs.YtclainfdeghgnaaDoor.Nm Go.Proofs.YtclainfdeghgnaaDoor.Lm
end Go.Proofs.YtclainfdeghgnaaDoor
namespace Go.Proofs.YtclainfdeghgnaaDoor
open Go.RowKit Go.Proofs.YtclainfdeghgnaaDoor.Nm

end Go.Proofs.YtclainfdeghgnaaDoor
namespace Go.Proofs.YtclainfdeghgnaaDoor
open Go.RowKit Go.Proofs.YtclainfdeghgnaaDoor.Nm Go.Proofs.YtclainfdeghgnaaDoor.Lm
end Go.Proofs.YtclainfdeghgnaaDoor
namespace Go.Proofs.YtclainfdeghgnaaDoor
open Go.RowKit Go.Proofs.YtclainfdeghgnaaDoor.Nm Go.Proofs.YtclainfdeghgnaaDoor.Lm
end Go.Proofs.YtclainfdeghgnaaDoor
namespace Go.Proofs.YtclainfdeghgnaaDoor
def isDg (c : UInt8) : Bool := decide (48 ≤ c.toNat) && decide (c.toNat ≤ 57)
theorem isDg_iff {c : UInt8} : isDg c = true ↔ 48 ≤ c.toNat ∧ c.toNat ≤ 57 := by unfold isDg; simp
def sgL (u : Int) : List UInt8 := if u < 0 then [45] else []
def padW (k : Nat) (w : List UInt8) : List UInt8 := List.replicate (k + 1 - w.length) 48 ++ w
def bodyL (k : Nat) (w : List UInt8) : List UInt8 := if k = 0 then w else w.take (w.length - k) ++ 46 :: w.drop (w.length - k)
/-- The text of a decimal. -/
def fmtL (u : Int) (k : Nat) : List UInt8 := sgL u ++ bodyL k (padW k (Lib.decDigits u.natAbs))
def okD (u k : Int) : Bool := decide (-100000000000000000 ≤ u) && decide (u ≤ 100000000000000000) && decide (0 ≤ k) && decide (k ≤ 9)
theorem okD_iff {u k : Int} : okD u k = true ↔ -100000000000000000 ≤ u ∧ u ≤ 100000000000000000 ∧ 0 ≤ k ∧ k ≤ 9 := by
  unfold okD; simp [and_assoc]
theorem u8nat {d : Nat} (h : d < 10) : (UInt8.ofNat (48 + d)).toNat = 48 + d := by simp; omega
theorem digs_rec (n : Nat) : Lib.decDigits n = if n < 10 then [UInt8.ofNat (48 + n)] else Lib.decDigits (n / 10) ++ [UInt8.ofNat (48 + n % 10)] := by
  rw [Lib.decDigits]; split <;> rfl
theorem digs_ok (n : Nat) : ∀ c, c ∈ Lib.decDigits n → isDg c = true := by
  induction n using Nat.strongRecOn with
  | ind n ih =>
    intro c hc
    rw [digs_rec] at hc
    split at hc
    · rename_i h
      rw [List.mem_singleton.1 hc, isDg_iff, u8nat h]; omega
    · rename_i h
      rcases List.mem_append.1 hc with hc | hc
      · exact ih (n / 10) (by omega) c hc
      · rw [List.mem_singleton.1 hc, isDg_iff, u8nat (Nat.mod_lt _ (by omega))]; omega
theorem digs_len {n m : Nat} (h : n < 10 ^ (m + 1)) : (Lib.decDigits n).length ≤ m + 1 := by
  induction m generalizing n with
  | zero => rw [digs_rec, if_pos (by simpa using h)]; simp
  | succ m ih =>
    rw [digs_rec]
    split
    · simp
    · have := ih (n := n / 10) (by rw [Nat.pow_succ] at h; omega)
      simp; omega
/-- The value of digits behind others. -/
@[irreducible] def stepD (a : Nat) (c : UInt8) : Nat := a * 10 + (c.toNat - 48)
theorem stepD_eq (a : Nat) (c : UInt8) : stepD a c = a * 10 + (c.toNat - 48) := by unfold stepD; rfl
def vl (acc : Nat) (l : List UInt8) : Nat := l.foldl stepD acc
theorem vl_cons (acc : Nat) (c : UInt8) (r : List UInt8) : vl acc (c :: r) = vl (stepD acc c) r := by unfold vl; rw [List.foldl_cons]
theorem vl_one (acc : Nat) (c : UInt8) : vl acc [c] = acc * 10 + (c.toNat - 48) := by rw [vl_cons, stepD_eq]; rfl
theorem vl_cat (acc : Nat) (a b : List UInt8) : vl acc (a ++ b) = vl (vl acc a) b := by
  unfold vl; rw [List.foldl_append]
theorem vl_digs (n : Nat) : vl 0 (Lib.decDigits n) = n := by
  induction n using Nat.strongRecOn with
  | ind n ih =>
    rw [digs_rec]
    split
    · rename_i h
      rw [vl_one, u8nat h]; omega
    · rename_i h
      rw [vl_cat, ih (n / 10) (by omega), vl_one, u8nat (Nat.mod_lt n (by omega : 0 < 10))]
      omega
theorem vl_zeros (j : Nat) (w : List UInt8) : vl 0 (List.replicate j 48 ++ w) = vl 0 w := by
  induction j with
  | zero => rfl
  | succ j ih =>
    rw [List.replicate_succ, List.cons_append, vl_cons, show stepD 0 48 = 0 by rw [stepD_eq]; rfl, ih]
theorem vl_mono (l : List UInt8) : ∀ acc, acc ≤ vl acc l := by
  induction l with
  | nil => intro acc; exact Nat.le_refl _
  | cons c l ih => intro acc; rw [vl_cons]; exact Nat.le_trans (by rw [stepD_eq]; omega) (ih _)
theorem parse_vl (l : List UInt8) (h : ∀ c, c ∈ l → isDg c = true) : ∀ acc, vl acc l < 1000000000000000000 → Lib.parseUint10 acc l = .ok (vl acc l) := by
  induction l with
  | nil => intro acc _; rfl
  | cons c l ih =>
    intro acc hb
    have hc := isDg_iff.1 (h c (by simp))
    rw [vl_cons] at hb ⊢
    have h1 := vl_mono l (stepD acc c)
    have h2 := stepD_eq acc c
    rw [Lib.parseUint10, if_pos hc, if_neg (by omega), if_neg (by omega), ← h2]
    exact ih (fun c hc => h c (by simp [hc])) _ hb
theorem padW_ok (k : Nat) {w : List UInt8} (h : ∀ c, c ∈ w → isDg c = true) : ∀ c, c ∈ padW k w → isDg c = true := fun c hc => by
  rcases List.mem_append.1 hc with hc | hc
  · rw [List.eq_of_mem_replicate hc]; decide
  · exact h c hc
theorem padW_len (k : Nat) (w : List UInt8) : (padW k w).length = max (k + 1) w.length := by
  unfold padW; simp; omega
theorem atoi_of {u : Int} {w : List UInt8} (hw : ∀ c, c ∈ w → isDg c = true) (hne : w ≠ []) (hv : vl 0 w = u.natAbs) (hu : u.natAbs ≤ 100000000000000000) : Lib.atoiAll (sgL u ++ w) = .ok u := by
  have hm : Lib.parseMag w = .ok u.natAbs := by
    unfold Lib.parseMag
    rw [if_neg hne, parse_vl w hw 0 (by rw [hv]; omega), hv]
  obtain ⟨c, r, rfl⟩ : ∃ c r, w = c :: r := by
    cases w with
    | nil => exact absurd rfl hne
    | cons c r => exact ⟨c, r, rfl⟩
  have hc := isDg_iff.1 (hw c (by simp))
  unfold sgL
  split
  · rename_i h
    have e45 : (45 : UInt8).toNat = 45 := rfl
    simp only [List.cons_append, List.nil_append, Lib.atoiAll, e45, or_true, if_true, hm]
    rw [if_neg (by simp), if_neg (by simp; omega)]
    congr 1
    omega
  · rename_i h
    have n1 : ¬ c.toNat = 43 := by omega
    have n2 : ¬ c.toNat = 45 := by omega
    simp only [List.nil_append, Lib.atoiAll, n1, n2, or_false, if_false]
    rw [hm]
    simp only
    rw [if_neg (by simp; omega), if_neg (by simp)]
    congr 1
    omega
theorem cut_none {s : List UInt8} (h : ∀ c, c ∈ s → c ≠ 46) : Lib.cut s [46] = (s, [], false) := by
  have : Lib.index s [46] = -1 := by
    induction s with
    | nil => rfl
    | cons b s ih =>
      have hb := h b (by simp)
      rw [Lib.index, ih (fun c hc => h c (by simp [hc]))]
      have : ([46] : List UInt8).isPrefixOf (b :: s) = false := by simp [List.isPrefixOf]; exact fun e => hb e.symm
      rw [this]; rfl
  unfold Lib.cut
  rw [this, if_neg (by omega)]
theorem cut_at {a b : List UInt8} (h : ∀ c, c ∈ a → c ≠ 46) : Lib.cut (a ++ 46 :: b) [46] = (a, b, true) := by
  have : Lib.index (a ++ 46 :: b) [46] = (a.length : Int) := by
    induction a with
    | nil => rfl
    | cons x a ih =>
      have hb := h x (by simp)
      rw [List.cons_append, Lib.index, ih (fun c hc => h c (by simp [hc]))]
      have : ([46] : List UInt8).isPrefixOf (x :: (a ++ 46 :: b)) = false := by simp [List.isPrefixOf]; exact fun e => hb e.symm
      rw [this]
      simp only [Bool.false_eq_true, if_false]
      rw [if_neg (by simp)]
      simp
  unfold Lib.cut
  rw [this, if_pos (by omega)]
  simp
theorem dg_ne46 {c : UInt8} (h : isDg c = true) : c ≠ 46 := fun e => by subst e; revert h; decide
theorem sg_ne46 (u : Int) : ∀ c, c ∈ sgL u → c ≠ 46 := fun c hc => by
  unfold sgL at hc
  split at hc
  · rw [List.mem_singleton.1 hc]; decide
  · cases hc
/-- What the program's Parse gives. -/
def parseP (t : List UInt8) : Option (Int × Nat) :=
  match Lib.atoiAll ((Lib.cut t [46]).1 ++ (Lib.cut t [46]).2.1) with
  | .ok n => if (Lib.cut t [46]).2.2 = true ∧ (Lib.cut t [46]).2.1 = [] then none else if okD n (Lib.cut t [46]).2.1.length = true ∧ fmtL n (Lib.cut t [46]).2.1.length = t then some (n, (Lib.cut t [46]).2.1.length) else none
  | _ => none
theorem parseP_some {t : List UInt8} {u : Int} {k : Nat} (h : parseP t = some (u, k)) : okD u k = true ∧ fmtL u k = t := by
  unfold parseP at h
  split at h
  · split at h
    · cases h
    · split at h
      · rename_i h2; cases h; exact h2
      · cases h
  · cases h
theorem fmt_parts {u : Int} {k : Nat} (hk : okD u k = true) : ∃ a b : List UInt8, padW k (Lib.decDigits u.natAbs) = a ++ b ∧ b.length = k ∧ a ≠ [] ∧ fmtL u k = sgL u ++ (if k = 0 then a else a ++ 46 :: b) ∧ (∀ c, c ∈ a → isDg c = true) ∧ (∀ c, c ∈ b → isDg c = true) := by
  have hl := padW_len k (Lib.decDigits u.natAbs)
  have hok := padW_ok k (digs_ok u.natAbs)
  refine ⟨_, _, (List.take_append_drop ((padW k (Lib.decDigits u.natAbs)).length - k) _).symm, by rw [List.length_drop]; omega, ?_, ?_, fun c hc => hok c (List.mem_of_mem_take hc), fun c hc => hok c (List.mem_of_mem_drop hc)⟩
  · intro e
    have := congrArg List.length e
    rw [List.length_take] at this
    simp at this; omega
  · unfold fmtL bodyL
    split
    · rename_i h0
      subst h0
      simp
    · rfl
theorem parseP_fmt {u : Int} {k : Nat} (hk : okD u k = true) : parseP (fmtL u k) = some (u, k) := by
  obtain ⟨h1, h2, -, -⟩ := okD_iff.1 hk
  obtain ⟨a, b, hp, hbl, hane, hf, ha, hb⟩ := fmt_parts hk
  have hat : Lib.atoiAll (sgL u ++ (a ++ b)) = .ok u := by
    rw [← hp]
    refine atoi_of (padW_ok k (digs_ok _)) ?_ (by unfold padW; rw [vl_zeros, vl_digs]) (by omega)
    rw [hp]; simp [hane]
  have hcut : Lib.cut (fmtL u k) [46] = (sgL u ++ a, b, decide (k ≠ 0)) := by
    rw [hf]
    split
    · rename_i h0
      subst h0
      have : b = [] := List.length_eq_zero_iff.1 hbl
      subst this
      rw [cut_none fun c hc => by
        rcases List.mem_append.1 hc with hc | hc
        · exact sg_ne46 u c hc
        · exact dg_ne46 (ha c hc)]
      rfl
    · rename_i h0
      rw [← List.append_assoc, cut_at fun c hc => by
        rcases List.mem_append.1 hc with hc | hc
        · exact sg_ne46 u c hc
        · exact dg_ne46 (ha c hc)]
      simp [h0]
  unfold parseP
  rw [hcut]
  simp only [List.append_assoc, hat]
  rw [if_neg (fun e => by
    have e1 := e.1
    have e2 : b = [] := e.2
    rw [e2] at hbl
    simp at e1 hbl
    omega), hbl, if_pos ⟨hk, rfl⟩]
theorem fmt_len {u : Int} {k : Nat} (hk : okD u k = true) : (fmtL u k).length ≤ 30 := by
  obtain ⟨h1, h2, -, h4⟩ := okD_iff.1 hk
  have hd := digs_len (n := u.natAbs) (m := 17) (by omega)
  obtain ⟨a, b, hp, hbl, -, hf, -, -⟩ := fmt_parts hk
  have := congrArg List.length hp
  rw [padW_len, List.length_append] at this
  have hs : (sgL u).length ≤ 1 := by unfold sgL; split <;> simp
  rw [hf]
  split <;> simp <;> omega
end Go.Proofs.YtclainfdeghgnaaDoor
namespace Go.Proofs.YtclainfdeghgnaaDoor
open Go.Proofs.YtclainfdeghgnaaDoor.Nm
theorem itoa_sg (u : Int) : Lib.itoa u = sgL u ++ Lib.decDigits u.natAbs := by
  unfold Lib.itoa sgL
  split
  · rfl
  · rw [show u.toNat = u.natAbs by omega]; rfl
end Go.Proofs.YtclainfdeghgnaaDoor
namespace Go.Proofs
open Go.Shelf
def Tryd.laysM171_ren : Go.Shelf.Ren := ⟨fun | 171 => 15 | 243 => 24 | 246 => 46 | 283 => 78 | 284 => 79 | 285 => 80 | 286 => 81 | 129 => 95 | 317 => 94 | 318 => 96 | 319 => 97 | 320 => 98 | 337 => 105 | 338 => 106 | n => n, fun | 3 => 3 | 9 => 9 | 2 => 2 | 4 => 4 | 171 => 115 | 0 => 0 | 53 => 55 | 37 => 54 | 5 => 5 | 173 => 118 | 212 => 135 | 51 => 53 | 20 => 20 | 213 => 136 | 46 => 57 | 232 => 149 | 233 => 66 | n => n, fun | 17 => 3 | 18 => 4 | 19 => 5 | n => n⟩
theorem Tryd.laysM171 : Go.Proofs.LaysM.n171 Tryd.prog Tryd.laysM171_ren := {
  mixed := by kernel_rfl
  f129 := Tryd.func95.trans (congrArg some (by kernel_rfl))
  f171 := Tryd.func15.trans (congrArg some (by kernel_rfl))
  f243 := Tryd.func24.trans (congrArg some (by kernel_rfl))
  f246 := Tryd.func46.trans (congrArg some (by kernel_rfl))
  f283 := Tryd.func78.trans (congrArg some (by kernel_rfl))
  f284 := Tryd.func79.trans (congrArg some (by kernel_rfl))
  f285 := Tryd.func80.trans (congrArg some (by kernel_rfl))
  f286 := Tryd.func81.trans (congrArg some (by kernel_rfl))
  f317 := Tryd.func94.trans (congrArg some (by kernel_rfl))
  f318 := Tryd.func96.trans (congrArg some (by kernel_rfl))
  f319 := Tryd.func97.trans (congrArg some (by kernel_rfl))
  f320 := Tryd.func98.trans (congrArg some (by kernel_rfl))
  f337 := Tryd.func105.trans (congrArg some (by kernel_rfl))
  f338 := Tryd.func106.trans (congrArg some (by kernel_rfl))
  t0 := Tryd.underlying0
  a0 := Tryd.isAgg0
  z0 := Tryd.sizeOf0
  v0 := Tryd.zeroValue0
  t2 := Tryd.underlying2
  a2 := Tryd.isAgg2
  z2 := Tryd.sizeOf2
  v2 := Tryd.zeroValue2
  t3 := Tryd.underlying3
  a3 := Tryd.isAgg3
  z3 := Tryd.sizeOf3
  v3 := Tryd.zeroValue3
  t4 := Tryd.underlying4
  a4 := Tryd.isAgg4
  z4 := Tryd.sizeOf4
  v4 := Tryd.zeroValue4
  t5 := Tryd.underlying5
  a5 := Tryd.isAgg5
  z5 := Tryd.sizeOf5
  v5 := Tryd.zeroValue5
  t9 := Tryd.underlying9
  a9 := Tryd.isAgg9
  z9 := Tryd.sizeOf9
  v9 := Tryd.zeroValue9
  t20 := Tryd.underlying20
  a20 := Tryd.isAgg20
  z20 := Tryd.sizeOf20
  v20 := Tryd.zeroValue20
  t37 := Tryd.underlying54
  a37 := Tryd.isAgg54
  z37 := Tryd.sizeOf54
  v37 := Tryd.zeroValue54
  t46 := Tryd.underlying57
  a46 := Tryd.isAgg57
  z46 := Tryd.sizeOf57
  v46 := Tryd.zeroValue57
  t51 := Tryd.underlying53
  a51 := Tryd.isAgg53
  z51 := Tryd.sizeOf53
  v51 := Tryd.zeroValue53
  t53 := Tryd.underlying55
  a53 := Tryd.isAgg55
  z53 := Tryd.sizeOf55
  v53 := Tryd.zeroValue55
  t171 := Tryd.underlying115
  a171 := Tryd.isAgg115
  z171 := Tryd.sizeOf115
  v171 := Tryd.zeroValue115
  t173 := Tryd.underlying118
  a173 := Tryd.isAgg118
  z173 := Tryd.sizeOf118
  v173 := Tryd.zeroValue118
  t212 := Tryd.underlying135
  a212 := Tryd.isAgg135
  z212 := Tryd.sizeOf135
  v212 := Tryd.zeroValue135
  t213 := Tryd.underlying136
  a213 := Tryd.isAgg136
  z213 := Tryd.sizeOf136
  t232 := Tryd.underlying149
  a232 := Tryd.isAgg149
  z232 := Tryd.sizeOf149
  v232 := Tryd.zeroValue149
  t233 := Tryd.underlying66
  a233 := Tryd.isAgg66
  z233 := Tryd.sizeOf66
  v233 := Tryd.zeroValue66
  g17 := by kernel_rfl
  g18 := by kernel_rfl
  g19 := by kernel_rfl
  i0 := by kernel_rfl
  i2 := by kernel_rfl
  i3 := by kernel_rfl
  i4 := by kernel_rfl
  i5 := by kernel_rfl
  i9 := by kernel_rfl
  i20 := by kernel_rfl
  i37 := by kernel_rfl
  i46 := by kernel_rfl
  i51 := by kernel_rfl
  i53 := by kernel_rfl
  i171 := by kernel_rfl
  i173 := by kernel_rfl
  i212 := by kernel_rfl
  i232 := by kernel_rfl
  i233 := by kernel_rfl
  m17 := by kernel_rfl
  m18 := by kernel_rfl
  m19 := by kernel_rfl }
open Go.RowKit Go.Sort Go.Lib in
theorem Tryd.strconv_Itoa (n : Int) (h0 : -9223372036854775808 ≤ n) (h1 : n ≤ 9223372036854775807) (w : World) (htab : Lib.TabIs Tryd.prog w "internal/strconv.uint64pow10" .u64 Lib.pow10Tab) :
    Calls Tryd.prog 15 #[.int .i64 n] w fun e w' => e = .returned (.string ⟨(Lib.itoa n).toArray⟩) ∧ ∃ k os, w' = grow (w.drewN k) os := Any.strconv_Itoa Tryd.laysM171 n h0 h1 w htab
end Go.Proofs
namespace Go.Proofs.YtclainfdeghgnaaDoor
open Go.RowKit Go.Proofs.YtclainfdeghgnaaDoor.Nm
set_option linter.unusedSimpArgs false
/-- A guarded operation left out, whose slot is empty. -/
theorem put_undef (l : List Value) (df : List Deferred) (d : Nat) (h : l[d]? = some undef) : (Act.mk l.toArray df).put (some d) undef = Act.mk l.toArray df := by
  rw [put_lit]
  congr 2
  apply List.ext_getElem?
  intro i
  rw [List.getElem?_set]
  split
  · rename_i e; subst e
    split
    · exact h.symm
    · rename_i hn; rw [List.getElem?_eq_none (by omega)]
  · rfl
theorem wl_skipU {P : Program} {ops : Array Oper} {rest : List Oper} {op : Op} {d : Nat} {ty : TypeId} {pos : String} {after : Array Edge} {g : Option (Nat × Bool)} {l : List Value} {df : List Deferred} {w : World} {Q : Exit → Act → World → Prop} (hg : Region.wanted ⟨some d, op, ty, pos, after, g⟩ (yielded ops (Act.mk l.toArray df).tmps) = false) (hu : l[d]? = some undef)
    (h : wpList P ops Q rest (Act.mk l.toArray df) w) : wpList P ops Q (⟨some d, op, ty, pos, after, g⟩ :: rest) (Act.mk l.toArray df) w :=
  wl_skip hg (by rw [put_undef l df d hu]; exact h)
theorem u3d : Tryd.prog.underlying 3 = some (.int .i64) := by kernel_rfl
section
variable {ops : Array Oper} {rest : List Oper} {dst : Option Tmp} {ty ty' : TypeId} {x y : Operand} {pos : String} {after : Array Edge} {g : Option (Nat × Bool)} {a : Act} {w : World} {Q : Exit → Act → World → Prop} {ad : Addr} {v : Value}
theorem wl_oneG (hg : Region.wanted ⟨dst, .load ty x, ty', pos, after, g⟩ (yielded ops a.tmps) = true) (hx : a.eval x = .pointer (some ad)) (hr : OneAt w ty ad v) (h : wpList Tryd.prog ops Q rest (a.put dst v) w) : wpList Tryd.prog ops Q (⟨dst, .load ty x, ty', pos, after, g⟩ :: rest) a w := by
  refine wpList_step fun K hK => ?_
  rw [if_pos hg]
  unfold Oper.wp; rw [ex_one hx hr]; exact hK _ _ h
theorem run_boxD (u k : Int) (w : World) : (Instr.box 23 (.agg (dc u k))).run Tryd.prog w = .ok (.pointer (some ⟨w.heap.size, 0, none⟩)) (w.alloc (.cells (dc u k) 23)) := by kernel_rfl
theorem wl_boxD {u k : Int} (hx : a.eval x = .agg (dc u k)) (h : ∀ W p, Below w.heap.size w W → w.heap.size ≤ p → W.heap[p]? = some (.cells (dc u k) 23 (0, 0)) → wpList Tryd.prog ops Q rest (a.put dst (.pointer (some ⟨p, 0, none⟩))) W) : wpList Tryd.prog ops Q (⟨dst, .box 23 x, ty', pos, after, none⟩ :: rest) a w :=
  wl_w rfl (w2 := w.alloc (.cells (dc u k) 23)) (by
    unfold execOp
    have := run_boxD u k w
    simp [hx, this, Result.andThen]) (h _ _ ((Below.refl _ w).alloc (Nat.le_refl _) _) (Nat.le_refl _) (ha_new rfl))
theorem ex_allD (ev : Operand → Value) (w : World) : (execOp ev ⟨dst, .alloc 23, ty', pos, after, none⟩).run Tryd.prog w = .ok (.value (.pointer (some ⟨w.heap.size, 0, none⟩))) (w.alloc (.cells (dc 0 0) 23)) := by kernel_rfl
theorem wl_allD (h : ∀ W p, Below w.heap.size w W → w.heap.size ≤ p → W.heap[p]? = some (.cells (dc 0 0) 23 (0, 0)) → wpList Tryd.prog ops Q rest (a.put dst (.pointer (some ⟨p, 0, none⟩))) W) : wpList Tryd.prog ops Q (⟨dst, .alloc 23, ty', pos, after, none⟩ :: rest) a w := wl_new ex_allD h
theorem run_bsD (u k : Int) (w : World) : (Instr.buildSlice 49 1 #[(0, .agg (dc u k))]).run Tryd.prog w = .ok (.slice (some ⟨w.heap.size, 0, none⟩) 1 1) (w.alloc (.cells (dc u k) 23)) := by kernel_rfl
theorem wl_bsD {u k : Int} (hx : a.eval x = .agg (dc u k)) (h : ∀ W p, Below w.heap.size w W → w.heap.size ≤ p → W.heap[p]? = some (.cells (dc u k) 23 (0, 0)) → wpList Tryd.prog ops Q rest (a.put dst (.slice (some ⟨p, 0, none⟩) 1 1)) W) : wpList Tryd.prog ops Q (⟨dst, .buildSlice 49 1 #[(0, x)], ty', pos, after, none⟩ :: rest) a w :=
  wl_w rfl (w2 := w.alloc (.cells (dc u k) 23)) (by
    unfold execOp
    have := run_bsD u k w
    simp [hx, this, Result.andThen]) (h _ _ ((Below.refl _ w).alloc (Nat.le_refl _) _) (Nat.le_refl _) (ha_new rfl))
end
theorem fD0 {w : World} {b : Nat} {u k : Int} {t : TypeId} {fr : Nat × Nat} (hb : w.heap[b]? = some (.cells (dc u k) t fr)) : OneAt w 3 ⟨b, 0, none⟩ (.int .i64 u) := one_of u3d rfl (dc0 hb)
theorem fD1 {w : World} {b : Nat} {u k : Int} {t : TypeId} {fr : Nat × Nat} (hb : w.heap[b]? = some (.cells (dc u k) t fr)) : OneAt w 3 ⟨b, 1, none⟩ (.int .i64 k) := one_of u3d rfl (dc1 hb)
theorem valid_one {w : World} {g : Nat} {u k : Int} (hg : w.heap[g]? = some (.cells (dc u k) 23 (0, 0))) (R : Bool) (hR : R = validD u k) : Calls Tryd.prog 14 #[.slice (some ⟨g, 0, none⟩) 1 1] w fun e w' => e = .returned (.bool R) ∧ Below w.heap.size w w' :=
  valid_any g 1 [(u, k)] (by simp) R (Lib.hid (by rw [hR]; simp [allD])) w hg
end Go.Proofs.YtclainfdeghgnaaDoor
