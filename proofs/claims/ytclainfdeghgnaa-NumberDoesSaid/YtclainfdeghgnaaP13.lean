/- The bits of a number within a width, the program's. The value of bits, the program's. A truth value stored into one cell, in a drawn region. An operation bit by bit, the program's. Any operation on two texts, the program's: what it answers, said in whole numbers. A text that is read is the number's text. Numbers wrapped into a width: sums and products may be grouped in any way. Plain facts on operations: the modes, what a quotient and a rest give back. The law: where an operation does not trap, wrap and clamp answer the same. -/
import Derived.Test.YtclainfdeghgnaaP10
import Derived.Outline
import Derived.Test.YtclainfdeghgnaaM3
namespace Go.Proofs.Ytclainfdeghgnaa
open Go.RowKit Go.Proofs.Ytclainfdeghgnaa.Nm
theorem u111 : Try.prog.underlying 111 = some (.slice 4) := by kernel_rfl
theorem info4 : (Try.prog.info? 4).map (fun i => (i.zero, i.size, i.bytes)) = some (some (.bool false), 1, 1) := by kernel_rfl
/-- the lowest bits of a number, a cell each -/
def bcells (v m : Nat) : Array Value := ((List.range m).map fun i => Value.bool (v.testBit i)).toArray
theorem bcells_size (v m : Nat) : (bcells v m).size = m := by simp [bcells]
theorem bcells_get {v m j : Nat} (h : j < m) : (bcells v m)[j]? = some (.bool (v.testBit j)) := by simp [bcells, h]
theorem bcells_zero (m : Nat) : bcells 0 m = Array.replicate m (.bool false) := by
  apply Array.ext_getElem?
  intro j
  by_cases hj : j < m
  · rw [bcells_get hj, Nat.zero_testBit]; simp [hj]
  · rw [Array.getElem?_eq_none (by simp [bcells_size]; omega), Array.getElem?_eq_none (by simp; omega)]
theorem made_bcells (m : Nat) : madeCells (Value.bool false).cells (m * 1) = bcells 0 m := by
  apply Array.ext_getElem?
  intro j
  rw [bcells_zero]
  by_cases hj : j < m
  · simp [madeCells, Value.cells, hj, Nat.mod_one]
  · simp [madeCells, Value.cells, hj]
theorem bcells_step {v m k : Nat} (h : k < m) : (bcells (v % 2 ^ k) m).setIfInBounds k (.bool (v.testBit k)) = bcells (v % 2 ^ (k + 1)) m := by
  apply Array.ext_getElem?
  intro j
  by_cases hj : j < m
  · rw [bcells_get hj, Array.getElem?_setIfInBounds]
    by_cases hk : k = j
    · subst hk
      rw [if_pos rfl, if_pos (by rw [bcells_size]; exact h), Nat.testBit_mod_two_pow]
      simp
    · rw [if_neg hk, bcells_get hj, Nat.testBit_mod_two_pow, Nat.testBit_mod_two_pow]
      congr 2
      by_cases hjk : j < k
      · simp [hjk, show j < k + 1 by omega]
      · simp [hjk, show ¬ j < k + 1 by omega]
  · rw [Array.getElem?_eq_none (by simp [bcells_size]; omega), Array.getElem?_eq_none (by simp [bcells_size]; omega)]
theorem bcells_full {v m : Nat} (h : v < 2 ^ m) : bcells (v % 2 ^ m) m = bcells v m := by rw [Nat.mod_eq_of_lt h]
theorem ex_mk111 {ev : Operand → Value} {o : Oper} {w : World} (x : Operand) (ho : o.op = .makeSlice 111 x x) {z : Int} (m : Nat) (hx : ev x = .int .i64 z) (hz : z = (m : Int)) (hm : m ≤ 10000) :
    (execOp ev o).run Try.prog w = .ok (.value (.slice (some ⟨w.heap.size, 0, none⟩) m m)) (w.alloc (.cells (bcells 0 m) 4)) := by
  obtain ⟨i0, hi, hz0, hz1, hz2⟩ := info_parts info4
  have h := run_make (P := Try.prog) w 111 4 i0 _ u111 hi hz0 .i64 .i64 m m (by omega) (Int.le_refl _) (by rw [hz2]; omega) (by omega)
  rw [Int.toNat_natCast, hz1, made_bcells] at h
  unfold execOp
  simp [ho, hx, hz, h, Result.andThen]
theorem bit_div (v k : Nat) : (((v / 2 ^ k : Nat) : Int).tmod 2 ≠ 0) = (v.testBit k = true) := by
  rw [Nat.testBit_eq_decide_div_mod_eq]
  obtain ⟨q, hq⟩ : ∃ q, q = v / 2 ^ k := ⟨_, rfl⟩
  rw [← hq, Int.tmod_eq_emod_of_nonneg (by omega)]
  simp only [decide_eq_true_eq, ne_eq, eq_iff_iff]
  omega
theorem half_div {v k Q Q2 : Nat} (h : Q = v / 2 ^ k) (h2 : Q2 = v / 2 ^ (k + 1)) : (Q : Int).tdiv 2 = (Q2 : Int) := by
  rw [Nat.pow_succ, ← Nat.div_div_eq_div_mul, ← h] at h2
  rw [Int.tdiv_eq_ediv_of_nonneg (by omega)]
  omega
theorem two_le64 {n : Nat} (h : n ≤ 64) : 2 ^ n ≤ 18446744073709551616 := Nat.le_trans (Nat.pow_le_pow_right (by decide) h) (by decide)
theorem lv_zero' : lv 0 = #[.bool false] ++ row fun _ => 0 := by
  unfold lv dv
  rw [ng_zero]
  congr 1
theorem tm2_bd (q : Nat) : ((q : Int).tmod 2).natAbs ≤ 100000000000000000000 := by
  rw [Int.natAbs_tmod]
  have := Nat.mod_lt ((q : Int).natAbs) (show 0 < (2 : Int).natAbs by decide)
  have e : (2 : Int).natAbs = 2 := rfl
  omega
theorem built75z : Try.prog.built 75 [] = some (lv 0) := by rw [lv_zero']; exact built75n
theorem bit_dec {v k Q : Nat} {b : Bool} (h : Q = v / 2 ^ k) (h2 : b = v.testBit k) : decide ((Q : Int).tmod 2 ≠ 0) = b := by
  rw [h, h2, Bool.eq_iff_iff, decide_eq_true_eq]
  exact Iff.of_eq (bit_div v k)
set_option maxHeartbeats 4000000 in
set_option maxRecDepth 100000 in
theorem low_any (n : Nat) (s : Bool) (x : Int) (h1 : 1 ≤ n) (h2 : n ≤ 64) (hx : x.natAbs ≤ 100000000000000000000000000000000000000000000000000000000000) (v : Nat) (hv : (v : Int) = x % ((2 ^ n : Nat) : Int)) (w : World) :
    Calls Try.prog 91 #[.agg (wv n s), .agg (lv x)] w fun e w' => ∃ g, e = .returned (.slice (some ⟨g, 0, none⟩) n n) ∧ w.heap.size ≤ g ∧ w'.heap[g]? = some (.cells (bcells v n) 4 (0, 0)) ∧ Below w.heap.size w w' := by
  have HW : Hid (wrapW n false x = (v : Int)) := Lib.hid (by
    unfold wrapW loW
    simp only [Bool.false_eq_true, if_false]
    rw [Int.sub_zero, Int.zero_add, ← hv])
  have VL : Hid (v < 2 ^ n) := Lib.hid (by
    have := Int.emod_lt_of_pos x (b := ((2 ^ n : Nat) : Int)) (by have := Nat.pow_pos (n := n) (show 0 < 2 by decide); omega)
    omega)
  have VB : Hid (v ≤ 18446744073709551616) := Lib.hid (by have := VL.out; have := two_le64 h2; omega)
  clear hv
  go_enter Try.func91, Try.ntmps91
  go_upto_region 1 with (fail)
  refine wp_world (fun W => W.heap[w.heap.size]? = some (.cells (wv n s) 68 (0, 0)) ∧ W.heap[w.heap.size + 1]? = some (.cells (lv x) 75 (0, 0)) ∧ Below w.heap.size w W) ⟨ha_old (ha_new rfl), ha_new (by simp), ((Below.refl _ _).alloc (Nat.le_refl _) _).alloc (by simp) _⟩ ?_
  rintro W ⟨h0, hx, hb⟩
  apply wp_region_lit
  refine wl_k rfl (fun K hK => ?_); go_simp; refine hK _ ?_; clear hK K
  ((with_reducible apply wl_oneG); exact rfl; exact rfl; exact one_of u3 rfl (wv0 h0))
  refine wl_w rfl (ex_mk111 _ rfl n rfl rfl (by omega)) ?_
  simp only [put_lit, List.set_cons_zero, List.set_cons_succ]
  refine wl_world (fun W2 => W2.heap[w.heap.size]? = some (.cells (wv n s) 68 (0, 0)) ∧ W2.heap[w.heap.size + 1]? = some (.cells (lv x) 75 (0, 0)) ∧ W2.heap[W.heap.size]? = some (.cells (bcells 0 n) 4 (0, 0)) ∧ Below w.heap.size w W2) ⟨ha_old h0, ha_old hx, ha_new rfl, hb.alloc hb.size _⟩ ?_
  have L1 := heap_lt hx
  obtain ⟨g, hg⟩ : ∃ g, g = W.heap.size := ⟨_, rfl⟩
  rw [← hg] at L1 ⊢
  clear h0 hx hb hg
  rintro W2 ⟨h0, hx, hg, hb⟩
  go_upto_region 2 with (fail)
  apply wp_region_lit
  refine wl_ck rfl (fun K hK => ?_); go_simp; refine ⟨_, _, ⟨rfl, rfl⟩, hK _ _ ⟨_, small_any 2 (by decide) (by decide) _, ?_⟩⟩; clear hK K; rintro e w3 ⟨rfl, hb1⟩; refine ⟨_, rfl, ?_⟩; simp only [put_lit, List.set_cons_zero, List.set_cons_succ]
  replace h0 := below_look hb1 h0; replace hx := below_look hb1 hx; replace hg := below_look hb1 hg; replace hb := hb.trans (hb1.mono hb.size); clear hb1
  (have lth0p6 := heap_lt h0; have lthxp6 := heap_lt hx; have lthgp6 := heap_lt hg; have lsp6 := hb.size; (with_reducible apply wl_new75); intro w4 p6 hbn hlp6 hp6; replace h0 := below_look hbn h0; replace hx := below_look hbn hx; replace hg := below_look hbn hg; replace hb := hb.trans (hbn.mono hb.size); clear hbn)
  ((with_reducible apply wl_put75); exact rfl; exact rfl; exact hp6; intro w5 hbx hk hq; replace h0 := hk _ _ (by omega) h0; replace hx := hk _ _ (by omega) hx; replace hg := hk _ _ (by omega) hg; replace hb := hbx _ _ (by omega) hb; clear hp6; have hp6 := hq; clear hbx hk hq)
  go_upto_region 3 with (fail)
  apply wp_region_lit
  refine wl_k rfl (fun K hK => ?_); go_simp; refine hK _ ?_; clear hK K
  ((with_reducible apply wl_oneG); exact rfl; exact rfl; exact one_of u3 rfl (wv0 h0))
  refine wl_k rfl (fun K hK => ?_); go_simp; refine hK _ ?_; clear hK K
  ((with_reducible apply wl_rowG); exact rfl; exact rfl; exact rowL hx)
  refine wl_ck rfl (fun K hK => ?_); go_simp; refine ⟨_, _, ⟨rfl, rfl⟩, hK _ _ ⟨_, wrap_any n false x h1 h2 (by assumption) _, ?_⟩⟩; clear hK K; rintro e w6 ⟨rfl, hb1⟩; refine ⟨_, rfl, ?_⟩; simp only [put_lit, List.set_cons_zero, List.set_cons_succ]
  replace h0 := below_look hb1 h0; replace hx := below_look hb1 hx; replace hg := below_look hb1 hg; replace hp6 := below_look hb1 hp6; replace hb := hb.trans (hb1.mono hb.size); clear hb1
  rw [HW.out]
  ((with_reducible apply wl_put75); exact rfl; exact rfl; exact hx; intro w7 hbx hk hq; replace h0 := hk _ _ (by omega) h0; replace hg := hk _ _ (by omega) hg; replace hp6 := hk _ _ (by omega) hp6; replace hb := hbx _ _ (by omega) hb; clear hx; have hx := hq; clear hbx hk hq)
  go_wp2_with fail
  go_loopw [20] (fun i wr => ∃ k Q : Nat, k ≤ n ∧ Hid (Q = v / 2 ^ k) ∧ i = .int .i64 (k : Int) ∧ wr.heap[w.heap.size]? = some (.cells (wv n s) 68 (0, 0)) ∧ wr.heap[w.heap.size + 1]? = some (.cells (lv (Q : Int)) 75 (0, 0)) ∧ wr.heap[g]? = some (.cells (bcells (v % 2 ^ k) n) 4 (0, 0)) ∧ wr.heap[p6]? = some (.cells (lv 2) 75 (0, 0)) ∧ Below w.heap.size w wr) (fun i _ => (n - intOf i).toNat)
  case atStart => exact ⟨0, v, by omega, Lib.hid (by rw [Nat.pow_zero, Nat.div_one]), rfl, h0, hx, by rw [Nat.pow_zero, Nat.mod_one]; exact hg, hp6, hb⟩
  case round =>
    clear h0 hx hg hp6 hb
    obtain ⟨k, Q, hk, HQ, rfl, h0, hx, hg, hp6, hb⟩ := hrel
    by_cases hlt : k < n
    · have qb : Hid (Q ≤ 18446744073709551616) := Lib.hid (by rw [HQ.out]; exact Nat.le_trans (Nat.div_le_self _ _) VB.out)
      obtain ⟨Q2, hQ2⟩ : ∃ Q2, Q2 = v / 2 ^ (k + 1) := ⟨_, rfl⟩
      have HQ2 := Lib.hid hQ2
      obtain ⟨bk, hbk⟩ : ∃ bk, bk = v.testBit k := ⟨_, rfl⟩
      have HBK := Lib.hid hbk
      obtain ⟨bo, hbo⟩ : ∃ bo, bo = (v % 2 ^ k).testBit k := ⟨_, rfl⟩
      have HBO := Lib.hid hbo
      clear hQ2 hbk hbo
      go_upto_region 7 with (fail)
      have L3 := heap_lt hx
      apply wp_region_lit
      (have lth0p8 := heap_lt h0; have lthxp8 := heap_lt hx; have lthgp8 := heap_lt hg; have lthp6p8 := heap_lt hp6; have lsp8 := hb.size; (with_reducible apply wl_new75); intro w8 p8 hbn hlp8 hp8; replace h0 := below_look hbn h0; replace hx := below_look hbn hx; replace hg := below_look hbn hg; replace hp6 := below_look hbn hp6; replace hb := hb.trans (hbn.mono hb.size); clear hbn)
      go_upto_region 8 with (fail)
      apply wp_region_lit
      ((with_reducible apply wl_rowG); exact rfl; exact rfl; exact rowL hx)
      ((with_reducible apply wl_rowG); exact rfl; exact rfl; exact rowL hp6)
      refine wl_ck rfl (fun K hK => ?_); go_simp; refine ⟨_, _, ⟨rfl, rfl⟩, hK _ _ ⟨_, div_any (Q : Int) 2 (small64 (by rw [Int.natAbs_natCast]; have := qb.out; omega)) (by decide) (by decide) _, ?_⟩⟩; clear hK K; rintro e w9 ⟨rfl, hb1⟩; refine ⟨_, rfl, ?_⟩; simp only [put_lit, List.set_cons_zero, List.set_cons_succ]
      replace h0 := below_look hb1 h0; replace hx := below_look hb1 hx; replace hg := below_look hb1 hg; replace hp6 := below_look hb1 hp6; replace hp8 := below_look hb1 hp8; replace hb := hb.trans (hb1.mono hb.size); clear hb1
      rw [half_div HQ.out HQ2.out]
      refine wl_k rfl (fun K hK => ?_); go_simp; refine hK _ ?_; clear hK K
      refine wl_k rfl (fun K hK => ?_); go_simp; refine hK _ ?_; clear hK K
      refine wl_k rfl (fun K hK => ?_); go_simp; refine hK _ ?_; clear hK K
      ((with_reducible apply wl_put75); exact rfl; exact rfl; exact hx; intro w10 hbx hk hq; replace h0 := hk _ _ (by omega) h0; replace hg := hk _ _ (by omega) hg; replace hp6 := hk _ _ (by omega) hp6; replace hp8 := hk _ _ (by omega) hp8; replace hb := hbx _ _ (by omega) hb; clear hx; have hx := hq; clear hbx hk hq)
      ((with_reducible apply wl_put75); exact rfl; exact rfl; exact hp8; intro w11 hbx hk hq; replace h0 := hk _ _ (by omega) h0; replace hx := hk _ _ (by omega) hx; replace hg := hk _ _ (by omega) hg; replace hp6 := hk _ _ (by omega) hp6; replace hb := hbx _ _ (by omega) hb; clear hp8; have hp8 := hq; clear hbx hk hq)
      go_upto_region 9 with (fail)
      have cg : w11.cell? ⟨g, k, none⟩ = some (.bool bo) := by rw [cell_of_row _ _ _ _ _ _ hg, HBO.out]; exact bcells_get hlt
      have fg : w11.frozen? ⟨g, k, none⟩ = false := frozen_of_row _ _ _ _ _ hg
      apply wp_region_lit
      refine wl_k rfl (fun K hK => ?_); go_simp; refine hK _ ?_; clear hK K
      refine wl_k rfl (fun K hK => ?_); go_simp; refine hK _ ?_; clear hK K
      ((with_reducible apply wl_rowG); exact rfl; exact rfl; exact rowL hp8)
      refine wl_val rfl (ex_build 75 _ rfl (L := []) rfl built75z) ?_
      simp only [put_lit, List.set_cons_zero, List.set_cons_succ]
      refine wl_val rfl (ex_neq75 _ _ _ rfl rfl rfl (small64 (tm2_bd _)) (by decide)) ?_
      simp only [put_lit, List.set_cons_zero, List.set_cons_succ]
      rw [bit_dec HQ.out HBK.out]
      go_wp2_with fail
      go_roundw
      case rel => exact ⟨k + 1, Q2, by omega, HQ2, by go_num, hs_old h0 (by simp; omega), hs_old hx (by simp; omega), (hs_new hg).trans (by rw [HBK.out, bcells_step hlt]), hs_old hp6 (by simp; omega), hb.setCell (by simp; omega) _⟩
      case measure => simp [intOf]; omega
    · obtain rfl : k = n := by omega
      rw [bcells_full VL.out] at hg
      go_wp2_with fail
      go_ret
      exact ⟨g, rfl, by omega, hg, hb⟩
end Go.Proofs.Ytclainfdeghgnaa

namespace Go.Proofs.Ytclainfdeghgnaa
open Go.RowKit Go.Proofs.Ytclainfdeghgnaa.Nm
theorem dbl_bit {v j X Q : Nat} {b : Bool} (h : X = v / 2 ^ (j + 1)) (h2 : Q = v / 2 ^ j) (hb : v.testBit j = b) : ((X : Int) + (X : Int)) + (if b then 1 else 0) = (Q : Int) := by
  rw [Nat.testBit_eq_decide_div_mod_eq, ← h2] at hb
  rw [Nat.pow_succ, ← Nat.div_div_eq_div_mul, ← h2] at h
  cases b
  · simp only [decide_eq_false_iff_not] at hb
    simp only [Bool.false_eq_true, if_false]
    omega
  · simp only [decide_eq_true_eq] at hb
    simp only [if_true]
    omega
set_option maxHeartbeats 4000000 in
set_option maxRecDepth 100000 in
theorem value_any (n : Nat) (s : Bool) (h1 : 1 ≤ n) (h2 : n ≤ 64) (v : Nat) (hv : v < 2 ^ n) (g : Nat) (w : World) (hg0 : w.heap[g]? = some (.cells (bcells v n) 4 (0, 0))) :
    Calls Try.prog 95 #[.agg (wv n s), .slice (some ⟨g, 0, none⟩) n n] w fun e w' => e = .returned (.agg (lv (wrapW n s (v : Int)))) ∧ Below w.heap.size w w' := by
  have HG := Lib.hid hg0
  have LG := heap_lt hg0
  have VL := Lib.hid hv
  have VB : Hid (v ≤ 18446744073709551616) := Lib.hid (by have := VL.out; have := two_le64 h2; omega)
  clear hg0 hv
  go_enter Try.func95, Try.ntmps95
  go_upto_region 1 with (fail)
  refine wp_world (fun W => W.heap[w.heap.size]? = some (.cells (wv n s) 68 (0, 0)) ∧ W.heap[w.heap.size + 1]? = some (.cells (lv 0) 75 (0, 0)) ∧ Below w.heap.size w W) ⟨ha_old (ha_new rfl), by rw [lv_zero']; exact ha_new (by simp), ((Below.refl _ _).alloc (Nat.le_refl _) _).alloc (by simp) _⟩ ?_
  rintro W ⟨h0, h4, hb⟩
  have hg := below_look hb HG.out
  clear HG
  apply wp_region_lit
  refine wl_ck rfl (fun K hK => ?_); go_simp; refine ⟨_, _, ⟨rfl, rfl⟩, hK _ _ ⟨_, small_any 0 (by decide) (by decide) _, ?_⟩⟩; clear hK K; rintro e w1 ⟨rfl, hb1⟩; refine ⟨_, rfl, ?_⟩; simp only [put_lit, List.set_cons_zero, List.set_cons_succ]
  replace h0 := below_look hb1 h0; replace h4 := below_look hb1 h4; replace hg := below_look hb1 hg; replace hb := hb.trans (hb1.mono hb.size); clear hb1
  (have lth0p5 := heap_lt h0; have lth4p5 := heap_lt h4; have lthgp5 := heap_lt hg; have lsp5 := hb.size; (with_reducible apply wl_new75); intro w2 p5 hbn hlp5 hp5; replace h0 := below_look hbn h0; replace h4 := below_look hbn h4; replace hg := below_look hbn hg; replace hb := hb.trans (hbn.mono hb.size); clear hbn)
  ((with_reducible apply wl_put75); exact rfl; exact rfl; exact hp5; intro w3 hbx hk hq; replace h0 := hk _ _ (by omega) h0; replace h4 := hk _ _ (by omega) h4; replace hg := hk _ _ (by omega) hg; replace hb := hbx _ _ (by omega) hb; clear hp5; have hp5 := hq; clear hbx hk hq)
  go_wp2_with fail
  go_loopw [6] (fun i wr => ∃ k X : Nat, k ≤ n ∧ Hid (X = v / 2 ^ k) ∧ i = .int .i64 ((k : Int) - 1) ∧ wr.heap[w.heap.size]? = some (.cells (wv n s) 68 (0, 0)) ∧ wr.heap[w.heap.size + 1]? = some (.cells (lv 0) 75 (0, 0)) ∧ wr.heap[g]? = some (.cells (bcells v n) 4 (0, 0)) ∧ wr.heap[p5]? = some (.cells (lv (X : Int)) 75 (0, 0)) ∧ Below w.heap.size w wr) (fun i _ => (intOf i + 1).toNat)
  case atStart => exact ⟨n, 0, by omega, Lib.hid (by rw [Nat.div_eq_of_lt VL.out]), by go_num, h0, h4, hg, hp5, hb⟩
  case round =>
    clear h0 h4 hg hp5 hb
    obtain ⟨k, X, hk, HX, rfl, h0, h4, hg, hp5, hb⟩ := hrel
    rcases k with _ | j
    · have hX : X = v := by rw [HX.out, Nat.pow_zero, Nat.div_one]
      subst hX
      go_upto_region 8 with (fail)
      have L5 := heap_lt h4
      apply wp_region_lit
      ((with_reducible apply wl_rowG); exact rfl; exact rfl; exact rowW h0)
      ((with_reducible apply wl_rowG); exact rfl; exact rfl; exact rowL hp5)
      refine wl_ck rfl (fun K hK => ?_); go_simp; refine ⟨_, _, ⟨rfl, rfl⟩, hK _ _ ⟨_, wrap_any n s (X : Int) h1 h2 (by rw [Int.natAbs_natCast]; have := VB.out; omega) _, ?_⟩⟩; clear hK K; rintro e w4 ⟨rfl, hb1⟩; refine ⟨_, rfl, ?_⟩; simp only [put_lit, List.set_cons_zero, List.set_cons_succ]
      replace h0 := below_look hb1 h0; replace h4 := below_look hb1 h4; replace hg := below_look hb1 hg; replace hp5 := below_look hb1 hp5; replace hb := hb.trans (hb1.mono hb.size); clear hb1
      ((with_reducible apply wl_put75); exact rfl; exact rfl; exact h4; intro w5 hbx hk hq; replace hb := hbx _ _ (by omega) hb; clear h4; have h4 := hq; clear hbx hk hq)
      go_wp2_with fail
      exact bodyPost_ret (res_long rfl _ _ (w.heap.size + 1) rfl h4) rfl ⟨rfl, hb⟩
    · have ej : ((j + 1 : Nat) : Int) - 1 = (j : Int) := by omega
      rw [ej]
      clear ej
      have xb : Hid (X ≤ 18446744073709551616) := Lib.hid (by rw [HX.out]; exact Nat.le_trans (Nat.div_le_self _ _) VB.out)
      obtain ⟨Q, hQ⟩ : ∃ Q, Q = v / 2 ^ j := ⟨_, rfl⟩
      have HQ := Lib.hid hQ
      obtain ⟨bj, hbj⟩ : ∃ bj, v.testBit j = bj := ⟨_, rfl⟩
      have HD := Lib.hid (dbl_bit HX.out hQ hbj)
      have HBJ := Lib.hid hbj
      obtain ⟨Y, hY⟩ : ∃ Y : Int, Y = (X : Int) + (X : Int) := ⟨_, rfl⟩
      have yb : Hid (Y.natAbs ≤ 40000000000000000000) := Lib.hid (by have := xb.out; omega)
      rw [← hY] at HD
      have HY := Lib.hid hY
      clear hQ hbj hY
      go_upto_region 5 with (fail)
      apply wp_region_lit
      ((with_reducible apply wl_rowG); exact rfl; exact rfl; exact rowL hp5)
      ((with_reducible apply wl_rowG); exact rfl; exact rfl; exact rowL hp5)
      refine wl_ck rfl (fun K hK => ?_); go_simp; refine ⟨_, _, ⟨rfl, rfl⟩, hK _ _ ⟨_, add_any (X : Int) (X : Int) (small64 (by have := xb.out; omega)) _, ?_⟩⟩; clear hK K; rintro e w4 ⟨rfl, hb1⟩; refine ⟨_, rfl, ?_⟩; simp only [put_lit, List.set_cons_zero, List.set_cons_succ]
      replace h0 := below_look hb1 h0; replace h4 := below_look hb1 h4; replace hg := below_look hb1 hg; replace hp5 := below_look hb1 hp5; replace hb := hb.trans (hb1.mono hb.size); clear hb1
      rw [← HY.out]
      ((with_reducible apply wl_put75); exact rfl; exact rfl; exact hp5; intro w5 hbx hk hq; replace h0 := hk _ _ (by omega) h0; replace h4 := hk _ _ (by omega) h4; replace hg := hk _ _ (by omega) hg; replace hb := hbx _ _ (by omega) hb; clear hp5; have hp5 := hq; clear hbx hk hq)
      have cg : w5.cell? ⟨g, j, none⟩ = some (.bool bj) := by rw [cell_of_row _ _ _ _ _ _ hg, ← HBJ.out]; exact bcells_get (by omega)
      cases bj
      · have HE : Hid (Y = (Q : Int)) := Lib.hid (by have := HD.out; simpa using this)
        rw [HE.out] at hp5
        go_wp2_with fail
        go_roundw
        case rel => exact ⟨j, Q, by omega, HQ, by go_num, h0, h4, hg, hp5, hb⟩
        case measure => simp [intOf] <;> omega
      · have HE : Hid (Y + 1 = (Q : Int)) := Lib.hid (by have := HD.out; simpa using this)
        go_upto_region 7 with (fail)
        clear cg
        have L5 := heap_lt hp5
        have L6 := heap_lt h4
        have L7 := heap_lt hg
        replace hb := hb.drew
        refine wp_region_held_drew (S := Kept [p5] w5) mixed (Kept.drew [p5] w5) (fun hS => ?_)
        refine ha_two (i := 0) (j := 1) (by kernel_rfl) ?_ ?_
        · refine sh_val (i := 0) rfl rfl (ex_row rfl (rowL hp5)) hS ?_; try simp only [put_lit, List.set_cons_zero, List.set_cons_succ]
          refine ha_call (i := 1) (by kernel_rfl) rfl rfl (fun K hK => ?_); go_simp; refine ⟨_, _, ⟨rfl, rfl⟩, hK _ _ ⟨_, small_any 1 (by decide) (by decide) _, ?_⟩⟩; clear hK K; rintro e w6 ⟨rfl, hb1⟩; refine ⟨_, rfl, hS.below hb1, ?_⟩; replace hS := hS.below hb1; replace h0 := below_look hb1 h0; replace h4 := below_look hb1 h4; replace hg := below_look hb1 hg; replace hp5 := below_look hb1 hp5; replace hb := hb.trans (hb1.mono hb.size); clear hb1; try simp only [put_lit, List.set_cons_zero, List.set_cons_succ]
          refine ha_call (i := 2) (by kernel_rfl) rfl rfl (fun K hK => ?_); go_simp; refine ⟨_, _, ⟨rfl, rfl⟩, hK _ _ ⟨_, add_any Y 1 (small64 (by have := yb.out; omega)) _, ?_⟩⟩; clear hK K; rintro e w7 ⟨rfl, hb1⟩; refine ⟨_, rfl, hS.below hb1, ?_⟩; replace hS := hS.below hb1; replace h0 := below_look hb1 h0; replace h4 := below_look hb1 h4; replace hg := below_look hb1 hg; replace hp5 := below_look hb1 hp5; replace hb := hb.trans (hb1.mono hb.size); clear hb1; try simp only [put_lit, List.set_cons_zero, List.set_cons_succ]
          rw [HE.out]
          refine ha_store (i := 3) (by kernel_rfl) rfl rfl 75 _ _ rfl _ (lv ((Q : Int))) rfl rfl 75 _ hp5 (by rw [info75, lv_size]) (by rw [lv_size, lv_size]) (lv_one _) (hS.setRow (by simp) _) (fun hS => ?_); try simp only [put_lit, List.set_cons_zero, List.set_cons_succ]
          refine wpAnyH_done (by kernel_rfl) ?_ _
          replace hb := below_setRow hb (g := p5) (by omega) (lv (Q : Int))
          go_wp2_with fail
          go_roundw
          case rel => exact ⟨j, Q, by omega, HQ, by go_num, hr_old h0 (by omega), hr_old h4 (by omega), hr_old hg (by omega), hr_new hp5, hb⟩
          case measure => simp [intOf] <;> omega
        · refine sh_call (i := 1) rfl rfl (fun K hK => ?_); go_simp; refine ⟨_, _, ⟨rfl, rfl⟩, hK _ _ ⟨_, small_any 1 (by decide) (by decide) _, ?_⟩⟩; clear hK K; rintro e w6 ⟨rfl, hb1⟩; refine ⟨_, rfl, hS.below hb1, ?_⟩; replace hS := hS.below hb1; replace h0 := below_look hb1 h0; replace h4 := below_look hb1 h4; replace hg := below_look hb1 hg; replace hp5 := below_look hb1 hp5; replace hb := hb.trans (hb1.mono hb.size); clear hb1; try simp only [put_lit, List.set_cons_zero, List.set_cons_succ]
          refine ha_do (i := 0) (by kernel_rfl) rfl rfl (ex_row rfl (rowL hp5)) hS ?_; try simp only [put_lit, List.set_cons_zero, List.set_cons_succ]
          refine ha_call (i := 2) (by kernel_rfl) rfl rfl (fun K hK => ?_); go_simp; refine ⟨_, _, ⟨rfl, rfl⟩, hK _ _ ⟨_, add_any Y 1 (small64 (by have := yb.out; omega)) _, ?_⟩⟩; clear hK K; rintro e w7 ⟨rfl, hb1⟩; refine ⟨_, rfl, hS.below hb1, ?_⟩; replace hS := hS.below hb1; replace h0 := below_look hb1 h0; replace h4 := below_look hb1 h4; replace hg := below_look hb1 hg; replace hp5 := below_look hb1 hp5; replace hb := hb.trans (hb1.mono hb.size); clear hb1; try simp only [put_lit, List.set_cons_zero, List.set_cons_succ]
          rw [HE.out]
          refine ha_store (i := 3) (by kernel_rfl) rfl rfl 75 _ _ rfl _ (lv ((Q : Int))) rfl rfl 75 _ hp5 (by rw [info75, lv_size]) (by rw [lv_size, lv_size]) (lv_one _) (hS.setRow (by simp) _) (fun hS => ?_); try simp only [put_lit, List.set_cons_zero, List.set_cons_succ]
          refine wpAnyH_done (by kernel_rfl) ?_ _
          replace hb := below_setRow hb (g := p5) (by omega) (lv (Q : Int))
          go_wp2_with fail
          go_roundw
          case rel => exact ⟨j, Q, by omega, HQ, by go_num, hr_old h0 (by omega), hr_old h4 (by omega), hr_old hg (by omega), hr_new hp5, hb⟩
          case measure => simp [intOf] <;> omega
end Go.Proofs.Ytclainfdeghgnaa

namespace Go.Proofs.Ytclainfdeghgnaa.Nm
open Go.RowKit
theorem run_store4 (ad : Addr) (b : Bool) (old : Value) (w : World) (hc : w.cell? ad = some old) (hf : w.frozen? ad = false) :
    (storeVar 4 ad (.bool b)).run Try.prog w = .ok () (w.setCell ad (.bool b)) := by
  cases hq : Try.prog.info? 4 with
  | none => have := info4; simp [hq] at this
  | some i =>
    have hs : i.size = 1 := by have := info4; simp [hq] at this; exact this.2.1
    have ha : ad.add 0 = ad := by cases ad; simp [Addr.add]
    simp [storeVar, sizeOf, typeInfo, hq, hs, Value.cells, storeCells, ha]
    rw [run_store_bool]
    simp [stored, hc, hf]
theorem wp_store4 {o : Oper} {a : Act} {w : World} {K : Act → World → Prop} {Q : Exit → Act → World → Prop} (x y : Operand) (ho : o.op = .store 4 x y) (ad : Addr) (b : Bool) (old : Value)
    (hx : a.eval x = .pointer (some ad)) (hy : a.eval y = .bool b) (hc : w.cell? ad = some old) (hf : w.frozen? ad = false)
    (h : K (a.put o.dst undef) (w.setCell ad (.bool b))) : o.wp Try.prog a w K Q := by
  unfold Oper.wp execOp
  simp only [ho, hx, hy, Instr.storeAt, Instr.sureAddr, Sem.run_bind, Sem.run_pure, Result.andThen_ok, run_store4 ad b old w hc hf]
  exact h
section
variable {ops : Array Oper} {Q : Exit → Act → World → Prop} {md : Region.Mode} {S : World → Prop} {i : Nat} {oi : Oper} {fuel : Nat} {listed : Array Bool} {a : Act} {w : World}
theorem ha_cell4 (hr : Region.ready md ops listed = [i]) (ho : ops[i]? = some oi) (hg : Region.wanted oi (yielded ops a.tmps) = true) (x y : Operand) (hop : oi.op = .store 4 x y) (ad : Addr) (b : Bool) (old : Value)
    (hx : a.eval x = .pointer (some ad)) (hy : a.eval y = .bool b) (hc : w.cell? ad = some old) (hf : w.frozen? ad = false) (hS : S (w.setCell ad (.bool b)))
    (h : S (w.setCell ad (.bool b)) → wpAnyH Try.prog md ops Q S fuel (listed.setIfInBounds i true) (a.put oi.dst undef) (w.setCell ad (.bool b))) : wpAnyH Try.prog md ops Q S (fuel + 1) listed a w := by
  refine wpAnyH_ready (rs := [i]) hr (by simp) (AllReadyH.cons ho (fun K hK => ?_) AllReadyH.nil)
  rw [if_pos hg]
  exact wp_store4 x y hop ad b old hx hy hc hf (hK.out _ _ hS h)
end
end Go.Proofs.Ytclainfdeghgnaa.Nm

namespace Go.Proofs.Ytclainfdeghgnaa
open Go.RowKit Go.Proofs.Ytclainfdeghgnaa.Nm
/-- bits of one number, and above them those of another one -/
def mcells (r v k m : Nat) : Array Value := ((List.range m).map fun i => Value.bool (if i < k then r.testBit i else v.testBit i)).toArray
theorem mcells_size (r v k m : Nat) : (mcells r v k m).size = m := by simp [mcells]
theorem mcells_get {r v k m j : Nat} (h : j < m) : (mcells r v k m)[j]? = some (.bool (if j < k then r.testBit j else v.testBit j)) := by simp [mcells, h]
theorem mcells_zero (r v m : Nat) : mcells r v 0 m = bcells v m := by simp [mcells, bcells]
theorem mcells_full (r v m : Nat) : mcells r v m m = bcells r m := by
  apply Array.ext_getElem?
  intro j
  by_cases hj : j < m
  · rw [mcells_get hj, bcells_get hj, if_pos hj]
  · rw [Array.getElem?_eq_none (by simp [mcells_size]; omega), Array.getElem?_eq_none (by simp [bcells_size]; omega)]
theorem mcells_step {r v m k : Nat} (h : k < m) : (mcells r v k m).setIfInBounds k (.bool (r.testBit k)) = mcells r v (k + 1) m := by
  apply Array.ext_getElem?
  intro j
  by_cases hj : j < m
  · rw [mcells_get hj, Array.getElem?_setIfInBounds]
    by_cases hk : k = j
    · subst hk
      rw [if_pos rfl, if_pos (by rw [mcells_size]; exact h), if_pos (by omega)]
    · rw [if_neg hk, mcells_get hj]
      congr 2
      by_cases hjk : j < k
      · rw [if_pos hjk, if_pos (by omega)]
      · rw [if_neg hjk, if_neg (by omega)]
  · rw [Array.getElem?_eq_none (by simp [mcells_size]; omega), Array.getElem?_eq_none (by simp [mcells_size]; omega)]
set_option maxHeartbeats 400000 in
theorem and_any (a b : Bool) (w : World) : Calls Try.prog 105 #[.bool a, .bool b] w fun e w' => e = .returned (.bool (a && b)) ∧ Below w.heap.size w w' := by
  cases a <;> cases b <;> (go_enter Try.func105, Try.ntmps105; (go_wp2_with fail; go_ret; exact ⟨rfl, Below.refl _ _⟩))
set_option maxHeartbeats 400000 in
theorem or_any (a b : Bool) (w : World) : Calls Try.prog 106 #[.bool a, .bool b] w fun e w' => e = .returned (.bool (a || b)) ∧ Below w.heap.size w w' := by
  cases a <;> cases b <;> (go_enter Try.func106, Try.ntmps106; (go_wp2_with fail; go_ret; exact ⟨rfl, Below.refl _ _⟩))
set_option maxHeartbeats 400000 in
theorem xor_any (a b : Bool) (w : World) : Calls Try.prog 107 #[.bool a, .bool b] w fun e w' => e = .returned (.bool (a != b)) ∧ Below w.heap.size w w' := by
  cases a <;> cases b <;> (go_enter Try.func107, Try.ntmps107; (go_wp2_with fail; go_ret; exact ⟨rfl, Below.refl _ _⟩))
set_option maxHeartbeats 4000000 in
set_option maxRecDepth 100000 in
theorem bitAnd_any (n : Nat) (s : Bool) (x y : Int) (h1 : 1 ≤ n) (h2 : n ≤ 64) (hx : x.natAbs ≤ 100000000000000000000000000000000000000000000000000000000000) (hy : y.natAbs ≤ 100000000000000000000000000000000000000000000000000000000000)
    (v u r : Nat) (hv : (v : Int) = x % ((2 ^ n : Nat) : Int)) (hu : (u : Int) = y % ((2 ^ n : Nat) : Int)) (hrl : r < 2 ^ n) (hr : ∀ i, i < n → r.testBit i = ((v.testBit i) && (u.testBit i))) (w : World) :
    Calls Try.prog 104 #[.agg (wv n s), .agg (lv x), .agg (lv y), .func (.func 105) #[] #[]] w fun e w' => e = .returned (.agg (lv (wrapW n s (r : Int)))) ∧ Below w.heap.size w w' := by
  have HX := Lib.hid hx
  have HY := Lib.hid hy
  have HV := Lib.hid hv
  have HU := Lib.hid hu
  have HR := Lib.hid (And.intro hrl hr)
  clear hx hy hv hu hrl hr
  go_enter Try.func104, Try.ntmps104
  go_upto_region 1 with (fail)
  refine wp_world (fun W => W.heap[w.heap.size]? = some (.cells (wv n s) 68 (0, 0)) ∧ W.heap[w.heap.size + 1]? = some (.cells (lv x) 75 (0, 0)) ∧ W.heap[w.heap.size + 1 + 1]? = some (.cells (lv y) 75 (0, 0)) ∧ W.heap[w.heap.size + 1 + 1 + 1]? = some (.cells (lv 0) 75 (0, 0)) ∧ Below w.heap.size w W)
    ⟨ha_old (ha_old (ha_old (ha_new rfl))), ha_old (ha_old (ha_new (by simp))), ha_old (ha_new (by simp)), by rw [lv_zero']; exact ha_new (by simp), ((((Below.refl _ _).alloc (Nat.le_refl _) _).alloc (by simp) _).alloc (by simp; omega) _).alloc (by simp; omega) _⟩ ?_
  rintro W ⟨h0, h4, h5, h8, hb⟩
  replace hb := hb.drew
  have LW := heap_lt h8
  refine wp_region_held_drew (S := Kept [] W) mixed (Kept.drew [] W) (fun hS => ?_)
  refine ha_val (i := 0) rfl (by kernel_rfl) (by kernel_rfl) (by kernel_rfl) (fun _ _ _ h => h) hS rfl (fun w' hw' => ex_row rfl (rowW (hw'.look h0 (by simp <;> omega)))) ?_; try simp only [put_lit, List.set_cons_zero, List.set_cons_succ]
  refine ha_val (i := 1) rfl (by kernel_rfl) (by kernel_rfl) (by kernel_rfl) (fun _ _ _ h => h) hS rfl (fun w' hw' => ex_row rfl (rowL (hw'.look h4 (by simp <;> omega)))) ?_; try simp only [put_lit, List.set_cons_zero, List.set_cons_succ]
  refine ha_val (i := 3) rfl (by kernel_rfl) (by kernel_rfl) (by kernel_rfl) (fun _ _ _ h => h) hS rfl (fun w' hw' => ex_row rfl (rowW (hw'.look h0 (by simp <;> omega)))) ?_; try simp only [put_lit, List.set_cons_zero, List.set_cons_succ]
  refine ha_val (i := 4) rfl (by kernel_rfl) (by kernel_rfl) (by kernel_rfl) (fun _ _ _ h => h) hS rfl (fun w' hw' => ex_row rfl (rowL (hw'.look h5 (by simp <;> omega)))) ?_; try simp only [put_lit, List.set_cons_zero, List.set_cons_succ]
  refine ha_call (i := 2) (by kernel_rfl) rfl rfl (fun K hK => ?_); go_simp; refine ⟨_, _, ⟨rfl, rfl⟩, hK _ _ ⟨_, low_any n s x h1 h2 HX.out v HV.out _, ?_⟩⟩; clear hK K; rintro e w1 ⟨g, rfl, hgl, hg, hb1⟩; refine ⟨_, rfl, hS.below hb1, ?_⟩; replace hS := hS.below hb1; replace h0 := below_look hb1 h0; replace h4 := below_look hb1 h4; replace h5 := below_look hb1 h5; replace h8 := below_look hb1 h8; replace hb := hb.trans (hb1.mono hb.size); clear hb1; try simp only [put_lit, List.set_cons_zero, List.set_cons_succ]
  have hgl : W.heap.size ≤ g := hgl
  refine ha_call (i := 5) (by kernel_rfl) rfl rfl (fun K hK => ?_); go_simp; refine ⟨_, _, ⟨rfl, rfl⟩, hK _ _ ⟨_, low_any n s y h1 h2 HY.out u HU.out _, ?_⟩⟩; clear hK K; rintro e w2 ⟨g', rfl, hgl', hg', hb1⟩; refine ⟨_, rfl, hS.below hb1, ?_⟩; replace hS := hS.below hb1; (have LB2 := heap_lt hg); replace h0 := below_look hb1 h0; replace h4 := below_look hb1 h4; replace h5 := below_look hb1 h5; replace h8 := below_look hb1 h8; replace hg := below_look hb1 hg; replace hb := hb.trans (hb1.mono hb.size); clear hb1; try simp only [put_lit, List.set_cons_zero, List.set_cons_succ]
  refine ha_k (i := 6) rfl (by kernel_rfl) (by kernel_rfl) (by kernel_rfl) (fun _ _ _ _ h => h) hS rfl (fun K hK => ?_); go_simp; refine hK _ ?_; clear hK K; try simp only [put_lit, List.set_cons_zero, List.set_cons_succ]
  refine ha_k (i := 7) rfl (by kernel_rfl) (by kernel_rfl) (by kernel_rfl) (fun _ _ _ _ h => h) hS rfl (fun K hK => ?_); go_simp; refine hK _ ?_; clear hK K; try simp only [put_lit, List.set_cons_zero, List.set_cons_succ]
  refine wpAnyH_done (by kernel_rfl) ?_ _
  have L5 := heap_lt h5
  have L8 := hb.size
  rw [← mcells_zero r v n] at hg
  go_wp2_with fail
  go_loopw [20] (fun i wr => ∃ k : Nat, k ≤ n ∧ i = .int .i64 (k : Int) ∧ wr.heap[w.heap.size]? = some (.cells (wv n s) 68 (0, 0)) ∧ wr.heap[w.heap.size + 1 + 1 + 1]? = some (.cells (lv 0) 75 (0, 0)) ∧ wr.heap[g]? = some (.cells (mcells r v k n) 4 (0, 0)) ∧ wr.heap[g']? = some (.cells (bcells u n) 4 (0, 0)) ∧ Below w.heap.size w wr) (fun i _ => (n - intOf i).toNat)
  case atStart => exact ⟨0, by omega, rfl, h0, h8, hg, hg', hb⟩
  case round =>
    clear h0 h4 h5 h8 hg hg' hb
    obtain ⟨k, hk, rfl, h0, h8, hg, hg', hb⟩ := hrel
    by_cases hlt : k < n
    · obtain ⟨a, ha⟩ : ∃ a, a = v.testBit k := ⟨_, rfl⟩
      obtain ⟨b, hb2⟩ : ∃ b, b = u.testBit k := ⟨_, rfl⟩
      have HK := Lib.hid (show (a && b) = r.testBit k by rw [ha, hb2]; exact (HR.out.2 k hlt).symm)
      have cg : wr.cell? ⟨g, k, none⟩ = some (.bool a) := by rw [cell_of_row _ _ _ _ _ _ hg, ha, mcells_get hlt, if_neg (by omega)]
      have fg : wr.frozen? ⟨g, k, none⟩ = false := frozen_of_row _ _ _ _ _ hg
      have cg' : wr.cell? ⟨g', k, none⟩ = some (.bool b) := by rw [cell_of_row _ _ _ _ _ _ hg', hb2]; exact bcells_get hlt
      clear ha hb2
      go_upto_region 5 with (fail)
      replace hb := hb.drew
      have LG := heap_lt hg
      refine wp_region_held_drew (S := Kept [g] wr) mixed (Kept.drew [g] wr) (fun hS => ?_)
      refine ha_k (i := 0) rfl (by kernel_rfl) (by kernel_rfl) (by kernel_rfl) (fun _ _ _ _ h => h) hS rfl (fun K hK => ?_); go_simp; refine hK _ ?_; clear hK K; try simp only [put_lit, List.set_cons_zero, List.set_cons_succ]
      refine ha_k (i := 1) rfl (by kernel_rfl) (by kernel_rfl) (by kernel_rfl) (fun _ _ _ _ h => h) hS rfl (fun K hK => ?_); go_simp; refine hK _ ?_; clear hK K; try simp only [put_lit, List.set_cons_zero, List.set_cons_succ]
      refine ha_k (i := 2) rfl (by kernel_rfl) (by kernel_rfl) (by kernel_rfl) (fun _ _ _ _ h => h) hS rfl (fun K hK => ?_); go_simp; refine hK _ ?_; clear hK K; try simp only [put_lit, List.set_cons_zero, List.set_cons_succ]
      refine ha_k (i := 3) rfl (by kernel_rfl) (by kernel_rfl) (by kernel_rfl) (fun _ _ _ _ h => h) hS rfl (fun K hK => ?_); go_simp; refine hK _ ?_; clear hK K; try simp only [put_lit, List.set_cons_zero, List.set_cons_succ]
      refine ha_k (i := 4) rfl (by kernel_rfl) (by kernel_rfl) (by kernel_rfl) (fun _ _ _ _ h => h) hS rfl (fun K hK => ?_); go_simp; refine hK _ ?_; clear hK K; try simp only [put_lit, List.set_cons_zero, List.set_cons_succ]
      refine ha_k (i := 5) rfl (by kernel_rfl) (by kernel_rfl) (by kernel_rfl) (fun _ _ _ _ h => h) hS rfl (fun K hK => ?_); go_simp; refine hK _ ?_; clear hK K; try simp only [put_lit, List.set_cons_zero, List.set_cons_succ]
      refine ha_k (i := 7) rfl (by kernel_rfl) (by kernel_rfl) (by kernel_rfl) (fun _ _ _ _ h => h) hS rfl (fun K hK => ?_); go_simp; refine hK _ ?_; clear hK K; try simp only [put_lit, List.set_cons_zero, List.set_cons_succ]
      refine ha_k (i := 8) rfl (by kernel_rfl) (by kernel_rfl) (by kernel_rfl) (fun _ _ _ _ h => h) hS rfl (fun K hK => ?_); go_simp; refine hK _ ?_; clear hK K; try simp only [put_lit, List.set_cons_zero, List.set_cons_succ]
      refine ha_k (i := 9) rfl (by kernel_rfl) (by kernel_rfl) (by kernel_rfl) (fun _ _ _ _ h => h) hS rfl (fun K hK => ?_); go_simp; refine hK _ ?_; clear hK K; try simp only [put_lit, List.set_cons_zero, List.set_cons_succ]
      refine ha_val (i := 10) rfl (by kernel_rfl) (by kernel_rfl) (by kernel_rfl) (fun _ _ _ h => h) hS rfl (fun w' hw' => ex_one rfl (one4 (hw'.cell cg' (by simp <;> omega)))) ?_; try simp only [put_lit, List.set_cons_zero, List.set_cons_succ]
      refine ha_do (i := 6) (by kernel_rfl) rfl rfl (ex_one rfl (one4 cg)) hS ?_; try simp only [put_lit, List.set_cons_zero, List.set_cons_succ]
      refine ha_call (i := 11) (by kernel_rfl) rfl rfl (fun K hK => ?_); go_simp; refine ⟨_, _, ⟨rfl, rfl⟩, hK _ _ ⟨_, and_any a b _, ?_⟩⟩; clear hK K; rintro e w3 ⟨rfl, hb1⟩; refine ⟨_, rfl, hS.below hb1, ?_⟩; replace hS := hS.below hb1; (replace cg := below_cell hb1 cg; have fg : w3.frozen? ⟨g, k, none⟩ = false := frozen_of_row _ _ _ _ _ (below_look hb1 hg)); replace h0 := below_look hb1 h0; replace h8 := below_look hb1 h8; replace hg := below_look hb1 hg; replace hg' := below_look hb1 hg'; replace hb := hb.trans (hb1.mono hb.size); clear hb1; try simp only [put_lit, List.set_cons_zero, List.set_cons_succ]
      refine ha_k (i := 12) rfl (by kernel_rfl) (by kernel_rfl) (by kernel_rfl) (fun _ _ _ _ h => h) hS rfl (fun K hK => ?_); go_simp; refine hK _ ?_; clear hK K; try simp only [put_lit, List.set_cons_zero, List.set_cons_succ]
      refine ha_cell4 (i := 13) (by kernel_rfl) rfl rfl _ _ rfl ⟨g, k, none⟩ (a && b) _ rfl rfl cg fg (hS.setCell (by simp) _ _) (fun hS => ?_); try simp only [put_lit, List.set_cons_zero, List.set_cons_succ]
      refine wpAnyH_done (by kernel_rfl) ?_ _
      clear cg cg' fg
      rw [HK.out]
      go_wp2_with fail
      go_roundw
      case rel => exact ⟨k + 1, by omega, by go_num, hs_old h0 (by simp; omega), hs_old h8 (by simp; omega), (hs_new hg).trans (by rw [mcells_step hlt]), hs_old hg' (by simp; omega), hb.setCell (by simp; omega) _⟩
      case measure => simp [intOf]; omega
    · obtain rfl : k = n := by omega
      rw [mcells_full] at hg
      go_upto_region 7 with (fail)
      have L9 := heap_lt h8
      apply wp_region_lit
      ((with_reducible apply wl_rowG); exact rfl; exact rfl; exact rowW h0)
      refine wl_k rfl (fun K hK => ?_); go_simp; refine hK _ ?_; clear hK K
      refine wl_ck rfl (fun K hK => ?_); go_simp; refine ⟨_, _, ⟨rfl, rfl⟩, hK _ _ ⟨_, value_any k s h1 h2 r HR.out.1 g _ hg, ?_⟩⟩; clear hK K; rintro e w5 ⟨rfl, hb1⟩; refine ⟨_, rfl, ?_⟩; simp only [put_lit, List.set_cons_zero, List.set_cons_succ]
      replace h8 := below_look hb1 h8; replace hb := hb.trans (hb1.mono hb.size); clear hb1
      ((with_reducible apply wl_put75); exact rfl; exact rfl; exact h8; intro w6 hbx hk hq; replace hb := hbx _ _ (by omega) hb; clear h8; have h8 := hq; clear hbx hk hq)
      go_wp2_with fail
      exact bodyPost_ret (res_long rfl _ _ (w.heap.size + 1 + 1 + 1) rfl h8) rfl ⟨rfl, hb⟩
set_option maxHeartbeats 4000000 in
set_option maxRecDepth 100000 in
theorem bitOr_any (n : Nat) (s : Bool) (x y : Int) (h1 : 1 ≤ n) (h2 : n ≤ 64) (hx : x.natAbs ≤ 100000000000000000000000000000000000000000000000000000000000) (hy : y.natAbs ≤ 100000000000000000000000000000000000000000000000000000000000)
    (v u r : Nat) (hv : (v : Int) = x % ((2 ^ n : Nat) : Int)) (hu : (u : Int) = y % ((2 ^ n : Nat) : Int)) (hrl : r < 2 ^ n) (hr : ∀ i, i < n → r.testBit i = ((v.testBit i) || (u.testBit i))) (w : World) :
    Calls Try.prog 104 #[.agg (wv n s), .agg (lv x), .agg (lv y), .func (.func 106) #[] #[]] w fun e w' => e = .returned (.agg (lv (wrapW n s (r : Int)))) ∧ Below w.heap.size w w' := by
  have HX := Lib.hid hx
  have HY := Lib.hid hy
  have HV := Lib.hid hv
  have HU := Lib.hid hu
  have HR := Lib.hid (And.intro hrl hr)
  clear hx hy hv hu hrl hr
  go_enter Try.func104, Try.ntmps104
  go_upto_region 1 with (fail)
  refine wp_world (fun W => W.heap[w.heap.size]? = some (.cells (wv n s) 68 (0, 0)) ∧ W.heap[w.heap.size + 1]? = some (.cells (lv x) 75 (0, 0)) ∧ W.heap[w.heap.size + 1 + 1]? = some (.cells (lv y) 75 (0, 0)) ∧ W.heap[w.heap.size + 1 + 1 + 1]? = some (.cells (lv 0) 75 (0, 0)) ∧ Below w.heap.size w W)
    ⟨ha_old (ha_old (ha_old (ha_new rfl))), ha_old (ha_old (ha_new (by simp))), ha_old (ha_new (by simp)), by rw [lv_zero']; exact ha_new (by simp), ((((Below.refl _ _).alloc (Nat.le_refl _) _).alloc (by simp) _).alloc (by simp; omega) _).alloc (by simp; omega) _⟩ ?_
  rintro W ⟨h0, h4, h5, h8, hb⟩
  replace hb := hb.drew
  have LW := heap_lt h8
  refine wp_region_held_drew (S := Kept [] W) mixed (Kept.drew [] W) (fun hS => ?_)
  refine ha_val (i := 0) rfl (by kernel_rfl) (by kernel_rfl) (by kernel_rfl) (fun _ _ _ h => h) hS rfl (fun w' hw' => ex_row rfl (rowW (hw'.look h0 (by simp <;> omega)))) ?_; try simp only [put_lit, List.set_cons_zero, List.set_cons_succ]
  refine ha_val (i := 1) rfl (by kernel_rfl) (by kernel_rfl) (by kernel_rfl) (fun _ _ _ h => h) hS rfl (fun w' hw' => ex_row rfl (rowL (hw'.look h4 (by simp <;> omega)))) ?_; try simp only [put_lit, List.set_cons_zero, List.set_cons_succ]
  refine ha_val (i := 3) rfl (by kernel_rfl) (by kernel_rfl) (by kernel_rfl) (fun _ _ _ h => h) hS rfl (fun w' hw' => ex_row rfl (rowW (hw'.look h0 (by simp <;> omega)))) ?_; try simp only [put_lit, List.set_cons_zero, List.set_cons_succ]
  refine ha_val (i := 4) rfl (by kernel_rfl) (by kernel_rfl) (by kernel_rfl) (fun _ _ _ h => h) hS rfl (fun w' hw' => ex_row rfl (rowL (hw'.look h5 (by simp <;> omega)))) ?_; try simp only [put_lit, List.set_cons_zero, List.set_cons_succ]
  refine ha_call (i := 2) (by kernel_rfl) rfl rfl (fun K hK => ?_); go_simp; refine ⟨_, _, ⟨rfl, rfl⟩, hK _ _ ⟨_, low_any n s x h1 h2 HX.out v HV.out _, ?_⟩⟩; clear hK K; rintro e w1 ⟨g, rfl, hgl, hg, hb1⟩; refine ⟨_, rfl, hS.below hb1, ?_⟩; replace hS := hS.below hb1; replace h0 := below_look hb1 h0; replace h4 := below_look hb1 h4; replace h5 := below_look hb1 h5; replace h8 := below_look hb1 h8; replace hb := hb.trans (hb1.mono hb.size); clear hb1; try simp only [put_lit, List.set_cons_zero, List.set_cons_succ]
  have hgl : W.heap.size ≤ g := hgl
  refine ha_call (i := 5) (by kernel_rfl) rfl rfl (fun K hK => ?_); go_simp; refine ⟨_, _, ⟨rfl, rfl⟩, hK _ _ ⟨_, low_any n s y h1 h2 HY.out u HU.out _, ?_⟩⟩; clear hK K; rintro e w2 ⟨g', rfl, hgl', hg', hb1⟩; refine ⟨_, rfl, hS.below hb1, ?_⟩; replace hS := hS.below hb1; (have LB2 := heap_lt hg); replace h0 := below_look hb1 h0; replace h4 := below_look hb1 h4; replace h5 := below_look hb1 h5; replace h8 := below_look hb1 h8; replace hg := below_look hb1 hg; replace hb := hb.trans (hb1.mono hb.size); clear hb1; try simp only [put_lit, List.set_cons_zero, List.set_cons_succ]
  refine ha_k (i := 6) rfl (by kernel_rfl) (by kernel_rfl) (by kernel_rfl) (fun _ _ _ _ h => h) hS rfl (fun K hK => ?_); go_simp; refine hK _ ?_; clear hK K; try simp only [put_lit, List.set_cons_zero, List.set_cons_succ]
  refine ha_k (i := 7) rfl (by kernel_rfl) (by kernel_rfl) (by kernel_rfl) (fun _ _ _ _ h => h) hS rfl (fun K hK => ?_); go_simp; refine hK _ ?_; clear hK K; try simp only [put_lit, List.set_cons_zero, List.set_cons_succ]
  refine wpAnyH_done (by kernel_rfl) ?_ _
  have L5 := heap_lt h5
  have L8 := hb.size
  rw [← mcells_zero r v n] at hg
  go_wp2_with fail
  go_loopw [20] (fun i wr => ∃ k : Nat, k ≤ n ∧ i = .int .i64 (k : Int) ∧ wr.heap[w.heap.size]? = some (.cells (wv n s) 68 (0, 0)) ∧ wr.heap[w.heap.size + 1 + 1 + 1]? = some (.cells (lv 0) 75 (0, 0)) ∧ wr.heap[g]? = some (.cells (mcells r v k n) 4 (0, 0)) ∧ wr.heap[g']? = some (.cells (bcells u n) 4 (0, 0)) ∧ Below w.heap.size w wr) (fun i _ => (n - intOf i).toNat)
  case atStart => exact ⟨0, by omega, rfl, h0, h8, hg, hg', hb⟩
  case round =>
    clear h0 h4 h5 h8 hg hg' hb
    obtain ⟨k, hk, rfl, h0, h8, hg, hg', hb⟩ := hrel
    by_cases hlt : k < n
    · obtain ⟨a, ha⟩ : ∃ a, a = v.testBit k := ⟨_, rfl⟩
      obtain ⟨b, hb2⟩ : ∃ b, b = u.testBit k := ⟨_, rfl⟩
      have HK := Lib.hid (show (a || b) = r.testBit k by rw [ha, hb2]; exact (HR.out.2 k hlt).symm)
      have cg : wr.cell? ⟨g, k, none⟩ = some (.bool a) := by rw [cell_of_row _ _ _ _ _ _ hg, ha, mcells_get hlt, if_neg (by omega)]
      have fg : wr.frozen? ⟨g, k, none⟩ = false := frozen_of_row _ _ _ _ _ hg
      have cg' : wr.cell? ⟨g', k, none⟩ = some (.bool b) := by rw [cell_of_row _ _ _ _ _ _ hg', hb2]; exact bcells_get hlt
      clear ha hb2
      go_upto_region 5 with (fail)
      replace hb := hb.drew
      have LG := heap_lt hg
      refine wp_region_held_drew (S := Kept [g] wr) mixed (Kept.drew [g] wr) (fun hS => ?_)
      refine ha_k (i := 0) rfl (by kernel_rfl) (by kernel_rfl) (by kernel_rfl) (fun _ _ _ _ h => h) hS rfl (fun K hK => ?_); go_simp; refine hK _ ?_; clear hK K; try simp only [put_lit, List.set_cons_zero, List.set_cons_succ]
      refine ha_k (i := 1) rfl (by kernel_rfl) (by kernel_rfl) (by kernel_rfl) (fun _ _ _ _ h => h) hS rfl (fun K hK => ?_); go_simp; refine hK _ ?_; clear hK K; try simp only [put_lit, List.set_cons_zero, List.set_cons_succ]
      refine ha_k (i := 2) rfl (by kernel_rfl) (by kernel_rfl) (by kernel_rfl) (fun _ _ _ _ h => h) hS rfl (fun K hK => ?_); go_simp; refine hK _ ?_; clear hK K; try simp only [put_lit, List.set_cons_zero, List.set_cons_succ]
      refine ha_k (i := 3) rfl (by kernel_rfl) (by kernel_rfl) (by kernel_rfl) (fun _ _ _ _ h => h) hS rfl (fun K hK => ?_); go_simp; refine hK _ ?_; clear hK K; try simp only [put_lit, List.set_cons_zero, List.set_cons_succ]
      refine ha_k (i := 4) rfl (by kernel_rfl) (by kernel_rfl) (by kernel_rfl) (fun _ _ _ _ h => h) hS rfl (fun K hK => ?_); go_simp; refine hK _ ?_; clear hK K; try simp only [put_lit, List.set_cons_zero, List.set_cons_succ]
      refine ha_k (i := 5) rfl (by kernel_rfl) (by kernel_rfl) (by kernel_rfl) (fun _ _ _ _ h => h) hS rfl (fun K hK => ?_); go_simp; refine hK _ ?_; clear hK K; try simp only [put_lit, List.set_cons_zero, List.set_cons_succ]
      refine ha_k (i := 7) rfl (by kernel_rfl) (by kernel_rfl) (by kernel_rfl) (fun _ _ _ _ h => h) hS rfl (fun K hK => ?_); go_simp; refine hK _ ?_; clear hK K; try simp only [put_lit, List.set_cons_zero, List.set_cons_succ]
      refine ha_k (i := 8) rfl (by kernel_rfl) (by kernel_rfl) (by kernel_rfl) (fun _ _ _ _ h => h) hS rfl (fun K hK => ?_); go_simp; refine hK _ ?_; clear hK K; try simp only [put_lit, List.set_cons_zero, List.set_cons_succ]
      refine ha_k (i := 9) rfl (by kernel_rfl) (by kernel_rfl) (by kernel_rfl) (fun _ _ _ _ h => h) hS rfl (fun K hK => ?_); go_simp; refine hK _ ?_; clear hK K; try simp only [put_lit, List.set_cons_zero, List.set_cons_succ]
      refine ha_val (i := 10) rfl (by kernel_rfl) (by kernel_rfl) (by kernel_rfl) (fun _ _ _ h => h) hS rfl (fun w' hw' => ex_one rfl (one4 (hw'.cell cg' (by simp <;> omega)))) ?_; try simp only [put_lit, List.set_cons_zero, List.set_cons_succ]
      refine ha_do (i := 6) (by kernel_rfl) rfl rfl (ex_one rfl (one4 cg)) hS ?_; try simp only [put_lit, List.set_cons_zero, List.set_cons_succ]
      refine ha_call (i := 11) (by kernel_rfl) rfl rfl (fun K hK => ?_); go_simp; refine ⟨_, _, ⟨rfl, rfl⟩, hK _ _ ⟨_, or_any a b _, ?_⟩⟩; clear hK K; rintro e w3 ⟨rfl, hb1⟩; refine ⟨_, rfl, hS.below hb1, ?_⟩; replace hS := hS.below hb1; (replace cg := below_cell hb1 cg; have fg : w3.frozen? ⟨g, k, none⟩ = false := frozen_of_row _ _ _ _ _ (below_look hb1 hg)); replace h0 := below_look hb1 h0; replace h8 := below_look hb1 h8; replace hg := below_look hb1 hg; replace hg' := below_look hb1 hg'; replace hb := hb.trans (hb1.mono hb.size); clear hb1; try simp only [put_lit, List.set_cons_zero, List.set_cons_succ]
      refine ha_k (i := 12) rfl (by kernel_rfl) (by kernel_rfl) (by kernel_rfl) (fun _ _ _ _ h => h) hS rfl (fun K hK => ?_); go_simp; refine hK _ ?_; clear hK K; try simp only [put_lit, List.set_cons_zero, List.set_cons_succ]
      refine ha_cell4 (i := 13) (by kernel_rfl) rfl rfl _ _ rfl ⟨g, k, none⟩ (a || b) _ rfl rfl cg fg (hS.setCell (by simp) _ _) (fun hS => ?_); try simp only [put_lit, List.set_cons_zero, List.set_cons_succ]
      refine wpAnyH_done (by kernel_rfl) ?_ _
      clear cg cg' fg
      rw [HK.out]
      go_wp2_with fail
      go_roundw
      case rel => exact ⟨k + 1, by omega, by go_num, hs_old h0 (by simp; omega), hs_old h8 (by simp; omega), (hs_new hg).trans (by rw [mcells_step hlt]), hs_old hg' (by simp; omega), hb.setCell (by simp; omega) _⟩
      case measure => simp [intOf]; omega
    · obtain rfl : k = n := by omega
      rw [mcells_full] at hg
      go_upto_region 7 with (fail)
      have L9 := heap_lt h8
      apply wp_region_lit
      ((with_reducible apply wl_rowG); exact rfl; exact rfl; exact rowW h0)
      refine wl_k rfl (fun K hK => ?_); go_simp; refine hK _ ?_; clear hK K
      refine wl_ck rfl (fun K hK => ?_); go_simp; refine ⟨_, _, ⟨rfl, rfl⟩, hK _ _ ⟨_, value_any k s h1 h2 r HR.out.1 g _ hg, ?_⟩⟩; clear hK K; rintro e w5 ⟨rfl, hb1⟩; refine ⟨_, rfl, ?_⟩; simp only [put_lit, List.set_cons_zero, List.set_cons_succ]
      replace h8 := below_look hb1 h8; replace hb := hb.trans (hb1.mono hb.size); clear hb1
      ((with_reducible apply wl_put75); exact rfl; exact rfl; exact h8; intro w6 hbx hk hq; replace hb := hbx _ _ (by omega) hb; clear h8; have h8 := hq; clear hbx hk hq)
      go_wp2_with fail
      exact bodyPost_ret (res_long rfl _ _ (w.heap.size + 1 + 1 + 1) rfl h8) rfl ⟨rfl, hb⟩
set_option maxHeartbeats 4000000 in
set_option maxRecDepth 100000 in
theorem bitXor_any (n : Nat) (s : Bool) (x y : Int) (h1 : 1 ≤ n) (h2 : n ≤ 64) (hx : x.natAbs ≤ 100000000000000000000000000000000000000000000000000000000000) (hy : y.natAbs ≤ 100000000000000000000000000000000000000000000000000000000000)
    (v u r : Nat) (hv : (v : Int) = x % ((2 ^ n : Nat) : Int)) (hu : (u : Int) = y % ((2 ^ n : Nat) : Int)) (hrl : r < 2 ^ n) (hr : ∀ i, i < n → r.testBit i = ((v.testBit i) != (u.testBit i))) (w : World) :
    Calls Try.prog 104 #[.agg (wv n s), .agg (lv x), .agg (lv y), .func (.func 107) #[] #[]] w fun e w' => e = .returned (.agg (lv (wrapW n s (r : Int)))) ∧ Below w.heap.size w w' := by
  have HX := Lib.hid hx
  have HY := Lib.hid hy
  have HV := Lib.hid hv
  have HU := Lib.hid hu
  have HR := Lib.hid (And.intro hrl hr)
  clear hx hy hv hu hrl hr
  go_enter Try.func104, Try.ntmps104
  go_upto_region 1 with (fail)
  refine wp_world (fun W => W.heap[w.heap.size]? = some (.cells (wv n s) 68 (0, 0)) ∧ W.heap[w.heap.size + 1]? = some (.cells (lv x) 75 (0, 0)) ∧ W.heap[w.heap.size + 1 + 1]? = some (.cells (lv y) 75 (0, 0)) ∧ W.heap[w.heap.size + 1 + 1 + 1]? = some (.cells (lv 0) 75 (0, 0)) ∧ Below w.heap.size w W)
    ⟨ha_old (ha_old (ha_old (ha_new rfl))), ha_old (ha_old (ha_new (by simp))), ha_old (ha_new (by simp)), by rw [lv_zero']; exact ha_new (by simp), ((((Below.refl _ _).alloc (Nat.le_refl _) _).alloc (by simp) _).alloc (by simp; omega) _).alloc (by simp; omega) _⟩ ?_
  rintro W ⟨h0, h4, h5, h8, hb⟩
  replace hb := hb.drew
  have LW := heap_lt h8
  refine wp_region_held_drew (S := Kept [] W) mixed (Kept.drew [] W) (fun hS => ?_)
  refine ha_val (i := 0) rfl (by kernel_rfl) (by kernel_rfl) (by kernel_rfl) (fun _ _ _ h => h) hS rfl (fun w' hw' => ex_row rfl (rowW (hw'.look h0 (by simp <;> omega)))) ?_; try simp only [put_lit, List.set_cons_zero, List.set_cons_succ]
  refine ha_val (i := 1) rfl (by kernel_rfl) (by kernel_rfl) (by kernel_rfl) (fun _ _ _ h => h) hS rfl (fun w' hw' => ex_row rfl (rowL (hw'.look h4 (by simp <;> omega)))) ?_; try simp only [put_lit, List.set_cons_zero, List.set_cons_succ]
  refine ha_val (i := 3) rfl (by kernel_rfl) (by kernel_rfl) (by kernel_rfl) (fun _ _ _ h => h) hS rfl (fun w' hw' => ex_row rfl (rowW (hw'.look h0 (by simp <;> omega)))) ?_; try simp only [put_lit, List.set_cons_zero, List.set_cons_succ]
  refine ha_val (i := 4) rfl (by kernel_rfl) (by kernel_rfl) (by kernel_rfl) (fun _ _ _ h => h) hS rfl (fun w' hw' => ex_row rfl (rowL (hw'.look h5 (by simp <;> omega)))) ?_; try simp only [put_lit, List.set_cons_zero, List.set_cons_succ]
  refine ha_call (i := 2) (by kernel_rfl) rfl rfl (fun K hK => ?_); go_simp; refine ⟨_, _, ⟨rfl, rfl⟩, hK _ _ ⟨_, low_any n s x h1 h2 HX.out v HV.out _, ?_⟩⟩; clear hK K; rintro e w1 ⟨g, rfl, hgl, hg, hb1⟩; refine ⟨_, rfl, hS.below hb1, ?_⟩; replace hS := hS.below hb1; replace h0 := below_look hb1 h0; replace h4 := below_look hb1 h4; replace h5 := below_look hb1 h5; replace h8 := below_look hb1 h8; replace hb := hb.trans (hb1.mono hb.size); clear hb1; try simp only [put_lit, List.set_cons_zero, List.set_cons_succ]
  have hgl : W.heap.size ≤ g := hgl
  refine ha_call (i := 5) (by kernel_rfl) rfl rfl (fun K hK => ?_); go_simp; refine ⟨_, _, ⟨rfl, rfl⟩, hK _ _ ⟨_, low_any n s y h1 h2 HY.out u HU.out _, ?_⟩⟩; clear hK K; rintro e w2 ⟨g', rfl, hgl', hg', hb1⟩; refine ⟨_, rfl, hS.below hb1, ?_⟩; replace hS := hS.below hb1; (have LB2 := heap_lt hg); replace h0 := below_look hb1 h0; replace h4 := below_look hb1 h4; replace h5 := below_look hb1 h5; replace h8 := below_look hb1 h8; replace hg := below_look hb1 hg; replace hb := hb.trans (hb1.mono hb.size); clear hb1; try simp only [put_lit, List.set_cons_zero, List.set_cons_succ]
  refine ha_k (i := 6) rfl (by kernel_rfl) (by kernel_rfl) (by kernel_rfl) (fun _ _ _ _ h => h) hS rfl (fun K hK => ?_); go_simp; refine hK _ ?_; clear hK K; try simp only [put_lit, List.set_cons_zero, List.set_cons_succ]
  refine ha_k (i := 7) rfl (by kernel_rfl) (by kernel_rfl) (by kernel_rfl) (fun _ _ _ _ h => h) hS rfl (fun K hK => ?_); go_simp; refine hK _ ?_; clear hK K; try simp only [put_lit, List.set_cons_zero, List.set_cons_succ]
  refine wpAnyH_done (by kernel_rfl) ?_ _
  have L5 := heap_lt h5
  have L8 := hb.size
  rw [← mcells_zero r v n] at hg
  go_wp2_with fail
  go_loopw [20] (fun i wr => ∃ k : Nat, k ≤ n ∧ i = .int .i64 (k : Int) ∧ wr.heap[w.heap.size]? = some (.cells (wv n s) 68 (0, 0)) ∧ wr.heap[w.heap.size + 1 + 1 + 1]? = some (.cells (lv 0) 75 (0, 0)) ∧ wr.heap[g]? = some (.cells (mcells r v k n) 4 (0, 0)) ∧ wr.heap[g']? = some (.cells (bcells u n) 4 (0, 0)) ∧ Below w.heap.size w wr) (fun i _ => (n - intOf i).toNat)
  case atStart => exact ⟨0, by omega, rfl, h0, h8, hg, hg', hb⟩
  case round =>
    clear h0 h4 h5 h8 hg hg' hb
    obtain ⟨k, hk, rfl, h0, h8, hg, hg', hb⟩ := hrel
    by_cases hlt : k < n
    · obtain ⟨a, ha⟩ : ∃ a, a = v.testBit k := ⟨_, rfl⟩
      obtain ⟨b, hb2⟩ : ∃ b, b = u.testBit k := ⟨_, rfl⟩
      have HK := Lib.hid (show (a != b) = r.testBit k by rw [ha, hb2]; exact (HR.out.2 k hlt).symm)
      have cg : wr.cell? ⟨g, k, none⟩ = some (.bool a) := by rw [cell_of_row _ _ _ _ _ _ hg, ha, mcells_get hlt, if_neg (by omega)]
      have fg : wr.frozen? ⟨g, k, none⟩ = false := frozen_of_row _ _ _ _ _ hg
      have cg' : wr.cell? ⟨g', k, none⟩ = some (.bool b) := by rw [cell_of_row _ _ _ _ _ _ hg', hb2]; exact bcells_get hlt
      clear ha hb2
      go_upto_region 5 with (fail)
      replace hb := hb.drew
      have LG := heap_lt hg
      refine wp_region_held_drew (S := Kept [g] wr) mixed (Kept.drew [g] wr) (fun hS => ?_)
      refine ha_k (i := 0) rfl (by kernel_rfl) (by kernel_rfl) (by kernel_rfl) (fun _ _ _ _ h => h) hS rfl (fun K hK => ?_); go_simp; refine hK _ ?_; clear hK K; try simp only [put_lit, List.set_cons_zero, List.set_cons_succ]
      refine ha_k (i := 1) rfl (by kernel_rfl) (by kernel_rfl) (by kernel_rfl) (fun _ _ _ _ h => h) hS rfl (fun K hK => ?_); go_simp; refine hK _ ?_; clear hK K; try simp only [put_lit, List.set_cons_zero, List.set_cons_succ]
      refine ha_k (i := 2) rfl (by kernel_rfl) (by kernel_rfl) (by kernel_rfl) (fun _ _ _ _ h => h) hS rfl (fun K hK => ?_); go_simp; refine hK _ ?_; clear hK K; try simp only [put_lit, List.set_cons_zero, List.set_cons_succ]
      refine ha_k (i := 3) rfl (by kernel_rfl) (by kernel_rfl) (by kernel_rfl) (fun _ _ _ _ h => h) hS rfl (fun K hK => ?_); go_simp; refine hK _ ?_; clear hK K; try simp only [put_lit, List.set_cons_zero, List.set_cons_succ]
      refine ha_k (i := 4) rfl (by kernel_rfl) (by kernel_rfl) (by kernel_rfl) (fun _ _ _ _ h => h) hS rfl (fun K hK => ?_); go_simp; refine hK _ ?_; clear hK K; try simp only [put_lit, List.set_cons_zero, List.set_cons_succ]
      refine ha_k (i := 5) rfl (by kernel_rfl) (by kernel_rfl) (by kernel_rfl) (fun _ _ _ _ h => h) hS rfl (fun K hK => ?_); go_simp; refine hK _ ?_; clear hK K; try simp only [put_lit, List.set_cons_zero, List.set_cons_succ]
      refine ha_k (i := 7) rfl (by kernel_rfl) (by kernel_rfl) (by kernel_rfl) (fun _ _ _ _ h => h) hS rfl (fun K hK => ?_); go_simp; refine hK _ ?_; clear hK K; try simp only [put_lit, List.set_cons_zero, List.set_cons_succ]
      refine ha_k (i := 8) rfl (by kernel_rfl) (by kernel_rfl) (by kernel_rfl) (fun _ _ _ _ h => h) hS rfl (fun K hK => ?_); go_simp; refine hK _ ?_; clear hK K; try simp only [put_lit, List.set_cons_zero, List.set_cons_succ]
      refine ha_k (i := 9) rfl (by kernel_rfl) (by kernel_rfl) (by kernel_rfl) (fun _ _ _ _ h => h) hS rfl (fun K hK => ?_); go_simp; refine hK _ ?_; clear hK K; try simp only [put_lit, List.set_cons_zero, List.set_cons_succ]
      refine ha_val (i := 10) rfl (by kernel_rfl) (by kernel_rfl) (by kernel_rfl) (fun _ _ _ h => h) hS rfl (fun w' hw' => ex_one rfl (one4 (hw'.cell cg' (by simp <;> omega)))) ?_; try simp only [put_lit, List.set_cons_zero, List.set_cons_succ]
      refine ha_do (i := 6) (by kernel_rfl) rfl rfl (ex_one rfl (one4 cg)) hS ?_; try simp only [put_lit, List.set_cons_zero, List.set_cons_succ]
      refine ha_call (i := 11) (by kernel_rfl) rfl rfl (fun K hK => ?_); go_simp; refine ⟨_, _, ⟨rfl, rfl⟩, hK _ _ ⟨_, xor_any a b _, ?_⟩⟩; clear hK K; rintro e w3 ⟨rfl, hb1⟩; refine ⟨_, rfl, hS.below hb1, ?_⟩; replace hS := hS.below hb1; (replace cg := below_cell hb1 cg; have fg : w3.frozen? ⟨g, k, none⟩ = false := frozen_of_row _ _ _ _ _ (below_look hb1 hg)); replace h0 := below_look hb1 h0; replace h8 := below_look hb1 h8; replace hg := below_look hb1 hg; replace hg' := below_look hb1 hg'; replace hb := hb.trans (hb1.mono hb.size); clear hb1; try simp only [put_lit, List.set_cons_zero, List.set_cons_succ]
      refine ha_k (i := 12) rfl (by kernel_rfl) (by kernel_rfl) (by kernel_rfl) (fun _ _ _ _ h => h) hS rfl (fun K hK => ?_); go_simp; refine hK _ ?_; clear hK K; try simp only [put_lit, List.set_cons_zero, List.set_cons_succ]
      refine ha_cell4 (i := 13) (by kernel_rfl) rfl rfl _ _ rfl ⟨g, k, none⟩ (a != b) _ rfl rfl cg fg (hS.setCell (by simp) _ _) (fun hS => ?_); try simp only [put_lit, List.set_cons_zero, List.set_cons_succ]
      refine wpAnyH_done (by kernel_rfl) ?_ _
      clear cg cg' fg
      rw [HK.out]
      go_wp2_with fail
      go_roundw
      case rel => exact ⟨k + 1, by omega, by go_num, hs_old h0 (by simp; omega), hs_old h8 (by simp; omega), (hs_new hg).trans (by rw [mcells_step hlt]), hs_old hg' (by simp; omega), hb.setCell (by simp; omega) _⟩
      case measure => simp [intOf]; omega
    · obtain rfl : k = n := by omega
      rw [mcells_full] at hg
      go_upto_region 7 with (fail)
      have L9 := heap_lt h8
      apply wp_region_lit
      ((with_reducible apply wl_rowG); exact rfl; exact rfl; exact rowW h0)
      refine wl_k rfl (fun K hK => ?_); go_simp; refine hK _ ?_; clear hK K
      refine wl_ck rfl (fun K hK => ?_); go_simp; refine ⟨_, _, ⟨rfl, rfl⟩, hK _ _ ⟨_, value_any k s h1 h2 r HR.out.1 g _ hg, ?_⟩⟩; clear hK K; rintro e w5 ⟨rfl, hb1⟩; refine ⟨_, rfl, ?_⟩; simp only [put_lit, List.set_cons_zero, List.set_cons_succ]
      replace h8 := below_look hb1 h8; replace hb := hb.trans (hb1.mono hb.size); clear hb1
      ((with_reducible apply wl_put75); exact rfl; exact rfl; exact h8; intro w6 hbx hk hq; replace hb := hbx _ _ (by omega) hb; clear h8; have h8 := hq; clear hbx hk hq)
      go_wp2_with fail
      exact bodyPost_ret (res_long rfl _ _ (w.heap.size + 1 + 1 + 1) rfl h8) rfl ⟨rfl, hb⟩
end Go.Proofs.Ytclainfdeghgnaa

namespace Go.Proofs.Ytclainfdeghgnaa
open Go.RowKit Go.Proofs.Ytclainfdeghgnaa.Nm
/-- two numbers' bits brought together -/
def bwN (L : List UInt8) (v u : Nat) : Nat := if L = [38] then v &&& u else if L = [124] then v ||| u else v ^^^ u
/-- the low bits of a number -/
def lowN (n : Nat) (x : Int) : Nat := (x % ((2 ^ n : Nat) : Int)).toNat
theorem lowN_cast (n : Nat) (x : Int) : ((lowN n x : Nat) : Int) = x % ((2 ^ n : Nat) : Int) := by
  have := two_pos n
  unfold lowN
  rw [Int.toNat_of_nonneg (Int.emod_nonneg _ (by omega))]
theorem lowN_lt (n : Nat) (x : Int) : lowN n x < 2 ^ n := by
  have h := lowN_cast n x
  have := Int.emod_lt_of_pos x (show (0 : Int) < ((2 ^ n : Nat) : Int) by have := two_pos n; omega)
  omega
theorem bwN_lt (L : List UInt8) {n v u : Nat} (hv : v < 2 ^ n) (hu : u < 2 ^ n) : bwN L v u < 2 ^ n := by
  unfold bwN
  split
  · exact Nat.and_lt_two_pow _ hu
  · split
    · exact Nat.or_lt_two_pow hv hu
    · exact Nat.xor_lt_two_pow hv hu
/-- the exact result of an operation -/
def doX (L : List UInt8) (n : Nat) (s : Bool) (x y : Int) : Int :=
  if L = [43] then x + y else if L = [45] then x - y else if L = [42] then x * y else if L = [47] then Int.tdiv x y else if L = [37] then Int.tmod x y
  else if L = [60, 60] then x * ((2 ^ y.toNat : Nat) : Int) else if L = [62, 62] then x / ((2 ^ y.toNat : Nat) : Int)
  else wrapW n s ((bwN L (lowN n x) (lowN n y) : Nat) : Int)
/-- what an operation on two texts answers -/
def doS (op a b : ByteArray) (bits : Int) (s : Bool) (md : ByteArray) : ByteArray × Int :=
  match rdm a, rdm b with
  | some x, some y =>
    if isRight bits = true ∧ isModeL md.data.toList = true ∧ isOpL op.data.toList = true then
      if hasI bits s x = true ∧ hasI bits s y = true ∧ ¬ (isShift op.data.toList = true ∧ (ng y = true ∨ bits ≤ y)) then
        if (op.data.toList = [47] ∨ op.data.toList = [37]) ∧ y = 0 then (⟨#[]⟩, 70)
        else if (bringW bits.toNat s md.toList (doX op.data.toList bits.toNat s x y)).2 = 0 then (⟨(txt (bringW bits.toNat s md.toList (doX op.data.toList bits.toNat s x y)).1).toArray⟩, 0)
          else (⟨#[]⟩, (bringW bits.toNat s md.toList (doX op.data.toList bits.toNat s x y)).2)
      else (⟨#[]⟩, 1)
    else (⟨#[]⟩, 3)
  | _, _ => (⟨#[]⟩, 4)
set_option maxHeartbeats 1000000 in
theorem exact_and (op : ByteArray) (bits : Int) (s : Bool) (x y : Int) (hop : op.data.toList = [38]) (hr : isRight bits = true) (hx : x.natAbs ≤ 18446744073709551616) (hy : y.natAbs ≤ 18446744073709551616) (w : World) :
    Calls Try.prog 60 #[.agg (wi bits s), .string op, .agg (lv x), .agg (lv y)] w fun e w' => e = .returned (.agg (lv (wrapW bits.toNat s ((bwN op.data.toList (lowN bits.toNat x) (lowN bits.toNat y) : Nat) : Int)))) ∧ Below w.heap.size w w' := by
  have l1 := lit_eq hop (l := [43]) rfl
  have l2 := lit_eq hop (l := [45]) rfl
  have l3 := lit_eq hop (l := [42]) rfl
  have l4 := lit_eq hop (l := [47]) rfl
  have l5 := lit_eq hop (l := [37]) rfl
  have l6 := lit_eq hop (l := [38]) rfl
  obtain ⟨n, rfl, n1, n2, n3⟩ := right_bits hr
  rw [n3, show wi (n : Int) s = wv n s from rfl]
  have HC := Lib.hid (fun W => bitAnd_any n s x y n1 n2 (by omega) (by omega) (lowN n x) (lowN n y) (bwN op.data.toList (lowN n x) (lowN n y)) (lowN_cast n x) (lowN_cast n y) (bwN_lt _ (lowN_lt n x) (lowN_lt n y)) (fun i _ => by rw [hop]; unfold bwN; simp [Nat.testBit_and]) W)
  generalize wrapW n s ((bwN op.data.toList (lowN n x) (lowN n y) : Nat) : Int) = z at HC
  clear hop hr n3 hx hy
  go_enter Try.func60, Try.ntmps60
  go_upto_region 1 with (fail)
  refine wp_world (fun W => W.heap[w.heap.size]? = some (.cells (wv n s) 68 (0, 0)) ∧ W.heap[w.heap.size + 1]? = some (.cells (lv x) 75 (0, 0)) ∧ W.heap[w.heap.size + 1 + 1]? = some (.cells (lv y) 75 (0, 0)) ∧ W.heap[w.heap.size + 1 + 1 + 1]? = some (.cells (lv 0) 75 (0, 0)) ∧ Below w.heap.size w W) ⟨ha_old (ha_old (ha_old (ha_new rfl))), ha_old (ha_old (ha_new (by simp))), ha_old (ha_new (by simp)), by rw [← zero_long]; exact ha_new (by simp), ((((Below.refl _ _).alloc (Nat.le_refl _) _).alloc (by simp) _).alloc (by simp; omega) _).alloc (by simp; omega) _⟩ ?_
  rintro W ⟨h0, h1, h2, h3, hb⟩
  go_upto_region 15 with (fail)
  apply wp_region_lit
  ((with_reducible apply wl_rowG); exact rfl; exact rfl; exact rowW h0)
  ((with_reducible apply wl_rowG); exact rfl; exact rfl; (first | exact rowL (by with_reducible assumption) | exact rowD (by with_reducible assumption) | exact rowR (by with_reducible assumption)))
  ((with_reducible apply wl_rowG); exact rfl; exact rfl; (first | exact rowL (by with_reducible assumption) | exact rowD (by with_reducible assumption) | exact rowR (by with_reducible assumption)))
  refine wl_ck rfl (fun K hK => ?_); go_simp; refine ⟨_, _, ⟨rfl, rfl⟩, hK _ _ ⟨_, HC.out _, ?_⟩⟩; clear hK K; rintro e w1 ⟨rfl, hb1⟩; refine ⟨_, rfl, ?_⟩; simp only [put_lit, List.set_cons_zero, List.set_cons_succ]
  replace h3 := below_look hb1 h3; replace hb := hb.trans (hb1.mono hb.size); clear hb1
  ((with_reducible apply wl_put75); exact rfl; exact rfl; exact h3; intro w12 hbx hk hq; replace hb := hbx _ _ (by omega) hb; clear h3; have h3 := hq; clear hbx hk hq)
  go_wp2_with fail
  exact bodyPost_ret (res_long rfl _ _ (w.heap.size + 1 + 1 + 1) rfl h3) rfl ⟨rfl, hb⟩
set_option maxHeartbeats 1000000 in
theorem exact_or (op : ByteArray) (bits : Int) (s : Bool) (x y : Int) (hop : op.data.toList = [124]) (hr : isRight bits = true) (hx : x.natAbs ≤ 18446744073709551616) (hy : y.natAbs ≤ 18446744073709551616) (w : World) :
    Calls Try.prog 60 #[.agg (wi bits s), .string op, .agg (lv x), .agg (lv y)] w fun e w' => e = .returned (.agg (lv (wrapW bits.toNat s ((bwN op.data.toList (lowN bits.toNat x) (lowN bits.toNat y) : Nat) : Int)))) ∧ Below w.heap.size w w' := by
  have l1 := lit_eq hop (l := [43]) rfl
  have l2 := lit_eq hop (l := [45]) rfl
  have l3 := lit_eq hop (l := [42]) rfl
  have l4 := lit_eq hop (l := [47]) rfl
  have l5 := lit_eq hop (l := [37]) rfl
  have l6 := lit_eq hop (l := [38]) rfl
  have l7 := lit_eq hop (l := [124]) rfl
  obtain ⟨n, rfl, n1, n2, n3⟩ := right_bits hr
  rw [n3, show wi (n : Int) s = wv n s from rfl]
  have HC := Lib.hid (fun W => bitOr_any n s x y n1 n2 (by omega) (by omega) (lowN n x) (lowN n y) (bwN op.data.toList (lowN n x) (lowN n y)) (lowN_cast n x) (lowN_cast n y) (bwN_lt _ (lowN_lt n x) (lowN_lt n y)) (fun i _ => by rw [hop]; unfold bwN; simp [Nat.testBit_or]) W)
  generalize wrapW n s ((bwN op.data.toList (lowN n x) (lowN n y) : Nat) : Int) = z at HC
  clear hop hr n3 hx hy
  go_enter Try.func60, Try.ntmps60
  go_upto_region 1 with (fail)
  refine wp_world (fun W => W.heap[w.heap.size]? = some (.cells (wv n s) 68 (0, 0)) ∧ W.heap[w.heap.size + 1]? = some (.cells (lv x) 75 (0, 0)) ∧ W.heap[w.heap.size + 1 + 1]? = some (.cells (lv y) 75 (0, 0)) ∧ W.heap[w.heap.size + 1 + 1 + 1]? = some (.cells (lv 0) 75 (0, 0)) ∧ Below w.heap.size w W) ⟨ha_old (ha_old (ha_old (ha_new rfl))), ha_old (ha_old (ha_new (by simp))), ha_old (ha_new (by simp)), by rw [← zero_long]; exact ha_new (by simp), ((((Below.refl _ _).alloc (Nat.le_refl _) _).alloc (by simp) _).alloc (by simp; omega) _).alloc (by simp; omega) _⟩ ?_
  rintro W ⟨h0, h1, h2, h3, hb⟩
  go_upto_region 17 with (fail)
  apply wp_region_lit
  ((with_reducible apply wl_rowG); exact rfl; exact rfl; exact rowW h0)
  ((with_reducible apply wl_rowG); exact rfl; exact rfl; (first | exact rowL (by with_reducible assumption) | exact rowD (by with_reducible assumption) | exact rowR (by with_reducible assumption)))
  ((with_reducible apply wl_rowG); exact rfl; exact rfl; (first | exact rowL (by with_reducible assumption) | exact rowD (by with_reducible assumption) | exact rowR (by with_reducible assumption)))
  refine wl_ck rfl (fun K hK => ?_); go_simp; refine ⟨_, _, ⟨rfl, rfl⟩, hK _ _ ⟨_, HC.out _, ?_⟩⟩; clear hK K; rintro e w1 ⟨rfl, hb1⟩; refine ⟨_, rfl, ?_⟩; simp only [put_lit, List.set_cons_zero, List.set_cons_succ]
  replace h3 := below_look hb1 h3; replace hb := hb.trans (hb1.mono hb.size); clear hb1
  ((with_reducible apply wl_put75); exact rfl; exact rfl; exact h3; intro w12 hbx hk hq; replace hb := hbx _ _ (by omega) hb; clear h3; have h3 := hq; clear hbx hk hq)
  go_wp2_with fail
  exact bodyPost_ret (res_long rfl _ _ (w.heap.size + 1 + 1 + 1) rfl h3) rfl ⟨rfl, hb⟩
set_option maxHeartbeats 1000000 in
theorem exact_xor (op : ByteArray) (bits : Int) (s : Bool) (x y : Int) (hop : op.data.toList = [94]) (hr : isRight bits = true) (hx : x.natAbs ≤ 18446744073709551616) (hy : y.natAbs ≤ 18446744073709551616) (w : World) :
    Calls Try.prog 60 #[.agg (wi bits s), .string op, .agg (lv x), .agg (lv y)] w fun e w' => e = .returned (.agg (lv (wrapW bits.toNat s ((bwN op.data.toList (lowN bits.toNat x) (lowN bits.toNat y) : Nat) : Int)))) ∧ Below w.heap.size w w' := by
  have l1 := lit_eq hop (l := [43]) rfl
  have l2 := lit_eq hop (l := [45]) rfl
  have l3 := lit_eq hop (l := [42]) rfl
  have l4 := lit_eq hop (l := [47]) rfl
  have l5 := lit_eq hop (l := [37]) rfl
  have l6 := lit_eq hop (l := [38]) rfl
  have l7 := lit_eq hop (l := [124]) rfl
  have l8 := lit_eq hop (l := [94]) rfl
  obtain ⟨n, rfl, n1, n2, n3⟩ := right_bits hr
  rw [n3, show wi (n : Int) s = wv n s from rfl]
  have HC := Lib.hid (fun W => bitXor_any n s x y n1 n2 (by omega) (by omega) (lowN n x) (lowN n y) (bwN op.data.toList (lowN n x) (lowN n y)) (lowN_cast n x) (lowN_cast n y) (bwN_lt _ (lowN_lt n x) (lowN_lt n y)) (fun i _ => by rw [hop]; unfold bwN; simp [Nat.testBit_xor]) W)
  generalize wrapW n s ((bwN op.data.toList (lowN n x) (lowN n y) : Nat) : Int) = z at HC
  clear hop hr n3 hx hy
  go_enter Try.func60, Try.ntmps60
  go_upto_region 1 with (fail)
  refine wp_world (fun W => W.heap[w.heap.size]? = some (.cells (wv n s) 68 (0, 0)) ∧ W.heap[w.heap.size + 1]? = some (.cells (lv x) 75 (0, 0)) ∧ W.heap[w.heap.size + 1 + 1]? = some (.cells (lv y) 75 (0, 0)) ∧ W.heap[w.heap.size + 1 + 1 + 1]? = some (.cells (lv 0) 75 (0, 0)) ∧ Below w.heap.size w W) ⟨ha_old (ha_old (ha_old (ha_new rfl))), ha_old (ha_old (ha_new (by simp))), ha_old (ha_new (by simp)), by rw [← zero_long]; exact ha_new (by simp), ((((Below.refl _ _).alloc (Nat.le_refl _) _).alloc (by simp) _).alloc (by simp; omega) _).alloc (by simp; omega) _⟩ ?_
  rintro W ⟨h0, h1, h2, h3, hb⟩
  go_upto_region 19 with (fail)
  apply wp_region_lit
  ((with_reducible apply wl_rowG); exact rfl; exact rfl; exact rowW h0)
  ((with_reducible apply wl_rowG); exact rfl; exact rfl; (first | exact rowL (by with_reducible assumption) | exact rowD (by with_reducible assumption) | exact rowR (by with_reducible assumption)))
  ((with_reducible apply wl_rowG); exact rfl; exact rfl; (first | exact rowL (by with_reducible assumption) | exact rowD (by with_reducible assumption) | exact rowR (by with_reducible assumption)))
  refine wl_ck rfl (fun K hK => ?_); go_simp; refine ⟨_, _, ⟨rfl, rfl⟩, hK _ _ ⟨_, HC.out _, ?_⟩⟩; clear hK K; rintro e w1 ⟨rfl, hb1⟩; refine ⟨_, rfl, ?_⟩; simp only [put_lit, List.set_cons_zero, List.set_cons_succ]
  replace h3 := below_look hb1 h3; replace hb := hb.trans (hb1.mono hb.size); clear hb1
  ((with_reducible apply wl_put75); exact rfl; exact rfl; exact h3; intro w12 hbx hk hq; replace hb := hbx _ _ (by omega) hb; clear h3; have h3 := hq; clear hbx hk hq)
  go_wp2_with fail
  exact bodyPost_ret (res_long rfl _ _ (w.heap.size + 1 + 1 + 1) rfl h3) rfl ⟨rfl, hb⟩
theorem small63 {n : Nat} (h : n ≤ 100000000000000000000) : n < 10 ^ 63 := Nat.lt_of_le_of_lt h (by decide)
theorem exact_any (op : ByteArray) (bits : Int) (s : Bool) (x y : Int) (ho : isOpL op.data.toList = true) (hr : isRight bits = true) (hx : x.natAbs ≤ 18446744073709551616) (hy : y.natAbs ≤ 18446744073709551616)
    (hs : isShift op.data.toList = true → 0 ≤ y ∧ y ≤ 64) (hd : op.data.toList = [47] ∨ op.data.toList = [37] → y ≠ 0) (w : World) :
    Calls Try.prog 60 #[.agg (wi bits s), .string op, .agg (lv x), .agg (lv y)] w fun e w' => e = .returned (.agg (lv (doX op.data.toList bits.toNat s x y))) ∧ Below w.heap.size w w' := by
  have mb := mul_bd hx hy
  have ho' := ho
  unfold isOpL at ho'
  simp only [Bool.or_eq_true, beq_iff_eq] at ho'
  unfold doX
  rcases ho' with ((((((((h | h) | h) | h) | h) | h) | h) | h) | h) | h
  · rw [if_pos h]; exact exact_add op bits s x y h (Lib.hid (small64 (by omega))) w
  · rw [if_neg (by rw [h]; decide), if_pos h]; exact exact_sub op bits s x y h (Lib.hid (small64 (by omega))) (Lib.hid (small64 (by omega))) w
  · rw [if_neg (by rw [h]; decide), if_neg (by rw [h]; decide), if_pos h]; exact exact_mul op bits s x y h (Lib.hid (big64 (by omega))) w
  · rw [if_neg (by rw [h]; decide), if_neg (by rw [h]; decide), if_neg (by rw [h]; decide), if_pos h]; exact exact_div op bits s x y h (Lib.hid (small64 (by omega))) (Lib.hid (hd (Or.inl h))) (Lib.hid (small63 (by omega))) w
  · rw [if_neg (by rw [h]; decide), if_neg (by rw [h]; decide), if_neg (by rw [h]; decide), if_neg (by rw [h]; decide), if_pos h]; exact exact_mod op bits s x y h (Lib.hid (small64 (by omega))) (Lib.hid (hd (Or.inr h))) (Lib.hid (small63 (by omega))) w
  · rw [if_neg (by rw [h]; decide), if_neg (by rw [h]; decide), if_neg (by rw [h]; decide), if_neg (by rw [h]; decide), if_neg (by rw [h]; decide), if_neg (by rw [h]; decide), if_neg (by rw [h]; decide)]; exact exact_and op bits s x y h hr hx hy w
  · rw [if_neg (by rw [h]; decide), if_neg (by rw [h]; decide), if_neg (by rw [h]; decide), if_neg (by rw [h]; decide), if_neg (by rw [h]; decide), if_neg (by rw [h]; decide), if_neg (by rw [h]; decide)]; exact exact_or op bits s x y h hr hx hy w
  · rw [if_neg (by rw [h]; decide), if_neg (by rw [h]; decide), if_neg (by rw [h]; decide), if_neg (by rw [h]; decide), if_neg (by rw [h]; decide), if_neg (by rw [h]; decide), if_neg (by rw [h]; decide)]; exact exact_xor op bits s x y h hr hx hy w
  · have := hs (by rw [h]; decide)
    rw [if_neg (by rw [h]; decide), if_neg (by rw [h]; decide), if_neg (by rw [h]; decide), if_neg (by rw [h]; decide), if_neg (by rw [h]; decide), if_pos h]; exact exact_shl op bits s x y h (Lib.hid (shBd this.1 this.2 hx)) w
  · have := hs (by rw [h]; decide)
    rw [if_neg (by rw [h]; decide), if_neg (by rw [h]; decide), if_neg (by rw [h]; decide), if_neg (by rw [h]; decide), if_neg (by rw [h]; decide), if_neg (by rw [h]; decide), if_pos h]; exact exact_shr op bits s x y h (Lib.hid (shBd this.1 this.2 hx)) w
theorem doX_bd (L : List UInt8) {bits : Int} (s : Bool) {x y : Int} (hr : isRight bits = true) (hx : x.natAbs ≤ 18446744073709551616) (hy : y.natAbs ≤ 18446744073709551616) (hs : isShift L = true → 0 ≤ y ∧ y ≤ 64) :
    (doX L bits.toNat s x y).natAbs ≤ 100000000000000000000000000000000000000000000000000000000000 := by
  have mb := mul_bd hx hy
  unfold doX
  split
  · omega
  split
  · omega
  split
  · rw [Int.natAbs_mul]; omega
  split
  · rw [Int.natAbs_tdiv]; exact Nat.le_trans (Nat.div_le_self _ _) (by omega)
  split
  · rw [Int.natAbs_tmod]; exact Nat.le_trans (Nat.mod_le _ _) (by omega)
  split
  · rename_i h
    have hq := hs (by rw [h]; decide)
    have h2 := two_le (bits := y.toNat) (by omega)
    rw [Int.natAbs_mul, Int.natAbs_natCast]
    have := Nat.mul_le_mul hx h2
    omega
  split
  · rename_i h
    have h0 := two_pos y.toNat
    have h2 := Int.natAbs_ediv_le_natAbs x ((2 ^ y.toNat : Nat) : Int)
    omega
  · obtain ⟨n, rfl, h1, h2, h3⟩ := right_bits hr
    rw [h3]
    have := has_bd h1 h2 (wrap_has h1 s ((bwN L (lowN n x) (lowN n y) : Nat) : Int))
    omega
set_option maxHeartbeats 1000000 in
theorem Do_any (op a b md : ByteArray) (bits : Int) (s : Bool) (t : ByteArray) (er : Int) (h : Hid (doS op a b bits s md = (t, er))) (w : World) :
    Calls Try.prog 22 #[.string op, .string a, .string b, .int .i64 bits, .bool s, .string md] w fun e w' => e = .returned (.tuple #[.string t, .int .i64 er]) ∧ Below w.heap.size w w' := by
  have h := h.out
  unfold doS at h
  cases hx : rdm a with
  | none =>
    rw [hx] at h
    simp only [Prod.mk.injEq] at h
    obtain ⟨rfl, rfl⟩ := h
    exact Do_form op a b md bits s (Or.inl hx) w
  | some x =>
    cases hy : rdm b with
    | none =>
      rw [hx, hy] at h
      simp only [Prod.mk.injEq] at h
      obtain ⟨rfl, rfl⟩ := h
      exact Do_form op a b md bits s (Or.inr hy) w
    | some y =>
      rw [hx, hy] at h
      simp only at h
      by_cases hr : isRight bits = true
      rotate_left
      · rw [if_neg (fun h => hr h.1)] at h
        simp only [Prod.mk.injEq] at h
        obtain ⟨rfl, rfl⟩ := h
        exact Do_name1 op a b md bits s x y hx hy (Lib.hid (by simpa using hr)) w
      by_cases hm : isModeL md.data.toList = true
      rotate_left
      · rw [if_neg (fun h => hm h.2.1)] at h
        simp only [Prod.mk.injEq] at h
        obtain ⟨rfl, rfl⟩ := h
        exact Do_name2 op a b md bits s x y hx hy (Lib.hid hr) (Lib.hid (by simpa using hm)) w
      by_cases ho : isOpL op.data.toList = true
      rotate_left
      · rw [if_neg (fun h => ho h.2.2)] at h
        simp only [Prod.mk.injEq] at h
        obtain ⟨rfl, rfl⟩ := h
        exact Do_name3 op a b md bits s x y hx hy (Lib.hid hr) (Lib.hid hm) (Lib.hid (by simpa using ho)) w
      rw [if_pos ⟨hr, hm, ho⟩] at h
      have hsh : isShift op.data.toList = ((op.toList == [60, 60]) || (op.toList == [62, 62])) := by rw [ByteArray.toList_eq]; rfl
      by_cases hhx : hasI bits s x = true
      rotate_left
      · rw [if_neg (fun h => hhx h.1)] at h
        simp only [Prod.mk.injEq] at h
        obtain ⟨rfl, rfl⟩ := h
        exact Do_range1 op a b md bits s x y hx hy (Lib.hid hr) (Lib.hid hm) (Lib.hid ho) _ _ rfl rfl (Lib.hid (by simpa using hhx)) w
      by_cases hhy : hasI bits s y = true
      rotate_left
      · rw [if_neg (fun h => hhy h.2.1)] at h
        simp only [Prod.mk.injEq] at h
        obtain ⟨rfl, rfl⟩ := h
        exact Do_range2 op a b md bits s x y hx hy (Lib.hid hr) (Lib.hid hm) (Lib.hid ho) _ _ rfl rfl (Lib.hid hhx) (Lib.hid (by simpa using hhy)) w
      have bx := hasI_bd hr hhx
      have bY := hasI_bd hr hhy
      by_cases hq : isShift op.data.toList = true ∧ (ng y = true ∨ bits ≤ y)
      · rw [if_neg (fun h => h.2.2 hq)] at h
        simp only [Prod.mk.injEq] at h
        obtain ⟨rfl, rfl⟩ := h
        by_cases hn : ng y = true
        · exact Do_range3 op a b md bits s x y hx hy (Lib.hid hr) (Lib.hid hm) (Lib.hid ho) _ _ rfl rfl (by rw [← hsh]; exact hq.1) (Lib.hid hhx) (Lib.hid hhy) (Lib.hid hn) w
        · exact Do_range4 op a b md bits s x y hx hy (Lib.hid hr) (Lib.hid hm) (Lib.hid ho) _ _ rfl rfl (by rw [← hsh]; exact hq.1) (Lib.hid hhx) (Lib.hid hhy) (Lib.hid (by simpa using hn)) (Lib.hid (hq.2.resolve_left hn)) w
      rw [if_pos ⟨hhx, hhy, hq⟩] at h
      have hl (l : List UInt8) : (op.toList == l) = decide (op.data.toList = l) := by rw [ByteArray.toList_eq, Bool.eq_iff_iff]; simp
      by_cases hz : (op.data.toList = [47] ∨ op.data.toList = [37]) ∧ y = 0
      · rw [if_pos hz] at h
        simp only [Prod.mk.injEq] at h
        obtain ⟨rfl, rfl⟩ := h
        obtain ⟨hz, rfl⟩ := hz
        rcases hz with hz | hz
        · exact Do_zero1 op a b md bits s x hx hy (Lib.hid hr) (Lib.hid hm) (Lib.hid ho) (lit_eq hz rfl) (lit_eq hz rfl) (Lib.hid hhx) (Lib.hid hhy) (lit_eq hz rfl) w
        · exact Do_zero2 op a b md bits s x hx hy (Lib.hid hr) (Lib.hid hm) (Lib.hid ho) (lit_eq hz rfl) (lit_eq hz rfl) (Lib.hid hhx) (Lib.hid hhy) (lit_eq hz rfl) (lit_eq hz rfl) w
      rw [if_neg hz] at h
      have hs1 : isShift op.data.toList = true → ng y = false ∧ y < bits := fun hi => by
        have : ¬ (ng y = true ∨ bits ≤ y) := fun h => hq ⟨hi, h⟩
        cases hn : ng y
        · exact ⟨rfl, by omega⟩
        · exact absurd (Or.inl hn) this
      obtain ⟨n, hn, n1, n2, n3⟩ := right_bits hr
      have hs0 : isShift op.data.toList = true → 0 ≤ y ∧ y ≤ 64 := fun hi => by
        have := hs1 hi
        rw [ng_def] at this
        have h0 := of_decide_eq_false this.1
        omega
      have hd : op.data.toList = [47] ∨ op.data.toList = [37] → y ≠ 0 := fun hi e => hz ⟨hi, e⟩
      have EX := exact_any op bits s x y ho hr bx bY hs0 hd
      have BD := doX_bd op.data.toList s hr bx bY hs0
      generalize doX op.data.toList bits.toNat s x y = z at h EX BD
      rcases hB : bringW bits.toNat s md.toList z with ⟨r, e1⟩
      rw [hB] at h
      simp only at h
      have rb : r.natAbs < 10 ^ 64 := small64 (by have := bring_bd hr hB; omega)
      have R0 : Hid (e1 = 0 → Ending.returned (.tuple #[.string t, .int .i64 er]) = .returned (.tuple #[.string ⟨(txt r).toArray⟩, .int .i64 0])) := Lib.hid fun he => by
        rw [if_pos he] at h
        simp only [Prod.mk.injEq] at h
        obtain ⟨rfl, rfl⟩ := h
        rfl
      have R1 : Hid (e1 ≠ 0 → Ending.returned (.tuple #[.string t, .int .i64 er]) = .returned (.tuple #[.string ⟨#[]⟩, .int .i64 e1])) := Lib.hid fun he => by
        rw [if_neg he] at h
        simp only [Prod.mk.injEq] at h
        obtain ⟨rfl, rfl⟩ := h
        rfl
      by_cases h1 : op.data.toList = [47]
      · exact Do_div1 op a b md bits s x y z r e1 hx hy (Lib.hid hr) (Lib.hid hm) (Lib.hid ho) (lit_eq h1 rfl) (lit_eq h1 rfl) (Lib.hid hhx) (Lib.hid hhy) (lit_eq h1 rfl) (Lib.hid (decide_eq_false (hd (Or.inl h1)))) (Lib.hid EX) (Lib.hid BD) (Lib.hid hB) (Lib.hid rb) _ R0 R1 w
      by_cases h2 : op.data.toList = [37]
      · exact Do_div2 op a b md bits s x y z r e1 hx hy (Lib.hid hr) (Lib.hid hm) (Lib.hid ho) (lit_eq h2 rfl) (lit_eq h2 rfl) (Lib.hid hhx) (Lib.hid hhy) (lit_eq h2 rfl) (lit_eq h2 rfl) (Lib.hid (decide_eq_false (hd (Or.inr h2)))) (Lib.hid EX) (Lib.hid BD) (Lib.hid hB) (Lib.hid rb) _ R0 R1 w
      by_cases h3 : op.data.toList = [60, 60]
      · have hi := hs1 (by rw [h3]; decide)
        exact Do_sh1 op a b md bits s x y z r e1 hx hy (Lib.hid hr) (Lib.hid hm) (Lib.hid ho) (lit_eq h3 rfl) (Lib.hid hhx) (Lib.hid hhy) (Lib.hid hi.1) (Lib.hid hi.2) (lit_eq h3 rfl) (lit_eq h3 rfl) (Lib.hid EX) (Lib.hid BD) (Lib.hid hB) (Lib.hid rb) _ R0 R1 w
      by_cases h4 : op.data.toList = [62, 62]
      · have hi := hs1 (by rw [h4]; decide)
        exact Do_sh2 op a b md bits s x y z r e1 hx hy (Lib.hid hr) (Lib.hid hm) (Lib.hid ho) (lit_eq h4 rfl) (lit_eq h4 rfl) (Lib.hid hhx) (Lib.hid hhy) (Lib.hid hi.1) (Lib.hid hi.2) (lit_eq h4 rfl) (lit_eq h4 rfl) (Lib.hid EX) (Lib.hid BD) (Lib.hid hB) (Lib.hid rb) _ R0 R1 w
      exact Do_plain op a b md bits s x y z r e1 hx hy (Lib.hid hr) (Lib.hid hm) (Lib.hid ho) (by rw [hl, decide_eq_false h3]) (by rw [hl, decide_eq_false h4]) (Lib.hid hhx) (Lib.hid hhy) (by rw [hl, decide_eq_false h1]) (by rw [hl, decide_eq_false h2]) (Lib.hid EX) (Lib.hid BD) (Lib.hid hB) (Lib.hid rb) _ R0 R1 w
end Go.Proofs.Ytclainfdeghgnaa

namespace Go.Proofs.Ytclainfdeghgnaa
open Go.RowKit Go.Proofs.Ytclainfdeghgnaa.Nm

end Go.Proofs.Ytclainfdeghgnaa

namespace Go.Proofs.Ytclainfdeghgnaa.Nm

end Go.Proofs.Ytclainfdeghgnaa.Nm

namespace Go.Proofs.Ytclainfdeghgnaa
open Go.RowKit Go.Proofs.Ytclainfdeghgnaa.Nm
/-- where an operation does not fail: its numbers, and what has come of it -/
structure Done (op a b : ByteArray) (bits : Int) (s : Bool) (md : ByteArray) (x y : Int) : Prop where
  hx : rdm a = some x
  hy : rdm b = some y
  hr : isRight bits = true
  hm : isModeL md.data.toList = true
  ho : isOpL op.data.toList = true
  ix : hasI bits s x = true
  iy : hasI bits s y = true
  hs : ¬ (isShift op.data.toList = true ∧ (ng y = true ∨ bits ≤ y))
  hz : ¬ ((op.data.toList = [47] ∨ op.data.toList = [37]) ∧ y = 0)
theorem Done.of {op a b md : ByteArray} {bits : Int} {s : Bool} {x y : Int} (h : Done op a b bits s md x y) :
    doS op a b bits s md = if (bringW bits.toNat s md.toList (doX op.data.toList bits.toNat s x y)).2 = 0 then (⟨(txt (bringW bits.toNat s md.toList (doX op.data.toList bits.toNat s x y)).1).toArray⟩, 0)
          else (⟨#[]⟩, (bringW bits.toNat s md.toList (doX op.data.toList bits.toNat s x y)).2) := by
  unfold doS
  rw [h.hx, h.hy]
  simp only
  rw [if_pos ⟨h.hr, h.hm, h.ho⟩, if_pos ⟨h.ix, h.iy, h.hs⟩, if_neg h.hz]
end Go.Proofs.Ytclainfdeghgnaa

namespace Go.Proofs.Ytclainfdeghgnaa
open Go.RowKit Go.Proofs.Ytclainfdeghgnaa.Nm
/-- an operation and its operands -/
def cv3 (a b c : ByteArray) : Array Value := #[.string a, .string b, .string c]
theorem cv30 {w : World} {g : Nat} {a b c : ByteArray} {t : TypeId} {fr : Nat × Nat} (hb : w.heap[g]? = some (.cells (cv3 a b c) t fr)) : w.cell? ⟨g, 0, none⟩ = some (.string a) := by rw [cell_of_row _ _ _ _ _ _ hb]; rfl
theorem cv31 {w : World} {g : Nat} {a b c : ByteArray} {t : TypeId} {fr : Nat × Nat} (hb : w.heap[g]? = some (.cells (cv3 a b c) t fr)) : w.cell? ⟨g, 1, none⟩ = some (.string b) := by rw [cell_of_row _ _ _ _ _ _ hb]; rfl
theorem cv32 {w : World} {g : Nat} {a b c : ByteArray} {t : TypeId} {fr : Nat × Nat} (hb : w.heap[g]? = some (.cells (cv3 a b c) t fr)) : w.cell? ⟨g, 2, none⟩ = some (.string c) := by rw [cell_of_row _ _ _ _ _ _ hb]; rfl
end Go.Proofs.Ytclainfdeghgnaa
