/- The bits of a text's number, and the number of a text of bits, the program's; they undo each other. The bits of a number within a width, the document's. The value of bits, the document's. A word stored into one cell, in a drawn region. The exact result of an operation, the document's. The bits of a text's number, and the number of a text of bits, the document's; the law. -/
import Derived.Test.YtclainfdeghgnaaV13
import Derived.Outline
namespace Go.Proofs.Ytclainfdeghgnaa
open Go.RowKit Go.Proofs.Ytclainfdeghgnaa.Nm
/-- a bit's character, and the lowest bits' characters, the highest one first -/
def bc (v k : Nat) : UInt8 := if v.testBit k then 49 else 48
def btxt (v : Nat) : Nat → List UInt8
  | 0 => []
  | k + 1 => bc v k :: btxt v k
theorem btxt_length (v k : Nat) : (btxt v k).length = k := by
  induction k with
  | zero => rfl
  | succ k ih => simp [btxt, ih]
def okb (c : UInt8) : Bool := c == 48 || c == 49
/-- the number of a text of bits -/
def bvN : List UInt8 → Nat
  | [] => 0
  | c :: l => (if c = 49 then 2 ^ l.length else 0) + bvN l
theorem bvN_lt (l : List UInt8) : bvN l < 2 ^ l.length := by
  induction l with
  | nil => simp [bvN]
  | cons c l ih => simp only [bvN, List.length_cons, Nat.pow_succ]; split <;> omega
theorem bvN_bit (l : List UInt8) : ∀ i, i < l.length → (bvN l).testBit i = (l.reverse.getD i 48 == 49) := by
  induction l with
  | nil => intro i hi; simp at hi
  | cons c l ih =>
    intro i hi
    have hl := bvN_lt l
    rw [List.length_cons] at hi
    rw [List.reverse_cons, List.getD_eq_getElem?_getD]
    rcases Nat.lt_or_ge i l.length with h | h
    · rw [List.getElem?_append_left (by simpa using h), ← List.getD_eq_getElem?_getD, ← ih i h]
      simp only [bvN]
      split
      · rw [Nat.testBit_two_pow_add_gt h]
      · rw [Nat.zero_add]
    · obtain rfl : i = l.length := by omega
      rw [List.getElem?_append_right (by simp)]
      simp only [bvN, List.length_reverse, Nat.sub_self, List.getElem?_cons_zero, Option.getD_some]
      by_cases hc : c = 49
      · rw [if_pos hc, hc, Nat.testBit_two_pow_add_eq, Nat.testBit_lt_two_pow hl]; rfl
      · rw [if_neg hc, Nat.zero_add, Nat.testBit_lt_two_pow hl]; simp [hc]
theorem bvN_btxt (v k : Nat) : bvN (btxt v k) = v % 2 ^ k := by
  induction k with
  | zero => simp [btxt, bvN, Nat.mod_one]
  | succ k ih =>
    simp only [btxt, bvN, btxt_length, ih, bc]
    rw [show v % 2 ^ (k + 1) = v % 2 ^ k + 2 ^ k * (v / 2 ^ k % 2) by rw [Nat.pow_succ, Nat.mod_mul], Nat.testBit_eq_decide_div_mod_eq]
    have := Nat.mod_lt (v / 2 ^ k) (show 0 < 2 by decide)
    by_cases h : v / 2 ^ k % 2 = 1
    · simp [h, Nat.add_comm]
    · have h0 : v / 2 ^ k % 2 = 0 := by omega
      simp [h0]
theorem btxt_ok (v k : Nat) : (btxt v k).all okb = true := by
  induction k with
  | zero => rfl
  | succ k ih =>
    simp only [btxt, List.all_cons, ih, Bool.and_true, bc]
    split <;> rfl
def bitsS (a : ByteArray) (n : Int) (s : Bool) : ByteArray × Int :=
  match rdm a with
  | none => (⟨#[]⟩, 4)
  | some x => if isRight n = true then (if hasI n s x = true then (⟨(btxt (lowN n.toNat x) n.toNat).toArray⟩, 0) else (⟨#[]⟩, 1)) else (⟨#[]⟩, 3)
def fromS (d : List UInt8) (s : Bool) : ByteArray × Int :=
  if isRight (d.length : Int) = true ∧ d.all okb = true then (⟨(txt (wrapW d.length s ((bvN d : Nat) : Int))).toArray⟩, 0) else (⟨#[]⟩, 4)
theorem bytes_snoc (l : List UInt8) (c : UInt8) : Lib.byteCells l ++ [Value.int .u8 (c.toNat : Int)] = Lib.byteCells (l ++ [c]) := by
  unfold Lib.byteCells; simp
set_option maxHeartbeats 400000 in
theorem Bits_none (m : ByteArray) (bits : Int) (s : Bool) (hx : rdm m = none) (w : World) :
    Calls Try.prog 48 #[.string m, .int .i64 bits, .bool s] w fun e w' => e = .returned (.tuple #[.string ⟨#[]⟩, .int .i64 4]) ∧ Below w.heap.size w w' := by
  go_enter Try.func48, Try.ntmps48
  go_upto_region 1 with (fail)
  apply wp_region_lit
  refine wl_k rfl (fun K hK => ?_); go_simp; refine hK _ ?_; clear hK K
  refine wl_ck rfl (fun K hK => ?_); go_simp; refine ⟨_, _, ⟨rfl, rfl⟩, hK _ _ ⟨_, read_any2 m 0 false (Or.inr ⟨hx, rfl, rfl⟩) _, ?_⟩⟩; clear hK K; rintro e w1 ⟨rfl, hb1⟩; refine ⟨_, rfl, ?_⟩; simp only [put_lit, List.set_cons_zero, List.set_cons_succ]
  have hb := hb1
  clear hb1
  refine wl_k rfl (fun K hK => ?_); go_simp; refine hK _ ?_; clear hK K
  refine wl_k rfl (fun K hK => ?_); go_simp; refine hK _ ?_; clear hK K
  refine wl_k rfl (fun K hK => ?_); go_simp; refine hK _ ?_; clear hK K
  (have lsp2 := hb.size; (with_reducible apply wl_new75); intro w2 p2 hbn hlp2 hp2; replace hb := hb.trans (hbn.mono hb.size); clear hbn)
  ((with_reducible apply wl_put75); exact rfl; exact rfl; exact hp2; intro w3 hbx hk hq; replace hb := hbx _ _ (by omega) hb; clear hp2; have hp2 := hq; clear hbx hk hq)
  go_wp2_with fail
  exact bodyPost_ret (results_tmp2 rfl _ _ _) rfl ⟨rfl, hb⟩
set_option maxHeartbeats 400000 in
theorem Bits_name (m : ByteArray) (bits : Int) (s : Bool) (x : Int) (hx : rdm m = some x) (hr : Hid (isRight bits = false)) (w : World) :
    Calls Try.prog 48 #[.string m, .int .i64 bits, .bool s] w fun e w' => e = .returned (.tuple #[.string ⟨#[]⟩, .int .i64 3]) ∧ Below w.heap.size w w' := by
  go_enter Try.func48, Try.ntmps48
  go_upto_region 1 with (fail)
  apply wp_region_lit
  refine wl_k rfl (fun K hK => ?_); go_simp; refine hK _ ?_; clear hK K
  refine wl_ck rfl (fun K hK => ?_); go_simp; refine ⟨_, _, ⟨rfl, rfl⟩, hK _ _ ⟨_, read_any2 m x true (Or.inl ⟨hx, rfl⟩) _, ?_⟩⟩; clear hK K; rintro e w1 ⟨rfl, hb1⟩; refine ⟨_, rfl, ?_⟩; simp only [put_lit, List.set_cons_zero, List.set_cons_succ]
  have hb := hb1
  clear hb1
  refine wl_k rfl (fun K hK => ?_); go_simp; refine hK _ ?_; clear hK K
  refine wl_k rfl (fun K hK => ?_); go_simp; refine hK _ ?_; clear hK K
  refine wl_k rfl (fun K hK => ?_); go_simp; refine hK _ ?_; clear hK K
  (have lsp2 := hb.size; (with_reducible apply wl_new75); intro w2 p2 hbn hlp2 hp2; replace hb := hb.trans (hbn.mono hb.size); clear hbn)
  ((with_reducible apply wl_put75); exact rfl; exact rfl; exact hp2; intro w3 hbx hk hq; replace hb := hbx _ _ (by omega) hb; clear hp2; have hp2 := hq; clear hbx hk hq)
  go_upto_region 5 with (fail)
  refine wp_world (fun W => W.heap[p2]? = some (.cells (lv x) 75 (0, 0)) ∧ W.heap[w3.heap.size]? = some (.cells (wi bits s) 68 (0, 0)) ∧ Below w.heap.size w W) ⟨ha_old hp2, ha_new rfl, hb.alloc hb.size _⟩ ?_
  clear hp2 hb
  rintro W ⟨hp2, h0, hb⟩
  apply wp_region_lit
  ((with_reducible apply wl_rowG); exact rfl; exact rfl; exact rowWi h0)
  refine wl_ck rfl (fun K hK => ?_); go_simp; refine ⟨_, _, ⟨rfl, rfl⟩, hK _ _ ⟨_, right_any _ _ false (Lib.hid hr.out.symm) _, ?_⟩⟩; clear hK K; rintro e w4 ⟨rfl, hb1⟩; refine ⟨_, rfl, ?_⟩; simp only [put_lit, List.set_cons_zero, List.set_cons_succ]
  replace h0 := below_look hb1 h0; replace hp2 := below_look hb1 hp2; replace hb := hb.trans (hb1.mono hb.size); clear hb1
  go_wp2_with fail
  exact bodyPost_ret (results_tmp2 rfl _ _ _) rfl ⟨rfl, hb⟩
set_option maxHeartbeats 400000 in
theorem Bits_range (m : ByteArray) (bits : Int) (s : Bool) (x : Int) (hx : rdm m = some x) (hr : Hid (isRight bits = true)) (hh : Hid (hasI bits s x = false)) (w : World) :
    Calls Try.prog 48 #[.string m, .int .i64 bits, .bool s] w fun e w' => e = .returned (.tuple #[.string ⟨#[]⟩, .int .i64 1]) ∧ Below w.heap.size w w' := by
  have bx := Lib.hid (rdm_bd hx)
  go_enter Try.func48, Try.ntmps48
  go_upto_region 1 with (fail)
  apply wp_region_lit
  refine wl_k rfl (fun K hK => ?_); go_simp; refine hK _ ?_; clear hK K
  refine wl_ck rfl (fun K hK => ?_); go_simp; refine ⟨_, _, ⟨rfl, rfl⟩, hK _ _ ⟨_, read_any2 m x true (Or.inl ⟨hx, rfl⟩) _, ?_⟩⟩; clear hK K; rintro e w1 ⟨rfl, hb1⟩; refine ⟨_, rfl, ?_⟩; simp only [put_lit, List.set_cons_zero, List.set_cons_succ]
  have hb := hb1
  clear hb1
  refine wl_k rfl (fun K hK => ?_); go_simp; refine hK _ ?_; clear hK K
  refine wl_k rfl (fun K hK => ?_); go_simp; refine hK _ ?_; clear hK K
  refine wl_k rfl (fun K hK => ?_); go_simp; refine hK _ ?_; clear hK K
  (have lsp2 := hb.size; (with_reducible apply wl_new75); intro w2 p2 hbn hlp2 hp2; replace hb := hb.trans (hbn.mono hb.size); clear hbn)
  ((with_reducible apply wl_put75); exact rfl; exact rfl; exact hp2; intro w3 hbx hk hq; replace hb := hbx _ _ (by omega) hb; clear hp2; have hp2 := hq; clear hbx hk hq)
  go_upto_region 5 with (fail)
  refine wp_world (fun W => W.heap[p2]? = some (.cells (lv x) 75 (0, 0)) ∧ W.heap[w3.heap.size]? = some (.cells (wi bits s) 68 (0, 0)) ∧ Below w.heap.size w W) ⟨ha_old hp2, ha_new rfl, hb.alloc hb.size _⟩ ?_
  clear hp2 hb
  rintro W ⟨hp2, h0, hb⟩
  apply wp_region_lit
  ((with_reducible apply wl_rowG); exact rfl; exact rfl; exact rowWi h0)
  refine wl_ck rfl (fun K hK => ?_); go_simp; refine ⟨_, _, ⟨rfl, rfl⟩, hK _ _ ⟨_, right_any _ _ true (Lib.hid hr.out.symm) _, ?_⟩⟩; clear hK K; rintro e w4 ⟨rfl, hb1⟩; refine ⟨_, rfl, ?_⟩; simp only [put_lit, List.set_cons_zero, List.set_cons_succ]
  replace h0 := below_look hb1 h0; replace hp2 := below_look hb1 hp2; replace hb := hb.trans (hb1.mono hb.size); clear hb1
  go_upto_region 7 with (fail)
  apply wp_region_lit
  ((with_reducible apply wl_rowG); exact rfl; exact rfl; exact rowWi h0)
  ((with_reducible apply wl_rowG); exact rfl; exact rfl; (first | exact rowL (by with_reducible assumption) | exact rowD (by with_reducible assumption) | exact rowR (by with_reducible assumption)))
  refine wl_ck rfl (fun K hK => ?_); go_simp; refine ⟨_, _, ⟨rfl, rfl⟩, hK _ _ ⟨_, has_wi _ _ _ hr.out bx.out _ hh _, ?_⟩⟩; clear hK K; rintro e w5 ⟨rfl, hb1⟩; refine ⟨_, rfl, ?_⟩; simp only [put_lit, List.set_cons_zero, List.set_cons_succ]
  replace h0 := below_look hb1 h0; replace hp2 := below_look hb1 hp2; replace hb := hb.trans (hb1.mono hb.size); clear hb1
  go_wp2_with fail
  exact bodyPost_ret (results_tmp2 rfl _ _ _) rfl ⟨rfl, hb⟩
set_option maxHeartbeats 1000000 in
theorem Bits_ok (m : ByteArray) (n : Nat) (n1 : 1 ≤ n) (n2 : n ≤ 64) (s : Bool) (x : Int) (hx : rdm m = some x) (hr : Hid (isRight (n : Int) = true)) (hh : Hid (hasI (n : Int) s x = true)) (v : Nat) (HV : Hid ((v : Int) = x % ((2 ^ n : Nat) : Int))) (w : World) :
    Calls Try.prog 48 #[.string m, .int .i64 (n : Int), .bool s] w fun e w' => e = .returned (.tuple #[.string ⟨(btxt v n).toArray⟩, .int .i64 0]) ∧ Below w.heap.size w w' := by
  have bx := Lib.hid (rdm_bd hx)
  have bx2 := Lib.hid (show x.natAbs ≤ 100000000000000000000000000000000000000000000000000000000000 by have := hasI_bd hr.out hh.out; omega)
  go_enter Try.func48, Try.ntmps48
  go_upto_region 1 with (fail)
  apply wp_region_lit
  refine wl_k rfl (fun K hK => ?_); go_simp; refine hK _ ?_; clear hK K
  refine wl_ck rfl (fun K hK => ?_); go_simp; refine ⟨_, _, ⟨rfl, rfl⟩, hK _ _ ⟨_, read_any2 m x true (Or.inl ⟨hx, rfl⟩) _, ?_⟩⟩; clear hK K; rintro e w1 ⟨rfl, hb1⟩; refine ⟨_, rfl, ?_⟩; simp only [put_lit, List.set_cons_zero, List.set_cons_succ]
  have hb := hb1
  clear hb1
  refine wl_k rfl (fun K hK => ?_); go_simp; refine hK _ ?_; clear hK K
  refine wl_k rfl (fun K hK => ?_); go_simp; refine hK _ ?_; clear hK K
  refine wl_k rfl (fun K hK => ?_); go_simp; refine hK _ ?_; clear hK K
  (have lsp2 := hb.size; (with_reducible apply wl_new75); intro w2 p2 hbn hlp2 hp2; replace hb := hb.trans (hbn.mono hb.size); clear hbn)
  ((with_reducible apply wl_put75); exact rfl; exact rfl; exact hp2; intro w3 hbx hk hq; replace hb := hbx _ _ (by omega) hb; clear hp2; have hp2 := hq; clear hbx hk hq)
  go_upto_region 5 with (fail)
  refine wp_world (fun W => W.heap[p2]? = some (.cells (lv x) 75 (0, 0)) ∧ W.heap[w3.heap.size]? = some (.cells (wv n s) 68 (0, 0)) ∧ Below w.heap.size w W) ⟨ha_old hp2, ha_new rfl, hb.alloc hb.size _⟩ ?_
  clear hp2 hb
  rintro W ⟨hp2, h0, hb⟩
  apply wp_region_lit
  ((with_reducible apply wl_rowG); exact rfl; exact rfl; exact rowW h0)
  refine wl_ck rfl (fun K hK => ?_); go_simp; refine ⟨_, _, ⟨rfl, rfl⟩, hK _ _ ⟨_, right_any (n : Int) s true (Lib.hid hr.out.symm) _, ?_⟩⟩; clear hK K; rintro e w4 ⟨rfl, hb1⟩; refine ⟨_, rfl, ?_⟩; simp only [put_lit, List.set_cons_zero, List.set_cons_succ]
  replace h0 := below_look hb1 h0; replace hp2 := below_look hb1 hp2; replace hb := hb.trans (hb1.mono hb.size); clear hb1
  go_upto_region 7 with (fail)
  apply wp_region_lit
  ((with_reducible apply wl_rowG); exact rfl; exact rfl; exact rowW h0)
  ((with_reducible apply wl_rowG); exact rfl; exact rfl; (first | exact rowL (by with_reducible assumption) | exact rowD (by with_reducible assumption) | exact rowR (by with_reducible assumption)))
  refine wl_ck rfl (fun K hK => ?_); go_simp; refine ⟨_, _, ⟨rfl, rfl⟩, hK _ _ ⟨_, has_wi (n : Int) s _ hr.out bx.out _ hh _, ?_⟩⟩; clear hK K; rintro e w5 ⟨rfl, hb1⟩; refine ⟨_, rfl, ?_⟩; simp only [put_lit, List.set_cons_zero, List.set_cons_succ]
  replace h0 := below_look hb1 h0; replace hp2 := below_look hb1 hp2; replace hb := hb.trans (hb1.mono hb.size); clear hb1
  go_upto_region 9 with (fail)
  apply wp_region_lit
  ((with_reducible apply wl_rowG); exact rfl; exact rfl; exact rowW h0)
  ((with_reducible apply wl_rowG); exact rfl; exact rfl; (first | exact rowL (by with_reducible assumption) | exact rowD (by with_reducible assumption) | exact rowR (by with_reducible assumption)))
  refine wl_ck rfl (fun K hK => ?_); go_simp; refine ⟨_, _, ⟨rfl, rfl⟩, hK _ _ ⟨_, low_any n s x n1 n2 bx2.out v HV.out _, ?_⟩⟩; clear hK K; rintro e w6 ⟨g, rfl, hg0, hg, hb1⟩; refine ⟨_, rfl, ?_⟩; simp only [put_lit, List.set_cons_zero, List.set_cons_succ]
  replace hb := hb.trans (hb1.mono hb.size); clear hb1
  clear hg0 hp2 h0
  go_upto_region 11 with (fail)
  have LG := heap_lt hg
  have LW := hb.size
  refine wp_world (fun W => W.heap[g]? = some (.cells (bcells v n) 4 (0, 0)) ∧ Hid (Lib.IsBuilder 116 5 w6.heap.size w6.heap.size [] W) ∧ w6.heap.size < W.heap.size ∧ Below w.heap.size w W) ⟨ha_old hg, Lib.hid (by have := Lib.fresh_isBuilder 116 5 w6; simpa using this), by simp, hb.alloc hb.size _⟩ ?_
  obtain ⟨p, hp⟩ : ∃ p, p = w6.heap.size := ⟨_, rfl⟩
  rw [← hp] at LG LW ⊢
  clear hg hb hp
  rintro W2 ⟨hg, HB, LP, hb⟩
  go_wp2_with fail
  go_loopw [13] (fun i wr => ∃ (k : Nat) (l : List UInt8), k ≤ n ∧ i = .int .i64 ((k : Int) - 1) ∧ Hid (l ++ btxt v k = btxt v n) ∧ l.length + k ≤ 64 ∧ wr.heap[g]? = some (.cells (bcells v n) 4 (0, 0)) ∧ Hid (Lib.IsBuilder 116 5 p p (Lib.byteCells l) wr) ∧ p < wr.heap.size ∧ Below w.heap.size w wr) (fun i _ => (intOf i + 1).toNat)
  case atStart => exact ⟨n, [], by omega, rfl, Lib.hid rfl, by simpa using n2, hg, HB, LP, hb⟩
  case round =>
    clear hg HB LP hb
    obtain ⟨k, l, hk, rfl, HT, hlk, hg, HB, LP, hb⟩ := hrel
    by_cases hc : 0 < k
    · obtain ⟨j, rfl⟩ : ∃ j, k = j + 1 := ⟨k - 1, by omega⟩
      have ej : ((j + 1 : Nat) : Int) - 1 = (j : Int) := by omega
      rw [ej]
      clear ej hc
      have ct : wr.cell? ⟨g, j, none⟩ = some (.bool (v.testBit j)) := by rw [cell_of_row _ _ _ _ _ _ hg]; exact bcells_get (by omega)
      have HC : Hid (bc v j = if v.testBit j then 49 else 48) := Lib.hid rfl
      cases hbit : v.testBit j
      · rw [hbit] at ct HC
        simp only [Bool.false_eq_true, if_false] at HC
        clear hbit
        go_wp2_with (go_at_call 92; refine (writeByte_any p p _ _ _ HB.out (by simp [Lib.byteCells_length]; omega) (by omega)).mono ?_)
        rintro e w2 ⟨rfl, hB1, hb1⟩
        rw [show Lib.byteCells l ++ [Value.int .u8 48] = Lib.byteCells (l ++ [48]) from bytes_snoc l 48] at hB1
        replace hg := below_cells hb1 (by omega) hg
        have LP2 := hb1.size
        replace hb := hb.trans (hb1.mono (by omega))
        clear HB
        have HB := Lib.hid (show Lib.IsBuilder 116 5 p p (Lib.byteCells (l ++ [48])) w2 from Or.inr hB1)
        clear hB1 hb1 ct
        go_wp2_with fail
        go_roundw
        case rel => exact ⟨j, l ++ [48], by omega, by go_num, Lib.hid (by rw [← HT.out, List.append_assoc]; simp [btxt, HC.out]), by simp; omega, hg, HB, by omega, hb⟩
        case measure => simp [intOf]
      · rw [hbit] at ct HC
        simp only [if_true] at HC
        clear hbit
        go_wp2_with (go_at_call 92; refine (writeByte_any p p _ _ _ HB.out (by simp [Lib.byteCells_length]; omega) (by omega)).mono ?_)
        rintro e w2 ⟨rfl, hB1, hb1⟩
        rw [show Lib.byteCells l ++ [Value.int .u8 49] = Lib.byteCells (l ++ [49]) from bytes_snoc l 49] at hB1
        replace hg := below_cells hb1 (by omega) hg
        have LP2 := hb1.size
        replace hb := hb.trans (hb1.mono (by omega))
        clear HB
        have HB := Lib.hid (show Lib.IsBuilder 116 5 p p (Lib.byteCells (l ++ [49])) w2 from Or.inr hB1)
        clear hB1 hb1 ct
        go_wp2_with fail
        go_roundw
        case rel => exact ⟨j, l ++ [49], by omega, by go_num, Lib.hid (by rw [← HT.out, List.append_assoc]; simp [btxt, HC.out]), by simp; omega, hg, HB, by omega, hb⟩
        case measure => simp [intOf]
    · obtain rfl : k = 0 := by omega
      go_wp2_with (go_at_call 93; refine (Try.Builder_String_any p p _ _ HB.out (by omega)).mono ?_)
      rintro e w2 ⟨rfl, hb1⟩
      go_wp2_with fail
      refine bodyPost_ret (results_tmp2 rfl _ _ _) rfl ⟨?_, hb.trans (hb1.mono (by omega))⟩
      have := HT.out
      simp only [btxt, List.append_nil] at this
      rw [this]
      rfl
theorem Bits_any (m : ByteArray) (n : Int) (s : Bool) (t : ByteArray) (er : Int) (h : Hid (bitsS m n s = (t, er))) (w : World) :
    Calls Try.prog 48 #[.string m, .int .i64 n, .bool s] w fun e w' => e = .returned (.tuple #[.string t, .int .i64 er]) ∧ Below w.heap.size w w' := by
  have h := h.out
  unfold bitsS at h
  cases hx : rdm m with
  | none =>
    rw [hx] at h
    simp only [Prod.mk.injEq] at h
    obtain ⟨rfl, rfl⟩ := h
    exact Bits_none m n s hx w
  | some x =>
    rw [hx] at h
    simp only at h
    by_cases hr : isRight n = true
    · rw [if_pos hr] at h
      by_cases hh : hasI n s x = true
      · rw [if_pos hh] at h
        simp only [Prod.mk.injEq] at h
        obtain ⟨rfl, rfl⟩ := h
        obtain ⟨k, rfl, k1, k2, k3⟩ := right_bits hr
        rw [k3]
        exact Bits_ok m k k1 k2 s x hx (Lib.hid hr) (Lib.hid hh) _ (Lib.hid (lowN_cast k x)) w
      · rw [if_neg hh] at h
        simp only [Prod.mk.injEq] at h
        obtain ⟨rfl, rfl⟩ := h
        exact Bits_range m n s x hx (Lib.hid hr) (Lib.hid (by simpa using hh)) w
    · rw [if_neg hr] at h
      simp only [Prod.mk.injEq] at h
      obtain ⟨rfl, rfl⟩ := h
      exact Bits_name m n s x hx (Lib.hid (by simpa using hr)) w
set_option maxHeartbeats 400000 in
theorem FromBits_no (d : List UInt8) (s : Bool) (hr : Hid (isRight (d.length : Int) = false)) (w : World) :
    Calls Try.prog 50 #[.string ⟨d.toArray⟩, .bool s] w fun e w' => e = .returned (.tuple #[.string ⟨#[]⟩, .int .i64 4]) ∧ Below w.heap.size w w' := by
  go_enter Try.func50, Try.ntmps50
  go_upto_region 2 with (fail)
  refine wp_world (fun W => W.heap[w.heap.size]? = some (.cells (wv d.length s) 68 (0, 0)) ∧ Below w.heap.size w W) ⟨ha_new rfl, (Below.refl _ _).alloc (Nat.le_refl _) _⟩ ?_
  rintro W ⟨h0, hb⟩
  apply wp_region_lit
  ((with_reducible apply wl_rowG); exact rfl; exact rfl; exact rowW h0)
  refine wl_ck rfl (fun K hK => ?_); go_simp; refine ⟨_, _, ⟨rfl, rfl⟩, hK _ _ ⟨_, right_any (d.length : Int) s false (Lib.hid hr.out.symm) _, ?_⟩⟩; clear hK K; rintro e w1 ⟨rfl, hb1⟩; refine ⟨_, rfl, ?_⟩; simp only [put_lit, List.set_cons_zero, List.set_cons_succ]
  replace h0 := below_look hb1 h0; replace hb := hb.trans (hb1.mono hb.size); clear hb1
  go_wp2_with fail
  exact bodyPost_ret (results_tmp2 rfl _ _ _) rfl ⟨rfl, hb⟩
set_option maxHeartbeats 2000000 in
theorem FromBits_yes (d : List UInt8) (s : Bool) (n1 : 1 ≤ d.length) (n2 : d.length ≤ 64) (hr : Hid (isRight (d.length : Int) = true)) (R : Ending) (HR0 : Hid (d.all okb = true → R = .returned (.tuple #[.string ⟨(txt (wrapW d.length s ((bvN d : Nat) : Int))).toArray⟩, .int .i64 0]))) (HR1 : Hid (d.all okb = false → R = .returned (.tuple #[.string ⟨#[]⟩, .int .i64 4]))) (w : World) :
    Calls Try.prog 50 #[.string ⟨d.toArray⟩, .bool s] w fun e w' => e = R ∧ Below w.heap.size w w' := by
  have HV := Lib.hid (bvN_lt d)
  have HBT := Lib.hid (bvN_bit d)
  obtain ⟨v, hv⟩ : ∃ v, v = bvN d := ⟨_, rfl⟩
  rw [← hv] at HV HBT HR0
  clear hv
  go_enter Try.func50, Try.ntmps50
  go_upto_region 2 with (fail)
  refine wp_world (fun W => W.heap[w.heap.size]? = some (.cells (wv d.length s) 68 (0, 0)) ∧ Below w.heap.size w W) ⟨ha_new rfl, (Below.refl _ _).alloc (Nat.le_refl _) _⟩ ?_
  rintro W ⟨h0, hb⟩
  apply wp_region_lit
  ((with_reducible apply wl_rowG); exact rfl; exact rfl; exact rowW h0)
  refine wl_ck rfl (fun K hK => ?_); go_simp; refine ⟨_, _, ⟨rfl, rfl⟩, hK _ _ ⟨_, right_any (d.length : Int) s true (Lib.hid hr.out.symm) _, ?_⟩⟩; clear hK K; rintro e w1 ⟨rfl, hb1⟩; refine ⟨_, rfl, ?_⟩; simp only [put_lit, List.set_cons_zero, List.set_cons_succ]
  replace h0 := below_look hb1 h0; replace hb := hb.trans (hb1.mono hb.size); clear hb1
  go_upto_region 4 with (fail)
  apply wp_region_lit
  refine wl_k rfl (fun K hK => ?_); go_simp; refine hK _ ?_; clear hK K
  refine wl_k rfl (fun K hK => ?_); go_simp; refine hK _ ?_; clear hK K
  refine wl_w rfl (ex_mk111 _ rfl d.length rfl rfl (by omega)) ?_
  simp only [put_lit, List.set_cons_zero, List.set_cons_succ]
  refine wl_world (fun W2 => W2.heap[w.heap.size]? = some (.cells (wv d.length s) 68 (0, 0)) ∧ W2.heap[w1.heap.size]? = some (.cells (bcells 0 d.length) 4 (0, 0)) ∧ Below w.heap.size w W2) ⟨ha_old h0, ha_new rfl, hb.alloc hb.size _⟩ ?_
  have L1 := heap_lt h0
  obtain ⟨g, hg⟩ : ∃ g, g = w1.heap.size := ⟨_, rfl⟩
  rw [← hg] at L1 ⊢
  clear h0 hb hg
  rintro W2 ⟨h0, hg, hb⟩
  go_wp2_with fail
  go_loopw [22] (fun i wr => ∃ k : Nat, k ≤ d.length ∧ i = .int .i64 (k : Int) ∧ Hid (∀ j, j < k → okb (d.reverse.getD j 48) = true) ∧ wr.heap[w.heap.size]? = some (.cells (wv d.length s) 68 (0, 0)) ∧ wr.heap[g]? = some (.cells (bcells (v % 2 ^ k) d.length) 4 (0, 0)) ∧ Below w.heap.size w wr) (fun i _ => (d.length - intOf i).toNat)
  case atStart => exact ⟨0, by omega, rfl, Lib.hid (fun j hj => absurd hj (by omega)), h0, by rw [Nat.pow_zero, Nat.mod_one]; exact hg, hb⟩
  case round =>
    clear h0 hg hb
    obtain ⟨k, hk, rfl, HO, h0, hg, hb⟩ := hrel
    by_cases hlt : k < d.length
    · obtain ⟨j, hj⟩ : ∃ j, d.length = j + 1 + k := ⟨d.length - 1 - k, by omega⟩
      have hjl : j < d.length := by omega
      have hjs : j < d.toArray.size := by simpa using hjl
      obtain ⟨c, hcc⟩ : ∃ c, c = d[j] := ⟨_, rfl⟩
      have hrc : d.reverse.getD k 48 = c := by
        rw [List.getD_eq_getElem?_getD, List.getElem?_reverse (by omega), show d.length - 1 - k = j by omega, List.getElem?_eq_getElem hjl, hcc]; rfl
      have ej : (d.length : Int) - 1 - (k : Int) = (j : Int) := by omega
      have HJ := Lib.hid hj
      have HBK := Lib.hid (HBT.out k hlt)
      rw [hrc] at HBK
      clear hj
      obtain ⟨bo, hbo⟩ : ∃ bo, bo = (v % 2 ^ k).testBit k := ⟨_, rfl⟩
      have cg : wr.cell? ⟨g, k, none⟩ = some (.bool bo) := by rw [cell_of_row _ _ _ _ _ _ hg, hbo]; exact bcells_get hlt
      have fg : wr.frozen? ⟨g, k, none⟩ = false := frozen_of_row _ _ _ _ _ hg
      clear hbo
      go_upto_region 9 with (fail)
      rw [show ((ByteArray.mk d.toArray)[j]'hjs) = c from hcc.symm]
      have hcl : c.toNat < 256 := UInt8.toNat_lt c
      have HRC := Lib.hid hrc
      clear hcc ej hjl hjs hrc
      by_cases c0 : c = 48
      · subst c0
        have HBK2 := Lib.hid (show v.testBit k = false from HBK.out)
        clear HBK
        have H0 := Lib.hid h0
        have H1 := Lib.hid hg
        have HB := Lib.hid hb
        clear h0 hg hb
        go_wp2_with fail
        go_roundw
        case rel =>
          refine ⟨k + 1, by omega, by go_num, Lib.hid ?_, hs_old H0.out (by simp; omega), (hs_new H1.out).trans (by rw [← bcells_step hlt, HBK2.out]), HB.out.setCell (by simp; omega) _⟩
          intro i hi
          rcases Nat.lt_or_ge i k with h | h
          · exact HO.out i h
          · obtain rfl : i = k := by omega
            rw [HRC.out]
            rfl
        case measure => simp [intOf]; omega
      · by_cases c1 : c = 49
        · subst c1
          have HBK2 := Lib.hid (show v.testBit k = true from HBK.out)
          clear HBK c0
          have H0 := Lib.hid h0
          have H1 := Lib.hid hg
          have HB := Lib.hid hb
          clear h0 hg hb
          go_wp2_with fail
          go_roundw
          case rel =>
            refine ⟨k + 1, by omega, by go_num, Lib.hid ?_, hs_old H0.out (by simp; omega), (hs_new H1.out).trans (by rw [← bcells_step hlt, HBK2.out]), HB.out.setCell (by simp; omega) _⟩
            intro i hi
            rcases Nat.lt_or_ge i k with h | h
            · exact HO.out i h
            · obtain rfl : i = k := by omega
              rw [HRC.out]
              rfl
          case measure => simp [intOf]; omega
        · have hbad : d.all okb = false := by
            rw [List.all_eq_false]
            refine ⟨c, ?_, ?_⟩
            · have h1 := HRC.out
              rw [List.getD_eq_getElem?_getD, List.getElem?_eq_getElem (by simpa using hlt)] at h1
              rw [← List.mem_reverse, ← h1]
              exact List.getElem_mem _
            · unfold okb
              simp [c0, c1]
          have HBAD := Lib.hid (HR1.out hbad)
          have q0 : ((c.toNat : Int) != 48) = true := by rw [bne_iff_ne]; exact fun e => c0 (UInt8.toNat_inj.1 (by show c.toNat = 48; omega))
          have q1 : ((c.toNat : Int) != 49) = true := by rw [bne_iff_ne]; exact fun e => c1 (UInt8.toNat_inj.1 (by show c.toNat = 49; omega))
          clear hbad c0 c1 cg fg
          go_wp2_with fail
          exact bodyPost_ret (results_tmp2 rfl _ _ _) rfl ⟨by rw [HBAD.out]; rfl, hb⟩
    · obtain rfl : k = d.length := by omega
      have hall : d.all okb = true := by
        rw [List.all_eq_true]
        intro c hc
        obtain ⟨i, hi, rfl⟩ := List.mem_iff_getElem.1 (List.mem_reverse.2 hc)
        have := HO.out i (by simpa using hi)
        rw [List.getD_eq_getElem?_getD, List.getElem?_eq_getElem hi] at this
        exact this
      have HR := Lib.hid (HR0.out hall)
      rw [bcells_full HV.out] at hg
      go_upto_region 13 with (fail)
      apply wp_region_lit
      ((with_reducible apply wl_rowG); exact rfl; exact rfl; exact rowW h0)
      refine wl_k rfl (fun K hK => ?_); go_simp; refine hK _ ?_; clear hK K
      refine wl_ck rfl (fun K hK => ?_); go_simp; refine ⟨_, _, ⟨rfl, rfl⟩, hK _ _ ⟨_, value_any d.length s n1 n2 v HV.out g _ hg, ?_⟩⟩; clear hK K; rintro e w5 ⟨rfl, hb1⟩; refine ⟨_, rfl, ?_⟩; simp only [put_lit, List.set_cons_zero, List.set_cons_succ]
      replace hb := hb.trans (hb1.mono hb.size); clear hb1
      refine wl_ck rfl (fun K hK => ?_); go_simp; refine ⟨_, _, ⟨rfl, rfl⟩, hK _ _ ⟨_, text_any _ (by have := has_bd n1 n2 (wrap_has n1 s (v : Int)); exact small64 (by omega)) _, ?_⟩⟩; clear hK K; rintro e w6 ⟨rfl, hb1⟩; refine ⟨_, rfl, ?_⟩; simp only [put_lit, List.set_cons_zero, List.set_cons_succ]
      replace hb := hb.trans (hb1.mono hb.size); clear hb1
      go_wp2_with fail
      exact bodyPost_ret (results_tmp2 rfl _ _ _) rfl ⟨by rw [HR.out]; rfl, hb⟩
theorem FromBits_any (b : ByteArray) (s : Bool) (t : ByteArray) (er : Int) (h : Hid (fromS b.data.toList s = (t, er))) (w : World) :
    Calls Try.prog 50 #[.string b, .bool s] w fun e w' => e = .returned (.tuple #[.string t, .int .i64 er]) ∧ Below w.heap.size w w' := by
  have h := h.out
  unfold fromS at h
  rw [show b = ⟨b.data.toList.toArray⟩ by cases b; simp]
  generalize b.data.toList = d at h
  by_cases hr : isRight (d.length : Int) = true
  · obtain ⟨n, hn, n1, n2, n3⟩ := right_bits hr
    refine FromBits_yes d s (by omega) (by omega) (Lib.hid hr) _ (Lib.hid fun ha => ?_) (Lib.hid fun ha => ?_) w
    · rw [if_pos ⟨hr, ha⟩] at h
      simp only [Prod.mk.injEq] at h
      obtain ⟨rfl, rfl⟩ := h
      rfl
    · rw [if_neg (fun h => by rw [ha] at h; exact absurd h.2 (by decide))] at h
      simp only [Prod.mk.injEq] at h
      obtain ⟨rfl, rfl⟩ := h
      rfl
  · rw [if_neg (fun h => hr h.1)] at h
    simp only [Prod.mk.injEq] at h
    obtain ⟨rfl, rfl⟩ := h
    exact FromBits_no d s (Lib.hid (by simpa using hr)) w
theorem low_wrap {n : Nat} (h1 : 1 ≤ n) {s : Bool} {x : Int} (hx : hasW n s x = true) : wrapW n s ((lowN n x : Nat) : Int) = x := by
  rw [lowN_cast]
  obtain ⟨k, hk⟩ : ∃ k : Int, x % ((2 ^ n : Nat) : Int) = x + k * ((2 ^ n : Nat) : Int) := ⟨-(x / ((2 ^ n : Nat) : Int)), by
    have := Int.emod_add_mul_ediv x ((2 ^ n : Nat) : Int)
    rw [Int.neg_mul, Int.mul_comm]; omega⟩
  rw [wrap_to k hk, wrap_of_has h1 hx]
theorem back {m : ByteArray} {n : Int} {s : Bool} {t : ByteArray} (h : bitsS m n s = (t, 0)) : fromS t.data.toList s = (m, 0) ∧ (t.size : Int) = n := by
  unfold bitsS at h
  cases hx : rdm m with
  | none => rw [hx] at h; exact absurd (congrArg Prod.snd h) (by simp)
  | some x =>
    rw [hx] at h
    simp only at h
    by_cases hr : isRight n = true
    · rw [if_pos hr] at h
      by_cases hh : hasI n s x = true
      · rw [if_pos hh] at h
        have ht := (congrArg Prod.fst h).symm
        obtain ⟨k, rfl, k1, k2, k3⟩ := right_bits hr
        have hw : hasW k s x = true := by unfold hasI at hh; rwa [k3] at hh
        rw [k3] at ht
        subst ht
        refine ⟨?_, by show ((btxt (lowN k x) k).toArray.size : Int) = _; simp [btxt_length]⟩
        show fromS (btxt (lowN k x) k).toArray.toList s = _
        rw [List.toList_toArray]
        unfold fromS
        rw [btxt_length, if_pos ⟨hr, btxt_ok _ _⟩, bvN_btxt, Nat.mod_eq_of_lt (lowN_lt k x), low_wrap k1 hw, txt_rd (s := m.data.toList) hx]
      · rw [if_neg hh] at h; exact absurd (congrArg Prod.snd h) (by simp)
    · rw [if_neg hr] at h; exact absurd (congrArg Prod.snd h) (by simp)
end Go.Proofs.Ytclainfdeghgnaa

namespace Go.Proofs.Ytclainfdeghgnaa
open Go.RowKit Go.Proofs.Ytclainfdeghgnaa.Nm Go.Proofs.Ytclainfdeghgnaa.Lm
/-- bits as cells -/
def brow (v n : Nat) : List Value := (List.range n).map fun i => .int .u32 ((bt v i : Nat) : Int)
theorem brow_succ (v n : Nat) : brow v n ++ [.int .u32 ((bt v n : Nat) : Int)] = brow v (n + 1) := by unfold brow; rw [List.range_succ]; simp
theorem brow_get {v n i : Nat} (h : i < n) : (brow v n)[i]? = some (.int .u32 ((bt v i : Nat) : Int)) := by unfold brow; simp [h]
/-- One more element behind a row of the call's own. -/
theorem wl_pushG {ops : Array Oper} {rest : List Oper} {a : Act} {w w0 : World} {Q : Exit → Act → World → Prop} {d1 d2 : Option Tmp} {ty1 ty2 : TypeId} {p1 p2 : String} {f1 f2 : Array Edge} {x s t : Operand} {v : Value} {k : Nat} {z : Int} {xs ys : List Value}
    (hx : a.eval x = .int .u32 z) (hown : w.ownsRow w0.heap.size 121 1 v k xs) (hb : Below w0.heap.size w0 w) (hk : k ≤ 4000) (hy : xs ++ [.int .u32 z] = ys) (hs : ∀ u, (a.put d1 u).eval s = v) (ht : ∀ u, (a.put d1 u).eval t = u)
    (h : ∀ v' w', w'.ownsRow w0.heap.size 121 1 v' (k + 1) ys → Below w0.heap.size w0 w' → wpList Try.prog ops Q rest ((a.put d1 (.slice (some ⟨w.heap.size, 0, none⟩) 1 1)).put d2 v') w') :
    wpList Try.prog ops Q (⟨d1, .buildSlice 82 1 #[(0, x)], ty1, p1, f1, none⟩ :: ⟨d2, .call { callee := .builtin .append, args := #[s, t], argTypes := #[82, 82] }, ty2, p2, f2, none⟩ :: rest) a w := by
  obtain ⟨i0, hi, hz0, hz1, hz2⟩ := info_parts info121
  refine wl_w rfl (ex_bs82 _ rfl hx) ?_
  refine wpList_append_own _ rfl s t 82 rfl w0.heap.size 121 i0 _ 1 4 u82 hi hz0 hz1 hz2 rfl (by decide) v k xs (hs _) (hown.alloc _) ⟨w.heap.size, 0, none⟩ 1 1 [.int .u32 z] (ht _) rfl ?_ ?_ ?_ ?_ ?_ ?_
  · intro j u hj
    rw [show (Addr.add ⟨w.heap.size, 0, none⟩ j) = ⟨w.heap.size, j, none⟩ by simp [Addr.add]; exact fun h => h.symm, cell_of_row _ _ _ _ _ _ (ha_new rfl)]
    simpa using hj
  · intro u hu
    simp at hu; subst hu; rfl
  · unfold maxLen; omega
  · omega
  · have := hb.size; simp; omega
  · intro v' w4 hown' hgrow _
    rw [hy] at hown'
    exact h v' w4 hown' ((hb.alloc hb.size _).grown hgrow (by have := hb.size; simp; omega) (fun k hk => (hown.lt k hk).1))
theorem own_low {w : World} {b b' n : Nat} {e : TypeId} {size : Nat} {v : Value} {xs : List Value} (h : w.ownsRow b e size v n xs) (hb : b' ≤ b) : w.ownsRow b' e size v n xs := by
  refine ⟨h.1, ?_⟩
  rcases h.2 with h0 | ⟨g, cap, cur, hv, hB, hr⟩
  · exact Or.inl h0
  · exact Or.inr ⟨g, cap, cur, hv, Nat.le_trans hb hB, hr⟩
set_option maxHeartbeats 4000000 in
set_option maxRecDepth 100000 in
theorem PatI_any (x : Int) (A : Option Addr) (c n : Nat) (h1 : 1 ≤ n) (h2 : n ≤ 64) (w : World) (hI : IvAt w x A c) (nz : nl x.natAbs ≤ 390) (v : Nat) (hv : (v : Int) = x % ((2 ^ n : Nat) : Int)) :
    Calls Try.prog 94 #[.agg (iv x A c), .int .i64 (n : Int)] w fun e w' => ∃ sv, e = .returned sv ∧ w'.ownsRow w.heap.size 121 1 sv n (brow v n) ∧ Below w.heap.size w w' := by
  have HX := Lib.hid hI
  have HV : Hid ((v : Int) = x % t2 (n : Int)) := Lib.hid hv
  have NV : Hid (nl v ≤ 3) := Lib.hid (by
    have e2 := Int.emod_lt_of_pos x (t2_pos n)
    rw [← HV.out] at e2
    have e3 := nl_t2 (x := (n : Int)) (by omega)
    exact Nat.le_trans (nl_mono (by omega)) e3)
  clear hI hv
  go_enter Try.func94, Try.ntmps94
  go_upto_region 1 with (fail)
  refine wp_world (fun W => W.heap[w.heap.size]? = some (.cells (iv x A c) 84 (0, 0)) ∧ Below w.heap.size w W) ⟨ha_new rfl, (Below.refl _ _).alloc (Nat.le_refl _) _⟩ ?_
  rintro W ⟨h0, hb⟩
  have ix := HX.out.below hb
  have L0 := heap_lt h0
  have L4 := hb.size
  rename_i K hK
  have tail : ∀ (p5 p6 : Nat) (A6 : Option Addr) (c6 : Nat) (t3 t7 t8 t9 t10 t11 t12 t13 t14 t15 t16 t17 t18 t19 t20 t21 t22 t23 t24 t25 t26 t27 t28 : Value) (wz : World), w.heap.size ≤ p6 → wz.heap[p6]? = some (.cells (iv (v : Int) A6 c6) 84 (0, 0)) → IvAt wz (v : Int) A6 c6 → Below w.heap.size w wz →
      K ⟨#[.agg (iv x A c), .int .i64 (n : Int), .pointer (some ⟨w.heap.size, 0, none⟩), t3, .slice none 0 0, .pointer (some ⟨p5, 0, none⟩), .pointer (some ⟨p6, 0, none⟩), t7, t8, t9, t10, t11, t12, t13, t14, t15, t16, t17, t18, t19, t20, t21, t22, t23, t24, t25, t26, t27, t28], []⟩ wz := by
    intro p5 p6 A6 c6 t3 t7 t8 t9 t10 t11 t12 t13 t14 t15 t16 t17 t18 t19 t20 t21 t22 t23 t24 t25 t26 t27 t28 wz g1 hp6 j3 kb
    apply hK
    clear hK L0 L4 h0 ix hb
    have hb := kb
    clear kb
    go_wp2_with fail
    have LV := Lib.hid (nl_spec v)
    go_loopw [7, 8] (fun sv i wr => ∃ k : Nat, k ≤ n ∧ i = .int .i64 (k : Int) ∧ wr.ownsRow wz.heap.size 121 1 sv k (brow v k) ∧ Below wz.heap.size wz wr) (fun _ i _ => (n - intOf i).toNat)
    case atStart => exact ⟨0, by omega, rfl, ⟨rfl, Or.inl ⟨rfl, rfl⟩⟩, Below.refl _ _⟩
    case round =>
      obtain ⟨k, hk, rfl, hown, hbl⟩ := hrel
      have HO := Lib.hid hown
      have HBL := Lib.hid hbl
      have hq6 := iv1 (below_look hbl hp6)
      have HJ := Lib.hid (j3.below hbl)
      clear hown hbl
      by_cases hlt : k < n
      · go_upto_region 6 with (fail)
        apply wp_region_lit
        refine wl_k rfl (fun K hK => ?_); go_simp; refine hK _ ?_; clear hK K
        refine wl_k rfl (fun K hK => ?_); go_simp; refine hK _ ?_; clear hK K
        ((with_reducible apply wl_oneG); exact rfl; exact rfl; exact one82 hq6)
        refine wl_k rfl (fun K hK => ?_); go_simp; refine hK _ ?_; clear hK K
        refine wl_ck rfl (fun K hK => ?_); go_simp; refine ⟨_, _, ⟨rfl, rfl⟩, hK _ _ ⟨_, bit_any A6 (nl (v : Int).natAbs) c6 (v : Int).natAbs k _ HJ.out.2 (nl_spec _) (by have := NV.out; rw [Int.natAbs_natCast]; omega) (by omega), ?_⟩⟩; clear hK K; rintro e wb ⟨rfl, rfl⟩; refine ⟨_, rfl, ?_⟩; simp only [put_lit, List.set_cons_zero, List.set_cons_succ]
        refine wl_pushG (z := ((bt v k : Nat) : Int)) (k := k) (by rw [Int.natAbs_natCast]; rfl) HO.out HBL.out (by omega) (brow_succ v k) (fun _ => rfl) (fun _ => rfl) ?_
        intro v' w2 hown2 hb2
        clear HO HBL
        have HO := Lib.hid hown2
        have HBL := Lib.hid hb2
        clear hown2 hb2
        simp only [put_lit, List.set_cons_zero, List.set_cons_succ]
        go_wp2_with fail
        go_roundw
        case rel => exact ⟨k + 1, by omega, by go_num, HO.out, HBL.out⟩
        case measure => simp [intOf]; omega
      · obtain rfl : k = n := by omega
        go_wp2_with fail
        go_ret
        exact ⟨_, rfl, own_low HO.out hb.size, hb.trans (HBL.out.mono hb.size)⟩
  clear hK
  replace ix := ix.below (Below.refl _ _).drew
  replace hb := hb.drew
  refine wp_region_held_drew (S := Kept [] W) mixed (Kept.drew [] W) (fun hS => ?_)
  refine ha_val (i := 0) rfl (by kernel_rfl) (by kernel_rfl) (by kernel_rfl) (fun _ _ _ h => h) hS rfl (fun w' hw' => ex_row rfl (rowIv (hw'.look h0 (by simp <;> omega)))) ?_
  refine ha_k (i := 1) rfl (by kernel_rfl) (by kernel_rfl) (by kernel_rfl) (fun _ _ _ _ h => h) hS rfl (fun K hK => ?_); go_simp; refine hK _ ?_; clear hK K; try simp only [put_lit, List.set_cons_zero, List.set_cons_succ]
  refine ha_three (i := 2) (j := 7) (k := 8) (by kernel_rfl) ?_ ?_ ?_
  · refine sh_call (i := 2) rfl rfl (fun K hK => ?_); go_simp; refine ⟨_, _, ⟨rfl, rfl⟩, hK _ _ ⟨_, PowerT_any (n : Int) (by omega) (by omega) _, ?_⟩⟩; clear hK K; rintro e w20 ⟨B1, d1, rfl, j1, hb1⟩; refine ⟨_, rfl, hS.below hb1, ?_⟩; replace hS := hS.below hb1; replace h0 := below_look hb1 h0; replace ix := ix.below hb1; replace hb := hb.trans (hb1.mono hb.size); clear hb1; try simp only [put_lit, List.set_cons_zero, List.set_cons_succ]
    refine ha_three (i := 3) (j := 7) (k := 8) (by kernel_rfl) ?_ ?_ ?_
    · refine sh_call (i := 3) rfl rfl (fun K hK => ?_); go_simp; refine ⟨_, _, ⟨rfl, rfl⟩, hK _ _ ⟨_, FloorI_any x (t2 (n : Int)) _ _ _ _ _ ix j1 (by omega) (by have := nl_t2 (x := (n : Int)) (by omega); omega) (t2_pos n), ?_⟩⟩; clear hK K; rintro e w21 ⟨B2, d2, B3, d3, rfl, j2, j3, hb1⟩; refine ⟨_, rfl, hS.below hb1, ?_⟩; replace hS := hS.below hb1; replace h0 := below_look hb1 h0; replace ix := ix.below hb1; replace hb := hb.trans (hb1.mono hb.size); clear hb1; rw [← HV.out] at j3 ⊢; try simp only [put_lit, List.set_cons_zero, List.set_cons_succ]
      refine ha_k (i := 4) rfl (by kernel_rfl) (by kernel_rfl) (by kernel_rfl) (fun _ _ _ _ h => h) hS rfl (fun K hK => ?_); go_simp; refine hK _ ?_; clear hK K; try simp only [put_lit, List.set_cons_zero, List.set_cons_succ]
      refine ha_k (i := 5) rfl (by kernel_rfl) (by kernel_rfl) (by kernel_rfl) (fun _ _ _ _ h => h) hS rfl (fun K hK => ?_); go_simp; refine hK _ ?_; clear hK K; try simp only [put_lit, List.set_cons_zero, List.set_cons_succ]
      refine ha_k (i := 6) rfl (by kernel_rfl) (by kernel_rfl) (by kernel_rfl) (fun _ _ _ _ h => h) hS rfl (fun K hK => ?_); go_simp; refine hK _ ?_; clear hK K; try simp only [put_lit, List.set_cons_zero, List.set_cons_succ]
      refine ha_two (i := 7) (j := 8) (by kernel_rfl) ?_ ?_
      · refine sh_mk (i := 7) rfl rfl (fun ev w' => ex_alloc84i rfl ev w') hS (fun w22 p5 hb1 hLp5 hlp5 hp5 hS => ?_); replace h0 := below_look hb1 h0; replace ix := ix.below hb1; replace j2 := j2.below hb1; replace j3 := j3.below hb1; replace hb := hb.trans (hb1.mono hb.size); clear hb1; try simp only [put_lit, List.set_cons_zero, List.set_cons_succ]
        have ltp5p6 := heap_lt hp5
        refine ha_mk (i := 8) (by kernel_rfl) rfl rfl (fun ev w' => ex_alloc84i rfl ev w') hS (fun w23 p6 hb1 hLp6 hlp6 hp6 hS => ?_); replace h0 := below_look hb1 h0; replace hp5 := below_look hb1 hp5; replace ix := ix.below hb1; replace j2 := j2.below hb1; replace j3 := j3.below hb1; replace hb := hb.trans (hb1.mono hb.size); clear hb1; try simp only [put_lit, List.set_cons_zero, List.set_cons_succ]
        refine ha_store (i := 9) (by kernel_rfl) rfl rfl 84 _ _ rfl _ (iv (x / t2 (n : Int)) B2 d2) rfl rfl 84 _ hp5 info84 rfl (iv_one _ _ _) (hS.setNew (by omega) _) (fun hS => ?_); try simp only [put_lit, List.set_cons_zero, List.set_cons_succ]
        replace hb := below_setRow hb (g := p5) (by omega) (iv (x / t2 (n : Int)) B2 d2); replace h0 := hr_old (g := p5) (cs := iv (x / t2 (n : Int)) B2 d2) h0 (by omega); replace hp6 := hr_old (g := p5) (cs := iv (x / t2 (n : Int)) B2 d2) hp6 (by omega); replace ix := ix.put hp5 (iv (x / t2 (n : Int)) B2 d2); replace j2 := j2.put hp5 (iv (x / t2 (n : Int)) B2 d2); replace j3 := j3.put hp5 (iv (x / t2 (n : Int)) B2 d2); replace hp5 := hr_new (cs := iv (x / t2 (n : Int)) B2 d2) hp5
        refine ha_store (i := 10) (by kernel_rfl) rfl rfl 84 _ _ rfl _ (iv (v : Int) B3 d3) rfl rfl 84 _ hp6 info84 rfl (iv_one _ _ _) (hS.setNew (by omega) _) (fun hS => ?_); try simp only [put_lit, List.set_cons_zero, List.set_cons_succ]
        refine wpAnyH_done (by kernel_rfl) ?_ _
        replace hb := below_setRow hb (g := p6) (by omega) (iv (v : Int) B3 d3); replace h0 := hr_old (g := p6) (cs := iv (v : Int) B3 d3) h0 (by omega); replace hp5 := hr_old (g := p6) (cs := iv (v : Int) B3 d3) hp5 (by omega); replace ix := ix.put hp6 (iv (v : Int) B3 d3); replace j2 := j2.put hp6 (iv (v : Int) B3 d3); replace j3 := j3.put hp6 (iv (v : Int) B3 d3); replace hp6 := hr_new (cs := iv (v : Int) B3 d3) hp6
        exact tail p5 p6 _ _ _ _ _ _ _ _ _ _ _ _ _ _ _ _ _ _ _ _ _ _ _ _ _ _ (by omega) hp6 j3 hb
      · refine sh_mk (i := 8) rfl rfl (fun ev w' => ex_alloc84i rfl ev w') hS (fun w22 p6 hb1 hLp6 hlp6 hp6 hS => ?_); replace h0 := below_look hb1 h0; replace ix := ix.below hb1; replace j2 := j2.below hb1; replace j3 := j3.below hb1; replace hb := hb.trans (hb1.mono hb.size); clear hb1; try simp only [put_lit, List.set_cons_zero, List.set_cons_succ]
        have ltp6p5 := heap_lt hp6
        refine ha_mk (i := 7) (by kernel_rfl) rfl rfl (fun ev w' => ex_alloc84i rfl ev w') hS (fun w23 p5 hb1 hLp5 hlp5 hp5 hS => ?_); replace h0 := below_look hb1 h0; replace hp6 := below_look hb1 hp6; replace ix := ix.below hb1; replace j2 := j2.below hb1; replace j3 := j3.below hb1; replace hb := hb.trans (hb1.mono hb.size); clear hb1; try simp only [put_lit, List.set_cons_zero, List.set_cons_succ]
        refine ha_store (i := 9) (by kernel_rfl) rfl rfl 84 _ _ rfl _ (iv (x / t2 (n : Int)) B2 d2) rfl rfl 84 _ hp5 info84 rfl (iv_one _ _ _) (hS.setNew (by omega) _) (fun hS => ?_); try simp only [put_lit, List.set_cons_zero, List.set_cons_succ]
        replace hb := below_setRow hb (g := p5) (by omega) (iv (x / t2 (n : Int)) B2 d2); replace h0 := hr_old (g := p5) (cs := iv (x / t2 (n : Int)) B2 d2) h0 (by omega); replace hp6 := hr_old (g := p5) (cs := iv (x / t2 (n : Int)) B2 d2) hp6 (by omega); replace ix := ix.put hp5 (iv (x / t2 (n : Int)) B2 d2); replace j2 := j2.put hp5 (iv (x / t2 (n : Int)) B2 d2); replace j3 := j3.put hp5 (iv (x / t2 (n : Int)) B2 d2); replace hp5 := hr_new (cs := iv (x / t2 (n : Int)) B2 d2) hp5
        refine ha_store (i := 10) (by kernel_rfl) rfl rfl 84 _ _ rfl _ (iv (v : Int) B3 d3) rfl rfl 84 _ hp6 info84 rfl (iv_one _ _ _) (hS.setNew (by omega) _) (fun hS => ?_); try simp only [put_lit, List.set_cons_zero, List.set_cons_succ]
        refine wpAnyH_done (by kernel_rfl) ?_ _
        replace hb := below_setRow hb (g := p6) (by omega) (iv (v : Int) B3 d3); replace h0 := hr_old (g := p6) (cs := iv (v : Int) B3 d3) h0 (by omega); replace hp5 := hr_old (g := p6) (cs := iv (v : Int) B3 d3) hp5 (by omega); replace ix := ix.put hp6 (iv (v : Int) B3 d3); replace j2 := j2.put hp6 (iv (v : Int) B3 d3); replace j3 := j3.put hp6 (iv (v : Int) B3 d3); replace hp6 := hr_new (cs := iv (v : Int) B3 d3) hp6
        exact tail p5 p6 _ _ _ _ _ _ _ _ _ _ _ _ _ _ _ _ _ _ _ _ _ _ _ _ _ _ (by omega) hp6 j3 hb
    · refine sh_mk (i := 7) rfl rfl (fun ev w' => ex_alloc84i rfl ev w') hS (fun w21 p5 hb1 hLp5 hlp5 hp5 hS => ?_); replace h0 := below_look hb1 h0; replace ix := ix.below hb1; replace j1 := j1.below hb1; replace hb := hb.trans (hb1.mono hb.size); clear hb1; try simp only [put_lit, List.set_cons_zero, List.set_cons_succ]
      refine ha_two (i := 3) (j := 8) (by kernel_rfl) ?_ ?_
      · refine sh_call (i := 3) rfl rfl (fun K hK => ?_); go_simp; refine ⟨_, _, ⟨rfl, rfl⟩, hK _ _ ⟨_, FloorI_any x (t2 (n : Int)) _ _ _ _ _ ix j1 (by omega) (by have := nl_t2 (x := (n : Int)) (by omega); omega) (t2_pos n), ?_⟩⟩; clear hK K; rintro e w22 ⟨B2, d2, B3, d3, rfl, j2, j3, hb1⟩; refine ⟨_, rfl, hS.below hb1, ?_⟩; replace hS := hS.below hb1; replace h0 := below_look hb1 h0; replace hp5 := below_look hb1 hp5; replace ix := ix.below hb1; replace hb := hb.trans (hb1.mono hb.size); clear hb1; rw [← HV.out] at j3 ⊢; try simp only [put_lit, List.set_cons_zero, List.set_cons_succ]
        refine ha_k (i := 4) rfl (by kernel_rfl) (by kernel_rfl) (by kernel_rfl) (fun _ _ _ _ h => h) hS rfl (fun K hK => ?_); go_simp; refine hK _ ?_; clear hK K; try simp only [put_lit, List.set_cons_zero, List.set_cons_succ]
        refine ha_k (i := 5) rfl (by kernel_rfl) (by kernel_rfl) (by kernel_rfl) (fun _ _ _ _ h => h) hS rfl (fun K hK => ?_); go_simp; refine hK _ ?_; clear hK K; try simp only [put_lit, List.set_cons_zero, List.set_cons_succ]
        refine ha_k (i := 6) rfl (by kernel_rfl) (by kernel_rfl) (by kernel_rfl) (fun _ _ _ _ h => h) hS rfl (fun K hK => ?_); go_simp; refine hK _ ?_; clear hK K; try simp only [put_lit, List.set_cons_zero, List.set_cons_succ]
        have ltp5p6 := heap_lt hp5
        refine ha_mk (i := 8) (by kernel_rfl) rfl rfl (fun ev w' => ex_alloc84i rfl ev w') hS (fun w23 p6 hb1 hLp6 hlp6 hp6 hS => ?_); replace h0 := below_look hb1 h0; replace hp5 := below_look hb1 hp5; replace ix := ix.below hb1; replace j2 := j2.below hb1; replace j3 := j3.below hb1; replace hb := hb.trans (hb1.mono hb.size); clear hb1; try simp only [put_lit, List.set_cons_zero, List.set_cons_succ]
        refine ha_store (i := 9) (by kernel_rfl) rfl rfl 84 _ _ rfl _ (iv (x / t2 (n : Int)) B2 d2) rfl rfl 84 _ hp5 info84 rfl (iv_one _ _ _) (hS.setNew (by omega) _) (fun hS => ?_); try simp only [put_lit, List.set_cons_zero, List.set_cons_succ]
        replace hb := below_setRow hb (g := p5) (by omega) (iv (x / t2 (n : Int)) B2 d2); replace h0 := hr_old (g := p5) (cs := iv (x / t2 (n : Int)) B2 d2) h0 (by omega); replace hp6 := hr_old (g := p5) (cs := iv (x / t2 (n : Int)) B2 d2) hp6 (by omega); replace ix := ix.put hp5 (iv (x / t2 (n : Int)) B2 d2); replace j2 := j2.put hp5 (iv (x / t2 (n : Int)) B2 d2); replace j3 := j3.put hp5 (iv (x / t2 (n : Int)) B2 d2); replace hp5 := hr_new (cs := iv (x / t2 (n : Int)) B2 d2) hp5
        refine ha_store (i := 10) (by kernel_rfl) rfl rfl 84 _ _ rfl _ (iv (v : Int) B3 d3) rfl rfl 84 _ hp6 info84 rfl (iv_one _ _ _) (hS.setNew (by omega) _) (fun hS => ?_); try simp only [put_lit, List.set_cons_zero, List.set_cons_succ]
        refine wpAnyH_done (by kernel_rfl) ?_ _
        replace hb := below_setRow hb (g := p6) (by omega) (iv (v : Int) B3 d3); replace h0 := hr_old (g := p6) (cs := iv (v : Int) B3 d3) h0 (by omega); replace hp5 := hr_old (g := p6) (cs := iv (v : Int) B3 d3) hp5 (by omega); replace ix := ix.put hp6 (iv (v : Int) B3 d3); replace j2 := j2.put hp6 (iv (v : Int) B3 d3); replace j3 := j3.put hp6 (iv (v : Int) B3 d3); replace hp6 := hr_new (cs := iv (v : Int) B3 d3) hp6
        exact tail p5 p6 _ _ _ _ _ _ _ _ _ _ _ _ _ _ _ _ _ _ _ _ _ _ _ _ _ _ (by omega) hp6 j3 hb
      · have ltp5p6 := heap_lt hp5
        refine sh_mk (i := 8) rfl rfl (fun ev w' => ex_alloc84i rfl ev w') hS (fun w22 p6 hb1 hLp6 hlp6 hp6 hS => ?_); replace h0 := below_look hb1 h0; replace hp5 := below_look hb1 hp5; replace ix := ix.below hb1; replace j1 := j1.below hb1; replace hb := hb.trans (hb1.mono hb.size); clear hb1; try simp only [put_lit, List.set_cons_zero, List.set_cons_succ]
        refine ha_call (i := 3) (by kernel_rfl) rfl rfl (fun K hK => ?_); go_simp; refine ⟨_, _, ⟨rfl, rfl⟩, hK _ _ ⟨_, FloorI_any x (t2 (n : Int)) _ _ _ _ _ ix j1 (by omega) (by have := nl_t2 (x := (n : Int)) (by omega); omega) (t2_pos n), ?_⟩⟩; clear hK K; rintro e w23 ⟨B2, d2, B3, d3, rfl, j2, j3, hb1⟩; refine ⟨_, rfl, hS.below hb1, ?_⟩; replace hS := hS.below hb1; replace h0 := below_look hb1 h0; replace hp5 := below_look hb1 hp5; replace hp6 := below_look hb1 hp6; replace ix := ix.below hb1; replace hb := hb.trans (hb1.mono hb.size); clear hb1; rw [← HV.out] at j3 ⊢; try simp only [put_lit, List.set_cons_zero, List.set_cons_succ]
        refine ha_k (i := 4) rfl (by kernel_rfl) (by kernel_rfl) (by kernel_rfl) (fun _ _ _ _ h => h) hS rfl (fun K hK => ?_); go_simp; refine hK _ ?_; clear hK K; try simp only [put_lit, List.set_cons_zero, List.set_cons_succ]
        refine ha_k (i := 5) rfl (by kernel_rfl) (by kernel_rfl) (by kernel_rfl) (fun _ _ _ _ h => h) hS rfl (fun K hK => ?_); go_simp; refine hK _ ?_; clear hK K; try simp only [put_lit, List.set_cons_zero, List.set_cons_succ]
        refine ha_k (i := 6) rfl (by kernel_rfl) (by kernel_rfl) (by kernel_rfl) (fun _ _ _ _ h => h) hS rfl (fun K hK => ?_); go_simp; refine hK _ ?_; clear hK K; try simp only [put_lit, List.set_cons_zero, List.set_cons_succ]
        refine ha_store (i := 9) (by kernel_rfl) rfl rfl 84 _ _ rfl _ (iv (x / t2 (n : Int)) B2 d2) rfl rfl 84 _ hp5 info84 rfl (iv_one _ _ _) (hS.setNew (by omega) _) (fun hS => ?_); try simp only [put_lit, List.set_cons_zero, List.set_cons_succ]
        replace hb := below_setRow hb (g := p5) (by omega) (iv (x / t2 (n : Int)) B2 d2); replace h0 := hr_old (g := p5) (cs := iv (x / t2 (n : Int)) B2 d2) h0 (by omega); replace hp6 := hr_old (g := p5) (cs := iv (x / t2 (n : Int)) B2 d2) hp6 (by omega); replace ix := ix.put hp5 (iv (x / t2 (n : Int)) B2 d2); replace j2 := j2.put hp5 (iv (x / t2 (n : Int)) B2 d2); replace j3 := j3.put hp5 (iv (x / t2 (n : Int)) B2 d2); replace hp5 := hr_new (cs := iv (x / t2 (n : Int)) B2 d2) hp5
        refine ha_store (i := 10) (by kernel_rfl) rfl rfl 84 _ _ rfl _ (iv (v : Int) B3 d3) rfl rfl 84 _ hp6 info84 rfl (iv_one _ _ _) (hS.setNew (by omega) _) (fun hS => ?_); try simp only [put_lit, List.set_cons_zero, List.set_cons_succ]
        refine wpAnyH_done (by kernel_rfl) ?_ _
        replace hb := below_setRow hb (g := p6) (by omega) (iv (v : Int) B3 d3); replace h0 := hr_old (g := p6) (cs := iv (v : Int) B3 d3) h0 (by omega); replace hp5 := hr_old (g := p6) (cs := iv (v : Int) B3 d3) hp5 (by omega); replace ix := ix.put hp6 (iv (v : Int) B3 d3); replace j2 := j2.put hp6 (iv (v : Int) B3 d3); replace j3 := j3.put hp6 (iv (v : Int) B3 d3); replace hp6 := hr_new (cs := iv (v : Int) B3 d3) hp6
        exact tail p5 p6 _ _ _ _ _ _ _ _ _ _ _ _ _ _ _ _ _ _ _ _ _ _ _ _ _ _ (by omega) hp6 j3 hb
    · refine sh_mk (i := 8) rfl rfl (fun ev w' => ex_alloc84i rfl ev w') hS (fun w21 p6 hb1 hLp6 hlp6 hp6 hS => ?_); replace h0 := below_look hb1 h0; replace ix := ix.below hb1; replace j1 := j1.below hb1; replace hb := hb.trans (hb1.mono hb.size); clear hb1; try simp only [put_lit, List.set_cons_zero, List.set_cons_succ]
      refine ha_two (i := 3) (j := 7) (by kernel_rfl) ?_ ?_
      · refine sh_call (i := 3) rfl rfl (fun K hK => ?_); go_simp; refine ⟨_, _, ⟨rfl, rfl⟩, hK _ _ ⟨_, FloorI_any x (t2 (n : Int)) _ _ _ _ _ ix j1 (by omega) (by have := nl_t2 (x := (n : Int)) (by omega); omega) (t2_pos n), ?_⟩⟩; clear hK K; rintro e w22 ⟨B2, d2, B3, d3, rfl, j2, j3, hb1⟩; refine ⟨_, rfl, hS.below hb1, ?_⟩; replace hS := hS.below hb1; replace h0 := below_look hb1 h0; replace hp6 := below_look hb1 hp6; replace ix := ix.below hb1; replace hb := hb.trans (hb1.mono hb.size); clear hb1; rw [← HV.out] at j3 ⊢; try simp only [put_lit, List.set_cons_zero, List.set_cons_succ]
        refine ha_k (i := 4) rfl (by kernel_rfl) (by kernel_rfl) (by kernel_rfl) (fun _ _ _ _ h => h) hS rfl (fun K hK => ?_); go_simp; refine hK _ ?_; clear hK K; try simp only [put_lit, List.set_cons_zero, List.set_cons_succ]
        refine ha_k (i := 5) rfl (by kernel_rfl) (by kernel_rfl) (by kernel_rfl) (fun _ _ _ _ h => h) hS rfl (fun K hK => ?_); go_simp; refine hK _ ?_; clear hK K; try simp only [put_lit, List.set_cons_zero, List.set_cons_succ]
        refine ha_k (i := 6) rfl (by kernel_rfl) (by kernel_rfl) (by kernel_rfl) (fun _ _ _ _ h => h) hS rfl (fun K hK => ?_); go_simp; refine hK _ ?_; clear hK K; try simp only [put_lit, List.set_cons_zero, List.set_cons_succ]
        have ltp6p5 := heap_lt hp6
        refine ha_mk (i := 7) (by kernel_rfl) rfl rfl (fun ev w' => ex_alloc84i rfl ev w') hS (fun w23 p5 hb1 hLp5 hlp5 hp5 hS => ?_); replace h0 := below_look hb1 h0; replace hp6 := below_look hb1 hp6; replace ix := ix.below hb1; replace j2 := j2.below hb1; replace j3 := j3.below hb1; replace hb := hb.trans (hb1.mono hb.size); clear hb1; try simp only [put_lit, List.set_cons_zero, List.set_cons_succ]
        refine ha_store (i := 9) (by kernel_rfl) rfl rfl 84 _ _ rfl _ (iv (x / t2 (n : Int)) B2 d2) rfl rfl 84 _ hp5 info84 rfl (iv_one _ _ _) (hS.setNew (by omega) _) (fun hS => ?_); try simp only [put_lit, List.set_cons_zero, List.set_cons_succ]
        replace hb := below_setRow hb (g := p5) (by omega) (iv (x / t2 (n : Int)) B2 d2); replace h0 := hr_old (g := p5) (cs := iv (x / t2 (n : Int)) B2 d2) h0 (by omega); replace hp6 := hr_old (g := p5) (cs := iv (x / t2 (n : Int)) B2 d2) hp6 (by omega); replace ix := ix.put hp5 (iv (x / t2 (n : Int)) B2 d2); replace j2 := j2.put hp5 (iv (x / t2 (n : Int)) B2 d2); replace j3 := j3.put hp5 (iv (x / t2 (n : Int)) B2 d2); replace hp5 := hr_new (cs := iv (x / t2 (n : Int)) B2 d2) hp5
        refine ha_store (i := 10) (by kernel_rfl) rfl rfl 84 _ _ rfl _ (iv (v : Int) B3 d3) rfl rfl 84 _ hp6 info84 rfl (iv_one _ _ _) (hS.setNew (by omega) _) (fun hS => ?_); try simp only [put_lit, List.set_cons_zero, List.set_cons_succ]
        refine wpAnyH_done (by kernel_rfl) ?_ _
        replace hb := below_setRow hb (g := p6) (by omega) (iv (v : Int) B3 d3); replace h0 := hr_old (g := p6) (cs := iv (v : Int) B3 d3) h0 (by omega); replace hp5 := hr_old (g := p6) (cs := iv (v : Int) B3 d3) hp5 (by omega); replace ix := ix.put hp6 (iv (v : Int) B3 d3); replace j2 := j2.put hp6 (iv (v : Int) B3 d3); replace j3 := j3.put hp6 (iv (v : Int) B3 d3); replace hp6 := hr_new (cs := iv (v : Int) B3 d3) hp6
        exact tail p5 p6 _ _ _ _ _ _ _ _ _ _ _ _ _ _ _ _ _ _ _ _ _ _ _ _ _ _ (by omega) hp6 j3 hb
      · have ltp6p5 := heap_lt hp6
        refine sh_mk (i := 7) rfl rfl (fun ev w' => ex_alloc84i rfl ev w') hS (fun w22 p5 hb1 hLp5 hlp5 hp5 hS => ?_); replace h0 := below_look hb1 h0; replace hp6 := below_look hb1 hp6; replace ix := ix.below hb1; replace j1 := j1.below hb1; replace hb := hb.trans (hb1.mono hb.size); clear hb1; try simp only [put_lit, List.set_cons_zero, List.set_cons_succ]
        refine ha_call (i := 3) (by kernel_rfl) rfl rfl (fun K hK => ?_); go_simp; refine ⟨_, _, ⟨rfl, rfl⟩, hK _ _ ⟨_, FloorI_any x (t2 (n : Int)) _ _ _ _ _ ix j1 (by omega) (by have := nl_t2 (x := (n : Int)) (by omega); omega) (t2_pos n), ?_⟩⟩; clear hK K; rintro e w23 ⟨B2, d2, B3, d3, rfl, j2, j3, hb1⟩; refine ⟨_, rfl, hS.below hb1, ?_⟩; replace hS := hS.below hb1; replace h0 := below_look hb1 h0; replace hp6 := below_look hb1 hp6; replace hp5 := below_look hb1 hp5; replace ix := ix.below hb1; replace hb := hb.trans (hb1.mono hb.size); clear hb1; rw [← HV.out] at j3 ⊢; try simp only [put_lit, List.set_cons_zero, List.set_cons_succ]
        refine ha_k (i := 4) rfl (by kernel_rfl) (by kernel_rfl) (by kernel_rfl) (fun _ _ _ _ h => h) hS rfl (fun K hK => ?_); go_simp; refine hK _ ?_; clear hK K; try simp only [put_lit, List.set_cons_zero, List.set_cons_succ]
        refine ha_k (i := 5) rfl (by kernel_rfl) (by kernel_rfl) (by kernel_rfl) (fun _ _ _ _ h => h) hS rfl (fun K hK => ?_); go_simp; refine hK _ ?_; clear hK K; try simp only [put_lit, List.set_cons_zero, List.set_cons_succ]
        refine ha_k (i := 6) rfl (by kernel_rfl) (by kernel_rfl) (by kernel_rfl) (fun _ _ _ _ h => h) hS rfl (fun K hK => ?_); go_simp; refine hK _ ?_; clear hK K; try simp only [put_lit, List.set_cons_zero, List.set_cons_succ]
        refine ha_store (i := 9) (by kernel_rfl) rfl rfl 84 _ _ rfl _ (iv (x / t2 (n : Int)) B2 d2) rfl rfl 84 _ hp5 info84 rfl (iv_one _ _ _) (hS.setNew (by omega) _) (fun hS => ?_); try simp only [put_lit, List.set_cons_zero, List.set_cons_succ]
        replace hb := below_setRow hb (g := p5) (by omega) (iv (x / t2 (n : Int)) B2 d2); replace h0 := hr_old (g := p5) (cs := iv (x / t2 (n : Int)) B2 d2) h0 (by omega); replace hp6 := hr_old (g := p5) (cs := iv (x / t2 (n : Int)) B2 d2) hp6 (by omega); replace ix := ix.put hp5 (iv (x / t2 (n : Int)) B2 d2); replace j2 := j2.put hp5 (iv (x / t2 (n : Int)) B2 d2); replace j3 := j3.put hp5 (iv (x / t2 (n : Int)) B2 d2); replace hp5 := hr_new (cs := iv (x / t2 (n : Int)) B2 d2) hp5
        refine ha_store (i := 10) (by kernel_rfl) rfl rfl 84 _ _ rfl _ (iv (v : Int) B3 d3) rfl rfl 84 _ hp6 info84 rfl (iv_one _ _ _) (hS.setNew (by omega) _) (fun hS => ?_); try simp only [put_lit, List.set_cons_zero, List.set_cons_succ]
        refine wpAnyH_done (by kernel_rfl) ?_ _
        replace hb := below_setRow hb (g := p6) (by omega) (iv (v : Int) B3 d3); replace h0 := hr_old (g := p6) (cs := iv (v : Int) B3 d3) h0 (by omega); replace hp5 := hr_old (g := p6) (cs := iv (v : Int) B3 d3) hp5 (by omega); replace ix := ix.put hp6 (iv (v : Int) B3 d3); replace j2 := j2.put hp6 (iv (v : Int) B3 d3); replace j3 := j3.put hp6 (iv (v : Int) B3 d3); replace hp6 := hr_new (cs := iv (v : Int) B3 d3) hp6
        exact tail p5 p6 _ _ _ _ _ _ _ _ _ _ _ _ _ _ _ _ _ _ _ _ _ _ _ _ _ _ (by omega) hp6 j3 hb
  · refine sh_mk (i := 7) rfl rfl (fun ev w' => ex_alloc84i rfl ev w') hS (fun w20 p5 hb1 hLp5 hlp5 hp5 hS => ?_); replace h0 := below_look hb1 h0; replace ix := ix.below hb1; replace hb := hb.trans (hb1.mono hb.size); clear hb1; try simp only [put_lit, List.set_cons_zero, List.set_cons_succ]
    refine ha_two (i := 2) (j := 8) (by kernel_rfl) ?_ ?_
    · refine sh_call (i := 2) rfl rfl (fun K hK => ?_); go_simp; refine ⟨_, _, ⟨rfl, rfl⟩, hK _ _ ⟨_, PowerT_any (n : Int) (by omega) (by omega) _, ?_⟩⟩; clear hK K; rintro e w21 ⟨B1, d1, rfl, j1, hb1⟩; refine ⟨_, rfl, hS.below hb1, ?_⟩; replace hS := hS.below hb1; replace h0 := below_look hb1 h0; replace hp5 := below_look hb1 hp5; replace ix := ix.below hb1; replace hb := hb.trans (hb1.mono hb.size); clear hb1; try simp only [put_lit, List.set_cons_zero, List.set_cons_succ]
      refine ha_two (i := 3) (j := 8) (by kernel_rfl) ?_ ?_
      · refine sh_call (i := 3) rfl rfl (fun K hK => ?_); go_simp; refine ⟨_, _, ⟨rfl, rfl⟩, hK _ _ ⟨_, FloorI_any x (t2 (n : Int)) _ _ _ _ _ ix j1 (by omega) (by have := nl_t2 (x := (n : Int)) (by omega); omega) (t2_pos n), ?_⟩⟩; clear hK K; rintro e w22 ⟨B2, d2, B3, d3, rfl, j2, j3, hb1⟩; refine ⟨_, rfl, hS.below hb1, ?_⟩; replace hS := hS.below hb1; replace h0 := below_look hb1 h0; replace hp5 := below_look hb1 hp5; replace ix := ix.below hb1; replace hb := hb.trans (hb1.mono hb.size); clear hb1; rw [← HV.out] at j3 ⊢; try simp only [put_lit, List.set_cons_zero, List.set_cons_succ]
        refine ha_k (i := 4) rfl (by kernel_rfl) (by kernel_rfl) (by kernel_rfl) (fun _ _ _ _ h => h) hS rfl (fun K hK => ?_); go_simp; refine hK _ ?_; clear hK K; try simp only [put_lit, List.set_cons_zero, List.set_cons_succ]
        refine ha_k (i := 5) rfl (by kernel_rfl) (by kernel_rfl) (by kernel_rfl) (fun _ _ _ _ h => h) hS rfl (fun K hK => ?_); go_simp; refine hK _ ?_; clear hK K; try simp only [put_lit, List.set_cons_zero, List.set_cons_succ]
        refine ha_k (i := 6) rfl (by kernel_rfl) (by kernel_rfl) (by kernel_rfl) (fun _ _ _ _ h => h) hS rfl (fun K hK => ?_); go_simp; refine hK _ ?_; clear hK K; try simp only [put_lit, List.set_cons_zero, List.set_cons_succ]
        have ltp5p6 := heap_lt hp5
        refine ha_mk (i := 8) (by kernel_rfl) rfl rfl (fun ev w' => ex_alloc84i rfl ev w') hS (fun w23 p6 hb1 hLp6 hlp6 hp6 hS => ?_); replace h0 := below_look hb1 h0; replace hp5 := below_look hb1 hp5; replace ix := ix.below hb1; replace j2 := j2.below hb1; replace j3 := j3.below hb1; replace hb := hb.trans (hb1.mono hb.size); clear hb1; try simp only [put_lit, List.set_cons_zero, List.set_cons_succ]
        refine ha_store (i := 9) (by kernel_rfl) rfl rfl 84 _ _ rfl _ (iv (x / t2 (n : Int)) B2 d2) rfl rfl 84 _ hp5 info84 rfl (iv_one _ _ _) (hS.setNew (by omega) _) (fun hS => ?_); try simp only [put_lit, List.set_cons_zero, List.set_cons_succ]
        replace hb := below_setRow hb (g := p5) (by omega) (iv (x / t2 (n : Int)) B2 d2); replace h0 := hr_old (g := p5) (cs := iv (x / t2 (n : Int)) B2 d2) h0 (by omega); replace hp6 := hr_old (g := p5) (cs := iv (x / t2 (n : Int)) B2 d2) hp6 (by omega); replace ix := ix.put hp5 (iv (x / t2 (n : Int)) B2 d2); replace j2 := j2.put hp5 (iv (x / t2 (n : Int)) B2 d2); replace j3 := j3.put hp5 (iv (x / t2 (n : Int)) B2 d2); replace hp5 := hr_new (cs := iv (x / t2 (n : Int)) B2 d2) hp5
        refine ha_store (i := 10) (by kernel_rfl) rfl rfl 84 _ _ rfl _ (iv (v : Int) B3 d3) rfl rfl 84 _ hp6 info84 rfl (iv_one _ _ _) (hS.setNew (by omega) _) (fun hS => ?_); try simp only [put_lit, List.set_cons_zero, List.set_cons_succ]
        refine wpAnyH_done (by kernel_rfl) ?_ _
        replace hb := below_setRow hb (g := p6) (by omega) (iv (v : Int) B3 d3); replace h0 := hr_old (g := p6) (cs := iv (v : Int) B3 d3) h0 (by omega); replace hp5 := hr_old (g := p6) (cs := iv (v : Int) B3 d3) hp5 (by omega); replace ix := ix.put hp6 (iv (v : Int) B3 d3); replace j2 := j2.put hp6 (iv (v : Int) B3 d3); replace j3 := j3.put hp6 (iv (v : Int) B3 d3); replace hp6 := hr_new (cs := iv (v : Int) B3 d3) hp6
        exact tail p5 p6 _ _ _ _ _ _ _ _ _ _ _ _ _ _ _ _ _ _ _ _ _ _ _ _ _ _ (by omega) hp6 j3 hb
      · have ltp5p6 := heap_lt hp5
        refine sh_mk (i := 8) rfl rfl (fun ev w' => ex_alloc84i rfl ev w') hS (fun w22 p6 hb1 hLp6 hlp6 hp6 hS => ?_); replace h0 := below_look hb1 h0; replace hp5 := below_look hb1 hp5; replace ix := ix.below hb1; replace j1 := j1.below hb1; replace hb := hb.trans (hb1.mono hb.size); clear hb1; try simp only [put_lit, List.set_cons_zero, List.set_cons_succ]
        refine ha_call (i := 3) (by kernel_rfl) rfl rfl (fun K hK => ?_); go_simp; refine ⟨_, _, ⟨rfl, rfl⟩, hK _ _ ⟨_, FloorI_any x (t2 (n : Int)) _ _ _ _ _ ix j1 (by omega) (by have := nl_t2 (x := (n : Int)) (by omega); omega) (t2_pos n), ?_⟩⟩; clear hK K; rintro e w23 ⟨B2, d2, B3, d3, rfl, j2, j3, hb1⟩; refine ⟨_, rfl, hS.below hb1, ?_⟩; replace hS := hS.below hb1; replace h0 := below_look hb1 h0; replace hp5 := below_look hb1 hp5; replace hp6 := below_look hb1 hp6; replace ix := ix.below hb1; replace hb := hb.trans (hb1.mono hb.size); clear hb1; rw [← HV.out] at j3 ⊢; try simp only [put_lit, List.set_cons_zero, List.set_cons_succ]
        refine ha_k (i := 4) rfl (by kernel_rfl) (by kernel_rfl) (by kernel_rfl) (fun _ _ _ _ h => h) hS rfl (fun K hK => ?_); go_simp; refine hK _ ?_; clear hK K; try simp only [put_lit, List.set_cons_zero, List.set_cons_succ]
        refine ha_k (i := 5) rfl (by kernel_rfl) (by kernel_rfl) (by kernel_rfl) (fun _ _ _ _ h => h) hS rfl (fun K hK => ?_); go_simp; refine hK _ ?_; clear hK K; try simp only [put_lit, List.set_cons_zero, List.set_cons_succ]
        refine ha_k (i := 6) rfl (by kernel_rfl) (by kernel_rfl) (by kernel_rfl) (fun _ _ _ _ h => h) hS rfl (fun K hK => ?_); go_simp; refine hK _ ?_; clear hK K; try simp only [put_lit, List.set_cons_zero, List.set_cons_succ]
        refine ha_store (i := 9) (by kernel_rfl) rfl rfl 84 _ _ rfl _ (iv (x / t2 (n : Int)) B2 d2) rfl rfl 84 _ hp5 info84 rfl (iv_one _ _ _) (hS.setNew (by omega) _) (fun hS => ?_); try simp only [put_lit, List.set_cons_zero, List.set_cons_succ]
        replace hb := below_setRow hb (g := p5) (by omega) (iv (x / t2 (n : Int)) B2 d2); replace h0 := hr_old (g := p5) (cs := iv (x / t2 (n : Int)) B2 d2) h0 (by omega); replace hp6 := hr_old (g := p5) (cs := iv (x / t2 (n : Int)) B2 d2) hp6 (by omega); replace ix := ix.put hp5 (iv (x / t2 (n : Int)) B2 d2); replace j2 := j2.put hp5 (iv (x / t2 (n : Int)) B2 d2); replace j3 := j3.put hp5 (iv (x / t2 (n : Int)) B2 d2); replace hp5 := hr_new (cs := iv (x / t2 (n : Int)) B2 d2) hp5
        refine ha_store (i := 10) (by kernel_rfl) rfl rfl 84 _ _ rfl _ (iv (v : Int) B3 d3) rfl rfl 84 _ hp6 info84 rfl (iv_one _ _ _) (hS.setNew (by omega) _) (fun hS => ?_); try simp only [put_lit, List.set_cons_zero, List.set_cons_succ]
        refine wpAnyH_done (by kernel_rfl) ?_ _
        replace hb := below_setRow hb (g := p6) (by omega) (iv (v : Int) B3 d3); replace h0 := hr_old (g := p6) (cs := iv (v : Int) B3 d3) h0 (by omega); replace hp5 := hr_old (g := p6) (cs := iv (v : Int) B3 d3) hp5 (by omega); replace ix := ix.put hp6 (iv (v : Int) B3 d3); replace j2 := j2.put hp6 (iv (v : Int) B3 d3); replace j3 := j3.put hp6 (iv (v : Int) B3 d3); replace hp6 := hr_new (cs := iv (v : Int) B3 d3) hp6
        exact tail p5 p6 _ _ _ _ _ _ _ _ _ _ _ _ _ _ _ _ _ _ _ _ _ _ _ _ _ _ (by omega) hp6 j3 hb
    · have ltp5p6 := heap_lt hp5
      refine sh_mk (i := 8) rfl rfl (fun ev w' => ex_alloc84i rfl ev w') hS (fun w21 p6 hb1 hLp6 hlp6 hp6 hS => ?_); replace h0 := below_look hb1 h0; replace hp5 := below_look hb1 hp5; replace ix := ix.below hb1; replace hb := hb.trans (hb1.mono hb.size); clear hb1; try simp only [put_lit, List.set_cons_zero, List.set_cons_succ]
      refine ha_call (i := 2) (by kernel_rfl) rfl rfl (fun K hK => ?_); go_simp; refine ⟨_, _, ⟨rfl, rfl⟩, hK _ _ ⟨_, PowerT_any (n : Int) (by omega) (by omega) _, ?_⟩⟩; clear hK K; rintro e w22 ⟨B1, d1, rfl, j1, hb1⟩; refine ⟨_, rfl, hS.below hb1, ?_⟩; replace hS := hS.below hb1; replace h0 := below_look hb1 h0; replace hp5 := below_look hb1 hp5; replace hp6 := below_look hb1 hp6; replace ix := ix.below hb1; replace hb := hb.trans (hb1.mono hb.size); clear hb1; try simp only [put_lit, List.set_cons_zero, List.set_cons_succ]
      refine ha_call (i := 3) (by kernel_rfl) rfl rfl (fun K hK => ?_); go_simp; refine ⟨_, _, ⟨rfl, rfl⟩, hK _ _ ⟨_, FloorI_any x (t2 (n : Int)) _ _ _ _ _ ix j1 (by omega) (by have := nl_t2 (x := (n : Int)) (by omega); omega) (t2_pos n), ?_⟩⟩; clear hK K; rintro e w23 ⟨B2, d2, B3, d3, rfl, j2, j3, hb1⟩; refine ⟨_, rfl, hS.below hb1, ?_⟩; replace hS := hS.below hb1; replace h0 := below_look hb1 h0; replace hp5 := below_look hb1 hp5; replace hp6 := below_look hb1 hp6; replace ix := ix.below hb1; replace hb := hb.trans (hb1.mono hb.size); clear hb1; rw [← HV.out] at j3 ⊢; try simp only [put_lit, List.set_cons_zero, List.set_cons_succ]
      refine ha_k (i := 4) rfl (by kernel_rfl) (by kernel_rfl) (by kernel_rfl) (fun _ _ _ _ h => h) hS rfl (fun K hK => ?_); go_simp; refine hK _ ?_; clear hK K; try simp only [put_lit, List.set_cons_zero, List.set_cons_succ]
      refine ha_k (i := 5) rfl (by kernel_rfl) (by kernel_rfl) (by kernel_rfl) (fun _ _ _ _ h => h) hS rfl (fun K hK => ?_); go_simp; refine hK _ ?_; clear hK K; try simp only [put_lit, List.set_cons_zero, List.set_cons_succ]
      refine ha_k (i := 6) rfl (by kernel_rfl) (by kernel_rfl) (by kernel_rfl) (fun _ _ _ _ h => h) hS rfl (fun K hK => ?_); go_simp; refine hK _ ?_; clear hK K; try simp only [put_lit, List.set_cons_zero, List.set_cons_succ]
      refine ha_store (i := 9) (by kernel_rfl) rfl rfl 84 _ _ rfl _ (iv (x / t2 (n : Int)) B2 d2) rfl rfl 84 _ hp5 info84 rfl (iv_one _ _ _) (hS.setNew (by omega) _) (fun hS => ?_); try simp only [put_lit, List.set_cons_zero, List.set_cons_succ]
      replace hb := below_setRow hb (g := p5) (by omega) (iv (x / t2 (n : Int)) B2 d2); replace h0 := hr_old (g := p5) (cs := iv (x / t2 (n : Int)) B2 d2) h0 (by omega); replace hp6 := hr_old (g := p5) (cs := iv (x / t2 (n : Int)) B2 d2) hp6 (by omega); replace ix := ix.put hp5 (iv (x / t2 (n : Int)) B2 d2); replace j2 := j2.put hp5 (iv (x / t2 (n : Int)) B2 d2); replace j3 := j3.put hp5 (iv (x / t2 (n : Int)) B2 d2); replace hp5 := hr_new (cs := iv (x / t2 (n : Int)) B2 d2) hp5
      refine ha_store (i := 10) (by kernel_rfl) rfl rfl 84 _ _ rfl _ (iv (v : Int) B3 d3) rfl rfl 84 _ hp6 info84 rfl (iv_one _ _ _) (hS.setNew (by omega) _) (fun hS => ?_); try simp only [put_lit, List.set_cons_zero, List.set_cons_succ]
      refine wpAnyH_done (by kernel_rfl) ?_ _
      replace hb := below_setRow hb (g := p6) (by omega) (iv (v : Int) B3 d3); replace h0 := hr_old (g := p6) (cs := iv (v : Int) B3 d3) h0 (by omega); replace hp5 := hr_old (g := p6) (cs := iv (v : Int) B3 d3) hp5 (by omega); replace ix := ix.put hp6 (iv (v : Int) B3 d3); replace j2 := j2.put hp6 (iv (v : Int) B3 d3); replace j3 := j3.put hp6 (iv (v : Int) B3 d3); replace hp6 := hr_new (cs := iv (v : Int) B3 d3) hp6
      exact tail p5 p6 _ _ _ _ _ _ _ _ _ _ _ _ _ _ _ _ _ _ _ _ _ _ _ _ _ _ (by omega) hp6 j3 hb
  · refine sh_mk (i := 8) rfl rfl (fun ev w' => ex_alloc84i rfl ev w') hS (fun w20 p6 hb1 hLp6 hlp6 hp6 hS => ?_); replace h0 := below_look hb1 h0; replace ix := ix.below hb1; replace hb := hb.trans (hb1.mono hb.size); clear hb1; try simp only [put_lit, List.set_cons_zero, List.set_cons_succ]
    refine ha_two (i := 2) (j := 7) (by kernel_rfl) ?_ ?_
    · refine sh_call (i := 2) rfl rfl (fun K hK => ?_); go_simp; refine ⟨_, _, ⟨rfl, rfl⟩, hK _ _ ⟨_, PowerT_any (n : Int) (by omega) (by omega) _, ?_⟩⟩; clear hK K; rintro e w21 ⟨B1, d1, rfl, j1, hb1⟩; refine ⟨_, rfl, hS.below hb1, ?_⟩; replace hS := hS.below hb1; replace h0 := below_look hb1 h0; replace hp6 := below_look hb1 hp6; replace ix := ix.below hb1; replace hb := hb.trans (hb1.mono hb.size); clear hb1; try simp only [put_lit, List.set_cons_zero, List.set_cons_succ]
      refine ha_two (i := 3) (j := 7) (by kernel_rfl) ?_ ?_
      · refine sh_call (i := 3) rfl rfl (fun K hK => ?_); go_simp; refine ⟨_, _, ⟨rfl, rfl⟩, hK _ _ ⟨_, FloorI_any x (t2 (n : Int)) _ _ _ _ _ ix j1 (by omega) (by have := nl_t2 (x := (n : Int)) (by omega); omega) (t2_pos n), ?_⟩⟩; clear hK K; rintro e w22 ⟨B2, d2, B3, d3, rfl, j2, j3, hb1⟩; refine ⟨_, rfl, hS.below hb1, ?_⟩; replace hS := hS.below hb1; replace h0 := below_look hb1 h0; replace hp6 := below_look hb1 hp6; replace ix := ix.below hb1; replace hb := hb.trans (hb1.mono hb.size); clear hb1; rw [← HV.out] at j3 ⊢; try simp only [put_lit, List.set_cons_zero, List.set_cons_succ]
        refine ha_k (i := 4) rfl (by kernel_rfl) (by kernel_rfl) (by kernel_rfl) (fun _ _ _ _ h => h) hS rfl (fun K hK => ?_); go_simp; refine hK _ ?_; clear hK K; try simp only [put_lit, List.set_cons_zero, List.set_cons_succ]
        refine ha_k (i := 5) rfl (by kernel_rfl) (by kernel_rfl) (by kernel_rfl) (fun _ _ _ _ h => h) hS rfl (fun K hK => ?_); go_simp; refine hK _ ?_; clear hK K; try simp only [put_lit, List.set_cons_zero, List.set_cons_succ]
        refine ha_k (i := 6) rfl (by kernel_rfl) (by kernel_rfl) (by kernel_rfl) (fun _ _ _ _ h => h) hS rfl (fun K hK => ?_); go_simp; refine hK _ ?_; clear hK K; try simp only [put_lit, List.set_cons_zero, List.set_cons_succ]
        have ltp6p5 := heap_lt hp6
        refine ha_mk (i := 7) (by kernel_rfl) rfl rfl (fun ev w' => ex_alloc84i rfl ev w') hS (fun w23 p5 hb1 hLp5 hlp5 hp5 hS => ?_); replace h0 := below_look hb1 h0; replace hp6 := below_look hb1 hp6; replace ix := ix.below hb1; replace j2 := j2.below hb1; replace j3 := j3.below hb1; replace hb := hb.trans (hb1.mono hb.size); clear hb1; try simp only [put_lit, List.set_cons_zero, List.set_cons_succ]
        refine ha_store (i := 9) (by kernel_rfl) rfl rfl 84 _ _ rfl _ (iv (x / t2 (n : Int)) B2 d2) rfl rfl 84 _ hp5 info84 rfl (iv_one _ _ _) (hS.setNew (by omega) _) (fun hS => ?_); try simp only [put_lit, List.set_cons_zero, List.set_cons_succ]
        replace hb := below_setRow hb (g := p5) (by omega) (iv (x / t2 (n : Int)) B2 d2); replace h0 := hr_old (g := p5) (cs := iv (x / t2 (n : Int)) B2 d2) h0 (by omega); replace hp6 := hr_old (g := p5) (cs := iv (x / t2 (n : Int)) B2 d2) hp6 (by omega); replace ix := ix.put hp5 (iv (x / t2 (n : Int)) B2 d2); replace j2 := j2.put hp5 (iv (x / t2 (n : Int)) B2 d2); replace j3 := j3.put hp5 (iv (x / t2 (n : Int)) B2 d2); replace hp5 := hr_new (cs := iv (x / t2 (n : Int)) B2 d2) hp5
        refine ha_store (i := 10) (by kernel_rfl) rfl rfl 84 _ _ rfl _ (iv (v : Int) B3 d3) rfl rfl 84 _ hp6 info84 rfl (iv_one _ _ _) (hS.setNew (by omega) _) (fun hS => ?_); try simp only [put_lit, List.set_cons_zero, List.set_cons_succ]
        refine wpAnyH_done (by kernel_rfl) ?_ _
        replace hb := below_setRow hb (g := p6) (by omega) (iv (v : Int) B3 d3); replace h0 := hr_old (g := p6) (cs := iv (v : Int) B3 d3) h0 (by omega); replace hp5 := hr_old (g := p6) (cs := iv (v : Int) B3 d3) hp5 (by omega); replace ix := ix.put hp6 (iv (v : Int) B3 d3); replace j2 := j2.put hp6 (iv (v : Int) B3 d3); replace j3 := j3.put hp6 (iv (v : Int) B3 d3); replace hp6 := hr_new (cs := iv (v : Int) B3 d3) hp6
        exact tail p5 p6 _ _ _ _ _ _ _ _ _ _ _ _ _ _ _ _ _ _ _ _ _ _ _ _ _ _ (by omega) hp6 j3 hb
      · have ltp6p5 := heap_lt hp6
        refine sh_mk (i := 7) rfl rfl (fun ev w' => ex_alloc84i rfl ev w') hS (fun w22 p5 hb1 hLp5 hlp5 hp5 hS => ?_); replace h0 := below_look hb1 h0; replace hp6 := below_look hb1 hp6; replace ix := ix.below hb1; replace j1 := j1.below hb1; replace hb := hb.trans (hb1.mono hb.size); clear hb1; try simp only [put_lit, List.set_cons_zero, List.set_cons_succ]
        refine ha_call (i := 3) (by kernel_rfl) rfl rfl (fun K hK => ?_); go_simp; refine ⟨_, _, ⟨rfl, rfl⟩, hK _ _ ⟨_, FloorI_any x (t2 (n : Int)) _ _ _ _ _ ix j1 (by omega) (by have := nl_t2 (x := (n : Int)) (by omega); omega) (t2_pos n), ?_⟩⟩; clear hK K; rintro e w23 ⟨B2, d2, B3, d3, rfl, j2, j3, hb1⟩; refine ⟨_, rfl, hS.below hb1, ?_⟩; replace hS := hS.below hb1; replace h0 := below_look hb1 h0; replace hp6 := below_look hb1 hp6; replace hp5 := below_look hb1 hp5; replace ix := ix.below hb1; replace hb := hb.trans (hb1.mono hb.size); clear hb1; rw [← HV.out] at j3 ⊢; try simp only [put_lit, List.set_cons_zero, List.set_cons_succ]
        refine ha_k (i := 4) rfl (by kernel_rfl) (by kernel_rfl) (by kernel_rfl) (fun _ _ _ _ h => h) hS rfl (fun K hK => ?_); go_simp; refine hK _ ?_; clear hK K; try simp only [put_lit, List.set_cons_zero, List.set_cons_succ]
        refine ha_k (i := 5) rfl (by kernel_rfl) (by kernel_rfl) (by kernel_rfl) (fun _ _ _ _ h => h) hS rfl (fun K hK => ?_); go_simp; refine hK _ ?_; clear hK K; try simp only [put_lit, List.set_cons_zero, List.set_cons_succ]
        refine ha_k (i := 6) rfl (by kernel_rfl) (by kernel_rfl) (by kernel_rfl) (fun _ _ _ _ h => h) hS rfl (fun K hK => ?_); go_simp; refine hK _ ?_; clear hK K; try simp only [put_lit, List.set_cons_zero, List.set_cons_succ]
        refine ha_store (i := 9) (by kernel_rfl) rfl rfl 84 _ _ rfl _ (iv (x / t2 (n : Int)) B2 d2) rfl rfl 84 _ hp5 info84 rfl (iv_one _ _ _) (hS.setNew (by omega) _) (fun hS => ?_); try simp only [put_lit, List.set_cons_zero, List.set_cons_succ]
        replace hb := below_setRow hb (g := p5) (by omega) (iv (x / t2 (n : Int)) B2 d2); replace h0 := hr_old (g := p5) (cs := iv (x / t2 (n : Int)) B2 d2) h0 (by omega); replace hp6 := hr_old (g := p5) (cs := iv (x / t2 (n : Int)) B2 d2) hp6 (by omega); replace ix := ix.put hp5 (iv (x / t2 (n : Int)) B2 d2); replace j2 := j2.put hp5 (iv (x / t2 (n : Int)) B2 d2); replace j3 := j3.put hp5 (iv (x / t2 (n : Int)) B2 d2); replace hp5 := hr_new (cs := iv (x / t2 (n : Int)) B2 d2) hp5
        refine ha_store (i := 10) (by kernel_rfl) rfl rfl 84 _ _ rfl _ (iv (v : Int) B3 d3) rfl rfl 84 _ hp6 info84 rfl (iv_one _ _ _) (hS.setNew (by omega) _) (fun hS => ?_); try simp only [put_lit, List.set_cons_zero, List.set_cons_succ]
        refine wpAnyH_done (by kernel_rfl) ?_ _
        replace hb := below_setRow hb (g := p6) (by omega) (iv (v : Int) B3 d3); replace h0 := hr_old (g := p6) (cs := iv (v : Int) B3 d3) h0 (by omega); replace hp5 := hr_old (g := p6) (cs := iv (v : Int) B3 d3) hp5 (by omega); replace ix := ix.put hp6 (iv (v : Int) B3 d3); replace j2 := j2.put hp6 (iv (v : Int) B3 d3); replace j3 := j3.put hp6 (iv (v : Int) B3 d3); replace hp6 := hr_new (cs := iv (v : Int) B3 d3) hp6
        exact tail p5 p6 _ _ _ _ _ _ _ _ _ _ _ _ _ _ _ _ _ _ _ _ _ _ _ _ _ _ (by omega) hp6 j3 hb
    · have ltp6p5 := heap_lt hp6
      refine sh_mk (i := 7) rfl rfl (fun ev w' => ex_alloc84i rfl ev w') hS (fun w21 p5 hb1 hLp5 hlp5 hp5 hS => ?_); replace h0 := below_look hb1 h0; replace hp6 := below_look hb1 hp6; replace ix := ix.below hb1; replace hb := hb.trans (hb1.mono hb.size); clear hb1; try simp only [put_lit, List.set_cons_zero, List.set_cons_succ]
      refine ha_call (i := 2) (by kernel_rfl) rfl rfl (fun K hK => ?_); go_simp; refine ⟨_, _, ⟨rfl, rfl⟩, hK _ _ ⟨_, PowerT_any (n : Int) (by omega) (by omega) _, ?_⟩⟩; clear hK K; rintro e w22 ⟨B1, d1, rfl, j1, hb1⟩; refine ⟨_, rfl, hS.below hb1, ?_⟩; replace hS := hS.below hb1; replace h0 := below_look hb1 h0; replace hp6 := below_look hb1 hp6; replace hp5 := below_look hb1 hp5; replace ix := ix.below hb1; replace hb := hb.trans (hb1.mono hb.size); clear hb1; try simp only [put_lit, List.set_cons_zero, List.set_cons_succ]
      refine ha_call (i := 3) (by kernel_rfl) rfl rfl (fun K hK => ?_); go_simp; refine ⟨_, _, ⟨rfl, rfl⟩, hK _ _ ⟨_, FloorI_any x (t2 (n : Int)) _ _ _ _ _ ix j1 (by omega) (by have := nl_t2 (x := (n : Int)) (by omega); omega) (t2_pos n), ?_⟩⟩; clear hK K; rintro e w23 ⟨B2, d2, B3, d3, rfl, j2, j3, hb1⟩; refine ⟨_, rfl, hS.below hb1, ?_⟩; replace hS := hS.below hb1; replace h0 := below_look hb1 h0; replace hp6 := below_look hb1 hp6; replace hp5 := below_look hb1 hp5; replace ix := ix.below hb1; replace hb := hb.trans (hb1.mono hb.size); clear hb1; rw [← HV.out] at j3 ⊢; try simp only [put_lit, List.set_cons_zero, List.set_cons_succ]
      refine ha_k (i := 4) rfl (by kernel_rfl) (by kernel_rfl) (by kernel_rfl) (fun _ _ _ _ h => h) hS rfl (fun K hK => ?_); go_simp; refine hK _ ?_; clear hK K; try simp only [put_lit, List.set_cons_zero, List.set_cons_succ]
      refine ha_k (i := 5) rfl (by kernel_rfl) (by kernel_rfl) (by kernel_rfl) (fun _ _ _ _ h => h) hS rfl (fun K hK => ?_); go_simp; refine hK _ ?_; clear hK K; try simp only [put_lit, List.set_cons_zero, List.set_cons_succ]
      refine ha_k (i := 6) rfl (by kernel_rfl) (by kernel_rfl) (by kernel_rfl) (fun _ _ _ _ h => h) hS rfl (fun K hK => ?_); go_simp; refine hK _ ?_; clear hK K; try simp only [put_lit, List.set_cons_zero, List.set_cons_succ]
      refine ha_store (i := 9) (by kernel_rfl) rfl rfl 84 _ _ rfl _ (iv (x / t2 (n : Int)) B2 d2) rfl rfl 84 _ hp5 info84 rfl (iv_one _ _ _) (hS.setNew (by omega) _) (fun hS => ?_); try simp only [put_lit, List.set_cons_zero, List.set_cons_succ]
      replace hb := below_setRow hb (g := p5) (by omega) (iv (x / t2 (n : Int)) B2 d2); replace h0 := hr_old (g := p5) (cs := iv (x / t2 (n : Int)) B2 d2) h0 (by omega); replace hp6 := hr_old (g := p5) (cs := iv (x / t2 (n : Int)) B2 d2) hp6 (by omega); replace ix := ix.put hp5 (iv (x / t2 (n : Int)) B2 d2); replace j2 := j2.put hp5 (iv (x / t2 (n : Int)) B2 d2); replace j3 := j3.put hp5 (iv (x / t2 (n : Int)) B2 d2); replace hp5 := hr_new (cs := iv (x / t2 (n : Int)) B2 d2) hp5
      refine ha_store (i := 10) (by kernel_rfl) rfl rfl 84 _ _ rfl _ (iv (v : Int) B3 d3) rfl rfl 84 _ hp6 info84 rfl (iv_one _ _ _) (hS.setNew (by omega) _) (fun hS => ?_); try simp only [put_lit, List.set_cons_zero, List.set_cons_succ]
      refine wpAnyH_done (by kernel_rfl) ?_ _
      replace hb := below_setRow hb (g := p6) (by omega) (iv (v : Int) B3 d3); replace h0 := hr_old (g := p6) (cs := iv (v : Int) B3 d3) h0 (by omega); replace hp5 := hr_old (g := p6) (cs := iv (v : Int) B3 d3) hp5 (by omega); replace ix := ix.put hp6 (iv (v : Int) B3 d3); replace j2 := j2.put hp6 (iv (v : Int) B3 d3); replace j3 := j3.put hp6 (iv (v : Int) B3 d3); replace hp6 := hr_new (cs := iv (v : Int) B3 d3) hp6
      exact tail p5 p6 _ _ _ _ _ _ _ _ _ _ _ _ _ _ _ _ _ _ _ _ _ _ _ _ _ _ (by omega) hp6 j3 hb
end Go.Proofs.Ytclainfdeghgnaa

namespace Go.Proofs.Ytclainfdeghgnaa
open Go.RowKit Go.Proofs.Ytclainfdeghgnaa.Nm Go.Proofs.Ytclainfdeghgnaa.Lm
/-- bits lie in block g -/
def BitsAt (w : World) (g n v : Nat) : Prop := g < w.heap.size ∧ ∀ j, j < n → w.cell? ⟨g, j, none⟩ = some (.int .u32 ((bt v j : Nat) : Int))
theorem BitsAt.below {w w' : World} {g n v : Nat} (h : BitsAt w g n v) (hb : Below w.heap.size w w') : BitsAt w' g n v :=
  ⟨Nat.lt_of_lt_of_le h.1 hb.size, fun j hj => by rw [hb.cell (p := ⟨g, j, none⟩) h.1]; exact h.2 j hj⟩
theorem own_bits {w : World} {b n v : Nat} {sv : Value} (h : w.ownsRow b 121 1 sv n (brow v n)) (hn : 1 ≤ n) : ∃ g cap cur, sv = .slice (some ⟨g, 0, none⟩) n cap ∧ b ≤ g ∧ BitsAt w g n v ∧ w.heap[g]? = some (.cells cur 121 (0, 0)) ∧ n ≤ cap ∧ cur.size = cap ∧ cur.toList.take n = brow v n := by
  rcases h.2 with ⟨_, h0⟩ | ⟨g, cap, cur, hv, hB, hg, h1, h2, h3, h4⟩
  · omega
  · refine ⟨g, cap, cur, hv, hB, ⟨heap_lt hg, fun j hj => ?_⟩, hg, h1, by omega, by simpa using h4⟩
    rw [cell_of_row _ _ _ _ _ _ hg]
    have := brow_get (v := v) hj
    rw [← h4, Nat.mul_one, List.getElem?_take_of_lt hj] at this
    simpa using this
/-- the value behind so many bits -/
def XB (n : Nat) (s : Bool) (v k : Nat) : Int := if s = true ∧ k = n then wrapW n s (v : Int) else ((v % 2 ^ k : Nat) : Int)
theorem XB_zero {n : Nat} (h : 1 ≤ n) (s : Bool) (v : Nat) : XB n s v 0 = 0 := by unfold XB; rw [if_neg (by omega)]; simp [Nat.mod_one]
theorem XB_bd {n k : Nat} (h1 : 1 ≤ n) (h2 : n ≤ 64) (hk : k ≤ n) (s : Bool) (v : Nat) : (XB n s v k).natAbs ≤ 18446744073709551616 := by
  unfold XB
  split
  · have := has_bd h1 h2 (wrap_has h1 s (v : Int)); omega
  · rw [Int.natAbs_natCast]
    have := Nat.mod_lt v (two_pos k)
    have := two_le (bits := k) (by omega)
    omega
theorem mod_bit (v k : Nat) : v % 2 ^ (k + 1) = v % 2 ^ k + 2 ^ k * bt v k := by unfold bt; rw [Nat.pow_succ, Nat.mod_mul]
theorem XB_full {n : Nat} (_ : 1 ≤ n) (s : Bool) {v : Nat} (hv : v < 2 ^ n) : XB n s v n = wrapW n s (v : Int) := by
  unfold XB
  cases s
  · rw [if_neg (by simp), Nat.mod_eq_of_lt hv]
    unfold wrapW loW
    simp only [Bool.false_eq_true, if_false]
    rw [Int.sub_zero, Int.emod_eq_of_lt (by omega) (by omega)]; omega
  · rw [if_pos ⟨rfl, rfl⟩]
theorem wrap_top {n v : Nat} (h1 : 1 ≤ n) (hv : v < 2 ^ n) : wrapW n true (v : Int) = ((v % 2 ^ (n - 1) : Nat) : Int) - ((2 ^ (n - 1) * bt v (n - 1) : Nat) : Int) := by
  have e := mod_bit v (n - 1)
  have hp := two_half h1
  rw [show n - 1 + 1 = n by omega, Nat.mod_eq_of_lt hv] at e
  have hb := bt_le v (n - 1)
  have hm := Nat.mod_lt v (two_pos (n - 1))
  unfold wrapW loW
  simp only [if_true]
  rcases (show bt v (n - 1) = 0 ∨ bt v (n - 1) = 1 by omega) with h | h
  · rw [h] at e ⊢
    rw [Int.emod_eq_of_lt (by omega) (by omega)]; omega
  · rw [h] at e ⊢
    have e2 : ((v : Int) - -((2 ^ (n - 1) : Nat) : Int)) % ((2 ^ n : Nat) : Int) = (v : Int) - ((2 ^ (n - 1) : Nat) : Int) := by
      rw [show (v : Int) - -((2 ^ (n - 1) : Nat) : Int) = (v : Int) - ((2 ^ (n - 1) : Nat) : Int) + ((2 ^ n : Nat) : Int) by omega, Int.add_emod_right, Int.emod_eq_of_lt (by omega) (by omega)]
    rw [e2]; omega
theorem XB_none {n k : Nat} (h1 : 1 ≤ n) (hk : k < n) (s : Bool) {v : Nat} (hv : v < 2 ^ n) (h : bt v k = 0) : XB n s v (k + 1) = XB n s v k := by
  have e := mod_bit v k
  rw [h] at e
  unfold XB
  rw [if_neg (show ¬ (s = true ∧ k = n) by omega)]
  split
  · rename_i hc
    obtain ⟨rfl, hc⟩ := hc
    subst hc
    rw [wrap_top h1 hv, Nat.add_sub_cancel, h]; simp
  · rw [e]; simp
theorem XB_top {n k : Nat} (h1 : 1 ≤ n) (hk : k + 1 = n) {v : Nat} (hv : v < 2 ^ n) (h : bt v k = 1) : XB n true v (k + 1) = XB n true v k - t2 (k : Int) := by
  unfold XB
  rw [if_neg (show ¬ (true = true ∧ k = n) by omega), if_pos ⟨rfl, hk⟩, wrap_top h1 hv]
  subst hk
  rw [Nat.add_sub_cancel, h]; unfold t2; simp
theorem XB_more {n k : Nat} (hk : k < n) {s : Bool} {v : Nat} (hs : ¬ (s = true ∧ k + 1 = n)) (h : bt v k = 1) : XB n s v (k + 1) = XB n s v k + t2 (k : Int) := by
  have e := mod_bit v k
  rw [h] at e
  unfold XB
  rw [if_neg hs, if_neg (show ¬ (s = true ∧ k = n) by omega), e]; unfold t2; simp
theorem nl_XB {n k : Nat} (h1 : 1 ≤ n) (h2 : n ≤ 64) (hk : k ≤ n) (s : Bool) (v : Nat) : nl (XB n s v k).natAbs ≤ 3 :=
  nl_le _ 3 (Nat.lt_of_le_of_lt (XB_bd h1 h2 hk s v) (by rw [B_eq]; decide))
set_option maxHeartbeats 4000000 in
set_option maxRecDepth 100000 in
theorem ValI_any (g cap n : Nat) (s : Bool) (v : Nat) (h1 : 1 ≤ n) (h2 : n ≤ 64) (hv : v < 2 ^ n) (w : World) (hc : BitsAt w g n v) :
    Calls Try.prog 96 #[.slice (some ⟨g, 0, none⟩) n cap, .bool s] w fun e w' => ∃ A2 c2, e = .returned (.agg (iv (wrapW n s (v : Int)) A2 c2)) ∧ IvAt w' (wrapW n s (v : Int)) A2 c2 ∧ Below w.heap.size w w' := by
  have HV := Lib.hid hv
  have HC := Lib.hid hc
  have HG := Lib.hid hc.1
  clear hv hc
  go_enter Try.func96, Try.ntmps96
  go_upto_region 1 with (fail)
  refine wp_world (fun W => W.heap[w.heap.size]? = some (.cells (iv 0 none 0) 84 (0, 0)) ∧ Below w.heap.size w W) ⟨by rw [iv_zero]; exact ha_new rfl, (Below.refl _ _).alloc (Nat.le_refl _) _⟩ ?_
  rintro W ⟨h0, hb⟩
  apply wp_region_lit
  refine wl_k rfl (fun K hK => ?_); go_simp; refine hK _ ?_; clear hK K
  rw [show (#[Value.bool false, Value.slice none 0 0] : Array Value) = iv 0 none 0 from iv_zero.symm]
  (have lth0p5 := heap_lt h0; have lsp5 := hb.size; (with_reducible apply wl_new84); intro w1 p5 hbn hlp5 hp5; replace h0 := below_look hbn h0; replace hb := hb.trans (hbn.mono hb.size); clear hbn)
  ((with_reducible apply wl_putI); exact rfl; exact rfl; exact hp5; intro w2 hbx hk hq hi; replace h0 := hk _ _ (by omega) h0; replace hb := hbx _ _ (by omega) hb; clear hp5; have hp5 := hq; clear hbx hk hq hi)
  go_wp2_with fail
  have X0 := XB_zero h1 s v
  go_loopw [6] (fun i wr => ∃ (k : Nat) (A2 : Option Addr) (c2 : Nat), k ≤ n ∧ i = .int .i64 (k : Int) ∧ wr.heap[p5]? = some (.cells (iv (XB n s v k) A2 c2) 84 (0, 0)) ∧ wr.heap[w.heap.size]? = some (.cells (iv 0 none 0) 84 (0, 0)) ∧ IvAt wr (XB n s v k) A2 c2 ∧ Below w.heap.size w wr) (fun i _ => (n - intOf i).toNat)
  case atStart => exact ⟨0, none, 0, by omega, rfl, by rw [X0]; exact hp5, h0, by rw [X0]; exact IvAt.zero _, hb⟩
  case round =>
    clear h0 hp5 hb X0
    obtain ⟨k, A2, c2, hk, rfl, h5, h0, hI, hb⟩ := hrel
    have NX := Lib.hid (nl_XB h1 h2 hk s v)
    by_cases hlt : k < n
    · have hcell := (hb.cell (p := ⟨g, k, none⟩) HG.out).trans (HC.out.2 k hlt)
      have hbt := bt_le v k
      by_cases hz : bt v k = 0
      · have HX := Lib.hid (XB_none h1 hlt s HV.out hz)
        rw [hz] at hcell
        clear hbt hz
        go_wp2_with fail
        go_roundw
        case rel => exact ⟨k + 1, A2, c2, by omega, by go_num, by rw [HX.out]; exact h5, h0, by rw [HX.out]; exact hI, hb⟩
        case measure => simp [intOf]; omega
      · have hz1 : bt v k = 1 := by omega
        rw [hz1] at hcell
        clear hbt hz
        have LP := heap_lt h5
        have L0 := heap_lt h0
        have LW := hb.size
        cases s
        · have HX := Lib.hid (XB_more (s := false) hlt (by simp) hz1)
          go_upto_region 8 with (fail)
          replace hb := hb.drew
          replace hI := hI.below (Below.refl _ _).drew
          refine wp_region_held_drew (S := Kept [p5] wr) mixed (Kept.drew [p5] wr) (fun hS => ?_)
          refine ha_k (i := 1) rfl (by kernel_rfl) (by kernel_rfl) (by kernel_rfl) (fun _ _ _ _ h => h) hS rfl (fun K hK => ?_); go_simp; refine hK _ ?_; clear hK K; try simp only [put_lit, List.set_cons_zero, List.set_cons_succ]
          refine ha_two (i := 0) (j := 2) (by kernel_rfl) ?_ ?_
          · refine sh_val (i := 0) rfl rfl (ex_row rfl (rowIv h5)) hS ?_; try simp only [put_lit, List.set_cons_zero, List.set_cons_succ]
            refine ha_call (i := 2) (by kernel_rfl) rfl rfl (fun K hK => ?_); go_simp; refine ⟨_, _, ⟨rfl, rfl⟩, hK _ _ ⟨_, PowerT_any (k : Int) (by omega) (by omega) _, ?_⟩⟩; clear hK K; rintro e v2 ⟨B4, d4, rfl, j4, hb1⟩; refine ⟨_, rfl, hS.below hb1, ?_⟩; replace hS := hS.below hb1; replace h0 := below_look hb1 h0; replace h5 := below_look hb1 h5; replace hI := hI.below hb1; replace hb := hb.trans (hb1.mono hb.size); clear hb1; try simp only [put_lit, List.set_cons_zero, List.set_cons_succ]
            refine ha_call (i := 3) (by kernel_rfl) rfl rfl (fun K hK => ?_); go_simp; refine ⟨_, _, ⟨rfl, rfl⟩, hK _ _ ⟨_, Sum2_any (XB n false v k) (t2 (k : Int)) _ _ _ _ _ hI j4 (by have := NX.out; omega) (by have := nl_t2 (x := (k : Int)) (by omega); omega), ?_⟩⟩; clear hK K; rintro e v3 ⟨B5, d5, rfl, j5, hb1⟩; refine ⟨_, rfl, hS.below hb1, ?_⟩; replace hS := hS.below hb1; replace h0 := below_look hb1 h0; replace h5 := below_look hb1 h5; replace hb := hb.trans (hb1.mono hb.size); clear hb1; rw [← HX.out] at j5 ⊢; try simp only [put_lit, List.set_cons_zero, List.set_cons_succ]
            refine ha_store (i := 4) (by kernel_rfl) rfl rfl 84 _ _ rfl _ (iv (XB n false v (k + 1)) B5 d5) rfl rfl 84 _ h5 info84 rfl (iv_one _ _ _) (hS.setRow (by simp) _) (fun hS => ?_); try simp only [put_lit, List.set_cons_zero, List.set_cons_succ]
            refine wpAnyH_done (by kernel_rfl) ?_ _
            replace h0 := hr_old (g := p5) (cs := iv (XB n false v (k + 1)) B5 d5) h0 (by omega)
            replace hb := below_setRow hb (g := p5) (by omega) (iv (XB n false v (k + 1)) B5 d5)
            replace j5 := j5.put h5 (iv (XB n false v (k + 1)) B5 d5)
            replace h5 := hr_new (cs := iv (XB n false v (k + 1)) B5 d5) h5
            go_wp2_with fail
            go_roundw
            case rel => exact ⟨k + 1, B5, d5, by omega, by go_num, h5, h0, j5, hb⟩
            case measure => simp [intOf]; omega
          · refine sh_call (i := 2) rfl rfl (fun K hK => ?_); go_simp; refine ⟨_, _, ⟨rfl, rfl⟩, hK _ _ ⟨_, PowerT_any (k : Int) (by omega) (by omega) _, ?_⟩⟩; clear hK K; rintro e v2 ⟨B4, d4, rfl, j4, hb1⟩; refine ⟨_, rfl, hS.below hb1, ?_⟩; replace hS := hS.below hb1; replace h0 := below_look hb1 h0; replace h5 := below_look hb1 h5; replace hI := hI.below hb1; replace hb := hb.trans (hb1.mono hb.size); clear hb1; try simp only [put_lit, List.set_cons_zero, List.set_cons_succ]
            refine ha_do (i := 0) (by kernel_rfl) rfl rfl (ex_row rfl (rowIv h5)) hS ?_; try simp only [put_lit, List.set_cons_zero, List.set_cons_succ]
            refine ha_call (i := 3) (by kernel_rfl) rfl rfl (fun K hK => ?_); go_simp; refine ⟨_, _, ⟨rfl, rfl⟩, hK _ _ ⟨_, Sum2_any (XB n false v k) (t2 (k : Int)) _ _ _ _ _ hI j4 (by have := NX.out; omega) (by have := nl_t2 (x := (k : Int)) (by omega); omega), ?_⟩⟩; clear hK K; rintro e v3 ⟨B5, d5, rfl, j5, hb1⟩; refine ⟨_, rfl, hS.below hb1, ?_⟩; replace hS := hS.below hb1; replace h0 := below_look hb1 h0; replace h5 := below_look hb1 h5; replace hb := hb.trans (hb1.mono hb.size); clear hb1; rw [← HX.out] at j5 ⊢; try simp only [put_lit, List.set_cons_zero, List.set_cons_succ]
            refine ha_store (i := 4) (by kernel_rfl) rfl rfl 84 _ _ rfl _ (iv (XB n false v (k + 1)) B5 d5) rfl rfl 84 _ h5 info84 rfl (iv_one _ _ _) (hS.setRow (by simp) _) (fun hS => ?_); try simp only [put_lit, List.set_cons_zero, List.set_cons_succ]
            refine wpAnyH_done (by kernel_rfl) ?_ _
            replace h0 := hr_old (g := p5) (cs := iv (XB n false v (k + 1)) B5 d5) h0 (by omega)
            replace hb := below_setRow hb (g := p5) (by omega) (iv (XB n false v (k + 1)) B5 d5)
            replace j5 := j5.put h5 (iv (XB n false v (k + 1)) B5 d5)
            replace h5 := hr_new (cs := iv (XB n false v (k + 1)) B5 d5) h5
            go_wp2_with fail
            go_roundw
            case rel => exact ⟨k + 1, B5, d5, by omega, by go_num, h5, h0, j5, hb⟩
            case measure => simp [intOf]; omega
        · by_cases hk1 : k + 1 = n
          · have HX := Lib.hid (XB_top h1 hk1 HV.out hz1)
            have hq : ((k : Int) == (n : Int) - 1) = true := by simp; omega
            clear hk1
            go_upto_region 7 with (fail)
            replace hb := hb.drew
            replace hI := hI.below (Below.refl _ _).drew
            refine wp_region_held_drew (S := Kept [p5] wr) mixed (Kept.drew [p5] wr) (fun hS => ?_)
            refine ha_k (i := 1) rfl (by kernel_rfl) (by kernel_rfl) (by kernel_rfl) (fun _ _ _ _ h => h) hS rfl (fun K hK => ?_); go_simp; refine hK _ ?_; clear hK K; try simp only [put_lit, List.set_cons_zero, List.set_cons_succ]
            refine ha_two (i := 0) (j := 2) (by kernel_rfl) ?_ ?_
            · refine sh_val (i := 0) rfl rfl (ex_row rfl (rowIv h5)) hS ?_; try simp only [put_lit, List.set_cons_zero, List.set_cons_succ]
              refine ha_call (i := 2) (by kernel_rfl) rfl rfl (fun K hK => ?_); go_simp; refine ⟨_, _, ⟨rfl, rfl⟩, hK _ _ ⟨_, PowerT_any (k : Int) (by omega) (by omega) _, ?_⟩⟩; clear hK K; rintro e v2 ⟨B4, d4, rfl, j4, hb1⟩; refine ⟨_, rfl, hS.below hb1, ?_⟩; replace hS := hS.below hb1; replace h0 := below_look hb1 h0; replace h5 := below_look hb1 h5; replace hI := hI.below hb1; replace hb := hb.trans (hb1.mono hb.size); clear hb1; try simp only [put_lit, List.set_cons_zero, List.set_cons_succ]
              refine ha_call (i := 3) (by kernel_rfl) rfl rfl (fun K hK => ?_); go_simp; refine ⟨_, _, ⟨rfl, rfl⟩, hK _ _ ⟨_, MinusI_any (XB n true v k) (t2 (k : Int)) _ _ _ _ _ hI j4 (by have := NX.out; omega) (by have := nl_t2 (x := (k : Int)) (by omega); omega), ?_⟩⟩; clear hK K; rintro e v3 ⟨B5, d5, rfl, j5, hb1⟩; refine ⟨_, rfl, hS.below hb1, ?_⟩; replace hS := hS.below hb1; replace h0 := below_look hb1 h0; replace h5 := below_look hb1 h5; replace hb := hb.trans (hb1.mono hb.size); clear hb1; rw [← HX.out] at j5 ⊢; try simp only [put_lit, List.set_cons_zero, List.set_cons_succ]
              refine ha_store (i := 4) (by kernel_rfl) rfl rfl 84 _ _ rfl _ (iv (XB n true v (k + 1)) B5 d5) rfl rfl 84 _ h5 info84 rfl (iv_one _ _ _) (hS.setRow (by simp) _) (fun hS => ?_); try simp only [put_lit, List.set_cons_zero, List.set_cons_succ]
              refine wpAnyH_done (by kernel_rfl) ?_ _
              replace h0 := hr_old (g := p5) (cs := iv (XB n true v (k + 1)) B5 d5) h0 (by omega)
              replace hb := below_setRow hb (g := p5) (by omega) (iv (XB n true v (k + 1)) B5 d5)
              replace j5 := j5.put h5 (iv (XB n true v (k + 1)) B5 d5)
              replace h5 := hr_new (cs := iv (XB n true v (k + 1)) B5 d5) h5
              go_wp2_with fail
              go_roundw
              case rel => exact ⟨k + 1, B5, d5, by omega, by go_num, h5, h0, j5, hb⟩
              case measure => simp [intOf]; omega
            · refine sh_call (i := 2) rfl rfl (fun K hK => ?_); go_simp; refine ⟨_, _, ⟨rfl, rfl⟩, hK _ _ ⟨_, PowerT_any (k : Int) (by omega) (by omega) _, ?_⟩⟩; clear hK K; rintro e v2 ⟨B4, d4, rfl, j4, hb1⟩; refine ⟨_, rfl, hS.below hb1, ?_⟩; replace hS := hS.below hb1; replace h0 := below_look hb1 h0; replace h5 := below_look hb1 h5; replace hI := hI.below hb1; replace hb := hb.trans (hb1.mono hb.size); clear hb1; try simp only [put_lit, List.set_cons_zero, List.set_cons_succ]
              refine ha_do (i := 0) (by kernel_rfl) rfl rfl (ex_row rfl (rowIv h5)) hS ?_; try simp only [put_lit, List.set_cons_zero, List.set_cons_succ]
              refine ha_call (i := 3) (by kernel_rfl) rfl rfl (fun K hK => ?_); go_simp; refine ⟨_, _, ⟨rfl, rfl⟩, hK _ _ ⟨_, MinusI_any (XB n true v k) (t2 (k : Int)) _ _ _ _ _ hI j4 (by have := NX.out; omega) (by have := nl_t2 (x := (k : Int)) (by omega); omega), ?_⟩⟩; clear hK K; rintro e v3 ⟨B5, d5, rfl, j5, hb1⟩; refine ⟨_, rfl, hS.below hb1, ?_⟩; replace hS := hS.below hb1; replace h0 := below_look hb1 h0; replace h5 := below_look hb1 h5; replace hb := hb.trans (hb1.mono hb.size); clear hb1; rw [← HX.out] at j5 ⊢; try simp only [put_lit, List.set_cons_zero, List.set_cons_succ]
              refine ha_store (i := 4) (by kernel_rfl) rfl rfl 84 _ _ rfl _ (iv (XB n true v (k + 1)) B5 d5) rfl rfl 84 _ h5 info84 rfl (iv_one _ _ _) (hS.setRow (by simp) _) (fun hS => ?_); try simp only [put_lit, List.set_cons_zero, List.set_cons_succ]
              refine wpAnyH_done (by kernel_rfl) ?_ _
              replace h0 := hr_old (g := p5) (cs := iv (XB n true v (k + 1)) B5 d5) h0 (by omega)
              replace hb := below_setRow hb (g := p5) (by omega) (iv (XB n true v (k + 1)) B5 d5)
              replace j5 := j5.put h5 (iv (XB n true v (k + 1)) B5 d5)
              replace h5 := hr_new (cs := iv (XB n true v (k + 1)) B5 d5) h5
              go_wp2_with fail
              go_roundw
              case rel => exact ⟨k + 1, B5, d5, by omega, by go_num, h5, h0, j5, hb⟩
              case measure => simp [intOf]; omega
          · have HX := Lib.hid (XB_more (s := true) hlt (by simp [hk1]) hz1)
            have hq : ((k : Int) == (n : Int) - 1) = false := by simp; omega
            go_upto_region 8 with (fail)
            replace hb := hb.drew
            replace hI := hI.below (Below.refl _ _).drew
            refine wp_region_held_drew (S := Kept [p5] wr) mixed (Kept.drew [p5] wr) (fun hS => ?_)
            refine ha_k (i := 1) rfl (by kernel_rfl) (by kernel_rfl) (by kernel_rfl) (fun _ _ _ _ h => h) hS rfl (fun K hK => ?_); go_simp; refine hK _ ?_; clear hK K; try simp only [put_lit, List.set_cons_zero, List.set_cons_succ]
            refine ha_two (i := 0) (j := 2) (by kernel_rfl) ?_ ?_
            · refine sh_val (i := 0) rfl rfl (ex_row rfl (rowIv h5)) hS ?_; try simp only [put_lit, List.set_cons_zero, List.set_cons_succ]
              refine ha_call (i := 2) (by kernel_rfl) rfl rfl (fun K hK => ?_); go_simp; refine ⟨_, _, ⟨rfl, rfl⟩, hK _ _ ⟨_, PowerT_any (k : Int) (by omega) (by omega) _, ?_⟩⟩; clear hK K; rintro e v2 ⟨B4, d4, rfl, j4, hb1⟩; refine ⟨_, rfl, hS.below hb1, ?_⟩; replace hS := hS.below hb1; replace h0 := below_look hb1 h0; replace h5 := below_look hb1 h5; replace hI := hI.below hb1; replace hb := hb.trans (hb1.mono hb.size); clear hb1; try simp only [put_lit, List.set_cons_zero, List.set_cons_succ]
              refine ha_call (i := 3) (by kernel_rfl) rfl rfl (fun K hK => ?_); go_simp; refine ⟨_, _, ⟨rfl, rfl⟩, hK _ _ ⟨_, Sum2_any (XB n true v k) (t2 (k : Int)) _ _ _ _ _ hI j4 (by have := NX.out; omega) (by have := nl_t2 (x := (k : Int)) (by omega); omega), ?_⟩⟩; clear hK K; rintro e v3 ⟨B5, d5, rfl, j5, hb1⟩; refine ⟨_, rfl, hS.below hb1, ?_⟩; replace hS := hS.below hb1; replace h0 := below_look hb1 h0; replace h5 := below_look hb1 h5; replace hb := hb.trans (hb1.mono hb.size); clear hb1; rw [← HX.out] at j5 ⊢; try simp only [put_lit, List.set_cons_zero, List.set_cons_succ]
              refine ha_store (i := 4) (by kernel_rfl) rfl rfl 84 _ _ rfl _ (iv (XB n true v (k + 1)) B5 d5) rfl rfl 84 _ h5 info84 rfl (iv_one _ _ _) (hS.setRow (by simp) _) (fun hS => ?_); try simp only [put_lit, List.set_cons_zero, List.set_cons_succ]
              refine wpAnyH_done (by kernel_rfl) ?_ _
              replace h0 := hr_old (g := p5) (cs := iv (XB n true v (k + 1)) B5 d5) h0 (by omega)
              replace hb := below_setRow hb (g := p5) (by omega) (iv (XB n true v (k + 1)) B5 d5)
              replace j5 := j5.put h5 (iv (XB n true v (k + 1)) B5 d5)
              replace h5 := hr_new (cs := iv (XB n true v (k + 1)) B5 d5) h5
              go_wp2_with fail
              go_roundw
              case rel => exact ⟨k + 1, B5, d5, by omega, by go_num, h5, h0, j5, hb⟩
              case measure => simp [intOf]; omega
            · refine sh_call (i := 2) rfl rfl (fun K hK => ?_); go_simp; refine ⟨_, _, ⟨rfl, rfl⟩, hK _ _ ⟨_, PowerT_any (k : Int) (by omega) (by omega) _, ?_⟩⟩; clear hK K; rintro e v2 ⟨B4, d4, rfl, j4, hb1⟩; refine ⟨_, rfl, hS.below hb1, ?_⟩; replace hS := hS.below hb1; replace h0 := below_look hb1 h0; replace h5 := below_look hb1 h5; replace hI := hI.below hb1; replace hb := hb.trans (hb1.mono hb.size); clear hb1; try simp only [put_lit, List.set_cons_zero, List.set_cons_succ]
              refine ha_do (i := 0) (by kernel_rfl) rfl rfl (ex_row rfl (rowIv h5)) hS ?_; try simp only [put_lit, List.set_cons_zero, List.set_cons_succ]
              refine ha_call (i := 3) (by kernel_rfl) rfl rfl (fun K hK => ?_); go_simp; refine ⟨_, _, ⟨rfl, rfl⟩, hK _ _ ⟨_, Sum2_any (XB n true v k) (t2 (k : Int)) _ _ _ _ _ hI j4 (by have := NX.out; omega) (by have := nl_t2 (x := (k : Int)) (by omega); omega), ?_⟩⟩; clear hK K; rintro e v3 ⟨B5, d5, rfl, j5, hb1⟩; refine ⟨_, rfl, hS.below hb1, ?_⟩; replace hS := hS.below hb1; replace h0 := below_look hb1 h0; replace h5 := below_look hb1 h5; replace hb := hb.trans (hb1.mono hb.size); clear hb1; rw [← HX.out] at j5 ⊢; try simp only [put_lit, List.set_cons_zero, List.set_cons_succ]
              refine ha_store (i := 4) (by kernel_rfl) rfl rfl 84 _ _ rfl _ (iv (XB n true v (k + 1)) B5 d5) rfl rfl 84 _ h5 info84 rfl (iv_one _ _ _) (hS.setRow (by simp) _) (fun hS => ?_); try simp only [put_lit, List.set_cons_zero, List.set_cons_succ]
              refine wpAnyH_done (by kernel_rfl) ?_ _
              replace h0 := hr_old (g := p5) (cs := iv (XB n true v (k + 1)) B5 d5) h0 (by omega)
              replace hb := below_setRow hb (g := p5) (by omega) (iv (XB n true v (k + 1)) B5 d5)
              replace j5 := j5.put h5 (iv (XB n true v (k + 1)) B5 d5)
              replace h5 := hr_new (cs := iv (XB n true v (k + 1)) B5 d5) h5
              go_wp2_with fail
              go_roundw
              case rel => exact ⟨k + 1, B5, d5, by omega, by go_num, h5, h0, j5, hb⟩
              case measure => simp [intOf]; omega
    · obtain rfl : k = n := by omega
      have HX := Lib.hid (XB_full h1 s HV.out)
      go_upto_region 9 with (fail)
      apply wp_region_lit
      ((with_reducible apply wl_rowG); exact rfl; exact rfl; exact rowIv (by with_reducible assumption))
      ((with_reducible apply wl_putI); exact rfl; exact rfl; exact h0; intro w5 hbx hk hq hi; replace hI := hi _ _ _ hI; replace hb := hbx _ _ (by omega) hb; clear h0; have h0 := hq; clear hbx hk hq hi)
      go_wp2_with fail
      rw [HX.out] at h0 hI
      exact bodyPost_ret (res_iv rfl _ _ w.heap.size rfl h0) rfl ⟨A2, c2, rfl, hI, hb⟩
end Go.Proofs.Ytclainfdeghgnaa

namespace Go.Proofs.Ytclainfdeghgnaa.Nm
open Go.RowKit Go.Proofs.Ytclainfdeghgnaa
section
variable {ops : Array Oper} {Q : Exit → Act → World → Prop} {md : Region.Mode} {S : World → Prop} {i : Nat} {oi : Oper} {fuel : Nat} {listed : Array Bool} {a : Act} {w : World}
end
end Go.Proofs.Ytclainfdeghgnaa.Nm

namespace Go.Proofs.Ytclainfdeghgnaa
open Go.RowKit Go.Proofs.Ytclainfdeghgnaa.Nm Go.Proofs.Ytclainfdeghgnaa.Lm
theorem nl_3 {x : Int} (h : x.natAbs ≤ 18446744073709551616) : nl x.natAbs ≤ 3 := nl_le _ 3 (Nat.lt_of_le_of_lt h (by rw [B_eq]; decide))
theorem one121 {w : World} {ad : Addr} {v : Value} (h : w.cell? ad = some v) : OneAt w 121 ad v := one_of u121 rfl h
theorem bt_test (v k : Nat) : bt v k = if v.testBit k then 1 else 0 := by
  unfold bt; rw [Nat.testBit_eq_decide_div_mod_eq]
  have := Nat.mod_lt (v / 2 ^ k) (show 0 < 2 by decide)
  by_cases h : v / 2 ^ k % 2 = 1
  · simp [h]
  · rw [decide_eq_false h]; simp; omega
/-- words lie in block g, which may be written -/
def WordsAt (w : World) (g n : Nat) (f : Nat → Nat) : Prop := ∃ cur, w.heap[g]? = some (.cells cur 121 (0, 0)) ∧ ∀ j, j < n → cur[j]? = some (.int .u32 ((f j : Nat) : Int))
theorem WordsAt.below {w w' : World} {g n : Nat} {f : Nat → Nat} (h : WordsAt w g n f) (hb : Below w.heap.size w w') : WordsAt w' g n f := by
  obtain ⟨cur, h1, h2⟩ := h; exact ⟨cur, below_look hb h1, h2⟩
theorem WordsAt.lt {w : World} {g n : Nat} {f : Nat → Nat} (h : WordsAt w g n f) : g < w.heap.size := by obtain ⟨_, h, _⟩ := h; exact heap_lt h
theorem WordsAt.cell {w : World} {g n k : Nat} {f : Nat → Nat} (h : WordsAt w g n f) (hk : k < n) : w.cell? ⟨g, k, none⟩ = some (.int .u32 ((f k : Nat) : Int)) ∧ w.frozen? ⟨g, k, none⟩ = false := by
  obtain ⟨cur, h1, h2⟩ := h
  exact ⟨by rw [cell_of_row _ _ _ _ _ _ h1]; exact h2 k hk, frozen_of_row _ _ _ _ _ h1⟩
theorem WordsAt.bits {w : World} {g n v : Nat} {f : Nat → Nat} (h : WordsAt w g n f) (hf : ∀ j, j < n → f j = bt v j) : BitsAt w g n v :=
  ⟨h.lt, fun j hj => by rw [(h.cell hj).1, hf j hj]⟩
theorem own_words {w : World} {b n v : Nat} {sv : Value} (h : w.ownsRow b 121 1 sv n (brow v n)) (hn : 1 ≤ n) : ∃ g cap, sv = .slice (some ⟨g, 0, none⟩) n cap ∧ b ≤ g ∧ WordsAt w g n (bt v) := by
  obtain ⟨g, cap, cur, h1, h2, _, h3, h4, h5, h6⟩ := own_bits h hn
  refine ⟨g, cap, h1, h2, cur, h3, fun j hj => ?_⟩
  have := brow_get (v := v) hj
  rw [← h6, List.getElem?_take_of_lt hj] at this
  simpa using this
end Go.Proofs.Ytclainfdeghgnaa

namespace Go.Proofs.Ytclainfdeghgnaa
open Go.RowKit Go.Proofs.Ytclainfdeghgnaa.Nm Go.Proofs.Ytclainfdeghgnaa.Lm
theorem bc_bt (v k : Nat) : bc v k = if bt v k = 0 then 48 else 49 := by
  unfold bc; rw [bt_test]; cases v.testBit k <;> rfl
set_option maxHeartbeats 400000 in
theorem BitsI_none (m : ByteArray) (n : Int) (s : Bool) (hx : rdm m = none) (w : World) :
    Calls Try.prog 49 #[.string m, .int .i64 n, .bool s] w fun e w' => e = .returned (.tuple #[.string ⟨#[]⟩, .int .i64 4]) ∧ Below w.heap.size w w' := by
  have R1 := Lib.hid (ReadI_any m)
  rw [hx] at R1
  clear hx
  go_enter Try.func49, Try.ntmps49
  go_upto_region 1 with (fail)
  have hb := Below.refl w.heap.size w
  apply wp_region_lit
  refine wl_k rfl (fun K hK => ?_); go_simp; refine hK _ ?_; clear hK K
  refine wl_ck rfl (fun K hK => ?_); go_simp; refine ⟨_, _, ⟨rfl, rfl⟩, hK _ _ ⟨_, R1.out _, ?_⟩⟩; clear hK K; rintro e w1 ⟨A1, c1, rfl, i1, hb1⟩; refine ⟨_, rfl, ?_⟩; simp only [put_lit, List.set_cons_zero, List.set_cons_succ]
  replace hb := hb.trans (hb1.mono hb.size); clear hb1
  refine wl_k rfl (fun K hK => ?_); go_simp; refine hK _ ?_; clear hK K
  refine wl_k rfl (fun K hK => ?_); go_simp; refine hK _ ?_; clear hK K
  refine wl_k rfl (fun K hK => ?_); go_simp; refine hK _ ?_; clear hK K
  (have lsp8 := hb.size; (with_reducible apply wl_new84); intro w2 p8 hbn hlp8 hp8; replace i1 := i1.below hbn; replace hb := hb.trans (hbn.mono hb.size); clear hbn)
  ((with_reducible apply wl_putI); exact rfl; exact rfl; exact hp8; intro w3 hbx hk hq hi; replace i1 := hi _ _ _ i1; replace hb := hbx _ _ (by omega) hb; clear hp8; have hp8 := hq; clear hbx hk hq hi)
  go_wp2_with fail
  exact bodyPost_ret (results_tmp2 rfl _ _ _) rfl ⟨rfl, hb⟩
set_option maxHeartbeats 400000 in
theorem BitsI_name (m : ByteArray) (n : Int) (s : Bool) (x : Int) (hx : rdm m = some x) (hr : Hid (isRight n = false)) (w : World) :
    Calls Try.prog 49 #[.string m, .int .i64 n, .bool s] w fun e w' => e = .returned (.tuple #[.string ⟨#[]⟩, .int .i64 3]) ∧ Below w.heap.size w w' := by
  have R1 := Lib.hid (ReadI_any m)
  rw [hx] at R1
  simp only [Option.getD_some, Option.isSome_some] at R1
  clear hx
  go_enter Try.func49, Try.ntmps49
  go_upto_region 1 with (fail)
  have hb := Below.refl w.heap.size w
  apply wp_region_lit
  refine wl_k rfl (fun K hK => ?_); go_simp; refine hK _ ?_; clear hK K
  refine wl_ck rfl (fun K hK => ?_); go_simp; refine ⟨_, _, ⟨rfl, rfl⟩, hK _ _ ⟨_, R1.out _, ?_⟩⟩; clear hK K; rintro e w1 ⟨A1, c1, rfl, i1, hb1⟩; refine ⟨_, rfl, ?_⟩; simp only [put_lit, List.set_cons_zero, List.set_cons_succ]
  replace hb := hb.trans (hb1.mono hb.size); clear hb1
  refine wl_k rfl (fun K hK => ?_); go_simp; refine hK _ ?_; clear hK K
  refine wl_k rfl (fun K hK => ?_); go_simp; refine hK _ ?_; clear hK K
  refine wl_k rfl (fun K hK => ?_); go_simp; refine hK _ ?_; clear hK K
  (have lsp8 := hb.size; (with_reducible apply wl_new84); intro w2 p8 hbn hlp8 hp8; replace i1 := i1.below hbn; replace hb := hb.trans (hbn.mono hb.size); clear hbn)
  ((with_reducible apply wl_putI); exact rfl; exact rfl; exact hp8; intro w3 hbx hk hq hi; replace i1 := hi _ _ _ i1; replace hb := hbx _ _ (by omega) hb; clear hp8; have hp8 := hq; clear hbx hk hq hi)
  go_upto_region 4 with (fail)
  apply wp_region_lit
  refine wl_k rfl (fun K hK => ?_); go_simp; refine hK _ ?_; clear hK K
  refine wl_ck rfl (fun K hK => ?_); go_simp; refine ⟨_, _, ⟨rfl, rfl⟩, hK _ _ ⟨_, isWidth_any n false (Lib.hid hr.out.symm) _, ?_⟩⟩; clear hK K; rintro e w4 ⟨rfl, hb1⟩; refine ⟨_, rfl, ?_⟩; simp only [put_lit, List.set_cons_zero, List.set_cons_succ]
  replace hp8 := below_look hb1 hp8; replace i1 := i1.below hb1; replace hb := hb.trans (hb1.mono hb.size); clear hb1
  go_wp2_with fail
  exact bodyPost_ret (results_tmp2 rfl _ _ _) rfl ⟨rfl, hb⟩
set_option maxHeartbeats 400000 in
theorem BitsI_range (m : ByteArray) (n : Int) (s : Bool) (x : Int) (hx : rdm m = some x) (hr : Hid (isRight n = true)) (n1 : 1 ≤ n) (n2 : n ≤ 64) (HR : Hid (hasW n.toNat s x = false)) (w : World) :
    Calls Try.prog 49 #[.string m, .int .i64 n, .bool s] w fun e w' => e = .returned (.tuple #[.string ⟨#[]⟩, .int .i64 1]) ∧ Below w.heap.size w w' := by
  have R1 := Lib.hid (ReadI_any m)
  have nx := rdm_nl (m := m)
  rw [hx] at R1 nx
  simp only [Option.getD_some, Option.isSome_some] at R1 nx
  clear hx
  go_enter Try.func49, Try.ntmps49
  go_upto_region 1 with (fail)
  have hb := Below.refl w.heap.size w
  apply wp_region_lit
  refine wl_k rfl (fun K hK => ?_); go_simp; refine hK _ ?_; clear hK K
  refine wl_ck rfl (fun K hK => ?_); go_simp; refine ⟨_, _, ⟨rfl, rfl⟩, hK _ _ ⟨_, R1.out _, ?_⟩⟩; clear hK K; rintro e w1 ⟨A1, c1, rfl, i1, hb1⟩; refine ⟨_, rfl, ?_⟩; simp only [put_lit, List.set_cons_zero, List.set_cons_succ]
  replace hb := hb.trans (hb1.mono hb.size); clear hb1
  refine wl_k rfl (fun K hK => ?_); go_simp; refine hK _ ?_; clear hK K
  refine wl_k rfl (fun K hK => ?_); go_simp; refine hK _ ?_; clear hK K
  refine wl_k rfl (fun K hK => ?_); go_simp; refine hK _ ?_; clear hK K
  (have lsp8 := hb.size; (with_reducible apply wl_new84); intro w2 p8 hbn hlp8 hp8; replace i1 := i1.below hbn; replace hb := hb.trans (hbn.mono hb.size); clear hbn)
  ((with_reducible apply wl_putI); exact rfl; exact rfl; exact hp8; intro w3 hbx hk hq hi; replace i1 := hi _ _ _ i1; replace hb := hbx _ _ (by omega) hb; clear hp8; have hp8 := hq; clear hbx hk hq hi)
  go_upto_region 4 with (fail)
  apply wp_region_lit
  refine wl_k rfl (fun K hK => ?_); go_simp; refine hK _ ?_; clear hK K
  refine wl_ck rfl (fun K hK => ?_); go_simp; refine ⟨_, _, ⟨rfl, rfl⟩, hK _ _ ⟨_, isWidth_any n true (Lib.hid hr.out.symm) _, ?_⟩⟩; clear hK K; rintro e w4 ⟨rfl, hb1⟩; refine ⟨_, rfl, ?_⟩; simp only [put_lit, List.set_cons_zero, List.set_cons_succ]
  replace hp8 := below_look hb1 hp8; replace i1 := i1.below hb1; replace hb := hb.trans (hb1.mono hb.size); clear hb1
  go_upto_region 6 with (fail)
  apply wp_region_lit
  ((with_reducible apply wl_rowG); exact rfl; exact rfl; exact rowIv hp8)
  refine wl_k rfl (fun K hK => ?_); go_simp; refine hK _ ?_; clear hK K
  refine wl_k rfl (fun K hK => ?_); go_simp; refine hK _ ?_; clear hK K
  refine wl_ck rfl (fun K hK => ?_); go_simp; refine ⟨_, _, ⟨rfl, rfl⟩, hK _ _ ⟨_, withinI_any x n s A1 c1 n1 n2 _ i1 (by omega) false HR, ?_⟩⟩; clear hK K; rintro e w5 ⟨rfl, hb1⟩; refine ⟨_, rfl, ?_⟩; simp only [put_lit, List.set_cons_zero, List.set_cons_succ]
  replace hp8 := below_look hb1 hp8; replace i1 := i1.below hb1; replace hb := hb.trans (hb1.mono hb.size); clear hb1
  go_wp2_with fail
  exact bodyPost_ret (results_tmp2 rfl _ _ _) rfl ⟨rfl, hb⟩
theorem str_cons (c : UInt8) (l : List UInt8) : (⟨#[c]⟩ : ByteArray) ++ ⟨l.toArray⟩ = ⟨(c :: l).toArray⟩ := by
  apply ByteArray.ext; simp [ByteArray.data_append]
set_option maxHeartbeats 2000000 in
set_option maxRecDepth 100000 in
theorem BitsI_ok (m : ByteArray) (N : Nat) (n : Int) (hn : n = (N : Int)) (s : Bool) (x : Int) (hx : rdm m = some x) (hr : Hid (isRight n = true)) (n1 : 1 ≤ n) (n2 : n ≤ 64) (HR : Hid (hasW n.toNat s x = true)) (v : Nat) (HV : Hid ((v : Int) = x % ((2 ^ N : Nat) : Int))) (w : World) :
    Calls Try.prog 49 #[.string m, .int .i64 n, .bool s] w fun e w' => e = .returned (.tuple #[.string ⟨(btxt v N).toArray⟩, .int .i64 0]) ∧ Below w.heap.size w w' := by
  have R1 := Lib.hid (ReadI_any m)
  have nx := rdm_nl (m := m)
  rw [hx] at R1 nx
  simp only [Option.getD_some, Option.isSome_some] at R1 nx
  clear hx
  have HP : Hid (∀ (A : Option Addr) (c : Nat) (W : World), IvAt W x A c → Calls Try.prog 94 #[.agg (iv x A c), .int .i64 n] W fun e w' => ∃ sv, e = .returned sv ∧ w'.ownsRow W.heap.size 121 1 sv N (brow v N) ∧ Below W.heap.size W w') := Lib.hid (fun A c W hI => by rw [hn]; exact PatI_any x A c N (by omega) (by omega) W hI (by omega) v HV.out)
  have HN := Lib.hid hn
  clear hn
  go_enter Try.func49, Try.ntmps49
  go_upto_region 1 with (fail)
  have hb := Below.refl w.heap.size w
  apply wp_region_lit
  refine wl_k rfl (fun K hK => ?_); go_simp; refine hK _ ?_; clear hK K
  refine wl_ck rfl (fun K hK => ?_); go_simp; refine ⟨_, _, ⟨rfl, rfl⟩, hK _ _ ⟨_, R1.out _, ?_⟩⟩; clear hK K; rintro e w1 ⟨A1, c1, rfl, i1, hb1⟩; refine ⟨_, rfl, ?_⟩; simp only [put_lit, List.set_cons_zero, List.set_cons_succ]
  replace hb := hb.trans (hb1.mono hb.size); clear hb1
  refine wl_k rfl (fun K hK => ?_); go_simp; refine hK _ ?_; clear hK K
  refine wl_k rfl (fun K hK => ?_); go_simp; refine hK _ ?_; clear hK K
  refine wl_k rfl (fun K hK => ?_); go_simp; refine hK _ ?_; clear hK K
  (have lsp8 := hb.size; (with_reducible apply wl_new84); intro w2 p8 hbn hlp8 hp8; replace i1 := i1.below hbn; replace hb := hb.trans (hbn.mono hb.size); clear hbn)
  ((with_reducible apply wl_putI); exact rfl; exact rfl; exact hp8; intro w3 hbx hk hq hi; replace i1 := hi _ _ _ i1; replace hb := hbx _ _ (by omega) hb; clear hp8; have hp8 := hq; clear hbx hk hq hi)
  go_upto_region 4 with (fail)
  apply wp_region_lit
  refine wl_k rfl (fun K hK => ?_); go_simp; refine hK _ ?_; clear hK K
  refine wl_ck rfl (fun K hK => ?_); go_simp; refine ⟨_, _, ⟨rfl, rfl⟩, hK _ _ ⟨_, isWidth_any n true (Lib.hid hr.out.symm) _, ?_⟩⟩; clear hK K; rintro e w4 ⟨rfl, hb1⟩; refine ⟨_, rfl, ?_⟩; simp only [put_lit, List.set_cons_zero, List.set_cons_succ]
  replace hp8 := below_look hb1 hp8; replace i1 := i1.below hb1; replace hb := hb.trans (hb1.mono hb.size); clear hb1
  go_upto_region 6 with (fail)
  apply wp_region_lit
  ((with_reducible apply wl_rowG); exact rfl; exact rfl; exact rowIv hp8)
  refine wl_k rfl (fun K hK => ?_); go_simp; refine hK _ ?_; clear hK K
  refine wl_k rfl (fun K hK => ?_); go_simp; refine hK _ ?_; clear hK K
  refine wl_ck rfl (fun K hK => ?_); go_simp; refine ⟨_, _, ⟨rfl, rfl⟩, hK _ _ ⟨_, withinI_any x n s A1 c1 n1 n2 _ i1 (by omega) true HR, ?_⟩⟩; clear hK K; rintro e w5 ⟨rfl, hb1⟩; refine ⟨_, rfl, ?_⟩; simp only [put_lit, List.set_cons_zero, List.set_cons_succ]
  replace hp8 := below_look hb1 hp8; replace i1 := i1.below hb1; replace hb := hb.trans (hb1.mono hb.size); clear hb1
  go_upto_region 8 with (fail)
  apply wp_region_lit
  ((with_reducible apply wl_rowG); exact rfl; exact rfl; exact rowIv hp8)
  refine wl_k rfl (fun K hK => ?_); go_simp; refine hK _ ?_; clear hK K
  refine wl_ck rfl (fun K hK => ?_); go_simp; refine ⟨_, _, ⟨rfl, rfl⟩, hK _ _ ⟨_, HP.out A1 c1 _ i1, ?_⟩⟩; clear hK K; rintro e w6 ⟨sp, rfl, hsp, hb1⟩; refine ⟨_, rfl, ?_⟩; simp only [put_lit, List.set_cons_zero, List.set_cons_succ]
  replace hb := hb.trans (hb1.mono hb.size); clear hb1
  obtain ⟨g, cap, rfl, _, hg⟩ := own_words hsp (by have := HN.out; omega)
  have hbt := hg.bits (v := v) (fun _ _ => rfl)
  clear hsp hg hp8 i1
  go_wp2_with fail
  go_loopw [11, 12] (fun t i wr => ∃ k : Nat, k ≤ N ∧ i = .int .i64 (k : Int) ∧ t = .string ⟨(btxt v k).toArray⟩ ∧ Hid (BitsAt wr g N v) ∧ Below w.heap.size w wr) (fun _ i _ => (N - intOf i).toNat)
  case atStart => exact ⟨0, by omega, rfl, rfl, Lib.hid hbt, hb⟩
  case round =>
    clear hbt hb
    obtain ⟨k, hk, rfl, rfl, HB, hb⟩ := hrel
    by_cases hlt : k < N
    · have cg := HB.out.2 k hlt
      have hln : (k : Int) < n := by have := HN.out; omega
      have hle := bt_le v k
      have HC : Hid (btxt v (k + 1) = bc v k :: btxt v k) := Lib.hid rfl
      rw [bc_bt] at HC
      obtain ⟨L, hL⟩ : ∃ L, L = btxt v k := ⟨_, rfl⟩
      have hLl : ¬ (9223372036854775807 < 1 + L.length) := by rw [hL, btxt_length]; omega
      rw [← hL] at HC ⊢
      clear hL
      rcases (show bt v k = 0 ∨ bt v k = 1 by omega) with hz | hz
      · rw [hz] at cg HC
        simp only [if_true] at HC
        clear hle hz
        go_upto_region 13 with (fail)
        have hw1 : IntKind.u32.wrap 1 = 1 := by decide
        have hw2 : IntKind.u32.wrap 2 = 2 := by decide
        replace hb := hb.drew
        refine wp_region_held_drew (S := Kept [] wr) mixed (Kept.drew [] wr) (fun hS => ?_)
        refine ha_k (i := 0) rfl (by kernel_rfl) (by kernel_rfl) (by kernel_rfl) (fun _ _ _ _ h => h) hS rfl (fun K hK => ?_); go_simp; refine hK _ ?_; clear hK K; try simp only [put_lit, List.set_cons_zero, List.set_cons_succ]
        refine ha_k (i := 1) rfl (by kernel_rfl) (by kernel_rfl) (by kernel_rfl) (fun _ _ _ _ h => h) hS rfl (fun K hK => ?_); go_simp; refine hK _ ?_; clear hK K; try simp only [put_lit, List.set_cons_zero, List.set_cons_succ]
        refine ha_k (i := 2) rfl (by kernel_rfl) (by kernel_rfl) (by kernel_rfl) (fun _ _ _ _ h => h) hS rfl (fun K hK => ?_); go_simp; refine hK _ ?_; clear hK K; try simp only [put_lit, List.set_cons_zero, List.set_cons_succ]
        refine ha_val (i := 3) rfl (by kernel_rfl) (by kernel_rfl) (by kernel_rfl) (fun _ _ _ h => h) hS rfl (fun w' hw' => ex_one rfl (one121 (hw'.cell cg (by simp <;> omega)))) ?_; try simp only [put_lit, List.set_cons_zero, List.set_cons_succ]
        refine ha_k (i := 4) rfl (by kernel_rfl) (by kernel_rfl) (by kernel_rfl) (fun _ _ _ _ h => h) hS rfl (fun K hK => ?_); go_simp; refine hK _ ?_; clear hK K; try simp only [put_lit, List.set_cons_zero, List.set_cons_succ]
        refine ha_k (i := 5) rfl (by kernel_rfl) (by kernel_rfl) (by kernel_rfl) (fun _ _ _ _ h => h) hS rfl (fun K hK => ?_); go_simp; refine hK _ ?_; clear hK K; try simp only [put_lit, List.set_cons_zero, List.set_cons_succ]
        refine ha_k (i := 6) rfl (by kernel_rfl) (by kernel_rfl) (by kernel_rfl) (fun _ _ _ _ h => h) hS rfl (fun K hK => ?_); go_simp; refine hK _ ?_; clear hK K; try simp only [put_lit, List.set_cons_zero, List.set_cons_succ]
        refine ha_val (i := 7) rfl (by kernel_rfl) (by kernel_rfl) (by kernel_rfl) (fun _ _ _ h => h) hS rfl (fun w' hw' => ex_one rfl (one121 (hw'.cell cg (by simp <;> omega)))) ?_; try simp only [put_lit, List.set_cons_zero, List.set_cons_succ]
        refine ha_k (i := 8) rfl (by kernel_rfl) (by kernel_rfl) (by kernel_rfl) (fun _ _ _ _ h => h) hS rfl (fun K hK => ?_); go_simp; refine hK _ ?_; clear hK K; try simp only [put_lit, List.set_cons_zero, List.set_cons_succ]
        refine ha_k (i := 9) rfl (by kernel_rfl) (by kernel_rfl) (by kernel_rfl) (fun _ _ _ _ h => h) hS rfl (fun K hK => ?_); go_simp; refine hK _ ?_; clear hK K; try simp only [put_lit, List.set_cons_zero, List.set_cons_succ]
        refine ha_k (i := 10) rfl (by kernel_rfl) (by kernel_rfl) (by kernel_rfl) (fun _ _ _ _ h => h) hS rfl (fun K hK => ?_); go_simp; refine hK _ ?_; clear hK K; try simp only [put_lit, List.set_cons_zero, List.set_cons_succ]
        refine ha_k (i := 11) rfl (by kernel_rfl) (by kernel_rfl) (by kernel_rfl) (fun _ _ _ _ h => h) hS rfl (fun K hK => ?_); go_simp; refine hK _ ?_; clear hK K; try simp only [put_lit, List.set_cons_zero, List.set_cons_succ]
        refine ha_k (i := 12) rfl (by kernel_rfl) (by kernel_rfl) (by kernel_rfl) (fun _ _ _ _ h => h) hS rfl (fun K hK => ?_); go_simp; refine hK _ ?_; clear hK K; try simp only [put_lit, List.set_cons_zero, List.set_cons_succ]
        refine wpAnyH_done (by kernel_rfl) ?_ _
        clear hS cg
        go_wp2_with fail
        go_roundw
        case rel => exact ⟨k + 1, by omega, by go_num, by rw [HC.out, ← str_cons]; rfl, HB, hb⟩
        case measure => simp [intOf]; omega
      · rw [hz] at cg HC
        simp only [Nat.one_ne_zero, if_false] at HC
        clear hle hz
        go_upto_region 13 with (fail)
        have hw1 : IntKind.u32.wrap 1 = 1 := by decide
        have hw2 : IntKind.u32.wrap 2 = 2 := by decide
        replace hb := hb.drew
        refine wp_region_held_drew (S := Kept [] wr) mixed (Kept.drew [] wr) (fun hS => ?_)
        refine ha_k (i := 0) rfl (by kernel_rfl) (by kernel_rfl) (by kernel_rfl) (fun _ _ _ _ h => h) hS rfl (fun K hK => ?_); go_simp; refine hK _ ?_; clear hK K; try simp only [put_lit, List.set_cons_zero, List.set_cons_succ]
        refine ha_k (i := 1) rfl (by kernel_rfl) (by kernel_rfl) (by kernel_rfl) (fun _ _ _ _ h => h) hS rfl (fun K hK => ?_); go_simp; refine hK _ ?_; clear hK K; try simp only [put_lit, List.set_cons_zero, List.set_cons_succ]
        refine ha_k (i := 2) rfl (by kernel_rfl) (by kernel_rfl) (by kernel_rfl) (fun _ _ _ _ h => h) hS rfl (fun K hK => ?_); go_simp; refine hK _ ?_; clear hK K; try simp only [put_lit, List.set_cons_zero, List.set_cons_succ]
        refine ha_val (i := 3) rfl (by kernel_rfl) (by kernel_rfl) (by kernel_rfl) (fun _ _ _ h => h) hS rfl (fun w' hw' => ex_one rfl (one121 (hw'.cell cg (by simp <;> omega)))) ?_; try simp only [put_lit, List.set_cons_zero, List.set_cons_succ]
        refine ha_k (i := 4) rfl (by kernel_rfl) (by kernel_rfl) (by kernel_rfl) (fun _ _ _ _ h => h) hS rfl (fun K hK => ?_); go_simp; refine hK _ ?_; clear hK K; try simp only [put_lit, List.set_cons_zero, List.set_cons_succ]
        refine ha_k (i := 5) rfl (by kernel_rfl) (by kernel_rfl) (by kernel_rfl) (fun _ _ _ _ h => h) hS rfl (fun K hK => ?_); go_simp; refine hK _ ?_; clear hK K; try simp only [put_lit, List.set_cons_zero, List.set_cons_succ]
        refine ha_k (i := 6) rfl (by kernel_rfl) (by kernel_rfl) (by kernel_rfl) (fun _ _ _ _ h => h) hS rfl (fun K hK => ?_); go_simp; refine hK _ ?_; clear hK K; try simp only [put_lit, List.set_cons_zero, List.set_cons_succ]
        refine ha_val (i := 7) rfl (by kernel_rfl) (by kernel_rfl) (by kernel_rfl) (fun _ _ _ h => h) hS rfl (fun w' hw' => ex_one rfl (one121 (hw'.cell cg (by simp <;> omega)))) ?_; try simp only [put_lit, List.set_cons_zero, List.set_cons_succ]
        refine ha_k (i := 8) rfl (by kernel_rfl) (by kernel_rfl) (by kernel_rfl) (fun _ _ _ _ h => h) hS rfl (fun K hK => ?_); go_simp; refine hK _ ?_; clear hK K; try simp only [put_lit, List.set_cons_zero, List.set_cons_succ]
        refine ha_k (i := 9) rfl (by kernel_rfl) (by kernel_rfl) (by kernel_rfl) (fun _ _ _ _ h => h) hS rfl (fun K hK => ?_); go_simp; refine hK _ ?_; clear hK K; try simp only [put_lit, List.set_cons_zero, List.set_cons_succ]
        refine ha_k (i := 10) rfl (by kernel_rfl) (by kernel_rfl) (by kernel_rfl) (fun _ _ _ _ h => h) hS rfl (fun K hK => ?_); go_simp; refine hK _ ?_; clear hK K; try simp only [put_lit, List.set_cons_zero, List.set_cons_succ]
        refine ha_k (i := 11) rfl (by kernel_rfl) (by kernel_rfl) (by kernel_rfl) (fun _ _ _ _ h => h) hS rfl (fun K hK => ?_); go_simp; refine hK _ ?_; clear hK K; try simp only [put_lit, List.set_cons_zero, List.set_cons_succ]
        refine ha_k (i := 12) rfl (by kernel_rfl) (by kernel_rfl) (by kernel_rfl) (fun _ _ _ _ h => h) hS rfl (fun K hK => ?_); go_simp; refine hK _ ?_; clear hK K; try simp only [put_lit, List.set_cons_zero, List.set_cons_succ]
        refine wpAnyH_done (by kernel_rfl) ?_ _
        clear hS cg
        go_wp2_with fail
        go_roundw
        case rel => exact ⟨k + 1, by omega, by go_num, by rw [HC.out, ← str_cons]; rfl, HB, hb⟩
        case measure => simp [intOf]; omega
    · obtain rfl : k = N := by omega
      have hln : ¬ (k : Int) < n := by have := HN.out; omega
      go_wp2_with fail
      exact bodyPost_ret (results_tmp2 rfl _ _ _) rfl ⟨rfl, hb⟩
theorem BitsI_any (m : ByteArray) (n : Int) (s : Bool) (t : ByteArray) (er : Int) (h : Hid (bitsS m n s = (t, er))) (w : World) :
    Calls Try.prog 49 #[.string m, .int .i64 n, .bool s] w fun e w' => e = .returned (.tuple #[.string t, .int .i64 er]) ∧ Below w.heap.size w w' := by
  have h := h.out
  unfold bitsS at h
  cases hx : rdm m with
  | none =>
    rw [hx] at h
    simp only [Prod.mk.injEq] at h
    obtain ⟨rfl, rfl⟩ := h
    exact BitsI_none m n s hx w
  | some x =>
    rw [hx] at h
    simp only at h
    by_cases hr : isRight n = true
    · rw [if_pos hr] at h
      obtain ⟨k, hk, k1, k2, k3⟩ := right_bits hr
      by_cases hh : hasI n s x = true
      · rw [if_pos hh] at h
        simp only [Prod.mk.injEq] at h
        obtain ⟨rfl, rfl⟩ := h
        rw [k3]
        exact BitsI_ok m k n hk s x hx (Lib.hid hr) (by omega) (by omega) (Lib.hid hh) _ (Lib.hid (lowN_cast k x)) w
      · rw [if_neg hh] at h
        simp only [Prod.mk.injEq] at h
        obtain ⟨rfl, rfl⟩ := h
        exact BitsI_range m n s x hx (Lib.hid hr) (by omega) (by omega) (Lib.hid (by unfold hasI at hh; simpa using hh)) w
    · rw [if_neg hr] at h
      simp only [Prod.mk.injEq] at h
      obtain ⟨rfl, rfl⟩ := h
      exact BitsI_name m n s x hx (Lib.hid (by simpa using hr)) w
set_option maxHeartbeats 400000 in
theorem FromBitsI_no (d : List UInt8) (s : Bool) (hr : Hid (isRight (d.length : Int) = false)) (w : World) :
    Calls Try.prog 51 #[.string ⟨d.toArray⟩, .bool s] w fun e w' => e = .returned (.tuple #[.string ⟨#[]⟩, .int .i64 4]) ∧ Below w.heap.size w w' := by
  go_enter Try.func51, Try.ntmps51
  go_upto_region 1 with (fail)
  have hb := Below.refl w.heap.size w
  apply wp_region_lit
  refine wl_k rfl (fun K hK => ?_); go_simp; refine hK _ ?_; clear hK K
  refine wl_k rfl (fun K hK => ?_); go_simp; refine hK _ ?_; clear hK K
  refine wl_ck rfl (fun K hK => ?_); go_simp; refine ⟨_, _, ⟨rfl, rfl⟩, hK _ _ ⟨_, isWidth_any (d.length : Int) false (Lib.hid hr.out.symm) _, ?_⟩⟩; clear hK K; rintro e w1 ⟨rfl, hb1⟩; refine ⟨_, rfl, ?_⟩; simp only [put_lit, List.set_cons_zero, List.set_cons_succ]
  replace hb := hb.trans (hb1.mono hb.size); clear hb1
  go_wp2_with fail
  exact bodyPost_ret (results_tmp2 rfl _ _ _) rfl ⟨rfl, hb⟩
set_option maxHeartbeats 2000000 in
set_option maxRecDepth 100000 in
theorem FromBitsI_yes (d : List UInt8) (s : Bool) (n1 : 1 ≤ d.length) (n2 : d.length ≤ 64) (hr : Hid (isRight (d.length : Int) = true)) (R : Ending) (HR0 : Hid (d.all okb = true → R = .returned (.tuple #[.string ⟨(txt (wrapW d.length s ((bvN d : Nat) : Int))).toArray⟩, .int .i64 0]))) (HR1 : Hid (d.all okb = false → R = .returned (.tuple #[.string ⟨#[]⟩, .int .i64 4]))) (w : World) :
    Calls Try.prog 51 #[.string ⟨d.toArray⟩, .bool s] w fun e w' => e = R ∧ Below w.heap.size w w' := by
  have HV := Lib.hid (bvN_lt d)
  have HBT := Lib.hid (bvN_bit d)
  obtain ⟨v, hv⟩ : ∃ v, v = bvN d := ⟨_, rfl⟩
  rw [← hv] at HV HBT HR0
  clear hv
  go_enter Try.func51, Try.ntmps51
  go_upto_region 1 with (fail)
  have hb := Below.refl w.heap.size w
  apply wp_region_lit
  refine wl_k rfl (fun K hK => ?_); go_simp; refine hK _ ?_; clear hK K
  refine wl_k rfl (fun K hK => ?_); go_simp; refine hK _ ?_; clear hK K
  refine wl_ck rfl (fun K hK => ?_); go_simp; refine ⟨_, _, ⟨rfl, rfl⟩, hK _ _ ⟨_, isWidth_any (d.length : Int) true (Lib.hid hr.out.symm) _, ?_⟩⟩; clear hK K; rintro e w1 ⟨rfl, hb1⟩; refine ⟨_, rfl, ?_⟩; simp only [put_lit, List.set_cons_zero, List.set_cons_succ]
  replace hb := hb.trans (hb1.mono hb.size); clear hb1
  go_wp2_with fail
  go_loopw [6, 7] (fun sv i wr => ∃ k : Nat, k ≤ d.length ∧ i = .int .i64 ((d.length : Int) - 1 - (k : Int)) ∧ Hid (∀ j, j < k → okb (d.reverse.getD j 48) = true) ∧ Hid (wr.ownsRow w1.heap.size 121 1 sv k (brow v k)) ∧ Hid (Below w1.heap.size w1 wr)) (fun _ i _ => (intOf i + 1).toNat)
  case atStart => exact ⟨0, by omega, by go_num, Lib.hid (fun j hj => absurd hj (by omega)), Lib.hid ⟨rfl, Or.inl ⟨rfl, rfl⟩⟩, Lib.hid (Below.refl _ _)⟩
  case round =>
    obtain ⟨k, hk, rfl, HO, HW, HL⟩ := hrel
    by_cases hlt : k < d.length
    · obtain ⟨j, hj⟩ : ∃ j, d.length = j + 1 + k := ⟨d.length - 1 - k, by omega⟩
      have hjl : j < d.length := by omega
      have hjs : j < d.toArray.size := by simpa using hjl
      obtain ⟨c, hcc⟩ : ∃ c, c = d[j] := ⟨_, rfl⟩
      have hrc : d.reverse.getD k 48 = c := by
        rw [List.getD_eq_getElem?_getD, List.getElem?_reverse (by omega), show d.length - 1 - k = j by omega, List.getElem?_eq_getElem hjl, hcc]; rfl
      rw [show (d.length : Int) - 1 - (k : Int) = (j : Int) by omega]
      have HJ := Lib.hid hj
      have HBK := Lib.hid (HBT.out k hlt)
      rw [hrc] at HBK
      have HCC := Lib.hid (show (ByteArray.mk d.toArray)[j]'hjs = c from hcc.symm)
      have HRC := Lib.hid hrc
      have hcl : c.toNat < 256 := UInt8.toNat_lt c
      have hjd : (j : Int) < (d.length : Int) := by omega
      clear hj hrc hcc
      by_cases c0 : c = 48
      · subst c0
        have HBK2 := Lib.hid (show bt v k = 0 by rw [bt_test, HBK.out]; rfl)
        clear HBK
        go_upto_region 9 with (rw [HCC.out])
        apply wp_region_lit
        refine wl_k rfl (fun K hK => ?_); go_simp; refine hK _ ?_; clear hK K
        refine wl_k rfl (fun K hK => ?_); go_simp; refine hK _ ?_; clear hK K
        refine wl_k rfl (fun K hK => ?_); go_simp; refine hK _ ?_; clear hK K
        refine wl_k rfl (fun K hK => ?_); go_simp; refine hK _ ?_; clear hK K
        refine wl_k rfl (fun K hK => ?_); go_simp; refine hK _ ?_; clear hK K
        refine wl_k rfl (fun K hK => ?_); go_simp; refine hK _ ?_; clear hK K
        refine wl_pushG (z := ((0 : Nat) : Int)) (k := k) (ys := brow v (k + 1)) (by show Value.int .u32 (IntKind.u32.wrap (IntKind.u8.wrap (((ByteArray.mk d.toArray)[j]'hjs).toNat - 48))) = _; rw [HCC.out]; rfl) HW.out HL.out (by omega) (by rw [← brow_succ, HBK2.out]) (fun _ => rfl) (fun _ => rfl) ?_
        intro v' w2 hown2 hb2
        clear HW HL
        have HW := Lib.hid hown2
        have HL := Lib.hid hb2
        clear hown2 hb2
        simp only [put_lit, List.set_cons_zero, List.set_cons_succ]
        go_wp2_with fail
        go_roundw
        case rel =>
          refine ⟨k + 1, by omega, by have := HJ.out; go_num, Lib.hid ?_, HW, HL⟩
          intro i hi
          rcases Nat.lt_or_ge i k with h | h
          · exact HO.out i h
          · obtain rfl : i = k := by omega
            rw [HRC.out]
            rfl
        case measure => simp [intOf]
      · by_cases c1 : c = 49
        · subst c1
          have HBK2 := Lib.hid (show bt v k = 1 by rw [bt_test, HBK.out]; rfl)
          clear HBK c0
          go_upto_region 9 with (rw [HCC.out])
          apply wp_region_lit
          refine wl_k rfl (fun K hK => ?_); go_simp; refine hK _ ?_; clear hK K
          refine wl_k rfl (fun K hK => ?_); go_simp; refine hK _ ?_; clear hK K
          refine wl_k rfl (fun K hK => ?_); go_simp; refine hK _ ?_; clear hK K
          refine wl_k rfl (fun K hK => ?_); go_simp; refine hK _ ?_; clear hK K
          refine wl_k rfl (fun K hK => ?_); go_simp; refine hK _ ?_; clear hK K
          refine wl_k rfl (fun K hK => ?_); go_simp; refine hK _ ?_; clear hK K
          refine wl_pushG (z := ((1 : Nat) : Int)) (k := k) (ys := brow v (k + 1)) (by show Value.int .u32 (IntKind.u32.wrap (IntKind.u8.wrap (((ByteArray.mk d.toArray)[j]'hjs).toNat - 48))) = _; rw [HCC.out]; rfl) HW.out HL.out (by omega) (by rw [← brow_succ, HBK2.out]) (fun _ => rfl) (fun _ => rfl) ?_
          intro v' w2 hown2 hb2
          clear HW HL
          have HW := Lib.hid hown2
          have HL := Lib.hid hb2
          clear hown2 hb2
          simp only [put_lit, List.set_cons_zero, List.set_cons_succ]
          go_wp2_with fail
          go_roundw
          case rel =>
            refine ⟨k + 1, by omega, by have := HJ.out; go_num, Lib.hid ?_, HW, HL⟩
            intro i hi
            rcases Nat.lt_or_ge i k with h | h
            · exact HO.out i h
            · obtain rfl : i = k := by omega
              rw [HRC.out]
              rfl
          case measure => simp [intOf]
        · have hbad : d.all okb = false := by
            rw [List.all_eq_false]
            refine ⟨c, ?_, ?_⟩
            · have h1 := HRC.out
              rw [List.getD_eq_getElem?_getD, List.getElem?_eq_getElem (by simpa using hlt)] at h1
              rw [← List.mem_reverse, ← h1]
              exact List.getElem_mem _
            · unfold okb
              simp [c0, c1]
          have HBAD := Lib.hid (HR1.out hbad)
          have q0 : ((c.toNat : Int) != 48) = true := by rw [bne_iff_ne]; exact fun e => c0 (UInt8.toNat_inj.1 (by show c.toNat = 48; omega))
          have q1 : ((c.toNat : Int) != 49) = true := by rw [bne_iff_ne]; exact fun e => c1 (UInt8.toNat_inj.1 (by show c.toNat = 49; omega))
          clear hbad c0 c1
          have qc : (ByteArray.mk d.toArray)[j]'hjs = c := HCC.out
          go_wp2_with fail
          exact bodyPost_ret (results_tmp2 rfl _ _ _) rfl ⟨by rw [HBAD.out]; rfl, hb.trans (HL.out.mono hb.size)⟩
    · obtain rfl : k = d.length := by omega
      have hall : d.all okb = true := by
        rw [List.all_eq_true]
        intro c hc
        obtain ⟨i, hi, rfl⟩ := List.mem_iff_getElem.1 (List.mem_reverse.2 hc)
        have := HO.out i (by simpa using hi)
        rw [List.getD_eq_getElem?_getD, List.getElem?_eq_getElem hi] at this
        exact this
      have HR := Lib.hid (HR0.out hall)
      obtain ⟨g, cap, hsv, _, hg⟩ := own_words HW.out n1
      subst hsv
      have hbt := hg.bits (v := v) (fun _ _ => rfl)
      replace hb := hb.trans (HL.out.mono hb.size)
      clear hg HW HL hall
      rw [show (d.length : Int) - 1 - (d.length : Int) = -1 by omega]
      go_upto_region 10 with (fail)
      apply wp_region_lit
      refine wl_k rfl (fun K hK => ?_); go_simp; refine hK _ ?_; clear hK K
      refine wl_k rfl (fun K hK => ?_); go_simp; refine hK _ ?_; clear hK K
      refine wl_ck rfl (fun K hK => ?_); go_simp; refine ⟨_, _, ⟨rfl, rfl⟩, hK _ _ ⟨_, ValI_any g cap d.length s v n1 n2 HV.out _ hbt, ?_⟩⟩; clear hK K; rintro e w5 ⟨A2, c2, rfl, i2, hb1⟩; refine ⟨_, rfl, ?_⟩; simp only [put_lit, List.set_cons_zero, List.set_cons_succ]
      replace hb := hb.trans (hb1.mono hb.size); clear hb1
      have hwb := has_bd n1 n2 (wrap_has n1 s (v : Int))
      refine wl_ck rfl (fun K hK => ?_); go_simp; refine ⟨_, _, ⟨rfl, rfl⟩, hK _ _ ⟨_, TextI_any _ A2 c2 _ i2 (by have := nl_3 (x := wrapW d.length s (v : Int)) (by omega); omega) (small64 (by omega)), ?_⟩⟩; clear hK K; rintro e w6 ⟨rfl, hb1⟩; refine ⟨_, rfl, ?_⟩; simp only [put_lit, List.set_cons_zero, List.set_cons_succ]
      replace hb := hb.trans (hb1.mono hb.size); clear hb1
      go_wp2_with fail
      exact bodyPost_ret (results_tmp2 rfl _ _ _) rfl ⟨by rw [HR.out]; rfl, hb⟩
theorem FromBitsI_any (b : ByteArray) (s : Bool) (t : ByteArray) (er : Int) (h : Hid (fromS b.data.toList s = (t, er))) (w : World) :
    Calls Try.prog 51 #[.string b, .bool s] w fun e w' => e = .returned (.tuple #[.string t, .int .i64 er]) ∧ Below w.heap.size w w' := by
  have h := h.out
  unfold fromS at h
  rw [show b = ⟨b.data.toList.toArray⟩ by cases b; simp]
  generalize b.data.toList = d at h
  by_cases hr : isRight (d.length : Int) = true
  · obtain ⟨n, hn, n1, n2, n3⟩ := right_bits hr
    refine FromBitsI_yes d s (by omega) (by omega) (Lib.hid hr) _ (Lib.hid fun ha => ?_) (Lib.hid fun ha => ?_) w
    · rw [if_pos ⟨hr, ha⟩] at h
      simp only [Prod.mk.injEq] at h
      obtain ⟨rfl, rfl⟩ := h
      rfl
    · rw [if_neg (fun h => by rw [ha] at h; exact absurd h.2 (by decide))] at h
      simp only [Prod.mk.injEq] at h
      obtain ⟨rfl, rfl⟩ := h
      rfl
  · rw [if_neg (fun h => hr h.1)] at h
    simp only [Prod.mk.injEq] at h
    obtain ⟨rfl, rfl⟩ := h
    exact FromBitsI_no d s (Lib.hid (by simpa using hr)) w
set_option maxHeartbeats 1000000 in
set_option maxRecDepth 100000 in
theorem NumberBits_any (m b : ByteArray) (n : Int) (s : Bool) (md : ByteArray) (w : World) :
    Calls Try.prog 18 #[.string m, .string b, .agg (kvB n s md)] w fun e w' => e = .returned (.bool true) ∧ Below w.heap.size w w' := by
  rcases hr : bitsS m n s with ⟨t, er⟩
  rcases hf : fromS b.data.toList s with ⟨t2, er2⟩
  have HR := Lib.hid hr
  have HF := Lib.hid hf
  clear hr hf
  cases la : decide (200 < m.size)
  · have LA := Lib.hid la
    clear la
    cases lb : decide (200 < b.size)
    · have LB := Lib.hid lb
      clear lb
      go_enter Try.func18, Try.ntmps18
      go_upto_region 1 with (fail)
      refine wp_world (fun W => W.heap[w.heap.size]? = some (.cells (kvB n s md) 25 (0, 0)) ∧ Below w.heap.size w W) ⟨ha_new rfl, (Below.refl _ _).alloc (Nat.le_refl _) _⟩ ?_
      rintro W ⟨h0, hb⟩
      go_upto_region 3 with (first | (go_at_call 20; refine (longs m _ _ LA).mono ?_; rintro e w9 ⟨rfl, hb1⟩; replace h0 := below_look hb1 h0; replace hb := hb.trans (hb1.mono hb.size); clear hb1) | (go_at_call 20; refine (longs b _ _ LB).mono ?_; rintro e w9 ⟨rfl, hb1⟩; replace h0 := below_look hb1 h0; replace hb := hb.trans (hb1.mono hb.size); clear hb1))
      apply wp_region_lit
      refine wl_k rfl (fun K hK => ?_); go_simp; refine hK _ ?_; clear hK K
      refine wl_k rfl (fun K hK => ?_); go_simp; refine hK _ ?_; clear hK K
      ((with_reducible apply wl_oneG); exact rfl; exact rfl; exact one_of u3 rfl (kv0 h0))
      refine wl_k rfl (fun K hK => ?_); go_simp; refine hK _ ?_; clear hK K
      ((with_reducible apply wl_oneG); exact rfl; exact rfl; exact one_of u4 rfl (kv1 h0))
      refine wl_ck rfl (fun K hK => ?_); go_simp; refine ⟨_, _, ⟨rfl, rfl⟩, hK _ _ ⟨_, Bits_any _ _ _ _ _ HR _, ?_⟩⟩; clear hK K; rintro e w2 ⟨rfl, hb1⟩; refine ⟨_, rfl, ?_⟩; simp only [put_lit, List.set_cons_zero, List.set_cons_succ]
      replace h0 := below_look hb1 h0; replace hb := hb.trans (hb1.mono hb.size); clear hb1
      go_upto_region 4 with (fail)
      apply wp_region_lit
      refine wl_k rfl (fun K hK => ?_); go_simp; refine hK _ ?_; clear hK K
      refine wl_k rfl (fun K hK => ?_); go_simp; refine hK _ ?_; clear hK K
      ((with_reducible apply wl_oneG); exact rfl; exact rfl; exact one_of u3 rfl (kv0 h0))
      refine wl_k rfl (fun K hK => ?_); go_simp; refine hK _ ?_; clear hK K
      ((with_reducible apply wl_oneG); exact rfl; exact rfl; exact one_of u4 rfl (kv1 h0))
      refine wl_ck rfl (fun K hK => ?_); go_simp; refine ⟨_, _, ⟨rfl, rfl⟩, hK _ _ ⟨_, BitsI_any _ _ _ _ _ HR _, ?_⟩⟩; clear hK K; rintro e w2 ⟨rfl, hb1⟩; refine ⟨_, rfl, ?_⟩; simp only [put_lit, List.set_cons_zero, List.set_cons_succ]
      replace h0 := below_look hb1 h0; replace hb := hb.trans (hb1.mono hb.size); clear hb1
      go_upto_region 5 with (fail)
      apply wp_region_lit
      refine wl_k rfl (fun K hK => ?_); go_simp; refine hK _ ?_; clear hK K
      refine wl_k rfl (fun K hK => ?_); go_simp; refine hK _ ?_; clear hK K
      ((with_reducible apply wl_oneG); exact rfl; exact rfl; exact one_of u4 rfl (kv1 h0))
      refine wl_ck rfl (fun K hK => ?_); go_simp; refine ⟨_, _, ⟨rfl, rfl⟩, hK _ _ ⟨_, FromBits_any _ _ _ _ HF _, ?_⟩⟩; clear hK K; rintro e w2 ⟨rfl, hb1⟩; refine ⟨_, rfl, ?_⟩; simp only [put_lit, List.set_cons_zero, List.set_cons_succ]
      replace h0 := below_look hb1 h0; replace hb := hb.trans (hb1.mono hb.size); clear hb1
      go_upto_region 6 with (fail)
      apply wp_region_lit
      refine wl_k rfl (fun K hK => ?_); go_simp; refine hK _ ?_; clear hK K
      refine wl_k rfl (fun K hK => ?_); go_simp; refine hK _ ?_; clear hK K
      ((with_reducible apply wl_oneG); exact rfl; exact rfl; exact one_of u4 rfl (kv1 h0))
      refine wl_ck rfl (fun K hK => ?_); go_simp; refine ⟨_, _, ⟨rfl, rfl⟩, hK _ _ ⟨_, FromBitsI_any _ _ _ _ HF _, ?_⟩⟩; clear hK K; rintro e w2 ⟨rfl, hb1⟩; refine ⟨_, rfl, ?_⟩; simp only [put_lit, List.set_cons_zero, List.set_cons_succ]
      replace h0 := below_look hb1 h0; replace hb := hb.trans (hb1.mono hb.size); clear hb1
      go_wp2_with (go_at_call 21; refine (awake_any _).mono ?_; rintro e w9 ⟨rfl, hb1⟩; replace hb := hb.trans (hb1.mono hb.size); clear hb1)
      go_ret
      exact ⟨rfl, hb⟩
    · have LB := Lib.hid lb
      clear lb
      go_enter Try.func18, Try.ntmps18
      go_upto_region 1 with (fail)
      refine wp_world (fun W => W.heap[w.heap.size]? = some (.cells (kvB n s md) 25 (0, 0)) ∧ Below w.heap.size w W) ⟨ha_new rfl, (Below.refl _ _).alloc (Nat.le_refl _) _⟩ ?_
      rintro W ⟨h0, hb⟩
      go_wp2_with (first | (go_at_call 20; refine (longs m _ _ LA).mono ?_; rintro e w9 ⟨rfl, hb1⟩; replace hb := hb.trans (hb1.mono hb.size); clear hb1) | (go_at_call 20; refine (longs b _ _ LB).mono ?_; rintro e w9 ⟨rfl, hb1⟩; replace hb := hb.trans (hb1.mono hb.size); clear hb1) | (go_at_call 21; refine (awake_any _).mono ?_; rintro e w9 ⟨rfl, hb1⟩; replace hb := hb.trans (hb1.mono hb.size); clear hb1))
      go_ret
      exact ⟨rfl, hb⟩
  · have LA := Lib.hid la
    clear la
    go_enter Try.func18, Try.ntmps18
    go_upto_region 1 with (fail)
    refine wp_world (fun W => W.heap[w.heap.size]? = some (.cells (kvB n s md) 25 (0, 0)) ∧ Below w.heap.size w W) ⟨ha_new rfl, (Below.refl _ _).alloc (Nat.le_refl _) _⟩ ?_
    rintro W ⟨h0, hb⟩
    go_wp2_with (first | (go_at_call 20; refine (longs m _ _ LA).mono ?_; rintro e w9 ⟨rfl, hb1⟩; replace hb := hb.trans (hb1.mono hb.size); clear hb1) | (go_at_call 21; refine (awake_any _).mono ?_; rintro e w9 ⟨rfl, hb1⟩; replace hb := hb.trans (hb1.mono hb.size); clear hb1))
    go_ret
    exact ⟨rfl, hb⟩
end Go.Proofs.Ytclainfdeghgnaa
