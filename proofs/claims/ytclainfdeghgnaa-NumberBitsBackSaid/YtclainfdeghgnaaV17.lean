/- The bits of a text's number, and the number of a text of bits, the program's; they undo each other. The law: the value of the bits of a value is the value. -/
import Derived.Test.YtclainfdeghgnaaV13
import Derived.Outline
namespace Go.Proofs.Ytclainfdeghgnaa
open Go.RowKit Go.Proofs.Ytclainfdeghgnaa.Nm
/-- a bit's character, and the lowest bits' characters, the highest one first -/
def bc (v k : Nat) : UInt8 := if v.testBit k then 49 else 48
def btxt (v : Nat) : Nat → List UInt8
  | 0 => []
  | k + 1 => bc v k :: btxt v k
theorem btxt_length (v k : Nat) : (btxt v k).length = k := by
  induction k with
  | zero => rfl
  | succ k ih => simp [btxt, ih]
def okb (c : UInt8) : Bool := c == 48 || c == 49
/-- the number of a text of bits -/
def bvN : List UInt8 → Nat
  | [] => 0
  | c :: l => (if c = 49 then 2 ^ l.length else 0) + bvN l
theorem bvN_lt (l : List UInt8) : bvN l < 2 ^ l.length := by
  induction l with
  | nil => simp [bvN]
  | cons c l ih => simp only [bvN, List.length_cons, Nat.pow_succ]; split <;> omega
theorem bvN_bit (l : List UInt8) : ∀ i, i < l.length → (bvN l).testBit i = (l.reverse.getD i 48 == 49) := by
  induction l with
  | nil => intro i hi; simp at hi
  | cons c l ih =>
    intro i hi
    have hl := bvN_lt l
    rw [List.length_cons] at hi
    rw [List.reverse_cons, List.getD_eq_getElem?_getD]
    rcases Nat.lt_or_ge i l.length with h | h
    · rw [List.getElem?_append_left (by simpa using h), ← List.getD_eq_getElem?_getD, ← ih i h]
      simp only [bvN]
      split
      · rw [Nat.testBit_two_pow_add_gt h]
      · rw [Nat.zero_add]
    · obtain rfl : i = l.length := by omega
      rw [List.getElem?_append_right (by simp)]
      simp only [bvN, List.length_reverse, Nat.sub_self, List.getElem?_cons_zero, Option.getD_some]
      by_cases hc : c = 49
      · rw [if_pos hc, hc, Nat.testBit_two_pow_add_eq, Nat.testBit_lt_two_pow hl]; rfl
      · rw [if_neg hc, Nat.zero_add, Nat.testBit_lt_two_pow hl]; simp [hc]
theorem bvN_btxt (v k : Nat) : bvN (btxt v k) = v % 2 ^ k := by
  induction k with
  | zero => simp [btxt, bvN, Nat.mod_one]
  | succ k ih =>
    simp only [btxt, bvN, btxt_length, ih, bc]
    rw [show v % 2 ^ (k + 1) = v % 2 ^ k + 2 ^ k * (v / 2 ^ k % 2) by rw [Nat.pow_succ, Nat.mod_mul], Nat.testBit_eq_decide_div_mod_eq]
    have := Nat.mod_lt (v / 2 ^ k) (show 0 < 2 by decide)
    by_cases h : v / 2 ^ k % 2 = 1
    · simp [h, Nat.add_comm]
    · have h0 : v / 2 ^ k % 2 = 0 := by omega
      simp [h0]
theorem btxt_ok (v k : Nat) : (btxt v k).all okb = true := by
  induction k with
  | zero => rfl
  | succ k ih =>
    simp only [btxt, List.all_cons, ih, Bool.and_true, bc]
    split <;> rfl
def bitsS (a : ByteArray) (n : Int) (s : Bool) : ByteArray × Int :=
  match rdm a with
  | none => (⟨#[]⟩, 4)
  | some x => if isRight n = true then (if hasI n s x = true then (⟨(btxt (lowN n.toNat x) n.toNat).toArray⟩, 0) else (⟨#[]⟩, 1)) else (⟨#[]⟩, 3)
def fromS (d : List UInt8) (s : Bool) : ByteArray × Int :=
  if isRight (d.length : Int) = true ∧ d.all okb = true then (⟨(txt (wrapW d.length s ((bvN d : Nat) : Int))).toArray⟩, 0) else (⟨#[]⟩, 4)
theorem bytes_snoc (l : List UInt8) (c : UInt8) : Lib.byteCells l ++ [Value.int .u8 (c.toNat : Int)] = Lib.byteCells (l ++ [c]) := by
  unfold Lib.byteCells; simp
set_option maxHeartbeats 400000 in
theorem Bits_none (m : ByteArray) (bits : Int) (s : Bool) (hx : rdm m = none) (w : World) :
    Calls Try.prog 48 #[.string m, .int .i64 bits, .bool s] w fun e w' => e = .returned (.tuple #[.string ⟨#[]⟩, .int .i64 4]) ∧ Below w.heap.size w w' := by
  go_enter Try.func48, Try.ntmps48
  go_upto_region 1 with (fail)
  apply wp_region_lit
  refine wl_k rfl (fun K hK => ?_); go_simp; refine hK _ ?_; clear hK K
  refine wl_ck rfl (fun K hK => ?_); go_simp; refine ⟨_, _, ⟨rfl, rfl⟩, hK _ _ ⟨_, read_any2 m 0 false (Or.inr ⟨hx, rfl, rfl⟩) _, ?_⟩⟩; clear hK K; rintro e w1 ⟨rfl, hb1⟩; refine ⟨_, rfl, ?_⟩; simp only [put_lit, List.set_cons_zero, List.set_cons_succ]
  have hb := hb1
  clear hb1
  refine wl_k rfl (fun K hK => ?_); go_simp; refine hK _ ?_; clear hK K
  refine wl_k rfl (fun K hK => ?_); go_simp; refine hK _ ?_; clear hK K
  refine wl_k rfl (fun K hK => ?_); go_simp; refine hK _ ?_; clear hK K
  (have lsp2 := hb.size; (with_reducible apply wl_new75); intro w2 p2 hbn hlp2 hp2; replace hb := hb.trans (hbn.mono hb.size); clear hbn)
  ((with_reducible apply wl_put75); exact rfl; exact rfl; exact hp2; intro w3 hbx hk hq; replace hb := hbx _ _ (by omega) hb; clear hp2; have hp2 := hq; clear hbx hk hq)
  go_wp2_with fail
  exact bodyPost_ret (results_tmp2 rfl _ _ _) rfl ⟨rfl, hb⟩
set_option maxHeartbeats 400000 in
theorem Bits_name (m : ByteArray) (bits : Int) (s : Bool) (x : Int) (hx : rdm m = some x) (hr : Hid (isRight bits = false)) (w : World) :
    Calls Try.prog 48 #[.string m, .int .i64 bits, .bool s] w fun e w' => e = .returned (.tuple #[.string ⟨#[]⟩, .int .i64 3]) ∧ Below w.heap.size w w' := by
  go_enter Try.func48, Try.ntmps48
  go_upto_region 1 with (fail)
  apply wp_region_lit
  refine wl_k rfl (fun K hK => ?_); go_simp; refine hK _ ?_; clear hK K
  refine wl_ck rfl (fun K hK => ?_); go_simp; refine ⟨_, _, ⟨rfl, rfl⟩, hK _ _ ⟨_, read_any2 m x true (Or.inl ⟨hx, rfl⟩) _, ?_⟩⟩; clear hK K; rintro e w1 ⟨rfl, hb1⟩; refine ⟨_, rfl, ?_⟩; simp only [put_lit, List.set_cons_zero, List.set_cons_succ]
  have hb := hb1
  clear hb1
  refine wl_k rfl (fun K hK => ?_); go_simp; refine hK _ ?_; clear hK K
  refine wl_k rfl (fun K hK => ?_); go_simp; refine hK _ ?_; clear hK K
  refine wl_k rfl (fun K hK => ?_); go_simp; refine hK _ ?_; clear hK K
  (have lsp2 := hb.size; (with_reducible apply wl_new75); intro w2 p2 hbn hlp2 hp2; replace hb := hb.trans (hbn.mono hb.size); clear hbn)
  ((with_reducible apply wl_put75); exact rfl; exact rfl; exact hp2; intro w3 hbx hk hq; replace hb := hbx _ _ (by omega) hb; clear hp2; have hp2 := hq; clear hbx hk hq)
  go_upto_region 5 with (fail)
  refine wp_world (fun W => W.heap[p2]? = some (.cells (lv x) 75 (0, 0)) ∧ W.heap[w3.heap.size]? = some (.cells (wi bits s) 68 (0, 0)) ∧ Below w.heap.size w W) ⟨ha_old hp2, ha_new rfl, hb.alloc hb.size _⟩ ?_
  clear hp2 hb
  rintro W ⟨hp2, h0, hb⟩
  apply wp_region_lit
  ((with_reducible apply wl_rowG); exact rfl; exact rfl; exact rowWi h0)
  refine wl_ck rfl (fun K hK => ?_); go_simp; refine ⟨_, _, ⟨rfl, rfl⟩, hK _ _ ⟨_, right_any _ _ false (Lib.hid hr.out.symm) _, ?_⟩⟩; clear hK K; rintro e w4 ⟨rfl, hb1⟩; refine ⟨_, rfl, ?_⟩; simp only [put_lit, List.set_cons_zero, List.set_cons_succ]
  replace h0 := below_look hb1 h0; replace hp2 := below_look hb1 hp2; replace hb := hb.trans (hb1.mono hb.size); clear hb1
  go_wp2_with fail
  exact bodyPost_ret (results_tmp2 rfl _ _ _) rfl ⟨rfl, hb⟩
set_option maxHeartbeats 400000 in
theorem Bits_range (m : ByteArray) (bits : Int) (s : Bool) (x : Int) (hx : rdm m = some x) (hr : Hid (isRight bits = true)) (hh : Hid (hasI bits s x = false)) (w : World) :
    Calls Try.prog 48 #[.string m, .int .i64 bits, .bool s] w fun e w' => e = .returned (.tuple #[.string ⟨#[]⟩, .int .i64 1]) ∧ Below w.heap.size w w' := by
  have bx := Lib.hid (rdm_bd hx)
  go_enter Try.func48, Try.ntmps48
  go_upto_region 1 with (fail)
  apply wp_region_lit
  refine wl_k rfl (fun K hK => ?_); go_simp; refine hK _ ?_; clear hK K
  refine wl_ck rfl (fun K hK => ?_); go_simp; refine ⟨_, _, ⟨rfl, rfl⟩, hK _ _ ⟨_, read_any2 m x true (Or.inl ⟨hx, rfl⟩) _, ?_⟩⟩; clear hK K; rintro e w1 ⟨rfl, hb1⟩; refine ⟨_, rfl, ?_⟩; simp only [put_lit, List.set_cons_zero, List.set_cons_succ]
  have hb := hb1
  clear hb1
  refine wl_k rfl (fun K hK => ?_); go_simp; refine hK _ ?_; clear hK K
  refine wl_k rfl (fun K hK => ?_); go_simp; refine hK _ ?_; clear hK K
  refine wl_k rfl (fun K hK => ?_); go_simp; refine hK _ ?_; clear hK K
  (have lsp2 := hb.size; (with_reducible apply wl_new75); intro w2 p2 hbn hlp2 hp2; replace hb := hb.trans (hbn.mono hb.size); clear hbn)
  ((with_reducible apply wl_put75); exact rfl; exact rfl; exact hp2; intro w3 hbx hk hq; replace hb := hbx _ _ (by omega) hb; clear hp2; have hp2 := hq; clear hbx hk hq)
  go_upto_region 5 with (fail)
  refine wp_world (fun W => W.heap[p2]? = some (.cells (lv x) 75 (0, 0)) ∧ W.heap[w3.heap.size]? = some (.cells (wi bits s) 68 (0, 0)) ∧ Below w.heap.size w W) ⟨ha_old hp2, ha_new rfl, hb.alloc hb.size _⟩ ?_
  clear hp2 hb
  rintro W ⟨hp2, h0, hb⟩
  apply wp_region_lit
  ((with_reducible apply wl_rowG); exact rfl; exact rfl; exact rowWi h0)
  refine wl_ck rfl (fun K hK => ?_); go_simp; refine ⟨_, _, ⟨rfl, rfl⟩, hK _ _ ⟨_, right_any _ _ true (Lib.hid hr.out.symm) _, ?_⟩⟩; clear hK K; rintro e w4 ⟨rfl, hb1⟩; refine ⟨_, rfl, ?_⟩; simp only [put_lit, List.set_cons_zero, List.set_cons_succ]
  replace h0 := below_look hb1 h0; replace hp2 := below_look hb1 hp2; replace hb := hb.trans (hb1.mono hb.size); clear hb1
  go_upto_region 7 with (fail)
  apply wp_region_lit
  ((with_reducible apply wl_rowG); exact rfl; exact rfl; exact rowWi h0)
  ((with_reducible apply wl_rowG); exact rfl; exact rfl; (first | exact rowL (by with_reducible assumption) | exact rowD (by with_reducible assumption) | exact rowR (by with_reducible assumption)))
  refine wl_ck rfl (fun K hK => ?_); go_simp; refine ⟨_, _, ⟨rfl, rfl⟩, hK _ _ ⟨_, has_wi _ _ _ hr.out bx.out _ hh _, ?_⟩⟩; clear hK K; rintro e w5 ⟨rfl, hb1⟩; refine ⟨_, rfl, ?_⟩; simp only [put_lit, List.set_cons_zero, List.set_cons_succ]
  replace h0 := below_look hb1 h0; replace hp2 := below_look hb1 hp2; replace hb := hb.trans (hb1.mono hb.size); clear hb1
  go_wp2_with fail
  exact bodyPost_ret (results_tmp2 rfl _ _ _) rfl ⟨rfl, hb⟩
set_option maxHeartbeats 1000000 in
theorem Bits_ok (m : ByteArray) (n : Nat) (n1 : 1 ≤ n) (n2 : n ≤ 64) (s : Bool) (x : Int) (hx : rdm m = some x) (hr : Hid (isRight (n : Int) = true)) (hh : Hid (hasI (n : Int) s x = true)) (v : Nat) (HV : Hid ((v : Int) = x % ((2 ^ n : Nat) : Int))) (w : World) :
    Calls Try.prog 48 #[.string m, .int .i64 (n : Int), .bool s] w fun e w' => e = .returned (.tuple #[.string ⟨(btxt v n).toArray⟩, .int .i64 0]) ∧ Below w.heap.size w w' := by
  have bx := Lib.hid (rdm_bd hx)
  have bx2 := Lib.hid (show x.natAbs ≤ 100000000000000000000000000000000000000000000000000000000000 by have := hasI_bd hr.out hh.out; omega)
  go_enter Try.func48, Try.ntmps48
  go_upto_region 1 with (fail)
  apply wp_region_lit
  refine wl_k rfl (fun K hK => ?_); go_simp; refine hK _ ?_; clear hK K
  refine wl_ck rfl (fun K hK => ?_); go_simp; refine ⟨_, _, ⟨rfl, rfl⟩, hK _ _ ⟨_, read_any2 m x true (Or.inl ⟨hx, rfl⟩) _, ?_⟩⟩; clear hK K; rintro e w1 ⟨rfl, hb1⟩; refine ⟨_, rfl, ?_⟩; simp only [put_lit, List.set_cons_zero, List.set_cons_succ]
  have hb := hb1
  clear hb1
  refine wl_k rfl (fun K hK => ?_); go_simp; refine hK _ ?_; clear hK K
  refine wl_k rfl (fun K hK => ?_); go_simp; refine hK _ ?_; clear hK K
  refine wl_k rfl (fun K hK => ?_); go_simp; refine hK _ ?_; clear hK K
  (have lsp2 := hb.size; (with_reducible apply wl_new75); intro w2 p2 hbn hlp2 hp2; replace hb := hb.trans (hbn.mono hb.size); clear hbn)
  ((with_reducible apply wl_put75); exact rfl; exact rfl; exact hp2; intro w3 hbx hk hq; replace hb := hbx _ _ (by omega) hb; clear hp2; have hp2 := hq; clear hbx hk hq)
  go_upto_region 5 with (fail)
  refine wp_world (fun W => W.heap[p2]? = some (.cells (lv x) 75 (0, 0)) ∧ W.heap[w3.heap.size]? = some (.cells (wv n s) 68 (0, 0)) ∧ Below w.heap.size w W) ⟨ha_old hp2, ha_new rfl, hb.alloc hb.size _⟩ ?_
  clear hp2 hb
  rintro W ⟨hp2, h0, hb⟩
  apply wp_region_lit
  ((with_reducible apply wl_rowG); exact rfl; exact rfl; exact rowW h0)
  refine wl_ck rfl (fun K hK => ?_); go_simp; refine ⟨_, _, ⟨rfl, rfl⟩, hK _ _ ⟨_, right_any (n : Int) s true (Lib.hid hr.out.symm) _, ?_⟩⟩; clear hK K; rintro e w4 ⟨rfl, hb1⟩; refine ⟨_, rfl, ?_⟩; simp only [put_lit, List.set_cons_zero, List.set_cons_succ]
  replace h0 := below_look hb1 h0; replace hp2 := below_look hb1 hp2; replace hb := hb.trans (hb1.mono hb.size); clear hb1
  go_upto_region 7 with (fail)
  apply wp_region_lit
  ((with_reducible apply wl_rowG); exact rfl; exact rfl; exact rowW h0)
  ((with_reducible apply wl_rowG); exact rfl; exact rfl; (first | exact rowL (by with_reducible assumption) | exact rowD (by with_reducible assumption) | exact rowR (by with_reducible assumption)))
  refine wl_ck rfl (fun K hK => ?_); go_simp; refine ⟨_, _, ⟨rfl, rfl⟩, hK _ _ ⟨_, has_wi (n : Int) s _ hr.out bx.out _ hh _, ?_⟩⟩; clear hK K; rintro e w5 ⟨rfl, hb1⟩; refine ⟨_, rfl, ?_⟩; simp only [put_lit, List.set_cons_zero, List.set_cons_succ]
  replace h0 := below_look hb1 h0; replace hp2 := below_look hb1 hp2; replace hb := hb.trans (hb1.mono hb.size); clear hb1
  go_upto_region 9 with (fail)
  apply wp_region_lit
  ((with_reducible apply wl_rowG); exact rfl; exact rfl; exact rowW h0)
  ((with_reducible apply wl_rowG); exact rfl; exact rfl; (first | exact rowL (by with_reducible assumption) | exact rowD (by with_reducible assumption) | exact rowR (by with_reducible assumption)))
  refine wl_ck rfl (fun K hK => ?_); go_simp; refine ⟨_, _, ⟨rfl, rfl⟩, hK _ _ ⟨_, low_any n s x n1 n2 bx2.out v HV.out _, ?_⟩⟩; clear hK K; rintro e w6 ⟨g, rfl, hg0, hg, hb1⟩; refine ⟨_, rfl, ?_⟩; simp only [put_lit, List.set_cons_zero, List.set_cons_succ]
  replace hb := hb.trans (hb1.mono hb.size); clear hb1
  clear hg0 hp2 h0
  go_upto_region 11 with (fail)
  have LG := heap_lt hg
  have LW := hb.size
  refine wp_world (fun W => W.heap[g]? = some (.cells (bcells v n) 4 (0, 0)) ∧ Hid (Lib.IsBuilder 116 5 w6.heap.size w6.heap.size [] W) ∧ w6.heap.size < W.heap.size ∧ Below w.heap.size w W) ⟨ha_old hg, Lib.hid (by have := Lib.fresh_isBuilder 116 5 w6; simpa using this), by simp, hb.alloc hb.size _⟩ ?_
  obtain ⟨p, hp⟩ : ∃ p, p = w6.heap.size := ⟨_, rfl⟩
  rw [← hp] at LG LW ⊢
  clear hg hb hp
  rintro W2 ⟨hg, HB, LP, hb⟩
  go_wp2_with fail
  go_loopw [13] (fun i wr => ∃ (k : Nat) (l : List UInt8), k ≤ n ∧ i = .int .i64 ((k : Int) - 1) ∧ Hid (l ++ btxt v k = btxt v n) ∧ l.length + k ≤ 64 ∧ wr.heap[g]? = some (.cells (bcells v n) 4 (0, 0)) ∧ Hid (Lib.IsBuilder 116 5 p p (Lib.byteCells l) wr) ∧ p < wr.heap.size ∧ Below w.heap.size w wr) (fun i _ => (intOf i + 1).toNat)
  case atStart => exact ⟨n, [], by omega, rfl, Lib.hid rfl, by simpa using n2, hg, HB, LP, hb⟩
  case round =>
    clear hg HB LP hb
    obtain ⟨k, l, hk, rfl, HT, hlk, hg, HB, LP, hb⟩ := hrel
    by_cases hc : 0 < k
    · obtain ⟨j, rfl⟩ : ∃ j, k = j + 1 := ⟨k - 1, by omega⟩
      have ej : ((j + 1 : Nat) : Int) - 1 = (j : Int) := by omega
      rw [ej]
      clear ej hc
      have ct : wr.cell? ⟨g, j, none⟩ = some (.bool (v.testBit j)) := by rw [cell_of_row _ _ _ _ _ _ hg]; exact bcells_get (by omega)
      have HC : Hid (bc v j = if v.testBit j then 49 else 48) := Lib.hid rfl
      cases hbit : v.testBit j
      · rw [hbit] at ct HC
        simp only [Bool.false_eq_true, if_false] at HC
        clear hbit
        go_wp2_with (go_at_call 92; refine (writeByte_any p p _ _ _ HB.out (by simp [Lib.byteCells_length]; omega) (by omega)).mono ?_)
        rintro e w2 ⟨rfl, hB1, hb1⟩
        rw [show Lib.byteCells l ++ [Value.int .u8 48] = Lib.byteCells (l ++ [48]) from bytes_snoc l 48] at hB1
        replace hg := below_cells hb1 (by omega) hg
        have LP2 := hb1.size
        replace hb := hb.trans (hb1.mono (by omega))
        clear HB
        have HB := Lib.hid (show Lib.IsBuilder 116 5 p p (Lib.byteCells (l ++ [48])) w2 from Or.inr hB1)
        clear hB1 hb1 ct
        go_wp2_with fail
        go_roundw
        case rel => exact ⟨j, l ++ [48], by omega, by go_num, Lib.hid (by rw [← HT.out, List.append_assoc]; simp [btxt, HC.out]), by simp; omega, hg, HB, by omega, hb⟩
        case measure => simp [intOf]
      · rw [hbit] at ct HC
        simp only [if_true] at HC
        clear hbit
        go_wp2_with (go_at_call 92; refine (writeByte_any p p _ _ _ HB.out (by simp [Lib.byteCells_length]; omega) (by omega)).mono ?_)
        rintro e w2 ⟨rfl, hB1, hb1⟩
        rw [show Lib.byteCells l ++ [Value.int .u8 49] = Lib.byteCells (l ++ [49]) from bytes_snoc l 49] at hB1
        replace hg := below_cells hb1 (by omega) hg
        have LP2 := hb1.size
        replace hb := hb.trans (hb1.mono (by omega))
        clear HB
        have HB := Lib.hid (show Lib.IsBuilder 116 5 p p (Lib.byteCells (l ++ [49])) w2 from Or.inr hB1)
        clear hB1 hb1 ct
        go_wp2_with fail
        go_roundw
        case rel => exact ⟨j, l ++ [49], by omega, by go_num, Lib.hid (by rw [← HT.out, List.append_assoc]; simp [btxt, HC.out]), by simp; omega, hg, HB, by omega, hb⟩
        case measure => simp [intOf]
    · obtain rfl : k = 0 := by omega
      go_wp2_with (go_at_call 93; refine (Try.Builder_String_any p p _ _ HB.out (by omega)).mono ?_)
      rintro e w2 ⟨rfl, hb1⟩
      go_wp2_with fail
      refine bodyPost_ret (results_tmp2 rfl _ _ _) rfl ⟨?_, hb.trans (hb1.mono (by omega))⟩
      have := HT.out
      simp only [btxt, List.append_nil] at this
      rw [this]
      rfl
theorem Bits_any (m : ByteArray) (n : Int) (s : Bool) (t : ByteArray) (er : Int) (h : Hid (bitsS m n s = (t, er))) (w : World) :
    Calls Try.prog 48 #[.string m, .int .i64 n, .bool s] w fun e w' => e = .returned (.tuple #[.string t, .int .i64 er]) ∧ Below w.heap.size w w' := by
  have h := h.out
  unfold bitsS at h
  cases hx : rdm m with
  | none =>
    rw [hx] at h
    simp only [Prod.mk.injEq] at h
    obtain ⟨rfl, rfl⟩ := h
    exact Bits_none m n s hx w
  | some x =>
    rw [hx] at h
    simp only at h
    by_cases hr : isRight n = true
    · rw [if_pos hr] at h
      by_cases hh : hasI n s x = true
      · rw [if_pos hh] at h
        simp only [Prod.mk.injEq] at h
        obtain ⟨rfl, rfl⟩ := h
        obtain ⟨k, rfl, k1, k2, k3⟩ := right_bits hr
        rw [k3]
        exact Bits_ok m k k1 k2 s x hx (Lib.hid hr) (Lib.hid hh) _ (Lib.hid (lowN_cast k x)) w
      · rw [if_neg hh] at h
        simp only [Prod.mk.injEq] at h
        obtain ⟨rfl, rfl⟩ := h
        exact Bits_range m n s x hx (Lib.hid hr) (Lib.hid (by simpa using hh)) w
    · rw [if_neg hr] at h
      simp only [Prod.mk.injEq] at h
      obtain ⟨rfl, rfl⟩ := h
      exact Bits_name m n s x hx (Lib.hid (by simpa using hr)) w
set_option maxHeartbeats 400000 in
theorem FromBits_no (d : List UInt8) (s : Bool) (hr : Hid (isRight (d.length : Int) = false)) (w : World) :
    Calls Try.prog 50 #[.string ⟨d.toArray⟩, .bool s] w fun e w' => e = .returned (.tuple #[.string ⟨#[]⟩, .int .i64 4]) ∧ Below w.heap.size w w' := by
  go_enter Try.func50, Try.ntmps50
  go_upto_region 2 with (fail)
  refine wp_world (fun W => W.heap[w.heap.size]? = some (.cells (wv d.length s) 68 (0, 0)) ∧ Below w.heap.size w W) ⟨ha_new rfl, (Below.refl _ _).alloc (Nat.le_refl _) _⟩ ?_
  rintro W ⟨h0, hb⟩
  apply wp_region_lit
  ((with_reducible apply wl_rowG); exact rfl; exact rfl; exact rowW h0)
  refine wl_ck rfl (fun K hK => ?_); go_simp; refine ⟨_, _, ⟨rfl, rfl⟩, hK _ _ ⟨_, right_any (d.length : Int) s false (Lib.hid hr.out.symm) _, ?_⟩⟩; clear hK K; rintro e w1 ⟨rfl, hb1⟩; refine ⟨_, rfl, ?_⟩; simp only [put_lit, List.set_cons_zero, List.set_cons_succ]
  replace h0 := below_look hb1 h0; replace hb := hb.trans (hb1.mono hb.size); clear hb1
  go_wp2_with fail
  exact bodyPost_ret (results_tmp2 rfl _ _ _) rfl ⟨rfl, hb⟩
set_option maxHeartbeats 2000000 in
theorem FromBits_yes (d : List UInt8) (s : Bool) (n1 : 1 ≤ d.length) (n2 : d.length ≤ 64) (hr : Hid (isRight (d.length : Int) = true)) (R : Ending) (HR0 : Hid (d.all okb = true → R = .returned (.tuple #[.string ⟨(txt (wrapW d.length s ((bvN d : Nat) : Int))).toArray⟩, .int .i64 0]))) (HR1 : Hid (d.all okb = false → R = .returned (.tuple #[.string ⟨#[]⟩, .int .i64 4]))) (w : World) :
    Calls Try.prog 50 #[.string ⟨d.toArray⟩, .bool s] w fun e w' => e = R ∧ Below w.heap.size w w' := by
  have HV := Lib.hid (bvN_lt d)
  have HBT := Lib.hid (bvN_bit d)
  obtain ⟨v, hv⟩ : ∃ v, v = bvN d := ⟨_, rfl⟩
  rw [← hv] at HV HBT HR0
  clear hv
  go_enter Try.func50, Try.ntmps50
  go_upto_region 2 with (fail)
  refine wp_world (fun W => W.heap[w.heap.size]? = some (.cells (wv d.length s) 68 (0, 0)) ∧ Below w.heap.size w W) ⟨ha_new rfl, (Below.refl _ _).alloc (Nat.le_refl _) _⟩ ?_
  rintro W ⟨h0, hb⟩
  apply wp_region_lit
  ((with_reducible apply wl_rowG); exact rfl; exact rfl; exact rowW h0)
  refine wl_ck rfl (fun K hK => ?_); go_simp; refine ⟨_, _, ⟨rfl, rfl⟩, hK _ _ ⟨_, right_any (d.length : Int) s true (Lib.hid hr.out.symm) _, ?_⟩⟩; clear hK K; rintro e w1 ⟨rfl, hb1⟩; refine ⟨_, rfl, ?_⟩; simp only [put_lit, List.set_cons_zero, List.set_cons_succ]
  replace h0 := below_look hb1 h0; replace hb := hb.trans (hb1.mono hb.size); clear hb1
  go_upto_region 4 with (fail)
  apply wp_region_lit
  refine wl_k rfl (fun K hK => ?_); go_simp; refine hK _ ?_; clear hK K
  refine wl_k rfl (fun K hK => ?_); go_simp; refine hK _ ?_; clear hK K
  refine wl_w rfl (ex_mk111 _ rfl d.length rfl rfl (by omega)) ?_
  simp only [put_lit, List.set_cons_zero, List.set_cons_succ]
  refine wl_world (fun W2 => W2.heap[w.heap.size]? = some (.cells (wv d.length s) 68 (0, 0)) ∧ W2.heap[w1.heap.size]? = some (.cells (bcells 0 d.length) 4 (0, 0)) ∧ Below w.heap.size w W2) ⟨ha_old h0, ha_new rfl, hb.alloc hb.size _⟩ ?_
  have L1 := heap_lt h0
  obtain ⟨g, hg⟩ : ∃ g, g = w1.heap.size := ⟨_, rfl⟩
  rw [← hg] at L1 ⊢
  clear h0 hb hg
  rintro W2 ⟨h0, hg, hb⟩
  go_wp2_with fail
  go_loopw [22] (fun i wr => ∃ k : Nat, k ≤ d.length ∧ i = .int .i64 (k : Int) ∧ Hid (∀ j, j < k → okb (d.reverse.getD j 48) = true) ∧ wr.heap[w.heap.size]? = some (.cells (wv d.length s) 68 (0, 0)) ∧ wr.heap[g]? = some (.cells (bcells (v % 2 ^ k) d.length) 4 (0, 0)) ∧ Below w.heap.size w wr) (fun i _ => (d.length - intOf i).toNat)
  case atStart => exact ⟨0, by omega, rfl, Lib.hid (fun j hj => absurd hj (by omega)), h0, by rw [Nat.pow_zero, Nat.mod_one]; exact hg, hb⟩
  case round =>
    clear h0 hg hb
    obtain ⟨k, hk, rfl, HO, h0, hg, hb⟩ := hrel
    by_cases hlt : k < d.length
    · obtain ⟨j, hj⟩ : ∃ j, d.length = j + 1 + k := ⟨d.length - 1 - k, by omega⟩
      have hjl : j < d.length := by omega
      have hjs : j < d.toArray.size := by simpa using hjl
      obtain ⟨c, hcc⟩ : ∃ c, c = d[j] := ⟨_, rfl⟩
      have hrc : d.reverse.getD k 48 = c := by
        rw [List.getD_eq_getElem?_getD, List.getElem?_reverse (by omega), show d.length - 1 - k = j by omega, List.getElem?_eq_getElem hjl, hcc]; rfl
      have ej : (d.length : Int) - 1 - (k : Int) = (j : Int) := by omega
      have HJ := Lib.hid hj
      have HBK := Lib.hid (HBT.out k hlt)
      rw [hrc] at HBK
      clear hj
      obtain ⟨bo, hbo⟩ : ∃ bo, bo = (v % 2 ^ k).testBit k := ⟨_, rfl⟩
      have cg : wr.cell? ⟨g, k, none⟩ = some (.bool bo) := by rw [cell_of_row _ _ _ _ _ _ hg, hbo]; exact bcells_get hlt
      have fg : wr.frozen? ⟨g, k, none⟩ = false := frozen_of_row _ _ _ _ _ hg
      clear hbo
      go_upto_region 9 with (fail)
      rw [show ((ByteArray.mk d.toArray)[j]'hjs) = c from hcc.symm]
      have hcl : c.toNat < 256 := UInt8.toNat_lt c
      have HRC := Lib.hid hrc
      clear hcc ej hjl hjs hrc
      by_cases c0 : c = 48
      · subst c0
        have HBK2 := Lib.hid (show v.testBit k = false from HBK.out)
        clear HBK
        have H0 := Lib.hid h0
        have H1 := Lib.hid hg
        have HB := Lib.hid hb
        clear h0 hg hb
        go_wp2_with fail
        go_roundw
        case rel =>
          refine ⟨k + 1, by omega, by go_num, Lib.hid ?_, hs_old H0.out (by simp; omega), (hs_new H1.out).trans (by rw [← bcells_step hlt, HBK2.out]), HB.out.setCell (by simp; omega) _⟩
          intro i hi
          rcases Nat.lt_or_ge i k with h | h
          · exact HO.out i h
          · obtain rfl : i = k := by omega
            rw [HRC.out]
            rfl
        case measure => simp [intOf]; omega
      · by_cases c1 : c = 49
        · subst c1
          have HBK2 := Lib.hid (show v.testBit k = true from HBK.out)
          clear HBK c0
          have H0 := Lib.hid h0
          have H1 := Lib.hid hg
          have HB := Lib.hid hb
          clear h0 hg hb
          go_wp2_with fail
          go_roundw
          case rel =>
            refine ⟨k + 1, by omega, by go_num, Lib.hid ?_, hs_old H0.out (by simp; omega), (hs_new H1.out).trans (by rw [← bcells_step hlt, HBK2.out]), HB.out.setCell (by simp; omega) _⟩
            intro i hi
            rcases Nat.lt_or_ge i k with h | h
            · exact HO.out i h
            · obtain rfl : i = k := by omega
              rw [HRC.out]
              rfl
          case measure => simp [intOf]; omega
        · have hbad : d.all okb = false := by
            rw [List.all_eq_false]
            refine ⟨c, ?_, ?_⟩
            · have h1 := HRC.out
              rw [List.getD_eq_getElem?_getD, List.getElem?_eq_getElem (by simpa using hlt)] at h1
              rw [← List.mem_reverse, ← h1]
              exact List.getElem_mem _
            · unfold okb
              simp [c0, c1]
          have HBAD := Lib.hid (HR1.out hbad)
          have q0 : ((c.toNat : Int) != 48) = true := by rw [bne_iff_ne]; exact fun e => c0 (UInt8.toNat_inj.1 (by show c.toNat = 48; omega))
          have q1 : ((c.toNat : Int) != 49) = true := by rw [bne_iff_ne]; exact fun e => c1 (UInt8.toNat_inj.1 (by show c.toNat = 49; omega))
          clear hbad c0 c1 cg fg
          go_wp2_with fail
          exact bodyPost_ret (results_tmp2 rfl _ _ _) rfl ⟨by rw [HBAD.out]; rfl, hb⟩
    · obtain rfl : k = d.length := by omega
      have hall : d.all okb = true := by
        rw [List.all_eq_true]
        intro c hc
        obtain ⟨i, hi, rfl⟩ := List.mem_iff_getElem.1 (List.mem_reverse.2 hc)
        have := HO.out i (by simpa using hi)
        rw [List.getD_eq_getElem?_getD, List.getElem?_eq_getElem hi] at this
        exact this
      have HR := Lib.hid (HR0.out hall)
      rw [bcells_full HV.out] at hg
      go_upto_region 13 with (fail)
      apply wp_region_lit
      ((with_reducible apply wl_rowG); exact rfl; exact rfl; exact rowW h0)
      refine wl_k rfl (fun K hK => ?_); go_simp; refine hK _ ?_; clear hK K
      refine wl_ck rfl (fun K hK => ?_); go_simp; refine ⟨_, _, ⟨rfl, rfl⟩, hK _ _ ⟨_, value_any d.length s n1 n2 v HV.out g _ hg, ?_⟩⟩; clear hK K; rintro e w5 ⟨rfl, hb1⟩; refine ⟨_, rfl, ?_⟩; simp only [put_lit, List.set_cons_zero, List.set_cons_succ]
      replace hb := hb.trans (hb1.mono hb.size); clear hb1
      refine wl_ck rfl (fun K hK => ?_); go_simp; refine ⟨_, _, ⟨rfl, rfl⟩, hK _ _ ⟨_, text_any _ (by have := has_bd n1 n2 (wrap_has n1 s (v : Int)); exact small64 (by omega)) _, ?_⟩⟩; clear hK K; rintro e w6 ⟨rfl, hb1⟩; refine ⟨_, rfl, ?_⟩; simp only [put_lit, List.set_cons_zero, List.set_cons_succ]
      replace hb := hb.trans (hb1.mono hb.size); clear hb1
      go_wp2_with fail
      exact bodyPost_ret (results_tmp2 rfl _ _ _) rfl ⟨by rw [HR.out]; rfl, hb⟩
theorem FromBits_any (b : ByteArray) (s : Bool) (t : ByteArray) (er : Int) (h : Hid (fromS b.data.toList s = (t, er))) (w : World) :
    Calls Try.prog 50 #[.string b, .bool s] w fun e w' => e = .returned (.tuple #[.string t, .int .i64 er]) ∧ Below w.heap.size w w' := by
  have h := h.out
  unfold fromS at h
  rw [show b = ⟨b.data.toList.toArray⟩ by cases b; simp]
  generalize b.data.toList = d at h
  by_cases hr : isRight (d.length : Int) = true
  · obtain ⟨n, hn, n1, n2, n3⟩ := right_bits hr
    refine FromBits_yes d s (by omega) (by omega) (Lib.hid hr) _ (Lib.hid fun ha => ?_) (Lib.hid fun ha => ?_) w
    · rw [if_pos ⟨hr, ha⟩] at h
      simp only [Prod.mk.injEq] at h
      obtain ⟨rfl, rfl⟩ := h
      rfl
    · rw [if_neg (fun h => by rw [ha] at h; exact absurd h.2 (by decide))] at h
      simp only [Prod.mk.injEq] at h
      obtain ⟨rfl, rfl⟩ := h
      rfl
  · rw [if_neg (fun h => hr h.1)] at h
    simp only [Prod.mk.injEq] at h
    obtain ⟨rfl, rfl⟩ := h
    exact FromBits_no d s (Lib.hid (by simpa using hr)) w
theorem low_wrap {n : Nat} (h1 : 1 ≤ n) {s : Bool} {x : Int} (hx : hasW n s x = true) : wrapW n s ((lowN n x : Nat) : Int) = x := by
  rw [lowN_cast]
  obtain ⟨k, hk⟩ : ∃ k : Int, x % ((2 ^ n : Nat) : Int) = x + k * ((2 ^ n : Nat) : Int) := ⟨-(x / ((2 ^ n : Nat) : Int)), by
    have := Int.emod_add_mul_ediv x ((2 ^ n : Nat) : Int)
    rw [Int.neg_mul, Int.mul_comm]; omega⟩
  rw [wrap_to k hk, wrap_of_has h1 hx]
theorem back {m : ByteArray} {n : Int} {s : Bool} {t : ByteArray} (h : bitsS m n s = (t, 0)) : fromS t.data.toList s = (m, 0) ∧ (t.size : Int) = n := by
  unfold bitsS at h
  cases hx : rdm m with
  | none => rw [hx] at h; exact absurd (congrArg Prod.snd h) (by simp)
  | some x =>
    rw [hx] at h
    simp only at h
    by_cases hr : isRight n = true
    · rw [if_pos hr] at h
      by_cases hh : hasI n s x = true
      · rw [if_pos hh] at h
        have ht := (congrArg Prod.fst h).symm
        obtain ⟨k, rfl, k1, k2, k3⟩ := right_bits hr
        have hw : hasW k s x = true := by unfold hasI at hh; rwa [k3] at hh
        rw [k3] at ht
        subst ht
        refine ⟨?_, by show ((btxt (lowN k x) k).toArray.size : Int) = _; simp [btxt_length]⟩
        show fromS (btxt (lowN k x) k).toArray.toList s = _
        rw [List.toList_toArray]
        unfold fromS
        rw [btxt_length, if_pos ⟨hr, btxt_ok _ _⟩, bvN_btxt, Nat.mod_eq_of_lt (lowN_lt k x), low_wrap k1 hw, txt_rd (s := m.data.toList) hx]
      · rw [if_neg hh] at h; exact absurd (congrArg Prod.snd h) (by simp)
    · rw [if_neg hr] at h; exact absurd (congrArg Prod.snd h) (by simp)
end Go.Proofs.Ytclainfdeghgnaa

namespace Go.Proofs.Ytclainfdeghgnaa
open Go.RowKit Go.Proofs.Ytclainfdeghgnaa.Nm
set_option maxHeartbeats 1000000 in
set_option maxRecDepth 100000 in
theorem NumberBitsBack_any (m : ByteArray) (n : Int) (s : Bool) (md : ByteArray) (w : World) :
    Calls Try.prog 19 #[.string m, .agg (kvB n s md)] w fun e w' => e = .returned (.bool true) ∧ Below w.heap.size w w' := by
  rcases hr : bitsS m n s with ⟨t, er⟩
  cases la : decide (200 < m.size)
  · have LA := Lib.hid la
    clear la
    by_cases he : er = 0
    · subst he
      obtain ⟨hf, hn⟩ := back hr
      have hnb : ((t.size : Int) == n) = true := by simpa using hn
      clear hn
      have HR := Lib.hid hr
      have HF := Lib.hid hf
      clear hr hf
      go_enter Try.func19, Try.ntmps19
      go_upto_region 1 with (fail)
      refine wp_world (fun W => W.heap[w.heap.size]? = some (.cells (kvB n s md) 25 (0, 0)) ∧ Below w.heap.size w W) ⟨ha_new rfl, (Below.refl _ _).alloc (Nat.le_refl _) _⟩ ?_
      rintro W ⟨h0, hb⟩
      go_upto_region 3 with (go_at_call 20; refine (longs m _ _ LA).mono ?_; rintro e w9 ⟨rfl, hb1⟩; replace h0 := below_look hb1 h0; replace hb := hb.trans (hb1.mono hb.size); clear hb1)
      apply wp_region_lit
      refine wl_k rfl (fun K hK => ?_); go_simp; refine hK _ ?_; clear hK K
      refine wl_k rfl (fun K hK => ?_); go_simp; refine hK _ ?_; clear hK K
      ((with_reducible apply wl_oneG); exact rfl; exact rfl; exact one_of u3 rfl (kv0 h0))
      refine wl_k rfl (fun K hK => ?_); go_simp; refine hK _ ?_; clear hK K
      ((with_reducible apply wl_oneG); exact rfl; exact rfl; exact one_of u4 rfl (kv1 h0))
      refine wl_ck rfl (fun K hK => ?_); go_simp; refine ⟨_, _, ⟨rfl, rfl⟩, hK _ _ ⟨_, Bits_any _ _ _ _ _ HR _, ?_⟩⟩; clear hK K; rintro e w2 ⟨rfl, hb1⟩; refine ⟨_, rfl, ?_⟩; simp only [put_lit, List.set_cons_zero, List.set_cons_succ]
      replace h0 := below_look hb1 h0; replace hb := hb.trans (hb1.mono hb.size); clear hb1
      go_upto_region 6 with (fail)
      apply wp_region_lit
      refine wl_k rfl (fun K hK => ?_); go_simp; refine hK _ ?_; clear hK K
      refine wl_k rfl (fun K hK => ?_); go_simp; refine hK _ ?_; clear hK K
      ((with_reducible apply wl_oneG); exact rfl; exact rfl; exact one_of u4 rfl (kv1 h0))
      refine wl_ck rfl (fun K hK => ?_); go_simp; refine ⟨_, _, ⟨rfl, rfl⟩, hK _ _ ⟨_, FromBits_any _ _ _ _ HF _, ?_⟩⟩; clear hK K; rintro e w3 ⟨rfl, hb1⟩; refine ⟨_, rfl, ?_⟩; simp only [put_lit, List.set_cons_zero, List.set_cons_succ]
      replace h0 := below_look hb1 h0; replace hb := hb.trans (hb1.mono hb.size); clear hb1
      have c0 := kv0 h0
      go_wp2_with (go_at_call 21; refine (awake_any _).mono ?_; rintro e w9 ⟨rfl, hb1⟩; replace hb := hb.trans (hb1.mono hb.size); clear hb1)
      go_ret
      exact ⟨rfl, hb⟩
    · have HR := Lib.hid hr
      clear hr
      go_enter Try.func19, Try.ntmps19
      go_upto_region 1 with (fail)
      refine wp_world (fun W => W.heap[w.heap.size]? = some (.cells (kvB n s md) 25 (0, 0)) ∧ Below w.heap.size w W) ⟨ha_new rfl, (Below.refl _ _).alloc (Nat.le_refl _) _⟩ ?_
      rintro W ⟨h0, hb⟩
      go_upto_region 3 with (go_at_call 20; refine (longs m _ _ LA).mono ?_; rintro e w9 ⟨rfl, hb1⟩; replace h0 := below_look hb1 h0; replace hb := hb.trans (hb1.mono hb.size); clear hb1)
      apply wp_region_lit
      refine wl_k rfl (fun K hK => ?_); go_simp; refine hK _ ?_; clear hK K
      refine wl_k rfl (fun K hK => ?_); go_simp; refine hK _ ?_; clear hK K
      ((with_reducible apply wl_oneG); exact rfl; exact rfl; exact one_of u3 rfl (kv0 h0))
      refine wl_k rfl (fun K hK => ?_); go_simp; refine hK _ ?_; clear hK K
      ((with_reducible apply wl_oneG); exact rfl; exact rfl; exact one_of u4 rfl (kv1 h0))
      refine wl_ck rfl (fun K hK => ?_); go_simp; refine ⟨_, _, ⟨rfl, rfl⟩, hK _ _ ⟨_, Bits_any _ _ _ _ _ HR _, ?_⟩⟩; clear hK K; rintro e w2 ⟨rfl, hb1⟩; refine ⟨_, rfl, ?_⟩; simp only [put_lit, List.set_cons_zero, List.set_cons_succ]
      replace h0 := below_look hb1 h0; replace hb := hb.trans (hb1.mono hb.size); clear hb1
      go_wp2_with (go_at_call 21; refine (awake_any _).mono ?_; rintro e w9 ⟨rfl, hb1⟩; replace hb := hb.trans (hb1.mono hb.size); clear hb1)
      go_ret
      exact ⟨rfl, hb⟩
  · have LA := Lib.hid la
    clear la hr
    go_enter Try.func19, Try.ntmps19
    go_upto_region 1 with (fail)
    refine wp_world (fun W => W.heap[w.heap.size]? = some (.cells (kvB n s md) 25 (0, 0)) ∧ Below w.heap.size w W) ⟨ha_new rfl, (Below.refl _ _).alloc (Nat.le_refl _) _⟩ ?_
    rintro W ⟨h0, hb⟩
    go_wp2_with (first | (go_at_call 20; refine (longs m _ _ LA).mono ?_; rintro e w9 ⟨rfl, hb1⟩; replace hb := hb.trans (hb1.mono hb.size); clear hb1) | (go_at_call 21; refine (awake_any _).mono ?_; rintro e w9 ⟨rfl, hb1⟩; replace hb := hb.trans (hb1.mono hb.size); clear hb1))
    go_ret
    exact ⟨rfl, hb⟩
end Go.Proofs.Ytclainfdeghgnaa
