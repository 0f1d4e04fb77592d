/- A number's text is read as the number; numbers wrapped into a width. The operations that wrap, on any two texts. Whether a text is long; a kind by value. Whether a text is a value of a width; which of two texts is the greater number. A number wrapped into a width, as the document does it: the remainder, less the width's range where it is too great. The document's decimal text of a whole number. A number brought into a width, the program's. The document's ends of a width, and what lies between them. Which of two texts is the greater number: the document's answer, and the law. Whether a text is a value of a width: the document's answer, and the law. A new variable that may be made at any time of a drawn region: it is taken where it comes up. Three operations of a drawn region may come up. A number brought into a width, the document's. A number brought into a width, the document's: wrapped. A number brought into a width, the document's: whatever the mode; the law of conversions. -/
import Derived.Test.YtclainfdeghgnaaW18
import Derived.Test.YtclainfdeghgnaaW31
import Derived.Outline
import Derived.Test.YtclainfdeghgnaaK6
import Derived.Test.YtclainfdeghgnaaW20
import Derived.Test.YtclainfdeghgnaaV3
import Derived.Laws.BytesString
import Derived.Test.YtclainfdeghgnaaM3
import Derived.Test.YtclainfdeghgnaaW17
import Derived.Test.YtclainfdeghgnaaV4
import Derived.Test.YtclainfdeghgnaaK9
namespace Go.Proofs.Ytclainfdeghgnaa
open Go.RowKit Go.Proofs.Ytclainfdeghgnaa.Nm

theorem top_dg {n : Nat} (h : n ≠ 0) : dg n (dlen n - 1) ≠ 0 := by
  induction n using Nat.strongRecOn with
  | ind n ih =>
    by_cases h10 : n < 10
    · rw [dlen_small h10]; simp [dg]; omega
    · rw [dlen_big h10, Nat.add_sub_cancel]
      have hp := dlen_pos (n / 10)
      obtain ⟨t, ht⟩ : ∃ t, dlen (n / 10) = t + 1 := ⟨dlen (n / 10) - 1, by omega⟩
      have := ih (n / 10) (by omega) (by omega)
      rw [ht] at this ⊢
      rw [dg_succ]; simpa using this
end Go.Proofs.Ytclainfdeghgnaa

namespace Go.Proofs.Ytclainfdeghgnaa
open Go.RowKit Go.Proofs.Ytclainfdeghgnaa.Nm

theorem mul_bd {x y : Int} (hx : x.natAbs ≤ 18446744073709551616) (hy : y.natAbs ≤ 18446744073709551616) : x.natAbs * y.natAbs ≤ 340282366920938463463374607431768211456 := Nat.le_trans (Nat.mul_le_mul hx hy) (by decide)
theorem hasI_bd {bits : Int} {s : Bool} {x : Int} (hr : isRight bits = true) (hx : hasI bits s x = true) : x.natAbs ≤ 18446744073709551616 := by
  obtain ⟨n, rfl, h1, h2, h3⟩ := right_bits hr
  unfold hasI at hx
  rw [h3] at hx
  have := has_bd h1 h2 hx
  omega
end Go.Proofs.Ytclainfdeghgnaa

namespace Go.Proofs.Ytclainfdeghgnaa
open Go.RowKit Go.Proofs.Ytclainfdeghgnaa.Nm

set_option maxHeartbeats 400000 in
theorem longB_any (m : ByteArray) (w : World) : Calls Try.prog 20 #[.string m] w fun e w' => e = .returned (.bool (decide (200 < m.size))) ∧ Below w.heap.size w w' := by
  go_enter Try.func20, Try.ntmps20
  go_wp2
  go_ret
  refine ⟨?_, Below.refl _ _⟩
  have : (decide (200 < (m.size : Int))) = decide (200 < m.size) := by
    by_cases h : 200 < m.size
    · rw [decide_eq_true h, decide_eq_true (by omega)]
    · rw [decide_eq_false h, decide_eq_false (by omega)]
  rw [← this]
  rfl
/-- A kind by value. -/
def kvB (b : Int) (s : Bool) (m : ByteArray) : Array Value := #[.int .i64 b, .bool s, .string m]
theorem longB_lit (m : ByteArray) (R : Bool) (HR : Hid (decide (200 < m.size) = R)) (w : World) : Calls Try.prog 20 #[.string m] w fun e w' => e = .returned (.bool R) ∧ Below w.heap.size w w' := by
  rw [← HR.out]; exact longB_any m w
end Go.Proofs.Ytclainfdeghgnaa

namespace Go.Proofs.Ytclainfdeghgnaa
open Go.RowKit Go.Proofs.Ytclainfdeghgnaa.Nm
end Go.Proofs.Ytclainfdeghgnaa

namespace Go.Proofs.Ytclainfdeghgnaa
open Go.RowKit Go.Proofs.Ytclainfdeghgnaa.Nm
theorem wrap_of {bits : Nat} (s : Bool) (x : Int) (h1 : 1 ≤ bits) :
    wrapW bits s x = if hiW bits s < x % ((2 ^ bits : Nat) : Int) then x % ((2 ^ bits : Nat) : Int) - ((2 ^ bits : Nat) : Int) else x % ((2 ^ bits : Nat) : Int) := by
  have hp : 2 ^ bits = 2 * 2 ^ (bits - 1) := by
    obtain ⟨k, rfl⟩ : ∃ k, bits = k + 1 := ⟨bits - 1, by omega⟩
    rw [Nat.add_sub_cancel, Nat.pow_succ]; omega
  have h0 : 0 < 2 ^ (bits - 1) := Nat.pow_pos (by decide)
  unfold wrapW loW hiW
  rw [hp]
  generalize 2 ^ (bits - 1) = h at h0
  have e1 := Int.emod_nonneg x (b := ((2 * h : Nat) : Int)) (by omega)
  have e2 := Int.emod_lt_of_pos x (b := ((2 * h : Nat) : Int)) (by omega)
  cases s
  · simp only [Bool.false_eq_true, if_false]
    rw [Int.sub_zero, Int.zero_add, if_neg (by omega)]
  · simp only [if_true]
    have e3 := Int.emod_add_mul_ediv x ((2 * h : Nat) : Int)
    have e4 : x - -(h : Int) = (x % ((2 * h : Nat) : Int) + h) + ((2 * h : Nat) : Int) * (x / ((2 * h : Nat) : Int)) := by omega
    rw [e4, Int.add_mul_emod_self_left]
    generalize x % ((2 * h : Nat) : Int) = r at e1 e2
    by_cases hc : (h : Int) - 1 < r
    · rw [if_pos hc]
      have : r + (h : Int) = (r - h) + ((2 * h : Nat) : Int) * 1 := by omega
      rw [this, Int.add_mul_emod_self_left, Int.emod_eq_of_lt (by omega) (by omega)]
      omega
    · rw [if_neg hc, Int.emod_eq_of_lt (by omega) (by omega)]
      omega
end Go.Proofs.Ytclainfdeghgnaa

namespace Go.Proofs.Ytclainfdeghgnaa
open Go.RowKit Go.Proofs.Ytclainfdeghgnaa.Nm Go.Proofs.Ytclainfdeghgnaa.Lm
theorem run_bs114 (w : World) (z : Int) : (Instr.buildSlice 114 1 #[(0, .int .u8 z)]).run Try.prog w = .ok (.slice (some ⟨w.heap.size, 0, none⟩) 1 1) (w.alloc (.cells #[.int .u8 z] 5)) := by kernel_rfl
theorem ex_bs114 {ev : Operand → Value} {o : Oper} {w : World} (x : Operand) (ho : o.op = .buildSlice 114 1 #[(0, x)]) {z : Int} (hx : ev x = .int .u8 z) :
    (execOp ev o).run Try.prog w = .ok (.value (.slice (some ⟨w.heap.size, 0, none⟩) 1 1)) (w.alloc (.cells #[.int .u8 z] 5)) := by
  unfold execOp
  have := run_bs114 w z
  simp [ho, hx, this, Result.andThen]
theorem ex_cv114 {ev : Operand → Value} {o : Oper} {w : World} (x : Operand) (ho : o.op = .convert 114 9 x) {g : Nat} {z : Int} (hx : ev x = .slice (some ⟨g, 0, none⟩) 1 1) (hc : w.cell? ⟨g, 0, none⟩ = some (.int .u8 z)) :
    (execOp ev o).run Try.prog w = .ok (.value (.string ⟨#[UInt8.ofNat z.toNat]⟩)) w := by
  have h1 := run_convert_bytes_string (P := Try.prog) w 114 9 5 (some ⟨g, 0, none⟩) 1 1 (by kernel_rfl) (by kernel_rfl) (by kernel_rfl)
  have h2 := run_bytesToString (P := Try.prog) w ⟨g, 0, none⟩ 1 1 [z] (run_loadCells_list w _ [.int .u8 z] (by
    intro j v h
    rcases j with _ | j
    · simp at h; subst h; exact hc
    · simp at h))
  unfold execOp
  simp [ho, hx, h1, h2, Result.andThen]
  rfl
theorem nl_pos' {n : Nat} (h : n ≠ 0) : ¬ ((nl n : Nat) : Int) = 0 := by
  intro h0
  exact h (nl_eq_zero.1 (by omega))
theorem nl_ten : nl 10 = 1 := by rw [nl_pos (by decide), Nat.div_eq_of_lt (by rw [B_eq]; omega), nl_zero]
theorem parted_ten (A A' : Option Addr) (n c c' a : Nat) (w : World) (ha : Lr w A n a) (hb : Lr w A' 1 10) (la : a < B ^ n) (hn : n ≤ 400) :
    Calls Try.prog 118 #[.slice A n c, .slice A' 1 c'] w fun e w' => ∃ A2 c2 A3 c3, e = .returned (.tuple #[.slice A2 (nl (a / 10)) c2, .slice A3 (nl (a % 10)) c3]) ∧ nl (a / 10) ≤ c2 ∧ nl (a % 10) ≤ c3 ∧
      LrB w.heap.size w' A2 (nl (a / 10)) (a / 10) ∧ LrB w.heap.size w' A3 (nl (a % 10)) (a % 10) ∧ Below w.heap.size w w' := by
  have h := parted_any A A' n c c' a 10 w ha (by rw [nl_ten]; exact hb) la hn (by rw [nl_ten]; omega) (by decide)
  rw [nl_ten] at h
  exact h
def slen : Value → Nat
  | .string b => b.size
  | _ => 0
theorem d_done {N k : Nat} (h0 : N ≠ 0) (hk : k ≤ dlen N) (h : N / 10 ^ k = 0) : k = dlen N := by
  have h1 := top_dg h0
  have h2 := dlen_pos N
  refine Nat.le_antisymm hk (Nat.le_of_not_lt fun hc => h1 ?_)
  unfold dg
  have h3 : 10 ^ k ≤ 10 ^ (dlen N - 1) := Nat.pow_le_pow_right (by decide) (by omega)
  have h4 : N < 10 ^ k := by
    rcases Nat.div_eq_zero_iff.1 h with h | h
    · have := Nat.pow_pos (n := k) (show 0 < 10 by decide); omega
    · exact h
  rw [Nat.div_eq_of_lt (by omega)]
theorem d_more {N k : Nat} (hk : k ≤ dlen N) (h : N / 10 ^ k ≠ 0) : k < dlen N := by
  refine Nat.lt_of_le_of_ne hk fun e => h ?_
  subst e
  exact Nat.div_eq_of_lt (lt_dlen N)
theorem d_next (N k : Nat) : N / 10 ^ (k + 1) = N / 10 ^ k / 10 := by rw [Nat.pow_succ, Nat.div_div_eq_div_mul]
theorem d_cat (N k D : Nat) (h : D = N / 10 ^ k % 10) : (⟨#[UInt8.ofNat ((48 + D : Int)).toNat]⟩ : ByteArray) ++ (⟨(dtxt N k).toArray⟩ : ByteArray) = ⟨(dtxt N (k + 1)).toArray⟩ := by
  have e : (48 + (D : Int)).toNat = 48 + D := by omega
  rw [e, h]
  apply ByteArray.ext
  rw [ByteArray.data_append]
  simp [dtxt, dch, dg]
theorem d_meas (N k D : Nat) (h : D = N / 10 ^ k % 10) (hk : k < 64) : 70 - slen (.string ((⟨#[UInt8.ofNat (48 + D)]⟩ : ByteArray) ++ (⟨(dtxt N k).toArray⟩ : ByteArray))) < 70 - slen (.string ⟨(dtxt N k).toArray⟩) := by
  have e := d_cat N k D h
  rw [show (48 + (D : Int)).toNat = 48 + D by omega] at e
  rw [e]
  show 70 - (dtxt N (k + 1)).toArray.size < 70 - (dtxt N k).toArray.size
  simp only [List.size_toArray, dtxt_length]
  omega
theorem txt_zero : txt 0 = [48] := by
  unfold txt sgn
  rw [ng_def, show (0 : Int).natAbs = 0 from rfl, dlen_small (by decide)]
  decide
theorem txt_pos {z : Int} (h : ng z = false) : txt z = dtxt z.natAbs (dlen z.natAbs) := by unfold txt sgn; rw [h]; rfl
theorem txt_neg {z : Int} (h : ng z = true) : txt z = 45 :: dtxt z.natAbs (dlen z.natAbs) := by unfold txt sgn; rw [h]; rfl
theorem lm0 {D : Nat} (h : D < 10) : lm D 0 = D := by unfold lm; rw [Nat.pow_zero, Nat.div_one, Nat.mod_eq_of_lt (by rw [B_eq]; omega)]
set_option maxHeartbeats 1000000 in
set_option maxRecDepth 100000 in
theorem TextI_zero (A : Option Addr) (c : Nat) (w : World) :
    Calls Try.prog 71 #[.agg (iv 0 A c)] w fun e w' => e = .returned (.string ⟨(txt 0).toArray⟩) ∧ Below w.heap.size w w' := by
  go_enter Try.func71, Try.ntmps71
  go_upto_region 1 with (fail)
  refine wp_world (fun W => W.heap[w.heap.size]? = some (.cells (iv 0 A c) 84 (0, 0)) ∧ Below w.heap.size w W) ⟨ha_new rfl, (Below.refl _ _).alloc (Nat.le_refl _) _⟩ ?_
  rintro W ⟨h0, hb⟩
  have i1 := iv1 h0
  rw [show (0 : Int).natAbs = 0 from rfl, nl_zero] at i1
  go_wp2_with fail
  go_ret
  rw [txt_zero]
  exact ⟨rfl, hb⟩
set_option maxHeartbeats 2000000 in
set_option maxRecDepth 100000 in
theorem TextI_pos (z : Int) (A : Option Addr) (c : Nat) (w : World) (hI : IvAt w z A c) (nz : nl z.natAbs ≤ 400) (hz : z.natAbs < 10 ^ 64) (h0 : z.natAbs ≠ 0) :
    Calls Try.prog 71 #[.agg (iv z A c)] w fun e w' => e = .returned (.string ⟨(txt z).toArray⟩) ∧ Below w.heap.size w w' := by
  have HI := Lib.hid hI
  have HZ0 := Lib.hid h0
  have nz0 := nl_pos' h0
  have DL : Hid (dlen z.natAbs ≤ 64) := Lib.hid (dlen_le (k := 63) hz)
  clear hI hz h0
  go_enter Try.func71, Try.ntmps71
  go_upto_region 1 with (fail)
  refine wp_world (fun W => W.heap[w.heap.size]? = some (.cells (iv z A c) 84 (0, 0)) ∧ Below w.heap.size w W) ⟨ha_new rfl, (Below.refl _ _).alloc (Nat.le_refl _) _⟩ ?_
  rintro W ⟨h0, hb⟩
  have i1 := iv1 h0
  have hI := Lib.hid (HI.out.below hb)
  clear HI
  go_wp2_with fail
  rw [show (((nl z.natAbs : Nat) : Int) == 0) = false from by assumption]
  clear i1 nz0
  go_loopw [3, 4] (fun s m wr => ∃ (k : Nat) (A2 : Option Addr) (c2 : Nat), k ≤ dlen z.natAbs ∧ s = .string ⟨(dtxt z.natAbs k).toArray⟩ ∧ m = .slice A2 (nl (z.natAbs / 10 ^ k)) c2 ∧ nl (z.natAbs / 10 ^ k) ≤ c2 ∧ Hid (Lr wr A2 (nl (z.natAbs / 10 ^ k)) (z.natAbs / 10 ^ k)) ∧ wr.heap[w.heap.size]? = some (.cells (iv z A c) 84 (0, 0)) ∧ Below w.heap.size w wr) (fun s _ _ => 70 - slen s)
  case atStart => exact ⟨0, A, c, by omega, rfl, by rw [Nat.pow_zero, Nat.div_one], by rw [Nat.pow_zero, Nat.div_one]; exact hI.out.1, by rw [Nat.pow_zero, Nat.div_one]; exact Lib.hid hI.out.2, h0, hb⟩
  case round =>
    clear h0 hb hI
    obtain ⟨k, A2, c2, hk, rfl, rfl, hc2, HL, h0, hb⟩ := hrel
    obtain ⟨M, hM⟩ : ∃ M, M = z.natAbs / 10 ^ k := ⟨_, rfl⟩
    rw [← hM] at hc2 HL ⊢
    have nM : nl M ≤ 400 := by rw [hM]; exact nl_sub (Nat.div_le_self _ _) nz
    have HM := Lib.hid hM
    clear hM
    by_cases hM0 : M = 0
    · have hkk := d_done HZ0.out hk (by rw [← HM.out]; exact hM0)
      subst hkk
      subst hM0
      rw [nl_zero]
      have i0 := iv0 h0
      cases hs : ng z
      · have HT := Lib.hid (txt_pos hs)
        rw [hs] at i0
        clear hs
        go_wp2_with fail
        go_ret
        rw [HT.out]
        exact ⟨rfl, hb⟩
      · have HT := Lib.hid (txt_neg hs)
        rw [hs] at i0
        have hL : ¬ 9223372036854775807 < 1 + (dtxt z.natAbs (dlen z.natAbs)).length := by rw [dtxt_length]; have := DL.out; omega
        clear hs
        go_wp2_with fail
        go_ret
        rw [HT.out]
        refine ⟨?_, hb⟩
        congr 2
    · have hkk := Lib.hid (d_more hk (by rw [← HM.out]; exact hM0))
      have nM0 := nl_pos' hM0
      clear hM0
      go_upto_region 6 with (fail)
      clear nM0
      apply wp_region_lit
      refine wl_k rfl (fun K hK => ?_); go_simp; refine hK _ ?_; clear hK K
      refine wl_w rfl (ex_bs82 _ rfl rfl) ?_
      simp only [put_lit, List.set_cons_zero, List.set_cons_succ]
      refine wl_world (fun W => Lr W A2 (nl M) M ∧ Lr W (some ⟨wr.heap.size, 0, none⟩) 1 10 ∧ W.heap[w.heap.size]? = some (.cells (iv z A c) 84 (0, 0)) ∧ Below w.heap.size w W) ⟨HL.out.below ((Below.refl _ _).alloc (Nat.le_refl _) _), fun _ => ⟨_, rfl, by simp, fun i hi => ?_⟩, ha_old h0, hb.alloc hb.size _⟩ ?_
      · obtain rfl : i = 0 := by omega
        rw [cell_of_row _ _ _ _ _ _ (ha_new rfl)]; rfl
      clear HL h0 hb
      rintro w3 ⟨hl, hl1, h0, hb⟩
      refine wl_ck rfl (fun K hK => ?_); go_simp; refine ⟨_, _, ⟨rfl, rfl⟩, hK _ _ ⟨_, parted_ten A2 _ (nl M) c2 1 M _ hl hl1 (nl_spec _) nM, ?_⟩⟩; clear hK K; rintro e w4 ⟨A3, c3, A4, c4, rfl, hc3, hc4, hl3, hl4, hb1⟩; refine ⟨_, rfl, ?_⟩; simp only [put_lit, List.set_cons_zero, List.set_cons_succ]
      replace h0 := below_look hb1 h0; replace hb := hb.trans (hb1.mono hb.size); clear hb1
      clear hl hl1
      have HQ := Lib.hid hl3.lr
      have HR := Lib.hid hl4.lr
      clear hl3 hl4
      obtain ⟨D, hD⟩ : ∃ D, D = M % 10 := ⟨_, rfl⟩
      have D10 : D < 10 := by omega
      have HC := Lib.hid (show D = z.natAbs / 10 ^ k % 10 by rw [← HM.out]; exact hD)
      have HN := Lib.hid (show M / 10 = z.natAbs / 10 ^ (k + 1) by rw [d_next, ← HM.out])
      rw [← hD] at HR hc4 ⊢
      rw [HN.out] at HQ hc3 ⊢
      clear hD HM nM HN hc2
      by_cases hD0 : D = 0
      · subst hD0
        rw [nl_zero]
        go_upto_region 10 with (fail)
        apply wp_region_lit
        refine wl_k rfl (fun K hK => ?_); go_simp; refine hK _ ?_; clear hK K
        refine wl_w rfl (ex_bs114 _ rfl rfl) ?_
        simp only [put_lit, List.set_cons_zero, List.set_cons_succ]
        refine wl_val rfl (ex_cv114 _ rfl rfl (by rw [cell_of_row _ _ _ _ _ _ (ha_new rfl)]; rfl)) ?_
        simp only [put_lit, List.set_cons_zero, List.set_cons_succ]
        refine wl_world (fun W => Lr W A3 (nl (z.natAbs / 10 ^ (k + 1))) (z.natAbs / 10 ^ (k + 1)) ∧ W.heap[w.heap.size]? = some (.cells (iv z A c) 84 (0, 0)) ∧ Below w.heap.size w W) ⟨HQ.out.below ((Below.refl _ _).alloc (Nat.le_refl _) _), ha_old h0, hb.alloc hb.size _⟩ ?_
        clear HQ HR h0 hb
        rintro w5 ⟨hQ, h0, hb⟩
        have hL : ¬ 9223372036854775807 < 1 + (dtxt z.natAbs k).length := by rw [dtxt_length]; have := DL.out; omega
        go_wp2_with fail
        go_roundw
        case rel =>
          refine ⟨k + 1, A3, c3, hkk.out, ?_, rfl, hc3, Lib.hid hQ, h0, hb⟩
          exact congrArg Value.string (d_cat z.natAbs k 0 HC.out)
        case measure => exact d_meas z.natAbs k 0 HC.out (by have := hkk.out; have := DL.out; omega)
      · have nD : nl D = 1 := by rw [nl_pos hD0, Nat.div_eq_of_lt (by rw [B_eq]; omega), nl_zero]
        rw [nD] at HR hc4 ⊢
        obtain ⟨g, rfl, hg, ca⟩ := HR.out.at_ (k := 0) (by omega)
        rw [lm0 D10] at ca
        have e1 : IntKind.u8.wrap (D : Int) = (D : Int) := IntWalk.u8_in _ (by omega)
        have e2 : IntKind.u8.wrap (48 + (D : Int)) = 48 + (D : Int) := IntWalk.u8_in _ (by omega)
        clear nD hD0
        go_upto_region 10 with (fail)
        clear ca e1 e2 hg
        apply wp_region_lit
        refine wl_k rfl (fun K hK => ?_); go_simp; refine hK _ ?_; clear hK K
        refine wl_w rfl (ex_bs114 _ rfl rfl) ?_
        simp only [put_lit, List.set_cons_zero, List.set_cons_succ]
        refine wl_val rfl (ex_cv114 _ rfl rfl (by rw [cell_of_row _ _ _ _ _ _ (ha_new rfl)]; rfl)) ?_
        simp only [put_lit, List.set_cons_zero, List.set_cons_succ]
        refine wl_world (fun W => Lr W A3 (nl (z.natAbs / 10 ^ (k + 1))) (z.natAbs / 10 ^ (k + 1)) ∧ W.heap[w.heap.size]? = some (.cells (iv z A c) 84 (0, 0)) ∧ Below w.heap.size w W) ⟨HQ.out.below ((Below.refl _ _).alloc (Nat.le_refl _) _), ha_old h0, hb.alloc hb.size _⟩ ?_
        clear HQ HR h0 hb
        rintro w5 ⟨hQ, h0, hb⟩
        have hL : ¬ 9223372036854775807 < 1 + (dtxt z.natAbs k).length := by rw [dtxt_length]; have := DL.out; omega
        go_wp2_with fail
        go_roundw
        case rel =>
          refine ⟨k + 1, A3, c3, hkk.out, ?_, rfl, hc3, Lib.hid hQ, h0, hb⟩
          exact congrArg Value.string (d_cat z.natAbs k D HC.out)
        case measure => exact d_meas z.natAbs k D HC.out (by have := hkk.out; have := DL.out; omega)
theorem TextI_any (z : Int) (A : Option Addr) (c : Nat) (w : World) (hI : IvAt w z A c) (nz : nl z.natAbs ≤ 400) (hz : z.natAbs < 10 ^ 64) :
    Calls Try.prog 71 #[.agg (iv z A c)] w fun e w' => e = .returned (.string ⟨(txt z).toArray⟩) ∧ Below w.heap.size w w' := by
  by_cases h : z.natAbs = 0
  · obtain rfl : z = 0 := by omega
    exact TextI_zero A c w
  · exact TextI_pos z A c w hI nz hz h
end Go.Proofs.Ytclainfdeghgnaa

namespace Go.Proofs.Ytclainfdeghgnaa
open Go.RowKit Go.Proofs.Ytclainfdeghgnaa.Nm
theorem bring_bd {bits : Int} {s : Bool} {m : List UInt8} {x r er : Int} (hr : isRight bits = true) (h : bringW bits.toNat s m x = (r, er)) : r.natAbs ≤ 18446744073709551616 := by
  obtain ⟨n, rfl, h1, h2, h3⟩ := right_bits hr
  rw [h3] at h
  have l1 := lo_bd h2 s
  have l2 := hi_bd h1 h2 s
  unfold bringW at h
  by_cases c1 : hasW n s x = true
  · rw [if_pos c1] at h
    have := has_bd h1 h2 c1
    simp only [Prod.mk.injEq] at h
    omega
  · rw [if_neg c1] at h
    by_cases c2 : isWrap m = true
    · rw [if_pos c2] at h
      have := has_bd h1 h2 (wrap_has h1 s x)
      simp only [Prod.mk.injEq] at h
      omega
    · rw [if_neg c2] at h
      by_cases c3 : isTrap m = true
      · rw [if_pos c3] at h
        simp only [Prod.mk.injEq] at h
        omega
      · rw [if_neg c3] at h
        by_cases c4 : x < loW n s
        · rw [if_pos c4] at h
          simp only [Prod.mk.injEq] at h
          omega
        · rw [if_neg c4] at h
          simp only [Prod.mk.injEq] at h
          omega
end Go.Proofs.Ytclainfdeghgnaa

namespace Go.Proofs.Ytclainfdeghgnaa
open Go.RowKit Go.Proofs.Ytclainfdeghgnaa.Nm Go.Proofs.Ytclainfdeghgnaa.Lm
def t2 (x : Int) : Int := ((2 ^ x.toNat : Nat) : Int)
theorem PowerT_any (x : Int) (h0 : 0 ≤ x) (h : x ≤ 64) (w : World) :
    Calls Try.prog 115 #[.int .i64 x] w fun e w' => ∃ A2 c2, e = .returned (.agg (iv (t2 x) A2 c2)) ∧ IvAt w' (t2 x) A2 c2 ∧ Below w.heap.size w w' := by
  obtain ⟨n, rfl⟩ := Int.eq_ofNat_of_zero_le h0
  exact PowerI_any n (by omega) w
theorem nl_t2 {x : Int} (h : x ≤ 64) : nl (t2 x).natAbs ≤ 3 := by
  unfold t2
  rw [Int.natAbs_natCast]; exact nl_p2 (by omega)
theorem built84y : Try.prog.built 84 [] = some (iv 0 none 0) := by rw [iv_zero]; kernel_rfl
theorem nl_one' : nl (1 : Int).natAbs ≤ 1 := by show nl 1 ≤ 1; rw [nl_one]; omega
theorem nl_zero' : nl (0 : Int).natAbs ≤ 1 := by show nl 0 ≤ 1; rw [nl_zero]; omega
theorem lo_t2 {n : Int} (h : 1 ≤ n) : 0 - t2 (n - 1) = loW n.toNat true := by
  unfold loW t2
  rw [if_pos rfl, show (n - 1).toNat = n.toNat - 1 by omega]; omega
theorem hi_t2 {n : Int} (h : 1 ≤ n) : t2 (n - 1) - 1 = hiW n.toNat true := by
  unfold hiW t2
  rw [if_pos rfl, show (n - 1).toNat = n.toNat - 1 by omega]
theorem lo_f (n : Int) : (0 : Int) = loW n.toNat false := by unfold loW; simp
theorem hi_f (n : Int) : t2 n - 1 = hiW n.toNat false := by unfold hiW t2; simp
set_option maxHeartbeats 2000000 in
set_option maxRecDepth 100000 in
theorem endsI_any (n : Int) (s : Bool) (h1 : 1 ≤ n) (h2 : n ≤ 64) (w : World) :
    Calls Try.prog 111 #[.int .i64 n, .bool s] w fun e w' => ∃ A2 c2 A3 c3, e = .returned (.tuple #[.agg (iv (loW n.toNat s) A2 c2), .agg (iv (hiW n.toNat s) A3 c3)]) ∧ IvAt w' (loW n.toNat s) A2 c2 ∧ IvAt w' (hiW n.toNat s) A3 c3 ∧ Below w.heap.size w w' := by
  cases s
  · have E1 := Lib.hid (lo_f n)
    have E2 := Lib.hid (hi_f n)
    go_enter Try.func111, Try.ntmps111
    go_upto_region 1 with (fail)
    refine wp_world (fun W => W.heap[w.heap.size]? = some (.cells (iv 0 none 0) 84 (0, 0)) ∧ W.heap[w.heap.size + 1]? = some (.cells (iv 0 none 0) 84 (0, 0)) ∧ Below w.heap.size w W) ⟨by rw [iv_zero]; exact ha_old (ha_new rfl), by rw [iv_zero]; exact ha_new (by simp), ((Below.refl _ _).alloc (Nat.le_refl _) _).alloc (by simp) _⟩ ?_
    rintro W ⟨h4, h5, hb⟩
    go_upto_region 3 with (fail)
    apply wp_region_lit
    refine wl_val rfl (ex_build 84 _ rfl (L := []) rfl built84y) ?_
    simp only [put_lit, List.set_cons_zero, List.set_cons_succ]
    refine wl_k rfl (fun K hK => ?_); go_simp; refine hK _ ?_; clear hK K
    refine wl_ck rfl (fun K hK => ?_); go_simp; refine ⟨_, _, ⟨rfl, rfl⟩, hK _ _ ⟨_, PowerT_any n (by omega) h2 _, ?_⟩⟩; clear hK K; rintro e w1 ⟨A1, c1, rfl, i1, hb1⟩; refine ⟨_, rfl, ?_⟩; simp only [put_lit, List.set_cons_zero, List.set_cons_succ]; replace h4 := below_look hb1 h4; replace h5 := below_look hb1 h5; replace hb := hb.trans (hb1.mono hb.size); clear hb1
    refine wl_ck rfl (fun K hK => ?_); go_simp; refine ⟨_, _, ⟨rfl, rfl⟩, hK _ _ ⟨_, Of_any 1 (by decide) (by decide) _, ?_⟩⟩; clear hK K; rintro e w2 ⟨A2, c2, rfl, i2, hb1⟩; refine ⟨_, rfl, ?_⟩; simp only [put_lit, List.set_cons_zero, List.set_cons_succ]; replace h4 := below_look hb1 h4; replace h5 := below_look hb1 h5; replace i1 := i1.below hb1; replace hb := hb.trans (hb1.mono hb.size); clear hb1
    refine wl_ck rfl (fun K hK => ?_); go_simp; refine ⟨_, _, ⟨rfl, rfl⟩, hK _ _ ⟨_, MinusI_any _ _ _ _ _ _ _ i1 i2 (by have := nl_t2 (x := n) h2; omega) (by have := nl_one'; omega), ?_⟩⟩; clear hK K; rintro e w3 ⟨A3, c3, rfl, i3, hb1⟩; refine ⟨_, rfl, ?_⟩; simp only [put_lit, List.set_cons_zero, List.set_cons_succ]; replace h4 := below_look hb1 h4; replace h5 := below_look hb1 h5; replace hb := hb.trans (hb1.mono hb.size); clear hb1
    have i0 : IvAt w3 0 none 0 := IvAt.zero _
    ((with_reducible apply wl_putI); exact rfl; exact rfl; exact h4; intro w4 hbx hk hq hi; replace h5 := hk _ _ (by omega) h5; replace i0 := hi _ _ _ i0; replace i3 := hi _ _ _ i3; replace hb := hbx _ _ (by omega) hb; clear h4; have h4 := hq; clear hbx hk hq hi)
    ((with_reducible apply wl_putI); exact rfl; exact rfl; exact h5; intro w5 hbx hk hq hi; replace h4 := hk _ _ (by omega) h4; replace i0 := hi _ _ _ i0; replace i3 := hi _ _ _ i3; replace hb := hbx _ _ (by omega) hb; clear h5; have h5 := hq; clear hbx hk hq hi)
    go_wp2_with fail
    rw [E2.out] at i3 h5
    refine bodyPost_ret (res_iv2 rfl _ _ w.heap.size (w.heap.size + 1) rfl rfl h4 h5) rfl ⟨none, 0, A3, c3, ?_, ?_, i3, hb⟩
    · rw [← E1.out]
    · rw [← E1.out]; exact i0
  · have E1 := Lib.hid (lo_t2 h1)
    have E2 := Lib.hid (hi_t2 h1)
    have w1 : IntKind.i64.wrap (n - 1) = n - 1 := IntWalk.i64_in _ (by omega)
    go_enter Try.func111, Try.ntmps111
    go_upto_region 1 with (fail)
    refine wp_world (fun W => W.heap[w.heap.size]? = some (.cells (iv 0 none 0) 84 (0, 0)) ∧ W.heap[w.heap.size + 1]? = some (.cells (iv 0 none 0) 84 (0, 0)) ∧ Below w.heap.size w W) ⟨by rw [iv_zero]; exact ha_old (ha_new rfl), by rw [iv_zero]; exact ha_new (by simp), ((Below.refl _ _).alloc (Nat.le_refl _) _).alloc (by simp) _⟩ ?_
    rintro W ⟨h4, h5, hb⟩
    go_upto_region 2 with (fail)
    apply wp_region_lit
    refine wl_val rfl (ex_build 84 _ rfl (L := []) rfl built84y) ?_
    simp only [put_lit, List.set_cons_zero, List.set_cons_succ]
    refine wl_k rfl (fun K hK => ?_); go_simp; refine hK _ ?_; clear hK K
    refine wl_k rfl (fun K hK => ?_); go_simp; refine hK _ ?_; clear hK K
    refine wl_ck rfl (fun K hK => ?_); go_simp; refine ⟨_, _, ⟨rfl, rfl⟩, hK _ _ ⟨_, PowerT_any (n - 1) (by omega) (by omega) _, ?_⟩⟩; clear hK K; rintro e w1 ⟨A1, c1, rfl, i1, hb1⟩; refine ⟨_, rfl, ?_⟩; simp only [put_lit, List.set_cons_zero, List.set_cons_succ]; replace h4 := below_look hb1 h4; replace h5 := below_look hb1 h5; replace hb := hb.trans (hb1.mono hb.size); clear hb1
    refine wl_ck rfl (fun K hK => ?_); go_simp; refine ⟨_, _, ⟨rfl, rfl⟩, hK _ _ ⟨_, MinusI_any 0 _ _ _ _ _ _ (IvAt.zero _) i1 (by have := nl_zero'; omega) (by have := nl_t2 (x := n - 1) (by omega); omega), ?_⟩⟩; clear hK K; rintro e w2 ⟨A2, c2, rfl, i2, hb1⟩; refine ⟨_, rfl, ?_⟩; simp only [put_lit, List.set_cons_zero, List.set_cons_succ]; replace h4 := below_look hb1 h4; replace h5 := below_look hb1 h5; replace hb := hb.trans (hb1.mono hb.size); clear hb1
    refine wl_k rfl (fun K hK => ?_); go_simp; refine hK _ ?_; clear hK K
    refine wl_k rfl (fun K hK => ?_); go_simp; refine hK _ ?_; clear hK K
    refine wl_ck rfl (fun K hK => ?_); go_simp; refine ⟨_, _, ⟨rfl, rfl⟩, hK _ _ ⟨_, PowerT_any (n - 1) (by omega) (by omega) _, ?_⟩⟩; clear hK K; rintro e w3 ⟨A3, c3, rfl, i3, hb1⟩; refine ⟨_, rfl, ?_⟩; simp only [put_lit, List.set_cons_zero, List.set_cons_succ]; replace h4 := below_look hb1 h4; replace h5 := below_look hb1 h5; replace i2 := i2.below hb1; replace hb := hb.trans (hb1.mono hb.size); clear hb1
    refine wl_ck rfl (fun K hK => ?_); go_simp; refine ⟨_, _, ⟨rfl, rfl⟩, hK _ _ ⟨_, Of_any 1 (by decide) (by decide) _, ?_⟩⟩; clear hK K; rintro e w4 ⟨A4, c4, rfl, i4, hb1⟩; refine ⟨_, rfl, ?_⟩; simp only [put_lit, List.set_cons_zero, List.set_cons_succ]; replace h4 := below_look hb1 h4; replace h5 := below_look hb1 h5; replace i2 := i2.below hb1; replace i3 := i3.below hb1; replace hb := hb.trans (hb1.mono hb.size); clear hb1
    refine wl_ck rfl (fun K hK => ?_); go_simp; refine ⟨_, _, ⟨rfl, rfl⟩, hK _ _ ⟨_, MinusI_any _ _ _ _ _ _ _ i3 i4 (by have := nl_t2 (x := n - 1) (by omega); omega) (by have := nl_one'; omega), ?_⟩⟩; clear hK K; rintro e w5 ⟨A5, c5, rfl, i5, hb1⟩; refine ⟨_, rfl, ?_⟩; simp only [put_lit, List.set_cons_zero, List.set_cons_succ]; replace h4 := below_look hb1 h4; replace h5 := below_look hb1 h5; replace i2 := i2.below hb1; replace hb := hb.trans (hb1.mono hb.size); clear hb1
    ((with_reducible apply wl_putI); exact rfl; exact rfl; exact h4; intro w6 hbx hk hq hi; replace h5 := hk _ _ (by omega) h5; replace i2 := hi _ _ _ i2; replace i5 := hi _ _ _ i5; replace hb := hbx _ _ (by omega) hb; clear h4; have h4 := hq; clear hbx hk hq hi)
    ((with_reducible apply wl_putI); exact rfl; exact rfl; exact h5; intro w7 hbx hk hq hi; replace h4 := hk _ _ (by omega) h4; replace i2 := hi _ _ _ i2; replace i5 := hi _ _ _ i5; replace hb := hbx _ _ (by omega) hb; clear h5; have h5 := hq; clear hbx hk hq hi)
    go_wp2_with fail
    rw [E2.out] at i5 h5
    try rw [Int.zero_sub] at i2
    try rw [Int.zero_sub] at h4
    have e1 := E1.out
    rw [Int.zero_sub] at e1
    rw [e1] at i2 h4
    exact bodyPost_ret (res_iv2 rfl _ _ w.heap.size (w.heap.size + 1) rfl rfl h4 h5) rfl ⟨A2, c2, A5, c5, rfl, i2, i5, hb⟩
theorem hasW_cz (n : Nat) (s : Bool) (x : Int) : hasW n s x = (decide (0 ≤ cz x (loW n s)) && decide (cz x (hiW n s) ≤ 0)) := by
  unfold hasW
  have h1 : (0 ≤ cz x (loW n s)) ↔ loW n s ≤ x := by rw [cz_def]; split <;> (try split) <;> omega
  have h2 : (cz x (hiW n s) ≤ 0) ↔ x ≤ hiW n s := by rw [cz_def]; split <;> (try split) <;> omega
  rw [Bool.eq_iff_iff]
  simp [h1, h2]
set_option maxHeartbeats 2000000 in
set_option maxRecDepth 100000 in
theorem withinI_any (x n : Int) (s : Bool) (A : Option Addr) (c : Nat) (h1 : 1 ≤ n) (h2 : n ≤ 64) (w : World) (hI : IvAt w x A c) (nz : nl x.natAbs ≤ 400) (R : Bool) (HR : Hid (hasW n.toNat s x = R)) :
    Calls Try.prog 66 #[.agg (iv x A c), .int .i64 n, .bool s] w fun e w' => e = .returned (.bool R) ∧ Below w.heap.size w w' := by
  have HX := Lib.hid hI
  have hr := HR.out
  rw [hasW_cz] at hr
  obtain ⟨C1, hC1⟩ : ∃ C1, cz x (loW n.toNat s) = C1 := ⟨_, rfl⟩
  obtain ⟨C2, hC2⟩ : ∃ C2, cz x (hiW n.toNat s) = C2 := ⟨_, rfl⟩
  rw [hC1, hC2] at hr
  have HC1 := Lib.hid hC1
  have HC2 := Lib.hid hC2
  have HRR := Lib.hid hr
  clear hI hr hC1 hC2
  by_cases g1 : 0 ≤ C1
  · have G1 := Lib.hid g1
    clear g1
    go_enter Try.func66, Try.ntmps66
    go_upto_region 1 with (fail)
    refine wp_world (fun W => W.heap[w.heap.size]? = some (.cells (iv x A c) 84 (0, 0)) ∧ Below w.heap.size w W) ⟨ha_new rfl, (Below.refl _ _).alloc (Nat.le_refl _) _⟩ ?_
    rintro W ⟨h0, hb⟩
    have ix := HX.out.below hb
    apply wp_region_lit
    refine wl_k rfl (fun K hK => ?_); go_simp; refine hK _ ?_; clear hK K
    refine wl_k rfl (fun K hK => ?_); go_simp; refine hK _ ?_; clear hK K
    refine wl_ck rfl (fun K hK => ?_); go_simp; refine ⟨_, _, ⟨rfl, rfl⟩, hK _ _ ⟨_, endsI_any n s h1 h2 _, ?_⟩⟩; clear hK K; rintro e w1 ⟨A1, c1, A2, c2, rfl, i1, i2, hb1⟩; refine ⟨_, rfl, ?_⟩; simp only [put_lit, List.set_cons_zero, List.set_cons_succ]; replace h0 := below_look hb1 h0; replace ix := ix.below hb1; replace hb := hb.trans (hb1.mono hb.size); clear hb1
    refine wl_k rfl (fun K hK => ?_); go_simp; refine hK _ ?_; clear hK K
    refine wl_k rfl (fun K hK => ?_); go_simp; refine hK _ ?_; clear hK K
    refine wl_k rfl (fun K hK => ?_); go_simp; refine hK _ ?_; clear hK K
    (have lth0p7 := heap_lt h0; have lsp7 := hb.size; (with_reducible apply wl_new84); intro w2 p7 hbn hlp7 hp7; replace h0 := below_look hbn h0; replace ix := ix.below hbn; replace i1 := i1.below hbn; replace i2 := i2.below hbn; replace hb := hb.trans (hbn.mono hb.size); clear hbn)
    (have lth0p8 := heap_lt h0; have lthp7p8 := heap_lt hp7; have lsp8 := hb.size; (with_reducible apply wl_new84); intro w3 p8 hbn hlp8 hp8; replace h0 := below_look hbn h0; replace hp7 := below_look hbn hp7; replace ix := ix.below hbn; replace i1 := i1.below hbn; replace i2 := i2.below hbn; replace hb := hb.trans (hbn.mono hb.size); clear hbn)
    ((with_reducible apply wl_putI); exact rfl; exact rfl; exact hp7; intro w4 hbx hk hq hi; replace h0 := hk _ _ (by omega) h0; replace hp8 := hk _ _ (by omega) hp8; replace ix := hi _ _ _ ix; replace i1 := hi _ _ _ i1; replace i2 := hi _ _ _ i2; replace hb := hbx _ _ (by omega) hb; clear hp7; have hp7 := hq; clear hbx hk hq hi)
    ((with_reducible apply wl_putI); exact rfl; exact rfl; exact hp8; intro w5 hbx hk hq hi; replace h0 := hk _ _ (by omega) h0; replace hp7 := hk _ _ (by omega) hp7; replace ix := hi _ _ _ ix; replace i1 := hi _ _ _ i1; replace i2 := hi _ _ _ i2; replace hb := hbx _ _ (by omega) hb; clear hp8; have hp8 := hq; clear hbx hk hq hi)
    go_upto_region 2 with (fail)
    apply wp_region_lit
    ((with_reducible apply wl_rowG); exact rfl; exact rfl; exact rowIv (by with_reducible assumption))
    ((with_reducible apply wl_rowG); exact rfl; exact rfl; exact rowIv hp7)
    refine wl_ck rfl (fun K hK => ?_); go_simp; refine ⟨_, _, ⟨rfl, rfl⟩, hK _ _ ⟨_, CmpI_any _ _ _ _ _ _ _ ix i1 (by omega), ?_⟩⟩; clear hK K; rintro e w6 ⟨rfl, hb1⟩; refine ⟨_, rfl, ?_⟩; simp only [put_lit, List.set_cons_zero, List.set_cons_succ]; replace h0 := below_look hb1 h0; replace hp7 := below_look hb1 hp7; replace hp8 := below_look hb1 hp8; replace ix := ix.below hb1; replace i2 := i2.below hb1; replace hb := hb.trans (hb1.mono hb.size); clear hb1
    rw [HC1.out]
    have g1 := G1.out
    refine wl_k rfl (fun K hK => ?_); go_simp; refine hK _ ?_; clear hK K
    refine wl_k rfl (fun K hK => ?_); go_simp; refine hK _ ?_; clear hK K
    ((with_reducible apply wl_rowG); exact rfl; exact rfl; exact rowIv (by with_reducible assumption))
    ((with_reducible apply wl_rowG); exact rfl; exact rfl; exact rowIv hp8)
    refine wl_ck rfl (fun K hK => ?_); go_simp; refine ⟨_, _, ⟨rfl, rfl⟩, hK _ _ ⟨_, CmpI_any _ _ _ _ _ _ _ ix i2 (by omega), ?_⟩⟩; clear hK K; rintro e w7 ⟨rfl, hb1⟩; refine ⟨_, rfl, ?_⟩; simp only [put_lit, List.set_cons_zero, List.set_cons_succ]; replace h0 := below_look hb1 h0; replace hb := hb.trans (hb1.mono hb.size); clear hb1
    rw [HC2.out]
    have e : decide (C2 ≤ 0) = R := by rw [← HRR.out]; simp [g1]
    have HE := Lib.hid e
    clear e
    go_wp2_with fail
    go_ret
    rw [← HE.out]
    exact ⟨rfl, hb⟩
  · have e : false = R := by rw [← HRR.out]; simp [g1]
    have HE := Lib.hid e
    have G1 := Lib.hid g1
    clear e g1
    go_enter Try.func66, Try.ntmps66
    go_upto_region 1 with (fail)
    refine wp_world (fun W => W.heap[w.heap.size]? = some (.cells (iv x A c) 84 (0, 0)) ∧ Below w.heap.size w W) ⟨ha_new rfl, (Below.refl _ _).alloc (Nat.le_refl _) _⟩ ?_
    rintro W ⟨h0, hb⟩
    have ix := HX.out.below hb
    apply wp_region_lit
    refine wl_k rfl (fun K hK => ?_); go_simp; refine hK _ ?_; clear hK K
    refine wl_k rfl (fun K hK => ?_); go_simp; refine hK _ ?_; clear hK K
    refine wl_ck rfl (fun K hK => ?_); go_simp; refine ⟨_, _, ⟨rfl, rfl⟩, hK _ _ ⟨_, endsI_any n s h1 h2 _, ?_⟩⟩; clear hK K; rintro e w1 ⟨A1, c1, A2, c2, rfl, i1, i2, hb1⟩; refine ⟨_, rfl, ?_⟩; simp only [put_lit, List.set_cons_zero, List.set_cons_succ]; replace h0 := below_look hb1 h0; replace ix := ix.below hb1; replace hb := hb.trans (hb1.mono hb.size); clear hb1
    refine wl_k rfl (fun K hK => ?_); go_simp; refine hK _ ?_; clear hK K
    refine wl_k rfl (fun K hK => ?_); go_simp; refine hK _ ?_; clear hK K
    refine wl_k rfl (fun K hK => ?_); go_simp; refine hK _ ?_; clear hK K
    (have lth0p7 := heap_lt h0; have lsp7 := hb.size; (with_reducible apply wl_new84); intro w2 p7 hbn hlp7 hp7; replace h0 := below_look hbn h0; replace ix := ix.below hbn; replace i1 := i1.below hbn; replace i2 := i2.below hbn; replace hb := hb.trans (hbn.mono hb.size); clear hbn)
    (have lth0p8 := heap_lt h0; have lthp7p8 := heap_lt hp7; have lsp8 := hb.size; (with_reducible apply wl_new84); intro w3 p8 hbn hlp8 hp8; replace h0 := below_look hbn h0; replace hp7 := below_look hbn hp7; replace ix := ix.below hbn; replace i1 := i1.below hbn; replace i2 := i2.below hbn; replace hb := hb.trans (hbn.mono hb.size); clear hbn)
    ((with_reducible apply wl_putI); exact rfl; exact rfl; exact hp7; intro w4 hbx hk hq hi; replace h0 := hk _ _ (by omega) h0; replace hp8 := hk _ _ (by omega) hp8; replace ix := hi _ _ _ ix; replace i1 := hi _ _ _ i1; replace i2 := hi _ _ _ i2; replace hb := hbx _ _ (by omega) hb; clear hp7; have hp7 := hq; clear hbx hk hq hi)
    ((with_reducible apply wl_putI); exact rfl; exact rfl; exact hp8; intro w5 hbx hk hq hi; replace h0 := hk _ _ (by omega) h0; replace hp7 := hk _ _ (by omega) hp7; replace ix := hi _ _ _ ix; replace i1 := hi _ _ _ i1; replace i2 := hi _ _ _ i2; replace hb := hbx _ _ (by omega) hb; clear hp8; have hp8 := hq; clear hbx hk hq hi)
    go_upto_region 2 with (fail)
    apply wp_region_lit
    ((with_reducible apply wl_rowG); exact rfl; exact rfl; exact rowIv (by with_reducible assumption))
    ((with_reducible apply wl_rowG); exact rfl; exact rfl; exact rowIv hp7)
    refine wl_ck rfl (fun K hK => ?_); go_simp; refine ⟨_, _, ⟨rfl, rfl⟩, hK _ _ ⟨_, CmpI_any _ _ _ _ _ _ _ ix i1 (by omega), ?_⟩⟩; clear hK K; rintro e w6 ⟨rfl, hb1⟩; refine ⟨_, rfl, ?_⟩; simp only [put_lit, List.set_cons_zero, List.set_cons_succ]; replace h0 := below_look hb1 h0; replace hp7 := below_look hb1 hp7; replace hp8 := below_look hb1 hp8; replace ix := ix.below hb1; replace i2 := i2.below hb1; replace hb := hb.trans (hb1.mono hb.size); clear hb1
    rw [HC1.out]
    have g1 := G1.out
    go_wp2_with fail
    go_ret
    rw [← HE.out]
    exact ⟨rfl, hb⟩
set_option maxHeartbeats 400000 in
theorem isWidth_any (n : Int) (R : Bool) (HR : Hid (R = isRight n)) (w : World) :
    Calls Try.prog 63 #[.int .i64 n] w fun e w' => e = .returned (.bool R) ∧ Below w.heap.size w w' := by
  go_enter Try.func63, Try.ntmps63
  go_wp2_with fail
  all_goals
    go_ret
    refine ⟨congrArg (fun b => Ending.returned (.bool b)) (?_ : _ = R), Below.refl _ _⟩
    rw [HR.out]
    unfold isRight
    first
    | rfl
    | (simp [*]; done)
end Go.Proofs.Ytclainfdeghgnaa

namespace Go.Proofs.Ytclainfdeghgnaa
open Go.RowKit Go.Proofs.Ytclainfdeghgnaa.Nm Go.Proofs.Ytclainfdeghgnaa.Lm
theorem rdm_nl {m : ByteArray} : nl ((rdm m).getD 0).natAbs ≤ 5 := by
  refine nl_le _ _ ?_
  have h := rd_bd0 m.data.toList
  have h2 : 10 ^ 40 < B ^ 5 := by decide
  have h3 : rdm m = rd m.data.toList := rfl
  rw [h3]
  omega
theorem longs (m : ByteArray) (w : World) (R : Bool) (HR : Hid (decide (200 < m.size) = R)) : Calls Try.prog 20 #[.string m] w fun e w' => e = .returned (.bool R) ∧ Below w.heap.size w w' := longB_lit m R HR w
end Go.Proofs.Ytclainfdeghgnaa

namespace Go.Proofs.Ytclainfdeghgnaa
open Go.RowKit Go.Proofs.Ytclainfdeghgnaa.Nm Go.Proofs.Ytclainfdeghgnaa.Lm
theorem kv0 {w : World} {b : Nat} {n : Int} {s : Bool} {m : ByteArray} {t : TypeId} {fr : Nat × Nat} (hb : w.heap[b]? = some (.cells (kvB n s m) t fr)) : w.cell? ⟨b, 0, none⟩ = some (.int .i64 n) := by rw [cell_of_row _ _ _ _ _ _ hb]; rfl
theorem kv1 {w : World} {b : Nat} {n : Int} {s : Bool} {m : ByteArray} {t : TypeId} {fr : Nat × Nat} (hb : w.heap[b]? = some (.cells (kvB n s m) t fr)) : w.cell? ⟨b, 1, none⟩ = some (.bool s) := by rw [cell_of_row _ _ _ _ _ _ hb]; rfl
theorem kv2 {w : World} {b : Nat} {n : Int} {s : Bool} {m : ByteArray} {t : TypeId} {fr : Nat × Nat} (hb : w.heap[b]? = some (.cells (kvB n s m) t fr)) : w.cell? ⟨b, 2, none⟩ = some (.string m) := by rw [cell_of_row _ _ _ _ _ _ hb]; rfl
end Go.Proofs.Ytclainfdeghgnaa

namespace Go.Proofs.Ytclainfdeghgnaa.Nm
open Go.RowKit
theorem Kept.setNew {D : List Nat} {p : Nat} {W w : World} (h : Kept D W w) (hm : W.heap.size ≤ p) (cs : Array Value) : Kept D W (w.setRow p cs) :=
  ⟨by simpa using h.1, fun k hk hp => by rw [setRow_other w p k cs (fun e => by omega)]; exact h.2 k hk hp⟩
section
variable {P : Program} {ops : Array Oper} {Q : Exit → Act → World → Prop} {md : Region.Mode} {D : List Nat} {W : World} {i : Nat} {oi : Oper} {fuel : Nat} {listed : Array Bool} {a : Act} {w : World} {z : Array Value} {ty : TypeId}
theorem ha_mk (hr : Region.ready md ops listed = [i]) (ho : ops[i]? = some oi) (hg : Region.wanted oi (yielded ops a.tmps) = true)
    (hal : ∀ ev w, (execOp ev oi).run P w = .ok (.value (.pointer (some ⟨w.heap.size, 0, none⟩))) (w.alloc (.cells z ty))) (hS : Kept D W w)
    (h : ∀ w' p, Below w.heap.size w w' → W.heap.size ≤ p → w.heap.size ≤ p → w'.heap[p]? = some (.cells z ty) → Kept D W w' → wpAnyH P md ops Q (Kept D W) fuel (listed.setIfInBounds i true) (a.put oi.dst (.pointer (some ⟨p, 0, none⟩))) w') :
    wpAnyH P md ops Q (Kept D W) (fuel + 1) listed a w := by
  have hb : Below w.heap.size w (w.alloc (.cells z ty)) := (Below.refl _ _).alloc (Nat.le_refl _) _
  refine ha_do hr ho hg (hal a.eval w) (hS.below hb) ?_
  exact h _ _ hb hS.1 (Nat.le_refl _) (ha_new rfl) (hS.below hb)
theorem sh_mk (ho : ops[i]? = some oi) (hg : Region.wanted oi (yielded ops a.tmps) = true)
    (hal : ∀ ev w, (execOp ev oi).run P w = .ok (.value (.pointer (some ⟨w.heap.size, 0, none⟩))) (w.alloc (.cells z ty))) (hS : Kept D W w)
    (h : ∀ w' p, Below w.heap.size w w' → W.heap.size ≤ p → w.heap.size ≤ p → w'.heap[p]? = some (.cells z ty) → Kept D W w' → wpAnyH P md ops Q (Kept D W) fuel (listed.setIfInBounds i true) (a.put oi.dst (.pointer (some ⟨p, 0, none⟩))) w') :
    StepH P md ops Q (Kept D W) fuel listed a w i := by
  have hb : Below w.heap.size w (w.alloc (.cells z ty)) := (Below.refl _ _).alloc (Nat.le_refl _) _
  unfold StepH wpOp
  simp only [ho]
  rw [if_pos hg]
  refine .inl ?_
  unfold Oper.wp
  rw [hal]
  exact ⟨hS.below hb, h _ _ hb hS.1 (Nat.le_refl _) (ha_new rfl) (hS.below hb)⟩
end
end Go.Proofs.Ytclainfdeghgnaa.Nm

namespace Go.Proofs.Ytclainfdeghgnaa.Nm
open Go.RowKit
section
variable {P : Program} {ops : Array Oper} {Q : Exit → Act → World → Prop} {md : Region.Mode} {S : World → Prop} {i : Nat} {fuel : Nat} {listed : Array Bool} {a : Act} {w : World}
theorem ha_three {j k : Nat} (hr : Region.ready md ops listed = [i, j, k]) (hi : StepH P md ops Q S fuel listed a w i) (hj : StepH P md ops Q S fuel listed a w j) (hk : StepH P md ops Q S fuel listed a w k) : wpAnyH P md ops Q S (fuel + 1) listed a w :=
  wpAnyH_all hr (by simp) fun l hl => by
    rcases List.mem_cons.1 hl with rfl | hl
    · exact hi
    · rcases List.mem_cons.1 hl with rfl | hl
      · exact hj
      · rcases List.mem_cons.1 hl with rfl | hl
        · exact hk
        · cases hl
end
end Go.Proofs.Ytclainfdeghgnaa.Nm

namespace Go.Proofs.Ytclainfdeghgnaa
open Go.RowKit Go.Proofs.Ytclainfdeghgnaa.Nm Go.Proofs.Ytclainfdeghgnaa.Lm
set_option maxHeartbeats 1000000 in
set_option maxRecDepth 100000 in
theorem broughtI_has (x n : Int) (s : Bool) (m : ByteArray) (A : Option Addr) (c : Nat) (h1 : 1 ≤ n) (h2 : n ≤ 64) (w : World) (hI : IvAt w x A c) (nz : nl x.natAbs ≤ 390) (HH : Hid (hasW n.toNat s x = true)) :
    Calls Try.prog 69 #[.agg (iv x A c), .int .i64 n, .bool s, .string m] w fun e w' => ∃ A2 c2, e = .returned (.tuple #[.agg (iv x A2 c2), .int .i64 0]) ∧ IvAt w' x A2 c2 ∧ Below w.heap.size w w' := by
  have HX := Lib.hid hI
  clear hI
  go_enter Try.func69, Try.ntmps69
  go_upto_region 1 with (fail)
  refine wp_world (fun W => W.heap[w.heap.size]? = some (.cells (iv x A c) 84 (0, 0)) ∧ W.heap[w.heap.size + 1]? = some (.cells (iv 0 none 0) 84 (0, 0)) ∧ Below w.heap.size w W) ⟨ha_old (ha_new rfl), by rw [iv_zero]; exact ha_new (by simp), ((Below.refl _ _).alloc (Nat.le_refl _) _).alloc (by simp) _⟩ ?_
  rintro W ⟨h0, h8, hb⟩
  have ix := HX.out.below hb
  apply wp_region_lit
  ((with_reducible apply wl_rowG); exact rfl; exact rfl; exact rowIv (by with_reducible assumption))
  refine wl_k rfl (fun K hK => ?_); go_simp; refine hK _ ?_; clear hK K
  refine wl_k rfl (fun K hK => ?_); go_simp; refine hK _ ?_; clear hK K
  refine wl_ck rfl (fun K hK => ?_); go_simp; refine ⟨_, _, ⟨rfl, rfl⟩, hK _ _ ⟨_, withinI_any x n s A c h1 h2 _ ix (by omega) true HH, ?_⟩⟩; clear hK K; rintro e w1 ⟨rfl, hb1⟩; refine ⟨_, rfl, ?_⟩; simp only [put_lit, List.set_cons_zero, List.set_cons_succ]
  replace h0 := below_look hb1 h0; replace h8 := below_look hb1 h8; replace ix := ix.below hb1; replace hb := hb.trans (hb1.mono hb.size); clear hb1
  go_upto_region 2 with (fail)
  apply wp_region_lit
  ((with_reducible apply wl_rowG); exact rfl; exact rfl; exact rowIv (by with_reducible assumption))
  ((with_reducible apply wl_putI); exact rfl; exact rfl; exact h8; intro w2 hbx hk hq hi; replace h0 := hk _ _ (by omega) h0; replace ix := hi _ _ _ ix; replace hb := hbx _ _ (by omega) hb; clear h8; have h8 := hq; clear hbx hk hq hi)
  go_wp2_with fail
  exact bodyPost_ret (res_ivT rfl _ _ (w.heap.size + 1) rfl h8) rfl ⟨A, c, rfl, ix, hb⟩
set_option maxHeartbeats 1000000 in
set_option maxRecDepth 100000 in
theorem broughtI_trap (x n : Int) (s : Bool) (m : ByteArray) (A : Option Addr) (c : Nat) (h1 : 1 ≤ n) (h2 : n ≤ 64) (w : World) (hI : IvAt w x A c) (nz : nl x.natAbs ≤ 390) (HH : Hid (hasW n.toNat s x = false)) (hm : m.data.toList = [116, 114, 97, 112]) :
    Calls Try.prog 69 #[.agg (iv x A c), .int .i64 n, .bool s, .string m] w fun e w' => ∃ A2 c2, e = .returned (.tuple #[.agg (iv 0 A2 c2), .int .i64 1]) ∧ IvAt w' 0 A2 c2 ∧ Below w.heap.size w w' := by
  have HX := Lib.hid hI
  clear hI
  have l1 := lit_eq hm (l := [116, 114, 97, 112]) rfl
  have l2 := lit_eq hm (l := [99, 108, 97, 109, 112]) rfl
  clear hm
  go_enter Try.func69, Try.ntmps69
  go_upto_region 1 with (fail)
  refine wp_world (fun W => W.heap[w.heap.size]? = some (.cells (iv x A c) 84 (0, 0)) ∧ W.heap[w.heap.size + 1]? = some (.cells (iv 0 none 0) 84 (0, 0)) ∧ Below w.heap.size w W) ⟨ha_old (ha_new rfl), by rw [iv_zero]; exact ha_new (by simp), ((Below.refl _ _).alloc (Nat.le_refl _) _).alloc (by simp) _⟩ ?_
  rintro W ⟨h0, h8, hb⟩
  have ix := HX.out.below hb
  apply wp_region_lit
  ((with_reducible apply wl_rowG); exact rfl; exact rfl; exact rowIv (by with_reducible assumption))
  refine wl_k rfl (fun K hK => ?_); go_simp; refine hK _ ?_; clear hK K
  refine wl_k rfl (fun K hK => ?_); go_simp; refine hK _ ?_; clear hK K
  refine wl_ck rfl (fun K hK => ?_); go_simp; refine ⟨_, _, ⟨rfl, rfl⟩, hK _ _ ⟨_, withinI_any x n s A c h1 h2 _ ix (by omega) false HH, ?_⟩⟩; clear hK K; rintro e w1 ⟨rfl, hb1⟩; refine ⟨_, rfl, ?_⟩; simp only [put_lit, List.set_cons_zero, List.set_cons_succ]
  replace h0 := below_look hb1 h0; replace h8 := below_look hb1 h8; replace ix := ix.below hb1; replace hb := hb.trans (hb1.mono hb.size); clear hb1
  go_upto_region 3 with (fail)
  apply wp_region_lit
  refine wl_k rfl (fun K hK => ?_); go_simp; refine hK _ ?_; clear hK K
  refine wl_k rfl (fun K hK => ?_); go_simp; refine hK _ ?_; clear hK K
  refine wl_ck rfl (fun K hK => ?_); go_simp; refine ⟨_, _, ⟨rfl, rfl⟩, hK _ _ ⟨_, endsI_any n s h1 h2 _, ?_⟩⟩; clear hK K; rintro e w2 ⟨A1, c1, A2, c2, rfl, i1, i2, hb1⟩; refine ⟨_, rfl, ?_⟩; simp only [put_lit, List.set_cons_zero, List.set_cons_succ]
  replace h0 := below_look hb1 h0; replace h8 := below_look hb1 h8; replace ix := ix.below hb1; replace hb := hb.trans (hb1.mono hb.size); clear hb1
  refine wl_k rfl (fun K hK => ?_); go_simp; refine hK _ ?_; clear hK K
  refine wl_k rfl (fun K hK => ?_); go_simp; refine hK _ ?_; clear hK K
  refine wl_k rfl (fun K hK => ?_); go_simp; refine hK _ ?_; clear hK K
  (have lth0p10 := heap_lt h0; have lth8p10 := heap_lt h8; have lsp10 := hb.size; (with_reducible apply wl_new84); intro w3 p10 hbn hlp10 hp10; replace h0 := below_look hbn h0; replace h8 := below_look hbn h8; replace ix := ix.below hbn; replace i1 := i1.below hbn; replace i2 := i2.below hbn; replace hb := hb.trans (hbn.mono hb.size); clear hbn)
  (have lth0p11 := heap_lt h0; have lth8p11 := heap_lt h8; have lthp10p11 := heap_lt hp10; have lsp11 := hb.size; (with_reducible apply wl_new84); intro w4 p11 hbn hlp11 hp11; replace h0 := below_look hbn h0; replace h8 := below_look hbn h8; replace hp10 := below_look hbn hp10; replace ix := ix.below hbn; replace i1 := i1.below hbn; replace i2 := i2.below hbn; replace hb := hb.trans (hbn.mono hb.size); clear hbn)
  ((with_reducible apply wl_putI); exact rfl; exact rfl; exact hp10; intro w5 hbx hk hq hi; replace h0 := hk _ _ (by omega) h0; replace h8 := hk _ _ (by omega) h8; replace hp11 := hk _ _ (by omega) hp11; replace ix := hi _ _ _ ix; replace i1 := hi _ _ _ i1; replace i2 := hi _ _ _ i2; replace hb := hbx _ _ (by omega) hb; clear hp10; have hp10 := hq; clear hbx hk hq hi)
  ((with_reducible apply wl_putI); exact rfl; exact rfl; exact hp11; intro w6 hbx hk hq hi; replace h0 := hk _ _ (by omega) h0; replace h8 := hk _ _ (by omega) h8; replace hp10 := hk _ _ (by omega) hp10; replace ix := hi _ _ _ ix; replace i1 := hi _ _ _ i1; replace i2 := hi _ _ _ i2; replace hb := hbx _ _ (by omega) hb; clear hp11; have hp11 := hq; clear hbx hk hq hi)
  go_upto_region 5 with (fail)
  apply wp_region_lit
  refine wl_val rfl (ex_build 84 _ rfl (L := []) rfl built84y) ?_
  simp only [put_lit, List.set_cons_zero, List.set_cons_succ]
  have iz : IvAt w6 0 none 0 := IvAt.zero _
  ((with_reducible apply wl_putI); exact rfl; exact rfl; exact h8; intro w7 hbx hk hq hi; replace iz := hi _ _ _ iz; replace hb := hbx _ _ (by omega) hb; clear h8; have h8 := hq; clear hbx hk hq hi)
  go_wp2_with fail
  exact bodyPost_ret (res_ivT rfl _ _ (w.heap.size + 1) rfl h8) rfl ⟨none, 0, rfl, iz, hb⟩
set_option maxHeartbeats 1000000 in
set_option maxRecDepth 100000 in
theorem broughtI_low (x n : Int) (s : Bool) (m : ByteArray) (A : Option Addr) (c : Nat) (h1 : 1 ≤ n) (h2 : n ≤ 64) (w : World) (hI : IvAt w x A c) (nz : nl x.natAbs ≤ 390) (HH : Hid (hasW n.toNat s x = false)) (hm : m.data.toList = [99, 108, 97, 109, 112]) (HC : Hid (cz x (loW n.toNat s) = -1)) :
    Calls Try.prog 69 #[.agg (iv x A c), .int .i64 n, .bool s, .string m] w fun e w' => ∃ A2 c2, e = .returned (.tuple #[.agg (iv (loW n.toNat s) A2 c2), .int .i64 0]) ∧ IvAt w' (loW n.toNat s) A2 c2 ∧ Below w.heap.size w w' := by
  have HX := Lib.hid hI
  clear hI
  have l1 := lit_eq hm (l := [116, 114, 97, 112]) rfl
  have l2 := lit_eq hm (l := [99, 108, 97, 109, 112]) rfl
  clear hm
  go_enter Try.func69, Try.ntmps69
  go_upto_region 1 with (fail)
  refine wp_world (fun W => W.heap[w.heap.size]? = some (.cells (iv x A c) 84 (0, 0)) ∧ W.heap[w.heap.size + 1]? = some (.cells (iv 0 none 0) 84 (0, 0)) ∧ Below w.heap.size w W) ⟨ha_old (ha_new rfl), by rw [iv_zero]; exact ha_new (by simp), ((Below.refl _ _).alloc (Nat.le_refl _) _).alloc (by simp) _⟩ ?_
  rintro W ⟨h0, h8, hb⟩
  have ix := HX.out.below hb
  apply wp_region_lit
  ((with_reducible apply wl_rowG); exact rfl; exact rfl; exact rowIv (by with_reducible assumption))
  refine wl_k rfl (fun K hK => ?_); go_simp; refine hK _ ?_; clear hK K
  refine wl_k rfl (fun K hK => ?_); go_simp; refine hK _ ?_; clear hK K
  refine wl_ck rfl (fun K hK => ?_); go_simp; refine ⟨_, _, ⟨rfl, rfl⟩, hK _ _ ⟨_, withinI_any x n s A c h1 h2 _ ix (by omega) false HH, ?_⟩⟩; clear hK K; rintro e w1 ⟨rfl, hb1⟩; refine ⟨_, rfl, ?_⟩; simp only [put_lit, List.set_cons_zero, List.set_cons_succ]
  replace h0 := below_look hb1 h0; replace h8 := below_look hb1 h8; replace ix := ix.below hb1; replace hb := hb.trans (hb1.mono hb.size); clear hb1
  go_upto_region 3 with (fail)
  apply wp_region_lit
  refine wl_k rfl (fun K hK => ?_); go_simp; refine hK _ ?_; clear hK K
  refine wl_k rfl (fun K hK => ?_); go_simp; refine hK _ ?_; clear hK K
  refine wl_ck rfl (fun K hK => ?_); go_simp; refine ⟨_, _, ⟨rfl, rfl⟩, hK _ _ ⟨_, endsI_any n s h1 h2 _, ?_⟩⟩; clear hK K; rintro e w2 ⟨A1, c1, A2, c2, rfl, i1, i2, hb1⟩; refine ⟨_, rfl, ?_⟩; simp only [put_lit, List.set_cons_zero, List.set_cons_succ]
  replace h0 := below_look hb1 h0; replace h8 := below_look hb1 h8; replace ix := ix.below hb1; replace hb := hb.trans (hb1.mono hb.size); clear hb1
  refine wl_k rfl (fun K hK => ?_); go_simp; refine hK _ ?_; clear hK K
  refine wl_k rfl (fun K hK => ?_); go_simp; refine hK _ ?_; clear hK K
  refine wl_k rfl (fun K hK => ?_); go_simp; refine hK _ ?_; clear hK K
  (have lth0p10 := heap_lt h0; have lth8p10 := heap_lt h8; have lsp10 := hb.size; (with_reducible apply wl_new84); intro w3 p10 hbn hlp10 hp10; replace h0 := below_look hbn h0; replace h8 := below_look hbn h8; replace ix := ix.below hbn; replace i1 := i1.below hbn; replace i2 := i2.below hbn; replace hb := hb.trans (hbn.mono hb.size); clear hbn)
  (have lth0p11 := heap_lt h0; have lth8p11 := heap_lt h8; have lthp10p11 := heap_lt hp10; have lsp11 := hb.size; (with_reducible apply wl_new84); intro w4 p11 hbn hlp11 hp11; replace h0 := below_look hbn h0; replace h8 := below_look hbn h8; replace hp10 := below_look hbn hp10; replace ix := ix.below hbn; replace i1 := i1.below hbn; replace i2 := i2.below hbn; replace hb := hb.trans (hbn.mono hb.size); clear hbn)
  ((with_reducible apply wl_putI); exact rfl; exact rfl; exact hp10; intro w5 hbx hk hq hi; replace h0 := hk _ _ (by omega) h0; replace h8 := hk _ _ (by omega) h8; replace hp11 := hk _ _ (by omega) hp11; replace ix := hi _ _ _ ix; replace i1 := hi _ _ _ i1; replace i2 := hi _ _ _ i2; replace hb := hbx _ _ (by omega) hb; clear hp10; have hp10 := hq; clear hbx hk hq hi)
  ((with_reducible apply wl_putI); exact rfl; exact rfl; exact hp11; intro w6 hbx hk hq hi; replace h0 := hk _ _ (by omega) h0; replace h8 := hk _ _ (by omega) h8; replace hp10 := hk _ _ (by omega) hp10; replace ix := hi _ _ _ ix; replace i1 := hi _ _ _ i1; replace i2 := hi _ _ _ i2; replace hb := hbx _ _ (by omega) hb; clear hp11; have hp11 := hq; clear hbx hk hq hi)
  go_upto_region 6 with (fail)
  apply wp_region_lit
  refine wl_k rfl (fun K hK => ?_); go_simp; refine hK _ ?_; clear hK K
  refine wl_k rfl (fun K hK => ?_); go_simp; refine hK _ ?_; clear hK K
  refine wl_k rfl (fun K hK => ?_); go_simp; refine hK _ ?_; clear hK K
  ((with_reducible apply wl_rowG); exact rfl; exact rfl; exact rowIv (by with_reducible assumption))
  ((with_reducible apply wl_rowG); exact rfl; exact rfl; exact rowIv hp10)
  refine wl_ck rfl (fun K hK => ?_); go_simp; refine ⟨_, _, ⟨rfl, rfl⟩, hK _ _ ⟨_, CmpI_any _ _ _ _ _ _ _ ix i1 (by omega), ?_⟩⟩; clear hK K; rintro e w7 ⟨rfl, hb1⟩; refine ⟨_, rfl, ?_⟩; simp only [put_lit, List.set_cons_zero, List.set_cons_succ]
  replace h0 := below_look hb1 h0; replace h8 := below_look hb1 h8; replace hp10 := below_look hb1 hp10; replace hp11 := below_look hb1 hp11; replace ix := ix.below hb1; replace i1 := i1.below hb1; replace i2 := i2.below hb1; replace hb := hb.trans (hb1.mono hb.size); clear hb1
  rw [HC.out]
  go_upto_region 7 with (fail)
  apply wp_region_lit
  ((with_reducible apply wl_rowG); exact rfl; exact rfl; exact rowIv hp10)
  ((with_reducible apply wl_putI); exact rfl; exact rfl; exact h8; intro w8 hbx hk hq hi; replace h0 := hk _ _ (by omega) h0; replace i1 := hi _ _ _ i1; replace hb := hbx _ _ (by omega) hb; clear h8; have h8 := hq; clear hbx hk hq hi)
  go_wp2_with fail
  exact bodyPost_ret (res_ivT rfl _ _ (w.heap.size + 1) rfl h8) rfl ⟨A1, c1, rfl, i1, hb⟩
set_option maxHeartbeats 1000000 in
set_option maxRecDepth 100000 in
theorem broughtI_high (x n : Int) (s : Bool) (m : ByteArray) (A : Option Addr) (c : Nat) (h1 : 1 ≤ n) (h2 : n ≤ 64) (w : World) (hI : IvAt w x A c) (nz : nl x.natAbs ≤ 390) (HH : Hid (hasW n.toNat s x = false)) (hm : m.data.toList = [99, 108, 97, 109, 112]) (C : Int) (HC : Hid (cz x (loW n.toNat s) = C)) (hC : ¬ C < 0) :
    Calls Try.prog 69 #[.agg (iv x A c), .int .i64 n, .bool s, .string m] w fun e w' => ∃ A2 c2, e = .returned (.tuple #[.agg (iv (hiW n.toNat s) A2 c2), .int .i64 0]) ∧ IvAt w' (hiW n.toNat s) A2 c2 ∧ Below w.heap.size w w' := by
  have HX := Lib.hid hI
  clear hI
  have l1 := lit_eq hm (l := [116, 114, 97, 112]) rfl
  have l2 := lit_eq hm (l := [99, 108, 97, 109, 112]) rfl
  clear hm
  go_enter Try.func69, Try.ntmps69
  go_upto_region 1 with (fail)
  refine wp_world (fun W => W.heap[w.heap.size]? = some (.cells (iv x A c) 84 (0, 0)) ∧ W.heap[w.heap.size + 1]? = some (.cells (iv 0 none 0) 84 (0, 0)) ∧ Below w.heap.size w W) ⟨ha_old (ha_new rfl), by rw [iv_zero]; exact ha_new (by simp), ((Below.refl _ _).alloc (Nat.le_refl _) _).alloc (by simp) _⟩ ?_
  rintro W ⟨h0, h8, hb⟩
  have ix := HX.out.below hb
  apply wp_region_lit
  ((with_reducible apply wl_rowG); exact rfl; exact rfl; exact rowIv (by with_reducible assumption))
  refine wl_k rfl (fun K hK => ?_); go_simp; refine hK _ ?_; clear hK K
  refine wl_k rfl (fun K hK => ?_); go_simp; refine hK _ ?_; clear hK K
  refine wl_ck rfl (fun K hK => ?_); go_simp; refine ⟨_, _, ⟨rfl, rfl⟩, hK _ _ ⟨_, withinI_any x n s A c h1 h2 _ ix (by omega) false HH, ?_⟩⟩; clear hK K; rintro e w1 ⟨rfl, hb1⟩; refine ⟨_, rfl, ?_⟩; simp only [put_lit, List.set_cons_zero, List.set_cons_succ]
  replace h0 := below_look hb1 h0; replace h8 := below_look hb1 h8; replace ix := ix.below hb1; replace hb := hb.trans (hb1.mono hb.size); clear hb1
  go_upto_region 3 with (fail)
  apply wp_region_lit
  refine wl_k rfl (fun K hK => ?_); go_simp; refine hK _ ?_; clear hK K
  refine wl_k rfl (fun K hK => ?_); go_simp; refine hK _ ?_; clear hK K
  refine wl_ck rfl (fun K hK => ?_); go_simp; refine ⟨_, _, ⟨rfl, rfl⟩, hK _ _ ⟨_, endsI_any n s h1 h2 _, ?_⟩⟩; clear hK K; rintro e w2 ⟨A1, c1, A2, c2, rfl, i1, i2, hb1⟩; refine ⟨_, rfl, ?_⟩; simp only [put_lit, List.set_cons_zero, List.set_cons_succ]
  replace h0 := below_look hb1 h0; replace h8 := below_look hb1 h8; replace ix := ix.below hb1; replace hb := hb.trans (hb1.mono hb.size); clear hb1
  refine wl_k rfl (fun K hK => ?_); go_simp; refine hK _ ?_; clear hK K
  refine wl_k rfl (fun K hK => ?_); go_simp; refine hK _ ?_; clear hK K
  refine wl_k rfl (fun K hK => ?_); go_simp; refine hK _ ?_; clear hK K
  (have lth0p10 := heap_lt h0; have lth8p10 := heap_lt h8; have lsp10 := hb.size; (with_reducible apply wl_new84); intro w3 p10 hbn hlp10 hp10; replace h0 := below_look hbn h0; replace h8 := below_look hbn h8; replace ix := ix.below hbn; replace i1 := i1.below hbn; replace i2 := i2.below hbn; replace hb := hb.trans (hbn.mono hb.size); clear hbn)
  (have lth0p11 := heap_lt h0; have lth8p11 := heap_lt h8; have lthp10p11 := heap_lt hp10; have lsp11 := hb.size; (with_reducible apply wl_new84); intro w4 p11 hbn hlp11 hp11; replace h0 := below_look hbn h0; replace h8 := below_look hbn h8; replace hp10 := below_look hbn hp10; replace ix := ix.below hbn; replace i1 := i1.below hbn; replace i2 := i2.below hbn; replace hb := hb.trans (hbn.mono hb.size); clear hbn)
  ((with_reducible apply wl_putI); exact rfl; exact rfl; exact hp10; intro w5 hbx hk hq hi; replace h0 := hk _ _ (by omega) h0; replace h8 := hk _ _ (by omega) h8; replace hp11 := hk _ _ (by omega) hp11; replace ix := hi _ _ _ ix; replace i1 := hi _ _ _ i1; replace i2 := hi _ _ _ i2; replace hb := hbx _ _ (by omega) hb; clear hp10; have hp10 := hq; clear hbx hk hq hi)
  ((with_reducible apply wl_putI); exact rfl; exact rfl; exact hp11; intro w6 hbx hk hq hi; replace h0 := hk _ _ (by omega) h0; replace h8 := hk _ _ (by omega) h8; replace hp10 := hk _ _ (by omega) hp10; replace ix := hi _ _ _ ix; replace i1 := hi _ _ _ i1; replace i2 := hi _ _ _ i2; replace hb := hbx _ _ (by omega) hb; clear hp11; have hp11 := hq; clear hbx hk hq hi)
  go_upto_region 6 with (fail)
  apply wp_region_lit
  refine wl_k rfl (fun K hK => ?_); go_simp; refine hK _ ?_; clear hK K
  refine wl_k rfl (fun K hK => ?_); go_simp; refine hK _ ?_; clear hK K
  refine wl_k rfl (fun K hK => ?_); go_simp; refine hK _ ?_; clear hK K
  ((with_reducible apply wl_rowG); exact rfl; exact rfl; exact rowIv (by with_reducible assumption))
  ((with_reducible apply wl_rowG); exact rfl; exact rfl; exact rowIv hp10)
  refine wl_ck rfl (fun K hK => ?_); go_simp; refine ⟨_, _, ⟨rfl, rfl⟩, hK _ _ ⟨_, CmpI_any _ _ _ _ _ _ _ ix i1 (by omega), ?_⟩⟩; clear hK K; rintro e w7 ⟨rfl, hb1⟩; refine ⟨_, rfl, ?_⟩; simp only [put_lit, List.set_cons_zero, List.set_cons_succ]
  replace h0 := below_look hb1 h0; replace h8 := below_look hb1 h8; replace hp10 := below_look hb1 hp10; replace hp11 := below_look hb1 hp11; replace ix := ix.below hb1; replace i1 := i1.below hb1; replace i2 := i2.below hb1; replace hb := hb.trans (hb1.mono hb.size); clear hb1
  rw [HC.out]
  go_upto_region 9 with (fail)
  apply wp_region_lit
  ((with_reducible apply wl_rowG); exact rfl; exact rfl; exact rowIv hp11)
  ((with_reducible apply wl_putI); exact rfl; exact rfl; exact h8; intro w8 hbx hk hq hi; replace h0 := hk _ _ (by omega) h0; replace i2 := hi _ _ _ i2; replace hb := hbx _ _ (by omega) hb; clear h8; have h8 := hq; clear hbx hk hq hi)
  go_wp2_with fail
  exact bodyPost_ret (res_ivT rfl _ _ (w.heap.size + 1) rfl h8) rfl ⟨A2, c2, rfl, i2, hb⟩
end Go.Proofs.Ytclainfdeghgnaa

namespace Go.Proofs.Ytclainfdeghgnaa
open Go.RowKit Go.Proofs.Ytclainfdeghgnaa.Nm Go.Proofs.Ytclainfdeghgnaa.Lm
theorem ex_alloc84i {o : Oper} (ho : o.op = .alloc 84) (ev : Operand → Value) (w : World) : (execOp ev o).run Try.prog w = .ok (.value (.pointer (some ⟨w.heap.size, 0, none⟩))) (w.alloc (.cells (iv 0 none 0) 84)) := by
  rw [iv_zero]
  unfold execOp
  simp only [ho]
  kernel_rfl
theorem t2_pos (x : Int) : 0 < t2 x := by
  unfold t2
  have := Nat.pow_pos (n := x.toNat) (show 0 < 2 by decide)
  omega
set_option maxHeartbeats 40000000 in
set_option maxRecDepth 100000 in
theorem broughtI_wrap (x n : Int) (s : Bool) (m : ByteArray) (A : Option Addr) (c : Nat) (h1 : 1 ≤ n) (h2 : n ≤ 64) (w : World) (hI : IvAt w x A c) (nz : nl x.natAbs ≤ 390) (HH : Hid (hasW n.toNat s x = false)) (hm : m.data.toList = [119, 114, 97, 112]) (q r C f : Int) (HQ : Hid (q = x / t2 n)) (HR : Hid (r = x % t2 n)) (HC : Hid (cz r (hiW n.toNat s) = C)) (HF1 : Hid (0 < C → f = r - t2 n)) (HF0 : Hid (¬ 0 < C → f = r)) :
    Calls Try.prog 69 #[.agg (iv x A c), .int .i64 n, .bool s, .string m] w fun e w' => ∃ A2 c2, e = .returned (.tuple #[.agg (iv f A2 c2), .int .i64 0]) ∧ IvAt w' f A2 c2 ∧ Below w.heap.size w w' := by
  have HX := Lib.hid hI
  have NR : Hid (nl r.natAbs ≤ 3) := Lib.hid (by
    have e1 := Int.emod_nonneg x (b := t2 n) (by have := t2_pos n; omega)
    have e2 := Int.emod_lt_of_pos x (t2_pos n)
    rw [← HR.out] at e1 e2
    have e3 := nl_t2 (x := n) h2
    exact Nat.le_trans (nl_mono (by omega)) e3)
  clear hI
  have l1 := lit_eq hm (l := [116, 114, 97, 112]) rfl
  have l2 := lit_eq hm (l := [99, 108, 97, 109, 112]) rfl
  clear hm
  go_enter Try.func69, Try.ntmps69
  go_upto_region 1 with (fail)
  refine wp_world (fun W => W.heap[w.heap.size]? = some (.cells (iv x A c) 84 (0, 0)) ∧ W.heap[w.heap.size + 1]? = some (.cells (iv 0 none 0) 84 (0, 0)) ∧ Below w.heap.size w W) ⟨ha_old (ha_new rfl), by rw [iv_zero]; exact ha_new (by simp), ((Below.refl _ _).alloc (Nat.le_refl _) _).alloc (by simp) _⟩ ?_
  rintro W ⟨h0, h8, hb⟩
  have ix := HX.out.below hb
  apply wp_region_lit
  ((with_reducible apply wl_rowG); exact rfl; exact rfl; exact rowIv (by with_reducible assumption))
  refine wl_k rfl (fun K hK => ?_); go_simp; refine hK _ ?_; clear hK K
  refine wl_k rfl (fun K hK => ?_); go_simp; refine hK _ ?_; clear hK K
  refine wl_ck rfl (fun K hK => ?_); go_simp; refine ⟨_, _, ⟨rfl, rfl⟩, hK _ _ ⟨_, withinI_any x n s A c h1 h2 _ ix (by omega) false HH, ?_⟩⟩; clear hK K; rintro e w1 ⟨rfl, hb1⟩; refine ⟨_, rfl, ?_⟩; simp only [put_lit, List.set_cons_zero, List.set_cons_succ]
  replace h0 := below_look hb1 h0; replace h8 := below_look hb1 h8; replace ix := ix.below hb1; replace hb := hb.trans (hb1.mono hb.size); clear hb1
  go_upto_region 3 with (fail)
  apply wp_region_lit
  refine wl_k rfl (fun K hK => ?_); go_simp; refine hK _ ?_; clear hK K
  refine wl_k rfl (fun K hK => ?_); go_simp; refine hK _ ?_; clear hK K
  refine wl_ck rfl (fun K hK => ?_); go_simp; refine ⟨_, _, ⟨rfl, rfl⟩, hK _ _ ⟨_, endsI_any n s h1 h2 _, ?_⟩⟩; clear hK K; rintro e w2 ⟨A1, c1, A2, c2, rfl, i1, i2, hb1⟩; refine ⟨_, rfl, ?_⟩; simp only [put_lit, List.set_cons_zero, List.set_cons_succ]
  replace h0 := below_look hb1 h0; replace h8 := below_look hb1 h8; replace ix := ix.below hb1; replace hb := hb.trans (hb1.mono hb.size); clear hb1
  refine wl_k rfl (fun K hK => ?_); go_simp; refine hK _ ?_; clear hK K
  refine wl_k rfl (fun K hK => ?_); go_simp; refine hK _ ?_; clear hK K
  refine wl_k rfl (fun K hK => ?_); go_simp; refine hK _ ?_; clear hK K
  (have lth0p10 := heap_lt h0; have lth8p10 := heap_lt h8; have lsp10 := hb.size; (with_reducible apply wl_new84); intro w3 p10 hbn hlp10 hp10; replace h0 := below_look hbn h0; replace h8 := below_look hbn h8; replace ix := ix.below hbn; replace i1 := i1.below hbn; replace i2 := i2.below hbn; replace hb := hb.trans (hbn.mono hb.size); clear hbn)
  (have lth0p11 := heap_lt h0; have lth8p11 := heap_lt h8; have lthp10p11 := heap_lt hp10; have lsp11 := hb.size; (with_reducible apply wl_new84); intro w4 p11 hbn hlp11 hp11; replace h0 := below_look hbn h0; replace h8 := below_look hbn h8; replace hp10 := below_look hbn hp10; replace ix := ix.below hbn; replace i1 := i1.below hbn; replace i2 := i2.below hbn; replace hb := hb.trans (hbn.mono hb.size); clear hbn)
  ((with_reducible apply wl_putI); exact rfl; exact rfl; exact hp10; intro w5 hbx hk hq hi; replace h0 := hk _ _ (by omega) h0; replace h8 := hk _ _ (by omega) h8; replace hp11 := hk _ _ (by omega) hp11; replace ix := hi _ _ _ ix; replace i1 := hi _ _ _ i1; replace i2 := hi _ _ _ i2; replace hb := hbx _ _ (by omega) hb; clear hp10; have hp10 := hq; clear hbx hk hq hi)
  ((with_reducible apply wl_putI); exact rfl; exact rfl; exact hp11; intro w6 hbx hk hq hi; replace h0 := hk _ _ (by omega) h0; replace h8 := hk _ _ (by omega) h8; replace hp10 := hk _ _ (by omega) hp10; replace ix := hi _ _ _ ix; replace i1 := hi _ _ _ i1; replace i2 := hi _ _ _ i2; replace hb := hbx _ _ (by omega) hb; clear hp11; have hp11 := hq; clear hbx hk hq hi)
  go_upto_region 10 with (fail)
  have L0 := heap_lt h0
  have L1 := heap_lt h8
  have L2 := heap_lt hp10
  have L3 := heap_lt hp11
  have L4 := hb.size
  rename_i K hK
  have tail : ∀ (p12 p13 : Nat) (A12 : Option Addr) (c12 : Nat) (A13 : Option Addr) (c13 : Nat) (t5 t6 t7 t14 t15 t16 t17 t18 t19 t20 t21 t22 t23 t24 t25 t26 t27 t28 t29 t30 t31 t32 t33 t34 t35 t36 t37 t38 t39 t40 t41 t42 t43 t44 t45 t46 t47 t48 t49 t50 t51 t52 t53 t54 t55 t56 t57 t58 : Value) (wz : World), w.heap.size ≤ p12 → w.heap.size + 1 < p13 → p10 < p13 → p11 < p13 → p12 ≠ p13 → wz.heap[w.heap.size]? = some (.cells (iv x A c) 84 (0, 0)) → wz.heap[w.heap.size + 1]? = some (.cells (iv 0 none 0) 84 (0, 0)) → wz.heap[p10]? = some (.cells (iv (loW n.toNat s) A1 c1) 84 (0, 0)) → wz.heap[p11]? = some (.cells (iv (hiW n.toNat s) A2 c2) 84 (0, 0)) → wz.heap[p12]? = some (.cells (iv q A12 c12) 84 (0, 0)) → wz.heap[p13]? = some (.cells (iv r A13 c13) 84 (0, 0)) → IvAt wz x A c → IvAt wz (loW n.toNat s) A1 c1 → IvAt wz (hiW n.toNat s) A2 c2 → IvAt wz r A13 c13 → Below w.heap.size w wz →
      K ⟨#[.agg (iv x A c), .int .i64 n, .bool s, .string m, .pointer (some ⟨w.heap.size, 0, none⟩), t5, t6, t7, .pointer (some ⟨w.heap.size + 1, 0, none⟩), .int .i64 0, .pointer (some ⟨p10, 0, none⟩), .pointer (some ⟨p11, 0, none⟩), .pointer (some ⟨p12, 0, none⟩), .pointer (some ⟨p13, 0, none⟩), t14, t15, t16, t17, t18, t19, t20, t21, t22, t23, t24, t25, t26, t27, t28, t29, t30, t31, t32, t33, t34, t35, t36, t37, t38, t39, t40, t41, t42, t43, t44, t45, t46, t47, t48, t49, t50, t51, t52, t53, t54, t55, t56, t57, t58], []⟩ wz := by
    intro p12 p13 A12 c12 A13 c13 t5 t6 t7 t14 t15 t16 t17 t18 t19 t20 t21 t22 t23 t24 t25 t26 t27 t28 t29 t30 t31 t32 t33 t34 t35 t36 t37 t38 t39 t40 t41 t42 t43 t44 t45 t46 t47 t48 t49 t50 t51 t52 t53 t54 t55 t56 t57 t58 wz g1 g2 g3 g4 g5 k0 k8 kp10 kp11 hp12 hp13 kx k1 k2 j3 kb
    apply hK
    clear hK L0 L1 L2 L3 L4 h0 h8 hp10 hp11 ix i1 i2 hb
    have h0 := k0
    have h8 := k8
    have hp10 := kp10
    have hp11 := kp11
    have ix := kx
    have i1 := k1
    have i2 := k2
    have hb := kb
    clear k0 k8 kp10 kp11 kx k1 k2 kb
    go_upto_region 11 with (fail)
    apply wp_region_lit
    ((with_reducible apply wl_rowG); exact rfl; exact rfl; exact rowIv hp13)
    ((with_reducible apply wl_rowG); exact rfl; exact rfl; exact rowIv hp11)
    refine wl_ck rfl (fun K hK => ?_); go_simp; refine ⟨_, _, ⟨rfl, rfl⟩, hK _ _ ⟨_, CmpI_any _ _ _ _ _ _ _ j3 i2 (by have := NR.out; omega), ?_⟩⟩; clear hK K; rintro e v1 ⟨rfl, hb1⟩; refine ⟨_, rfl, ?_⟩; simp only [put_lit, List.set_cons_zero, List.set_cons_succ]
    replace h0 := below_look hb1 h0; replace h8 := below_look hb1 h8; replace hp10 := below_look hb1 hp10; replace hp11 := below_look hb1 hp11; replace hp12 := below_look hb1 hp12; replace hp13 := below_look hb1 hp13; replace ix := ix.below hb1; replace i1 := i1.below hb1; replace i2 := i2.below hb1; replace j3 := j3.below hb1; replace hb := hb.trans (hb1.mono hb.size); clear hb1
    rw [HC.out]
    by_cases hc : 0 < C
    · have HF := Lib.hid (HF1.out hc)
      go_upto_region 12 with (fail)
      replace j3 := j3.below (Below.refl _ _).drew
      replace hb := hb.drew
      refine wp_region_held_drew (S := Kept [p13] v1) mixed (Kept.drew [p13] v1) (fun hS => ?_)
      refine ha_k (i := 1) rfl (by kernel_rfl) (by kernel_rfl) (by kernel_rfl) (fun _ _ _ _ h => h) hS rfl (fun K hK => ?_); go_simp; refine hK _ ?_; clear hK K; try simp only [put_lit, List.set_cons_zero, List.set_cons_succ]
      refine ha_two (i := 0) (j := 2) (by kernel_rfl) ?_ ?_
      · refine sh_val (i := 0) rfl rfl (ex_row rfl (rowIv hp13)) hS ?_; try simp only [put_lit, List.set_cons_zero, List.set_cons_succ]
        refine ha_call (i := 2) (by kernel_rfl) rfl rfl (fun K hK => ?_); go_simp; refine ⟨_, _, ⟨rfl, rfl⟩, hK _ _ ⟨_, PowerT_any n (by omega) h2 _, ?_⟩⟩; clear hK K; rintro e v2 ⟨B4, d4, rfl, j4, hb1⟩; refine ⟨_, rfl, hS.below hb1, ?_⟩; replace hS := hS.below hb1; replace h0 := below_look hb1 h0; replace h8 := below_look hb1 h8; replace hp13 := below_look hb1 hp13; replace j3 := j3.below hb1; replace hb := hb.trans (hb1.mono hb.size); clear hb1; try simp only [put_lit, List.set_cons_zero, List.set_cons_succ]
        refine ha_call (i := 3) (by kernel_rfl) rfl rfl (fun K hK => ?_); go_simp; refine ⟨_, _, ⟨rfl, rfl⟩, hK _ _ ⟨_, MinusI_any r (t2 n) _ _ _ _ _ j3 j4 (by have := NR.out; omega) (by have := nl_t2 (x := n) h2; omega), ?_⟩⟩; clear hK K; rintro e v3 ⟨B5, d5, rfl, j5, hb1⟩; refine ⟨_, rfl, hS.below hb1, ?_⟩; replace hS := hS.below hb1; replace h0 := below_look hb1 h0; replace h8 := below_look hb1 h8; replace hp13 := below_look hb1 hp13; replace hb := hb.trans (hb1.mono hb.size); clear hb1; try simp only [put_lit, List.set_cons_zero, List.set_cons_succ]
        refine ha_store (i := 4) (by kernel_rfl) rfl rfl 84 _ _ rfl _ (iv (r - t2 n) B5 d5) rfl rfl 84 _ hp13 info84 rfl (iv_one _ _ _) (hS.setRow (by simp) _) (fun hS => ?_); try simp only [put_lit, List.set_cons_zero, List.set_cons_succ]
        refine wpAnyH_done (by kernel_rfl) ?_ _
        replace h8 := hr_old (g := p13) (cs := iv (r - t2 n) B5 d5) h8 (by omega)
        replace hb := below_setRow hb (g := p13) (by omega) (iv (r - t2 n) B5 d5)
        replace j5 := j5.put hp13 (iv (r - t2 n) B5 d5)
        replace hp13 := hr_new (cs := iv (r - t2 n) B5 d5) hp13
        go_upto_region 13 with (fail)
        apply wp_region_lit
        ((with_reducible apply wl_rowG); exact rfl; exact rfl; exact rowIv hp13)
        ((with_reducible apply wl_putI); exact rfl; exact rfl; exact h8; intro v4 hbx hk hq hi; replace j5 := hi _ _ _ j5; replace hb := hbx _ _ (by omega) hb; clear h8; have h8 := hq; clear hbx hk hq hi)
        go_wp2_with fail
        rw [HF.out]
        exact bodyPost_ret (res_ivT rfl _ _ (w.heap.size + 1) rfl h8) rfl ⟨_, _, rfl, j5, hb⟩
      · refine sh_call (i := 2) rfl rfl (fun K hK => ?_); go_simp; refine ⟨_, _, ⟨rfl, rfl⟩, hK _ _ ⟨_, PowerT_any n (by omega) h2 _, ?_⟩⟩; clear hK K; rintro e v2 ⟨B4, d4, rfl, j4, hb1⟩; refine ⟨_, rfl, hS.below hb1, ?_⟩; replace hS := hS.below hb1; replace h0 := below_look hb1 h0; replace h8 := below_look hb1 h8; replace hp13 := below_look hb1 hp13; replace j3 := j3.below hb1; replace hb := hb.trans (hb1.mono hb.size); clear hb1; try simp only [put_lit, List.set_cons_zero, List.set_cons_succ]
        refine ha_do (i := 0) (by kernel_rfl) rfl rfl (ex_row rfl (rowIv hp13)) hS ?_; try simp only [put_lit, List.set_cons_zero, List.set_cons_succ]
        refine ha_call (i := 3) (by kernel_rfl) rfl rfl (fun K hK => ?_); go_simp; refine ⟨_, _, ⟨rfl, rfl⟩, hK _ _ ⟨_, MinusI_any r (t2 n) _ _ _ _ _ j3 j4 (by have := NR.out; omega) (by have := nl_t2 (x := n) h2; omega), ?_⟩⟩; clear hK K; rintro e v3 ⟨B5, d5, rfl, j5, hb1⟩; refine ⟨_, rfl, hS.below hb1, ?_⟩; replace hS := hS.below hb1; replace h0 := below_look hb1 h0; replace h8 := below_look hb1 h8; replace hp13 := below_look hb1 hp13; replace hb := hb.trans (hb1.mono hb.size); clear hb1; try simp only [put_lit, List.set_cons_zero, List.set_cons_succ]
        refine ha_store (i := 4) (by kernel_rfl) rfl rfl 84 _ _ rfl _ (iv (r - t2 n) B5 d5) rfl rfl 84 _ hp13 info84 rfl (iv_one _ _ _) (hS.setRow (by simp) _) (fun hS => ?_); try simp only [put_lit, List.set_cons_zero, List.set_cons_succ]
        refine wpAnyH_done (by kernel_rfl) ?_ _
        replace h8 := hr_old (g := p13) (cs := iv (r - t2 n) B5 d5) h8 (by omega)
        replace hb := below_setRow hb (g := p13) (by omega) (iv (r - t2 n) B5 d5)
        replace j5 := j5.put hp13 (iv (r - t2 n) B5 d5)
        replace hp13 := hr_new (cs := iv (r - t2 n) B5 d5) hp13
        go_upto_region 13 with (fail)
        apply wp_region_lit
        ((with_reducible apply wl_rowG); exact rfl; exact rfl; exact rowIv hp13)
        ((with_reducible apply wl_putI); exact rfl; exact rfl; exact h8; intro v4 hbx hk hq hi; replace j5 := hi _ _ _ j5; replace hb := hbx _ _ (by omega) hb; clear h8; have h8 := hq; clear hbx hk hq hi)
        go_wp2_with fail
        rw [HF.out]
        exact bodyPost_ret (res_ivT rfl _ _ (w.heap.size + 1) rfl h8) rfl ⟨_, _, rfl, j5, hb⟩
    · have HF := Lib.hid (HF0.out hc)
      go_upto_region 13 with (fail)
      apply wp_region_lit
      ((with_reducible apply wl_rowG); exact rfl; exact rfl; exact rowIv hp13)
      ((with_reducible apply wl_putI); exact rfl; exact rfl; exact h8; intro v4 hbx hk hq hi; replace j3 := hi _ _ _ j3; replace hb := hbx _ _ (by omega) hb; clear h8; have h8 := hq; clear hbx hk hq hi)
      go_wp2_with fail
      rw [HF.out]
      exact bodyPost_ret (res_ivT rfl _ _ (w.heap.size + 1) rfl h8) rfl ⟨_, _, rfl, j3, hb⟩
  clear hK
  replace ix := ix.below (Below.refl _ _).drew
  replace i1 := i1.below (Below.refl _ _).drew
  replace i2 := i2.below (Below.refl _ _).drew
  replace hb := hb.drew
  refine wp_region_held_drew (S := Kept [] w6) mixed (Kept.drew [] w6) (fun hS => ?_)
  refine ha_val (i := 0) rfl (by kernel_rfl) (by kernel_rfl) (by kernel_rfl) (fun _ _ _ h => h) hS rfl (fun w' hw' => ex_row rfl (rowIv (hw'.look h0 (by simp <;> omega)))) ?_
  refine ha_k (i := 1) rfl (by kernel_rfl) (by kernel_rfl) (by kernel_rfl) (fun _ _ _ _ h => h) hS rfl (fun K hK => ?_); go_simp; refine hK _ ?_; clear hK K; try simp only [put_lit, List.set_cons_zero, List.set_cons_succ]
  refine ha_three (i := 2) (j := 7) (k := 8) (by kernel_rfl) ?_ ?_ ?_
  · refine sh_call (i := 2) rfl rfl (fun K hK => ?_); go_simp; refine ⟨_, _, ⟨rfl, rfl⟩, hK _ _ ⟨_, PowerT_any n (by omega) h2 _, ?_⟩⟩; clear hK K; rintro e w20 ⟨B1, d1, rfl, j1, hb1⟩; refine ⟨_, rfl, hS.below hb1, ?_⟩; replace hS := hS.below hb1; replace h0 := below_look hb1 h0; replace h8 := below_look hb1 h8; replace hp10 := below_look hb1 hp10; replace hp11 := below_look hb1 hp11; replace ix := ix.below hb1; replace i1 := i1.below hb1; replace i2 := i2.below hb1; replace hb := hb.trans (hb1.mono hb.size); clear hb1; try simp only [put_lit, List.set_cons_zero, List.set_cons_succ]
    refine ha_three (i := 3) (j := 7) (k := 8) (by kernel_rfl) ?_ ?_ ?_
    · refine sh_call (i := 3) rfl rfl (fun K hK => ?_); go_simp; refine ⟨_, _, ⟨rfl, rfl⟩, hK _ _ ⟨_, FloorI_any x (t2 n) _ _ _ _ _ ix j1 (by omega) (by have := nl_t2 (x := n) h2; omega) (t2_pos n), ?_⟩⟩; clear hK K; rintro e w21 ⟨B2, d2, B3, d3, rfl, j2, j3, hb1⟩; refine ⟨_, rfl, hS.below hb1, ?_⟩; replace hS := hS.below hb1; replace h0 := below_look hb1 h0; replace h8 := below_look hb1 h8; replace hp10 := below_look hb1 hp10; replace hp11 := below_look hb1 hp11; replace ix := ix.below hb1; replace i1 := i1.below hb1; replace i2 := i2.below hb1; replace hb := hb.trans (hb1.mono hb.size); clear hb1; rw [← HQ.out] at j2 ⊢; rw [← HR.out] at j3 ⊢; try simp only [put_lit, List.set_cons_zero, List.set_cons_succ]
      refine ha_k (i := 4) rfl (by kernel_rfl) (by kernel_rfl) (by kernel_rfl) (fun _ _ _ _ h => h) hS rfl (fun K hK => ?_); go_simp; refine hK _ ?_; clear hK K; try simp only [put_lit, List.set_cons_zero, List.set_cons_succ]
      refine ha_k (i := 5) rfl (by kernel_rfl) (by kernel_rfl) (by kernel_rfl) (fun _ _ _ _ h => h) hS rfl (fun K hK => ?_); go_simp; refine hK _ ?_; clear hK K; try simp only [put_lit, List.set_cons_zero, List.set_cons_succ]
      refine ha_k (i := 6) rfl (by kernel_rfl) (by kernel_rfl) (by kernel_rfl) (fun _ _ _ _ h => h) hS rfl (fun K hK => ?_); go_simp; refine hK _ ?_; clear hK K; try simp only [put_lit, List.set_cons_zero, List.set_cons_succ]
      refine ha_two (i := 7) (j := 8) (by kernel_rfl) ?_ ?_
      · refine sh_mk (i := 7) rfl rfl (fun ev w' => ex_alloc84i rfl ev w') hS (fun w22 p12 hb1 hLp12 hlp12 hp12 hS => ?_); replace h0 := below_look hb1 h0; replace h8 := below_look hb1 h8; replace hp10 := below_look hb1 hp10; replace hp11 := below_look hb1 hp11; replace ix := ix.below hb1; replace i1 := i1.below hb1; replace i2 := i2.below hb1; replace j2 := j2.below hb1; replace j3 := j3.below hb1; replace hb := hb.trans (hb1.mono hb.size); clear hb1; try simp only [put_lit, List.set_cons_zero, List.set_cons_succ]
        have ltp12p13 := heap_lt hp12
        refine ha_mk (i := 8) (by kernel_rfl) rfl rfl (fun ev w' => ex_alloc84i rfl ev w') hS (fun w23 p13 hb1 hLp13 hlp13 hp13 hS => ?_); replace h0 := below_look hb1 h0; replace h8 := below_look hb1 h8; replace hp10 := below_look hb1 hp10; replace hp11 := below_look hb1 hp11; replace hp12 := below_look hb1 hp12; replace ix := ix.below hb1; replace i1 := i1.below hb1; replace i2 := i2.below hb1; replace j2 := j2.below hb1; replace j3 := j3.below hb1; replace hb := hb.trans (hb1.mono hb.size); clear hb1; try simp only [put_lit, List.set_cons_zero, List.set_cons_succ]
        refine ha_store (i := 9) (by kernel_rfl) rfl rfl 84 _ _ rfl _ (iv q B2 d2) rfl rfl 84 _ hp12 info84 rfl (iv_one _ _ _) (hS.setNew (by omega) _) (fun hS => ?_); try simp only [put_lit, List.set_cons_zero, List.set_cons_succ]
        replace hb := below_setRow hb (g := p12) (by omega) (iv q B2 d2); replace h0 := hr_old (g := p12) (cs := iv q B2 d2) h0 (by omega); replace h8 := hr_old (g := p12) (cs := iv q B2 d2) h8 (by omega); replace hp10 := hr_old (g := p12) (cs := iv q B2 d2) hp10 (by omega); replace hp11 := hr_old (g := p12) (cs := iv q B2 d2) hp11 (by omega); replace hp13 := hr_old (g := p12) (cs := iv q B2 d2) hp13 (by omega); replace ix := ix.put hp12 (iv q B2 d2); replace i1 := i1.put hp12 (iv q B2 d2); replace i2 := i2.put hp12 (iv q B2 d2); replace j2 := j2.put hp12 (iv q B2 d2); replace j3 := j3.put hp12 (iv q B2 d2); replace hp12 := hr_new (cs := iv q B2 d2) hp12
        refine ha_store (i := 10) (by kernel_rfl) rfl rfl 84 _ _ rfl _ (iv r B3 d3) rfl rfl 84 _ hp13 info84 rfl (iv_one _ _ _) (hS.setNew (by omega) _) (fun hS => ?_); try simp only [put_lit, List.set_cons_zero, List.set_cons_succ]
        refine wpAnyH_done (by kernel_rfl) ?_ _
        replace hb := below_setRow hb (g := p13) (by omega) (iv r B3 d3); replace h0 := hr_old (g := p13) (cs := iv r B3 d3) h0 (by omega); replace h8 := hr_old (g := p13) (cs := iv r B3 d3) h8 (by omega); replace hp10 := hr_old (g := p13) (cs := iv r B3 d3) hp10 (by omega); replace hp11 := hr_old (g := p13) (cs := iv r B3 d3) hp11 (by omega); replace hp12 := hr_old (g := p13) (cs := iv r B3 d3) hp12 (by omega); replace ix := ix.put hp13 (iv r B3 d3); replace i1 := i1.put hp13 (iv r B3 d3); replace i2 := i2.put hp13 (iv r B3 d3); replace j2 := j2.put hp13 (iv r B3 d3); replace j3 := j3.put hp13 (iv r B3 d3); replace hp13 := hr_new (cs := iv r B3 d3) hp13
        exact tail p12 p13 _ _ _ _ _ _ _ _ _ _ _ _ _ _ _ _ _ _ _ _ _ _ _ _ _ _ _ _ _ _ _ _ _ _ _ _ _ _ _ _ _ _ _ _ _ _ _ _ _ _ _ _ _ (by omega) (by omega) (by omega) (by omega) (by omega) h0 h8 hp10 hp11 hp12 hp13 ix i1 i2 j3 hb
      · refine sh_mk (i := 8) rfl rfl (fun ev w' => ex_alloc84i rfl ev w') hS (fun w22 p13 hb1 hLp13 hlp13 hp13 hS => ?_); replace h0 := below_look hb1 h0; replace h8 := below_look hb1 h8; replace hp10 := below_look hb1 hp10; replace hp11 := below_look hb1 hp11; replace ix := ix.below hb1; replace i1 := i1.below hb1; replace i2 := i2.below hb1; replace j2 := j2.below hb1; replace j3 := j3.below hb1; replace hb := hb.trans (hb1.mono hb.size); clear hb1; try simp only [put_lit, List.set_cons_zero, List.set_cons_succ]
        have ltp13p12 := heap_lt hp13
        refine ha_mk (i := 7) (by kernel_rfl) rfl rfl (fun ev w' => ex_alloc84i rfl ev w') hS (fun w23 p12 hb1 hLp12 hlp12 hp12 hS => ?_); replace h0 := below_look hb1 h0; replace h8 := below_look hb1 h8; replace hp10 := below_look hb1 hp10; replace hp11 := below_look hb1 hp11; replace hp13 := below_look hb1 hp13; replace ix := ix.below hb1; replace i1 := i1.below hb1; replace i2 := i2.below hb1; replace j2 := j2.below hb1; replace j3 := j3.below hb1; replace hb := hb.trans (hb1.mono hb.size); clear hb1; try simp only [put_lit, List.set_cons_zero, List.set_cons_succ]
        refine ha_store (i := 9) (by kernel_rfl) rfl rfl 84 _ _ rfl _ (iv q B2 d2) rfl rfl 84 _ hp12 info84 rfl (iv_one _ _ _) (hS.setNew (by omega) _) (fun hS => ?_); try simp only [put_lit, List.set_cons_zero, List.set_cons_succ]
        replace hb := below_setRow hb (g := p12) (by omega) (iv q B2 d2); replace h0 := hr_old (g := p12) (cs := iv q B2 d2) h0 (by omega); replace h8 := hr_old (g := p12) (cs := iv q B2 d2) h8 (by omega); replace hp10 := hr_old (g := p12) (cs := iv q B2 d2) hp10 (by omega); replace hp11 := hr_old (g := p12) (cs := iv q B2 d2) hp11 (by omega); replace hp13 := hr_old (g := p12) (cs := iv q B2 d2) hp13 (by omega); replace ix := ix.put hp12 (iv q B2 d2); replace i1 := i1.put hp12 (iv q B2 d2); replace i2 := i2.put hp12 (iv q B2 d2); replace j2 := j2.put hp12 (iv q B2 d2); replace j3 := j3.put hp12 (iv q B2 d2); replace hp12 := hr_new (cs := iv q B2 d2) hp12
        refine ha_store (i := 10) (by kernel_rfl) rfl rfl 84 _ _ rfl _ (iv r B3 d3) rfl rfl 84 _ hp13 info84 rfl (iv_one _ _ _) (hS.setNew (by omega) _) (fun hS => ?_); try simp only [put_lit, List.set_cons_zero, List.set_cons_succ]
        refine wpAnyH_done (by kernel_rfl) ?_ _
        replace hb := below_setRow hb (g := p13) (by omega) (iv r B3 d3); replace h0 := hr_old (g := p13) (cs := iv r B3 d3) h0 (by omega); replace h8 := hr_old (g := p13) (cs := iv r B3 d3) h8 (by omega); replace hp10 := hr_old (g := p13) (cs := iv r B3 d3) hp10 (by omega); replace hp11 := hr_old (g := p13) (cs := iv r B3 d3) hp11 (by omega); replace hp12 := hr_old (g := p13) (cs := iv r B3 d3) hp12 (by omega); replace ix := ix.put hp13 (iv r B3 d3); replace i1 := i1.put hp13 (iv r B3 d3); replace i2 := i2.put hp13 (iv r B3 d3); replace j2 := j2.put hp13 (iv r B3 d3); replace j3 := j3.put hp13 (iv r B3 d3); replace hp13 := hr_new (cs := iv r B3 d3) hp13
        exact tail p12 p13 _ _ _ _ _ _ _ _ _ _ _ _ _ _ _ _ _ _ _ _ _ _ _ _ _ _ _ _ _ _ _ _ _ _ _ _ _ _ _ _ _ _ _ _ _ _ _ _ _ _ _ _ _ (by omega) (by omega) (by omega) (by omega) (by omega) h0 h8 hp10 hp11 hp12 hp13 ix i1 i2 j3 hb
    · refine sh_mk (i := 7) rfl rfl (fun ev w' => ex_alloc84i rfl ev w') hS (fun w21 p12 hb1 hLp12 hlp12 hp12 hS => ?_); replace h0 := below_look hb1 h0; replace h8 := below_look hb1 h8; replace hp10 := below_look hb1 hp10; replace hp11 := below_look hb1 hp11; replace ix := ix.below hb1; replace i1 := i1.below hb1; replace i2 := i2.below hb1; replace j1 := j1.below hb1; replace hb := hb.trans (hb1.mono hb.size); clear hb1; try simp only [put_lit, List.set_cons_zero, List.set_cons_succ]
      refine ha_two (i := 3) (j := 8) (by kernel_rfl) ?_ ?_
      · refine sh_call (i := 3) rfl rfl (fun K hK => ?_); go_simp; refine ⟨_, _, ⟨rfl, rfl⟩, hK _ _ ⟨_, FloorI_any x (t2 n) _ _ _ _ _ ix j1 (by omega) (by have := nl_t2 (x := n) h2; omega) (t2_pos n), ?_⟩⟩; clear hK K; rintro e w22 ⟨B2, d2, B3, d3, rfl, j2, j3, hb1⟩; refine ⟨_, rfl, hS.below hb1, ?_⟩; replace hS := hS.below hb1; replace h0 := below_look hb1 h0; replace h8 := below_look hb1 h8; replace hp10 := below_look hb1 hp10; replace hp11 := below_look hb1 hp11; replace hp12 := below_look hb1 hp12; replace ix := ix.below hb1; replace i1 := i1.below hb1; replace i2 := i2.below hb1; replace hb := hb.trans (hb1.mono hb.size); clear hb1; rw [← HQ.out] at j2 ⊢; rw [← HR.out] at j3 ⊢; try simp only [put_lit, List.set_cons_zero, List.set_cons_succ]
        refine ha_k (i := 4) rfl (by kernel_rfl) (by kernel_rfl) (by kernel_rfl) (fun _ _ _ _ h => h) hS rfl (fun K hK => ?_); go_simp; refine hK _ ?_; clear hK K; try simp only [put_lit, List.set_cons_zero, List.set_cons_succ]
        refine ha_k (i := 5) rfl (by kernel_rfl) (by kernel_rfl) (by kernel_rfl) (fun _ _ _ _ h => h) hS rfl (fun K hK => ?_); go_simp; refine hK _ ?_; clear hK K; try simp only [put_lit, List.set_cons_zero, List.set_cons_succ]
        refine ha_k (i := 6) rfl (by kernel_rfl) (by kernel_rfl) (by kernel_rfl) (fun _ _ _ _ h => h) hS rfl (fun K hK => ?_); go_simp; refine hK _ ?_; clear hK K; try simp only [put_lit, List.set_cons_zero, List.set_cons_succ]
        have ltp12p13 := heap_lt hp12
        refine ha_mk (i := 8) (by kernel_rfl) rfl rfl (fun ev w' => ex_alloc84i rfl ev w') hS (fun w23 p13 hb1 hLp13 hlp13 hp13 hS => ?_); replace h0 := below_look hb1 h0; replace h8 := below_look hb1 h8; replace hp10 := below_look hb1 hp10; replace hp11 := below_look hb1 hp11; replace hp12 := below_look hb1 hp12; replace ix := ix.below hb1; replace i1 := i1.below hb1; replace i2 := i2.below hb1; replace j2 := j2.below hb1; replace j3 := j3.below hb1; replace hb := hb.trans (hb1.mono hb.size); clear hb1; try simp only [put_lit, List.set_cons_zero, List.set_cons_succ]
        refine ha_store (i := 9) (by kernel_rfl) rfl rfl 84 _ _ rfl _ (iv q B2 d2) rfl rfl 84 _ hp12 info84 rfl (iv_one _ _ _) (hS.setNew (by omega) _) (fun hS => ?_); try simp only [put_lit, List.set_cons_zero, List.set_cons_succ]
        replace hb := below_setRow hb (g := p12) (by omega) (iv q B2 d2); replace h0 := hr_old (g := p12) (cs := iv q B2 d2) h0 (by omega); replace h8 := hr_old (g := p12) (cs := iv q B2 d2) h8 (by omega); replace hp10 := hr_old (g := p12) (cs := iv q B2 d2) hp10 (by omega); replace hp11 := hr_old (g := p12) (cs := iv q B2 d2) hp11 (by omega); replace hp13 := hr_old (g := p12) (cs := iv q B2 d2) hp13 (by omega); replace ix := ix.put hp12 (iv q B2 d2); replace i1 := i1.put hp12 (iv q B2 d2); replace i2 := i2.put hp12 (iv q B2 d2); replace j2 := j2.put hp12 (iv q B2 d2); replace j3 := j3.put hp12 (iv q B2 d2); replace hp12 := hr_new (cs := iv q B2 d2) hp12
        refine ha_store (i := 10) (by kernel_rfl) rfl rfl 84 _ _ rfl _ (iv r B3 d3) rfl rfl 84 _ hp13 info84 rfl (iv_one _ _ _) (hS.setNew (by omega) _) (fun hS => ?_); try simp only [put_lit, List.set_cons_zero, List.set_cons_succ]
        refine wpAnyH_done (by kernel_rfl) ?_ _
        replace hb := below_setRow hb (g := p13) (by omega) (iv r B3 d3); replace h0 := hr_old (g := p13) (cs := iv r B3 d3) h0 (by omega); replace h8 := hr_old (g := p13) (cs := iv r B3 d3) h8 (by omega); replace hp10 := hr_old (g := p13) (cs := iv r B3 d3) hp10 (by omega); replace hp11 := hr_old (g := p13) (cs := iv r B3 d3) hp11 (by omega); replace hp12 := hr_old (g := p13) (cs := iv r B3 d3) hp12 (by omega); replace ix := ix.put hp13 (iv r B3 d3); replace i1 := i1.put hp13 (iv r B3 d3); replace i2 := i2.put hp13 (iv r B3 d3); replace j2 := j2.put hp13 (iv r B3 d3); replace j3 := j3.put hp13 (iv r B3 d3); replace hp13 := hr_new (cs := iv r B3 d3) hp13
        exact tail p12 p13 _ _ _ _ _ _ _ _ _ _ _ _ _ _ _ _ _ _ _ _ _ _ _ _ _ _ _ _ _ _ _ _ _ _ _ _ _ _ _ _ _ _ _ _ _ _ _ _ _ _ _ _ _ (by omega) (by omega) (by omega) (by omega) (by omega) h0 h8 hp10 hp11 hp12 hp13 ix i1 i2 j3 hb
      · have ltp12p13 := heap_lt hp12
        refine sh_mk (i := 8) rfl rfl (fun ev w' => ex_alloc84i rfl ev w') hS (fun w22 p13 hb1 hLp13 hlp13 hp13 hS => ?_); replace h0 := below_look hb1 h0; replace h8 := below_look hb1 h8; replace hp10 := below_look hb1 hp10; replace hp11 := below_look hb1 hp11; replace hp12 := below_look hb1 hp12; replace ix := ix.below hb1; replace i1 := i1.below hb1; replace i2 := i2.below hb1; replace j1 := j1.below hb1; replace hb := hb.trans (hb1.mono hb.size); clear hb1; try simp only [put_lit, List.set_cons_zero, List.set_cons_succ]
        refine ha_call (i := 3) (by kernel_rfl) rfl rfl (fun K hK => ?_); go_simp; refine ⟨_, _, ⟨rfl, rfl⟩, hK _ _ ⟨_, FloorI_any x (t2 n) _ _ _ _ _ ix j1 (by omega) (by have := nl_t2 (x := n) h2; omega) (t2_pos n), ?_⟩⟩; clear hK K; rintro e w23 ⟨B2, d2, B3, d3, rfl, j2, j3, hb1⟩; refine ⟨_, rfl, hS.below hb1, ?_⟩; replace hS := hS.below hb1; replace h0 := below_look hb1 h0; replace h8 := below_look hb1 h8; replace hp10 := below_look hb1 hp10; replace hp11 := below_look hb1 hp11; replace hp12 := below_look hb1 hp12; replace hp13 := below_look hb1 hp13; replace ix := ix.below hb1; replace i1 := i1.below hb1; replace i2 := i2.below hb1; replace hb := hb.trans (hb1.mono hb.size); clear hb1; rw [← HQ.out] at j2 ⊢; rw [← HR.out] at j3 ⊢; try simp only [put_lit, List.set_cons_zero, List.set_cons_succ]
        refine ha_k (i := 4) rfl (by kernel_rfl) (by kernel_rfl) (by kernel_rfl) (fun _ _ _ _ h => h) hS rfl (fun K hK => ?_); go_simp; refine hK _ ?_; clear hK K; try simp only [put_lit, List.set_cons_zero, List.set_cons_succ]
        refine ha_k (i := 5) rfl (by kernel_rfl) (by kernel_rfl) (by kernel_rfl) (fun _ _ _ _ h => h) hS rfl (fun K hK => ?_); go_simp; refine hK _ ?_; clear hK K; try simp only [put_lit, List.set_cons_zero, List.set_cons_succ]
        refine ha_k (i := 6) rfl (by kernel_rfl) (by kernel_rfl) (by kernel_rfl) (fun _ _ _ _ h => h) hS rfl (fun K hK => ?_); go_simp; refine hK _ ?_; clear hK K; try simp only [put_lit, List.set_cons_zero, List.set_cons_succ]
        refine ha_store (i := 9) (by kernel_rfl) rfl rfl 84 _ _ rfl _ (iv q B2 d2) rfl rfl 84 _ hp12 info84 rfl (iv_one _ _ _) (hS.setNew (by omega) _) (fun hS => ?_); try simp only [put_lit, List.set_cons_zero, List.set_cons_succ]
        replace hb := below_setRow hb (g := p12) (by omega) (iv q B2 d2); replace h0 := hr_old (g := p12) (cs := iv q B2 d2) h0 (by omega); replace h8 := hr_old (g := p12) (cs := iv q B2 d2) h8 (by omega); replace hp10 := hr_old (g := p12) (cs := iv q B2 d2) hp10 (by omega); replace hp11 := hr_old (g := p12) (cs := iv q B2 d2) hp11 (by omega); replace hp13 := hr_old (g := p12) (cs := iv q B2 d2) hp13 (by omega); replace ix := ix.put hp12 (iv q B2 d2); replace i1 := i1.put hp12 (iv q B2 d2); replace i2 := i2.put hp12 (iv q B2 d2); replace j2 := j2.put hp12 (iv q B2 d2); replace j3 := j3.put hp12 (iv q B2 d2); replace hp12 := hr_new (cs := iv q B2 d2) hp12
        refine ha_store (i := 10) (by kernel_rfl) rfl rfl 84 _ _ rfl _ (iv r B3 d3) rfl rfl 84 _ hp13 info84 rfl (iv_one _ _ _) (hS.setNew (by omega) _) (fun hS => ?_); try simp only [put_lit, List.set_cons_zero, List.set_cons_succ]
        refine wpAnyH_done (by kernel_rfl) ?_ _
        replace hb := below_setRow hb (g := p13) (by omega) (iv r B3 d3); replace h0 := hr_old (g := p13) (cs := iv r B3 d3) h0 (by omega); replace h8 := hr_old (g := p13) (cs := iv r B3 d3) h8 (by omega); replace hp10 := hr_old (g := p13) (cs := iv r B3 d3) hp10 (by omega); replace hp11 := hr_old (g := p13) (cs := iv r B3 d3) hp11 (by omega); replace hp12 := hr_old (g := p13) (cs := iv r B3 d3) hp12 (by omega); replace ix := ix.put hp13 (iv r B3 d3); replace i1 := i1.put hp13 (iv r B3 d3); replace i2 := i2.put hp13 (iv r B3 d3); replace j2 := j2.put hp13 (iv r B3 d3); replace j3 := j3.put hp13 (iv r B3 d3); replace hp13 := hr_new (cs := iv r B3 d3) hp13
        exact tail p12 p13 _ _ _ _ _ _ _ _ _ _ _ _ _ _ _ _ _ _ _ _ _ _ _ _ _ _ _ _ _ _ _ _ _ _ _ _ _ _ _ _ _ _ _ _ _ _ _ _ _ _ _ _ _ (by omega) (by omega) (by omega) (by omega) (by omega) h0 h8 hp10 hp11 hp12 hp13 ix i1 i2 j3 hb
    · refine sh_mk (i := 8) rfl rfl (fun ev w' => ex_alloc84i rfl ev w') hS (fun w21 p13 hb1 hLp13 hlp13 hp13 hS => ?_); replace h0 := below_look hb1 h0; replace h8 := below_look hb1 h8; replace hp10 := below_look hb1 hp10; replace hp11 := below_look hb1 hp11; replace ix := ix.below hb1; replace i1 := i1.below hb1; replace i2 := i2.below hb1; replace j1 := j1.below hb1; replace hb := hb.trans (hb1.mono hb.size); clear hb1; try simp only [put_lit, List.set_cons_zero, List.set_cons_succ]
      refine ha_two (i := 3) (j := 7) (by kernel_rfl) ?_ ?_
      · refine sh_call (i := 3) rfl rfl (fun K hK => ?_); go_simp; refine ⟨_, _, ⟨rfl, rfl⟩, hK _ _ ⟨_, FloorI_any x (t2 n) _ _ _ _ _ ix j1 (by omega) (by have := nl_t2 (x := n) h2; omega) (t2_pos n), ?_⟩⟩; clear hK K; rintro e w22 ⟨B2, d2, B3, d3, rfl, j2, j3, hb1⟩; refine ⟨_, rfl, hS.below hb1, ?_⟩; replace hS := hS.below hb1; replace h0 := below_look hb1 h0; replace h8 := below_look hb1 h8; replace hp10 := below_look hb1 hp10; replace hp11 := below_look hb1 hp11; replace hp13 := below_look hb1 hp13; replace ix := ix.below hb1; replace i1 := i1.below hb1; replace i2 := i2.below hb1; replace hb := hb.trans (hb1.mono hb.size); clear hb1; rw [← HQ.out] at j2 ⊢; rw [← HR.out] at j3 ⊢; try simp only [put_lit, List.set_cons_zero, List.set_cons_succ]
        refine ha_k (i := 4) rfl (by kernel_rfl) (by kernel_rfl) (by kernel_rfl) (fun _ _ _ _ h => h) hS rfl (fun K hK => ?_); go_simp; refine hK _ ?_; clear hK K; try simp only [put_lit, List.set_cons_zero, List.set_cons_succ]
        refine ha_k (i := 5) rfl (by kernel_rfl) (by kernel_rfl) (by kernel_rfl) (fun _ _ _ _ h => h) hS rfl (fun K hK => ?_); go_simp; refine hK _ ?_; clear hK K; try simp only [put_lit, List.set_cons_zero, List.set_cons_succ]
        refine ha_k (i := 6) rfl (by kernel_rfl) (by kernel_rfl) (by kernel_rfl) (fun _ _ _ _ h => h) hS rfl (fun K hK => ?_); go_simp; refine hK _ ?_; clear hK K; try simp only [put_lit, List.set_cons_zero, List.set_cons_succ]
        have ltp13p12 := heap_lt hp13
        refine ha_mk (i := 7) (by kernel_rfl) rfl rfl (fun ev w' => ex_alloc84i rfl ev w') hS (fun w23 p12 hb1 hLp12 hlp12 hp12 hS => ?_); replace h0 := below_look hb1 h0; replace h8 := below_look hb1 h8; replace hp10 := below_look hb1 hp10; replace hp11 := below_look hb1 hp11; replace hp13 := below_look hb1 hp13; replace ix := ix.below hb1; replace i1 := i1.below hb1; replace i2 := i2.below hb1; replace j2 := j2.below hb1; replace j3 := j3.below hb1; replace hb := hb.trans (hb1.mono hb.size); clear hb1; try simp only [put_lit, List.set_cons_zero, List.set_cons_succ]
        refine ha_store (i := 9) (by kernel_rfl) rfl rfl 84 _ _ rfl _ (iv q B2 d2) rfl rfl 84 _ hp12 info84 rfl (iv_one _ _ _) (hS.setNew (by omega) _) (fun hS => ?_); try simp only [put_lit, List.set_cons_zero, List.set_cons_succ]
        replace hb := below_setRow hb (g := p12) (by omega) (iv q B2 d2); replace h0 := hr_old (g := p12) (cs := iv q B2 d2) h0 (by omega); replace h8 := hr_old (g := p12) (cs := iv q B2 d2) h8 (by omega); replace hp10 := hr_old (g := p12) (cs := iv q B2 d2) hp10 (by omega); replace hp11 := hr_old (g := p12) (cs := iv q B2 d2) hp11 (by omega); replace hp13 := hr_old (g := p12) (cs := iv q B2 d2) hp13 (by omega); replace ix := ix.put hp12 (iv q B2 d2); replace i1 := i1.put hp12 (iv q B2 d2); replace i2 := i2.put hp12 (iv q B2 d2); replace j2 := j2.put hp12 (iv q B2 d2); replace j3 := j3.put hp12 (iv q B2 d2); replace hp12 := hr_new (cs := iv q B2 d2) hp12
        refine ha_store (i := 10) (by kernel_rfl) rfl rfl 84 _ _ rfl _ (iv r B3 d3) rfl rfl 84 _ hp13 info84 rfl (iv_one _ _ _) (hS.setNew (by omega) _) (fun hS => ?_); try simp only [put_lit, List.set_cons_zero, List.set_cons_succ]
        refine wpAnyH_done (by kernel_rfl) ?_ _
        replace hb := below_setRow hb (g := p13) (by omega) (iv r B3 d3); replace h0 := hr_old (g := p13) (cs := iv r B3 d3) h0 (by omega); replace h8 := hr_old (g := p13) (cs := iv r B3 d3) h8 (by omega); replace hp10 := hr_old (g := p13) (cs := iv r B3 d3) hp10 (by omega); replace hp11 := hr_old (g := p13) (cs := iv r B3 d3) hp11 (by omega); replace hp12 := hr_old (g := p13) (cs := iv r B3 d3) hp12 (by omega); replace ix := ix.put hp13 (iv r B3 d3); replace i1 := i1.put hp13 (iv r B3 d3); replace i2 := i2.put hp13 (iv r B3 d3); replace j2 := j2.put hp13 (iv r B3 d3); replace j3 := j3.put hp13 (iv r B3 d3); replace hp13 := hr_new (cs := iv r B3 d3) hp13
        exact tail p12 p13 _ _ _ _ _ _ _ _ _ _ _ _ _ _ _ _ _ _ _ _ _ _ _ _ _ _ _ _ _ _ _ _ _ _ _ _ _ _ _ _ _ _ _ _ _ _ _ _ _ _ _ _ _ (by omega) (by omega) (by omega) (by omega) (by omega) h0 h8 hp10 hp11 hp12 hp13 ix i1 i2 j3 hb
      · have ltp13p12 := heap_lt hp13
        refine sh_mk (i := 7) rfl rfl (fun ev w' => ex_alloc84i rfl ev w') hS (fun w22 p12 hb1 hLp12 hlp12 hp12 hS => ?_); replace h0 := below_look hb1 h0; replace h8 := below_look hb1 h8; replace hp10 := below_look hb1 hp10; replace hp11 := below_look hb1 hp11; replace hp13 := below_look hb1 hp13; replace ix := ix.below hb1; replace i1 := i1.below hb1; replace i2 := i2.below hb1; replace j1 := j1.below hb1; replace hb := hb.trans (hb1.mono hb.size); clear hb1; try simp only [put_lit, List.set_cons_zero, List.set_cons_succ]
        refine ha_call (i := 3) (by kernel_rfl) rfl rfl (fun K hK => ?_); go_simp; refine ⟨_, _, ⟨rfl, rfl⟩, hK _ _ ⟨_, FloorI_any x (t2 n) _ _ _ _ _ ix j1 (by omega) (by have := nl_t2 (x := n) h2; omega) (t2_pos n), ?_⟩⟩; clear hK K; rintro e w23 ⟨B2, d2, B3, d3, rfl, j2, j3, hb1⟩; refine ⟨_, rfl, hS.below hb1, ?_⟩; replace hS := hS.below hb1; replace h0 := below_look hb1 h0; replace h8 := below_look hb1 h8; replace hp10 := below_look hb1 hp10; replace hp11 := below_look hb1 hp11; replace hp13 := below_look hb1 hp13; replace hp12 := below_look hb1 hp12; replace ix := ix.below hb1; replace i1 := i1.below hb1; replace i2 := i2.below hb1; replace hb := hb.trans (hb1.mono hb.size); clear hb1; rw [← HQ.out] at j2 ⊢; rw [← HR.out] at j3 ⊢; try simp only [put_lit, List.set_cons_zero, List.set_cons_succ]
        refine ha_k (i := 4) rfl (by kernel_rfl) (by kernel_rfl) (by kernel_rfl) (fun _ _ _ _ h => h) hS rfl (fun K hK => ?_); go_simp; refine hK _ ?_; clear hK K; try simp only [put_lit, List.set_cons_zero, List.set_cons_succ]
        refine ha_k (i := 5) rfl (by kernel_rfl) (by kernel_rfl) (by kernel_rfl) (fun _ _ _ _ h => h) hS rfl (fun K hK => ?_); go_simp; refine hK _ ?_; clear hK K; try simp only [put_lit, List.set_cons_zero, List.set_cons_succ]
        refine ha_k (i := 6) rfl (by kernel_rfl) (by kernel_rfl) (by kernel_rfl) (fun _ _ _ _ h => h) hS rfl (fun K hK => ?_); go_simp; refine hK _ ?_; clear hK K; try simp only [put_lit, List.set_cons_zero, List.set_cons_succ]
        refine ha_store (i := 9) (by kernel_rfl) rfl rfl 84 _ _ rfl _ (iv q B2 d2) rfl rfl 84 _ hp12 info84 rfl (iv_one _ _ _) (hS.setNew (by omega) _) (fun hS => ?_); try simp only [put_lit, List.set_cons_zero, List.set_cons_succ]
        replace hb := below_setRow hb (g := p12) (by omega) (iv q B2 d2); replace h0 := hr_old (g := p12) (cs := iv q B2 d2) h0 (by omega); replace h8 := hr_old (g := p12) (cs := iv q B2 d2) h8 (by omega); replace hp10 := hr_old (g := p12) (cs := iv q B2 d2) hp10 (by omega); replace hp11 := hr_old (g := p12) (cs := iv q B2 d2) hp11 (by omega); replace hp13 := hr_old (g := p12) (cs := iv q B2 d2) hp13 (by omega); replace ix := ix.put hp12 (iv q B2 d2); replace i1 := i1.put hp12 (iv q B2 d2); replace i2 := i2.put hp12 (iv q B2 d2); replace j2 := j2.put hp12 (iv q B2 d2); replace j3 := j3.put hp12 (iv q B2 d2); replace hp12 := hr_new (cs := iv q B2 d2) hp12
        refine ha_store (i := 10) (by kernel_rfl) rfl rfl 84 _ _ rfl _ (iv r B3 d3) rfl rfl 84 _ hp13 info84 rfl (iv_one _ _ _) (hS.setNew (by omega) _) (fun hS => ?_); try simp only [put_lit, List.set_cons_zero, List.set_cons_succ]
        refine wpAnyH_done (by kernel_rfl) ?_ _
        replace hb := below_setRow hb (g := p13) (by omega) (iv r B3 d3); replace h0 := hr_old (g := p13) (cs := iv r B3 d3) h0 (by omega); replace h8 := hr_old (g := p13) (cs := iv r B3 d3) h8 (by omega); replace hp10 := hr_old (g := p13) (cs := iv r B3 d3) hp10 (by omega); replace hp11 := hr_old (g := p13) (cs := iv r B3 d3) hp11 (by omega); replace hp12 := hr_old (g := p13) (cs := iv r B3 d3) hp12 (by omega); replace ix := ix.put hp13 (iv r B3 d3); replace i1 := i1.put hp13 (iv r B3 d3); replace i2 := i2.put hp13 (iv r B3 d3); replace j2 := j2.put hp13 (iv r B3 d3); replace j3 := j3.put hp13 (iv r B3 d3); replace hp13 := hr_new (cs := iv r B3 d3) hp13
        exact tail p12 p13 _ _ _ _ _ _ _ _ _ _ _ _ _ _ _ _ _ _ _ _ _ _ _ _ _ _ _ _ _ _ _ _ _ _ _ _ _ _ _ _ _ _ _ _ _ _ _ _ _ _ _ _ _ (by omega) (by omega) (by omega) (by omega) (by omega) h0 h8 hp10 hp11 hp12 hp13 ix i1 i2 j3 hb
  · refine sh_mk (i := 7) rfl rfl (fun ev w' => ex_alloc84i rfl ev w') hS (fun w20 p12 hb1 hLp12 hlp12 hp12 hS => ?_); replace h0 := below_look hb1 h0; replace h8 := below_look hb1 h8; replace hp10 := below_look hb1 hp10; replace hp11 := below_look hb1 hp11; replace ix := ix.below hb1; replace i1 := i1.below hb1; replace i2 := i2.below hb1; replace hb := hb.trans (hb1.mono hb.size); clear hb1; try simp only [put_lit, List.set_cons_zero, List.set_cons_succ]
    refine ha_two (i := 2) (j := 8) (by kernel_rfl) ?_ ?_
    · refine sh_call (i := 2) rfl rfl (fun K hK => ?_); go_simp; refine ⟨_, _, ⟨rfl, rfl⟩, hK _ _ ⟨_, PowerT_any n (by omega) h2 _, ?_⟩⟩; clear hK K; rintro e w21 ⟨B1, d1, rfl, j1, hb1⟩; refine ⟨_, rfl, hS.below hb1, ?_⟩; replace hS := hS.below hb1; replace h0 := below_look hb1 h0; replace h8 := below_look hb1 h8; replace hp10 := below_look hb1 hp10; replace hp11 := below_look hb1 hp11; replace hp12 := below_look hb1 hp12; replace ix := ix.below hb1; replace i1 := i1.below hb1; replace i2 := i2.below hb1; replace hb := hb.trans (hb1.mono hb.size); clear hb1; try simp only [put_lit, List.set_cons_zero, List.set_cons_succ]
      refine ha_two (i := 3) (j := 8) (by kernel_rfl) ?_ ?_
      · refine sh_call (i := 3) rfl rfl (fun K hK => ?_); go_simp; refine ⟨_, _, ⟨rfl, rfl⟩, hK _ _ ⟨_, FloorI_any x (t2 n) _ _ _ _ _ ix j1 (by omega) (by have := nl_t2 (x := n) h2; omega) (t2_pos n), ?_⟩⟩; clear hK K; rintro e w22 ⟨B2, d2, B3, d3, rfl, j2, j3, hb1⟩; refine ⟨_, rfl, hS.below hb1, ?_⟩; replace hS := hS.below hb1; replace h0 := below_look hb1 h0; replace h8 := below_look hb1 h8; replace hp10 := below_look hb1 hp10; replace hp11 := below_look hb1 hp11; replace hp12 := below_look hb1 hp12; replace ix := ix.below hb1; replace i1 := i1.below hb1; replace i2 := i2.below hb1; replace hb := hb.trans (hb1.mono hb.size); clear hb1; rw [← HQ.out] at j2 ⊢; rw [← HR.out] at j3 ⊢; try simp only [put_lit, List.set_cons_zero, List.set_cons_succ]
        refine ha_k (i := 4) rfl (by kernel_rfl) (by kernel_rfl) (by kernel_rfl) (fun _ _ _ _ h => h) hS rfl (fun K hK => ?_); go_simp; refine hK _ ?_; clear hK K; try simp only [put_lit, List.set_cons_zero, List.set_cons_succ]
        refine ha_k (i := 5) rfl (by kernel_rfl) (by kernel_rfl) (by kernel_rfl) (fun _ _ _ _ h => h) hS rfl (fun K hK => ?_); go_simp; refine hK _ ?_; clear hK K; try simp only [put_lit, List.set_cons_zero, List.set_cons_succ]
        refine ha_k (i := 6) rfl (by kernel_rfl) (by kernel_rfl) (by kernel_rfl) (fun _ _ _ _ h => h) hS rfl (fun K hK => ?_); go_simp; refine hK _ ?_; clear hK K; try simp only [put_lit, List.set_cons_zero, List.set_cons_succ]
        have ltp12p13 := heap_lt hp12
        refine ha_mk (i := 8) (by kernel_rfl) rfl rfl (fun ev w' => ex_alloc84i rfl ev w') hS (fun w23 p13 hb1 hLp13 hlp13 hp13 hS => ?_); replace h0 := below_look hb1 h0; replace h8 := below_look hb1 h8; replace hp10 := below_look hb1 hp10; replace hp11 := below_look hb1 hp11; replace hp12 := below_look hb1 hp12; replace ix := ix.below hb1; replace i1 := i1.below hb1; replace i2 := i2.below hb1; replace j2 := j2.below hb1; replace j3 := j3.below hb1; replace hb := hb.trans (hb1.mono hb.size); clear hb1; try simp only [put_lit, List.set_cons_zero, List.set_cons_succ]
        refine ha_store (i := 9) (by kernel_rfl) rfl rfl 84 _ _ rfl _ (iv q B2 d2) rfl rfl 84 _ hp12 info84 rfl (iv_one _ _ _) (hS.setNew (by omega) _) (fun hS => ?_); try simp only [put_lit, List.set_cons_zero, List.set_cons_succ]
        replace hb := below_setRow hb (g := p12) (by omega) (iv q B2 d2); replace h0 := hr_old (g := p12) (cs := iv q B2 d2) h0 (by omega); replace h8 := hr_old (g := p12) (cs := iv q B2 d2) h8 (by omega); replace hp10 := hr_old (g := p12) (cs := iv q B2 d2) hp10 (by omega); replace hp11 := hr_old (g := p12) (cs := iv q B2 d2) hp11 (by omega); replace hp13 := hr_old (g := p12) (cs := iv q B2 d2) hp13 (by omega); replace ix := ix.put hp12 (iv q B2 d2); replace i1 := i1.put hp12 (iv q B2 d2); replace i2 := i2.put hp12 (iv q B2 d2); replace j2 := j2.put hp12 (iv q B2 d2); replace j3 := j3.put hp12 (iv q B2 d2); replace hp12 := hr_new (cs := iv q B2 d2) hp12
        refine ha_store (i := 10) (by kernel_rfl) rfl rfl 84 _ _ rfl _ (iv r B3 d3) rfl rfl 84 _ hp13 info84 rfl (iv_one _ _ _) (hS.setNew (by omega) _) (fun hS => ?_); try simp only [put_lit, List.set_cons_zero, List.set_cons_succ]
        refine wpAnyH_done (by kernel_rfl) ?_ _
        replace hb := below_setRow hb (g := p13) (by omega) (iv r B3 d3); replace h0 := hr_old (g := p13) (cs := iv r B3 d3) h0 (by omega); replace h8 := hr_old (g := p13) (cs := iv r B3 d3) h8 (by omega); replace hp10 := hr_old (g := p13) (cs := iv r B3 d3) hp10 (by omega); replace hp11 := hr_old (g := p13) (cs := iv r B3 d3) hp11 (by omega); replace hp12 := hr_old (g := p13) (cs := iv r B3 d3) hp12 (by omega); replace ix := ix.put hp13 (iv r B3 d3); replace i1 := i1.put hp13 (iv r B3 d3); replace i2 := i2.put hp13 (iv r B3 d3); replace j2 := j2.put hp13 (iv r B3 d3); replace j3 := j3.put hp13 (iv r B3 d3); replace hp13 := hr_new (cs := iv r B3 d3) hp13
        exact tail p12 p13 _ _ _ _ _ _ _ _ _ _ _ _ _ _ _ _ _ _ _ _ _ _ _ _ _ _ _ _ _ _ _ _ _ _ _ _ _ _ _ _ _ _ _ _ _ _ _ _ _ _ _ _ _ (by omega) (by omega) (by omega) (by omega) (by omega) h0 h8 hp10 hp11 hp12 hp13 ix i1 i2 j3 hb
      · have ltp12p13 := heap_lt hp12
        refine sh_mk (i := 8) rfl rfl (fun ev w' => ex_alloc84i rfl ev w') hS (fun w22 p13 hb1 hLp13 hlp13 hp13 hS => ?_); replace h0 := below_look hb1 h0; replace h8 := below_look hb1 h8; replace hp10 := below_look hb1 hp10; replace hp11 := below_look hb1 hp11; replace hp12 := below_look hb1 hp12; replace ix := ix.below hb1; replace i1 := i1.below hb1; replace i2 := i2.below hb1; replace j1 := j1.below hb1; replace hb := hb.trans (hb1.mono hb.size); clear hb1; try simp only [put_lit, List.set_cons_zero, List.set_cons_succ]
        refine ha_call (i := 3) (by kernel_rfl) rfl rfl (fun K hK => ?_); go_simp; refine ⟨_, _, ⟨rfl, rfl⟩, hK _ _ ⟨_, FloorI_any x (t2 n) _ _ _ _ _ ix j1 (by omega) (by have := nl_t2 (x := n) h2; omega) (t2_pos n), ?_⟩⟩; clear hK K; rintro e w23 ⟨B2, d2, B3, d3, rfl, j2, j3, hb1⟩; refine ⟨_, rfl, hS.below hb1, ?_⟩; replace hS := hS.below hb1; replace h0 := below_look hb1 h0; replace h8 := below_look hb1 h8; replace hp10 := below_look hb1 hp10; replace hp11 := below_look hb1 hp11; replace hp12 := below_look hb1 hp12; replace hp13 := below_look hb1 hp13; replace ix := ix.below hb1; replace i1 := i1.below hb1; replace i2 := i2.below hb1; replace hb := hb.trans (hb1.mono hb.size); clear hb1; rw [← HQ.out] at j2 ⊢; rw [← HR.out] at j3 ⊢; try simp only [put_lit, List.set_cons_zero, List.set_cons_succ]
        refine ha_k (i := 4) rfl (by kernel_rfl) (by kernel_rfl) (by kernel_rfl) (fun _ _ _ _ h => h) hS rfl (fun K hK => ?_); go_simp; refine hK _ ?_; clear hK K; try simp only [put_lit, List.set_cons_zero, List.set_cons_succ]
        refine ha_k (i := 5) rfl (by kernel_rfl) (by kernel_rfl) (by kernel_rfl) (fun _ _ _ _ h => h) hS rfl (fun K hK => ?_); go_simp; refine hK _ ?_; clear hK K; try simp only [put_lit, List.set_cons_zero, List.set_cons_succ]
        refine ha_k (i := 6) rfl (by kernel_rfl) (by kernel_rfl) (by kernel_rfl) (fun _ _ _ _ h => h) hS rfl (fun K hK => ?_); go_simp; refine hK _ ?_; clear hK K; try simp only [put_lit, List.set_cons_zero, List.set_cons_succ]
        refine ha_store (i := 9) (by kernel_rfl) rfl rfl 84 _ _ rfl _ (iv q B2 d2) rfl rfl 84 _ hp12 info84 rfl (iv_one _ _ _) (hS.setNew (by omega) _) (fun hS => ?_); try simp only [put_lit, List.set_cons_zero, List.set_cons_succ]
        replace hb := below_setRow hb (g := p12) (by omega) (iv q B2 d2); replace h0 := hr_old (g := p12) (cs := iv q B2 d2) h0 (by omega); replace h8 := hr_old (g := p12) (cs := iv q B2 d2) h8 (by omega); replace hp10 := hr_old (g := p12) (cs := iv q B2 d2) hp10 (by omega); replace hp11 := hr_old (g := p12) (cs := iv q B2 d2) hp11 (by omega); replace hp13 := hr_old (g := p12) (cs := iv q B2 d2) hp13 (by omega); replace ix := ix.put hp12 (iv q B2 d2); replace i1 := i1.put hp12 (iv q B2 d2); replace i2 := i2.put hp12 (iv q B2 d2); replace j2 := j2.put hp12 (iv q B2 d2); replace j3 := j3.put hp12 (iv q B2 d2); replace hp12 := hr_new (cs := iv q B2 d2) hp12
        refine ha_store (i := 10) (by kernel_rfl) rfl rfl 84 _ _ rfl _ (iv r B3 d3) rfl rfl 84 _ hp13 info84 rfl (iv_one _ _ _) (hS.setNew (by omega) _) (fun hS => ?_); try simp only [put_lit, List.set_cons_zero, List.set_cons_succ]
        refine wpAnyH_done (by kernel_rfl) ?_ _
        replace hb := below_setRow hb (g := p13) (by omega) (iv r B3 d3); replace h0 := hr_old (g := p13) (cs := iv r B3 d3) h0 (by omega); replace h8 := hr_old (g := p13) (cs := iv r B3 d3) h8 (by omega); replace hp10 := hr_old (g := p13) (cs := iv r B3 d3) hp10 (by omega); replace hp11 := hr_old (g := p13) (cs := iv r B3 d3) hp11 (by omega); replace hp12 := hr_old (g := p13) (cs := iv r B3 d3) hp12 (by omega); replace ix := ix.put hp13 (iv r B3 d3); replace i1 := i1.put hp13 (iv r B3 d3); replace i2 := i2.put hp13 (iv r B3 d3); replace j2 := j2.put hp13 (iv r B3 d3); replace j3 := j3.put hp13 (iv r B3 d3); replace hp13 := hr_new (cs := iv r B3 d3) hp13
        exact tail p12 p13 _ _ _ _ _ _ _ _ _ _ _ _ _ _ _ _ _ _ _ _ _ _ _ _ _ _ _ _ _ _ _ _ _ _ _ _ _ _ _ _ _ _ _ _ _ _ _ _ _ _ _ _ _ (by omega) (by omega) (by omega) (by omega) (by omega) h0 h8 hp10 hp11 hp12 hp13 ix i1 i2 j3 hb
    · have ltp12p13 := heap_lt hp12
      refine sh_mk (i := 8) rfl rfl (fun ev w' => ex_alloc84i rfl ev w') hS (fun w21 p13 hb1 hLp13 hlp13 hp13 hS => ?_); replace h0 := below_look hb1 h0; replace h8 := below_look hb1 h8; replace hp10 := below_look hb1 hp10; replace hp11 := below_look hb1 hp11; replace hp12 := below_look hb1 hp12; replace ix := ix.below hb1; replace i1 := i1.below hb1; replace i2 := i2.below hb1; replace hb := hb.trans (hb1.mono hb.size); clear hb1; try simp only [put_lit, List.set_cons_zero, List.set_cons_succ]
      refine ha_call (i := 2) (by kernel_rfl) rfl rfl (fun K hK => ?_); go_simp; refine ⟨_, _, ⟨rfl, rfl⟩, hK _ _ ⟨_, PowerT_any n (by omega) h2 _, ?_⟩⟩; clear hK K; rintro e w22 ⟨B1, d1, rfl, j1, hb1⟩; refine ⟨_, rfl, hS.below hb1, ?_⟩; replace hS := hS.below hb1; replace h0 := below_look hb1 h0; replace h8 := below_look hb1 h8; replace hp10 := below_look hb1 hp10; replace hp11 := below_look hb1 hp11; replace hp12 := below_look hb1 hp12; replace hp13 := below_look hb1 hp13; replace ix := ix.below hb1; replace i1 := i1.below hb1; replace i2 := i2.below hb1; replace hb := hb.trans (hb1.mono hb.size); clear hb1; try simp only [put_lit, List.set_cons_zero, List.set_cons_succ]
      refine ha_call (i := 3) (by kernel_rfl) rfl rfl (fun K hK => ?_); go_simp; refine ⟨_, _, ⟨rfl, rfl⟩, hK _ _ ⟨_, FloorI_any x (t2 n) _ _ _ _ _ ix j1 (by omega) (by have := nl_t2 (x := n) h2; omega) (t2_pos n), ?_⟩⟩; clear hK K; rintro e w23 ⟨B2, d2, B3, d3, rfl, j2, j3, hb1⟩; refine ⟨_, rfl, hS.below hb1, ?_⟩; replace hS := hS.below hb1; replace h0 := below_look hb1 h0; replace h8 := below_look hb1 h8; replace hp10 := below_look hb1 hp10; replace hp11 := below_look hb1 hp11; replace hp12 := below_look hb1 hp12; replace hp13 := below_look hb1 hp13; replace ix := ix.below hb1; replace i1 := i1.below hb1; replace i2 := i2.below hb1; replace hb := hb.trans (hb1.mono hb.size); clear hb1; rw [← HQ.out] at j2 ⊢; rw [← HR.out] at j3 ⊢; try simp only [put_lit, List.set_cons_zero, List.set_cons_succ]
      refine ha_k (i := 4) rfl (by kernel_rfl) (by kernel_rfl) (by kernel_rfl) (fun _ _ _ _ h => h) hS rfl (fun K hK => ?_); go_simp; refine hK _ ?_; clear hK K; try simp only [put_lit, List.set_cons_zero, List.set_cons_succ]
      refine ha_k (i := 5) rfl (by kernel_rfl) (by kernel_rfl) (by kernel_rfl) (fun _ _ _ _ h => h) hS rfl (fun K hK => ?_); go_simp; refine hK _ ?_; clear hK K; try simp only [put_lit, List.set_cons_zero, List.set_cons_succ]
      refine ha_k (i := 6) rfl (by kernel_rfl) (by kernel_rfl) (by kernel_rfl) (fun _ _ _ _ h => h) hS rfl (fun K hK => ?_); go_simp; refine hK _ ?_; clear hK K; try simp only [put_lit, List.set_cons_zero, List.set_cons_succ]
      refine ha_store (i := 9) (by kernel_rfl) rfl rfl 84 _ _ rfl _ (iv q B2 d2) rfl rfl 84 _ hp12 info84 rfl (iv_one _ _ _) (hS.setNew (by omega) _) (fun hS => ?_); try simp only [put_lit, List.set_cons_zero, List.set_cons_succ]
      replace hb := below_setRow hb (g := p12) (by omega) (iv q B2 d2); replace h0 := hr_old (g := p12) (cs := iv q B2 d2) h0 (by omega); replace h8 := hr_old (g := p12) (cs := iv q B2 d2) h8 (by omega); replace hp10 := hr_old (g := p12) (cs := iv q B2 d2) hp10 (by omega); replace hp11 := hr_old (g := p12) (cs := iv q B2 d2) hp11 (by omega); replace hp13 := hr_old (g := p12) (cs := iv q B2 d2) hp13 (by omega); replace ix := ix.put hp12 (iv q B2 d2); replace i1 := i1.put hp12 (iv q B2 d2); replace i2 := i2.put hp12 (iv q B2 d2); replace j2 := j2.put hp12 (iv q B2 d2); replace j3 := j3.put hp12 (iv q B2 d2); replace hp12 := hr_new (cs := iv q B2 d2) hp12
      refine ha_store (i := 10) (by kernel_rfl) rfl rfl 84 _ _ rfl _ (iv r B3 d3) rfl rfl 84 _ hp13 info84 rfl (iv_one _ _ _) (hS.setNew (by omega) _) (fun hS => ?_); try simp only [put_lit, List.set_cons_zero, List.set_cons_succ]
      refine wpAnyH_done (by kernel_rfl) ?_ _
      replace hb := below_setRow hb (g := p13) (by omega) (iv r B3 d3); replace h0 := hr_old (g := p13) (cs := iv r B3 d3) h0 (by omega); replace h8 := hr_old (g := p13) (cs := iv r B3 d3) h8 (by omega); replace hp10 := hr_old (g := p13) (cs := iv r B3 d3) hp10 (by omega); replace hp11 := hr_old (g := p13) (cs := iv r B3 d3) hp11 (by omega); replace hp12 := hr_old (g := p13) (cs := iv r B3 d3) hp12 (by omega); replace ix := ix.put hp13 (iv r B3 d3); replace i1 := i1.put hp13 (iv r B3 d3); replace i2 := i2.put hp13 (iv r B3 d3); replace j2 := j2.put hp13 (iv r B3 d3); replace j3 := j3.put hp13 (iv r B3 d3); replace hp13 := hr_new (cs := iv r B3 d3) hp13
      exact tail p12 p13 _ _ _ _ _ _ _ _ _ _ _ _ _ _ _ _ _ _ _ _ _ _ _ _ _ _ _ _ _ _ _ _ _ _ _ _ _ _ _ _ _ _ _ _ _ _ _ _ _ _ _ _ _ (by omega) (by omega) (by omega) (by omega) (by omega) h0 h8 hp10 hp11 hp12 hp13 ix i1 i2 j3 hb
  · refine sh_mk (i := 8) rfl rfl (fun ev w' => ex_alloc84i rfl ev w') hS (fun w20 p13 hb1 hLp13 hlp13 hp13 hS => ?_); replace h0 := below_look hb1 h0; replace h8 := below_look hb1 h8; replace hp10 := below_look hb1 hp10; replace hp11 := below_look hb1 hp11; replace ix := ix.below hb1; replace i1 := i1.below hb1; replace i2 := i2.below hb1; replace hb := hb.trans (hb1.mono hb.size); clear hb1; try simp only [put_lit, List.set_cons_zero, List.set_cons_succ]
    refine ha_two (i := 2) (j := 7) (by kernel_rfl) ?_ ?_
    · refine sh_call (i := 2) rfl rfl (fun K hK => ?_); go_simp; refine ⟨_, _, ⟨rfl, rfl⟩, hK _ _ ⟨_, PowerT_any n (by omega) h2 _, ?_⟩⟩; clear hK K; rintro e w21 ⟨B1, d1, rfl, j1, hb1⟩; refine ⟨_, rfl, hS.below hb1, ?_⟩; replace hS := hS.below hb1; replace h0 := below_look hb1 h0; replace h8 := below_look hb1 h8; replace hp10 := below_look hb1 hp10; replace hp11 := below_look hb1 hp11; replace hp13 := below_look hb1 hp13; replace ix := ix.below hb1; replace i1 := i1.below hb1; replace i2 := i2.below hb1; replace hb := hb.trans (hb1.mono hb.size); clear hb1; try simp only [put_lit, List.set_cons_zero, List.set_cons_succ]
      refine ha_two (i := 3) (j := 7) (by kernel_rfl) ?_ ?_
      · refine sh_call (i := 3) rfl rfl (fun K hK => ?_); go_simp; refine ⟨_, _, ⟨rfl, rfl⟩, hK _ _ ⟨_, FloorI_any x (t2 n) _ _ _ _ _ ix j1 (by omega) (by have := nl_t2 (x := n) h2; omega) (t2_pos n), ?_⟩⟩; clear hK K; rintro e w22 ⟨B2, d2, B3, d3, rfl, j2, j3, hb1⟩; refine ⟨_, rfl, hS.below hb1, ?_⟩; replace hS := hS.below hb1; replace h0 := below_look hb1 h0; replace h8 := below_look hb1 h8; replace hp10 := below_look hb1 hp10; replace hp11 := below_look hb1 hp11; replace hp13 := below_look hb1 hp13; replace ix := ix.below hb1; replace i1 := i1.below hb1; replace i2 := i2.below hb1; replace hb := hb.trans (hb1.mono hb.size); clear hb1; rw [← HQ.out] at j2 ⊢; rw [← HR.out] at j3 ⊢; try simp only [put_lit, List.set_cons_zero, List.set_cons_succ]
        refine ha_k (i := 4) rfl (by kernel_rfl) (by kernel_rfl) (by kernel_rfl) (fun _ _ _ _ h => h) hS rfl (fun K hK => ?_); go_simp; refine hK _ ?_; clear hK K; try simp only [put_lit, List.set_cons_zero, List.set_cons_succ]
        refine ha_k (i := 5) rfl (by kernel_rfl) (by kernel_rfl) (by kernel_rfl) (fun _ _ _ _ h => h) hS rfl (fun K hK => ?_); go_simp; refine hK _ ?_; clear hK K; try simp only [put_lit, List.set_cons_zero, List.set_cons_succ]
        refine ha_k (i := 6) rfl (by kernel_rfl) (by kernel_rfl) (by kernel_rfl) (fun _ _ _ _ h => h) hS rfl (fun K hK => ?_); go_simp; refine hK _ ?_; clear hK K; try simp only [put_lit, List.set_cons_zero, List.set_cons_succ]
        have ltp13p12 := heap_lt hp13
        refine ha_mk (i := 7) (by kernel_rfl) rfl rfl (fun ev w' => ex_alloc84i rfl ev w') hS (fun w23 p12 hb1 hLp12 hlp12 hp12 hS => ?_); replace h0 := below_look hb1 h0; replace h8 := below_look hb1 h8; replace hp10 := below_look hb1 hp10; replace hp11 := below_look hb1 hp11; replace hp13 := below_look hb1 hp13; replace ix := ix.below hb1; replace i1 := i1.below hb1; replace i2 := i2.below hb1; replace j2 := j2.below hb1; replace j3 := j3.below hb1; replace hb := hb.trans (hb1.mono hb.size); clear hb1; try simp only [put_lit, List.set_cons_zero, List.set_cons_succ]
        refine ha_store (i := 9) (by kernel_rfl) rfl rfl 84 _ _ rfl _ (iv q B2 d2) rfl rfl 84 _ hp12 info84 rfl (iv_one _ _ _) (hS.setNew (by omega) _) (fun hS => ?_); try simp only [put_lit, List.set_cons_zero, List.set_cons_succ]
        replace hb := below_setRow hb (g := p12) (by omega) (iv q B2 d2); replace h0 := hr_old (g := p12) (cs := iv q B2 d2) h0 (by omega); replace h8 := hr_old (g := p12) (cs := iv q B2 d2) h8 (by omega); replace hp10 := hr_old (g := p12) (cs := iv q B2 d2) hp10 (by omega); replace hp11 := hr_old (g := p12) (cs := iv q B2 d2) hp11 (by omega); replace hp13 := hr_old (g := p12) (cs := iv q B2 d2) hp13 (by omega); replace ix := ix.put hp12 (iv q B2 d2); replace i1 := i1.put hp12 (iv q B2 d2); replace i2 := i2.put hp12 (iv q B2 d2); replace j2 := j2.put hp12 (iv q B2 d2); replace j3 := j3.put hp12 (iv q B2 d2); replace hp12 := hr_new (cs := iv q B2 d2) hp12
        refine ha_store (i := 10) (by kernel_rfl) rfl rfl 84 _ _ rfl _ (iv r B3 d3) rfl rfl 84 _ hp13 info84 rfl (iv_one _ _ _) (hS.setNew (by omega) _) (fun hS => ?_); try simp only [put_lit, List.set_cons_zero, List.set_cons_succ]
        refine wpAnyH_done (by kernel_rfl) ?_ _
        replace hb := below_setRow hb (g := p13) (by omega) (iv r B3 d3); replace h0 := hr_old (g := p13) (cs := iv r B3 d3) h0 (by omega); replace h8 := hr_old (g := p13) (cs := iv r B3 d3) h8 (by omega); replace hp10 := hr_old (g := p13) (cs := iv r B3 d3) hp10 (by omega); replace hp11 := hr_old (g := p13) (cs := iv r B3 d3) hp11 (by omega); replace hp12 := hr_old (g := p13) (cs := iv r B3 d3) hp12 (by omega); replace ix := ix.put hp13 (iv r B3 d3); replace i1 := i1.put hp13 (iv r B3 d3); replace i2 := i2.put hp13 (iv r B3 d3); replace j2 := j2.put hp13 (iv r B3 d3); replace j3 := j3.put hp13 (iv r B3 d3); replace hp13 := hr_new (cs := iv r B3 d3) hp13
        exact tail p12 p13 _ _ _ _ _ _ _ _ _ _ _ _ _ _ _ _ _ _ _ _ _ _ _ _ _ _ _ _ _ _ _ _ _ _ _ _ _ _ _ _ _ _ _ _ _ _ _ _ _ _ _ _ _ (by omega) (by omega) (by omega) (by omega) (by omega) h0 h8 hp10 hp11 hp12 hp13 ix i1 i2 j3 hb
      · have ltp13p12 := heap_lt hp13
        refine sh_mk (i := 7) rfl rfl (fun ev w' => ex_alloc84i rfl ev w') hS (fun w22 p12 hb1 hLp12 hlp12 hp12 hS => ?_); replace h0 := below_look hb1 h0; replace h8 := below_look hb1 h8; replace hp10 := below_look hb1 hp10; replace hp11 := below_look hb1 hp11; replace hp13 := below_look hb1 hp13; replace ix := ix.below hb1; replace i1 := i1.below hb1; replace i2 := i2.below hb1; replace j1 := j1.below hb1; replace hb := hb.trans (hb1.mono hb.size); clear hb1; try simp only [put_lit, List.set_cons_zero, List.set_cons_succ]
        refine ha_call (i := 3) (by kernel_rfl) rfl rfl (fun K hK => ?_); go_simp; refine ⟨_, _, ⟨rfl, rfl⟩, hK _ _ ⟨_, FloorI_any x (t2 n) _ _ _ _ _ ix j1 (by omega) (by have := nl_t2 (x := n) h2; omega) (t2_pos n), ?_⟩⟩; clear hK K; rintro e w23 ⟨B2, d2, B3, d3, rfl, j2, j3, hb1⟩; refine ⟨_, rfl, hS.below hb1, ?_⟩; replace hS := hS.below hb1; replace h0 := below_look hb1 h0; replace h8 := below_look hb1 h8; replace hp10 := below_look hb1 hp10; replace hp11 := below_look hb1 hp11; replace hp13 := below_look hb1 hp13; replace hp12 := below_look hb1 hp12; replace ix := ix.below hb1; replace i1 := i1.below hb1; replace i2 := i2.below hb1; replace hb := hb.trans (hb1.mono hb.size); clear hb1; rw [← HQ.out] at j2 ⊢; rw [← HR.out] at j3 ⊢; try simp only [put_lit, List.set_cons_zero, List.set_cons_succ]
        refine ha_k (i := 4) rfl (by kernel_rfl) (by kernel_rfl) (by kernel_rfl) (fun _ _ _ _ h => h) hS rfl (fun K hK => ?_); go_simp; refine hK _ ?_; clear hK K; try simp only [put_lit, List.set_cons_zero, List.set_cons_succ]
        refine ha_k (i := 5) rfl (by kernel_rfl) (by kernel_rfl) (by kernel_rfl) (fun _ _ _ _ h => h) hS rfl (fun K hK => ?_); go_simp; refine hK _ ?_; clear hK K; try simp only [put_lit, List.set_cons_zero, List.set_cons_succ]
        refine ha_k (i := 6) rfl (by kernel_rfl) (by kernel_rfl) (by kernel_rfl) (fun _ _ _ _ h => h) hS rfl (fun K hK => ?_); go_simp; refine hK _ ?_; clear hK K; try simp only [put_lit, List.set_cons_zero, List.set_cons_succ]
        refine ha_store (i := 9) (by kernel_rfl) rfl rfl 84 _ _ rfl _ (iv q B2 d2) rfl rfl 84 _ hp12 info84 rfl (iv_one _ _ _) (hS.setNew (by omega) _) (fun hS => ?_); try simp only [put_lit, List.set_cons_zero, List.set_cons_succ]
        replace hb := below_setRow hb (g := p12) (by omega) (iv q B2 d2); replace h0 := hr_old (g := p12) (cs := iv q B2 d2) h0 (by omega); replace h8 := hr_old (g := p12) (cs := iv q B2 d2) h8 (by omega); replace hp10 := hr_old (g := p12) (cs := iv q B2 d2) hp10 (by omega); replace hp11 := hr_old (g := p12) (cs := iv q B2 d2) hp11 (by omega); replace hp13 := hr_old (g := p12) (cs := iv q B2 d2) hp13 (by omega); replace ix := ix.put hp12 (iv q B2 d2); replace i1 := i1.put hp12 (iv q B2 d2); replace i2 := i2.put hp12 (iv q B2 d2); replace j2 := j2.put hp12 (iv q B2 d2); replace j3 := j3.put hp12 (iv q B2 d2); replace hp12 := hr_new (cs := iv q B2 d2) hp12
        refine ha_store (i := 10) (by kernel_rfl) rfl rfl 84 _ _ rfl _ (iv r B3 d3) rfl rfl 84 _ hp13 info84 rfl (iv_one _ _ _) (hS.setNew (by omega) _) (fun hS => ?_); try simp only [put_lit, List.set_cons_zero, List.set_cons_succ]
        refine wpAnyH_done (by kernel_rfl) ?_ _
        replace hb := below_setRow hb (g := p13) (by omega) (iv r B3 d3); replace h0 := hr_old (g := p13) (cs := iv r B3 d3) h0 (by omega); replace h8 := hr_old (g := p13) (cs := iv r B3 d3) h8 (by omega); replace hp10 := hr_old (g := p13) (cs := iv r B3 d3) hp10 (by omega); replace hp11 := hr_old (g := p13) (cs := iv r B3 d3) hp11 (by omega); replace hp12 := hr_old (g := p13) (cs := iv r B3 d3) hp12 (by omega); replace ix := ix.put hp13 (iv r B3 d3); replace i1 := i1.put hp13 (iv r B3 d3); replace i2 := i2.put hp13 (iv r B3 d3); replace j2 := j2.put hp13 (iv r B3 d3); replace j3 := j3.put hp13 (iv r B3 d3); replace hp13 := hr_new (cs := iv r B3 d3) hp13
        exact tail p12 p13 _ _ _ _ _ _ _ _ _ _ _ _ _ _ _ _ _ _ _ _ _ _ _ _ _ _ _ _ _ _ _ _ _ _ _ _ _ _ _ _ _ _ _ _ _ _ _ _ _ _ _ _ _ (by omega) (by omega) (by omega) (by omega) (by omega) h0 h8 hp10 hp11 hp12 hp13 ix i1 i2 j3 hb
    · have ltp13p12 := heap_lt hp13
      refine sh_mk (i := 7) rfl rfl (fun ev w' => ex_alloc84i rfl ev w') hS (fun w21 p12 hb1 hLp12 hlp12 hp12 hS => ?_); replace h0 := below_look hb1 h0; replace h8 := below_look hb1 h8; replace hp10 := below_look hb1 hp10; replace hp11 := below_look hb1 hp11; replace hp13 := below_look hb1 hp13; replace ix := ix.below hb1; replace i1 := i1.below hb1; replace i2 := i2.below hb1; replace hb := hb.trans (hb1.mono hb.size); clear hb1; try simp only [put_lit, List.set_cons_zero, List.set_cons_succ]
      refine ha_call (i := 2) (by kernel_rfl) rfl rfl (fun K hK => ?_); go_simp; refine ⟨_, _, ⟨rfl, rfl⟩, hK _ _ ⟨_, PowerT_any n (by omega) h2 _, ?_⟩⟩; clear hK K; rintro e w22 ⟨B1, d1, rfl, j1, hb1⟩; refine ⟨_, rfl, hS.below hb1, ?_⟩; replace hS := hS.below hb1; replace h0 := below_look hb1 h0; replace h8 := below_look hb1 h8; replace hp10 := below_look hb1 hp10; replace hp11 := below_look hb1 hp11; replace hp13 := below_look hb1 hp13; replace hp12 := below_look hb1 hp12; replace ix := ix.below hb1; replace i1 := i1.below hb1; replace i2 := i2.below hb1; replace hb := hb.trans (hb1.mono hb.size); clear hb1; try simp only [put_lit, List.set_cons_zero, List.set_cons_succ]
      refine ha_call (i := 3) (by kernel_rfl) rfl rfl (fun K hK => ?_); go_simp; refine ⟨_, _, ⟨rfl, rfl⟩, hK _ _ ⟨_, FloorI_any x (t2 n) _ _ _ _ _ ix j1 (by omega) (by have := nl_t2 (x := n) h2; omega) (t2_pos n), ?_⟩⟩; clear hK K; rintro e w23 ⟨B2, d2, B3, d3, rfl, j2, j3, hb1⟩; refine ⟨_, rfl, hS.below hb1, ?_⟩; replace hS := hS.below hb1; replace h0 := below_look hb1 h0; replace h8 := below_look hb1 h8; replace hp10 := below_look hb1 hp10; replace hp11 := below_look hb1 hp11; replace hp13 := below_look hb1 hp13; replace hp12 := below_look hb1 hp12; replace ix := ix.below hb1; replace i1 := i1.below hb1; replace i2 := i2.below hb1; replace hb := hb.trans (hb1.mono hb.size); clear hb1; rw [← HQ.out] at j2 ⊢; rw [← HR.out] at j3 ⊢; try simp only [put_lit, List.set_cons_zero, List.set_cons_succ]
      refine ha_k (i := 4) rfl (by kernel_rfl) (by kernel_rfl) (by kernel_rfl) (fun _ _ _ _ h => h) hS rfl (fun K hK => ?_); go_simp; refine hK _ ?_; clear hK K; try simp only [put_lit, List.set_cons_zero, List.set_cons_succ]
      refine ha_k (i := 5) rfl (by kernel_rfl) (by kernel_rfl) (by kernel_rfl) (fun _ _ _ _ h => h) hS rfl (fun K hK => ?_); go_simp; refine hK _ ?_; clear hK K; try simp only [put_lit, List.set_cons_zero, List.set_cons_succ]
      refine ha_k (i := 6) rfl (by kernel_rfl) (by kernel_rfl) (by kernel_rfl) (fun _ _ _ _ h => h) hS rfl (fun K hK => ?_); go_simp; refine hK _ ?_; clear hK K; try simp only [put_lit, List.set_cons_zero, List.set_cons_succ]
      refine ha_store (i := 9) (by kernel_rfl) rfl rfl 84 _ _ rfl _ (iv q B2 d2) rfl rfl 84 _ hp12 info84 rfl (iv_one _ _ _) (hS.setNew (by omega) _) (fun hS => ?_); try simp only [put_lit, List.set_cons_zero, List.set_cons_succ]
      replace hb := below_setRow hb (g := p12) (by omega) (iv q B2 d2); replace h0 := hr_old (g := p12) (cs := iv q B2 d2) h0 (by omega); replace h8 := hr_old (g := p12) (cs := iv q B2 d2) h8 (by omega); replace hp10 := hr_old (g := p12) (cs := iv q B2 d2) hp10 (by omega); replace hp11 := hr_old (g := p12) (cs := iv q B2 d2) hp11 (by omega); replace hp13 := hr_old (g := p12) (cs := iv q B2 d2) hp13 (by omega); replace ix := ix.put hp12 (iv q B2 d2); replace i1 := i1.put hp12 (iv q B2 d2); replace i2 := i2.put hp12 (iv q B2 d2); replace j2 := j2.put hp12 (iv q B2 d2); replace j3 := j3.put hp12 (iv q B2 d2); replace hp12 := hr_new (cs := iv q B2 d2) hp12
      refine ha_store (i := 10) (by kernel_rfl) rfl rfl 84 _ _ rfl _ (iv r B3 d3) rfl rfl 84 _ hp13 info84 rfl (iv_one _ _ _) (hS.setNew (by omega) _) (fun hS => ?_); try simp only [put_lit, List.set_cons_zero, List.set_cons_succ]
      refine wpAnyH_done (by kernel_rfl) ?_ _
      replace hb := below_setRow hb (g := p13) (by omega) (iv r B3 d3); replace h0 := hr_old (g := p13) (cs := iv r B3 d3) h0 (by omega); replace h8 := hr_old (g := p13) (cs := iv r B3 d3) h8 (by omega); replace hp10 := hr_old (g := p13) (cs := iv r B3 d3) hp10 (by omega); replace hp11 := hr_old (g := p13) (cs := iv r B3 d3) hp11 (by omega); replace hp12 := hr_old (g := p13) (cs := iv r B3 d3) hp12 (by omega); replace ix := ix.put hp13 (iv r B3 d3); replace i1 := i1.put hp13 (iv r B3 d3); replace i2 := i2.put hp13 (iv r B3 d3); replace j2 := j2.put hp13 (iv r B3 d3); replace j3 := j3.put hp13 (iv r B3 d3); replace hp13 := hr_new (cs := iv r B3 d3) hp13
      exact tail p12 p13 _ _ _ _ _ _ _ _ _ _ _ _ _ _ _ _ _ _ _ _ _ _ _ _ _ _ _ _ _ _ _ _ _ _ _ _ _ _ _ _ _ _ _ _ _ _ _ _ _ _ _ _ _ (by omega) (by omega) (by omega) (by omega) (by omega) h0 h8 hp10 hp11 hp12 hp13 ix i1 i2 j3 hb
end Go.Proofs.Ytclainfdeghgnaa

namespace Go.Proofs.Ytclainfdeghgnaa
open Go.RowKit Go.Proofs.Ytclainfdeghgnaa.Nm Go.Proofs.Ytclainfdeghgnaa.Lm
theorem broughtI_any (x n : Int) (s : Bool) (m : ByteArray) (A : Option Addr) (c : Nat) (h1 : 1 ≤ n) (h2 : n ≤ 64) (w : World) (hI : IvAt w x A c) (nz : nl x.natAbs ≤ 390) (hm : Hid (isModeL m.data.toList = true)) (r er : Int) (HB : Hid (bringW n.toNat s m.toList x = (r, er))) :
    Calls Try.prog 69 #[.agg (iv x A c), .int .i64 n, .bool s, .string m] w fun e w' => ∃ A2 c2, e = .returned (.tuple #[.agg (iv r A2 c2), .int .i64 er]) ∧ IvAt w' r A2 c2 ∧ Below w.heap.size w w' := by
  have hB := HB.out
  have hM := hm.out
  unfold bringW at hB
  rw [ByteArray.toList_eq] at hB
  cases hh : hasW n.toNat s x
  · rw [hh] at hB
    simp only [Bool.false_eq_true, if_false] at hB
    unfold isModeL at hM
    simp only [Bool.or_eq_true, beq_iff_eq] at hM
    rcases hM with (h | h) | h
    · rw [h] at hB
      simp only [show isWrap [116, 114, 97, 112] = false by decide, show isTrap [116, 114, 97, 112] = true by decide, Bool.false_eq_true, if_false, if_true, Prod.mk.injEq] at hB
      obtain ⟨rfl, rfl⟩ := hB
      exact broughtI_trap x n s m A c h1 h2 w hI nz (Lib.hid hh) h
    · rw [h] at hB
      simp only [show isWrap [119, 114, 97, 112] = true by decide, if_true, Prod.mk.injEq] at hB
      obtain ⟨rfl, rfl⟩ := hB
      have e := wrap_of (bits := n.toNat) s x (by omega)
      have e2 : t2 n = ((2 ^ n.toNat : Nat) : Int) := rfl
      rw [← e2] at e
      refine broughtI_wrap x n s m A c h1 h2 w hI nz (Lib.hid hh) h _ _ _ _ (Lib.hid rfl) (Lib.hid rfl) (Lib.hid rfl) (Lib.hid fun hc => ?_) (Lib.hid fun hc => ?_)
      · rw [e, if_pos]
        rw [cz_def] at hc
        split at hc
        · omega
        · split at hc <;> omega
      · rw [e, if_neg]
        rw [cz_def] at hc
        split at hc
        · omega
        · split at hc <;> omega
    · rw [h] at hB
      simp only [show isWrap [99, 108, 97, 109, 112] = false by decide, show isTrap [99, 108, 97, 109, 112] = false by decide, Bool.false_eq_true, if_false] at hB
      by_cases hl : x < loW n.toNat s
      · rw [if_pos hl, Prod.mk.injEq] at hB
        obtain ⟨rfl, rfl⟩ := hB
        exact broughtI_low x n s m A c h1 h2 w hI nz (Lib.hid hh) h (Lib.hid (by rw [cz_def, if_pos hl]))
      · rw [if_neg hl, Prod.mk.injEq] at hB
        obtain ⟨rfl, rfl⟩ := hB
        refine broughtI_high x n s m A c h1 h2 w hI nz (Lib.hid hh) h _ (Lib.hid rfl) ?_
        rw [cz_def, if_neg hl]
        split <;> omega
  · rw [hh, if_pos rfl, Prod.mk.injEq] at hB
    obtain ⟨rfl, rfl⟩ := hB
    exact broughtI_has x n s m A c h1 h2 w hI nz (Lib.hid hh)
set_option maxHeartbeats 1000000 in
theorem isModeI_any (m : ByteArray) (R : Bool) (HR : Hid (R = isModeL m.data.toList)) (w : World) :
    Calls Try.prog 65 #[.string m] w fun e w' => e = .returned (.bool R) ∧ Below w.heap.size w w' := by
  have hu : R = (m.data.toList == [116, 114, 97, 112] || m.data.toList == [119, 114, 97, 112] || m.data.toList == [99, 108, 97, 109, 112]) := HR.out
  rw [hu]
  clear hu HR
  have e (l : List UInt8) : (m.toList == l) = (m.data.toList == l) := by rw [ByteArray.toList_eq]
  rw [← e, ← e, ← e]
  clear e
  cases h1 : (m.toList == [116, 114, 97, 112])
  · cases h2 : (m.toList == [119, 114, 97, 112])
    · cases h3 : (m.toList == [99, 108, 97, 109, 112])
      · go_enter Try.func65, Try.ntmps65
        go_wp2_with fail
        go_ret
        exact ⟨rfl, Below.refl _ _⟩
      · go_enter Try.func65, Try.ntmps65
        go_wp2_with fail
        go_ret
        exact ⟨rfl, Below.refl _ _⟩
    · go_enter Try.func65, Try.ntmps65
      go_wp2_with fail
      go_ret
      exact ⟨rfl, Below.refl _ _⟩
  · go_enter Try.func65, Try.ntmps65
    go_wp2_with fail
    go_ret
    exact ⟨rfl, Below.refl _ _⟩
theorem u9t : Try.prog.underlying 9 = some .string := by kernel_rfl
end Go.Proofs.Ytclainfdeghgnaa
