/- Format of the program. What the rows of this seat share: arguments taken out of a row's input; what the listed variables hold. Normal of the document. Format of the document. The law NumberNormal. -/
import Derived.Lib.AppendIntMem
import Derived.Test.YtclainfdeghgnaaDoorPN6
import Derived.Test.YtclainfdeghgnaaDoorRows
import Derived.Test.YtclainfdeghgnaaDoorTie
import Derived.ProofKit
import Derived.LaidMore
import Derived.OpenShut
import Derived.Stop.Joined
import Derived.SevenTiedAt
import Derived.Lib.SmallJoins
import Derived.Deep.Strs
import Derived.Carry
import Derived.IntWalk
import Derived.Lib.LaidTab
import Derived.MakeChecks
import Derived.Stop.LaidErr
namespace Go.Proofs.YtclainfdeghgnaaDoor
open Go.RowKit Go.Proofs.YtclainfdeghgnaaDoor.Nm
set_option linter.unusedSimpArgs false
/-- strconv's table of powers stands. -/
def TabW (w : World) : Prop := Lib.TabIs Tryd.prog w "internal/strconv.uint64pow10" .u64 Lib.pow10Tab
theorem TabW.old {w w' : World} (h : TabW w) (hb : Below w.heap.size w w') : TabW w' := by
  unfold TabW Lib.TabIs World.var? at *
  cases hg : Tryd.prog.globalNamed "internal/strconv.uint64pow10" with
  | none => simp [hg] at h
  | some g =>
    simp only [hg, Option.bind_some] at h ⊢
    have hlt : g < w.heap.size := by
      rcases Nat.lt_or_ge g w.heap.size with h' | h'
      · exact h'
      · rw [Array.getElem?_eq_none h'] at h; simp at h
    rw [hb.block g hlt]
    exact h
theorem Itoa_any (u : Int) (h0 : -9223372036854775808 ≤ u) (h1 : u ≤ 9223372036854775807) (w : World) (ht : TabW w) : Calls Tryd.prog 15 #[.int .i64 u] w fun e w' => e = .returned (.string ⟨(Lib.itoa u).toArray⟩) ∧ Below w.heap.size w w' :=
  (Tryd.strconv_Itoa u h0 h1 w ht).mono fun e w' ⟨h, k, os, e2⟩ => ⟨h, by rw [e2]; exact Lib.below_grow _ _ (Nat.le_refl _) _ _⟩
def fmV (u k : Int) : Value := if okD u k = true then .tuple #[.string ⟨(fmtL u k.toNat).toArray⟩, .int .i64 0] else .tuple #[.string ⟨#[]⟩, .int .i64 4]
theorem fm_bad {u k : Int} (h : okD u k = false) : fmV u k = .tuple #[.string ⟨#[]⟩, .int .i64 4] := by unfold fmV; rw [h]; rfl
theorem fm_good {u k : Int} (h : okD u k = true) {m : ByteArray} (e : m.data.toList = fmtL u k.toNat) : fmV u k = .tuple #[.string m, .int .i64 0] := by
  unfold fmV
  rw [if_pos h, ← e]
/-- Digits with some zeros ahead, no more than wanted. -/
def PadS (m : ByteArray) (k : Nat) (D : List UInt8) : Prop := ∃ j, m.data.toList = List.replicate j 48 ++ D ∧ (j = 0 ∨ j + D.length ≤ k + 1)
theorem PadS.start {m : ByteArray} (k : Nat) {D : List UInt8} (h : m.data.toList = D) : PadS m k D := ⟨0, by simpa using h, .inl rfl⟩
theorem bsize (m : ByteArray) : m.size = m.data.toList.length := by rw [Array.length_toList]; rfl
theorem PadS.step {m : ByteArray} {k : Nat} {D : List UInt8} (h : PadS m k D) (hk : m.size ≤ k) : PadS ((⟨#[48]⟩ : ByteArray) ++ m) k D := by
  obtain ⟨j, e, -⟩ := h
  refine ⟨j + 1, ?_, .inr ?_⟩
  · rw [ByteArray.data_append, Array.toList_append, e]; rfl
  · rw [bsize, e] at hk
    simp at hk; omega
theorem PadS.done {m : ByteArray} {k : Nat} {D : List UInt8} (h : PadS m k D) (hk : ¬ m.size ≤ k) : m.data.toList = padW k D := by
  obtain ⟨j, e, h2⟩ := h
  rw [bsize, e] at hk
  simp at hk
  rw [e]
  unfold padW
  congr 2
  omega
theorem itoa_tail {u : Int} (h : u < 0) {m : ByteArray} (hm : m.data.toList = Lib.itoa u) : 1 ≤ m.size ∧ (m.extract 1 m.size).data.toList = Lib.decDigits u.natAbs := by
  rw [itoa_sg] at hm
  unfold sgL at hm
  rw [if_pos h] at hm
  constructor
  · rw [bsize, hm]; simp
  · rw [ByteArray.data_extract, Array.toList_extract, hm, bsize, hm]
    simp
def strSz : Value → Nat
  | .string m => m.size
  | _ => 0
theorem fm_goodN {u : Int} {k : Nat} (h : okD u k = true) {m : ByteArray} (e : m.data.toList = fmtL u k) : fmV u k = .tuple #[.string m, .int .i64 0] := fm_good h (by rw [e]; rfl)
theorem fm_good0 {u : Int} {k : Nat} (h0 : k = 0) (h : okD u k = true) {m : ByteArray} (e : m.data.toList = fmtL u k) : fmV u 0 = .tuple #[.string m, .int .i64 0] := by
  have := fm_goodN h e
  subst h0
  exact this
theorem fmt0 {u : Int} {k : Nat} (h0 : k = 0) {sg m : ByteArray} (hs : sg.data.toList = sgL u) (hm : m.data.toList = padW k (Lib.decDigits u.natAbs)) : (sg ++ m).data.toList = fmtL u k := by
  subst h0
  rw [ByteArray.data_append, Array.toList_append, hs, hm]; rfl
theorem fmt1 {u : Int} {k n : Nat} {sg m : ByteArray} (hk : k ≠ 0) (hs : sg.data.toList = sgL u) (hm : m.data.toList = padW k (Lib.decDigits u.natAbs)) (hn : m.size = n + k) : (((sg ++ m.extract 0 n) ++ ⟨#[46]⟩) ++ m.extract n m.size).data.toList = fmtL u k := by
  rw [ByteArray.data_append, Array.toList_append, ByteArray.data_append, Array.toList_append, ByteArray.data_append, Array.toList_append, hs]
  have e1 : (m.extract 0 n).data.toList = (padW k (Lib.decDigits u.natAbs)).take n := by
    rw [ByteArray.data_extract, Array.toList_extract, hm]; simp
  have e2 : (m.extract n m.size).data.toList = (padW k (Lib.decDigits u.natAbs)).drop n := by
    rw [ByteArray.data_extract, Array.toList_extract, hm, bsize, hm]; simp only [List.extract_eq_take_drop]; exact List.take_of_length_le (by rw [List.length_drop]; exact Nat.le_refl _)
  rw [e1, e2]
  rw [bsize, hm] at hn
  unfold fmtL bodyL
  rw [if_neg hk, hn, Nat.add_sub_cancel]
  simp
theorem PadS.bound {m : ByteArray} {k : Nat} {D : List UInt8} (h : PadS m k D) (hk : (k : Int) ≤ 9) (hD : D.length ≤ 18) : m.size ≤ 18 := by
  obtain ⟨j, e, h2⟩ := h
  rw [bsize, e]
  simp
  omega
theorem digs18 {u : Int} (h1 : -100000000000000000 ≤ u) (h2 : u ≤ 100000000000000000) : (Lib.decDigits u.natAbs).length ≤ 18 := digs_len (m := 17) (by omega)
theorem sg_neg {u : Int} (h : u < 0) : (⟨#[45]⟩ : ByteArray).data.toList = sgL u := by unfold sgL; rw [if_pos h]
theorem sg_pos {u : Int} (h : ¬ u < 0) : (⟨#[]⟩ : ByteArray).data.toList = sgL u := by unfold sgL; rw [if_neg h]
theorem itoa_pos {u : Int} (h : ¬ u < 0) {m : ByteArray} (hm : m.data.toList = Lib.itoa u) : m.data.toList = Lib.decDigits u.natAbs := by
  rw [hm, itoa_sg]; unfold sgL; rw [if_neg h]; rfl
set_option maxHeartbeats 4000000 in
set_option maxRecDepth 100000 in
theorem Format_any (u k : Int) (w : World) (ht : TabW w) : Calls Tryd.prog 7 #[.agg (dc u k)] w fun e w' => e = .returned (fmV u k) ∧ Below w.heap.size w w' := by
  have HTB := Lib.hid ht
  have hb := Below.refl w.heap.size w
  clear ht
  go_enter Tryd.func7, Tryd.ntmps7
  go_upto_region 0 with (fail)
  apply wp_region_lit
  (with_reducible refine wl_boxD rfl ?_); intro W p hbn hlp hp; replace hb := hb.trans (hbn.mono hb.size); clear hbn; simp only [put_lit, List.set_cons_zero, List.set_cons_succ]
  (with_reducible refine wl_k ?_ ?_); exact rfl; intro K hK; go_simp; refine hK _ ?_; clear hK K
  (with_reducible refine wl_k ?_ ?_); exact rfl; intro K hK; go_simp; refine hK _ ?_; clear hK K
  obtain ⟨R, hR⟩ : ∃ R, R = validD u k := ⟨_, rfl⟩
  have HR := Lib.hid hR
  clear hR
  go_upto_region 1 with (fail)
  apply wp_region_lit
  ((with_reducible apply wl_rowG); exact rfl; exact rfl; exact rowDc hp)
  have lthpg := heap_lt hp; (with_reducible refine wl_bsD rfl ?_); intro W3 g hbn hlg hg; replace hp := below_look hbn hp; replace hb := hb.trans (hbn.mono hb.size); clear hbn; simp only [put_lit, List.set_cons_zero, List.set_cons_succ]
  (with_reducible refine wl_ck ?_ ?_); exact rfl; intro K hK; go_simp; refine ⟨_, _, ⟨rfl, rfl⟩, hK _ _ ⟨_, valid_one hg R HR.out, ?_⟩⟩; clear hK K; rintro e w4 ⟨rfl, hb4⟩; refine ⟨_, rfl, ?_⟩; simp only [put_lit, List.set_cons_zero, List.set_cons_succ]
  replace hp := below_look hb4 hp; replace hb := hb.trans (hb4.mono hb.size); clear hb4
  clear hg
  cases R with
  | false =>
    (with_reducible refine wl_k ?_ ?_); exact rfl; intro K hK; go_simp; refine hK _ ?_; clear hK K
    have HV := Lib.hid (fm_bad HR.out.symm)
    go_upto_region 2 with (fail)
    apply wp_region_lit
    (with_reducible refine wl_k ?_ ?_); exact rfl; intro K hK; go_simp; refine hK _ ?_; clear hK K
    (with_reducible refine wl_k ?_ ?_); exact rfl; intro K hK; go_simp; refine hK _ ?_; clear hK K
    go_wp2_with fail
    go_ret2
    exact ⟨by rw [HV.out]; rfl, hb⟩
  | true =>
    (with_reducible refine wl_k ?_ ?_); exact rfl; intro K hK; go_simp; refine hK _ ?_; clear hK K
    obtain ⟨k0, hk0⟩ : ∃ n : Nat, k = (n : Int) := ⟨k.toNat, by have := (okD_iff.1 HR.out.symm).2.2.1; omega⟩
    subst hk0
    obtain ⟨n1, n2, -, n4⟩ := okD_iff.1 HR.out.symm
    have HO := Lib.hid (show okD u k0 = true from HR.out.symm)
    obtain ⟨m, hm⟩ : ∃ m : ByteArray, m = ⟨(Lib.itoa u).toArray⟩ := ⟨_, rfl⟩
    have HM : Hid (m.data.toList = Lib.itoa u) := Lib.hid (by rw [hm])
    have hit := Itoa_any u (by omega) (by omega) w4 (HTB.out.old hb)
    rw [← hm] at hit
    have HI := Lib.hid hit
    clear hit hm
    go_upto_region 3 with (fail)
    apply wp_region_lit
    (with_reducible refine wl_k ?_ ?_); exact rfl; intro K hK; go_simp; refine hK _ ?_; clear hK K
    ((with_reducible apply wl_oneG); exact rfl; exact rfl; exact fD0 hp)
    (with_reducible refine wl_ck ?_ ?_); exact rfl; intro K hK; go_simp; refine ⟨_, _, ⟨rfl, rfl⟩, hK _ _ ⟨_, HI.out, ?_⟩⟩; clear hK K; rintro e w5 ⟨rfl, hb5⟩; refine ⟨_, rfl, ?_⟩; simp only [put_lit, List.set_cons_zero, List.set_cons_succ]
    replace hp := below_look hb5 hp; replace hb := hb.trans (hb5.mono hb.size); clear hb5
    clear HI
    (with_reducible refine wl_k ?_ ?_); exact rfl; intro K hK; go_simp; refine hK _ ?_; clear hK K
    (with_reducible refine wl_k ?_ ?_); exact rfl; intro K hK; go_simp; refine hK _ ?_; clear hK K
    go_upto_region 4 with (fail)
    by_cases hu : u < 0
    · apply wp_region_lit
      (with_reducible refine wl_k ?_ ?_); exact rfl; intro K hK; go_simp; refine hK _ ?_; clear hK K
      ((with_reducible apply wl_oneG); exact rfl; exact rfl; exact fD0 hp)
      (with_reducible refine wl_k ?_ ?_); exact rfl; intro K hK; go_simp; refine hK _ ?_; clear hK K
      obtain ⟨hm1, hm2⟩ := itoa_tail hu HM.out
      have hmI : (1 : Int) ≤ (m.size : Int) := by omega
      have HS := Lib.hid (sg_neg hu)
      go_upto_region 5 with (fail)
      refine wp_region_belowAll mixed (by kernel_rfl) ?_
      (with_reducible refine wq_k ?_ ?_); exact rfl; intro K hK; go_simp; (with_reducible refine hK _ ?_); clear hK K
      (with_reducible refine wq_k ?_ ?_); exact rfl; intro K hK; go_simp; (with_reducible refine hK _ ?_); clear hK K
      (with_reducible refine wq_k ?_ ?_); exact rfl; intro K hK; go_simp; (with_reducible refine hK _ ?_); clear hK K
      (with_reducible refine wq_k ?_ ?_); exact rfl; intro K hK; go_simp; (with_reducible refine hK _ ?_); clear hK K
      intro w' hw'
      replace hp := below_look hw' hp
      replace hb := hb.trans (hw'.mono hb.size)
      have HW := Lib.hid hm2
      clear hm2 HM hw' hmI hm1
      go_wp2_with fail
      go_loopw [5] (fun v wr => ∃ m' : ByteArray, v = .string m' ∧ Hid (PadS m' k0 (Lib.decDigits u.natAbs)) ∧ wr.heap[p]? = some (.cells (dc u (k0 : Int)) 23 (0, 0)) ∧ Below w.heap.size w wr) (fun v _ => k0 + 1 - strSz v)
      case atStart => exact ⟨_, rfl, Lib.hid (PadS.start k0 HW.out), hp, hb⟩
      case round =>
        clear hp hb HW
        obtain ⟨m', rfl, HPD, hp, hb⟩ := hrel
        have hsz := HPD.out.bound n4 (digs18 n1 n2)
        have hc0 : ¬ 9223372036854775807 < m'.size := by omega
        have hc1 : ¬ 9223372036854775807 < 1 + m'.size := by omega
        go_upto_region 6 with (fail)
        by_cases hle : m'.size ≤ k0
        · have hleI : (m'.size : Int) ≤ (k0 : Int) := by omega
          apply wp_region_lit
          (with_reducible refine wl_k ?_ ?_); exact rfl; intro K hK; go_simp; refine hK _ ?_; clear hK K
          (with_reducible refine wl_k ?_ ?_); exact rfl; intro K hK; go_simp; refine hK _ ?_; clear hK K
          (with_reducible refine wl_k ?_ ?_); exact rfl; intro K hK; go_simp; refine hK _ ?_; clear hK K
          ((with_reducible apply wl_oneG); exact rfl; exact rfl; exact fD1 hp)
          (with_reducible refine wl_k ?_ ?_); exact rfl; intro K hK; go_simp; refine hK _ ?_; clear hK K
          have HN := Lib.hid (HPD.out.step hle)
          have HMS : Hid (k0 + 1 - ((⟨#[48]⟩ : ByteArray) ++ m').size < k0 + 1 - m'.size) := Lib.hid (by rw [ByteArray.size_append]; show k0 + 1 - (1 + m'.size) < _; omega)
          go_upto_region 7 with (fail)
          apply wp_region_lit
          (with_reducible refine wl_k ?_ ?_); exact rfl; intro K hK; go_simp; refine hK _ ?_; clear hK K
          (with_reducible refine wl_k ?_ ?_); exact rfl; intro K hK; go_simp; refine hK _ ?_; clear hK K
          (with_reducible refine wl_k ?_ ?_); exact rfl; intro K hK; go_simp; refine hK _ ?_; clear hK K
          go_wp2_with fail
          go_roundw
          case rel => exact ⟨_, rfl, HN, hp, hb⟩
          case measure => exact HMS.out
        · have hleI : ¬ (m'.size : Int) ≤ (k0 : Int) := by omega
          apply wp_region_lit
          (with_reducible refine wl_k ?_ ?_); exact rfl; intro K hK; go_simp; refine hK _ ?_; clear hK K
          (with_reducible refine wl_k ?_ ?_); exact rfl; intro K hK; go_simp; refine hK _ ?_; clear hK K
          (with_reducible refine wl_k ?_ ?_); exact rfl; intro K hK; go_simp; refine hK _ ?_; clear hK K
          ((with_reducible apply wl_oneG); exact rfl; exact rfl; exact fD1 hp)
          (with_reducible refine wl_k ?_ ?_); exact rfl; intro K hK; go_simp; refine hK _ ?_; clear hK K
          have HD : Hid (m'.data.toList = padW k0 (Lib.decDigits u.natAbs)) := Lib.hid (HPD.out.done hle)
          clear HPD
          go_upto_region 8 with (fail)
          by_cases h0 : k0 = 0
          · have h0I : (k0 : Int) = 0 := by omega
            apply wp_region_lit
            (with_reducible refine wl_k ?_ ?_); exact rfl; intro K hK; go_simp; refine hK _ ?_; clear hK K
            ((with_reducible apply wl_oneG); exact rfl; exact rfl; exact fD1 hp)
            (with_reducible refine wl_k ?_ ?_); exact rfl; intro K hK; go_simp; refine hK _ ?_; clear hK K
            go_upto_region 9 with (fail)
            apply wp_region_lit
            (with_reducible refine wl_k ?_ ?_); exact rfl; intro K hK; go_simp; refine hK _ ?_; clear hK K
            (with_reducible refine wl_k ?_ ?_); exact rfl; intro K hK; go_simp; refine hK _ ?_; clear hK K
            (with_reducible refine wl_k ?_ ?_); exact rfl; intro K hK; go_simp; refine hK _ ?_; clear hK K
            (with_reducible refine wl_k ?_ ?_); exact rfl; intro K hK; go_simp; refine hK _ ?_; clear hK K
            (with_reducible refine wl_k ?_ ?_); exact rfl; intro K hK; go_simp; refine hK _ ?_; clear hK K
            have HV := Lib.hid (fm_good0 h0 HO.out (m := (⟨#[45]⟩ : ByteArray) ++ m') (fmt0 h0 HS.out HD.out))
            go_wp2_with fail
            go_ret2
            exact ⟨by rw [HV.out]; rfl, hb⟩
          · have h0I : ¬ (k0 : Int) = 0 := by omega
            apply wp_region_lit
            (with_reducible refine wl_k ?_ ?_); exact rfl; intro K hK; go_simp; refine hK _ ?_; clear hK K
            ((with_reducible apply wl_oneG); exact rfl; exact rfl; exact fD1 hp)
            (with_reducible refine wl_k ?_ ?_); exact rfl; intro K hK; go_simp; refine hK _ ?_; clear hK K
            go_upto_region 10 with (fail)
            obtain ⟨n, hn⟩ : ∃ n, m'.size = n + k0 := ⟨m'.size - k0, by omega⟩
            have hwq : IntKind.i64.wrap ((m'.size : Int) - (k0 : Int)) = (n : Int) := by rw [hn]; rw [IntWalk.i64_in _ (by omega)]; omega
            have hnI : (n : Int) ≤ (m'.size : Int) := by omega
            have HNN := Lib.hid hn
            clear hn
            apply wp_region_lit
            (with_reducible refine wl_k ?_ ?_); exact rfl; intro K hK; go_simp; refine hK _ ?_; clear hK K
            (with_reducible refine wl_k ?_ ?_); exact rfl; intro K hK; go_simp; refine hK _ ?_; clear hK K
            (with_reducible refine wl_k ?_ ?_); exact rfl; intro K hK; go_simp; refine hK _ ?_; clear hK K
            ((with_reducible apply wl_oneG); exact rfl; exact rfl; exact fD1 hp)
            (with_reducible refine wl_k ?_ ?_); exact rfl; intro K hK; go_simp; refine hK _ ?_; clear hK K
            (with_reducible refine wl_k ?_ ?_); exact rfl; intro K hK; go_simp; refine hK _ ?_; clear hK K
            go_upto_region 11 with (fail)
            refine wp_region_belowAll mixed (by kernel_rfl) ?_
            (with_reducible refine wq_k ?_ ?_); exact rfl; intro K hK; go_simp; (with_reducible refine hK _ ?_); clear hK K
            (with_reducible refine wq_k ?_ ?_); exact rfl; intro K hK; go_simp; (with_reducible refine hK _ ?_); clear hK K
            (with_reducible refine wq_k ?_ ?_); exact rfl; intro K hK; go_simp; (with_reducible refine hK _ ?_); clear hK K
            (with_reducible refine wq_k ?_ ?_); exact rfl; intro K hK; go_simp; (with_reducible refine hK _ ?_); clear hK K
            (with_reducible refine wq_k ?_ ?_); exact rfl; intro K hK; go_simp; (first | (with_reducible refine hK _ ?_) | (refine ⟨_, fun w => if_neg (by omega), hK _ ?_⟩)); clear hK K
            (with_reducible refine wq_k ?_ ?_); exact rfl; intro K hK; go_simp; (first | (with_reducible refine hK _ ?_) | (refine ⟨_, fun w => if_neg (by omega), hK _ ?_⟩)); clear hK K
            (with_reducible refine wq_k ?_ ?_); exact rfl; intro K hK; go_simp; (with_reducible refine hK _ ?_); clear hK K
            (with_reducible refine wq_k ?_ ?_); exact rfl; intro K hK; go_simp; (with_reducible refine hK _ ?_); clear hK K
            (with_reducible refine wq_k ?_ ?_); exact rfl; intro K hK; go_simp; (with_reducible refine hK _ ?_); clear hK K
            (with_reducible refine wq_k ?_ ?_); exact rfl; intro K hK; go_simp; (first | (with_reducible refine hK _ ?_) | (refine ⟨_, fun w => if_neg (by omega), hK _ ?_⟩)); clear hK K
            (with_reducible refine wq_k ?_ ?_); exact rfl; intro K hK; go_simp; (with_reducible refine hK _ ?_); clear hK K
            (with_reducible refine wq_k ?_ ?_); exact rfl; intro K hK; go_simp; (with_reducible refine hK _ ?_); clear hK K
            intro w' hw'
            replace hb := hb.trans (hw'.mono hb.size)
            have HV := Lib.hid (fm_goodN HO.out (fmt1 (sg := (⟨#[45]⟩ : ByteArray)) h0 HS.out HD.out HNN.out))
            go_wp2_with fail
            go_ret2
            exact ⟨by rw [HV.out]; rfl, hb⟩
    · apply wp_region_lit
      (with_reducible refine wl_k ?_ ?_); exact rfl; intro K hK; go_simp; refine hK _ ?_; clear hK K
      ((with_reducible apply wl_oneG); exact rfl; exact rfl; exact fD0 hp)
      (with_reducible refine wl_k ?_ ?_); exact rfl; intro K hK; go_simp; refine hK _ ?_; clear hK K
      have HS := Lib.hid (sg_pos hu)
      have HW := Lib.hid (itoa_pos hu HM.out)
      clear HM
      go_wp2_with fail
      go_loopw [5] (fun v wr => ∃ m' : ByteArray, v = .string m' ∧ Hid (PadS m' k0 (Lib.decDigits u.natAbs)) ∧ wr.heap[p]? = some (.cells (dc u (k0 : Int)) 23 (0, 0)) ∧ Below w.heap.size w wr) (fun v _ => k0 + 1 - strSz v)
      case atStart => exact ⟨_, rfl, Lib.hid (PadS.start k0 HW.out), hp, hb⟩
      case round =>
        clear hp hb HW
        obtain ⟨m', rfl, HPD, hp, hb⟩ := hrel
        have hsz := HPD.out.bound n4 (digs18 n1 n2)
        have hc0 : ¬ 9223372036854775807 < m'.size := by omega
        have hc1 : ¬ 9223372036854775807 < 1 + m'.size := by omega
        go_upto_region 6 with (fail)
        by_cases hle : m'.size ≤ k0
        · have hleI : (m'.size : Int) ≤ (k0 : Int) := by omega
          apply wp_region_lit
          (with_reducible refine wl_k ?_ ?_); exact rfl; intro K hK; go_simp; refine hK _ ?_; clear hK K
          (with_reducible refine wl_k ?_ ?_); exact rfl; intro K hK; go_simp; refine hK _ ?_; clear hK K
          (with_reducible refine wl_k ?_ ?_); exact rfl; intro K hK; go_simp; refine hK _ ?_; clear hK K
          ((with_reducible apply wl_oneG); exact rfl; exact rfl; exact fD1 hp)
          (with_reducible refine wl_k ?_ ?_); exact rfl; intro K hK; go_simp; refine hK _ ?_; clear hK K
          have HN := Lib.hid (HPD.out.step hle)
          have HMS : Hid (k0 + 1 - ((⟨#[48]⟩ : ByteArray) ++ m').size < k0 + 1 - m'.size) := Lib.hid (by rw [ByteArray.size_append]; show k0 + 1 - (1 + m'.size) < _; omega)
          go_upto_region 7 with (fail)
          apply wp_region_lit
          (with_reducible refine wl_k ?_ ?_); exact rfl; intro K hK; go_simp; refine hK _ ?_; clear hK K
          (with_reducible refine wl_k ?_ ?_); exact rfl; intro K hK; go_simp; refine hK _ ?_; clear hK K
          (with_reducible refine wl_k ?_ ?_); exact rfl; intro K hK; go_simp; refine hK _ ?_; clear hK K
          go_wp2_with fail
          go_roundw
          case rel => exact ⟨_, rfl, HN, hp, hb⟩
          case measure => exact HMS.out
        · have hleI : ¬ (m'.size : Int) ≤ (k0 : Int) := by omega
          apply wp_region_lit
          (with_reducible refine wl_k ?_ ?_); exact rfl; intro K hK; go_simp; refine hK _ ?_; clear hK K
          (with_reducible refine wl_k ?_ ?_); exact rfl; intro K hK; go_simp; refine hK _ ?_; clear hK K
          (with_reducible refine wl_k ?_ ?_); exact rfl; intro K hK; go_simp; refine hK _ ?_; clear hK K
          ((with_reducible apply wl_oneG); exact rfl; exact rfl; exact fD1 hp)
          (with_reducible refine wl_k ?_ ?_); exact rfl; intro K hK; go_simp; refine hK _ ?_; clear hK K
          have HD : Hid (m'.data.toList = padW k0 (Lib.decDigits u.natAbs)) := Lib.hid (HPD.out.done hle)
          clear HPD
          go_upto_region 8 with (fail)
          by_cases h0 : k0 = 0
          · have h0I : (k0 : Int) = 0 := by omega
            apply wp_region_lit
            (with_reducible refine wl_k ?_ ?_); exact rfl; intro K hK; go_simp; refine hK _ ?_; clear hK K
            ((with_reducible apply wl_oneG); exact rfl; exact rfl; exact fD1 hp)
            (with_reducible refine wl_k ?_ ?_); exact rfl; intro K hK; go_simp; refine hK _ ?_; clear hK K
            go_upto_region 9 with (fail)
            apply wp_region_lit
            (with_reducible refine wl_k ?_ ?_); exact rfl; intro K hK; go_simp; refine hK _ ?_; clear hK K
            (with_reducible refine wl_k ?_ ?_); exact rfl; intro K hK; go_simp; refine hK _ ?_; clear hK K
            (with_reducible refine wl_k ?_ ?_); exact rfl; intro K hK; go_simp; refine hK _ ?_; clear hK K
            (with_reducible refine wl_k ?_ ?_); exact rfl; intro K hK; go_simp; refine hK _ ?_; clear hK K
            (with_reducible refine wl_k ?_ ?_); exact rfl; intro K hK; go_simp; refine hK _ ?_; clear hK K
            have HV := Lib.hid (fm_good0 h0 HO.out (m := (⟨#[]⟩ : ByteArray) ++ m') (fmt0 h0 HS.out HD.out))
            go_wp2_with fail
            go_ret2
            exact ⟨by rw [HV.out]; rfl, hb⟩
          · have h0I : ¬ (k0 : Int) = 0 := by omega
            apply wp_region_lit
            (with_reducible refine wl_k ?_ ?_); exact rfl; intro K hK; go_simp; refine hK _ ?_; clear hK K
            ((with_reducible apply wl_oneG); exact rfl; exact rfl; exact fD1 hp)
            (with_reducible refine wl_k ?_ ?_); exact rfl; intro K hK; go_simp; refine hK _ ?_; clear hK K
            go_upto_region 10 with (fail)
            obtain ⟨n, hn⟩ : ∃ n, m'.size = n + k0 := ⟨m'.size - k0, by omega⟩
            have hwq : IntKind.i64.wrap ((m'.size : Int) - (k0 : Int)) = (n : Int) := by rw [hn]; rw [IntWalk.i64_in _ (by omega)]; omega
            have hnI : (n : Int) ≤ (m'.size : Int) := by omega
            have HNN := Lib.hid hn
            clear hn
            apply wp_region_lit
            (with_reducible refine wl_k ?_ ?_); exact rfl; intro K hK; go_simp; refine hK _ ?_; clear hK K
            (with_reducible refine wl_k ?_ ?_); exact rfl; intro K hK; go_simp; refine hK _ ?_; clear hK K
            (with_reducible refine wl_k ?_ ?_); exact rfl; intro K hK; go_simp; refine hK _ ?_; clear hK K
            ((with_reducible apply wl_oneG); exact rfl; exact rfl; exact fD1 hp)
            (with_reducible refine wl_k ?_ ?_); exact rfl; intro K hK; go_simp; refine hK _ ?_; clear hK K
            (with_reducible refine wl_k ?_ ?_); exact rfl; intro K hK; go_simp; refine hK _ ?_; clear hK K
            go_upto_region 11 with (fail)
            refine wp_region_belowAll mixed (by kernel_rfl) ?_
            (with_reducible refine wq_k ?_ ?_); exact rfl; intro K hK; go_simp; (with_reducible refine hK _ ?_); clear hK K
            (with_reducible refine wq_k ?_ ?_); exact rfl; intro K hK; go_simp; (with_reducible refine hK _ ?_); clear hK K
            (with_reducible refine wq_k ?_ ?_); exact rfl; intro K hK; go_simp; (with_reducible refine hK _ ?_); clear hK K
            (with_reducible refine wq_k ?_ ?_); exact rfl; intro K hK; go_simp; (with_reducible refine hK _ ?_); clear hK K
            (with_reducible refine wq_k ?_ ?_); exact rfl; intro K hK; go_simp; (first | (with_reducible refine hK _ ?_) | (refine ⟨_, fun w => if_neg (by omega), hK _ ?_⟩)); clear hK K
            (with_reducible refine wq_k ?_ ?_); exact rfl; intro K hK; go_simp; (first | (with_reducible refine hK _ ?_) | (refine ⟨_, fun w => if_neg (by omega), hK _ ?_⟩)); clear hK K
            (with_reducible refine wq_k ?_ ?_); exact rfl; intro K hK; go_simp; (with_reducible refine hK _ ?_); clear hK K
            (with_reducible refine wq_k ?_ ?_); exact rfl; intro K hK; go_simp; (with_reducible refine hK _ ?_); clear hK K
            (with_reducible refine wq_k ?_ ?_); exact rfl; intro K hK; go_simp; (with_reducible refine hK _ ?_); clear hK K
            (with_reducible refine wq_k ?_ ?_); exact rfl; intro K hK; go_simp; (first | (with_reducible refine hK _ ?_) | (refine ⟨_, fun w => if_neg (by omega), hK _ ?_⟩)); clear hK K
            (with_reducible refine wq_k ?_ ?_); exact rfl; intro K hK; go_simp; (with_reducible refine hK _ ?_); clear hK K
            (with_reducible refine wq_k ?_ ?_); exact rfl; intro K hK; go_simp; (with_reducible refine hK _ ?_); clear hK K
            intro w' hw'
            replace hb := hb.trans (hw'.mono hb.size)
            have HV := Lib.hid (fm_goodN HO.out (fmt1 (sg := (⟨#[]⟩ : ByteArray)) h0 HS.out HD.out HNN.out))
            go_wp2_with fail
            go_ret2
            exact ⟨by rw [HV.out]; rfl, hb⟩
end Go.Proofs.YtclainfdeghgnaaDoor
namespace Go.Proofs.YtclainfdeghgnaaDoor
open Go.ChangeShapes Go.WideShapes Go.ChangeAt Go.RowKit
theorem own0 : ownKnob Tryd.prog.godebug = none := by kernel_rfl
theorem row_u3 : Tryd.prog.underlying 3 = some (.int .i64) := by kernel_rfl
theorem row_u4 : Tryd.prog.underlying 4 = some .bool := by kernel_rfl
theorem laidOut0 : laidOutB Tryd.prog = true := by kernel_rfl
theorem cells3 : Tryd.prog.cellsOf 3 = 1 := by kernel_rfl
def lay3 : List (String × DataW Unit) := [("math/bits.deBruijn32tab", Rows.laid_math_bits_deBruijn32tab), ("math/bits.deBruijn64tab", Rows.laid_math_bits_deBruijn64tab), ("internal/strconv.uint64pow10", Rows.laid_internal_strconv_uint64pow10)]
theorem lay3_met (os : Os) (args : Array Value) : laidMetH Tryd.prog lay3 ((World.doorLaid Tryd.prog 62 os).forCall (fun _ _ => 0) ⟨#[], args, []⟩).memory :=
  laidMetH_of_parts3 (fuel := 8) (laidMet_of_run' 8 (by kernel_rfl) (by kernel_rfl)) (by kernel_rfl) (by kernel_rfl)
theorem fields2 {fs : Array Field} {a b : Nat × Nat} (h : fs.toList.map (fun f => (f.type, f.offset)) = [a, b]) : ∃ f0 f1, fs = #[f0, f1] ∧ (f0.type, f0.offset) = a ∧ (f1.type, f1.offset) = b := by
  obtain ⟨l⟩ := fs
  match l, h with
  | [f0, f1], h => simp at h; exact ⟨f0, f1, rfl, by simp [h.1], by simp [h.2]⟩
theorem flds23 : (Tryd.prog.fieldsOf 23).toList.map (fun f => (f.type, f.offset)) = [(3, 0), (3, 1)] := by kernel_rfl
theorem u23r : Tryd.prog.underlying 23 = some (.struct (Tryd.prog.fieldsOf 23)) := by kernel_rfl
theorem cells23 : Tryd.prog.cellsOf 23 = 2 := by kernel_rfl
section
variable {H : Type} {enc : TypeId × Value → H} {w : World} {base b0 : Nat} {sp : Nat → Bool} {held : Bool} {r : Reach} {v : Value} {d : DataW H} {p : List MemPlace}
set_option maxRecDepth 100000 in
theorem open_dec (hv : Value.okWide Tryd.prog w r b0 23 v) (h : DataW.Trod enc Tryd.prog w base sp held 23 v d p) : ∃ u k : Int, v = .agg (dc u k) := by
  obtain ⟨cs, rfl, hsz⟩ := okWide_struct u23r hv
  obtain ⟨c0, c1, rfl⟩ := Joins.array2 (hsz.trans cells23)
  obtain ⟨fuel, hf⟩ := h
  obtain ⟨f0, f1, hfs, e0, e1⟩ := fields2 flds23
  simp only [Prod.mk.injEq] at e0 e1
  have hu := u23r
  rw [hfs] at hu
  obtain ⟨y0, y1, n, hx, _, h0, h1⟩ := trod_struct2 hu hf
  rw [e0.1, e0.2, cells3] at h0
  rw [e1.1, e1.2, cells3] at h1
  obtain ⟨u, hu', _, wu⟩ := DataW.trod_int row_u3 h0
  obtain ⟨k, hk', _, wk⟩ := DataW.trod_int row_u3 h1
  simp [Value.cells] at hu' hk'
  subst hu' hk'
  exact ⟨_, _, rfl⟩
end
theorem gT : Tryd.prog.globalNamed "internal/strconv.uint64pow10" = some 3 := by kernel_rfl
theorem gTType : (Tryd.prog.globals[3]?).map (·.type) = some 135 := by kernel_rfl
theorem u135 : Tryd.prog.underlying 135 = some (.array 20 55) := by kernel_rfl
theorem u55 : Tryd.prog.underlying 55 = some (.int .u64) := by kernel_rfl
theorem cells55 : Tryd.prog.cellsOf 55 = 1 := by kernel_rfl
theorem cells135 : Tryd.prog.cellsOf 135 = 20 := by kernel_rfl
theorem tab3 {W : World} (h : laidMetH Tryd.prog lay3 W) : TabW W := by
  rw [Go.MakeChecks.laidMetH_plain _ _ _ (by kernel_rfl)] at h
  have h2 : laidMet Tryd.prog [("internal/strconv.uint64pow10", Lib.tabData .u64 Lib.pow10Tab)] W := h.tail.tail
  exact Lib.tabIs_of_head gT gTType u135 u55 cells55 cells135 h2
end Go.Proofs.YtclainfdeghgnaaDoor
namespace Go.Proofs.YtclainfdeghgnaaDoor
open Go.RowKit Go.Proofs.YtclainfdeghgnaaDoor.Nm
set_option linter.unusedSimpArgs false
set_option maxHeartbeats 4000000 in
set_option maxRecDepth 100000 in
theorem NormalI_any (u k : Int) (w : World) : Calls Tryd.prog 6 #[.agg (dc u k)] w fun e w' => e = .returned (nrmV u k) ∧ Below w.heap.size w w' := by
  have hb := Below.refl w.heap.size w
  go_enter Tryd.func6, Tryd.ntmps6
  go_upto_region 0 with (fail)
  apply wp_region_lit
  (with_reducible refine wl_boxD rfl ?_); intro W p hbn hlp hp; replace hb := hb.trans (hbn.mono hb.size); clear hbn; simp only [put_lit, List.set_cons_zero, List.set_cons_succ]
  have lthpq := heap_lt hp; (with_reducible refine wl_allD ?_); intro W2 q hbn hlq hq; replace hp := below_look hbn hp; replace hb := hb.trans (hbn.mono hb.size); clear hbn; simp only [put_lit, List.set_cons_zero, List.set_cons_succ]
  (with_reducible refine wl_k ?_ ?_); exact rfl; intro K hK; go_simp; refine hK _ ?_; clear hK K
  obtain ⟨R, hR⟩ : ∃ R, R = validD u k := ⟨_, rfl⟩
  have HR := Lib.hid hR
  clear hR
  have hlp2 : w.heap.size ≤ p := by omega
  have hlq2 : w.heap.size ≤ q := by omega
  go_upto_region 1 with (fail)
  apply wp_region_lit
  ((with_reducible apply wl_rowG); exact rfl; exact rfl; exact rowDc hp)
  (with_reducible refine wl_ck ?_ ?_); exact rfl; intro K hK; go_simp; refine ⟨_, _, ⟨rfl, rfl⟩, hK _ _ ⟨_, ValidI_any u k R HR _, ?_⟩⟩; clear hK K; rintro e w4 ⟨rfl, hb4⟩; refine ⟨_, rfl, ?_⟩; simp only [put_lit, List.set_cons_zero, List.set_cons_succ]
  replace hp := below_look hb4 hp; replace hq := below_look hb4 hq; replace hb := hb.trans (hb4.mono hb.size); clear hb4
  cases R with
  | false =>
    (with_reducible refine wl_k ?_ ?_); exact rfl; intro K hK; go_simp; refine hK _ ?_; clear hK K
    have HV : Hid (Ending.returned (.tuple #[.agg (dc 0 0), .int .i64 4]) = Ending.returned (nrmV u k)) := Lib.hid (by rw [nrm_bad HR.out.symm])
    go_upto_region 2 with (fail)
    apply wp_region_lit
    (with_reducible refine wl_k ?_ ?_); exact rfl; intro K hK; go_simp; refine hK _ ?_; clear hK K
    (with_reducible refine wl_put33 (u := 0) (k := 0) rfl rfl hq ?_); intro W5 hbx5 hkx5 hq5
    replace hb := hbx5 _ _ hlq2 hb
    (with_reducible refine wl_k ?_ ?_); exact rfl; intro K hK; go_simp; refine hK _ ?_; clear hK K
    go_wp2_with fail
    refine bodyPost_ret (res_decErr rfl _ _ q rfl hq5) rfl ⟨?_, hb⟩
    exact HV.out
  | true =>
    (with_reducible refine wl_k ?_ ?_); exact rfl; intro K hK; go_simp; refine hK _ ?_; clear hK K
    obtain ⟨k0, hk0⟩ : ∃ n : Nat, k = (n : Int) := ⟨k.toNat, by have := (okD_iff.1 HR.out.symm).2.2.1; omega⟩
    subst hk0
    have hpq : p ≠ q := by have := heap_lt hp; omega
    have HO := Lib.hid (show okD u k0 = true from HR.out.symm)
    have HP := Lib.hid hp
    have HQ := Lib.hid hq
    have HB := Lib.hid hb
    clear hp hq hb
    go_wp2_with fail
    go_loopw [] (fun wr => ∃ (u' : Int) (k' : Nat), Hid (wr.heap[p]? = some (.cells (dc u' (k' : Int)) 23 (0, 0))) ∧ Hid (wr.heap[q]? = some (.cells (dc 0 0) 23 (0, 0))) ∧ Hid (normP u k0 = normP u' k') ∧ Hid (okD u' k' = true) ∧ Hid (Below w.heap.size w wr)) (fun wr => kOf wr p)
    case atStart => exact ⟨u, k0, HP, HQ, Lib.hid rfl, HO, HB⟩
    case round =>
      clear HP HQ HB
      obtain ⟨u', k', HP, HQ, HN, HK, HB⟩ := hrel
      obtain ⟨n1, n2, -, n4⟩ := okD_iff.1 HK.out
      have hp := HP.out
      go_upto_region 3 with (fail)
      by_cases hk : 0 < k'
      · have hkI : (0 : Int) < (k' : Int) := by omega
        by_cases hm : u'.tmod 10 = 0
        · obtain ⟨d1, d2⟩ := tdiv_bd n1 n2
          have hw1 : IntKind.i64.wrap ((k' : Int) - 1) = (k' : Int) - 1 := IntWalk.i64_in _ (by omega)
          have hwq : IntKind.i64.wrap (u'.tdiv 10) = u'.tdiv 10 := IntWalk.i64_in _ (by omega)
          apply wp_region_lit
          (with_reducible refine wl_k ?_ ?_); exact rfl; intro K hK; go_simp; refine hK _ ?_; clear hK K
          ((with_reducible apply wl_oneG); exact rfl; exact rfl; exact fD1 hp)
          (with_reducible refine wl_k ?_ ?_); exact rfl; intro K hK; go_simp; refine hK _ ?_; clear hK K
          (with_reducible refine wl_k ?_ ?_); exact rfl; intro K hK; go_simp; refine hK _ ?_; clear hK K
          (with_reducible refine wl_k ?_ ?_); exact rfl; intro K hK; go_simp; refine hK _ ?_; clear hK K
          ((with_reducible apply wl_oneG); exact rfl; exact rfl; exact fD0 hp)
          (with_reducible refine wl_k ?_ ?_); exact rfl; intro K hK; go_simp; refine hK _ ?_; clear hK K
          (with_reducible refine wl_k ?_ ?_); exact rfl; intro K hK; go_simp; refine hK _ ?_; clear hK K
          (with_reducible refine wl_k ?_ ?_); exact rfl; intro K hK; go_simp; refine hK _ ?_; clear hK K
          go_upto_region 4 with (fail)
          apply wp_region_lit
          (with_reducible refine wl_k ?_ ?_); exact rfl; intro K hK; go_simp; refine hK _ ?_; clear hK K
          ((with_reducible apply wl_oneG); exact rfl; exact rfl; exact fD0 hp)
          (with_reducible refine wl_k ?_ ?_); exact rfl; intro K hK; go_simp; refine hK _ ?_; clear hK K
          (with_reducible refine wl_k ?_ ?_); exact rfl; intro K hK; go_simp; refine hK _ ?_; clear hK K
          ((with_reducible apply wl_oneG); exact rfl; exact rfl; exact fD1 hp)
          (with_reducible refine wl_k ?_ ?_); exact rfl; intro K hK; go_simp; refine hK _ ?_; clear hK K
          (with_reducible refine wl_k ?_ ?_); exact rfl; intro K hK; go_simp; refine hK _ ?_; clear hK K
          (with_reducible refine wl_fldU rfl rfl hp ?_); intro W5 hbx5 hkx5 hp5
          (with_reducible refine wl_k ?_ ?_); exact rfl; intro K hK; go_simp; refine hK _ ?_; clear hK K
          (with_reducible refine wl_fldK rfl rfl hp5 ?_); intro W6 hbx6 hkx6 hp6
          obtain ⟨j, rfl⟩ : ∃ j, k' = j + 1 := ⟨k' - 1, by omega⟩
          have e1 : ((j + 1 : Nat) : Int) - 1 = (j : Int) := by omega
          rw [e1] at hp6
          have hq6 := hkx6 _ _ hpq.symm (hkx5 _ _ hpq.symm HQ.out)
          have hb6 := hbx6 _ _ hlp2 (hbx5 _ _ hlp2 HB.out)
          have hN6 : normP u k0 = normP (u'.tdiv 10) j := by rw [HN.out, normP_step hk hm]; rfl
          have hK6 : okD (u'.tdiv 10) (j : Int) = true := okD_iff.2 ⟨by omega, by omega, by omega, by omega⟩
          have hM : kOf W6 p < kOf wr p := by rw [kOf_dc hp6, kOf_dc hp]; omega
          have HP6 := Lib.hid hp6
          have HQ6 := Lib.hid hq6
          have HB6 := Lib.hid hb6
          have HN6 := Lib.hid hN6
          have HK6 := Lib.hid hK6
          have HM := Lib.hid hM
          clear hwq hp6 hq6 hb6 hN6 hK6 hM e1 hw1 hp hp5 hbx5 hkx5 hbx6 hkx6 HP HQ HN HK HB
          go_wp2_with fail
          go_roundw
          case rel => exact ⟨_, j, HP6, HQ6, HN6, HK6, HB6⟩
          case measure => exact HM.out
        · have HF : Hid (normP u' k' = (u', k')) := Lib.hid (normP_end fun e => hm e.2)
          apply wp_region_lit
          (with_reducible refine wl_k ?_ ?_); exact rfl; intro K hK; go_simp; refine hK _ ?_; clear hK K
          ((with_reducible apply wl_oneG); exact rfl; exact rfl; exact fD1 hp)
          (with_reducible refine wl_k ?_ ?_); exact rfl; intro K hK; go_simp; refine hK _ ?_; clear hK K
          (with_reducible refine wl_k ?_ ?_); exact rfl; intro K hK; go_simp; refine hK _ ?_; clear hK K
          (with_reducible refine wl_k ?_ ?_); exact rfl; intro K hK; go_simp; refine hK _ ?_; clear hK K
          ((with_reducible apply wl_oneG); exact rfl; exact rfl; exact fD0 hp)
          (with_reducible refine wl_k ?_ ?_); exact rfl; intro K hK; go_simp; refine hK _ ?_; clear hK K
          (with_reducible refine wl_k ?_ ?_); exact rfl; intro K hK; go_simp; refine hK _ ?_; clear hK K
          (with_reducible refine wl_k ?_ ?_); exact rfl; intro K hK; go_simp; refine hK _ ?_; clear hK K
          go_upto_region 5 with (fail)
          apply wp_region_lit
          ((with_reducible apply wl_rowG); exact rfl; exact rfl; exact rowDc hp)
          have hq := HQ.out
          (with_reducible refine wl_put33 rfl rfl hq ?_); intro W5 hbx5 hkx5 hq5
          have hb5 := hbx5 _ _ hlq2 HB.out
          (with_reducible refine wl_k ?_ ?_); exact rfl; intro K hK; go_simp; refine hK _ ?_; clear hK K
          have HV : Hid (Ending.returned (.tuple #[.agg (dc u' (k' : Int)), .int .i64 0]) = Ending.returned (nrmV u k0)) := Lib.hid (by rw [nrm_good HO.out (by rw [show ((k0 : Int)).toNat = k0 by omega, HN.out, HF.out])])
          go_wp2_with fail
          refine bodyPost_ret (res_decErr rfl _ _ q rfl hq5) rfl ⟨?_, hb5⟩
          exact HV.out
      · have hkI : ¬ (0 : Int) < (k' : Int) := by omega
        have HF : Hid (normP u' k' = (u', k')) := Lib.hid (normP_end fun e => hk e.1)
        apply wp_region_lit
        (with_reducible refine wl_k ?_ ?_); exact rfl; intro K hK; go_simp; refine hK _ ?_; clear hK K
        ((with_reducible apply wl_oneG); exact rfl; exact rfl; exact fD1 hp)
        (with_reducible refine wl_k ?_ ?_); exact rfl; intro K hK; go_simp; refine hK _ ?_; clear hK K
        (with_reducible refine wl_k ?_ ?_); exact rfl; intro K hK; go_simp; refine hK _ ?_; clear hK K
        (first | ((with_reducible refine wl_skipU ?_ ?_ ?_); exact rfl; exact rfl) | ((with_reducible refine wl_skip ?_ ?_); exact rfl; simp only [put_lit, List.set_cons_zero, List.set_cons_succ]))
        (first | ((with_reducible refine wl_skipU ?_ ?_ ?_); exact rfl; exact rfl) | ((with_reducible refine wl_skip ?_ ?_); exact rfl; simp only [put_lit, List.set_cons_zero, List.set_cons_succ]))
        (first | ((with_reducible refine wl_skipU ?_ ?_ ?_); exact rfl; exact rfl) | ((with_reducible refine wl_skip ?_ ?_); exact rfl; simp only [put_lit, List.set_cons_zero, List.set_cons_succ]))
        (first | ((with_reducible refine wl_skipU ?_ ?_ ?_); exact rfl; exact rfl) | ((with_reducible refine wl_skip ?_ ?_); exact rfl; simp only [put_lit, List.set_cons_zero, List.set_cons_succ]))
        (with_reducible refine wl_k ?_ ?_); exact rfl; intro K hK; go_simp; refine hK _ ?_; clear hK K
        go_upto_region 5 with (fail)
        apply wp_region_lit
        ((with_reducible apply wl_rowG); exact rfl; exact rfl; exact rowDc hp)
        have hq := HQ.out
        (with_reducible refine wl_put33 rfl rfl hq ?_); intro W5 hbx5 hkx5 hq5
        have hb5 := hbx5 _ _ hlq2 HB.out
        (with_reducible refine wl_k ?_ ?_); exact rfl; intro K hK; go_simp; refine hK _ ?_; clear hK K
        have HV : Hid (Ending.returned (.tuple #[.agg (dc u' (k' : Int)), .int .i64 0]) = Ending.returned (nrmV u k0)) := Lib.hid (by rw [nrm_good HO.out (by rw [show ((k0 : Int)).toNat = k0 by omega, HN.out, HF.out])])
        go_wp2_with fail
        refine bodyPost_ret (res_decErr rfl _ _ q rfl hq5) rfl ⟨?_, hb5⟩
        exact HV.out
end Go.Proofs.YtclainfdeghgnaaDoor
namespace Go.Proofs.YtclainfdeghgnaaDoor
open Go.RowKit Go.Proofs.YtclainfdeghgnaaDoor.Nm Go.Proofs.YtclainfdeghgnaaDoor.Lm
set_option linter.unusedSimpArgs false
theorem body0 {k : Nat} (h : ¬ 0 < k) {W : List UInt8} : bodyL k W = W := by unfold bodyL; rw [if_pos (by omega)]
theorem fmt1b {k n : Nat} {m : ByteArray} {W : List UInt8} (hk : k ≠ 0) (hm : m.data.toList = W) (hn : m.size = n + k) : (((m.extract 0 n) ++ ⟨#[46]⟩) ++ m.extract n m.size).data.toList = bodyL k W := by
  rw [ByteArray.data_append, Array.toList_append, ByteArray.data_append, Array.toList_append]
  have e1 : (m.extract 0 n).data.toList = W.take n := by
    rw [ByteArray.data_extract, Array.toList_extract, hm]; simp
  have e2 : (m.extract n m.size).data.toList = W.drop n := by
    rw [ByteArray.data_extract, Array.toList_extract, hm, bsize, hm]; simp only [List.extract_eq_take_drop]; exact List.take_of_length_le (by rw [List.length_drop]; exact Nat.le_refl _)
  rw [e1, e2]
  rw [bsize, hm] at hn
  unfold bodyL
  rw [if_neg hk, hn, Nat.add_sub_cancel]
  simp
theorem fmt_cat {u : Int} {k : Nat} {sg m : ByteArray} (hs : sg.data.toList = sgL u) (hm : m.data.toList = bodyL k (padW k (Lib.decDigits u.natAbs))) : (sg ++ m).data.toList = fmtL u k := by
  rw [ByteArray.data_append, Array.toList_append, hs, hm]; rfl
theorem fmt_cat0 {u : Int} {k : Nat} {m : ByteArray} (hs : (⟨#[]⟩ : ByteArray).data.toList = sgL u) (hm : m.data.toList = bodyL k (padW k (Lib.decDigits u.natAbs))) : m.data.toList = fmtL u k := by
  unfold fmtL; rw [← hs, hm]; rfl
theorem nl_small {n : Nat} (h : n ≤ 100000000000000000) : nl n ≤ 400 := Nat.le_trans (nl_le n 2 (by rw [B_eq]; omega)) (by omega)
set_option maxHeartbeats 4000000 in
set_option maxRecDepth 100000 in
theorem FormatI_any (u k : Int) (w : World) : Calls Tryd.prog 8 #[.agg (dc u k)] w fun e w' => e = .returned (fmV u k) ∧ Below w.heap.size w w' := by
  have hb := Below.refl w.heap.size w
  go_enter Tryd.func8, Tryd.ntmps8
  go_upto_region 0 with (fail)
  apply wp_region_lit
  (with_reducible refine wl_boxD rfl ?_); intro W p hbn hlp hp; replace hb := hb.trans (hbn.mono hb.size); clear hbn; simp only [put_lit, List.set_cons_zero, List.set_cons_succ]
  (with_reducible refine wl_k ?_ ?_); exact rfl; intro K hK; go_simp; refine hK _ ?_; clear hK K
  (with_reducible refine wl_k ?_ ?_); exact rfl; intro K hK; go_simp; refine hK _ ?_; clear hK K
  obtain ⟨R, hR⟩ : ∃ R, R = validD u k := ⟨_, rfl⟩
  have HR := Lib.hid hR
  clear hR
  go_upto_region 1 with (fail)
  apply wp_region_lit
  ((with_reducible apply wl_rowG); exact rfl; exact rfl; exact rowDc hp)
  (with_reducible refine wl_ck ?_ ?_); exact rfl; intro K hK; go_simp; refine ⟨_, _, ⟨rfl, rfl⟩, hK _ _ ⟨_, ValidI_any u k R HR _, ?_⟩⟩; clear hK K; rintro e w4 ⟨rfl, hb4⟩; refine ⟨_, rfl, ?_⟩; simp only [put_lit, List.set_cons_zero, List.set_cons_succ]
  replace hp := below_look hb4 hp; replace hb := hb.trans (hb4.mono hb.size); clear hb4
  cases R with
  | false =>
    (with_reducible refine wl_k ?_ ?_); exact rfl; intro K hK; go_simp; refine hK _ ?_; clear hK K
    have HV := Lib.hid (fm_bad HR.out.symm)
    go_upto_region 2 with (fail)
    apply wp_region_lit
    (with_reducible refine wl_k ?_ ?_); exact rfl; intro K hK; go_simp; refine hK _ ?_; clear hK K
    (with_reducible refine wl_k ?_ ?_); exact rfl; intro K hK; go_simp; refine hK _ ?_; clear hK K
    go_wp2_with fail
    go_ret2
    exact ⟨by rw [HV.out]; rfl, hb⟩
  | true =>
    (with_reducible refine wl_k ?_ ?_); exact rfl; intro K hK; go_simp; refine hK _ ?_; clear hK K
    obtain ⟨k0, hk0⟩ : ∃ n : Nat, k = (n : Int) := ⟨k.toNat, by have := (okD_iff.1 HR.out.symm).2.2.1; omega⟩
    subst hk0
    obtain ⟨n1, n2, -, n4⟩ := okD_iff.1 HR.out.symm
    have HO := Lib.hid (show okD u k0 = true from HR.out.symm)
    obtain ⟨m, hm⟩ : ∃ m : ByteArray, m = ⟨(txt u).toArray⟩ := ⟨_, rfl⟩
    have HM : Hid (m.data.toList = txt u) := Lib.hid (by rw [hm])
    have HMM := Lib.hid hm
    clear hm
    go_upto_region 3 with (fail)
    apply wp_region_lit
    (with_reducible refine wl_k ?_ ?_); exact rfl; intro K hK; go_simp; refine hK _ ?_; clear hK K
    ((with_reducible apply wl_oneG); exact rfl; exact rfl; exact fD0 hp)
    (with_reducible refine wl_ck ?_ ?_); exact rfl; intro K hK; go_simp; refine ⟨_, _, ⟨rfl, rfl⟩, hK _ _ ⟨_, Of_any u (by omega) (by omega) _, ?_⟩⟩; clear hK K; rintro e w5 ⟨A, c, rfl, hI, hb5⟩; refine ⟨_, rfl, ?_⟩; simp only [put_lit, List.set_cons_zero, List.set_cons_succ]
    replace hp := below_look hb5 hp; replace hb := hb.trans (hb5.mono hb.size); clear hb5
    have hT := TextI_any u A c w5 hI (nl_small (by omega)) (by omega)
    rw [← HMM.out] at hT
    (with_reducible refine wl_ck ?_ ?_); exact rfl; intro K hK; go_simp; refine ⟨_, _, ⟨rfl, rfl⟩, hK _ _ ⟨_, hT, ?_⟩⟩; clear hK K; rintro e w6 ⟨rfl, hb6⟩; refine ⟨_, rfl, ?_⟩; simp only [put_lit, List.set_cons_zero, List.set_cons_succ]
    replace hp := below_look hb6 hp; replace hb := hb.trans (hb6.mono hb.size); clear hb6
    clear hT hI HMM
    (with_reducible refine wl_k ?_ ?_); exact rfl; intro K hK; go_simp; refine hK _ ?_; clear hK K
    go_upto_region 4 with (fail)
    by_cases hu : u < 0
    · apply wp_region_lit
      (with_reducible refine wl_k ?_ ?_); exact rfl; intro K hK; go_simp; refine hK _ ?_; clear hK K
      ((with_reducible apply wl_oneG); exact rfl; exact rfl; exact fD0 hp)
      (with_reducible refine wl_k ?_ ?_); exact rfl; intro K hK; go_simp; refine hK _ ?_; clear hK K
      (with_reducible refine wl_k ?_ ?_); exact rfl; intro K hK; go_simp; refine hK _ ?_; clear hK K
      have HS := Lib.hid (sg_neg hu)
      obtain ⟨hm1, hm2⟩ := itoa_tail hu (show m.data.toList = Lib.itoa u by rw [HM.out, txt_sg, itoa_sg])
      have hmI : (1 : Int) ≤ (m.size : Int) := by omega
      have HW := Lib.hid hm2
      clear hm2 HM
      go_upto_region 5 with (fail)
      apply wp_region_lit
      (with_reducible refine wl_k ?_ ?_); exact rfl; intro K hK; go_simp; refine hK _ ?_; clear hK K
      go_upto_region 6 with (fail)
      apply wp_region_lit
      (with_reducible refine wl_k ?_ ?_); exact rfl; intro K hK; go_simp; refine hK _ ?_; clear hK K
      (with_reducible refine wl_k ?_ ?_); exact rfl; intro K hK; go_simp; refine hK _ ?_; clear hK K
      (with_reducible refine wl_k ?_ ?_); exact rfl; intro K hK; go_simp; refine hK _ ?_; clear hK K
      go_wp2_with fail
      go_loopw [4] (fun v wr => ∃ m' : ByteArray, v = .string m' ∧ Hid (PadS m' k0 (Lib.decDigits u.natAbs)) ∧ wr.heap[p]? = some (.cells (dc u (k0 : Int)) 23 (0, 0)) ∧ Below w.heap.size w wr) (fun v _ => k0 + 1 - strSz v)
      case atStart => exact ⟨_, rfl, Lib.hid (PadS.start k0 HW.out), hp, hb⟩
      case round =>
        clear hp hb HW
        obtain ⟨m', rfl, HPD, hp, hb⟩ := hrel
        have hsz := HPD.out.bound n4 (digs18 n1 n2)
        have hc0 : ¬ 9223372036854775807 < m'.size := by omega
        have hc1 : ¬ 9223372036854775807 < 1 + m'.size := by omega
        go_upto_region 7 with (fail)
        by_cases hle : m'.size ≤ k0
        · have hleI : (m'.size : Int) ≤ (k0 : Int) := by omega
          apply wp_region_lit
          (with_reducible refine wl_k ?_ ?_); exact rfl; intro K hK; go_simp; refine hK _ ?_; clear hK K
          (with_reducible refine wl_k ?_ ?_); exact rfl; intro K hK; go_simp; refine hK _ ?_; clear hK K
          (with_reducible refine wl_k ?_ ?_); exact rfl; intro K hK; go_simp; refine hK _ ?_; clear hK K
          ((with_reducible apply wl_oneG); exact rfl; exact rfl; exact fD1 hp)
          (with_reducible refine wl_k ?_ ?_); exact rfl; intro K hK; go_simp; refine hK _ ?_; clear hK K
          have HN := Lib.hid (HPD.out.step hle)
          have HMS : Hid (k0 + 1 - ((⟨#[48]⟩ : ByteArray) ++ m').size < k0 + 1 - m'.size) := Lib.hid (by rw [ByteArray.size_append]; show k0 + 1 - (1 + m'.size) < _; omega)
          go_upto_region 8 with (fail)
          apply wp_region_lit
          (with_reducible refine wl_k ?_ ?_); exact rfl; intro K hK; go_simp; refine hK _ ?_; clear hK K
          (with_reducible refine wl_k ?_ ?_); exact rfl; intro K hK; go_simp; refine hK _ ?_; clear hK K
          (with_reducible refine wl_k ?_ ?_); exact rfl; intro K hK; go_simp; refine hK _ ?_; clear hK K
          go_wp2_with fail
          go_roundw
          case rel => exact ⟨_, rfl, HN, hp, hb⟩
          case measure => exact HMS.out
        · have hleI : ¬ (m'.size : Int) ≤ (k0 : Int) := by omega
          apply wp_region_lit
          (with_reducible refine wl_k ?_ ?_); exact rfl; intro K hK; go_simp; refine hK _ ?_; clear hK K
          (with_reducible refine wl_k ?_ ?_); exact rfl; intro K hK; go_simp; refine hK _ ?_; clear hK K
          (with_reducible refine wl_k ?_ ?_); exact rfl; intro K hK; go_simp; refine hK _ ?_; clear hK K
          ((with_reducible apply wl_oneG); exact rfl; exact rfl; exact fD1 hp)
          (with_reducible refine wl_k ?_ ?_); exact rfl; intro K hK; go_simp; refine hK _ ?_; clear hK K
          have HD : Hid (m'.data.toList = padW k0 (Lib.decDigits u.natAbs)) := Lib.hid (HPD.out.done hle)
          clear HPD
          go_upto_region 9 with (fail)
          by_cases h0 : 0 < k0
          · have h0I : (0 : Int) < (k0 : Int) := by omega
            apply wp_region_lit
            (with_reducible refine wl_k ?_ ?_); exact rfl; intro K hK; go_simp; refine hK _ ?_; clear hK K
            ((with_reducible apply wl_oneG); exact rfl; exact rfl; exact fD1 hp)
            (with_reducible refine wl_k ?_ ?_); exact rfl; intro K hK; go_simp; refine hK _ ?_; clear hK K
            obtain ⟨n, hn⟩ : ∃ n, m'.size = n + k0 := ⟨m'.size - k0, by omega⟩
            have hwq : IntKind.i64.wrap ((m'.size : Int) - (k0 : Int)) = (n : Int) := by rw [hn]; rw [IntWalk.i64_in _ (by omega)]; omega
            have hnI : (n : Int) ≤ (m'.size : Int) := by omega
            have HB : Hid ((((m'.extract 0 n) ++ ⟨#[46]⟩) ++ m'.extract n m'.size).data.toList = bodyL k0 (padW k0 (Lib.decDigits u.natAbs))) := Lib.hid (fmt1b (by omega) HD.out hn)
            clear hn
            go_upto_region 10 with (fail)
            refine wp_region_belowAll mixed (by kernel_rfl) ?_
            (with_reducible refine wq_k ?_ ?_); exact rfl; intro K hK; go_simp; (with_reducible refine hK _ ?_); clear hK K
            (with_reducible refine wq_k ?_ ?_); exact rfl; intro K hK; go_simp; (with_reducible refine hK _ ?_); clear hK K
            (with_reducible refine wq_k ?_ ?_); exact rfl; intro K hK; go_simp; (with_reducible refine hK _ ?_); clear hK K
            (with_reducible refine wq_k ?_ ?_); exact rfl; intro K hK; go_simp; (with_reducible refine hK _ ?_); clear hK K
            ((with_reducible apply wq_one); exact rfl; exact rfl; (intro w' hw'; exact fD1 (below_look hw' hp)))
            (with_reducible refine wq_k ?_ ?_); exact rfl; intro K hK; go_simp; (with_reducible refine hK _ ?_); clear hK K
            (with_reducible refine wq_k ?_ ?_); exact rfl; intro K hK; go_simp; (with_reducible refine hK _ ?_); clear hK K
            (with_reducible refine wq_k ?_ ?_); exact rfl; intro K hK; go_simp; (first | (with_reducible refine hK _ ?_) | (refine ⟨_, fun w => if_neg (by omega), hK _ ?_⟩)); clear hK K
            (with_reducible refine wq_k ?_ ?_); exact rfl; intro K hK; go_simp; (with_reducible refine hK _ ?_); clear hK K
            (with_reducible refine wq_k ?_ ?_); exact rfl; intro K hK; go_simp; (with_reducible refine hK _ ?_); clear hK K
            (with_reducible refine wq_k ?_ ?_); exact rfl; intro K hK; go_simp; (with_reducible refine hK _ ?_); clear hK K
            (with_reducible refine wq_k ?_ ?_); exact rfl; intro K hK; go_simp; (with_reducible refine hK _ ?_); clear hK K
            ((with_reducible apply wq_one); exact rfl; exact rfl; (intro w' hw'; exact fD1 (below_look hw' hp)))
            (with_reducible refine wq_k ?_ ?_); exact rfl; intro K hK; go_simp; (with_reducible refine hK _ ?_); clear hK K
            (with_reducible refine wq_k ?_ ?_); exact rfl; intro K hK; go_simp; (with_reducible refine hK _ ?_); clear hK K
            (with_reducible refine wq_k ?_ ?_); exact rfl; intro K hK; go_simp; (first | (with_reducible refine hK _ ?_) | (refine ⟨_, fun w => if_neg (by omega), hK _ ?_⟩)); clear hK K
            (with_reducible refine wq_k ?_ ?_); exact rfl; intro K hK; go_simp; (with_reducible refine hK _ ?_); clear hK K
            intro w' hw'
            replace hb := hb.trans (hw'.mono hb.size)
            clear hwq hnI
            have HV := Lib.hid (fm_goodN HO.out (m := (⟨#[45]⟩ : ByteArray) ++ ((m'.extract 0 n) ++ ⟨#[46]⟩) ++ m'.extract n m'.size) (fmt_cat (sg := ⟨#[45]⟩) HS.out HB.out))
            go_upto_region 11 with (fail)
            apply wp_region_lit
            (with_reducible refine wl_k ?_ ?_); exact rfl; intro K hK; go_simp; refine hK _ ?_; clear hK K
            go_upto_region 12 with (fail)
            apply wp_region_lit
            (with_reducible refine wl_k ?_ ?_); exact rfl; intro K hK; go_simp; refine hK _ ?_; clear hK K
            (with_reducible refine wl_k ?_ ?_); exact rfl; intro K hK; go_simp; (first | (refine hK _ ?_) | (refine ⟨_, if_neg (by omega), hK _ ?_⟩)); clear hK K
            (with_reducible refine wl_k ?_ ?_); exact rfl; intro K hK; go_simp; refine hK _ ?_; clear hK K
            go_upto_region 13 with (fail)
            apply wp_region_lit
            (with_reducible refine wl_k ?_ ?_); exact rfl; intro K hK; go_simp; refine hK _ ?_; clear hK K
            (with_reducible refine wl_k ?_ ?_); exact rfl; intro K hK; go_simp; refine hK _ ?_; clear hK K
            (with_reducible refine wl_k ?_ ?_); exact rfl; intro K hK; go_simp; refine hK _ ?_; clear hK K
            go_wp2_with fail
            go_ret2
            exact ⟨by rw [HV.out]; rfl, hb⟩
          · have h0I : ¬ (0 : Int) < (k0 : Int) := by omega
            apply wp_region_lit
            (with_reducible refine wl_k ?_ ?_); exact rfl; intro K hK; go_simp; refine hK _ ?_; clear hK K
            ((with_reducible apply wl_oneG); exact rfl; exact rfl; exact fD1 hp)
            (with_reducible refine wl_k ?_ ?_); exact rfl; intro K hK; go_simp; refine hK _ ?_; clear hK K
            have HB : Hid (m'.data.toList = bodyL k0 (padW k0 (Lib.decDigits u.natAbs))) := Lib.hid (HD.out.trans (body0 h0).symm)
            have HV := Lib.hid (fm_goodN HO.out (m := (⟨#[45]⟩ : ByteArray) ++ m') (fmt_cat (sg := ⟨#[45]⟩) HS.out HB.out))
            go_upto_region 11 with (fail)
            apply wp_region_lit
            (with_reducible refine wl_k ?_ ?_); exact rfl; intro K hK; go_simp; refine hK _ ?_; clear hK K
            go_upto_region 12 with (fail)
            apply wp_region_lit
            (with_reducible refine wl_k ?_ ?_); exact rfl; intro K hK; go_simp; refine hK _ ?_; clear hK K
            (with_reducible refine wl_k ?_ ?_); exact rfl; intro K hK; go_simp; (first | (refine hK _ ?_) | (refine ⟨_, if_neg (by omega), hK _ ?_⟩)); clear hK K
            (with_reducible refine wl_k ?_ ?_); exact rfl; intro K hK; go_simp; refine hK _ ?_; clear hK K
            go_upto_region 13 with (fail)
            apply wp_region_lit
            (with_reducible refine wl_k ?_ ?_); exact rfl; intro K hK; go_simp; refine hK _ ?_; clear hK K
            (with_reducible refine wl_k ?_ ?_); exact rfl; intro K hK; go_simp; refine hK _ ?_; clear hK K
            (with_reducible refine wl_k ?_ ?_); exact rfl; intro K hK; go_simp; refine hK _ ?_; clear hK K
            go_wp2_with fail
            go_ret2
            exact ⟨by rw [HV.out]; rfl, hb⟩
    · apply wp_region_lit
      (with_reducible refine wl_k ?_ ?_); exact rfl; intro K hK; go_simp; refine hK _ ?_; clear hK K
      ((with_reducible apply wl_oneG); exact rfl; exact rfl; exact fD0 hp)
      (with_reducible refine wl_k ?_ ?_); exact rfl; intro K hK; go_simp; refine hK _ ?_; clear hK K
      (with_reducible refine wl_k ?_ ?_); exact rfl; intro K hK; go_simp; refine hK _ ?_; clear hK K
      have HS := Lib.hid (sg_pos hu)
      have HW := Lib.hid (itoa_pos hu (show m.data.toList = Lib.itoa u by rw [HM.out, txt_sg, itoa_sg]))
      clear HM
      go_upto_region 5 with (fail)
      apply wp_region_lit
      (with_reducible refine wl_k ?_ ?_); exact rfl; intro K hK; go_simp; refine hK _ ?_; clear hK K
      go_wp2_with fail
      go_loopw [4] (fun v wr => ∃ m' : ByteArray, v = .string m' ∧ Hid (PadS m' k0 (Lib.decDigits u.natAbs)) ∧ wr.heap[p]? = some (.cells (dc u (k0 : Int)) 23 (0, 0)) ∧ Below w.heap.size w wr) (fun v _ => k0 + 1 - strSz v)
      case atStart => exact ⟨_, rfl, Lib.hid (PadS.start k0 HW.out), hp, hb⟩
      case round =>
        clear hp hb HW
        obtain ⟨m', rfl, HPD, hp, hb⟩ := hrel
        have hsz := HPD.out.bound n4 (digs18 n1 n2)
        have hc0 : ¬ 9223372036854775807 < m'.size := by omega
        have hc1 : ¬ 9223372036854775807 < 1 + m'.size := by omega
        go_upto_region 7 with (fail)
        by_cases hle : m'.size ≤ k0
        · have hleI : (m'.size : Int) ≤ (k0 : Int) := by omega
          apply wp_region_lit
          (with_reducible refine wl_k ?_ ?_); exact rfl; intro K hK; go_simp; refine hK _ ?_; clear hK K
          (with_reducible refine wl_k ?_ ?_); exact rfl; intro K hK; go_simp; refine hK _ ?_; clear hK K
          (with_reducible refine wl_k ?_ ?_); exact rfl; intro K hK; go_simp; refine hK _ ?_; clear hK K
          ((with_reducible apply wl_oneG); exact rfl; exact rfl; exact fD1 hp)
          (with_reducible refine wl_k ?_ ?_); exact rfl; intro K hK; go_simp; refine hK _ ?_; clear hK K
          have HN := Lib.hid (HPD.out.step hle)
          have HMS : Hid (k0 + 1 - ((⟨#[48]⟩ : ByteArray) ++ m').size < k0 + 1 - m'.size) := Lib.hid (by rw [ByteArray.size_append]; show k0 + 1 - (1 + m'.size) < _; omega)
          go_upto_region 8 with (fail)
          apply wp_region_lit
          (with_reducible refine wl_k ?_ ?_); exact rfl; intro K hK; go_simp; refine hK _ ?_; clear hK K
          (with_reducible refine wl_k ?_ ?_); exact rfl; intro K hK; go_simp; refine hK _ ?_; clear hK K
          (with_reducible refine wl_k ?_ ?_); exact rfl; intro K hK; go_simp; refine hK _ ?_; clear hK K
          go_wp2_with fail
          go_roundw
          case rel => exact ⟨_, rfl, HN, hp, hb⟩
          case measure => exact HMS.out
        · have hleI : ¬ (m'.size : Int) ≤ (k0 : Int) := by omega
          apply wp_region_lit
          (with_reducible refine wl_k ?_ ?_); exact rfl; intro K hK; go_simp; refine hK _ ?_; clear hK K
          (with_reducible refine wl_k ?_ ?_); exact rfl; intro K hK; go_simp; refine hK _ ?_; clear hK K
          (with_reducible refine wl_k ?_ ?_); exact rfl; intro K hK; go_simp; refine hK _ ?_; clear hK K
          ((with_reducible apply wl_oneG); exact rfl; exact rfl; exact fD1 hp)
          (with_reducible refine wl_k ?_ ?_); exact rfl; intro K hK; go_simp; refine hK _ ?_; clear hK K
          have HD : Hid (m'.data.toList = padW k0 (Lib.decDigits u.natAbs)) := Lib.hid (HPD.out.done hle)
          clear HPD
          go_upto_region 9 with (fail)
          by_cases h0 : 0 < k0
          · have h0I : (0 : Int) < (k0 : Int) := by omega
            apply wp_region_lit
            (with_reducible refine wl_k ?_ ?_); exact rfl; intro K hK; go_simp; refine hK _ ?_; clear hK K
            ((with_reducible apply wl_oneG); exact rfl; exact rfl; exact fD1 hp)
            (with_reducible refine wl_k ?_ ?_); exact rfl; intro K hK; go_simp; refine hK _ ?_; clear hK K
            obtain ⟨n, hn⟩ : ∃ n, m'.size = n + k0 := ⟨m'.size - k0, by omega⟩
            have hwq : IntKind.i64.wrap ((m'.size : Int) - (k0 : Int)) = (n : Int) := by rw [hn]; rw [IntWalk.i64_in _ (by omega)]; omega
            have hnI : (n : Int) ≤ (m'.size : Int) := by omega
            have HB : Hid ((((m'.extract 0 n) ++ ⟨#[46]⟩) ++ m'.extract n m'.size).data.toList = bodyL k0 (padW k0 (Lib.decDigits u.natAbs))) := Lib.hid (fmt1b (by omega) HD.out hn)
            clear hn
            go_upto_region 10 with (fail)
            refine wp_region_belowAll mixed (by kernel_rfl) ?_
            (with_reducible refine wq_k ?_ ?_); exact rfl; intro K hK; go_simp; (with_reducible refine hK _ ?_); clear hK K
            (with_reducible refine wq_k ?_ ?_); exact rfl; intro K hK; go_simp; (with_reducible refine hK _ ?_); clear hK K
            (with_reducible refine wq_k ?_ ?_); exact rfl; intro K hK; go_simp; (with_reducible refine hK _ ?_); clear hK K
            (with_reducible refine wq_k ?_ ?_); exact rfl; intro K hK; go_simp; (with_reducible refine hK _ ?_); clear hK K
            ((with_reducible apply wq_one); exact rfl; exact rfl; (intro w' hw'; exact fD1 (below_look hw' hp)))
            (with_reducible refine wq_k ?_ ?_); exact rfl; intro K hK; go_simp; (with_reducible refine hK _ ?_); clear hK K
            (with_reducible refine wq_k ?_ ?_); exact rfl; intro K hK; go_simp; (with_reducible refine hK _ ?_); clear hK K
            (with_reducible refine wq_k ?_ ?_); exact rfl; intro K hK; go_simp; (first | (with_reducible refine hK _ ?_) | (refine ⟨_, fun w => if_neg (by omega), hK _ ?_⟩)); clear hK K
            (with_reducible refine wq_k ?_ ?_); exact rfl; intro K hK; go_simp; (with_reducible refine hK _ ?_); clear hK K
            (with_reducible refine wq_k ?_ ?_); exact rfl; intro K hK; go_simp; (with_reducible refine hK _ ?_); clear hK K
            (with_reducible refine wq_k ?_ ?_); exact rfl; intro K hK; go_simp; (with_reducible refine hK _ ?_); clear hK K
            (with_reducible refine wq_k ?_ ?_); exact rfl; intro K hK; go_simp; (with_reducible refine hK _ ?_); clear hK K
            ((with_reducible apply wq_one); exact rfl; exact rfl; (intro w' hw'; exact fD1 (below_look hw' hp)))
            (with_reducible refine wq_k ?_ ?_); exact rfl; intro K hK; go_simp; (with_reducible refine hK _ ?_); clear hK K
            (with_reducible refine wq_k ?_ ?_); exact rfl; intro K hK; go_simp; (with_reducible refine hK _ ?_); clear hK K
            (with_reducible refine wq_k ?_ ?_); exact rfl; intro K hK; go_simp; (first | (with_reducible refine hK _ ?_) | (refine ⟨_, fun w => if_neg (by omega), hK _ ?_⟩)); clear hK K
            (with_reducible refine wq_k ?_ ?_); exact rfl; intro K hK; go_simp; (with_reducible refine hK _ ?_); clear hK K
            intro w' hw'
            replace hb := hb.trans (hw'.mono hb.size)
            clear hwq hnI
            have HV := Lib.hid (fm_goodN HO.out (m := ((m'.extract 0 n) ++ ⟨#[46]⟩) ++ m'.extract n m'.size) (fmt_cat0 HS.out HB.out))
            go_upto_region 11 with (fail)
            apply wp_region_lit
            (with_reducible refine wl_k ?_ ?_); exact rfl; intro K hK; go_simp; refine hK _ ?_; clear hK K
            go_upto_region 13 with (fail)
            apply wp_region_lit
            (with_reducible refine wl_k ?_ ?_); exact rfl; intro K hK; go_simp; refine hK _ ?_; clear hK K
            (with_reducible refine wl_k ?_ ?_); exact rfl; intro K hK; go_simp; refine hK _ ?_; clear hK K
            (with_reducible refine wl_k ?_ ?_); exact rfl; intro K hK; go_simp; refine hK _ ?_; clear hK K
            go_wp2_with fail
            go_ret2
            exact ⟨by rw [HV.out]; rfl, hb⟩
          · have h0I : ¬ (0 : Int) < (k0 : Int) := by omega
            apply wp_region_lit
            (with_reducible refine wl_k ?_ ?_); exact rfl; intro K hK; go_simp; refine hK _ ?_; clear hK K
            ((with_reducible apply wl_oneG); exact rfl; exact rfl; exact fD1 hp)
            (with_reducible refine wl_k ?_ ?_); exact rfl; intro K hK; go_simp; refine hK _ ?_; clear hK K
            have HB : Hid (m'.data.toList = bodyL k0 (padW k0 (Lib.decDigits u.natAbs))) := Lib.hid (HD.out.trans (body0 h0).symm)
            have HV := Lib.hid (fm_goodN HO.out (m := m') (fmt_cat0 HS.out HB.out))
            go_upto_region 11 with (fail)
            apply wp_region_lit
            (with_reducible refine wl_k ?_ ?_); exact rfl; intro K hK; go_simp; refine hK _ ?_; clear hK K
            go_upto_region 13 with (fail)
            apply wp_region_lit
            (with_reducible refine wl_k ?_ ?_); exact rfl; intro K hK; go_simp; refine hK _ ?_; clear hK K
            (with_reducible refine wl_k ?_ ?_); exact rfl; intro K hK; go_simp; refine hK _ ?_; clear hK K
            (with_reducible refine wl_k ?_ ?_); exact rfl; intro K hK; go_simp; refine hK _ ?_; clear hK K
            go_wp2_with fail
            go_ret2
            exact ⟨by rw [HV.out]; rfl, hb⟩
end Go.Proofs.YtclainfdeghgnaaDoor
namespace Go.Proofs.YtclainfdeghgnaaDoor
open Go.RowKit Go.Proofs.YtclainfdeghgnaaDoor.Nm
set_option linter.unusedSimpArgs false
theorem nrmV_of (u k : Int) : ∃ a b e : Int, nrmV u k = .tuple #[.agg (dc a b), .int .i64 e] := ⟨_, _, _, rfl⟩
theorem fmV_of (u k : Int) : ∃ (m : ByteArray) (e : Int), fmV u k = .tuple #[.string m, .int .i64 e] := by
  unfold fmV
  split
  · exact ⟨_, _, rfl⟩
  · exact ⟨_, _, rfl⟩
set_option maxHeartbeats 4000000 in
set_option maxRecDepth 100000 in
theorem NumberNormal_any (u k : Int) (w : World) (ht : TabW w) : Calls Tryd.prog 3 #[.agg (dc u k)] w fun e w' => e = .returned (.bool true) ∧ Below w.heap.size w w' := by
  have HTB := Lib.hid ht
  clear ht
  obtain ⟨a, b, e, hn⟩ := nrmV_of u k
  obtain ⟨m, f, hf⟩ := fmV_of u k
  obtain ⟨R, hR⟩ : ∃ R, R = validD u k := ⟨_, rfl⟩
  have HR := Lib.hid hR
  have HNV := Lib.hid hn
  have HFV := Lib.hid hf
  clear hR hn hf
  have hb := Below.refl w.heap.size w
  go_enter Tryd.func3, Tryd.ntmps3
  go_upto_region 0 with (fail)
  apply wp_region_lit
  (with_reducible refine wl_boxD rfl ?_); intro W p hbn hlp hp; replace hb := hb.trans (hbn.mono hb.size); clear hbn; simp only [put_lit, List.set_cons_zero, List.set_cons_succ]
  (with_reducible refine wl_k ?_ ?_); exact rfl; intro K hK; go_simp; refine hK _ ?_; clear hK K
  go_upto_region 1 with (fail)
  apply wp_region_lit
  ((with_reducible apply wl_rowG); exact rfl; exact rfl; exact rowDc hp)
  have c1 := Normal_any u k W
  rw [HNV.out] at c1
  (with_reducible refine wl_ck ?_ ?_); exact rfl; intro K hK; go_simp; refine ⟨_, _, ⟨rfl, rfl⟩, hK _ _ ⟨_, c1, ?_⟩⟩; clear hK K; rintro e w1 ⟨rfl, hb1⟩; refine ⟨_, rfl, ?_⟩; simp only [put_lit, List.set_cons_zero, List.set_cons_succ]
  replace hp := below_look hb1 hp; replace hb := hb.trans (hb1.mono hb.size); clear hb1
  clear c1
  (with_reducible refine wl_k ?_ ?_); exact rfl; intro K hK; go_simp; refine hK _ ?_; clear hK K
  (with_reducible refine wl_k ?_ ?_); exact rfl; intro K hK; go_simp; refine hK _ ?_; clear hK K
  (with_reducible refine wl_k ?_ ?_); exact rfl; intro K hK; go_simp; refine hK _ ?_; clear hK K
  have lthpq := heap_lt hp; (with_reducible refine wl_allD ?_); intro W2 q hbn hlq hq; replace hp := below_look hbn hp; replace hb := hb.trans (hbn.mono hb.size); clear hbn; simp only [put_lit, List.set_cons_zero, List.set_cons_succ]
  (with_reducible refine wl_put33 rfl rfl hq ?_); intro W3 hbx3 hkx3 hq3
  replace hb := hbx3 _ _ (by omega) hb
  replace hp := hkx3 _ _ (by have := heap_lt hp; omega) hp
  clear hbx3 hkx3 hq
  (with_reducible refine wl_k ?_ ?_); exact rfl; intro K hK; go_simp; refine hK _ ?_; clear hK K
  go_upto_region 2 with (fail)
  apply wp_region_lit
  ((with_reducible apply wl_rowG); exact rfl; exact rfl; exact rowDc hp)
  have c1 := NormalI_any u k W3
  rw [HNV.out] at c1
  (with_reducible refine wl_ck ?_ ?_); exact rfl; intro K hK; go_simp; refine ⟨_, _, ⟨rfl, rfl⟩, hK _ _ ⟨_, c1, ?_⟩⟩; clear hK K; rintro e w4 ⟨rfl, hb1⟩; refine ⟨_, rfl, ?_⟩; simp only [put_lit, List.set_cons_zero, List.set_cons_succ]
  replace hp := below_look hb1 hp; replace hq3 := below_look hb1 hq3; replace hb := hb.trans (hb1.mono hb.size); clear hb1
  clear c1
  (with_reducible refine wl_k ?_ ?_); exact rfl; intro K hK; go_simp; refine hK _ ?_; clear hK K
  (with_reducible refine wl_k ?_ ?_); exact rfl; intro K hK; go_simp; refine hK _ ?_; clear hK K
  (with_reducible refine wl_k ?_ ?_); exact rfl; intro K hK; go_simp; refine hK _ ?_; clear hK K
  have lthpr := heap_lt hp; have lthq3r := heap_lt hq3; (with_reducible refine wl_allD ?_); intro W5 r hbn hlr hr; replace hp := below_look hbn hp; replace hq3 := below_look hbn hq3; replace hb := hb.trans (hbn.mono hb.size); clear hbn; simp only [put_lit, List.set_cons_zero, List.set_cons_succ]
  have lqr := heap_lt hq3
  have lpr := heap_lt hp
  (with_reducible refine wl_put33 rfl rfl hr ?_); intro W6 hbx3 hkx3 hr6
  replace hb := hbx3 _ _ (by omega) hb
  replace hp := hkx3 _ _ (by omega) hp
  replace hq3 := hkx3 _ _ (by omega) hq3
  clear hbx3 hkx3 hr
  (with_reducible refine wl_k ?_ ?_); exact rfl; intro K hK; go_simp; refine hK _ ?_; clear hK K
  go_upto_region 3 with (fail)
  apply wp_region_lit
  ((with_reducible apply wl_rowG); exact rfl; exact rfl; exact rowDc hp)
  have c1 := Format_any u k W6 (HTB.out.old hb)
  rw [HFV.out] at c1
  (with_reducible refine wl_ck ?_ ?_); exact rfl; intro K hK; go_simp; refine ⟨_, _, ⟨rfl, rfl⟩, hK _ _ ⟨_, c1, ?_⟩⟩; clear hK K; rintro e w7 ⟨rfl, hb1⟩; refine ⟨_, rfl, ?_⟩; simp only [put_lit, List.set_cons_zero, List.set_cons_succ]
  replace hp := below_look hb1 hp; replace hq3 := below_look hb1 hq3; replace hr6 := below_look hb1 hr6; replace hb := hb.trans (hb1.mono hb.size); clear hb1
  clear c1
  (with_reducible refine wl_k ?_ ?_); exact rfl; intro K hK; go_simp; refine hK _ ?_; clear hK K
  (with_reducible refine wl_k ?_ ?_); exact rfl; intro K hK; go_simp; refine hK _ ?_; clear hK K
  (with_reducible refine wl_k ?_ ?_); exact rfl; intro K hK; go_simp; refine hK _ ?_; clear hK K
  (with_reducible refine wl_k ?_ ?_); exact rfl; intro K hK; go_simp; refine hK _ ?_; clear hK K
  (with_reducible refine wl_k ?_ ?_); exact rfl; intro K hK; go_simp; refine hK _ ?_; clear hK K
  go_upto_region 4 with (fail)
  apply wp_region_lit
  ((with_reducible apply wl_rowG); exact rfl; exact rfl; exact rowDc hp)
  have c1 := FormatI_any u k w7
  rw [HFV.out] at c1
  (with_reducible refine wl_ck ?_ ?_); exact rfl; intro K hK; go_simp; refine ⟨_, _, ⟨rfl, rfl⟩, hK _ _ ⟨_, c1, ?_⟩⟩; clear hK K; rintro e w8 ⟨rfl, hb1⟩; refine ⟨_, rfl, ?_⟩; simp only [put_lit, List.set_cons_zero, List.set_cons_succ]
  replace hp := below_look hb1 hp; replace hq3 := below_look hb1 hq3; replace hr6 := below_look hb1 hr6; replace hb := hb.trans (hb1.mono hb.size); clear hb1
  clear c1
  (with_reducible refine wl_k ?_ ?_); exact rfl; intro K hK; go_simp; refine hK _ ?_; clear hK K
  (with_reducible refine wl_k ?_ ?_); exact rfl; intro K hK; go_simp; refine hK _ ?_; clear hK K
  (with_reducible refine wl_k ?_ ?_); exact rfl; intro K hK; go_simp; refine hK _ ?_; clear hK K
  (with_reducible refine wl_k ?_ ?_); exact rfl; intro K hK; go_simp; refine hK _ ?_; clear hK K
  (with_reducible refine wl_k ?_ ?_); exact rfl; intro K hK; go_simp; refine hK _ ?_; clear hK K
  go_upto_region 5 with (fail)
  refine wp_region_belowAll mixed (by kernel_rfl) ?_
  ((with_reducible apply wq_row); exact rfl; exact rfl; intro w' hw'; exact rowDc (below_look hw' hp))
  refine wq_ck rfl (fun K hK => ?_); go_simp; refine ⟨_, _, ⟨rfl, rfl⟩, hK _ _ ⟨_, fun w' hw' => calls_class hw' ((fun w' _ => ValidDecimal_any u k R HR w') w' hw'), ?_⟩⟩; clear hK K; simp only [put_lit, List.set_cons_zero, List.set_cons_succ]
  ((with_reducible apply wq_row); exact rfl; exact rfl; intro w' hw'; exact rowDc (below_look hw' hp))
  refine wq_ck rfl (fun K hK => ?_); go_simp; refine ⟨_, _, ⟨rfl, rfl⟩, hK _ _ ⟨_, fun w' hw' => calls_class hw' ((fun w' _ => ValidI_any u k R HR w') w' hw'), ?_⟩⟩; clear hK K; simp only [put_lit, List.set_cons_zero, List.set_cons_succ]
  have hRR : (R == R) = true := by cases R <;> rfl
  (with_reducible refine wq_k ?_ ?_); exact rfl; intro K hK; go_simp; (with_reducible refine hK _ ?_); clear hK K
  (with_reducible refine wq_k ?_ ?_); exact rfl; intro K hK; go_simp; (with_reducible refine hK _ ?_); clear hK K
  ((with_reducible apply wq_row); exact rfl; exact rfl; intro w' hw'; exact rowDc (below_look hw' hq3))
  ((with_reducible apply wq_row); exact rfl; exact rfl; intro w' hw'; exact rowDc (below_look hw' hr6))
  (with_reducible refine wq_k ?_ ?_); exact rfl; intro K hK; simp only [dc]; go_simp; (with_reducible refine hK _ ?_); clear hK K
  (with_reducible refine wq_k ?_ ?_); exact rfl; intro K hK; go_simp; (with_reducible refine hK _ ?_); clear hK K
  (with_reducible refine wq_k ?_ ?_); exact rfl; intro K hK; go_simp; (with_reducible refine hK _ ?_); clear hK K
  (with_reducible refine wq_k ?_ ?_); exact rfl; intro K hK; go_simp; (with_reducible refine hK _ ?_); clear hK K
  (with_reducible refine wq_k ?_ ?_); exact rfl; intro K hK; go_simp; (with_reducible refine hK _ ?_); clear hK K
  (with_reducible refine wq_k ?_ ?_); exact rfl; intro K hK; go_simp; (with_reducible refine hK _ ?_); clear hK K
  (with_reducible refine wq_k ?_ ?_); exact rfl; intro K hK; go_simp; (with_reducible refine hK _ ?_); clear hK K
  (with_reducible refine wq_k ?_ ?_); exact rfl; intro K hK; go_simp; (with_reducible refine hK _ ?_); clear hK K
  (with_reducible refine wq_k ?_ ?_); exact rfl; intro K hK; go_simp; (with_reducible refine hK _ ?_); clear hK K
  (with_reducible refine wq_k ?_ ?_); exact rfl; intro K hK; go_simp; (with_reducible refine hK _ ?_); clear hK K
  (with_reducible refine wq_k ?_ ?_); exact rfl; intro K hK; go_simp; (with_reducible refine hK _ ?_); clear hK K
  (with_reducible refine wq_k ?_ ?_); exact rfl; intro K hK; go_simp; (with_reducible refine hK _ ?_); clear hK K
  (with_reducible refine wq_k ?_ ?_); exact rfl; intro K hK; go_simp; (with_reducible refine hK _ ?_); clear hK K
  (with_reducible refine wq_k ?_ ?_); exact rfl; intro K hK; go_simp; (with_reducible refine hK _ ?_); clear hK K
  (with_reducible refine wq_k ?_ ?_); exact rfl; intro K hK; go_simp; (with_reducible refine hK _ ?_); clear hK K
  (with_reducible refine wq_k ?_ ?_); exact rfl; intro K hK; go_simp; (with_reducible refine hK _ ?_); clear hK K
  (with_reducible refine wq_k ?_ ?_); exact rfl; intro K hK; go_simp; (with_reducible refine hK _ ?_); clear hK K
  (with_reducible refine wq_k ?_ ?_); exact rfl; intro K hK; go_simp; (with_reducible refine hK _ ?_); clear hK K
  refine wq_ck rfl (fun K hK => ?_); go_simp; refine ⟨_, _, ⟨rfl, rfl⟩, hK _ _ ⟨_, fun w' hw' => calls_class hw' ((fun w' _ => awake_any w') w' hw'), ?_⟩⟩; clear hK K; simp only [put_lit, List.set_cons_zero, List.set_cons_succ]
  (with_reducible refine wq_k ?_ ?_); exact rfl; intro K hK; go_simp; (with_reducible refine hK _ ?_); clear hK K
  (with_reducible refine wq_k ?_ ?_); exact rfl; intro K hK; go_simp; (with_reducible refine hK _ ?_); clear hK K
  intro w' hw'
  replace hb := hb.trans (hw'.mono hb.size)
  go_wp2_with fail
  go_ret
  exact ⟨rfl, hb⟩
end Go.Proofs.YtclainfdeghgnaaDoor
