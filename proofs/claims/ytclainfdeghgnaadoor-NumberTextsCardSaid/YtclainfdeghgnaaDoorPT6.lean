/- Format of the program. What the rows of this seat share: arguments taken out of a row's input; what the listed variables hold. Contracts of the shelf at this dump, in plain words (written by the kit's own tools; those that are wanted). Parse of the program. What the rows that list strconv's two errors give the walk. The law NumberTexts. -/
import Derived.Lib.AppendIntMem
import Derived.Test.YtclainfdeghgnaaDoorPT5
import Derived.Test.YtclainfdeghgnaaDoorRows
import Derived.Test.YtclainfdeghgnaaDoorTie
import Derived.ProofKit
import Derived.LaidMore
import Derived.OpenShut
import Derived.Stop.Joined
import Derived.SevenTiedAt
import Derived.Lib.SmallJoins
import Derived.Deep.Strs
import Derived.Carry
import Derived.IntWalk
import Derived.Lib.LaidTab
import Derived.MakeChecks
import Derived.Stop.LaidErr
import Derived.Shelf.LaysM
import Derived.Shelf.Strconv.AtoiAll
import Derived.Shelf.Strings.Cut
import Derived.Shelf.Strings.Shaped
import Derived.Test.YtclainfdeghgnaaDoorProg
namespace Go.Proofs.YtclainfdeghgnaaDoor
open Go.RowKit Go.Proofs.YtclainfdeghgnaaDoor.Nm
set_option linter.unusedSimpArgs false
/-- strconv's table of powers stands. -/
def TabW (w : World) : Prop := Lib.TabIs Tryd.prog w "internal/strconv.uint64pow10" .u64 Lib.pow10Tab
theorem TabW.old {w w' : World} (h : TabW w) (hb : Below w.heap.size w w') : TabW w' := by
  unfold TabW Lib.TabIs World.var? at *
  cases hg : Tryd.prog.globalNamed "internal/strconv.uint64pow10" with
  | none => simp [hg] at h
  | some g =>
    simp only [hg, Option.bind_some] at h ⊢
    have hlt : g < w.heap.size := by
      rcases Nat.lt_or_ge g w.heap.size with h' | h'
      · exact h'
      · rw [Array.getElem?_eq_none h'] at h; simp at h
    rw [hb.block g hlt]
    exact h
theorem Itoa_any (u : Int) (h0 : -9223372036854775808 ≤ u) (h1 : u ≤ 9223372036854775807) (w : World) (ht : TabW w) : Calls Tryd.prog 15 #[.int .i64 u] w fun e w' => e = .returned (.string ⟨(Lib.itoa u).toArray⟩) ∧ Below w.heap.size w w' :=
  (Tryd.strconv_Itoa u h0 h1 w ht).mono fun e w' ⟨h, k, os, e2⟩ => ⟨h, by rw [e2]; exact Lib.below_grow _ _ (Nat.le_refl _) _ _⟩
def fmV (u k : Int) : Value := if okD u k = true then .tuple #[.string ⟨(fmtL u k.toNat).toArray⟩, .int .i64 0] else .tuple #[.string ⟨#[]⟩, .int .i64 4]
theorem fm_bad {u k : Int} (h : okD u k = false) : fmV u k = .tuple #[.string ⟨#[]⟩, .int .i64 4] := by unfold fmV; rw [h]; rfl
theorem fm_good {u k : Int} (h : okD u k = true) {m : ByteArray} (e : m.data.toList = fmtL u k.toNat) : fmV u k = .tuple #[.string m, .int .i64 0] := by
  unfold fmV
  rw [if_pos h, ← e]
/-- Digits with some zeros ahead, no more than wanted. -/
def PadS (m : ByteArray) (k : Nat) (D : List UInt8) : Prop := ∃ j, m.data.toList = List.replicate j 48 ++ D ∧ (j = 0 ∨ j + D.length ≤ k + 1)
theorem PadS.start {m : ByteArray} (k : Nat) {D : List UInt8} (h : m.data.toList = D) : PadS m k D := ⟨0, by simpa using h, .inl rfl⟩
theorem bsize (m : ByteArray) : m.size = m.data.toList.length := by rw [Array.length_toList]; rfl
theorem PadS.step {m : ByteArray} {k : Nat} {D : List UInt8} (h : PadS m k D) (hk : m.size ≤ k) : PadS ((⟨#[48]⟩ : ByteArray) ++ m) k D := by
  obtain ⟨j, e, -⟩ := h
  refine ⟨j + 1, ?_, .inr ?_⟩
  · rw [ByteArray.data_append, Array.toList_append, e]; rfl
  · rw [bsize, e] at hk
    simp at hk; omega
theorem PadS.done {m : ByteArray} {k : Nat} {D : List UInt8} (h : PadS m k D) (hk : ¬ m.size ≤ k) : m.data.toList = padW k D := by
  obtain ⟨j, e, h2⟩ := h
  rw [bsize, e] at hk
  simp at hk
  rw [e]
  unfold padW
  congr 2
  omega
theorem itoa_tail {u : Int} (h : u < 0) {m : ByteArray} (hm : m.data.toList = Lib.itoa u) : 1 ≤ m.size ∧ (m.extract 1 m.size).data.toList = Lib.decDigits u.natAbs := by
  rw [itoa_sg] at hm
  unfold sgL at hm
  rw [if_pos h] at hm
  constructor
  · rw [bsize, hm]; simp
  · rw [ByteArray.data_extract, Array.toList_extract, hm, bsize, hm]
    simp
def strSz : Value → Nat
  | .string m => m.size
  | _ => 0
theorem fm_goodN {u : Int} {k : Nat} (h : okD u k = true) {m : ByteArray} (e : m.data.toList = fmtL u k) : fmV u k = .tuple #[.string m, .int .i64 0] := fm_good h (by rw [e]; rfl)
theorem fm_good0 {u : Int} {k : Nat} (h0 : k = 0) (h : okD u k = true) {m : ByteArray} (e : m.data.toList = fmtL u k) : fmV u 0 = .tuple #[.string m, .int .i64 0] := by
  have := fm_goodN h e
  subst h0
  exact this
theorem fmt0 {u : Int} {k : Nat} (h0 : k = 0) {sg m : ByteArray} (hs : sg.data.toList = sgL u) (hm : m.data.toList = padW k (Lib.decDigits u.natAbs)) : (sg ++ m).data.toList = fmtL u k := by
  subst h0
  rw [ByteArray.data_append, Array.toList_append, hs, hm]; rfl
theorem fmt1 {u : Int} {k n : Nat} {sg m : ByteArray} (hk : k ≠ 0) (hs : sg.data.toList = sgL u) (hm : m.data.toList = padW k (Lib.decDigits u.natAbs)) (hn : m.size = n + k) : (((sg ++ m.extract 0 n) ++ ⟨#[46]⟩) ++ m.extract n m.size).data.toList = fmtL u k := by
  rw [ByteArray.data_append, Array.toList_append, ByteArray.data_append, Array.toList_append, ByteArray.data_append, Array.toList_append, hs]
  have e1 : (m.extract 0 n).data.toList = (padW k (Lib.decDigits u.natAbs)).take n := by
    rw [ByteArray.data_extract, Array.toList_extract, hm]; simp
  have e2 : (m.extract n m.size).data.toList = (padW k (Lib.decDigits u.natAbs)).drop n := by
    rw [ByteArray.data_extract, Array.toList_extract, hm, bsize, hm]; simp only [List.extract_eq_take_drop]; exact List.take_of_length_le (by rw [List.length_drop]; exact Nat.le_refl _)
  rw [e1, e2]
  rw [bsize, hm] at hn
  unfold fmtL bodyL
  rw [if_neg hk, hn, Nat.add_sub_cancel]
  simp
theorem PadS.bound {m : ByteArray} {k : Nat} {D : List UInt8} (h : PadS m k D) (hk : (k : Int) ≤ 9) (hD : D.length ≤ 18) : m.size ≤ 18 := by
  obtain ⟨j, e, h2⟩ := h
  rw [bsize, e]
  simp
  omega
theorem digs18 {u : Int} (h1 : -100000000000000000 ≤ u) (h2 : u ≤ 100000000000000000) : (Lib.decDigits u.natAbs).length ≤ 18 := digs_len (m := 17) (by omega)
theorem sg_neg {u : Int} (h : u < 0) : (⟨#[45]⟩ : ByteArray).data.toList = sgL u := by unfold sgL; rw [if_pos h]
theorem sg_pos {u : Int} (h : ¬ u < 0) : (⟨#[]⟩ : ByteArray).data.toList = sgL u := by unfold sgL; rw [if_neg h]
theorem itoa_pos {u : Int} (h : ¬ u < 0) {m : ByteArray} (hm : m.data.toList = Lib.itoa u) : m.data.toList = Lib.decDigits u.natAbs := by
  rw [hm, itoa_sg]; unfold sgL; rw [if_neg h]; rfl
set_option maxHeartbeats 4000000 in
set_option maxRecDepth 100000 in
theorem Format_any (u k : Int) (w : World) (ht : TabW w) : Calls Tryd.prog 7 #[.agg (dc u k)] w fun e w' => e = .returned (fmV u k) ∧ Below w.heap.size w w' := by
  have HTB := Lib.hid ht
  have hb := Below.refl w.heap.size w
  clear ht
  go_enter Tryd.func7, Tryd.ntmps7
  go_upto_region 0 with (fail)
  apply wp_region_lit
  (with_reducible refine wl_boxD rfl ?_); intro W p hbn hlp hp; replace hb := hb.trans (hbn.mono hb.size); clear hbn; simp only [put_lit, List.set_cons_zero, List.set_cons_succ]
  (with_reducible refine wl_k ?_ ?_); exact rfl; intro K hK; go_simp; refine hK _ ?_; clear hK K
  (with_reducible refine wl_k ?_ ?_); exact rfl; intro K hK; go_simp; refine hK _ ?_; clear hK K
  obtain ⟨R, hR⟩ : ∃ R, R = validD u k := ⟨_, rfl⟩
  have HR := Lib.hid hR
  clear hR
  go_upto_region 1 with (fail)
  apply wp_region_lit
  ((with_reducible apply wl_rowG); exact rfl; exact rfl; exact rowDc hp)
  have lthpg := heap_lt hp; (with_reducible refine wl_bsD rfl ?_); intro W3 g hbn hlg hg; replace hp := below_look hbn hp; replace hb := hb.trans (hbn.mono hb.size); clear hbn; simp only [put_lit, List.set_cons_zero, List.set_cons_succ]
  (with_reducible refine wl_ck ?_ ?_); exact rfl; intro K hK; go_simp; refine ⟨_, _, ⟨rfl, rfl⟩, hK _ _ ⟨_, valid_one hg R HR.out, ?_⟩⟩; clear hK K; rintro e w4 ⟨rfl, hb4⟩; refine ⟨_, rfl, ?_⟩; simp only [put_lit, List.set_cons_zero, List.set_cons_succ]
  replace hp := below_look hb4 hp; replace hb := hb.trans (hb4.mono hb.size); clear hb4
  clear hg
  cases R with
  | false =>
    (with_reducible refine wl_k ?_ ?_); exact rfl; intro K hK; go_simp; refine hK _ ?_; clear hK K
    have HV := Lib.hid (fm_bad HR.out.symm)
    go_upto_region 2 with (fail)
    apply wp_region_lit
    (with_reducible refine wl_k ?_ ?_); exact rfl; intro K hK; go_simp; refine hK _ ?_; clear hK K
    (with_reducible refine wl_k ?_ ?_); exact rfl; intro K hK; go_simp; refine hK _ ?_; clear hK K
    go_wp2_with fail
    go_ret2
    exact ⟨by rw [HV.out]; rfl, hb⟩
  | true =>
    (with_reducible refine wl_k ?_ ?_); exact rfl; intro K hK; go_simp; refine hK _ ?_; clear hK K
    obtain ⟨k0, hk0⟩ : ∃ n : Nat, k = (n : Int) := ⟨k.toNat, by have := (okD_iff.1 HR.out.symm).2.2.1; omega⟩
    subst hk0
    obtain ⟨n1, n2, -, n4⟩ := okD_iff.1 HR.out.symm
    have HO := Lib.hid (show okD u k0 = true from HR.out.symm)
    obtain ⟨m, hm⟩ : ∃ m : ByteArray, m = ⟨(Lib.itoa u).toArray⟩ := ⟨_, rfl⟩
    have HM : Hid (m.data.toList = Lib.itoa u) := Lib.hid (by rw [hm])
    have hit := Itoa_any u (by omega) (by omega) w4 (HTB.out.old hb)
    rw [← hm] at hit
    have HI := Lib.hid hit
    clear hit hm
    go_upto_region 3 with (fail)
    apply wp_region_lit
    (with_reducible refine wl_k ?_ ?_); exact rfl; intro K hK; go_simp; refine hK _ ?_; clear hK K
    ((with_reducible apply wl_oneG); exact rfl; exact rfl; exact fD0 hp)
    (with_reducible refine wl_ck ?_ ?_); exact rfl; intro K hK; go_simp; refine ⟨_, _, ⟨rfl, rfl⟩, hK _ _ ⟨_, HI.out, ?_⟩⟩; clear hK K; rintro e w5 ⟨rfl, hb5⟩; refine ⟨_, rfl, ?_⟩; simp only [put_lit, List.set_cons_zero, List.set_cons_succ]
    replace hp := below_look hb5 hp; replace hb := hb.trans (hb5.mono hb.size); clear hb5
    clear HI
    (with_reducible refine wl_k ?_ ?_); exact rfl; intro K hK; go_simp; refine hK _ ?_; clear hK K
    (with_reducible refine wl_k ?_ ?_); exact rfl; intro K hK; go_simp; refine hK _ ?_; clear hK K
    go_upto_region 4 with (fail)
    by_cases hu : u < 0
    · apply wp_region_lit
      (with_reducible refine wl_k ?_ ?_); exact rfl; intro K hK; go_simp; refine hK _ ?_; clear hK K
      ((with_reducible apply wl_oneG); exact rfl; exact rfl; exact fD0 hp)
      (with_reducible refine wl_k ?_ ?_); exact rfl; intro K hK; go_simp; refine hK _ ?_; clear hK K
      obtain ⟨hm1, hm2⟩ := itoa_tail hu HM.out
      have hmI : (1 : Int) ≤ (m.size : Int) := by omega
      have HS := Lib.hid (sg_neg hu)
      go_upto_region 5 with (fail)
      refine wp_region_belowAll mixed (by kernel_rfl) ?_
      (with_reducible refine wq_k ?_ ?_); exact rfl; intro K hK; go_simp; (with_reducible refine hK _ ?_); clear hK K
      (with_reducible refine wq_k ?_ ?_); exact rfl; intro K hK; go_simp; (with_reducible refine hK _ ?_); clear hK K
      (with_reducible refine wq_k ?_ ?_); exact rfl; intro K hK; go_simp; (with_reducible refine hK _ ?_); clear hK K
      (with_reducible refine wq_k ?_ ?_); exact rfl; intro K hK; go_simp; (with_reducible refine hK _ ?_); clear hK K
      intro w' hw'
      replace hp := below_look hw' hp
      replace hb := hb.trans (hw'.mono hb.size)
      have HW := Lib.hid hm2
      clear hm2 HM hw' hmI hm1
      go_wp2_with fail
      go_loopw [5] (fun v wr => ∃ m' : ByteArray, v = .string m' ∧ Hid (PadS m' k0 (Lib.decDigits u.natAbs)) ∧ wr.heap[p]? = some (.cells (dc u (k0 : Int)) 23 (0, 0)) ∧ Below w.heap.size w wr) (fun v _ => k0 + 1 - strSz v)
      case atStart => exact ⟨_, rfl, Lib.hid (PadS.start k0 HW.out), hp, hb⟩
      case round =>
        clear hp hb HW
        obtain ⟨m', rfl, HPD, hp, hb⟩ := hrel
        have hsz := HPD.out.bound n4 (digs18 n1 n2)
        have hc0 : ¬ 9223372036854775807 < m'.size := by omega
        have hc1 : ¬ 9223372036854775807 < 1 + m'.size := by omega
        go_upto_region 6 with (fail)
        by_cases hle : m'.size ≤ k0
        · have hleI : (m'.size : Int) ≤ (k0 : Int) := by omega
          apply wp_region_lit
          (with_reducible refine wl_k ?_ ?_); exact rfl; intro K hK; go_simp; refine hK _ ?_; clear hK K
          (with_reducible refine wl_k ?_ ?_); exact rfl; intro K hK; go_simp; refine hK _ ?_; clear hK K
          (with_reducible refine wl_k ?_ ?_); exact rfl; intro K hK; go_simp; refine hK _ ?_; clear hK K
          ((with_reducible apply wl_oneG); exact rfl; exact rfl; exact fD1 hp)
          (with_reducible refine wl_k ?_ ?_); exact rfl; intro K hK; go_simp; refine hK _ ?_; clear hK K
          have HN := Lib.hid (HPD.out.step hle)
          have HMS : Hid (k0 + 1 - ((⟨#[48]⟩ : ByteArray) ++ m').size < k0 + 1 - m'.size) := Lib.hid (by rw [ByteArray.size_append]; show k0 + 1 - (1 + m'.size) < _; omega)
          go_upto_region 7 with (fail)
          apply wp_region_lit
          (with_reducible refine wl_k ?_ ?_); exact rfl; intro K hK; go_simp; refine hK _ ?_; clear hK K
          (with_reducible refine wl_k ?_ ?_); exact rfl; intro K hK; go_simp; refine hK _ ?_; clear hK K
          (with_reducible refine wl_k ?_ ?_); exact rfl; intro K hK; go_simp; refine hK _ ?_; clear hK K
          go_wp2_with fail
          go_roundw
          case rel => exact ⟨_, rfl, HN, hp, hb⟩
          case measure => exact HMS.out
        · have hleI : ¬ (m'.size : Int) ≤ (k0 : Int) := by omega
          apply wp_region_lit
          (with_reducible refine wl_k ?_ ?_); exact rfl; intro K hK; go_simp; refine hK _ ?_; clear hK K
          (with_reducible refine wl_k ?_ ?_); exact rfl; intro K hK; go_simp; refine hK _ ?_; clear hK K
          (with_reducible refine wl_k ?_ ?_); exact rfl; intro K hK; go_simp; refine hK _ ?_; clear hK K
          ((with_reducible apply wl_oneG); exact rfl; exact rfl; exact fD1 hp)
          (with_reducible refine wl_k ?_ ?_); exact rfl; intro K hK; go_simp; refine hK _ ?_; clear hK K
          have HD : Hid (m'.data.toList = padW k0 (Lib.decDigits u.natAbs)) := Lib.hid (HPD.out.done hle)
          clear HPD
          go_upto_region 8 with (fail)
          by_cases h0 : k0 = 0
          · have h0I : (k0 : Int) = 0 := by omega
            apply wp_region_lit
            (with_reducible refine wl_k ?_ ?_); exact rfl; intro K hK; go_simp; refine hK _ ?_; clear hK K
            ((with_reducible apply wl_oneG); exact rfl; exact rfl; exact fD1 hp)
            (with_reducible refine wl_k ?_ ?_); exact rfl; intro K hK; go_simp; refine hK _ ?_; clear hK K
            go_upto_region 9 with (fail)
            apply wp_region_lit
            (with_reducible refine wl_k ?_ ?_); exact rfl; intro K hK; go_simp; refine hK _ ?_; clear hK K
            (with_reducible refine wl_k ?_ ?_); exact rfl; intro K hK; go_simp; refine hK _ ?_; clear hK K
            (with_reducible refine wl_k ?_ ?_); exact rfl; intro K hK; go_simp; refine hK _ ?_; clear hK K
            (with_reducible refine wl_k ?_ ?_); exact rfl; intro K hK; go_simp; refine hK _ ?_; clear hK K
            (with_reducible refine wl_k ?_ ?_); exact rfl; intro K hK; go_simp; refine hK _ ?_; clear hK K
            have HV := Lib.hid (fm_good0 h0 HO.out (m := (⟨#[45]⟩ : ByteArray) ++ m') (fmt0 h0 HS.out HD.out))
            go_wp2_with fail
            go_ret2
            exact ⟨by rw [HV.out]; rfl, hb⟩
          · have h0I : ¬ (k0 : Int) = 0 := by omega
            apply wp_region_lit
            (with_reducible refine wl_k ?_ ?_); exact rfl; intro K hK; go_simp; refine hK _ ?_; clear hK K
            ((with_reducible apply wl_oneG); exact rfl; exact rfl; exact fD1 hp)
            (with_reducible refine wl_k ?_ ?_); exact rfl; intro K hK; go_simp; refine hK _ ?_; clear hK K
            go_upto_region 10 with (fail)
            obtain ⟨n, hn⟩ : ∃ n, m'.size = n + k0 := ⟨m'.size - k0, by omega⟩
            have hwq : IntKind.i64.wrap ((m'.size : Int) - (k0 : Int)) = (n : Int) := by rw [hn]; rw [IntWalk.i64_in _ (by omega)]; omega
            have hnI : (n : Int) ≤ (m'.size : Int) := by omega
            have HNN := Lib.hid hn
            clear hn
            apply wp_region_lit
            (with_reducible refine wl_k ?_ ?_); exact rfl; intro K hK; go_simp; refine hK _ ?_; clear hK K
            (with_reducible refine wl_k ?_ ?_); exact rfl; intro K hK; go_simp; refine hK _ ?_; clear hK K
            (with_reducible refine wl_k ?_ ?_); exact rfl; intro K hK; go_simp; refine hK _ ?_; clear hK K
            ((with_reducible apply wl_oneG); exact rfl; exact rfl; exact fD1 hp)
            (with_reducible refine wl_k ?_ ?_); exact rfl; intro K hK; go_simp; refine hK _ ?_; clear hK K
            (with_reducible refine wl_k ?_ ?_); exact rfl; intro K hK; go_simp; refine hK _ ?_; clear hK K
            go_upto_region 11 with (fail)
            refine wp_region_belowAll mixed (by kernel_rfl) ?_
            (with_reducible refine wq_k ?_ ?_); exact rfl; intro K hK; go_simp; (with_reducible refine hK _ ?_); clear hK K
            (with_reducible refine wq_k ?_ ?_); exact rfl; intro K hK; go_simp; (with_reducible refine hK _ ?_); clear hK K
            (with_reducible refine wq_k ?_ ?_); exact rfl; intro K hK; go_simp; (with_reducible refine hK _ ?_); clear hK K
            (with_reducible refine wq_k ?_ ?_); exact rfl; intro K hK; go_simp; (with_reducible refine hK _ ?_); clear hK K
            (with_reducible refine wq_k ?_ ?_); exact rfl; intro K hK; go_simp; (first | (with_reducible refine hK _ ?_) | (refine ⟨_, fun w => if_neg (by omega), hK _ ?_⟩)); clear hK K
            (with_reducible refine wq_k ?_ ?_); exact rfl; intro K hK; go_simp; (first | (with_reducible refine hK _ ?_) | (refine ⟨_, fun w => if_neg (by omega), hK _ ?_⟩)); clear hK K
            (with_reducible refine wq_k ?_ ?_); exact rfl; intro K hK; go_simp; (with_reducible refine hK _ ?_); clear hK K
            (with_reducible refine wq_k ?_ ?_); exact rfl; intro K hK; go_simp; (with_reducible refine hK _ ?_); clear hK K
            (with_reducible refine wq_k ?_ ?_); exact rfl; intro K hK; go_simp; (with_reducible refine hK _ ?_); clear hK K
            (with_reducible refine wq_k ?_ ?_); exact rfl; intro K hK; go_simp; (first | (with_reducible refine hK _ ?_) | (refine ⟨_, fun w => if_neg (by omega), hK _ ?_⟩)); clear hK K
            (with_reducible refine wq_k ?_ ?_); exact rfl; intro K hK; go_simp; (with_reducible refine hK _ ?_); clear hK K
            (with_reducible refine wq_k ?_ ?_); exact rfl; intro K hK; go_simp; (with_reducible refine hK _ ?_); clear hK K
            intro w' hw'
            replace hb := hb.trans (hw'.mono hb.size)
            have HV := Lib.hid (fm_goodN HO.out (fmt1 (sg := (⟨#[45]⟩ : ByteArray)) h0 HS.out HD.out HNN.out))
            go_wp2_with fail
            go_ret2
            exact ⟨by rw [HV.out]; rfl, hb⟩
    · apply wp_region_lit
      (with_reducible refine wl_k ?_ ?_); exact rfl; intro K hK; go_simp; refine hK _ ?_; clear hK K
      ((with_reducible apply wl_oneG); exact rfl; exact rfl; exact fD0 hp)
      (with_reducible refine wl_k ?_ ?_); exact rfl; intro K hK; go_simp; refine hK _ ?_; clear hK K
      have HS := Lib.hid (sg_pos hu)
      have HW := Lib.hid (itoa_pos hu HM.out)
      clear HM
      go_wp2_with fail
      go_loopw [5] (fun v wr => ∃ m' : ByteArray, v = .string m' ∧ Hid (PadS m' k0 (Lib.decDigits u.natAbs)) ∧ wr.heap[p]? = some (.cells (dc u (k0 : Int)) 23 (0, 0)) ∧ Below w.heap.size w wr) (fun v _ => k0 + 1 - strSz v)
      case atStart => exact ⟨_, rfl, Lib.hid (PadS.start k0 HW.out), hp, hb⟩
      case round =>
        clear hp hb HW
        obtain ⟨m', rfl, HPD, hp, hb⟩ := hrel
        have hsz := HPD.out.bound n4 (digs18 n1 n2)
        have hc0 : ¬ 9223372036854775807 < m'.size := by omega
        have hc1 : ¬ 9223372036854775807 < 1 + m'.size := by omega
        go_upto_region 6 with (fail)
        by_cases hle : m'.size ≤ k0
        · have hleI : (m'.size : Int) ≤ (k0 : Int) := by omega
          apply wp_region_lit
          (with_reducible refine wl_k ?_ ?_); exact rfl; intro K hK; go_simp; refine hK _ ?_; clear hK K
          (with_reducible refine wl_k ?_ ?_); exact rfl; intro K hK; go_simp; refine hK _ ?_; clear hK K
          (with_reducible refine wl_k ?_ ?_); exact rfl; intro K hK; go_simp; refine hK _ ?_; clear hK K
          ((with_reducible apply wl_oneG); exact rfl; exact rfl; exact fD1 hp)
          (with_reducible refine wl_k ?_ ?_); exact rfl; intro K hK; go_simp; refine hK _ ?_; clear hK K
          have HN := Lib.hid (HPD.out.step hle)
          have HMS : Hid (k0 + 1 - ((⟨#[48]⟩ : ByteArray) ++ m').size < k0 + 1 - m'.size) := Lib.hid (by rw [ByteArray.size_append]; show k0 + 1 - (1 + m'.size) < _; omega)
          go_upto_region 7 with (fail)
          apply wp_region_lit
          (with_reducible refine wl_k ?_ ?_); exact rfl; intro K hK; go_simp; refine hK _ ?_; clear hK K
          (with_reducible refine wl_k ?_ ?_); exact rfl; intro K hK; go_simp; refine hK _ ?_; clear hK K
          (with_reducible refine wl_k ?_ ?_); exact rfl; intro K hK; go_simp; refine hK _ ?_; clear hK K
          go_wp2_with fail
          go_roundw
          case rel => exact ⟨_, rfl, HN, hp, hb⟩
          case measure => exact HMS.out
        · have hleI : ¬ (m'.size : Int) ≤ (k0 : Int) := by omega
          apply wp_region_lit
          (with_reducible refine wl_k ?_ ?_); exact rfl; intro K hK; go_simp; refine hK _ ?_; clear hK K
          (with_reducible refine wl_k ?_ ?_); exact rfl; intro K hK; go_simp; refine hK _ ?_; clear hK K
          (with_reducible refine wl_k ?_ ?_); exact rfl; intro K hK; go_simp; refine hK _ ?_; clear hK K
          ((with_reducible apply wl_oneG); exact rfl; exact rfl; exact fD1 hp)
          (with_reducible refine wl_k ?_ ?_); exact rfl; intro K hK; go_simp; refine hK _ ?_; clear hK K
          have HD : Hid (m'.data.toList = padW k0 (Lib.decDigits u.natAbs)) := Lib.hid (HPD.out.done hle)
          clear HPD
          go_upto_region 8 with (fail)
          by_cases h0 : k0 = 0
          · have h0I : (k0 : Int) = 0 := by omega
            apply wp_region_lit
            (with_reducible refine wl_k ?_ ?_); exact rfl; intro K hK; go_simp; refine hK _ ?_; clear hK K
            ((with_reducible apply wl_oneG); exact rfl; exact rfl; exact fD1 hp)
            (with_reducible refine wl_k ?_ ?_); exact rfl; intro K hK; go_simp; refine hK _ ?_; clear hK K
            go_upto_region 9 with (fail)
            apply wp_region_lit
            (with_reducible refine wl_k ?_ ?_); exact rfl; intro K hK; go_simp; refine hK _ ?_; clear hK K
            (with_reducible refine wl_k ?_ ?_); exact rfl; intro K hK; go_simp; refine hK _ ?_; clear hK K
            (with_reducible refine wl_k ?_ ?_); exact rfl; intro K hK; go_simp; refine hK _ ?_; clear hK K
            (with_reducible refine wl_k ?_ ?_); exact rfl; intro K hK; go_simp; refine hK _ ?_; clear hK K
            (with_reducible refine wl_k ?_ ?_); exact rfl; intro K hK; go_simp; refine hK _ ?_; clear hK K
            have HV := Lib.hid (fm_good0 h0 HO.out (m := (⟨#[]⟩ : ByteArray) ++ m') (fmt0 h0 HS.out HD.out))
            go_wp2_with fail
            go_ret2
            exact ⟨by rw [HV.out]; rfl, hb⟩
          · have h0I : ¬ (k0 : Int) = 0 := by omega
            apply wp_region_lit
            (with_reducible refine wl_k ?_ ?_); exact rfl; intro K hK; go_simp; refine hK _ ?_; clear hK K
            ((with_reducible apply wl_oneG); exact rfl; exact rfl; exact fD1 hp)
            (with_reducible refine wl_k ?_ ?_); exact rfl; intro K hK; go_simp; refine hK _ ?_; clear hK K
            go_upto_region 10 with (fail)
            obtain ⟨n, hn⟩ : ∃ n, m'.size = n + k0 := ⟨m'.size - k0, by omega⟩
            have hwq : IntKind.i64.wrap ((m'.size : Int) - (k0 : Int)) = (n : Int) := by rw [hn]; rw [IntWalk.i64_in _ (by omega)]; omega
            have hnI : (n : Int) ≤ (m'.size : Int) := by omega
            have HNN := Lib.hid hn
            clear hn
            apply wp_region_lit
            (with_reducible refine wl_k ?_ ?_); exact rfl; intro K hK; go_simp; refine hK _ ?_; clear hK K
            (with_reducible refine wl_k ?_ ?_); exact rfl; intro K hK; go_simp; refine hK _ ?_; clear hK K
            (with_reducible refine wl_k ?_ ?_); exact rfl; intro K hK; go_simp; refine hK _ ?_; clear hK K
            ((with_reducible apply wl_oneG); exact rfl; exact rfl; exact fD1 hp)
            (with_reducible refine wl_k ?_ ?_); exact rfl; intro K hK; go_simp; refine hK _ ?_; clear hK K
            (with_reducible refine wl_k ?_ ?_); exact rfl; intro K hK; go_simp; refine hK _ ?_; clear hK K
            go_upto_region 11 with (fail)
            refine wp_region_belowAll mixed (by kernel_rfl) ?_
            (with_reducible refine wq_k ?_ ?_); exact rfl; intro K hK; go_simp; (with_reducible refine hK _ ?_); clear hK K
            (with_reducible refine wq_k ?_ ?_); exact rfl; intro K hK; go_simp; (with_reducible refine hK _ ?_); clear hK K
            (with_reducible refine wq_k ?_ ?_); exact rfl; intro K hK; go_simp; (with_reducible refine hK _ ?_); clear hK K
            (with_reducible refine wq_k ?_ ?_); exact rfl; intro K hK; go_simp; (with_reducible refine hK _ ?_); clear hK K
            (with_reducible refine wq_k ?_ ?_); exact rfl; intro K hK; go_simp; (first | (with_reducible refine hK _ ?_) | (refine ⟨_, fun w => if_neg (by omega), hK _ ?_⟩)); clear hK K
            (with_reducible refine wq_k ?_ ?_); exact rfl; intro K hK; go_simp; (first | (with_reducible refine hK _ ?_) | (refine ⟨_, fun w => if_neg (by omega), hK _ ?_⟩)); clear hK K
            (with_reducible refine wq_k ?_ ?_); exact rfl; intro K hK; go_simp; (with_reducible refine hK _ ?_); clear hK K
            (with_reducible refine wq_k ?_ ?_); exact rfl; intro K hK; go_simp; (with_reducible refine hK _ ?_); clear hK K
            (with_reducible refine wq_k ?_ ?_); exact rfl; intro K hK; go_simp; (with_reducible refine hK _ ?_); clear hK K
            (with_reducible refine wq_k ?_ ?_); exact rfl; intro K hK; go_simp; (first | (with_reducible refine hK _ ?_) | (refine ⟨_, fun w => if_neg (by omega), hK _ ?_⟩)); clear hK K
            (with_reducible refine wq_k ?_ ?_); exact rfl; intro K hK; go_simp; (with_reducible refine hK _ ?_); clear hK K
            (with_reducible refine wq_k ?_ ?_); exact rfl; intro K hK; go_simp; (with_reducible refine hK _ ?_); clear hK K
            intro w' hw'
            replace hb := hb.trans (hw'.mono hb.size)
            have HV := Lib.hid (fm_goodN HO.out (fmt1 (sg := (⟨#[]⟩ : ByteArray)) h0 HS.out HD.out HNN.out))
            go_wp2_with fail
            go_ret2
            exact ⟨by rw [HV.out]; rfl, hb⟩
end Go.Proofs.YtclainfdeghgnaaDoor
namespace Go.Proofs.YtclainfdeghgnaaDoor
open Go.ChangeShapes Go.WideShapes Go.ChangeAt Go.RowKit
theorem own0 : ownKnob Tryd.prog.godebug = none := by kernel_rfl
theorem row_u9 : Tryd.prog.underlying 9 = some .string := by kernel_rfl
theorem row_u3 : Tryd.prog.underlying 3 = some (.int .i64) := by kernel_rfl
theorem row_u4 : Tryd.prog.underlying 4 = some .bool := by kernel_rfl
theorem laidOut0 : laidOutB Tryd.prog = true := by kernel_rfl
theorem cells3 : Tryd.prog.cellsOf 3 = 1 := by kernel_rfl
theorem fields2 {fs : Array Field} {a b : Nat × Nat} (h : fs.toList.map (fun f => (f.type, f.offset)) = [a, b]) : ∃ f0 f1, fs = #[f0, f1] ∧ (f0.type, f0.offset) = a ∧ (f1.type, f1.offset) = b := by
  obtain ⟨l⟩ := fs
  match l, h with
  | [f0, f1], h => simp at h; exact ⟨f0, f1, rfl, by simp [h.1], by simp [h.2]⟩
theorem flds23 : (Tryd.prog.fieldsOf 23).toList.map (fun f => (f.type, f.offset)) = [(3, 0), (3, 1)] := by kernel_rfl
theorem u23r : Tryd.prog.underlying 23 = some (.struct (Tryd.prog.fieldsOf 23)) := by kernel_rfl
theorem cells23 : Tryd.prog.cellsOf 23 = 2 := by kernel_rfl
section
variable {H : Type} {enc : TypeId × Value → H} {w : World} {base b0 : Nat} {sp : Nat → Bool} {held : Bool} {r : Reach} {v : Value} {d : DataW H} {p : List MemPlace}
set_option maxRecDepth 100000 in
theorem open_dec (hv : Value.okWide Tryd.prog w r b0 23 v) (h : DataW.Trod enc Tryd.prog w base sp held 23 v d p) : ∃ u k : Int, v = .agg (dc u k) := by
  obtain ⟨cs, rfl, hsz⟩ := okWide_struct u23r hv
  obtain ⟨c0, c1, rfl⟩ := Joins.array2 (hsz.trans cells23)
  obtain ⟨fuel, hf⟩ := h
  obtain ⟨f0, f1, hfs, e0, e1⟩ := fields2 flds23
  simp only [Prod.mk.injEq] at e0 e1
  have hu := u23r
  rw [hfs] at hu
  obtain ⟨y0, y1, n, hx, _, h0, h1⟩ := trod_struct2 hu hf
  rw [e0.1, e0.2, cells3] at h0
  rw [e1.1, e1.2, cells3] at h1
  obtain ⟨u, hu', _, wu⟩ := DataW.trod_int row_u3 h0
  obtain ⟨k, hk', _, wk⟩ := DataW.trod_int row_u3 h1
  simp [Value.cells] at hu' hk'
  subst hu' hk'
  exact ⟨_, _, rfl⟩
end
theorem gT : Tryd.prog.globalNamed "internal/strconv.uint64pow10" = some 3 := by kernel_rfl
theorem gTType : (Tryd.prog.globals[3]?).map (·.type) = some 135 := by kernel_rfl
theorem u135 : Tryd.prog.underlying 135 = some (.array 20 55) := by kernel_rfl
theorem u55 : Tryd.prog.underlying 55 = some (.int .u64) := by kernel_rfl
theorem cells55 : Tryd.prog.cellsOf 55 = 1 := by kernel_rfl
theorem cells135 : Tryd.prog.cellsOf 135 = 20 := by kernel_rfl
end Go.Proofs.YtclainfdeghgnaaDoor
namespace Go.Proofs
open Go.Shelf Go.RowKit Go.Lib
def Tryd.laysC172_ren : Go.Shelf.Ren := ⟨fun | 172 => 21 | 244 => 43 | 245 => 44 | 247 => 73 | 279 => 74 | 280 => 75 | 281 => 76 | 282 => 77 | 287 => 91 | 316 => 92 | 171 => 15 | 205 => 93 | 321 => 103 | 322 => 104 | 243 => 24 | 246 => 46 | 283 => 78 | 284 => 79 | 285 => 80 | 286 => 81 | 129 => 95 | 317 => 94 | 318 => 96 | 319 => 97 | 320 => 98 | 337 => 105 | 338 => 106 | n => n, fun | 9 => 9 | 3 => 3 | 75 => 46 | 76 => 47 | 4 => 4 | 5 => 5 | 167 => 109 | 37 => 54 | 0 => 0 | 85 => 110 | 2 => 2 | 168 => 112 | 53 => 55 | 175 => 128 | 46 => 57 | 210 => 132 | 127 => 124 | 145 => 146 | 143 => 144 | 21 => 21 | 171 => 115 | 173 => 118 | 212 => 135 | 51 => 53 | 20 => 20 | 213 => 136 | 232 => 149 | 233 => 66 | 80 => 75 | n => n, fun | 15 => 1 | 16 => 2 | 17 => 3 | 18 => 4 | 19 => 5 | n => n⟩
theorem Tryd.laysC172 : Go.Proofs.LaysC.n172 Tryd.prog Tryd.laysC172_ren := {
  mixed := by kernel_rfl
  f129 := Tryd.func95.trans (congrArg some (by kernel_rfl))
  f171 := Tryd.func15.trans (congrArg some (by kernel_rfl))
  f172 := Tryd.func21.trans (congrArg some (by kernel_rfl))
  f205 := Tryd.func93.trans (congrArg some (by kernel_rfl))
  f243 := Tryd.func24.trans (congrArg some (by kernel_rfl))
  f244 := Tryd.func43.trans (congrArg some (by kernel_rfl))
  f245 := Tryd.func44.trans (congrArg some (by kernel_rfl))
  f246 := Tryd.func46.trans (congrArg some (by kernel_rfl))
  f247 := Tryd.func73.trans (congrArg some (by kernel_rfl))
  f279 := Tryd.func74.trans (congrArg some (by kernel_rfl))
  f280 := Tryd.func75.trans (congrArg some (by kernel_rfl))
  f281 := Tryd.func76.trans (congrArg some (by kernel_rfl))
  f282 := Tryd.func77.trans (congrArg some (by kernel_rfl))
  f283 := Tryd.func78.trans (congrArg some (by kernel_rfl))
  f284 := Tryd.func79.trans (congrArg some (by kernel_rfl))
  f285 := Tryd.func80.trans (congrArg some (by kernel_rfl))
  f286 := Tryd.func81.trans (congrArg some (by kernel_rfl))
  f287 := Tryd.func91.trans (congrArg some (by kernel_rfl))
  f316 := Tryd.func92.trans (congrArg some (by kernel_rfl))
  f317 := Tryd.func94.trans (congrArg some (by kernel_rfl))
  f318 := Tryd.func96.trans (congrArg some (by kernel_rfl))
  f319 := Tryd.func97.trans (congrArg some (by kernel_rfl))
  f320 := Tryd.func98.trans (congrArg some (by kernel_rfl))
  f321 := Tryd.func103.trans (congrArg some (by kernel_rfl))
  f322 := Tryd.func104.trans (congrArg some (by kernel_rfl))
  f337 := Tryd.func105.trans (congrArg some (by kernel_rfl))
  f338 := Tryd.func106.trans (congrArg some (by kernel_rfl))
  t0 := Tryd.underlying0
  a0 := Tryd.isAgg0
  z0 := Tryd.sizeOf0
  v0 := Tryd.zeroValue0
  t2 := Tryd.underlying2
  a2 := Tryd.isAgg2
  z2 := Tryd.sizeOf2
  v2 := Tryd.zeroValue2
  t3 := Tryd.underlying3
  a3 := Tryd.isAgg3
  z3 := Tryd.sizeOf3
  v3 := Tryd.zeroValue3
  t4 := Tryd.underlying4
  a4 := Tryd.isAgg4
  z4 := Tryd.sizeOf4
  v4 := Tryd.zeroValue4
  t5 := Tryd.underlying5
  a5 := Tryd.isAgg5
  z5 := Tryd.sizeOf5
  v5 := Tryd.zeroValue5
  t9 := Tryd.underlying9
  a9 := Tryd.isAgg9
  z9 := Tryd.sizeOf9
  v9 := Tryd.zeroValue9
  t20 := Tryd.underlying20
  a20 := Tryd.isAgg20
  z20 := Tryd.sizeOf20
  v20 := Tryd.zeroValue20
  t21 := Tryd.underlying21
  a21 := Tryd.isAgg21
  z21 := Tryd.sizeOf21
  v21 := Tryd.zeroValue21
  t37 := Tryd.underlying54
  a37 := Tryd.isAgg54
  z37 := Tryd.sizeOf54
  v37 := Tryd.zeroValue54
  t46 := Tryd.underlying57
  a46 := Tryd.isAgg57
  z46 := Tryd.sizeOf57
  v46 := Tryd.zeroValue57
  t51 := Tryd.underlying53
  a51 := Tryd.isAgg53
  z51 := Tryd.sizeOf53
  v51 := Tryd.zeroValue53
  t53 := Tryd.underlying55
  a53 := Tryd.isAgg55
  z53 := Tryd.sizeOf55
  v53 := Tryd.zeroValue55
  t75 := Tryd.underlying46
  a75 := Tryd.isAgg46
  z75 := Tryd.sizeOf46
  v75 := Tryd.zeroValue46
  t76 := Tryd.underlying47
  a76 := Tryd.isAgg47
  z76 := Tryd.sizeOf47
  v76 := Tryd.zeroValue47
  t85 := Tryd.underlying110
  a85 := Tryd.isAgg110
  z85 := Tryd.sizeOf110
  v85 := Tryd.zeroValue110
  t127 := Tryd.underlying124
  a127 := Tryd.isAgg124
  z127 := Tryd.sizeOf124
  v127 := Tryd.zeroValue124
  t143 := Tryd.underlying144
  a143 := Tryd.isAgg144
  z143 := Tryd.sizeOf144
  v143 := Tryd.zeroValue144
  t145 := Tryd.underlying146
  a145 := Tryd.isAgg146
  z145 := Tryd.sizeOf146
  v145 := Tryd.zeroValue146
  t167 := Tryd.underlying109
  a167 := Tryd.isAgg109
  z167 := Tryd.sizeOf109
  v167 := Tryd.zeroValue109
  t168 := Tryd.underlying112
  a168 := Tryd.isAgg112
  z168 := Tryd.sizeOf112
  v168 := Tryd.zeroValue112
  t171 := Tryd.underlying115
  a171 := Tryd.isAgg115
  z171 := Tryd.sizeOf115
  v171 := Tryd.zeroValue115
  t173 := Tryd.underlying118
  a173 := Tryd.isAgg118
  z173 := Tryd.sizeOf118
  v173 := Tryd.zeroValue118
  t175 := Tryd.underlying128
  a175 := Tryd.isAgg128
  z175 := Tryd.sizeOf128
  v175 := Tryd.zeroValue128
  t210 := Tryd.underlying132
  a210 := Tryd.isAgg132
  z210 := Tryd.sizeOf132
  v210 := Tryd.zeroValue132
  t212 := Tryd.underlying135
  a212 := Tryd.isAgg135
  z212 := Tryd.sizeOf135
  v212 := Tryd.zeroValue135
  t213 := Tryd.underlying136
  a213 := Tryd.isAgg136
  z213 := Tryd.sizeOf136
  t232 := Tryd.underlying149
  a232 := Tryd.isAgg149
  z232 := Tryd.sizeOf149
  v232 := Tryd.zeroValue149
  t233 := Tryd.underlying66
  a233 := Tryd.isAgg66
  z233 := Tryd.sizeOf66
  v233 := Tryd.zeroValue66
  g15 := by kernel_rfl
  g16 := by kernel_rfl
  g17 := by kernel_rfl
  g18 := by kernel_rfl
  g19 := by kernel_rfl
  t80 := Tryd.underlying75
  a80 := Tryd.isAgg75
  z80 := Tryd.sizeOf75
  v80 := Tryd.zeroValue75
  i0 := by kernel_rfl
  i2 := by kernel_rfl
  i3 := by kernel_rfl
  i4 := by kernel_rfl
  i5 := by kernel_rfl
  i9 := by kernel_rfl
  i20 := by kernel_rfl
  i21 := by kernel_rfl
  i37 := by kernel_rfl
  i46 := by kernel_rfl
  i51 := by kernel_rfl
  i53 := by kernel_rfl
  i75 := by kernel_rfl
  i76 := by kernel_rfl
  i80 := by kernel_rfl
  i85 := by kernel_rfl
  i127 := by kernel_rfl
  i143 := by kernel_rfl
  i145 := by kernel_rfl
  i167 := by kernel_rfl
  i168 := by kernel_rfl
  i171 := by kernel_rfl
  i173 := by kernel_rfl
  i175 := by kernel_rfl
  i210 := by kernel_rfl
  i212 := by kernel_rfl
  i232 := by kernel_rfl
  i233 := by kernel_rfl
  m15 := by kernel_rfl
  m16 := by kernel_rfl
  m17 := by kernel_rfl
  m18 := by kernel_rfl
  m19 := by kernel_rfl
  c0 := by kernel_rfl
  c2 := by kernel_rfl
  c3 := by kernel_rfl
  c4 := by kernel_rfl
  c5 := by kernel_rfl
  c9 := by kernel_rfl
  c20 := by kernel_rfl
  c21 := by kernel_rfl
  c37 := by kernel_rfl
  c46 := by kernel_rfl
  c51 := by kernel_rfl
  c53 := by kernel_rfl
  c75 := by kernel_rfl
  c76 := by kernel_rfl
  c80 := by kernel_rfl
  c85 := by kernel_rfl
  c127 := by kernel_rfl
  c143 := by kernel_rfl
  c145 := by kernel_rfl
  c167 := by kernel_rfl
  c168 := by kernel_rfl
  c171 := by kernel_rfl
  c173 := by kernel_rfl
  c175 := by kernel_rfl
  c210 := by kernel_rfl
  c212 := by kernel_rfl
  c213 := by kernel_rfl
  c232 := by kernel_rfl
  c233 := by kernel_rfl }
theorem Tryd.strconv_Atoi_ok (s : ByteArray) (hmax : s.size ≤ 9223372036854775806) (v : Int) (h : Lib.atoiAll s.data.toList = .ok v) (w : World) :
    Calls Tryd.prog 21 #[.string s] w fun e w' => e = .returned (.tuple #[.int .i64 v, .nilIface]) ∧ (w' = w ∨ ∃ t, w' = Lib.bytesWorld w 5 t) := Any.strconv_Atoi_ok Tryd.laysC172 s hmax v h w
theorem Tryd.strconv_Atoi_syntax (s : ByteArray) (hlim : s.size ≤ 281474976710656) (h : Lib.atoiAll s.data.toList = Lib.NumEnd.syntax) (ev : Value) (w : World) (hv : w.cell? ⟨1, 0, none⟩ = some ev) (hev : ev = .nilIface ∨ ∃ te pe, ev = .iface te pe) :
    Calls Tryd.prog 21 #[.string s] w fun e w' => ∃ N, e = .returned (.tuple #[.int .i64 (0), .iface 112 (.pointer (some ⟨N, 0, none⟩))]) ∧ w.heap.size ≤ N ∧ w'.heap[N]? = some (.cells #[.string ⟨#[65, 116, 111, 105]⟩, .string s, ev] 132 (0, 0)) ∧ Below w.heap.size w w' := Any.strconv_Atoi_syntax Tryd.laysC172 s hlim h ev w hv hev
theorem Tryd.strconv_Atoi_range (s : ByteArray) (hlim : s.size ≤ 281474976710656) (h : Lib.atoiAll s.data.toList = .range) (ev : Value) (w : World) (hv : w.cell? ⟨2, 0, none⟩ = some ev) (hev : ev = .nilIface ∨ ∃ te pe, ev = .iface te pe) :
    Calls Tryd.prog 21 #[.string s] w fun e w' => ∃ N, e = .returned (.tuple #[.int .i64 (Lib.atoiSat s.data.toList), .iface 112 (.pointer (some ⟨N, 0, none⟩))]) ∧ w.heap.size ≤ N ∧ w'.heap[N]? = some (.cells #[.string ⟨#[65, 116, 111, 105]⟩, .string s, ev] 132 (0, 0)) ∧ Below w.heap.size w w' := Any.strconv_Atoi_range Tryd.laysC172 s hlim h ev w hv hev
def Tryd.lays145_ren : Go.Shelf.Ren := ⟨fun | 145 => 20 | 220 => 42 | 219 => 72 | 217 => 87 | 225 => 88 | 224 => 89 | 267 => 90 | 266 => 101 | 314 => 102 | n => n, fun | 9 => 9 | 4 => 4 | 59 => 43 | 3 => 3 | 5 => 5 | 46 => 57 | 146 => 141 | 51 => 53 | n => n, fun | 1 => 0 | n => n⟩
theorem Tryd.lays145 : Go.Proofs.Lays.n145 Tryd.prog Tryd.lays145_ren := {
  mixed := by kernel_rfl
  f145 := Tryd.func20.trans (congrArg some (by kernel_rfl))
  f217 := Tryd.func87.trans (congrArg some (by kernel_rfl))
  f219 := Tryd.func72.trans (congrArg some (by kernel_rfl))
  f220 := Tryd.func42.trans (congrArg some (by kernel_rfl))
  f224 := Tryd.func89.trans (congrArg some (by kernel_rfl))
  f225 := Tryd.func88.trans (congrArg some (by kernel_rfl))
  f266 := Tryd.func101.trans (congrArg some (by kernel_rfl))
  f267 := Tryd.func90.trans (congrArg some (by kernel_rfl))
  f314 := Tryd.func102.trans (congrArg some (by kernel_rfl))
  t3 := Tryd.underlying3
  a3 := Tryd.isAgg3
  z3 := Tryd.sizeOf3
  v3 := Tryd.zeroValue3
  t4 := Tryd.underlying4
  a4 := Tryd.isAgg4
  z4 := Tryd.sizeOf4
  v4 := Tryd.zeroValue4
  t5 := Tryd.underlying5
  a5 := Tryd.isAgg5
  z5 := Tryd.sizeOf5
  v5 := Tryd.zeroValue5
  t9 := Tryd.underlying9
  a9 := Tryd.isAgg9
  z9 := Tryd.sizeOf9
  v9 := Tryd.zeroValue9
  t46 := Tryd.underlying57
  a46 := Tryd.isAgg57
  z46 := Tryd.sizeOf57
  v46 := Tryd.zeroValue57
  t51 := Tryd.underlying53
  a51 := Tryd.isAgg53
  z51 := Tryd.sizeOf53
  v51 := Tryd.zeroValue53
  t59 := Tryd.underlying43
  a59 := Tryd.isAgg43
  z59 := Tryd.sizeOf43
  v59 := Tryd.zeroValue43
  t146 := Tryd.underlying141
  a146 := Tryd.isAgg141
  z146 := Tryd.sizeOf141
  v146 := Tryd.zeroValue141
  g1 := by kernel_rfl }
theorem Tryd.strings_Cut (s sep : ByteArray) (m : Int) (w : World) (hs : s.size < 4294967281) (hm : w.cell? ⟨0, 0, none⟩ = some (.int .i64 m)) :
    Calls Tryd.prog 20 #[.string s, .string sep] w fun e w' => e = .returned (.tuple #[.string ⟨(Lib.cut s.data.toList sep.data.toList).1.toArray⟩, .string ⟨(Lib.cut s.data.toList sep.data.toList).2.1.toArray⟩, .bool (Lib.cut s.data.toList sep.data.toList).2.2]) ∧ ∃ n, w' = w.drewN n := Any.strings_Cut Tryd.lays145 s sep m w hs hm
def Tryd.laysM145_ren : Go.Shelf.Ren := ⟨fun | 145 => 20 | 220 => 42 | 219 => 72 | 217 => 87 | 225 => 88 | 224 => 89 | 267 => 90 | 266 => 101 | 314 => 102 | n => n, fun | 9 => 9 | 4 => 4 | 59 => 43 | 3 => 3 | 5 => 5 | 46 => 57 | 146 => 141 | 51 => 53 | n => n, fun | 1 => 0 | n => n⟩
theorem Tryd.laysM145 : Go.Proofs.LaysM.n145 Tryd.prog Tryd.laysM145_ren := {
  mixed := by kernel_rfl
  f145 := Tryd.func20.trans (congrArg some (by kernel_rfl))
  f217 := Tryd.func87.trans (congrArg some (by kernel_rfl))
  f219 := Tryd.func72.trans (congrArg some (by kernel_rfl))
  f220 := Tryd.func42.trans (congrArg some (by kernel_rfl))
  f224 := Tryd.func89.trans (congrArg some (by kernel_rfl))
  f225 := Tryd.func88.trans (congrArg some (by kernel_rfl))
  f266 := Tryd.func101.trans (congrArg some (by kernel_rfl))
  f267 := Tryd.func90.trans (congrArg some (by kernel_rfl))
  f314 := Tryd.func102.trans (congrArg some (by kernel_rfl))
  t3 := Tryd.underlying3
  a3 := Tryd.isAgg3
  z3 := Tryd.sizeOf3
  v3 := Tryd.zeroValue3
  t4 := Tryd.underlying4
  a4 := Tryd.isAgg4
  z4 := Tryd.sizeOf4
  v4 := Tryd.zeroValue4
  t5 := Tryd.underlying5
  a5 := Tryd.isAgg5
  z5 := Tryd.sizeOf5
  v5 := Tryd.zeroValue5
  t9 := Tryd.underlying9
  a9 := Tryd.isAgg9
  z9 := Tryd.sizeOf9
  v9 := Tryd.zeroValue9
  t46 := Tryd.underlying57
  a46 := Tryd.isAgg57
  z46 := Tryd.sizeOf57
  v46 := Tryd.zeroValue57
  t51 := Tryd.underlying53
  a51 := Tryd.isAgg53
  z51 := Tryd.sizeOf53
  v51 := Tryd.zeroValue53
  t59 := Tryd.underlying43
  a59 := Tryd.isAgg43
  z59 := Tryd.sizeOf43
  v59 := Tryd.zeroValue43
  t146 := Tryd.underlying141
  a146 := Tryd.isAgg141
  z146 := Tryd.sizeOf141
  v146 := Tryd.zeroValue141
  g1 := by kernel_rfl
  i3 := by kernel_rfl
  i4 := by kernel_rfl
  i5 := by kernel_rfl
  i9 := by kernel_rfl
  i46 := by kernel_rfl
  i51 := by kernel_rfl
  i59 := by kernel_rfl
  i146 := by kernel_rfl
  m1 := by kernel_rfl
  s1_3 := fun w h => Go.Proofs.cell_of_shapedOpen_int (zero := #[.int .i64 0]) (t := 3) h (of_decide_eq_true (by kernel_rfl)) (by kernel_rfl) rfl (by kernel_rfl) (by kernel_rfl) Tryd.underlying3 }
end Go.Proofs
namespace Go.Proofs.YtclainfdeghgnaaDoor
open Go.RowKit Go.Proofs.YtclainfdeghgnaaDoor.Nm
set_option linter.unusedSimpArgs false
/-- What the walk needs of the library's variables. -/
structure Env (w : World) : Prop where
  tab : TabW w
  mx : ∃ m, w.cell? ⟨0, 0, none⟩ = some (.int .i64 m)
  es : ∃ ev, w.cell? ⟨1, 0, none⟩ = some ev ∧ (ev = .nilIface ∨ ∃ te pe, ev = .iface te pe)
  er : ∃ ev, w.cell? ⟨2, 0, none⟩ = some ev ∧ (ev = .nilIface ∨ ∃ te pe, ev = .iface te pe)
theorem Env.old {w w' : World} (h : Env w) (hb : Below w.heap.size w w') : Env w' := by
  have key : ∀ (q : Nat) v, w.cell? ⟨q, 0, none⟩ = some v → w'.cell? ⟨q, 0, none⟩ = some v := fun q v e => below_cell hb e
  obtain ⟨m, hm⟩ := h.mx
  obtain ⟨a, ha, ha2⟩ := h.es
  obtain ⟨b, hb1, hb2⟩ := h.er
  exact ⟨h.tab.old hb, ⟨m, key _ _ hm⟩, ⟨a, key _ _ ha, ha2⟩, ⟨b, key _ _ hb1, hb2⟩⟩
theorem cut_len (s sep : List UInt8) : (Lib.cut s sep).1.length + (Lib.cut s sep).2.1.length ≤ s.length := by
  unfold Lib.cut
  split
  · simp; omega
  · simp
/-- What Parse gives. -/
def prV (t : List UInt8) : Value := match parseP t with
  | some (u, k) => .tuple #[.agg (dc u (k : Int)), .int .i64 0]
  | none => .tuple #[.agg (dc 0 0), .int .i64 4]
theorem Cut_any (s : ByteArray) (hs : s.size < 4294967281) (w : World) (he : Env w) : Calls Tryd.prog 20 #[.string s, .string ⟨#[46]⟩] w fun e w' => e = .returned (.tuple #[.string ⟨(Lib.cut s.data.toList [46]).1.toArray⟩, .string ⟨(Lib.cut s.data.toList [46]).2.1.toArray⟩, .bool (Lib.cut s.data.toList [46]).2.2]) ∧ Below w.heap.size w w' := by
  obtain ⟨m, hm⟩ := he.mx
  refine (Tryd.strings_Cut s ⟨#[46]⟩ m w hs hm).mono fun e w' ⟨h, n, e2⟩ => ⟨h, ?_⟩
  rw [e2]
  exact below_drewN (Below.refl _ w) n
theorem Atoi_any (s : ByteArray) (hs : s.size < 4294967281) (w : World) (he : Env w) : Calls Tryd.prog 21 #[.string s] w fun e w' => (∃ v ev, e = .returned (.tuple #[.int .i64 v, ev]) ∧ ((Lib.atoiAll s.data.toList = .ok v ∧ ev = .nilIface) ∨ ((∀ v, Lib.atoiAll s.data.toList ≠ .ok v) ∧ ∃ N, ev = .iface 112 (.pointer (some ⟨N, 0, none⟩))))) ∧ Below w.heap.size w w' := by
  cases h : Lib.atoiAll s.data.toList
  case ok v =>
    refine (Tryd.strconv_Atoi_ok s (by omega) v h w).mono fun e w' ⟨h1, h2⟩ => ⟨⟨v, _, h1, .inl ⟨rfl, rfl⟩⟩, ?_⟩
    rcases h2 with rfl | ⟨t, rfl⟩
    · exact Below.refl _ _
    · exact Lib.bytesWorld_below _ _ _
  case range =>
    obtain ⟨ev, h1, h2⟩ := he.er
    refine (Tryd.strconv_Atoi_range s (by omega) h ev w h1 h2).mono fun e w' ⟨N, h1, _, _, hb⟩ => ⟨⟨_, _, h1, .inr ⟨fun v e => (by cases e), N, rfl⟩⟩, hb⟩
  obtain ⟨ev, h1, h2⟩ := he.es
  refine (Tryd.strconv_Atoi_syntax s (by omega) h ev w h1 h2).mono fun e w' ⟨N, h1, _, _, hb⟩ => ⟨⟨_, _, h1, .inr ⟨fun v e => (by cases e), N, rfl⟩⟩, hb⟩
theorem prV_no {t : List UInt8} (h : parseP t = none) : prV t = .tuple #[.agg (dc 0 0), .int .i64 4] := by unfold prV; rw [h]
theorem prV_yes {t : List UInt8} {u : Int} {k : Nat} (h : parseP t = some (u, k)) : prV t = .tuple #[.agg (dc u (k : Int)), .int .i64 0] := by unfold prV; rw [h]
theorem ret_no {t : List UInt8} (h : parseP t = none) : Ending.returned (.tuple #[.agg (dc 0 0), .int .i64 4]) = Ending.returned (prV t) := by rw [prV_no h]
theorem ret_yes {t : List UInt8} {u : Int} {k : Nat} (h : parseP t = some (u, k)) : Ending.returned (.tuple #[.agg (dc u (k : Int)), .int .i64 0]) = Ending.returned (prV t) := by rw [prV_yes h]
theorem pp_err {t : List UInt8} (h : ∀ v, Lib.atoiAll ((Lib.cut t [46]).1 ++ (Lib.cut t [46]).2.1) ≠ .ok v) : parseP t = none := by
  unfold parseP
  split
  · rename_i n e; exact absurd e (h n)
  · rfl
theorem pp_dot {t : List UInt8} (h : (Lib.cut t [46]).2.2 = true ∧ (Lib.cut t [46]).2.1 = []) : parseP t = none := by
  unfold parseP
  split
  · rw [if_pos h]
  · rfl
theorem pp_no {t : List UInt8} {n : Int} (h : Lib.atoiAll ((Lib.cut t [46]).1 ++ (Lib.cut t [46]).2.1) = .ok n) (h2 : ¬ (okD n (Lib.cut t [46]).2.1.length = true ∧ fmtL n (Lib.cut t [46]).2.1.length = t)) : parseP t = none := by
  unfold parseP
  split
  · rename_i m e
    have : n = m := by rw [h] at e; cases e; rfl
    subst this
    split <;> rfl
  · rfl
theorem pp_yes {t : List UInt8} {n : Int} (h : Lib.atoiAll ((Lib.cut t [46]).1 ++ (Lib.cut t [46]).2.1) = .ok n) (h1 : ¬ ((Lib.cut t [46]).2.2 = true ∧ (Lib.cut t [46]).2.1 = [])) (h2 : okD n (Lib.cut t [46]).2.1.length = true ∧ fmtL n (Lib.cut t [46]).2.1.length = t) : parseP t = some (n, (Lib.cut t [46]).2.1.length) := by
  unfold parseP
  split
  · rename_i m e
    have : n = m := by rw [h] at e; cases e; rfl
    subst this
    split
    · rename_i h3; exact absurd h3 h1
    · rfl
  · rename_i e; exact absurd h (e n)
theorem bytes_ext {a b : ByteArray} (h : a.data.toList = b.data.toList) : a = b := by
  cases a; cases b; congr 1; exact Array.toList_inj.1 h
theorem str_ne {a b : ByteArray} (h : ¬ a = b) : (a.toList == b.toList) = false := by
  rw [beq_eq_false_iff_ne]
  exact fun e => h (bytes_ext (by rw [← ByteArray.toList_eq, ← ByteArray.toList_eq]; exact e))
theorem str_empty {b : ByteArray} (h : b.toList.isEmpty = true) : b = ⟨#[]⟩ := bytes_ext (by rw [← ByteArray.toList_eq]; simpa using h)
set_option maxHeartbeats 4000000 in
set_option maxRecDepth 100000 in
theorem Parse_any (s : ByteArray) (hs : s.size < 4294967281) (w : World) (he : Env w) : Calls Tryd.prog 12 #[.string s] w fun e w' => e = .returned (prV s.data.toList) ∧ Below w.heap.size w w' := by
  have HE := Lib.hid he
  clear he
  have hb := Below.refl w.heap.size w
  obtain ⟨a, ha⟩ : ∃ a : ByteArray, a = ⟨(Lib.cut s.data.toList [46]).1.toArray⟩ := ⟨_, rfl⟩
  obtain ⟨b, hbb⟩ : ∃ b : ByteArray, b = ⟨(Lib.cut s.data.toList [46]).2.1.toArray⟩ := ⟨_, rfl⟩
  obtain ⟨f, hf⟩ : ∃ f, f = (Lib.cut s.data.toList [46]).2.2 := ⟨_, rfl⟩
  have hcut := fun w1 h => Cut_any s hs w1 h
  rw [← ha, ← hbb, ← hf] at hcut
  have HCUT := Lib.hid hcut
  have ea : (Lib.cut s.data.toList [46]).1 = a.data.toList := by rw [ha]
  have eb : (Lib.cut s.data.toList [46]).2.1 = b.data.toList := by rw [hbb]
  have hsz : a.size + b.size ≤ s.size := by
    have := cut_len s.data.toList [46]
    rw [ea, eb] at this
    rw [bsize, bsize, bsize]; exact this
  have HA := Lib.hid ea
  have HB := Lib.hid eb
  have HF := Lib.hid hf
  clear hcut ea eb hf ha hbb
  go_enter Tryd.func12, Tryd.ntmps12
  go_upto_region 0 with (fail)
  apply wp_region_lit
  (with_reducible refine wl_allD ?_); intro W p hbn hlp hp; replace hb := hb.trans (hbn.mono hb.size); clear hbn; simp only [put_lit, List.set_cons_zero, List.set_cons_succ]
  (with_reducible refine wl_k ?_ ?_); exact rfl; intro K hK; go_simp; refine hK _ ?_; clear hK K
  go_upto_region 1 with (fail)
  apply wp_region_lit
  (with_reducible refine wl_k ?_ ?_); exact rfl; intro K hK; go_simp; refine hK _ ?_; clear hK K
  (with_reducible refine wl_ck ?_ ?_); exact rfl; intro K hK; go_simp; refine ⟨_, _, ⟨rfl, rfl⟩, hK _ _ ⟨_, HCUT.out _ (HE.out.old hb), ?_⟩⟩; clear hK K; rintro e w1 ⟨rfl, hb1⟩; refine ⟨_, rfl, ?_⟩; simp only [put_lit, List.set_cons_zero, List.set_cons_succ]
  replace hp := below_look hb1 hp; replace hb := hb.trans (hb1.mono hb.size); clear hb1
  (with_reducible refine wl_k ?_ ?_); exact rfl; intro K hK; go_simp; refine hK _ ?_; clear hK K
  (with_reducible refine wl_k ?_ ?_); exact rfl; intro K hK; go_simp; refine hK _ ?_; clear hK K
  (with_reducible refine wl_k ?_ ?_); exact rfl; intro K hK; go_simp; refine hK _ ?_; clear hK K
  (with_reducible refine wl_k ?_ ?_); exact rfl; intro K hK; go_simp; refine hK _ ?_; clear hK K
  (with_reducible refine wl_k ?_ ?_); exact rfl; intro K hK; go_simp; refine hK _ ?_; clear hK K
  (with_reducible refine wl_k ?_ ?_); exact rfl; intro K hK; go_simp; refine hK _ ?_; clear hK K
  (with_reducible refine wl_k ?_ ?_); exact rfl; intro K hK; go_simp; refine hK _ ?_; clear hK K
  go_upto_region 2 with (fail)
  have hc0 : ¬ 9223372036854775807 < a.size + b.size := by omega
  apply wp_region_lit
  (with_reducible refine wl_k ?_ ?_); exact rfl; intro K hK; go_simp; refine hK _ ?_; clear hK K
  (with_reducible refine wl_k ?_ ?_); exact rfl; intro K hK; go_simp; refine hK _ ?_; clear hK K
  (with_reducible refine wl_k ?_ ?_); exact rfl; intro K hK; go_simp; refine hK _ ?_; clear hK K
  have hat := Atoi_any (a ++ b) (by rw [ByteArray.size_append]; omega) w1 (HE.out.old hb)
  (with_reducible refine wl_ck ?_ ?_); exact rfl; intro K hK; go_simp; refine ⟨_, _, ⟨rfl, rfl⟩, hK _ _ ⟨_, hat, ?_⟩⟩; clear hK K; rintro e w2 ⟨⟨v, ev, rfl, HV⟩, hb1⟩; refine ⟨_, rfl, ?_⟩; simp only [put_lit, List.set_cons_zero, List.set_cons_succ]
  replace hp := below_look hb1 hp; replace hb := hb.trans (hb1.mono hb.size); clear hb1
  clear hat
  (with_reducible refine wl_k ?_ ?_); exact rfl; intro K hK; go_simp; refine hK _ ?_; clear hK K
  (with_reducible refine wl_k ?_ ?_); exact rfl; intro K hK; go_simp; refine hK _ ?_; clear hK K
  (with_reducible refine wl_k ?_ ?_); exact rfl; intro K hK; go_simp; refine hK _ ?_; clear hK K
  (with_reducible refine wl_k ?_ ?_); exact rfl; intro K hK; go_simp; refine hK _ ?_; clear hK K
  (with_reducible refine wl_k ?_ ?_); exact rfl; intro K hK; go_simp; refine hK _ ?_; clear hK K
  have e0 : (a ++ b).data.toList = (Lib.cut s.data.toList [46]).1 ++ (Lib.cut s.data.toList [46]).2.1 := by rw [HA.out, HB.out, ByteArray.data_append, Array.toList_append]
  rw [e0] at HV
  clear e0
  go_upto_region 3 with (fail)
  apply wp_region_lit
  (with_reducible refine wl_k ?_ ?_); exact rfl; intro K hK; go_simp; refine hK _ ?_; clear hK K
  (with_reducible refine wl_k ?_ ?_); exact rfl; intro K hK; go_simp; refine hK _ ?_; clear hK K
  (with_reducible refine wl_k ?_ ?_); exact rfl; intro K hK; go_simp; refine hK _ ?_; clear hK K
  (with_reducible refine wl_k ?_ ?_); exact rfl; intro K hK; go_simp; refine hK _ ?_; clear hK K
  have lthpq := heap_lt hp; (with_reducible refine wl_allD ?_); intro W3 q hbn hlq hq; replace hp := below_look hbn hp; replace hb := hb.trans (hbn.mono hb.size); clear hbn; simp only [put_lit, List.set_cons_zero, List.set_cons_succ]
  have lpq := heap_lt hp
  (with_reducible refine wl_put33 rfl rfl hq ?_); intro W5 hbx5 hkx5 hq5
  replace hb := hbx5 _ _ (by omega) hb
  replace hp := hkx5 _ _ (by omega) hp
  clear hbx5 hkx5 hq
  rcases HV with ⟨HOK, rfl⟩ | ⟨HNO, N, rfl⟩
  · have HOK := Lib.hid HOK
    by_cases hd : f = true ∧ b = ⟨#[]⟩
    · obtain ⟨rfl, rfl⟩ := hd
      have HV := Lib.hid (ret_no (pp_dot ⟨HF.out.symm, HB.out⟩))
      clear HOK
      go_upto_region 4 with (fail)
      apply wp_region_lit
      (with_reducible refine wl_k ?_ ?_); exact rfl; intro K hK; go_simp; refine hK _ ?_; clear hK K
      (with_reducible refine wl_k ?_ ?_); exact rfl; intro K hK; go_simp; refine hK _ ?_; clear hK K
      (with_reducible refine wl_k ?_ ?_); exact rfl; intro K hK; go_simp; refine hK _ ?_; clear hK K
      (with_reducible refine wl_k ?_ ?_); exact rfl; intro K hK; go_simp; refine hK _ ?_; clear hK K
      (with_reducible refine wl_k ?_ ?_); exact rfl; intro K hK; go_simp; refine hK _ ?_; clear hK K
      (with_reducible refine wl_k ?_ ?_); exact rfl; intro K hK; go_simp; refine hK _ ?_; clear hK K
      (with_reducible refine wl_k ?_ ?_); exact rfl; intro K hK; go_simp; refine hK _ ?_; clear hK K
      (with_reducible refine wl_k ?_ ?_); exact rfl; intro K hK; go_simp; refine hK _ ?_; clear hK K
      (with_reducible refine wl_k ?_ ?_); exact rfl; intro K hK; go_simp; refine hK _ ?_; clear hK K
      go_upto_region 5 with (fail)
      apply wp_region_lit
      (with_reducible refine wl_k ?_ ?_); exact rfl; intro K hK; go_simp; refine hK _ ?_; clear hK K
      (with_reducible refine wl_put33 (u := 0) (k := 0) rfl rfl hp ?_); intro W6 hbx6 hkx6 hp6
      replace hb := hbx6 _ _ (by omega) hb
      (with_reducible refine wl_k ?_ ?_); exact rfl; intro K hK; go_simp; refine hK _ ?_; clear hK K
      go_wp2_with fail
      refine bodyPost_ret (res_decErr rfl _ _ p rfl hp6) rfl ⟨?_, hb⟩
      exact HV.out
    · cases f with
      | true =>
        have hbe : b.toList.isEmpty = false := by
          cases hx : b.toList.isEmpty with
          | false => rfl
          | true => exact absurd (str_empty hx) fun e => hd ⟨rfl, e⟩
        go_upto_region 4 with (fail)
        apply wp_region_lit
        (with_reducible refine wl_k ?_ ?_); exact rfl; intro K hK; go_simp; refine hK _ ?_; clear hK K
        (with_reducible refine wl_k ?_ ?_); exact rfl; intro K hK; go_simp; refine hK _ ?_; clear hK K
        (with_reducible refine wl_k ?_ ?_); exact rfl; intro K hK; go_simp; refine hK _ ?_; clear hK K
        (with_reducible refine wl_k ?_ ?_); exact rfl; intro K hK; go_simp; refine hK _ ?_; clear hK K
        (with_reducible refine wl_k ?_ ?_); exact rfl; intro K hK; go_simp; refine hK _ ?_; clear hK K
        (with_reducible refine wl_k ?_ ?_); exact rfl; intro K hK; go_simp; refine hK _ ?_; clear hK K
        (with_reducible refine wl_k ?_ ?_); exact rfl; intro K hK; go_simp; refine hK _ ?_; clear hK K
        (with_reducible refine wl_k ?_ ?_); exact rfl; intro K hK; go_simp; refine hK _ ?_; clear hK K
        (with_reducible refine wl_k ?_ ?_); exact rfl; intro K hK; go_simp; refine hK _ ?_; clear hK K
        go_upto_region 6 with (fail)
        by_cases hok : okD v (b.size : Int) = true
        · obtain ⟨m, hm⟩ : ∃ m : ByteArray, m = ⟨(fmtL v b.size).toArray⟩ := ⟨_, rfl⟩
          have c1 := Format_any v (b.size : Int) W5 (HE.out.old hb).tab
          rw [fm_goodN hok (m := m) (by rw [hm])] at c1
          have HMM := Lib.hid hm
          clear hm
          apply wp_region_lit
          ((with_reducible apply wl_rowG); exact rfl; exact rfl; exact rowDc hq5)
          (with_reducible refine wl_ck ?_ ?_); exact rfl; intro K hK; go_simp; refine ⟨_, _, ⟨rfl, rfl⟩, hK _ _ ⟨_, c1, ?_⟩⟩; clear hK K; rintro e w6 ⟨rfl, hb1⟩; refine ⟨_, rfl, ?_⟩; simp only [put_lit, List.set_cons_zero, List.set_cons_succ]
          replace hp := below_look hb1 hp; replace hq5 := below_look hb1 hq5; replace hb := hb.trans (hb1.mono hb.size); clear hb1
          clear c1
          (with_reducible refine wl_k ?_ ?_); exact rfl; intro K hK; go_simp; refine hK _ ?_; clear hK K
          (with_reducible refine wl_k ?_ ?_); exact rfl; intro K hK; go_simp; refine hK _ ?_; clear hK K
          (with_reducible refine wl_k ?_ ?_); exact rfl; intro K hK; go_simp; refine hK _ ?_; clear hK K
          (with_reducible refine wl_k ?_ ?_); exact rfl; intro K hK; go_simp; refine hK _ ?_; clear hK K
          (with_reducible refine wl_k ?_ ?_); exact rfl; intro K hK; go_simp; refine hK _ ?_; clear hK K
          go_upto_region 7 with (fail)
          by_cases hms : m = s
          · have hyes := ret_yes (pp_yes HOK.out (by rw [← HF.out, HB.out]; exact fun e => hd ⟨e.1, bytes_ext e.2⟩) (by rw [HB.out, ← bsize]; exact ⟨hok, by rw [← hms, HMM.out]⟩))
            rw [HB.out, ← bsize] at hyes
            have HV := Lib.hid hyes
            clear hyes
            subst hms
            apply wp_region_lit
            (with_reducible refine wl_k ?_ ?_); exact rfl; intro K hK; go_simp; refine hK _ ?_; clear hK K
            (with_reducible refine wl_k ?_ ?_); exact rfl; intro K hK; go_simp; refine hK _ ?_; clear hK K
            (with_reducible refine wl_k ?_ ?_); exact rfl; intro K hK; go_simp; refine hK _ ?_; clear hK K
            (with_reducible refine wl_k ?_ ?_); exact rfl; intro K hK; go_simp; refine hK _ ?_; clear hK K
            (with_reducible refine wl_k ?_ ?_); exact rfl; intro K hK; go_simp; refine hK _ ?_; clear hK K
            (with_reducible refine wl_k ?_ ?_); exact rfl; intro K hK; go_simp; refine hK _ ?_; clear hK K
            (with_reducible refine wl_k ?_ ?_); exact rfl; intro K hK; go_simp; refine hK _ ?_; clear hK K
            go_upto_region 9 with (fail)
            apply wp_region_lit
            ((with_reducible apply wl_rowG); exact rfl; exact rfl; exact rowDc hq5)
            (with_reducible refine wl_put33 rfl rfl hp ?_); intro W6 hbx6 hkx6 hp6
            replace hb := hbx6 _ _ (by omega) hb
            (with_reducible refine wl_k ?_ ?_); exact rfl; intro K hK; go_simp; refine hK _ ?_; clear hK K
            go_wp2_with fail
            refine bodyPost_ret (res_decErr rfl _ _ p rfl hp6) rfl ⟨?_, hb⟩
            exact HV.out
          · have HV := Lib.hid (ret_no (pp_no HOK.out (by rw [HB.out, ← bsize]; exact fun e => hms (bytes_ext (by rw [HMM.out]; exact e.2)))))
            have hne := str_ne hms
            apply wp_region_lit
            (with_reducible refine wl_k ?_ ?_); exact rfl; intro K hK; go_simp; refine hK _ ?_; clear hK K
            (with_reducible refine wl_k ?_ ?_); exact rfl; intro K hK; go_simp; refine hK _ ?_; clear hK K
            (with_reducible refine wl_k ?_ ?_); exact rfl; intro K hK; go_simp; refine hK _ ?_; clear hK K
            (with_reducible refine wl_k ?_ ?_); exact rfl; intro K hK; go_simp; refine hK _ ?_; clear hK K
            (with_reducible refine wl_k ?_ ?_); exact rfl; intro K hK; go_simp; refine hK _ ?_; clear hK K
            (with_reducible refine wl_k ?_ ?_); exact rfl; intro K hK; go_simp; refine hK _ ?_; clear hK K
            (with_reducible refine wl_k ?_ ?_); exact rfl; intro K hK; go_simp; refine hK _ ?_; clear hK K
            go_upto_region 8 with (fail)
            apply wp_region_lit
            (with_reducible refine wl_k ?_ ?_); exact rfl; intro K hK; go_simp; refine hK _ ?_; clear hK K
            (with_reducible refine wl_put33 (u := 0) (k := 0) rfl rfl hp ?_); intro W6 hbx6 hkx6 hp6
            replace hb := hbx6 _ _ (by omega) hb
            (with_reducible refine wl_k ?_ ?_); exact rfl; intro K hK; go_simp; refine hK _ ?_; clear hK K
            go_wp2_with fail
            refine bodyPost_ret (res_decErr rfl _ _ p rfl hp6) rfl ⟨?_, hb⟩
            exact HV.out
        · have HV := Lib.hid (ret_no (pp_no HOK.out (by rw [HB.out, ← bsize]; exact fun e => hok e.1)))
          have c1 := Format_any v (b.size : Int) W5 (HE.out.old hb).tab
          rw [fm_bad (by simpa using hok)] at c1
          apply wp_region_lit
          ((with_reducible apply wl_rowG); exact rfl; exact rfl; exact rowDc hq5)
          (with_reducible refine wl_ck ?_ ?_); exact rfl; intro K hK; go_simp; refine ⟨_, _, ⟨rfl, rfl⟩, hK _ _ ⟨_, c1, ?_⟩⟩; clear hK K; rintro e w6 ⟨rfl, hb1⟩; refine ⟨_, rfl, ?_⟩; simp only [put_lit, List.set_cons_zero, List.set_cons_succ]
          replace hp := below_look hb1 hp; replace hq5 := below_look hb1 hq5; replace hb := hb.trans (hb1.mono hb.size); clear hb1
          clear c1
          (with_reducible refine wl_k ?_ ?_); exact rfl; intro K hK; go_simp; refine hK _ ?_; clear hK K
          (with_reducible refine wl_k ?_ ?_); exact rfl; intro K hK; go_simp; refine hK _ ?_; clear hK K
          (with_reducible refine wl_k ?_ ?_); exact rfl; intro K hK; go_simp; refine hK _ ?_; clear hK K
          (with_reducible refine wl_k ?_ ?_); exact rfl; intro K hK; go_simp; refine hK _ ?_; clear hK K
          (with_reducible refine wl_k ?_ ?_); exact rfl; intro K hK; go_simp; refine hK _ ?_; clear hK K
          go_upto_region 7 with (fail)
          apply wp_region_lit
          (with_reducible refine wl_k ?_ ?_); exact rfl; intro K hK; go_simp; refine hK _ ?_; clear hK K
          (with_reducible refine wl_k ?_ ?_); exact rfl; intro K hK; go_simp; refine hK _ ?_; clear hK K
          (with_reducible refine wl_k ?_ ?_); exact rfl; intro K hK; go_simp; refine hK _ ?_; clear hK K
          (first | ((with_reducible refine wl_skipU ?_ ?_ ?_); exact rfl; exact rfl) | ((with_reducible refine wl_skip ?_ ?_); exact rfl; simp only [put_lit, List.set_cons_zero, List.set_cons_succ]))
          (first | ((with_reducible refine wl_skipU ?_ ?_ ?_); exact rfl; exact rfl) | ((with_reducible refine wl_skip ?_ ?_); exact rfl; simp only [put_lit, List.set_cons_zero, List.set_cons_succ]))
          (first | ((with_reducible refine wl_skipU ?_ ?_ ?_); exact rfl; exact rfl) | ((with_reducible refine wl_skip ?_ ?_); exact rfl; simp only [put_lit, List.set_cons_zero, List.set_cons_succ]))
          (with_reducible refine wl_k ?_ ?_); exact rfl; intro K hK; go_simp; refine hK _ ?_; clear hK K
          go_upto_region 8 with (fail)
          apply wp_region_lit
          (with_reducible refine wl_k ?_ ?_); exact rfl; intro K hK; go_simp; refine hK _ ?_; clear hK K
          (with_reducible refine wl_put33 (u := 0) (k := 0) rfl rfl hp ?_); intro W6 hbx6 hkx6 hp6
          replace hb := hbx6 _ _ (by omega) hb
          (with_reducible refine wl_k ?_ ?_); exact rfl; intro K hK; go_simp; refine hK _ ?_; clear hK K
          go_wp2_with fail
          refine bodyPost_ret (res_decErr rfl _ _ p rfl hp6) rfl ⟨?_, hb⟩
          exact HV.out
      | false =>
        go_upto_region 4 with (fail)
        apply wp_region_lit
        (with_reducible refine wl_k ?_ ?_); exact rfl; intro K hK; go_simp; refine hK _ ?_; clear hK K
        (with_reducible refine wl_k ?_ ?_); exact rfl; intro K hK; go_simp; refine hK _ ?_; clear hK K
        (with_reducible refine wl_k ?_ ?_); exact rfl; intro K hK; go_simp; refine hK _ ?_; clear hK K
        (with_reducible refine wl_k ?_ ?_); exact rfl; intro K hK; go_simp; refine hK _ ?_; clear hK K
        (with_reducible refine wl_k ?_ ?_); exact rfl; intro K hK; go_simp; refine hK _ ?_; clear hK K
        (first | ((with_reducible refine wl_skipU ?_ ?_ ?_); exact rfl; exact rfl) | ((with_reducible refine wl_skip ?_ ?_); exact rfl; simp only [put_lit, List.set_cons_zero, List.set_cons_succ]))
        (first | ((with_reducible refine wl_skipU ?_ ?_ ?_); exact rfl; exact rfl) | ((with_reducible refine wl_skip ?_ ?_); exact rfl; simp only [put_lit, List.set_cons_zero, List.set_cons_succ]))
        (with_reducible refine wl_k ?_ ?_); exact rfl; intro K hK; go_simp; refine hK _ ?_; clear hK K
        (with_reducible refine wl_k ?_ ?_); exact rfl; intro K hK; go_simp; refine hK _ ?_; clear hK K
        go_upto_region 6 with (fail)
        by_cases hok : okD v (b.size : Int) = true
        · obtain ⟨m, hm⟩ : ∃ m : ByteArray, m = ⟨(fmtL v b.size).toArray⟩ := ⟨_, rfl⟩
          have c1 := Format_any v (b.size : Int) W5 (HE.out.old hb).tab
          rw [fm_goodN hok (m := m) (by rw [hm])] at c1
          have HMM := Lib.hid hm
          clear hm
          apply wp_region_lit
          ((with_reducible apply wl_rowG); exact rfl; exact rfl; exact rowDc hq5)
          (with_reducible refine wl_ck ?_ ?_); exact rfl; intro K hK; go_simp; refine ⟨_, _, ⟨rfl, rfl⟩, hK _ _ ⟨_, c1, ?_⟩⟩; clear hK K; rintro e w6 ⟨rfl, hb1⟩; refine ⟨_, rfl, ?_⟩; simp only [put_lit, List.set_cons_zero, List.set_cons_succ]
          replace hp := below_look hb1 hp; replace hq5 := below_look hb1 hq5; replace hb := hb.trans (hb1.mono hb.size); clear hb1
          clear c1
          (with_reducible refine wl_k ?_ ?_); exact rfl; intro K hK; go_simp; refine hK _ ?_; clear hK K
          (with_reducible refine wl_k ?_ ?_); exact rfl; intro K hK; go_simp; refine hK _ ?_; clear hK K
          (with_reducible refine wl_k ?_ ?_); exact rfl; intro K hK; go_simp; refine hK _ ?_; clear hK K
          (with_reducible refine wl_k ?_ ?_); exact rfl; intro K hK; go_simp; refine hK _ ?_; clear hK K
          (with_reducible refine wl_k ?_ ?_); exact rfl; intro K hK; go_simp; refine hK _ ?_; clear hK K
          go_upto_region 7 with (fail)
          by_cases hms : m = s
          · have hyes := ret_yes (pp_yes HOK.out (by rw [← HF.out, HB.out]; exact fun e => hd ⟨e.1, bytes_ext e.2⟩) (by rw [HB.out, ← bsize]; exact ⟨hok, by rw [← hms, HMM.out]⟩))
            rw [HB.out, ← bsize] at hyes
            have HV := Lib.hid hyes
            clear hyes
            subst hms
            apply wp_region_lit
            (with_reducible refine wl_k ?_ ?_); exact rfl; intro K hK; go_simp; refine hK _ ?_; clear hK K
            (with_reducible refine wl_k ?_ ?_); exact rfl; intro K hK; go_simp; refine hK _ ?_; clear hK K
            (with_reducible refine wl_k ?_ ?_); exact rfl; intro K hK; go_simp; refine hK _ ?_; clear hK K
            (with_reducible refine wl_k ?_ ?_); exact rfl; intro K hK; go_simp; refine hK _ ?_; clear hK K
            (with_reducible refine wl_k ?_ ?_); exact rfl; intro K hK; go_simp; refine hK _ ?_; clear hK K
            (with_reducible refine wl_k ?_ ?_); exact rfl; intro K hK; go_simp; refine hK _ ?_; clear hK K
            (with_reducible refine wl_k ?_ ?_); exact rfl; intro K hK; go_simp; refine hK _ ?_; clear hK K
            go_upto_region 9 with (fail)
            apply wp_region_lit
            ((with_reducible apply wl_rowG); exact rfl; exact rfl; exact rowDc hq5)
            (with_reducible refine wl_put33 rfl rfl hp ?_); intro W6 hbx6 hkx6 hp6
            replace hb := hbx6 _ _ (by omega) hb
            (with_reducible refine wl_k ?_ ?_); exact rfl; intro K hK; go_simp; refine hK _ ?_; clear hK K
            go_wp2_with fail
            refine bodyPost_ret (res_decErr rfl _ _ p rfl hp6) rfl ⟨?_, hb⟩
            exact HV.out
          · have HV := Lib.hid (ret_no (pp_no HOK.out (by rw [HB.out, ← bsize]; exact fun e => hms (bytes_ext (by rw [HMM.out]; exact e.2)))))
            have hne := str_ne hms
            apply wp_region_lit
            (with_reducible refine wl_k ?_ ?_); exact rfl; intro K hK; go_simp; refine hK _ ?_; clear hK K
            (with_reducible refine wl_k ?_ ?_); exact rfl; intro K hK; go_simp; refine hK _ ?_; clear hK K
            (with_reducible refine wl_k ?_ ?_); exact rfl; intro K hK; go_simp; refine hK _ ?_; clear hK K
            (with_reducible refine wl_k ?_ ?_); exact rfl; intro K hK; go_simp; refine hK _ ?_; clear hK K
            (with_reducible refine wl_k ?_ ?_); exact rfl; intro K hK; go_simp; refine hK _ ?_; clear hK K
            (with_reducible refine wl_k ?_ ?_); exact rfl; intro K hK; go_simp; refine hK _ ?_; clear hK K
            (with_reducible refine wl_k ?_ ?_); exact rfl; intro K hK; go_simp; refine hK _ ?_; clear hK K
            go_upto_region 8 with (fail)
            apply wp_region_lit
            (with_reducible refine wl_k ?_ ?_); exact rfl; intro K hK; go_simp; refine hK _ ?_; clear hK K
            (with_reducible refine wl_put33 (u := 0) (k := 0) rfl rfl hp ?_); intro W6 hbx6 hkx6 hp6
            replace hb := hbx6 _ _ (by omega) hb
            (with_reducible refine wl_k ?_ ?_); exact rfl; intro K hK; go_simp; refine hK _ ?_; clear hK K
            go_wp2_with fail
            refine bodyPost_ret (res_decErr rfl _ _ p rfl hp6) rfl ⟨?_, hb⟩
            exact HV.out
        · have HV := Lib.hid (ret_no (pp_no HOK.out (by rw [HB.out, ← bsize]; exact fun e => hok e.1)))
          have c1 := Format_any v (b.size : Int) W5 (HE.out.old hb).tab
          rw [fm_bad (by simpa using hok)] at c1
          apply wp_region_lit
          ((with_reducible apply wl_rowG); exact rfl; exact rfl; exact rowDc hq5)
          (with_reducible refine wl_ck ?_ ?_); exact rfl; intro K hK; go_simp; refine ⟨_, _, ⟨rfl, rfl⟩, hK _ _ ⟨_, c1, ?_⟩⟩; clear hK K; rintro e w6 ⟨rfl, hb1⟩; refine ⟨_, rfl, ?_⟩; simp only [put_lit, List.set_cons_zero, List.set_cons_succ]
          replace hp := below_look hb1 hp; replace hq5 := below_look hb1 hq5; replace hb := hb.trans (hb1.mono hb.size); clear hb1
          clear c1
          (with_reducible refine wl_k ?_ ?_); exact rfl; intro K hK; go_simp; refine hK _ ?_; clear hK K
          (with_reducible refine wl_k ?_ ?_); exact rfl; intro K hK; go_simp; refine hK _ ?_; clear hK K
          (with_reducible refine wl_k ?_ ?_); exact rfl; intro K hK; go_simp; refine hK _ ?_; clear hK K
          (with_reducible refine wl_k ?_ ?_); exact rfl; intro K hK; go_simp; refine hK _ ?_; clear hK K
          (with_reducible refine wl_k ?_ ?_); exact rfl; intro K hK; go_simp; refine hK _ ?_; clear hK K
          go_upto_region 7 with (fail)
          apply wp_region_lit
          (with_reducible refine wl_k ?_ ?_); exact rfl; intro K hK; go_simp; refine hK _ ?_; clear hK K
          (with_reducible refine wl_k ?_ ?_); exact rfl; intro K hK; go_simp; refine hK _ ?_; clear hK K
          (with_reducible refine wl_k ?_ ?_); exact rfl; intro K hK; go_simp; refine hK _ ?_; clear hK K
          (first | ((with_reducible refine wl_skipU ?_ ?_ ?_); exact rfl; exact rfl) | ((with_reducible refine wl_skip ?_ ?_); exact rfl; simp only [put_lit, List.set_cons_zero, List.set_cons_succ]))
          (first | ((with_reducible refine wl_skipU ?_ ?_ ?_); exact rfl; exact rfl) | ((with_reducible refine wl_skip ?_ ?_); exact rfl; simp only [put_lit, List.set_cons_zero, List.set_cons_succ]))
          (first | ((with_reducible refine wl_skipU ?_ ?_ ?_); exact rfl; exact rfl) | ((with_reducible refine wl_skip ?_ ?_); exact rfl; simp only [put_lit, List.set_cons_zero, List.set_cons_succ]))
          (with_reducible refine wl_k ?_ ?_); exact rfl; intro K hK; go_simp; refine hK _ ?_; clear hK K
          go_upto_region 8 with (fail)
          apply wp_region_lit
          (with_reducible refine wl_k ?_ ?_); exact rfl; intro K hK; go_simp; refine hK _ ?_; clear hK K
          (with_reducible refine wl_put33 (u := 0) (k := 0) rfl rfl hp ?_); intro W6 hbx6 hkx6 hp6
          replace hb := hbx6 _ _ (by omega) hb
          (with_reducible refine wl_k ?_ ?_); exact rfl; intro K hK; go_simp; refine hK _ ?_; clear hK K
          go_wp2_with fail
          refine bodyPost_ret (res_decErr rfl _ _ p rfl hp6) rfl ⟨?_, hb⟩
          exact HV.out
  · have HV := Lib.hid (ret_no (pp_err HNO))
    clear HNO
    go_upto_region 4 with (fail)
    apply wp_region_lit
    (with_reducible refine wl_k ?_ ?_); exact rfl; intro K hK; go_simp; refine hK _ ?_; clear hK K
    (with_reducible refine wl_k ?_ ?_); exact rfl; intro K hK; go_simp; refine hK _ ?_; clear hK K
    (with_reducible refine wl_k ?_ ?_); exact rfl; intro K hK; go_simp; refine hK _ ?_; clear hK K
    (first | ((with_reducible refine wl_skipU ?_ ?_ ?_); exact rfl; exact rfl) | ((with_reducible refine wl_skip ?_ ?_); exact rfl; simp only [put_lit, List.set_cons_zero, List.set_cons_succ]))
    (first | ((with_reducible refine wl_skipU ?_ ?_ ?_); exact rfl; exact rfl) | ((with_reducible refine wl_skip ?_ ?_); exact rfl; simp only [put_lit, List.set_cons_zero, List.set_cons_succ]))
    (first | ((with_reducible refine wl_skipU ?_ ?_ ?_); exact rfl; exact rfl) | ((with_reducible refine wl_skip ?_ ?_); exact rfl; simp only [put_lit, List.set_cons_zero, List.set_cons_succ]))
    (first | ((with_reducible refine wl_skipU ?_ ?_ ?_); exact rfl; exact rfl) | ((with_reducible refine wl_skip ?_ ?_); exact rfl; simp only [put_lit, List.set_cons_zero, List.set_cons_succ]))
    (first | ((with_reducible refine wl_skipU ?_ ?_ ?_); exact rfl; exact rfl) | ((with_reducible refine wl_skip ?_ ?_); exact rfl; simp only [put_lit, List.set_cons_zero, List.set_cons_succ]))
    (with_reducible refine wl_k ?_ ?_); exact rfl; intro K hK; go_simp; refine hK _ ?_; clear hK K
    go_upto_region 5 with (fail)
    apply wp_region_lit
    (with_reducible refine wl_k ?_ ?_); exact rfl; intro K hK; go_simp; refine hK _ ?_; clear hK K
    (with_reducible refine wl_put33 (u := 0) (k := 0) rfl rfl hp ?_); intro W6 hbx6 hkx6 hp6
    replace hb := hbx6 _ _ (by omega) hb
    (with_reducible refine wl_k ?_ ?_); exact rfl; intro K hK; go_simp; refine hK _ ?_; clear hK K
    go_wp2_with fail
    refine bodyPost_ret (res_decErr rfl _ _ p rfl hp6) rfl ⟨?_, hb⟩
    exact HV.out
end Go.Proofs.YtclainfdeghgnaaDoor
namespace Go.Proofs.YtclainfdeghgnaaDoor
open Go.ChangeShapes Go.WideShapes Go.ChangeAt Go.RowKit
def lay5 : List (String × DataW Unit) := [("math/bits.deBruijn32tab", Rows.laid_math_bits_deBruijn32tab), ("math/bits.deBruijn64tab", Rows.laid_math_bits_deBruijn64tab), ("internal/strconv.uint64pow10", Rows.laid_internal_strconv_uint64pow10), ("strconv.ErrRange", Rows.laid_strconv_ErrRange), ("strconv.ErrSyntax", Rows.laid_strconv_ErrSyntax)]
theorem lay5_met (os : Os) (args : Array Value) : laidMetH Tryd.prog lay5 ((World.doorLaid Tryd.prog 62 os).forCall (fun _ _ => 0) ⟨#[], args, []⟩).memory :=
  laidMetH_of_parts3 (fuel := 8) (laidMet_of_run' 8 (by kernel_rfl) (by kernel_rfl)) (by kernel_rfl) (by kernel_rfl)
theorem gS : Tryd.prog.globalNamed "strconv.ErrSyntax" = some 1 := by kernel_rfl
theorem gR : Tryd.prog.globalNamed "strconv.ErrRange" = some 2 := by kernel_rfl
theorem star144 : "*" ++ "errors.errorString" = "*errors.errorString" := by decide
theorem row144 (u : TypeId) (h : Tryd.prog.typeName? 3 u = some "*errors.errorString") : u = 144 :=
  typeName_ptr_named (nm := "errors.errorString") (by rw [star144]; kernel_rfl) (by kernel_rfl) (by decide) u (by rw [star144]; exact h)
theorem env_of {W : World} (h : laidMetH Tryd.prog lay5 W) (hsh : W.ShapedOpen Tryd.prog) : Env W := by
  rw [Go.MakeChecks.laidMetH_plain _ _ _ (by kernel_rfl)] at h
  have h3 := h.tail.tail.tail
  obtain ⟨a, s, hv, -⟩ := laid_sentinel h3 gR (ti := 46) (by kernel_rfl) Tryd.underlying46 row144 Tryd.underlying144 Tryd.underlying146 rfl rfl (by kernel_rfl) (by kernel_rfl) (by kernel_rfl)
  obtain ⟨b, t, hw, -⟩ := laid_sentinel h3.tail gS (ti := 46) (by kernel_rfl) Tryd.underlying46 row144 Tryd.underlying144 Tryd.underlying146 rfl rfl (by kernel_rfl) (by kernel_rfl) (by kernel_rfl)
  have h2 : laidMet Tryd.prog [("internal/strconv.uint64pow10", Lib.tabData .u64 Lib.pow10Tab), ("strconv.ErrRange", Rows.laid_strconv_ErrRange), ("strconv.ErrSyntax", Rows.laid_strconv_ErrSyntax)] W := h.tail.tail
  exact ⟨Lib.tabIs_of_head gT gTType u135 u55 cells55 cells135 h2, Tryd.laysM145.s1_3 W hsh, ⟨_, by simpa using World.var?_cell gS hw 0, Or.inr ⟨_, _, rfl⟩⟩, _, by simpa using World.var?_cell gR hv 0, Or.inr ⟨_, _, rfl⟩⟩
section
variable {H : Type} {enc : TypeId × Value → H}
set_option maxRecDepth 100000 in
/-- A row whose walk asks both for what listed variables hold and for the world's shape. -/
theorem handed_shaped {os : Os} {f : FuncId} {fn : Func} {s : ChangeSpec} {X : World → Prop} (hX : ∀ w w' : World, w.heap = w'.heap → X w → X w') (started : os.Started) (noInit : Tryd.checked.prog.inits.idxOf? f = none) (hfn : Tryd.checked.prog.funcs[f]? = some fn)
    (witness : ∃ (w : World) (tape : Tape) (i : Input), w.os = os ∧ (w.forCall tape i).Shaped Tryd.checked.prog ∧ i.vars = [] ∧ Input.okWide Tryd.checked.prog (w.forCall tape i) .any w.heap.size f i ∧
      ((s.pre enc Tryd.checked.prog fn [] false (w.forCall tape i).memory i.args ∧ X (w.forCall tape i).memory) ∧ sizedMet enc Tryd.checked.prog fn (OpenSpec.ofChange s) false (w.forCall tape i).memory i.args) ∧ ({} : Assume).holds Tryd.checked.prog (lone (Frame.enter Tryd.checked.prog f i.args .normal) [] (w.forCall tape i)))
    (contract : ∀ (W : World) (base : Nat) (args : Array Value) (ds gs : List (DataW H)) (before : List MemPlace),
      (∀ (j : Nat) t v, fn.params[j]? = some t → args[j]? = some v → Value.okWide Tryd.checked.prog W .any base t v) →
      DataW.Whole enc Tryd.checked.prog fn.params.toList s.vars false W args.toList ds gs before → X W → W.ShapedOpen Tryd.checked.prog →
      Calls Tryd.checked.prog f args W fun e W' => ∃ v, e = .returned v ∧ s.post enc Tryd.checked.prog fn false true false false W args v W') :
    ReturnsInHanded {} Tryd.checked os f .any (fun w args => (s.pre enc Tryd.checked.prog fn [] false w args ∧ X w) ∧ sizedMet enc Tryd.checked.prog fn (OpenSpec.ofChange s) false w args) (s.post enc Tryd.checked.prog fn false true false false) := by
  refine returnsInHanded_of_calls own0 started noInit witness fun w tape i _ hsh _ hok hpre _ => ?_
  obtain ⟨_, _, _, fn', hfn', _, _, _, _, hval⟩ := hok
  cases Option.some.inj (hfn'.symm.trans hfn)
  have hw := hpre.1.1
  obtain ⟨ds, gs, before, hw, -⟩ := hw
  have hw' := DataW.Whole.of_heap (w' := w.forCall tape i) (by rfl) hw
  exact (contract _ _ _ ds gs before hval hw' (hX (w.forCall tape i).memory _ (by rfl) hpre.1.2) hsh).mono fun e W' ⟨v, he, hp⟩ => by
    subst he
    exact ChangeSpec.post_blind hp
end
end Go.Proofs.YtclainfdeghgnaaDoor
namespace Go.Proofs.YtclainfdeghgnaaDoor
open Go.RowKit Go.Proofs.YtclainfdeghgnaaDoor.Nm
set_option linter.unusedSimpArgs false
theorem long_any (s : ByteArray) (w : World) : Calls Tryd.prog 13 #[.string s] w fun e w' => e = .returned (.bool (decide (200 < s.size))) ∧ Below w.heap.size w w' := by
  have hb := Below.refl w.heap.size w
  by_cases hl : 200 < s.size
  · have hlI : (200 : Int) < (s.size : Int) := by omega
    go_enter Tryd.func13, Tryd.ntmps13
    go_upto_region 0 with (fail)
    apply wp_region_lit
    (with_reducible refine wl_k ?_ ?_); exact rfl; intro K hK; go_simp; refine hK _ ?_; clear hK K
    go_upto_region 1 with (fail)
    apply wp_region_lit
    (with_reducible refine wl_k ?_ ?_); exact rfl; intro K hK; go_simp; refine hK _ ?_; clear hK K
    (with_reducible refine wl_k ?_ ?_); exact rfl; intro K hK; go_simp; refine hK _ ?_; clear hK K
    (with_reducible refine wl_k ?_ ?_); exact rfl; intro K hK; go_simp; refine hK _ ?_; clear hK K
    (with_reducible refine wl_k ?_ ?_); exact rfl; intro K hK; go_simp; refine hK _ ?_; clear hK K
    go_wp2_with fail
    go_ret
    first | exact ⟨rfl, hb⟩ | exact ⟨by rw [decide_eq_true hl]; rfl, hb⟩
  · have hlI : ¬ (200 : Int) < (s.size : Int) := by omega
    go_enter Tryd.func13, Tryd.ntmps13
    go_upto_region 0 with (fail)
    apply wp_region_lit
    (with_reducible refine wl_k ?_ ?_); exact rfl; intro K hK; go_simp; refine hK _ ?_; clear hK K
    go_upto_region 1 with (fail)
    apply wp_region_lit
    (with_reducible refine wl_k ?_ ?_); exact rfl; intro K hK; go_simp; refine hK _ ?_; clear hK K
    (with_reducible refine wl_k ?_ ?_); exact rfl; intro K hK; go_simp; refine hK _ ?_; clear hK K
    (with_reducible refine wl_k ?_ ?_); exact rfl; intro K hK; go_simp; refine hK _ ?_; clear hK K
    (with_reducible refine wl_k ?_ ?_); exact rfl; intro K hK; go_simp; refine hK _ ?_; clear hK K
    go_wp2_with fail
    go_ret
    first | exact ⟨rfl, hb⟩ | exact ⟨by rw [decide_eq_false hl]; rfl, hb⟩
set_option maxHeartbeats 4000000 in
set_option maxRecDepth 100000 in
theorem NumberTexts_any (u k : Int) (s : ByteArray) (w : World) (he : Env w) : Calls Tryd.prog 4 #[.agg (dc u k), .string s] w fun e w' => e = .returned (.bool true) ∧ Below w.heap.size w w' := by
  have HE := Lib.hid he
  clear he
  have hb := Below.refl w.heap.size w
  go_enter Tryd.func4, Tryd.ntmps4
  go_upto_region 0 with (fail)
  apply wp_region_lit
  (with_reducible refine wl_boxD rfl ?_); intro W p hbn hlp hp; replace hb := hb.trans (hbn.mono hb.size); clear hbn; simp only [put_lit, List.set_cons_zero, List.set_cons_succ]
  (with_reducible refine wl_k ?_ ?_); exact rfl; intro K hK; go_simp; refine hK _ ?_; clear hK K
  go_upto_region 1 with (fail)
  have c0 := Format_any u k W (HE.out.old hb).tab
  by_cases hok : okD u k = true
  · obtain ⟨k0, hk0⟩ : ∃ n : Nat, k = (n : Int) := ⟨k.toNat, by have := (okD_iff.1 hok).2.2.1; omega⟩
    subst hk0
    obtain ⟨m, hm⟩ : ∃ m : ByteArray, m = ⟨(fmtL u k0).toArray⟩ := ⟨_, rfl⟩
    have hml : m.data.toList = fmtL u k0 := by rw [hm]
    rw [fm_goodN hok hml] at c0
    have hmz : m.size < 4294967281 := by rw [bsize, hml]; have := fmt_len hok; omega
    have HP := Lib.hid (prV_yes (t := m.data.toList) (by rw [hml]; exact parseP_fmt hok))
    clear hm hml hok
    apply wp_region_lit
    ((with_reducible apply wl_rowG); exact rfl; exact rfl; exact rowDc hp)
    (with_reducible refine wl_ck ?_ ?_); exact rfl; intro K hK; go_simp; refine ⟨_, _, ⟨rfl, rfl⟩, hK _ _ ⟨_, c0, ?_⟩⟩; clear hK K; rintro e w1 ⟨rfl, hb1⟩; refine ⟨_, rfl, ?_⟩; simp only [put_lit, List.set_cons_zero, List.set_cons_succ]
    replace hp := below_look hb1 hp; replace hb := hb.trans (hb1.mono hb.size); clear hb1
    clear c0
    (with_reducible refine wl_k ?_ ?_); exact rfl; intro K hK; go_simp; refine hK _ ?_; clear hK K
    (with_reducible refine wl_k ?_ ?_); exact rfl; intro K hK; go_simp; refine hK _ ?_; clear hK K
    (with_reducible refine wl_k ?_ ?_); exact rfl; intro K hK; go_simp; refine hK _ ?_; clear hK K
    (with_reducible refine wl_k ?_ ?_); exact rfl; intro K hK; go_simp; refine hK _ ?_; clear hK K
    (with_reducible refine wl_k ?_ ?_); exact rfl; intro K hK; go_simp; refine hK _ ?_; clear hK K
    go_upto_region 2 with (fail)
    apply wp_region_lit
    (with_reducible refine wl_k ?_ ?_); exact rfl; intro K hK; go_simp; refine hK _ ?_; clear hK K
    (with_reducible refine wl_k ?_ ?_); exact rfl; intro K hK; go_simp; refine hK _ ?_; clear hK K
    go_upto_region 3 with (fail)
    have c1 := Parse_any m hmz w1 (HE.out.old hb)
    rw [HP.out] at c1
    apply wp_region_lit
    (with_reducible refine wl_k ?_ ?_); exact rfl; intro K hK; go_simp; refine hK _ ?_; clear hK K
    (with_reducible refine wl_ck ?_ ?_); exact rfl; intro K hK; go_simp; refine ⟨_, _, ⟨rfl, rfl⟩, hK _ _ ⟨_, c1, ?_⟩⟩; clear hK K; rintro e w2 ⟨rfl, hb1⟩; refine ⟨_, rfl, ?_⟩; simp only [put_lit, List.set_cons_zero, List.set_cons_succ]
    replace hp := below_look hb1 hp; replace hb := hb.trans (hb1.mono hb.size); clear hb1
    clear c1
    (with_reducible refine wl_k ?_ ?_); exact rfl; intro K hK; go_simp; refine hK _ ?_; clear hK K
    (with_reducible refine wl_k ?_ ?_); exact rfl; intro K hK; go_simp; refine hK _ ?_; clear hK K
    (with_reducible refine wl_k ?_ ?_); exact rfl; intro K hK; go_simp; refine hK _ ?_; clear hK K
    have lthpq := heap_lt hp; (with_reducible refine wl_allD ?_); intro W3 q hbn hlq hq; replace hp := below_look hbn hp; replace hb := hb.trans (hbn.mono hb.size); clear hbn; simp only [put_lit, List.set_cons_zero, List.set_cons_succ]
    have lpq := heap_lt hp
    (with_reducible refine wl_put33 rfl rfl hq ?_); intro W5 hbx5 hkx5 hq5
    replace hb := hbx5 _ _ (by omega) hb
    replace hp := hkx5 _ _ (by omega) hp
    clear hbx5 hkx5 hq
    (with_reducible refine wl_k ?_ ?_); exact rfl; intro K hK; go_simp; refine hK _ ?_; clear hK K
    go_upto_region 4 with (fail)
    apply wp_region_lit
    ((with_reducible apply wl_rowG); exact rfl; exact rfl; exact rowDc hq5)
    ((with_reducible apply wl_rowG); exact rfl; exact rfl; exact rowDc hp)
    (with_reducible refine wl_k ?_ ?_); exact rfl; intro K hK; simp only [dc]; go_simp; refine hK _ ?_; clear hK K
    (with_reducible refine wl_k ?_ ?_); exact rfl; intro K hK; go_simp; refine hK _ ?_; clear hK K
    (with_reducible refine wl_k ?_ ?_); exact rfl; intro K hK; go_simp; refine hK _ ?_; clear hK K
    (with_reducible refine wl_k ?_ ?_); exact rfl; intro K hK; go_simp; refine hK _ ?_; clear hK K
    (with_reducible refine wl_k ?_ ?_); exact rfl; intro K hK; go_simp; refine hK _ ?_; clear hK K
    go_upto_region 6 with (fail)
    apply wp_region_lit
    (with_reducible refine wl_k ?_ ?_); exact rfl; intro K hK; go_simp; refine hK _ ?_; clear hK K
    (with_reducible refine wl_ck ?_ ?_); exact rfl; intro K hK; go_simp; refine ⟨_, _, ⟨rfl, rfl⟩, hK _ _ ⟨_, long_any s _, ?_⟩⟩; clear hK K; rintro e w10 ⟨rfl, hb1⟩; refine ⟨_, rfl, ?_⟩; simp only [put_lit, List.set_cons_zero, List.set_cons_succ]
    replace hb := hb.trans (hb1.mono hb.size); clear hb1
    by_cases hl : 200 < s.size
    · simp only [decide_eq_true hl]
      go_upto_region 7 with (fail)
      apply wp_region_lit
      (with_reducible refine wl_ck ?_ ?_); exact rfl; intro K hK; go_simp; refine ⟨_, _, ⟨rfl, rfl⟩, hK _ _ ⟨_, awake_any _, ?_⟩⟩; clear hK K; rintro e w11 ⟨rfl, hb1⟩; refine ⟨_, rfl, ?_⟩; simp only [put_lit, List.set_cons_zero, List.set_cons_succ]
      replace hb := hb.trans (hb1.mono hb.size); clear hb1
      (with_reducible refine wl_k ?_ ?_); exact rfl; intro K hK; go_simp; refine hK _ ?_; clear hK K
      go_wp2_with fail
      go_ret
      exact ⟨rfl, hb⟩
    · simp only [decide_eq_false hl]
      go_upto_region 8 with (fail)
      have c1 := Parse_any s (by omega) w10 (HE.out.old hb)
      cases hps : parseP s.data.toList with
      | none =>
        rw [prV_no hps] at c1
        apply wp_region_lit
        (with_reducible refine wl_k ?_ ?_); exact rfl; intro K hK; go_simp; refine hK _ ?_; clear hK K
        (with_reducible refine wl_ck ?_ ?_); exact rfl; intro K hK; go_simp; refine ⟨_, _, ⟨rfl, rfl⟩, hK _ _ ⟨_, c1, ?_⟩⟩; clear hK K; rintro e w11 ⟨rfl, hb1⟩; refine ⟨_, rfl, ?_⟩; simp only [put_lit, List.set_cons_zero, List.set_cons_succ]
        replace hb := hb.trans (hb1.mono hb.size); clear hb1
        clear c1
        (with_reducible refine wl_k ?_ ?_); exact rfl; intro K hK; go_simp; refine hK _ ?_; clear hK K
        (with_reducible refine wl_k ?_ ?_); exact rfl; intro K hK; go_simp; refine hK _ ?_; clear hK K
        (with_reducible refine wl_k ?_ ?_); exact rfl; intro K hK; go_simp; refine hK _ ?_; clear hK K
        have hws := hb.size
        (with_reducible refine wl_allD ?_); intro W12 q hbn hlq hq; replace hb := hb.trans (hbn.mono hb.size); clear hbn; simp only [put_lit, List.set_cons_zero, List.set_cons_succ]
        (with_reducible refine wl_put33 rfl rfl hq ?_); intro W13 hbx5 hkx5 hq5
        replace hb := hbx5 _ _ (by omega) hb
        clear hbx5 hkx5 hq
        (with_reducible refine wl_k ?_ ?_); exact rfl; intro K hK; go_simp; refine hK _ ?_; clear hK K
        go_upto_region 9 with (fail)
        apply wp_region_lit
        (with_reducible refine wl_k ?_ ?_); exact rfl; intro K hK; go_simp; refine hK _ ?_; clear hK K
        (with_reducible refine wl_k ?_ ?_); exact rfl; intro K hK; go_simp; refine hK _ ?_; clear hK K
        go_upto_region 10 with (fail)
        apply wp_region_lit
        (with_reducible refine wl_ck ?_ ?_); exact rfl; intro K hK; go_simp; refine ⟨_, _, ⟨rfl, rfl⟩, hK _ _ ⟨_, awake_any _, ?_⟩⟩; clear hK K; rintro e w14 ⟨rfl, hb1⟩; refine ⟨_, rfl, ?_⟩; simp only [put_lit, List.set_cons_zero, List.set_cons_succ]
        replace hb := hb.trans (hb1.mono hb.size); clear hb1
        (with_reducible refine wl_k ?_ ?_); exact rfl; intro K hK; go_simp; refine hK _ ?_; clear hK K
        go_wp2_with fail
        go_ret
        exact ⟨rfl, hb⟩
      | some x =>
        obtain ⟨v, j⟩ := x
        rw [prV_yes hps] at c1
        obtain ⟨hok2, hfs⟩ := parseP_some hps
        clear hps
        apply wp_region_lit
        (with_reducible refine wl_k ?_ ?_); exact rfl; intro K hK; go_simp; refine hK _ ?_; clear hK K
        (with_reducible refine wl_ck ?_ ?_); exact rfl; intro K hK; go_simp; refine ⟨_, _, ⟨rfl, rfl⟩, hK _ _ ⟨_, c1, ?_⟩⟩; clear hK K; rintro e w11 ⟨rfl, hb1⟩; refine ⟨_, rfl, ?_⟩; simp only [put_lit, List.set_cons_zero, List.set_cons_succ]
        replace hb := hb.trans (hb1.mono hb.size); clear hb1
        clear c1
        (with_reducible refine wl_k ?_ ?_); exact rfl; intro K hK; go_simp; refine hK _ ?_; clear hK K
        (with_reducible refine wl_k ?_ ?_); exact rfl; intro K hK; go_simp; refine hK _ ?_; clear hK K
        (with_reducible refine wl_k ?_ ?_); exact rfl; intro K hK; go_simp; refine hK _ ?_; clear hK K
        have hws := hb.size
        (with_reducible refine wl_allD ?_); intro W12 q hbn hlq hq; replace hb := hb.trans (hbn.mono hb.size); clear hbn; simp only [put_lit, List.set_cons_zero, List.set_cons_succ]
        (with_reducible refine wl_put33 rfl rfl hq ?_); intro W13 hbx5 hkx5 hq5
        replace hb := hbx5 _ _ (by omega) hb
        clear hbx5 hkx5 hq
        (with_reducible refine wl_k ?_ ?_); exact rfl; intro K hK; go_simp; refine hK _ ?_; clear hK K
        go_upto_region 9 with (fail)
        apply wp_region_lit
        (with_reducible refine wl_k ?_ ?_); exact rfl; intro K hK; go_simp; refine hK _ ?_; clear hK K
        (with_reducible refine wl_k ?_ ?_); exact rfl; intro K hK; go_simp; refine hK _ ?_; clear hK K
        go_upto_region 11 with (fail)
        have c2 := Format_any v (j : Int) W13 (HE.out.old hb).tab
        rw [fm_goodN hok2 (m := s) hfs.symm] at c2
        apply wp_region_lit
        ((with_reducible apply wl_rowG); exact rfl; exact rfl; exact rowDc hq5)
        (with_reducible refine wl_ck ?_ ?_); exact rfl; intro K hK; go_simp; refine ⟨_, _, ⟨rfl, rfl⟩, hK _ _ ⟨_, c2, ?_⟩⟩; clear hK K; rintro e w14 ⟨rfl, hb1⟩; refine ⟨_, rfl, ?_⟩; simp only [put_lit, List.set_cons_zero, List.set_cons_succ]
        replace hq5 := below_look hb1 hq5; replace hb := hb.trans (hb1.mono hb.size); clear hb1
        clear c2
        (with_reducible refine wl_k ?_ ?_); exact rfl; intro K hK; go_simp; refine hK _ ?_; clear hK K
        (with_reducible refine wl_k ?_ ?_); exact rfl; intro K hK; go_simp; refine hK _ ?_; clear hK K
        (with_reducible refine wl_k ?_ ?_); exact rfl; intro K hK; go_simp; refine hK _ ?_; clear hK K
        (with_reducible refine wl_k ?_ ?_); exact rfl; intro K hK; go_simp; refine hK _ ?_; clear hK K
        (with_reducible refine wl_k ?_ ?_); exact rfl; intro K hK; go_simp; refine hK _ ?_; clear hK K
        go_upto_region 12 with (fail)
        apply wp_region_lit
        (with_reducible refine wl_k ?_ ?_); exact rfl; intro K hK; go_simp; refine hK _ ?_; clear hK K
        (with_reducible refine wl_k ?_ ?_); exact rfl; intro K hK; go_simp; refine hK _ ?_; clear hK K
        (with_reducible refine wl_k ?_ ?_); exact rfl; intro K hK; go_simp; refine hK _ ?_; clear hK K
        (with_reducible refine wl_k ?_ ?_); exact rfl; intro K hK; go_simp; refine hK _ ?_; clear hK K
        (with_reducible refine wl_k ?_ ?_); exact rfl; intro K hK; go_simp; refine hK _ ?_; clear hK K
        (with_reducible refine wl_k ?_ ?_); exact rfl; intro K hK; go_simp; refine hK _ ?_; clear hK K
        (with_reducible refine wl_k ?_ ?_); exact rfl; intro K hK; go_simp; refine hK _ ?_; clear hK K
        (with_reducible refine wl_k ?_ ?_); exact rfl; intro K hK; go_simp; refine hK _ ?_; clear hK K
        (with_reducible refine wl_ck ?_ ?_); exact rfl; intro K hK; go_simp; refine ⟨_, _, ⟨rfl, rfl⟩, hK _ _ ⟨_, awake_any _, ?_⟩⟩; clear hK K; rintro e w15 ⟨rfl, hb1⟩; refine ⟨_, rfl, ?_⟩; simp only [put_lit, List.set_cons_zero, List.set_cons_succ]
        (with_reducible refine wl_k ?_ ?_); exact rfl; intro K hK; go_simp; refine hK _ ?_; clear hK K
        (with_reducible refine wl_k ?_ ?_); exact rfl; intro K hK; go_simp; refine hK _ ?_; clear hK K
        replace hb := hb.trans (hb1.mono hb.size); clear hb1
        go_wp2_with fail
        go_ret
        exact ⟨rfl, hb⟩
  · rw [fm_bad (by simpa using hok)] at c0
    apply wp_region_lit
    ((with_reducible apply wl_rowG); exact rfl; exact rfl; exact rowDc hp)
    (with_reducible refine wl_ck ?_ ?_); exact rfl; intro K hK; go_simp; refine ⟨_, _, ⟨rfl, rfl⟩, hK _ _ ⟨_, c0, ?_⟩⟩; clear hK K; rintro e w1 ⟨rfl, hb1⟩; refine ⟨_, rfl, ?_⟩; simp only [put_lit, List.set_cons_zero, List.set_cons_succ]
    replace hp := below_look hb1 hp; replace hb := hb.trans (hb1.mono hb.size); clear hb1
    clear c0
    (with_reducible refine wl_k ?_ ?_); exact rfl; intro K hK; go_simp; refine hK _ ?_; clear hK K
    (with_reducible refine wl_k ?_ ?_); exact rfl; intro K hK; go_simp; refine hK _ ?_; clear hK K
    (with_reducible refine wl_k ?_ ?_); exact rfl; intro K hK; go_simp; refine hK _ ?_; clear hK K
    (with_reducible refine wl_k ?_ ?_); exact rfl; intro K hK; go_simp; refine hK _ ?_; clear hK K
    (with_reducible refine wl_k ?_ ?_); exact rfl; intro K hK; go_simp; refine hK _ ?_; clear hK K
    go_upto_region 2 with (fail)
    apply wp_region_lit
    (with_reducible refine wl_k ?_ ?_); exact rfl; intro K hK; go_simp; refine hK _ ?_; clear hK K
    (with_reducible refine wl_k ?_ ?_); exact rfl; intro K hK; go_simp; refine hK _ ?_; clear hK K
    go_upto_region 6 with (fail)
    apply wp_region_lit
    (with_reducible refine wl_k ?_ ?_); exact rfl; intro K hK; go_simp; refine hK _ ?_; clear hK K
    (with_reducible refine wl_ck ?_ ?_); exact rfl; intro K hK; go_simp; refine ⟨_, _, ⟨rfl, rfl⟩, hK _ _ ⟨_, long_any s _, ?_⟩⟩; clear hK K; rintro e w10 ⟨rfl, hb1⟩; refine ⟨_, rfl, ?_⟩; simp only [put_lit, List.set_cons_zero, List.set_cons_succ]
    replace hb := hb.trans (hb1.mono hb.size); clear hb1
    by_cases hl : 200 < s.size
    · simp only [decide_eq_true hl]
      go_upto_region 7 with (fail)
      apply wp_region_lit
      (with_reducible refine wl_ck ?_ ?_); exact rfl; intro K hK; go_simp; refine ⟨_, _, ⟨rfl, rfl⟩, hK _ _ ⟨_, awake_any _, ?_⟩⟩; clear hK K; rintro e w11 ⟨rfl, hb1⟩; refine ⟨_, rfl, ?_⟩; simp only [put_lit, List.set_cons_zero, List.set_cons_succ]
      replace hb := hb.trans (hb1.mono hb.size); clear hb1
      (with_reducible refine wl_k ?_ ?_); exact rfl; intro K hK; go_simp; refine hK _ ?_; clear hK K
      go_wp2_with fail
      go_ret
      exact ⟨rfl, hb⟩
    · simp only [decide_eq_false hl]
      go_upto_region 8 with (fail)
      have c1 := Parse_any s (by omega) w10 (HE.out.old hb)
      cases hps : parseP s.data.toList with
      | none =>
        rw [prV_no hps] at c1
        apply wp_region_lit
        (with_reducible refine wl_k ?_ ?_); exact rfl; intro K hK; go_simp; refine hK _ ?_; clear hK K
        (with_reducible refine wl_ck ?_ ?_); exact rfl; intro K hK; go_simp; refine ⟨_, _, ⟨rfl, rfl⟩, hK _ _ ⟨_, c1, ?_⟩⟩; clear hK K; rintro e w11 ⟨rfl, hb1⟩; refine ⟨_, rfl, ?_⟩; simp only [put_lit, List.set_cons_zero, List.set_cons_succ]
        replace hb := hb.trans (hb1.mono hb.size); clear hb1
        clear c1
        (with_reducible refine wl_k ?_ ?_); exact rfl; intro K hK; go_simp; refine hK _ ?_; clear hK K
        (with_reducible refine wl_k ?_ ?_); exact rfl; intro K hK; go_simp; refine hK _ ?_; clear hK K
        (with_reducible refine wl_k ?_ ?_); exact rfl; intro K hK; go_simp; refine hK _ ?_; clear hK K
        have hws := hb.size
        (with_reducible refine wl_allD ?_); intro W12 q hbn hlq hq; replace hb := hb.trans (hbn.mono hb.size); clear hbn; simp only [put_lit, List.set_cons_zero, List.set_cons_succ]
        (with_reducible refine wl_put33 rfl rfl hq ?_); intro W13 hbx5 hkx5 hq5
        replace hb := hbx5 _ _ (by omega) hb
        clear hbx5 hkx5 hq
        (with_reducible refine wl_k ?_ ?_); exact rfl; intro K hK; go_simp; refine hK _ ?_; clear hK K
        go_upto_region 9 with (fail)
        apply wp_region_lit
        (with_reducible refine wl_k ?_ ?_); exact rfl; intro K hK; go_simp; refine hK _ ?_; clear hK K
        (with_reducible refine wl_k ?_ ?_); exact rfl; intro K hK; go_simp; refine hK _ ?_; clear hK K
        go_upto_region 10 with (fail)
        apply wp_region_lit
        (with_reducible refine wl_ck ?_ ?_); exact rfl; intro K hK; go_simp; refine ⟨_, _, ⟨rfl, rfl⟩, hK _ _ ⟨_, awake_any _, ?_⟩⟩; clear hK K; rintro e w14 ⟨rfl, hb1⟩; refine ⟨_, rfl, ?_⟩; simp only [put_lit, List.set_cons_zero, List.set_cons_succ]
        replace hb := hb.trans (hb1.mono hb.size); clear hb1
        (with_reducible refine wl_k ?_ ?_); exact rfl; intro K hK; go_simp; refine hK _ ?_; clear hK K
        go_wp2_with fail
        go_ret
        exact ⟨rfl, hb⟩
      | some x =>
        obtain ⟨v, j⟩ := x
        rw [prV_yes hps] at c1
        obtain ⟨hok2, hfs⟩ := parseP_some hps
        clear hps
        apply wp_region_lit
        (with_reducible refine wl_k ?_ ?_); exact rfl; intro K hK; go_simp; refine hK _ ?_; clear hK K
        (with_reducible refine wl_ck ?_ ?_); exact rfl; intro K hK; go_simp; refine ⟨_, _, ⟨rfl, rfl⟩, hK _ _ ⟨_, c1, ?_⟩⟩; clear hK K; rintro e w11 ⟨rfl, hb1⟩; refine ⟨_, rfl, ?_⟩; simp only [put_lit, List.set_cons_zero, List.set_cons_succ]
        replace hb := hb.trans (hb1.mono hb.size); clear hb1
        clear c1
        (with_reducible refine wl_k ?_ ?_); exact rfl; intro K hK; go_simp; refine hK _ ?_; clear hK K
        (with_reducible refine wl_k ?_ ?_); exact rfl; intro K hK; go_simp; refine hK _ ?_; clear hK K
        (with_reducible refine wl_k ?_ ?_); exact rfl; intro K hK; go_simp; refine hK _ ?_; clear hK K
        have hws := hb.size
        (with_reducible refine wl_allD ?_); intro W12 q hbn hlq hq; replace hb := hb.trans (hbn.mono hb.size); clear hbn; simp only [put_lit, List.set_cons_zero, List.set_cons_succ]
        (with_reducible refine wl_put33 rfl rfl hq ?_); intro W13 hbx5 hkx5 hq5
        replace hb := hbx5 _ _ (by omega) hb
        clear hbx5 hkx5 hq
        (with_reducible refine wl_k ?_ ?_); exact rfl; intro K hK; go_simp; refine hK _ ?_; clear hK K
        go_upto_region 9 with (fail)
        apply wp_region_lit
        (with_reducible refine wl_k ?_ ?_); exact rfl; intro K hK; go_simp; refine hK _ ?_; clear hK K
        (with_reducible refine wl_k ?_ ?_); exact rfl; intro K hK; go_simp; refine hK _ ?_; clear hK K
        go_upto_region 11 with (fail)
        have c2 := Format_any v (j : Int) W13 (HE.out.old hb).tab
        rw [fm_goodN hok2 (m := s) hfs.symm] at c2
        apply wp_region_lit
        ((with_reducible apply wl_rowG); exact rfl; exact rfl; exact rowDc hq5)
        (with_reducible refine wl_ck ?_ ?_); exact rfl; intro K hK; go_simp; refine ⟨_, _, ⟨rfl, rfl⟩, hK _ _ ⟨_, c2, ?_⟩⟩; clear hK K; rintro e w14 ⟨rfl, hb1⟩; refine ⟨_, rfl, ?_⟩; simp only [put_lit, List.set_cons_zero, List.set_cons_succ]
        replace hq5 := below_look hb1 hq5; replace hb := hb.trans (hb1.mono hb.size); clear hb1
        clear c2
        (with_reducible refine wl_k ?_ ?_); exact rfl; intro K hK; go_simp; refine hK _ ?_; clear hK K
        (with_reducible refine wl_k ?_ ?_); exact rfl; intro K hK; go_simp; refine hK _ ?_; clear hK K
        (with_reducible refine wl_k ?_ ?_); exact rfl; intro K hK; go_simp; refine hK _ ?_; clear hK K
        (with_reducible refine wl_k ?_ ?_); exact rfl; intro K hK; go_simp; refine hK _ ?_; clear hK K
        (with_reducible refine wl_k ?_ ?_); exact rfl; intro K hK; go_simp; refine hK _ ?_; clear hK K
        go_upto_region 12 with (fail)
        apply wp_region_lit
        (with_reducible refine wl_k ?_ ?_); exact rfl; intro K hK; go_simp; refine hK _ ?_; clear hK K
        (with_reducible refine wl_k ?_ ?_); exact rfl; intro K hK; go_simp; refine hK _ ?_; clear hK K
        (with_reducible refine wl_k ?_ ?_); exact rfl; intro K hK; go_simp; refine hK _ ?_; clear hK K
        (with_reducible refine wl_k ?_ ?_); exact rfl; intro K hK; go_simp; refine hK _ ?_; clear hK K
        (with_reducible refine wl_k ?_ ?_); exact rfl; intro K hK; go_simp; refine hK _ ?_; clear hK K
        (with_reducible refine wl_k ?_ ?_); exact rfl; intro K hK; go_simp; refine hK _ ?_; clear hK K
        (with_reducible refine wl_k ?_ ?_); exact rfl; intro K hK; go_simp; refine hK _ ?_; clear hK K
        (with_reducible refine wl_k ?_ ?_); exact rfl; intro K hK; go_simp; refine hK _ ?_; clear hK K
        (with_reducible refine wl_ck ?_ ?_); exact rfl; intro K hK; go_simp; refine ⟨_, _, ⟨rfl, rfl⟩, hK _ _ ⟨_, awake_any _, ?_⟩⟩; clear hK K; rintro e w15 ⟨rfl, hb1⟩; refine ⟨_, rfl, ?_⟩; simp only [put_lit, List.set_cons_zero, List.set_cons_succ]
        (with_reducible refine wl_k ?_ ?_); exact rfl; intro K hK; go_simp; refine hK _ ?_; clear hK K
        (with_reducible refine wl_k ?_ ?_); exact rfl; intro K hK; go_simp; refine hK _ ?_; clear hK K
        replace hb := hb.trans (hb1.mono hb.size); clear hb1
        go_wp2_with fail
        go_ret
        exact ⟨rfl, hb⟩
end Go.Proofs.YtclainfdeghgnaaDoor
