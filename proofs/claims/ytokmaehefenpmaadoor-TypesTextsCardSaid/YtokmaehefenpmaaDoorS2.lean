/- Names of types: the document's TypeName. -/
import Derived.Test.YtokmaehefenpmaaDoorW11
import Derived.Deep.DeepCutAuto
namespace Go.Proofs.YtokmaehefenpmaaDoor
open Go.RowKit Go.Proofs.YtokmaehefenpmaaDoor.Nm
set_option linter.unusedSimpArgs false
def letterB (c : Int) : Bool := decide ((97 ≤ c ∧ c ≤ 122) ∨ (65 ≤ c ∧ c ≤ 90) ∨ c = 95)
def digitB (c : Int) : Bool := decide (48 ≤ c ∧ c ≤ 57)
def capB (c : Int) : Bool := decide (65 ≤ c ∧ c ≤ 90)
set_option maxHeartbeats 2000000 in
set_option maxRecDepth 100000 in
theorem Letter_any (c : Int) (w : World) : Calls Tryd.prog 113 #[.int .u8 c] w fun e w' => e = .returned (.bool (letterB c)) ∧ w = w' := by
  go_enter Tryd.func113, Tryd.ntmps113
  by_cases h5 : c = 95
  · subst h5
    go_wp2_with fail
    go_ret
    exact ⟨rfl, rfl⟩
  have e1 : (c == 95) = false := by simp [h5]
  have HH := Lib.hid h5
  clear h5
  by_cases h1 : c ≥ 97
  · skip
    by_cases h2 : c ≤ 122
    · skip
      go_wp2_with fail
      go_ret
      have := HH.out
      exact ⟨by rw [show letterB c = true from decide_eq_true (by omega)]; rfl, rfl⟩
    · skip
      by_cases h3 : c ≥ 65
      · skip
        by_cases h4 : c ≤ 90
        · skip
          go_wp2_with fail
          go_ret
          have := HH.out
          exact ⟨by rw [show letterB c = true from decide_eq_true (by omega)]; rfl, rfl⟩
        · skip
          go_wp2_with fail
          go_ret
          have := HH.out
          exact ⟨by rw [show letterB c = false from decide_eq_false (by omega)]; first | rfl | (rw [← e1]; rfl), rfl⟩
      · skip
        go_wp2_with fail
        go_ret
        have := HH.out
        exact ⟨by rw [show letterB c = false from decide_eq_false (by omega)]; first | rfl | (rw [← e1]; rfl), rfl⟩
  · skip
    by_cases h3 : c ≥ 65
    · skip
      by_cases h4 : c ≤ 90
      · skip
        go_wp2_with fail
        go_ret
        have := HH.out
        exact ⟨by rw [show letterB c = true from decide_eq_true (by omega)]; rfl, rfl⟩
      · skip
        go_wp2_with fail
        go_ret
        have := HH.out
        exact ⟨by rw [show letterB c = false from decide_eq_false (by omega)]; first | rfl | (rw [← e1]; rfl), rfl⟩
    · skip
      go_wp2_with fail
      go_ret
      have := HH.out
      exact ⟨by rw [show letterB c = false from decide_eq_false (by omega)]; first | rfl | (rw [← e1]; rfl), rfl⟩
set_option maxHeartbeats 2000000 in
set_option maxRecDepth 100000 in
theorem Digit_any (c : Int) (w : World) : Calls Tryd.prog 114 #[.int .u8 c] w fun e w' => e = .returned (.bool (digitB c)) ∧ w = w' := by
  go_enter Tryd.func114, Tryd.ntmps114
  by_cases h1 : c ≥ 48
  · skip
    by_cases h2 : c ≤ 57
    · skip
      go_wp2_with fail
      go_ret
      exact ⟨by rw [show digitB c = true from decide_eq_true (by omega)]; rfl, rfl⟩
    · skip
      go_wp2_with fail
      go_ret
      exact ⟨by rw [show digitB c = false from decide_eq_false (by omega)]; rfl, rfl⟩
  · skip
    go_wp2_with fail
    go_ret
    exact ⟨by rw [show digitB c = false from decide_eq_false (by omega)]; rfl, rfl⟩
set_option maxHeartbeats 2000000 in
set_option maxRecDepth 100000 in
theorem Capital_any (c : Int) (w : World) : Calls Tryd.prog 134 #[.int .u8 c] w fun e w' => e = .returned (.bool (capB c)) ∧ w = w' := by
  go_enter Tryd.func134, Tryd.ntmps134
  by_cases h1 : c ≥ 65
  · skip
    by_cases h2 : c ≤ 90
    · skip
      go_wp2_with fail
      go_ret
      exact ⟨by rw [show capB c = true from decide_eq_true (by omega)]; rfl, rfl⟩
    · skip
      go_wp2_with fail
      go_ret
      exact ⟨by rw [show capB c = false from decide_eq_false (by omega)]; rfl, rfl⟩
  · skip
    go_wp2_with fail
    go_ret
    exact ⟨by rw [show capB c = false from decide_eq_false (by omega)]; rfl, rfl⟩
/-- What a name of a type is. -/
def tnameB (s : ByteArray) : Bool := decide (s.size ≤ 24) && match s.data.toList with
  | [] => false
  | a :: l => capB (a.toNat : Int) && (a :: l).all fun c => letterB (c.toNat : Int) || digitB (c.toNat : Int)
theorem tname_empty {s : ByteArray} (h : s.toList.isEmpty = true) : tnameB s = false := by
  unfold tnameB
  rw [show s.data.toList = [] by rw [← ByteArray.toList_eq]; simpa using h]
  simp
theorem bytes_get {s : ByteArray} {j : Nat} (h : j < s.size) : s.data.toList[j]? = some s[j] := by
  rw [List.getElem?_eq_getElem (by simpa using h)]; rfl
theorem bytes_size (s : ByteArray) : s.data.toList.length = s.size := rfl
theorem tname_cons {s : ByteArray} (h : 0 < s.size) : tnameB s = (decide (s.size ≤ 24) && (capB (s[0].toNat : Int) && s.data.toList.all fun c => letterB (c.toNat : Int) || digitB (c.toNat : Int))) := by
  have h0 := bytes_get h
  unfold tnameB
  cases hl : s.data.toList with
  | nil => rw [hl] at h0; simp at h0
  | cons a l => rw [hl] at h0; simp at h0; subst h0; rfl
set_option maxHeartbeats 2000000 in
set_option maxRecDepth 100000 in
theorem TypeName_any (s : ByteArray) (hs : s.size ≤ maxLen) (w : World) : Calls Tryd.prog 115 #[.string s] w fun e w' => e = .returned (.bool (tnameB s)) ∧ w = w' := by
  unfold maxLen at hs
  go_enter Tryd.func115, Tryd.ntmps115
  go_upto_region 1 with (fail)
  apply wp_region_lit
  cases he : s.toList.isEmpty with
  | true =>
    have HT := Lib.hid (tname_empty he)
    (with_reducible refine wl_k ?_ ?_); exact rfl; intro K hK; go_simp; refine hK _ ?_; clear hK K
    (with_reducible refine wl_k ?_ ?_); exact rfl; intro K hK; go_simp; refine hK _ ?_; clear hK K
    (with_reducible refine wl_k ?_ ?_); exact rfl; intro K hK; go_simp; refine hK _ ?_; clear hK K
    (first | ((with_reducible refine wl_skipU ?_ ?_ ?_); exact rfl; exact rfl) | ((with_reducible refine wl_skip ?_ ?_); exact rfl; simp only [put_lit, List.set_cons_zero, List.set_cons_succ]))
    (first | ((with_reducible refine wl_skipU ?_ ?_ ?_); exact rfl; exact rfl) | ((with_reducible refine wl_skip ?_ ?_); exact rfl; simp only [put_lit, List.set_cons_zero, List.set_cons_succ]))
    (first | ((with_reducible refine wl_skipU ?_ ?_ ?_); exact rfl; exact rfl) | ((with_reducible refine wl_skip ?_ ?_); exact rfl; simp only [put_lit, List.set_cons_zero, List.set_cons_succ]))
    (with_reducible refine wl_k ?_ ?_); exact rfl; intro K hK; go_simp; refine hK _ ?_; clear hK K
    (with_reducible refine wl_k ?_ ?_); exact rfl; intro K hK; go_simp; refine hK _ ?_; clear hK K
    (first | ((with_reducible refine wl_skipU ?_ ?_ ?_); exact rfl; exact rfl) | ((with_reducible refine wl_skip ?_ ?_); exact rfl; simp only [put_lit, List.set_cons_zero, List.set_cons_succ]))
    (first | ((with_reducible refine wl_skipU ?_ ?_ ?_); exact rfl; exact rfl) | ((with_reducible refine wl_skip ?_ ?_); exact rfl; simp only [put_lit, List.set_cons_zero, List.set_cons_succ]))
    (first | ((with_reducible refine wl_skipU ?_ ?_ ?_); exact rfl; exact rfl) | ((with_reducible refine wl_skip ?_ ?_); exact rfl; simp only [put_lit, List.set_cons_zero, List.set_cons_succ]))
    (first | ((with_reducible refine wl_skipU ?_ ?_ ?_); exact rfl; exact rfl) | ((with_reducible refine wl_skip ?_ ?_); exact rfl; simp only [put_lit, List.set_cons_zero, List.set_cons_succ]))
    (with_reducible refine wl_k ?_ ?_); exact rfl; intro K hK; go_simp; refine hK _ ?_; clear hK K
    go_wp2_with fail
    go_ret
    exact ⟨by rw [HT.out]; rfl, rfl⟩
  | false =>
    have hix : 0 < s.size := by
      rcases Nat.eq_zero_or_pos s.size with h | h
      · have : s.toList = [] := by rw [ByteArray.toList_eq]; exact List.eq_nil_of_length_eq_zero h
        rw [this] at he; cases he
      · exact h
    have HTC := Lib.hid (tname_cons hix)
    by_cases h24 : (s.size : Int) > 24
    · have HT : Hid (tnameB s = false) := Lib.hid (by rw [HTC.out, decide_eq_false (by omega)]; rfl)
      (with_reducible refine wl_k ?_ ?_); exact rfl; intro K hK; go_simp; refine hK _ ?_; clear hK K
      (with_reducible refine wl_k ?_ ?_); exact rfl; intro K hK; go_simp; refine hK _ ?_; clear hK K
      (with_reducible refine wl_k ?_ ?_); exact rfl; intro K hK; go_simp; refine hK _ ?_; clear hK K
      (with_reducible refine wl_k ?_ ?_); exact rfl; intro K hK; go_simp; refine hK _ ?_; clear hK K
      (with_reducible refine wl_k ?_ ?_); exact rfl; intro K hK; go_simp; refine hK _ ?_; clear hK K
      (with_reducible refine wl_k ?_ ?_); exact rfl; intro K hK; go_simp; refine hK _ ?_; clear hK K
      (with_reducible refine wl_k ?_ ?_); exact rfl; intro K hK; go_simp; refine hK _ ?_; clear hK K
      (with_reducible refine wl_k ?_ ?_); exact rfl; intro K hK; go_simp; refine hK _ ?_; clear hK K
      (first | ((with_reducible refine wl_skipU ?_ ?_ ?_); exact rfl; exact rfl) | ((with_reducible refine wl_skip ?_ ?_); exact rfl; simp only [put_lit, List.set_cons_zero, List.set_cons_succ]))
      (first | ((with_reducible refine wl_skipU ?_ ?_ ?_); exact rfl; exact rfl) | ((with_reducible refine wl_skip ?_ ?_); exact rfl; simp only [put_lit, List.set_cons_zero, List.set_cons_succ]))
      (first | ((with_reducible refine wl_skipU ?_ ?_ ?_); exact rfl; exact rfl) | ((with_reducible refine wl_skip ?_ ?_); exact rfl; simp only [put_lit, List.set_cons_zero, List.set_cons_succ]))
      (first | ((with_reducible refine wl_skipU ?_ ?_ ?_); exact rfl; exact rfl) | ((with_reducible refine wl_skip ?_ ?_); exact rfl; simp only [put_lit, List.set_cons_zero, List.set_cons_succ]))
      (with_reducible refine wl_k ?_ ?_); exact rfl; intro K hK; go_simp; refine hK _ ?_; clear hK K
      go_wp2_with fail
      go_ret
      exact ⟨by rw [HT.out]; rfl, rfl⟩
    · have HC := Lib.hid (Capital_any (s[0].toNat : Int) w)
      obtain ⟨b1, hb1⟩ : ∃ b, b = capB (s[0].toNat : Int) := ⟨_, rfl⟩
      rw [← hb1] at HC
      rw [← hb1, decide_eq_true (by omega)] at HTC
      clear hb1
      (with_reducible refine wl_k ?_ ?_); exact rfl; intro K hK; go_simp; refine hK _ ?_; clear hK K
      (with_reducible refine wl_k ?_ ?_); exact rfl; intro K hK; go_simp; refine hK _ ?_; clear hK K
      (with_reducible refine wl_k ?_ ?_); exact rfl; intro K hK; go_simp; refine hK _ ?_; clear hK K
      (with_reducible refine wl_k ?_ ?_); exact rfl; intro K hK; go_simp; refine hK _ ?_; clear hK K
      (with_reducible refine wl_k ?_ ?_); exact rfl; intro K hK; go_simp; refine hK _ ?_; clear hK K
      (with_reducible refine wl_k ?_ ?_); exact rfl; intro K hK; go_simp; refine hK _ ?_; clear hK K
      (with_reducible refine wl_k ?_ ?_); exact rfl; intro K hK; go_simp; refine hK _ ?_; clear hK K
      (with_reducible refine wl_k ?_ ?_); exact rfl; intro K hK; go_simp; refine hK _ ?_; clear hK K
      (with_reducible refine wl_k ?_ ?_); exact rfl; intro K hK; go_simp; refine hK _ ?_; clear hK K
      (with_reducible refine wl_k ?_ ?_); exact rfl; intro K hK; go_simp; refine hK _ ?_; clear hK K
      (with_reducible refine wl_ck ?_ ?_); exact rfl; intro K hK; go_simp; refine ⟨_, _, ⟨rfl, rfl⟩, hK _ _ ⟨_, HC.out, ?_⟩⟩; clear hK K; rintro e w3 ⟨rfl, rfl⟩; refine ⟨_, rfl, ?_⟩; simp only [put_lit, List.set_cons_zero, List.set_cons_succ]
      clear HC
      cases b1 with
      | false =>
        have HT : Hid (tnameB s = false) := Lib.hid (by rw [HTC.out]; rfl)
        (with_reducible refine wl_k ?_ ?_); exact rfl; intro K hK; go_simp; refine hK _ ?_; clear hK K
        (with_reducible refine wl_k ?_ ?_); exact rfl; intro K hK; go_simp; refine hK _ ?_; clear hK K
        go_wp2_with fail
        go_ret
        exact ⟨by rw [HT.out]; rfl, rfl⟩
      | true =>
        have HT : Hid (tnameB s = s.data.toList.all fun c => letterB (c.toNat : Int) || digitB (c.toNat : Int)) := Lib.hid (by rw [HTC.out]; rfl)
        clear HTC
        (with_reducible refine wl_k ?_ ?_); exact rfl; intro K hK; go_simp; refine hK _ ?_; clear hK K
        (with_reducible refine wl_k ?_ ?_); exact rfl; intro K hK; go_simp; refine hK _ ?_; clear hK K
        go_wp2_with fail
        go_loopw [3] (fun i wr => ∃ j : Nat, j ≤ s.size ∧ i = .int .i64 (j : Int) ∧ Hid (∀ (i : Nat) (c : UInt8), i < j → s.data.toList[i]? = some c → (letterB (c.toNat : Int) || digitB (c.toNat : Int)) = true) ∧ w = wr) (fun i _ => s.size - (intOf i).toNat)
        case atStart => exact ⟨0, by omega, rfl, Lib.hid (fun i c hi => by omega), rfl⟩
        case round =>
          obtain ⟨j, hj, rfl, HR, rfl⟩ := hrel
          by_cases hlt : j < s.size
          · have hltI : (j : Int) < (s.size : Int) := by omega
            have HL := Lib.hid (Letter_any (s[j].toNat : Int) w)
            have HD := Lib.hid (Digit_any (s[j].toNat : Int) w)
            have HS := Lib.hid (bytes_get hlt)
            obtain ⟨b1, hb1⟩ : ∃ b, b = letterB (s[j].toNat : Int) := ⟨_, rfl⟩
            obtain ⟨b2, hb2⟩ : ∃ b, b = digitB (s[j].toNat : Int) := ⟨_, rfl⟩
            rw [← hb1] at HL
            rw [← hb2] at HD
            have H1 := Lib.hid hb1
            have H2 := Lib.hid hb2
            have HR2 : Hid ((b1 || b2) = true → ∀ (i : Nat) (c : UInt8), i < j + 1 → s.data.toList[i]? = some c → (letterB (c.toNat : Int) || digitB (c.toNat : Int)) = true) := Lib.hid fun h i c hi hc => by
              rcases Nat.lt_or_ge i j with h3 | h3
              · exact HR.out i c h3 hc
              · obtain rfl : i = j := by omega
                rw [HS.out] at hc; cases hc; rw [← H1.out, ← H2.out]; exact h
            have HF : Hid ((b1 || b2) = false → tnameB s = false) := Lib.hid fun h => by
              rw [HT.out, List.all_eq_false]
              exact ⟨s[j], List.mem_of_getElem? HS.out, by rw [← H1.out, ← H2.out, h]; simp⟩
            clear hb1 hb2 H1 H2 HS
            go_upto_region 6 with (fail)
            apply wp_region_lit
            (with_reducible refine wl_k ?_ ?_); exact rfl; intro K hK; go_simp; refine hK _ ?_; clear hK K
            (with_reducible refine wl_k ?_ ?_); exact rfl; intro K hK; go_simp; refine hK _ ?_; clear hK K
            (with_reducible refine wl_k ?_ ?_); exact rfl; intro K hK; go_simp; refine hK _ ?_; clear hK K
            (with_reducible refine wl_ck ?_ ?_); exact rfl; intro K hK; go_simp; refine ⟨_, _, ⟨rfl, rfl⟩, hK _ _ ⟨_, HL.out, ?_⟩⟩; clear hK K; rintro e w4 ⟨rfl, rfl⟩; refine ⟨_, rfl, ?_⟩; simp only [put_lit, List.set_cons_zero, List.set_cons_succ]
            cases b1 with
            | true =>
              have HR3 := Lib.hid (HR2.out rfl)
              clear HL HD HR2 HF
              (with_reducible refine wl_k ?_ ?_); exact rfl; intro K hK; go_simp; refine hK _ ?_; clear hK K
              (with_reducible refine wl_k ?_ ?_); exact rfl; intro K hK; go_simp; refine hK _ ?_; clear hK K
              (first | ((with_reducible refine wl_skipU ?_ ?_ ?_); exact rfl; exact rfl) | ((with_reducible refine wl_skip ?_ ?_); exact rfl; simp only [put_lit, List.set_cons_zero, List.set_cons_succ]))
              (first | ((with_reducible refine wl_skipU ?_ ?_ ?_); exact rfl; exact rfl) | ((with_reducible refine wl_skip ?_ ?_); exact rfl; simp only [put_lit, List.set_cons_zero, List.set_cons_succ]))
              (first | ((with_reducible refine wl_skipU ?_ ?_ ?_); exact rfl; exact rfl) | ((with_reducible refine wl_skip ?_ ?_); exact rfl; simp only [put_lit, List.set_cons_zero, List.set_cons_succ]))
              (first | ((with_reducible refine wl_skipU ?_ ?_ ?_); exact rfl; exact rfl) | ((with_reducible refine wl_skip ?_ ?_); exact rfl; simp only [put_lit, List.set_cons_zero, List.set_cons_succ]))
              (first | ((with_reducible refine wl_skipU ?_ ?_ ?_); exact rfl; exact rfl) | ((with_reducible refine wl_skip ?_ ?_); exact rfl; simp only [put_lit, List.set_cons_zero, List.set_cons_succ]))
              (with_reducible refine wl_k ?_ ?_); exact rfl; intro K hK; go_simp; refine hK _ ?_; clear hK K
              go_wp2_with fail
              go_roundw
              case rel => exact ⟨j + 1, by omega, by go_num, HR3, trivial⟩
              case measure => simp [intOf]; omega
            | false =>
              (with_reducible refine wl_k ?_ ?_); exact rfl; intro K hK; go_simp; refine hK _ ?_; clear hK K
              (with_reducible refine wl_k ?_ ?_); exact rfl; intro K hK; go_simp; refine hK _ ?_; clear hK K
              (with_reducible refine wl_k ?_ ?_); exact rfl; intro K hK; go_simp; refine hK _ ?_; clear hK K
              (with_reducible refine wl_k ?_ ?_); exact rfl; intro K hK; go_simp; refine hK _ ?_; clear hK K
              (with_reducible refine wl_k ?_ ?_); exact rfl; intro K hK; go_simp; refine hK _ ?_; clear hK K
              (with_reducible refine wl_ck ?_ ?_); exact rfl; intro K hK; go_simp; refine ⟨_, _, ⟨rfl, rfl⟩, hK _ _ ⟨_, HD.out, ?_⟩⟩; clear hK K; rintro e w4 ⟨rfl, rfl⟩; refine ⟨_, rfl, ?_⟩; simp only [put_lit, List.set_cons_zero, List.set_cons_succ]
              cases b2 with
              | true =>
                have HR3 := Lib.hid (HR2.out rfl)
                clear HL HD HR2 HF
                (with_reducible refine wl_k ?_ ?_); exact rfl; intro K hK; go_simp; refine hK _ ?_; clear hK K
                (with_reducible refine wl_k ?_ ?_); exact rfl; intro K hK; go_simp; refine hK _ ?_; clear hK K
                go_wp2_with fail
                go_roundw
                case rel => exact ⟨j + 1, by omega, by go_num, HR3, trivial⟩
                case measure => simp [intOf]; omega
              | false =>
                have HF2 := Lib.hid (HF.out rfl)
                clear HL HD HR2 HF
                (with_reducible refine wl_k ?_ ?_); exact rfl; intro K hK; go_simp; refine hK _ ?_; clear hK K
                (with_reducible refine wl_k ?_ ?_); exact rfl; intro K hK; go_simp; refine hK _ ?_; clear hK K
                go_wp2_with fail
                go_ret
                exact ⟨by rw [HF2.out]; rfl, rfl⟩
          · have hltI : ¬ (j : Int) < (s.size : Int) := by omega
            have HF : Hid (tnameB s = true) := Lib.hid (by
              rw [HT.out, List.all_eq_true]
              intro c hc
              obtain ⟨i, hi⟩ := List.mem_iff_getElem?.1 hc
              exact HR.out i c (by have := (List.getElem?_eq_some_iff.1 hi).1; rw [bytes_size] at this; omega) hi)
            go_wp2_with fail
            go_ret
            exact ⟨by rw [HF.out]; rfl, rfl⟩
end Go.Proofs.YtokmaehefenpmaaDoor
