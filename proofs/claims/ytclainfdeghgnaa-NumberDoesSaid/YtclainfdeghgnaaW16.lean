/- A decimal text read. -/
import Derived.Test.YtclainfdeghgnaaW15
import Derived.Outline
namespace Go.Proofs.Ytclainfdeghgnaa
open Go.RowKit Go.Proofs.Ytclainfdeghgnaa.Nm

def okc (c : UInt8) : Bool := decide (48 ≤ c.toNat) && decide (c.toNat ≤ 57)
def rv : List UInt8 → Nat
  | [] => 0
  | c :: l => (c.toNat - 48) + 10 * rv l
/-- The number that a text is, if it is one. -/
def rd (s : List UInt8) : Option Int :=
  if 40 < s.length ∨ Lib.trimPrefix s [45] = [] ∨ ((Lib.trimPrefix s [45]).head? = some 48 ∧ s ≠ [48]) ∨ (Lib.trimPrefix s [45]).all okc = false then none
  else some (sg (decide ((Lib.trimPrefix s [45]).length < s.length)) (rv (Lib.trimPrefix s [45]).reverse))
def dgc (d : List UInt8) (i : Nat) : Nat := (d.reverse.getD i 48).toNat - 48
theorem dg_rv (l : List UInt8) (h : ∀ c ∈ l, okc c = true) (i : Nat) : dg (rv l) i = (l.getD i 48).toNat - 48 := by
  induction l generalizing i with
  | nil => simp [rv, dg]
  | cons c l ih =>
    have hc := h c (by simp)
    unfold okc at hc
    simp only [Bool.and_eq_true, decide_eq_true_eq] at hc
    cases i with
    | zero => simp [rv, dg]; omega
    | succ i =>
      rw [dg_succ]
      have : rv (c :: l) / 10 = rv l := by simp only [rv]; omega
      rw [this, ih (fun c hc => h c (by simp [hc]))]
      simp
theorem rv_lt (l : List UInt8) (h : ∀ c ∈ l, okc c = true) : rv l < 10 ^ l.length := by
  induction l with
  | nil => simp [rv]
  | cons c l ih =>
    have hc := h c (by simp)
    unfold okc at hc
    simp only [Bool.and_eq_true, decide_eq_true_eq] at hc
    have := ih (fun c hc => h c (by simp [hc]))
    simp only [rv, List.length_cons, Nat.pow_succ]
    omega
theorem trim_le (s p : List UInt8) : (Lib.trimPrefix s p).length ≤ s.length := by
  unfold Lib.trimPrefix; split <;> simp
def rdRow (d : List UInt8) (k i : Nat) : Nat := if i < k then dgc d i else 0
theorem rdRow_zero (d : List UInt8) : row (rdRow d 0) = row fun _ => 0 := row_congr fun i _ => by simp [rdRow]
theorem rdRow_step (d : List UInt8) (k : Nat) (hk : k < 64) (v : Value) (hv : v = .int .u8 (dgc d k)) : (row (rdRow d k)).setIfInBounds k v = row (rdRow d (k + 1)) := by
  subst hv; rw [row_set _ _ _ hk]; apply row_congr; intro i _; unfold rdRow; split
  · subst_vars; rw [if_pos (by omega)]
  · by_cases h : i < k
    · rw [if_pos h, if_pos (by omega)]
    · rw [if_neg h, if_neg (by omega)]
theorem rdRow_end (d : List UInt8) (h : ∀ c ∈ d, okc c = true) : row (rdRow d d.length) = dv (rv d.reverse) := row_congr fun i _ => by
  rw [dg_rv _ (by simpa using h)]
  unfold rdRow dgc
  split
  · rfl
  · rename_i hi
    rw [List.getD_eq_getElem?_getD, List.getElem?_eq_none (by simp; omega)]
    rfl
theorem is_zero (m : ByteArray) : (m.toList == [48]) = decide (m.data.toList = [48]) := by
  rw [ByteArray.toList_eq]
  rcases h : decide (m.data.toList = [48]) with _ | _
  · rw [beq_eq_false_iff_ne]; simpa using h
  · rw [beq_iff_eq]; simpa using h

set_option maxHeartbeats 400000 in
theorem read_long (m : ByteArray) (d : List UInt8) (hd : Hid (Lib.trimPrefix m.data.toList [45] = d)) (hl : 40 < m.size) (w : World) :
    Calls Try.prog 82 #[.string m] w fun e w' => e = .returned (.tuple #[.agg (lv 0), .bool false]) ∧ Below w.heap.size w w' := by
  go_enter Try.func82, Try.ntmps82
  go_upto_region 1 with (fail)
  refine wp_world (fun W => W.heap[w.heap.size]? = some (.cells (lv 0) 75 (0, 0)) ∧ Below w.heap.size w W) ⟨by rw [← zero_long]; exact ha_new rfl, ((Below.refl _ _).alloc (Nat.le_refl _) _)⟩ ?_
  rintro W ⟨h0, hb⟩
  go_upto_region 2 with (go_at_call 127; refine (Try.strings_TrimPrefix _ _ _).mono ?_; rintro e w1 ⟨rfl, rfl⟩)
  rw [show Lib.trimPrefix m.data.toList (ByteArray.mk #[45]).data.toList = d from hd.out]
  rcases d with _ | ⟨c, d'⟩
  · go_upto_region 3 with (fail)
    apply wp_region_lit
    refine wl_val rfl (ex_build 75 _ rfl (L := []) rfl built_lzero) ?_
    ((with_reducible apply wl_put75); exact rfl; exact rfl; exact h0; intro w8 hbx hk hq; replace hb := hbx _ _ (by omega) hb; clear h0; have h0 := hq; clear hbx hk hq)
    go_wp2_with fail
    exact bodyPost_ret (res_longErr rfl _ _ w.heap.size rfl h0) rfl ⟨rfl, hb⟩
  · by_cases h48 : c.toNat = 48
    · go_upto_region 3 with (fail)
      apply wp_region_lit
      refine wl_val rfl (ex_build 75 _ rfl (L := []) rfl built_lzero) ?_
      ((with_reducible apply wl_put75); exact rfl; exact rfl; exact h0; intro w8 hbx hk hq; replace hb := hbx _ _ (by omega) hb; clear h0; have h0 := hq; clear hbx hk hq)
      go_wp2_with fail
      exact bodyPost_ret (res_longErr rfl _ _ w.heap.size rfl h0) rfl ⟨rfl, hb⟩
    · go_upto_region 3 with (fail)
      apply wp_region_lit
      refine wl_val rfl (ex_build 75 _ rfl (L := []) rfl built_lzero) ?_
      ((with_reducible apply wl_put75); exact rfl; exact rfl; exact h0; intro w8 hbx hk hq; replace hb := hbx _ _ (by omega) hb; clear h0; have h0 := hq; clear hbx hk hq)
      go_wp2_with fail
      exact bodyPost_ret (res_longErr rfl _ _ w.heap.size rfl h0) rfl ⟨rfl, hb⟩
set_option maxHeartbeats 400000 in
theorem read_none (m : ByteArray) (d : List UInt8) (hd : Hid (Lib.trimPrefix m.data.toList [45] = d)) (hdd : d = []) (hl : m.size ≤ 40) (w : World) :
    Calls Try.prog 82 #[.string m] w fun e w' => e = .returned (.tuple #[.agg (lv 0), .bool false]) ∧ Below w.heap.size w w' := by
  go_enter Try.func82, Try.ntmps82
  go_upto_region 1 with (fail)
  refine wp_world (fun W => W.heap[w.heap.size]? = some (.cells (lv 0) 75 (0, 0)) ∧ Below w.heap.size w W) ⟨by rw [← zero_long]; exact ha_new rfl, ((Below.refl _ _).alloc (Nat.le_refl _) _)⟩ ?_
  rintro W ⟨h0, hb⟩
  go_upto_region 2 with (go_at_call 127; refine (Try.strings_TrimPrefix _ _ _).mono ?_; rintro e w1 ⟨rfl, rfl⟩)
  rw [show Lib.trimPrefix m.data.toList (ByteArray.mk #[45]).data.toList = d from hd.out]
  subst hdd
  · go_upto_region 3 with (fail)
    apply wp_region_lit
    refine wl_val rfl (ex_build 75 _ rfl (L := []) rfl built_lzero) ?_
    ((with_reducible apply wl_put75); exact rfl; exact rfl; exact h0; intro w8 hbx hk hq; replace hb := hbx _ _ (by omega) hb; clear h0; have h0 := hq; clear hbx hk hq)
    go_wp2_with fail
    exact bodyPost_ret (res_longErr rfl _ _ w.heap.size rfl h0) rfl ⟨rfl, hb⟩
set_option maxHeartbeats 400000 in
theorem read_zero (m : ByteArray) (d' : List UInt8) (hd : Hid (Lib.trimPrefix m.data.toList [45] = 48 :: d')) (hl : m.size ≤ 40) (hz : (m.toList == [48]) = false) (w : World) :
    Calls Try.prog 82 #[.string m] w fun e w' => e = .returned (.tuple #[.agg (lv 0), .bool false]) ∧ Below w.heap.size w w' := by
  obtain ⟨d, hdd⟩ : ∃ d : List UInt8, d = 48 :: d' := ⟨_, rfl⟩
  rw [← hdd] at hd
  go_enter Try.func82, Try.ntmps82
  go_upto_region 1 with (fail)
  refine wp_world (fun W => W.heap[w.heap.size]? = some (.cells (lv 0) 75 (0, 0)) ∧ Below w.heap.size w W) ⟨by rw [← zero_long]; exact ha_new rfl, ((Below.refl _ _).alloc (Nat.le_refl _) _)⟩ ?_
  rintro W ⟨h0, hb⟩
  go_upto_region 2 with (go_at_call 127; refine (Try.strings_TrimPrefix _ _ _).mono ?_; rintro e w1 ⟨rfl, rfl⟩)
  rw [show Lib.trimPrefix m.data.toList (ByteArray.mk #[45]).data.toList = d from hd.out]
  subst hdd
  · go_upto_region 3 with (fail)
    apply wp_region_lit
    refine wl_val rfl (ex_build 75 _ rfl (L := []) rfl built_lzero) ?_
    ((with_reducible apply wl_put75); exact rfl; exact rfl; exact h0; intro w8 hbx hk hq; replace hb := hbx _ _ (by omega) hb; clear h0; have h0 := hq; clear hbx hk hq)
    go_wp2_with fail
    exact bodyPost_ret (res_longErr rfl _ _ w.heap.size rfl h0) rfl ⟨rfl, hb⟩
set_option maxHeartbeats 400000 in
theorem read_digits (m : ByteArray) (d : List UInt8) (hd : Hid (Lib.trimPrefix m.data.toList [45] = d)) (hdd : d ≠ []) (hl : m.size ≤ 40) (hz : d.head? = some 48 → m.data.toList = [48]) (R : Ending) (HR : Hid (R = .returned (.tuple #[.agg (lv (if d.all okc then sg (decide (d.length < m.size)) (rv d.reverse) else 0)), .bool (d.all okc)]))) (w : World) :
    Calls Try.prog 82 #[.string m] w fun e w' => e = R ∧ Below w.heap.size w w' := by
  go_enter Try.func82, Try.ntmps82
  go_upto_region 1 with (fail)
  refine wp_world (fun W => W.heap[w.heap.size]? = some (.cells (lv 0) 75 (0, 0)) ∧ Below w.heap.size w W) ⟨by rw [← zero_long]; exact ha_new rfl, ((Below.refl _ _).alloc (Nat.le_refl _) _)⟩ ?_
  rintro W ⟨h0, hb⟩
  go_upto_region 2 with (go_at_call 127; refine (Try.strings_TrimPrefix _ _ _).mono ?_; rintro e w1 ⟨rfl, rfl⟩)
  rw [show Lib.trimPrefix m.data.toList (ByteArray.mk #[45]).data.toList = d from hd.out]
  have hne0 : 0 < d.length := List.length_pos_iff.2 hdd
  have hie : d.isEmpty = false := by cases d <;> simp_all
  have hl2 : ¬ 40 < (m.size : Int) := by omega
  have hle : d.length ≤ 40 := by have := trim_le m.data.toList [45]; rw [hd.out] at this; have h2 : m.data.toList.length = m.size := by simp
                                 omega
  by_cases hq : (((ByteArray.mk d.toArray)[0]'(by show 0 < d.toArray.size; simpa using hne0)).toNat : Int) = 48
  · have hz2 : (m.toList == [48]) = true := by
      rw [is_zero]
      simp only [decide_eq_true_eq]
      apply hz
      rw [List.head?_eq_getElem?, List.getElem?_eq_getElem hne0]
      congr 1
      apply UInt8.toNat_inj.1
      have : ((ByteArray.mk d.toArray)[0]'(by show 0 < d.toArray.size; simpa using hne0)) = d[0] := rfl
      rw [this] at hq
      exact Int.ofNat_inj.1 hq
    go_upto_region 5 with (fail)
    refine wp_world (fun W => W.heap[w.heap.size]? = some (.cells (lv 0) 75 (0, 0)) ∧ W.heap[w1.heap.size]? = some (.cells (row (rdRow d 0)) 73 (0, 0)) ∧ Below w.heap.size w W) ⟨ha_old h0, by rw [rdRow_zero, ← zero_row]; exact ha_new rfl, hb.alloc hb.size _⟩ ?_
    have lt1 := heap_lt h0
    obtain ⟨p, hp⟩ : ∃ p, p = w1.heap.size := ⟨_, rfl⟩
    rw [← hp] at lt1 ⊢
    clear hb h0 hp
    rintro W2 ⟨h0, h1, hb⟩
    go_wp2_with fail
    clear hq hl2 hie
    (try clear hz2)
    go_loopw [29] (fun i wr => ∃ k : Nat, k ≤ d.length ∧ i = .int .i64 (k : Int) ∧ Hid (∀ j, j < k → okc (d.reverse.getD j 48) = true) ∧ wr.heap[w.heap.size]? = some (.cells (lv 0) 75 (0, 0)) ∧ wr.heap[p]? = some (.cells (row (rdRow d k)) 73 (0, 0)) ∧ Below w.heap.size w wr) (fun i _ => (d.length - intOf i).toNat)
    case atStart => exact ⟨0, by omega, rfl, Lib.hid (fun j hj => absurd hj (by omega)), h0, h1, hb⟩
    case round =>
      clear h0 h1 hb
      obtain ⟨k, hk, rfl, HO, h0, h1, hb⟩ := hrel
      by_cases hc : k < d.length
      · obtain ⟨j, hj⟩ : ∃ j, d.length = j + 1 + k := ⟨d.length - 1 - k, by omega⟩
        have hjl : j < d.length := by omega
        have hjs : j < d.toArray.size := by simpa using hjl
        obtain ⟨c, hcc⟩ : ∃ c, c = d[j] := ⟨_, rfl⟩
        have hrc : d.reverse.getD k 48 = c := by
          rw [List.getD_eq_getElem?_getD, List.getElem?_reverse (by omega), show d.length - 1 - k = j by omega, List.getElem?_eq_getElem hjl, hcc]; rfl
        have ej : (d.length : Int) - 1 - (k : Int) = (j : Int) := by omega
        have HJ := Lib.hid hj
        clear hj
        go_upto_region 9 with (fail)
        rw [show ((ByteArray.mk d.toArray)[j]'hjs) = c from hcc.symm]
        have hcl : c.toNat < 256 := UInt8.toNat_lt c
        have HRC := Lib.hid hrc
        clear hcc ej hjl hjs hrc
        by_cases ho : 48 ≤ c.toNat ∧ c.toNat ≤ 57
        · obtain ⟨ho1, ho2⟩ := ho
          have cd : ∃ v, wr.cell? ⟨p, k, none⟩ = some v := ⟨_, by rw [cell_of_row _ _ _ _ _ _ h1, row_get _ _ (by omega)]⟩
          obtain ⟨v, cd⟩ := cd
          have fd : wr.frozen? ⟨p, k, none⟩ = false := frozen_of_row _ _ _ _ _ h1
          have HB := Lib.hid hb
          have H0 := Lib.hid h0
          have H1 := Lib.hid h1
          clear hb h0 h1
          go_wp2_with fail
          go_roundw
          case rel =>
            refine ⟨k + 1, by omega, by go_num, Lib.hid ?_, hs_old H0.out (by simp; omega), (hs_new H1.out).trans (by rw [rdRow_step _ _ (by omega) _ (by unfold dgc; rw [HRC.out]; go_num)]), HB.out.setCell (by simp; omega) _⟩
            intro i hi
            rcases Nat.lt_or_ge i k with h | h
            · exact HO.out i h
            · obtain rfl : i = k := by omega
              rw [HRC.out]
              unfold okc
              simp [ho1, ho2]
          case measure => simp [intOf]; omega
        · have hbad : d.all okc = false := by
            rw [List.all_eq_false]
            refine ⟨c, ?_, ?_⟩
            · have h1 := HRC.out
              rw [List.getD_eq_getElem?_getD, List.getElem?_eq_getElem (by simpa using hc)] at h1
              rw [← List.mem_reverse, ← h1]
              exact List.getElem_mem _
            · unfold okc
              simp
              omega
          have HBAD := Lib.hid hbad
          clear hbad
          have hcase : ∀ (P : Prop), (c.toNat < 48 → P) → (48 ≤ c.toNat → 57 < c.toNat → P) → P := by
            intro P a b
            by_cases h : c.toNat < 48
            · exact a h
            · exact b (by omega) (by omega)
          clear ho
          apply hcase
          · intro hlo
            clear hcase
            go_upto_region 10 with (fail)
            apply wp_region_lit
            refine wl_val rfl (ex_build 75 _ rfl (L := []) rfl built_lzero) ?_
            ((with_reducible apply wl_put75); exact rfl; exact rfl; exact h0; intro w8 hbx hk hq; replace hb := hbx _ _ (by omega) hb; clear h0; have h0 := hq; clear hbx hk hq)
            go_wp2_with fail
            exact bodyPost_ret (res_longErr rfl _ _ w.heap.size rfl h0) rfl ⟨by rw [HR.out, HBAD.out]; rfl, hb⟩
          · intro hlo hhi
            clear hcase
            go_upto_region 10 with (fail)
            apply wp_region_lit
            refine wl_val rfl (ex_build 75 _ rfl (L := []) rfl built_lzero) ?_
            ((with_reducible apply wl_put75); exact rfl; exact rfl; exact h0; intro w8 hbx hk hq; replace hb := hbx _ _ (by omega) hb; clear h0; have h0 := hq; clear hbx hk hq)
            go_wp2_with fail
            exact bodyPost_ret (res_longErr rfl _ _ w.heap.size rfl h0) rfl ⟨by rw [HR.out, HBAD.out]; rfl, hb⟩
      · obtain rfl : k = d.length := by omega
        have hall : ∀ c ∈ d, okc c = true := by
          intro c hc
          obtain ⟨i, hi, rfl⟩ := List.mem_iff_getElem.1 (List.mem_reverse.2 hc)
          have := HO.out i (by simpa using hi)
          rw [List.getD_eq_getElem?_getD, List.getElem?_eq_getElem hi] at this
          exact this
        have hbig : rv d.reverse < 10 ^ 64 := by
          have h1 := rv_lt d.reverse (by simpa using hall)
          have h2 : 10 ^ d.reverse.length ≤ 10 ^ 64 := Nat.pow_le_pow_right (by decide) (by simp; omega)
          omega
        have HBIG := Lib.hid hbig
        rw [rdRow_end d hall] at h1
        have HALL := Lib.hid (List.all_eq_true.2 hall)
        clear hall hbig hc hk
        go_upto_region 13 with (fail)
        apply wp_region_lit
        ((with_reducible apply wl_rowG); exact rfl; exact rfl; (first | exact rowL (by with_reducible assumption) | exact rowD (by with_reducible assumption) | exact rowR (by with_reducible assumption)))
        refine wl_k rfl (fun K hK => ?_); go_simp; refine hK _ ?_; clear hK K
        refine wl_k rfl (fun K hK => ?_); go_simp; refine hK _ ?_; clear hK K
        refine wl_k rfl (fun K hK => ?_); go_simp; refine hK _ ?_; clear hK K
        refine wl_k rfl (fun K hK => ?_); go_simp; refine hK _ ?_; clear hK K
        refine wl_k rfl (fun K hK => ?_); go_simp; refine hK _ ?_; clear hK K
        refine wl_ck rfl (fun K hK => ?_); go_simp; refine ⟨_, _, ⟨rfl, rfl⟩, hK _ _ ⟨_, signed_any _ _ HBIG.out _, ?_⟩⟩; clear hK K; rintro e w11 ⟨rfl, hb1⟩; refine ⟨_, rfl, ?_⟩; simp only [put_lit, List.set_cons_zero, List.set_cons_succ]
        replace h0 := below_look hb1 h0; replace hb := hb.trans (hb1.mono hb.size); clear hb1
        ((with_reducible apply wl_put75); exact rfl; exact rfl; exact h0; intro w12 hbx hk hq; replace hb := hbx _ _ (by omega) hb; clear h0; have h0 := hq; clear hbx hk hq)
        go_wp2_with fail
        refine bodyPost_ret (res_longErr rfl _ _ w.heap.size rfl h0) rfl ⟨?_, hb⟩
        rw [HR.out, HALL.out]
        simp
  · go_upto_region 5 with (fail)
    refine wp_world (fun W => W.heap[w.heap.size]? = some (.cells (lv 0) 75 (0, 0)) ∧ W.heap[w1.heap.size]? = some (.cells (row (rdRow d 0)) 73 (0, 0)) ∧ Below w.heap.size w W) ⟨ha_old h0, by rw [rdRow_zero, ← zero_row]; exact ha_new rfl, hb.alloc hb.size _⟩ ?_
    have lt1 := heap_lt h0
    obtain ⟨p, hp⟩ : ∃ p, p = w1.heap.size := ⟨_, rfl⟩
    rw [← hp] at lt1 ⊢
    clear hb h0 hp
    rintro W2 ⟨h0, h1, hb⟩
    go_wp2_with fail
    clear hq hl2 hie
    (try clear hz2)
    go_loopw [29] (fun i wr => ∃ k : Nat, k ≤ d.length ∧ i = .int .i64 (k : Int) ∧ Hid (∀ j, j < k → okc (d.reverse.getD j 48) = true) ∧ wr.heap[w.heap.size]? = some (.cells (lv 0) 75 (0, 0)) ∧ wr.heap[p]? = some (.cells (row (rdRow d k)) 73 (0, 0)) ∧ Below w.heap.size w wr) (fun i _ => (d.length - intOf i).toNat)
    case atStart => exact ⟨0, by omega, rfl, Lib.hid (fun j hj => absurd hj (by omega)), h0, h1, hb⟩
    case round =>
      clear h0 h1 hb
      obtain ⟨k, hk, rfl, HO, h0, h1, hb⟩ := hrel
      by_cases hc : k < d.length
      · obtain ⟨j, hj⟩ : ∃ j, d.length = j + 1 + k := ⟨d.length - 1 - k, by omega⟩
        have hjl : j < d.length := by omega
        have hjs : j < d.toArray.size := by simpa using hjl
        obtain ⟨c, hcc⟩ : ∃ c, c = d[j] := ⟨_, rfl⟩
        have hrc : d.reverse.getD k 48 = c := by
          rw [List.getD_eq_getElem?_getD, List.getElem?_reverse (by omega), show d.length - 1 - k = j by omega, List.getElem?_eq_getElem hjl, hcc]; rfl
        have ej : (d.length : Int) - 1 - (k : Int) = (j : Int) := by omega
        have HJ := Lib.hid hj
        clear hj
        go_upto_region 9 with (fail)
        rw [show ((ByteArray.mk d.toArray)[j]'hjs) = c from hcc.symm]
        have hcl : c.toNat < 256 := UInt8.toNat_lt c
        have HRC := Lib.hid hrc
        clear hcc ej hjl hjs hrc
        by_cases ho : 48 ≤ c.toNat ∧ c.toNat ≤ 57
        · obtain ⟨ho1, ho2⟩ := ho
          have cd : ∃ v, wr.cell? ⟨p, k, none⟩ = some v := ⟨_, by rw [cell_of_row _ _ _ _ _ _ h1, row_get _ _ (by omega)]⟩
          obtain ⟨v, cd⟩ := cd
          have fd : wr.frozen? ⟨p, k, none⟩ = false := frozen_of_row _ _ _ _ _ h1
          have HB := Lib.hid hb
          have H0 := Lib.hid h0
          have H1 := Lib.hid h1
          clear hb h0 h1
          go_wp2_with fail
          go_roundw
          case rel =>
            refine ⟨k + 1, by omega, by go_num, Lib.hid ?_, hs_old H0.out (by simp; omega), (hs_new H1.out).trans (by rw [rdRow_step _ _ (by omega) _ (by unfold dgc; rw [HRC.out]; go_num)]), HB.out.setCell (by simp; omega) _⟩
            intro i hi
            rcases Nat.lt_or_ge i k with h | h
            · exact HO.out i h
            · obtain rfl : i = k := by omega
              rw [HRC.out]
              unfold okc
              simp [ho1, ho2]
          case measure => simp [intOf]; omega
        · have hbad : d.all okc = false := by
            rw [List.all_eq_false]
            refine ⟨c, ?_, ?_⟩
            · have h1 := HRC.out
              rw [List.getD_eq_getElem?_getD, List.getElem?_eq_getElem (by simpa using hc)] at h1
              rw [← List.mem_reverse, ← h1]
              exact List.getElem_mem _
            · unfold okc
              simp
              omega
          have HBAD := Lib.hid hbad
          clear hbad
          have hcase : ∀ (P : Prop), (c.toNat < 48 → P) → (48 ≤ c.toNat → 57 < c.toNat → P) → P := by
            intro P a b
            by_cases h : c.toNat < 48
            · exact a h
            · exact b (by omega) (by omega)
          clear ho
          apply hcase
          · intro hlo
            clear hcase
            go_upto_region 10 with (fail)
            apply wp_region_lit
            refine wl_val rfl (ex_build 75 _ rfl (L := []) rfl built_lzero) ?_
            ((with_reducible apply wl_put75); exact rfl; exact rfl; exact h0; intro w8 hbx hk hq; replace hb := hbx _ _ (by omega) hb; clear h0; have h0 := hq; clear hbx hk hq)
            go_wp2_with fail
            exact bodyPost_ret (res_longErr rfl _ _ w.heap.size rfl h0) rfl ⟨by rw [HR.out, HBAD.out]; rfl, hb⟩
          · intro hlo hhi
            clear hcase
            go_upto_region 10 with (fail)
            apply wp_region_lit
            refine wl_val rfl (ex_build 75 _ rfl (L := []) rfl built_lzero) ?_
            ((with_reducible apply wl_put75); exact rfl; exact rfl; exact h0; intro w8 hbx hk hq; replace hb := hbx _ _ (by omega) hb; clear h0; have h0 := hq; clear hbx hk hq)
            go_wp2_with fail
            exact bodyPost_ret (res_longErr rfl _ _ w.heap.size rfl h0) rfl ⟨by rw [HR.out, HBAD.out]; rfl, hb⟩
      · obtain rfl : k = d.length := by omega
        have hall : ∀ c ∈ d, okc c = true := by
          intro c hc
          obtain ⟨i, hi, rfl⟩ := List.mem_iff_getElem.1 (List.mem_reverse.2 hc)
          have := HO.out i (by simpa using hi)
          rw [List.getD_eq_getElem?_getD, List.getElem?_eq_getElem hi] at this
          exact this
        have hbig : rv d.reverse < 10 ^ 64 := by
          have h1 := rv_lt d.reverse (by simpa using hall)
          have h2 : 10 ^ d.reverse.length ≤ 10 ^ 64 := Nat.pow_le_pow_right (by decide) (by simp; omega)
          omega
        have HBIG := Lib.hid hbig
        rw [rdRow_end d hall] at h1
        have HALL := Lib.hid (List.all_eq_true.2 hall)
        clear hall hbig hc hk
        go_upto_region 13 with (fail)
        apply wp_region_lit
        ((with_reducible apply wl_rowG); exact rfl; exact rfl; (first | exact rowL (by with_reducible assumption) | exact rowD (by with_reducible assumption) | exact rowR (by with_reducible assumption)))
        refine wl_k rfl (fun K hK => ?_); go_simp; refine hK _ ?_; clear hK K
        refine wl_k rfl (fun K hK => ?_); go_simp; refine hK _ ?_; clear hK K
        refine wl_k rfl (fun K hK => ?_); go_simp; refine hK _ ?_; clear hK K
        refine wl_k rfl (fun K hK => ?_); go_simp; refine hK _ ?_; clear hK K
        refine wl_k rfl (fun K hK => ?_); go_simp; refine hK _ ?_; clear hK K
        refine wl_ck rfl (fun K hK => ?_); go_simp; refine ⟨_, _, ⟨rfl, rfl⟩, hK _ _ ⟨_, signed_any _ _ HBIG.out _, ?_⟩⟩; clear hK K; rintro e w11 ⟨rfl, hb1⟩; refine ⟨_, rfl, ?_⟩; simp only [put_lit, List.set_cons_zero, List.set_cons_succ]
        replace h0 := below_look hb1 h0; replace hb := hb.trans (hb1.mono hb.size); clear hb1
        ((with_reducible apply wl_put75); exact rfl; exact rfl; exact h0; intro w12 hbx hk hq; replace hb := hbx _ _ (by omega) hb; clear h0; have h0 := hq; clear hbx hk hq)
        go_wp2_with fail
        refine bodyPost_ret (res_longErr rfl _ _ w.heap.size rfl h0) rfl ⟨?_, hb⟩
        rw [HR.out, HALL.out]
        simp

theorem rd_none {s : List UInt8} (h : 40 < s.length ∨ Lib.trimPrefix s [45] = [] ∨ ((Lib.trimPrefix s [45]).head? = some 48 ∧ s ≠ [48]) ∨ (Lib.trimPrefix s [45]).all okc = false) : rd s = none := by unfold rd; rw [if_pos h]
theorem rd_some {s : List UInt8} (h : ¬ (40 < s.length ∨ Lib.trimPrefix s [45] = [] ∨ ((Lib.trimPrefix s [45]).head? = some 48 ∧ s ≠ [48]) ∨ (Lib.trimPrefix s [45]).all okc = false)) :
    rd s = some (sg (decide ((Lib.trimPrefix s [45]).length < s.length)) (rv (Lib.trimPrefix s [45]).reverse)) := by unfold rd; rw [if_neg h]
def rdV (s : List UInt8) : Value := .tuple #[.agg (lv ((rd s).getD 0)), .bool (rd s).isSome]
theorem rdV_none {s : List UInt8} (h : rd s = none) : rdV s = .tuple #[.agg (lv 0), .bool false] := by unfold rdV; rw [h]; rfl
theorem rdV_some {s : List UInt8} {x : Int} (h : rd s = some x) : rdV s = .tuple #[.agg (lv x), .bool true] := by unfold rdV; rw [h]; rfl
theorem sg_bd (b : Bool) (n : Nat) : (sg b n).natAbs = n := by unfold sg; split <;> omega
theorem rd_bd {s : List UInt8} {x : Int} (h : rd s = some x) : x.natAbs < 10 ^ 40 := by
  unfold rd at h
  split at h
  · cases h
  · rename_i hc
    simp only [not_or] at hc
    obtain ⟨h1, _, _, h4⟩ := hc
    simp only [Option.some.injEq] at h
    subst h
    rw [sg_bd]
    have h5 := rv_lt (Lib.trimPrefix s [45]).reverse (by
      intro c hc
      simp only [Bool.not_eq_false, List.all_eq_true] at h4
      exact h4 c (by simpa using hc))
    have h6 := trim_le s [45]
    have h7 : 10 ^ (Lib.trimPrefix s [45]).reverse.length ≤ 10 ^ 40 := Nat.pow_le_pow_right (by decide) (by simp; omega)
    omega
theorem rd_bd0 (s : List UInt8) : ((rd s).getD 0).natAbs < 10 ^ 40 := by
  cases h : rd s with
  | none => simp
  | some x => exact rd_bd h
theorem read_any (m : ByteArray) (w : World) :
    Calls Try.prog 82 #[.string m] w fun e w' => e = .returned (rdV m.data.toList) ∧ Below w.heap.size w w' := by
  have hs : m.data.toList.length = m.size := by simp
  obtain ⟨d, hd⟩ : ∃ d, Lib.trimPrefix m.data.toList [45] = d := ⟨_, rfl⟩
  by_cases h1 : 40 < m.size
  · rw [rdV_none (rd_none (Or.inl (by omega)))]
    exact read_long m d (Lib.hid hd) h1 w
  · by_cases h2 : d = []
    · rw [rdV_none (rd_none (Or.inr (Or.inl (by rw [hd, h2]))))]
      exact read_none m d (Lib.hid hd) h2 (by omega) w
    · by_cases h3 : d.head? = some 48 ∧ m.data.toList ≠ [48]
      · rw [rdV_none (rd_none (Or.inr (Or.inr (Or.inl (by rw [hd]; exact h3)))))]
        obtain ⟨c, d', rfl⟩ : ∃ c d', d = c :: d' := by
          cases d with
          | nil => exact absurd rfl h2
          | cons c d' => exact ⟨c, d', rfl⟩
        obtain ⟨h4, h5⟩ := h3
        simp only [List.head?_cons, Option.some.injEq] at h4
        subst h4
        exact read_zero m d' (Lib.hid hd) (by omega) (by rw [is_zero]; simpa using h5) w
      · refine read_digits m d (Lib.hid hd) h2 (by omega) (fun h => Classical.not_not.1 fun h4 => h3 ⟨h, h4⟩) _ (Lib.hid ?_) w
        cases hall : d.all okc
        · rw [rdV_none (rd_none (Or.inr (Or.inr (Or.inr (by rw [hd]; exact hall)))))]
          rfl
        · rw [rdV_some (rd_some (by rw [hd, hall]; simp only [not_or]; exact ⟨by omega, h2, h3, by simp⟩)), hd]
          simp
end Go.Proofs.Ytclainfdeghgnaa
