/- The decimal text of a long number. A decimal text read. A long number as an int; the widths. Two texts read. An operation on two texts: the errors of its arguments. An operation on two texts: the ranges of its arguments. A region that draws its order and in which one new variable is made at whatever time, and one part of a tuple is taken ahead of a store or behind it. -/
import Derived.Outline
import Derived.Test.YtclainfdeghgnaaGreatDoorPZ3
import Derived.Test.YtclainfdeghgnaaGreatDoorPZ2
namespace Go.Proofs.YtclainfdeghgnaaGreatDoor
open Go.RowKit Go.Proofs.YtclainfdeghgnaaGreatDoor.Nm

def dch (d : Nat) : UInt8 := UInt8.ofNat (48 + d)
theorem dch_nat {d : Nat} (h : d < 10) : (dch d).toNat = 48 + d := by unfold dch; simp; omega
def dtxt (n : Nat) : Nat → List UInt8
  | 0 => []
  | k + 1 => dch (dg n k) :: dtxt n k
theorem dtxt_length (n k : Nat) : (dtxt n k).length = k := by induction k with
  | zero => rfl
  | succ k ih => simp [dtxt, ih]
def dlen (n : Nat) : Nat := if n < 10 then 1 else dlen (n / 10) + 1
theorem dlen_small {n : Nat} (h : n < 10) : dlen n = 1 := by rw [dlen, if_pos h]
theorem dlen_big {n : Nat} (h : ¬ n < 10) : dlen n = dlen (n / 10) + 1 := by rw [dlen, if_neg h]
theorem dg_succ (n t : Nat) : dg n (t + 1) = dg (n / 10) t := by
  unfold dg; rw [Nat.pow_succ, Nat.mul_comm, ← Nat.div_div_eq_div_mul]
theorem dlen_of {n t : Nat} (h1 : n < 10 ^ (t + 1)) (h2 : t = 0 ∨ dg n t ≠ 0) : dlen n = t + 1 := by
  induction t generalizing n with
  | zero => exact dlen_small (by simpa using h1)
  | succ t ih =>
    have h3 : dg n (t + 1) ≠ 0 := by rcases h2 with h | h
                                     · omega
                                     · exact h
    have h4 : ¬ n < 10 := by
      intro h
      apply h3
      rw [dg_succ, Nat.div_eq_of_lt h]
      simp [dg]
    rw [dlen_big h4, ih (by rw [Nat.pow_succ] at h1; omega) (Or.inr (by rw [← dg_succ]; exact h3))]
theorem dlen_pos (n : Nat) : 1 ≤ dlen n := by rw [dlen]; split <;> omega
theorem lt_dlen (n : Nat) : n < 10 ^ dlen n := by
  induction n using Nat.strongRecOn with
  | ind n ih =>
    by_cases h : n < 10
    · rw [dlen_small h]; omega
    · rw [dlen_big h, Nat.pow_succ]; have := ih (n / 10) (by omega); omega
theorem dlen_le {n k : Nat} (h : n < 10 ^ (k + 1)) : dlen n ≤ k + 1 := by
  induction k generalizing n with
  | zero => rw [dlen_small (by simpa using h)]; omega
  | succ k ih =>
    by_cases h10 : n < 10
    · rw [dlen_small h10]; omega
    · rw [dlen_big h10]
      have := ih (n := n / 10) (by rw [Nat.pow_succ] at h; omega)
      omega
def sgn (z : Int) : List UInt8 := if ng z then [45] else []
def txt (z : Int) : List UInt8 := sgn z ++ dtxt z.natAbs (dlen z.natAbs)

theorem lv_cell {w : World} {b : Nat} {z : Int} {t : TypeId} {fr : Nat × Nat} (hb : w.heap[b]? = some (.cells (lv z) t fr)) {i : Nat} (hi : i < 64) : w.cell? ⟨b, 1 + i, none⟩ = some (.int .u8 (dg z.natAbs i)) := by
  rw [cell_of_row _ _ _ _ _ _ hb]
  unfold lv
  rw [Array.getElem?_append_right (by simp), show 1 + i - #[Value.bool (ng z)].size = i by simp]
  exact row_get _ _ hi
theorem txt_step {n k : Nat} {l : List UInt8} {T : List UInt8} (h : l ++ dtxt n (k + 1) = T) : (l ++ [dch (dg n k)]) ++ dtxt n k = T := by rw [← h]; simp [dtxt]
theorem bytes_step (l : List UInt8) (n k : Nat) : Lib.byteCells l ++ [Value.int .u8 (48 + dg n k : Int)] = Lib.byteCells (l ++ [dch (dg n k)]) := by
  simp only [Lib.byteCells, List.map_append, List.map_cons, List.map_nil]
  rw [dch_nat (dg_lt _ _)]; rfl

set_option maxHeartbeats 400000 in
theorem text_any (z : Int) (hz : z.natAbs < 10 ^ 64) (w : World) :
    Calls Tryz.prog 26 #[.agg (lv z)] w fun e w' => e = .returned (.string ⟨(txt z).toArray⟩) ∧ Below w.heap.size w w' := by
  have HZ := Lib.hid hz
  clear hz
  cases hn : ng z
  · go_enter Tryz.func26, Tryz.ntmps26
    go_upto_region 2 with (fail)
    refine wp_world (fun W => W.heap[w.heap.size]? = some (.cells (lv z) 57 (0, 0)) ∧ Hid (Lib.IsBuilder 96 5 (w.heap.size + 1) (w.heap.size + 1) [] W) ∧ Below w.heap.size w W) ⟨ha_old (ha_new rfl), Lib.hid (by have := Lib.fresh_isBuilder 96 5 (w.alloc (Obj.cells (lv z) 57)); simpa using this), (((Below.refl _ _).alloc (Nat.le_refl _) _).alloc (by simp) _)⟩ ?_
    rintro W ⟨h0, hB, hb⟩
    have n0 : W.cell? ⟨w.heap.size, 0, none⟩ = some (.bool (ng z)) := by rw [cell_of_row _ _ _ _ _ _ h0]; exact lv_neg z
    rw [hn] at n0
    have HB : Hid (Lib.IsBuilder 96 5 (w.heap.size + 1) (w.heap.size + 1) (Lib.byteCells (sgn z)) W) := Lib.hid (by unfold sgn; rw [hn]; exact hB.out)
    clear hB
    go_wp2_with fail
    clear n0
    go_loopw [4] (fun i wr => ∃ t : Nat, t < 64 ∧ i = .int .i64 (t : Int) ∧ Hid (z.natAbs < 10 ^ (t + 1)) ∧ wr.heap[w.heap.size]? = some (.cells (lv z) 57 (0, 0)) ∧ Hid (Lib.IsBuilder 96 5 (w.heap.size + 1) (w.heap.size + 1) (Lib.byteCells (sgn z)) wr) ∧ Below w.heap.size w wr) (fun i _ => (intOf i).toNat)
    case atStart => exact ⟨63, by omega, rfl, HZ, h0, HB, hb⟩
    case round =>
      clear h0 HB hb
      obtain ⟨t, ht, rfl, hl, h0, HB, hb⟩ := hrel
      have ct := lv_cell h0 ht
      have dt := dg_lt z.natAbs t
      by_cases hc : 0 < t ∧ dg z.natAbs t = 0
      · obtain ⟨hc1, hc2⟩ := hc
        rw [hc2] at ct
        go_wp2_with fail
        go_roundw
        case rel =>
          refine ⟨t - 1, by omega, by go_num, Lib.hid ?_, h0, HB, hb⟩
          have h1 := mod_succ z.natAbs t
          rw [hc2, Nat.mod_eq_of_lt hl.out] at h1
          have h3 := Nat.mod_lt z.natAbs (p10 t)
          have : t - 1 + 1 = t := by omega
          rw [this]
          omega
        case measure => simp [intOf]; omega
      · have hlen : dlen z.natAbs = t + 1 := dlen_of hl.out (by omega)
        have HT : Hid (sgn z ++ dtxt z.natAbs (t + 1) = txt z) := Lib.hid (by unfold txt; rw [hlen])
        have hsl : (sgn z).length ≤ 1 := by unfold sgn; split <;> simp
        have hdone : ∀ (P : Prop), (0 < t → dg z.natAbs t ≠ 0 → P) → (t = 0 → P) → P := by
          intro P p1 p2
          rcases Nat.eq_zero_or_pos t with h | h
          · exact p2 h
          · exact p1 h (fun e => hc ⟨h, e⟩)
        clear hl hlen hc
        generalize hD : dg z.natAbs t = D at ct dt hdone
        clear hD
        apply hdone
        all_goals
          intros
          (try subst t)
          go_wp2_with fail
          clear ct dt hdone
          (first | rw [show ((D : Int) == 0) = false from by assumption] | skip)
          go_loopw [4] (fun i wr => ∃ k : Nat, ∃ l : List UInt8, k ≤ 64 ∧ i = .int .i64 ((k : Int) - 1) ∧ Hid (l ++ dtxt z.natAbs k = txt z) ∧ l.length + k ≤ 65 ∧ wr.heap[w.heap.size]? = some (.cells (lv z) 57 (0, 0)) ∧ Hid (Lib.IsBuilder 96 5 (w.heap.size + 1) (w.heap.size + 1) (Lib.byteCells l) wr) ∧ Below w.heap.size w wr) (fun i _ => (intOf i + 1).toNat)
          case atStart => exact ⟨_ + 1, sgn z, by omega, by first | rfl | (congr 1; omega), HT, by omega, h0, HB, hb⟩
          case round =>
            clear HT h0 HB hb hsl ht
            obtain ⟨k, l, hk, rfl, HT, hlk, h0, HB, hb⟩ := hrel
            by_cases hc : 0 < k
            · obtain ⟨j, rfl⟩ : ∃ j, k = j + 1 := ⟨k - 1, by omega⟩
              have ej : ((j + 1 : Nat) : Int) - 1 = (j : Int) := by omega
              rw [ej]
              clear ej hc
              have ct := lv_cell h0 (i := j) (by omega)
              have dt := dg_lt z.natAbs j
              have hlt0 := heap_lt h0
              have hbs := hb.size
              go_wp2_with (go_at_call 59; refine (writeByte_any (w.heap.size + 1) (w.heap.size + 1) _ _ _ HB.out (by simp [Lib.byteCells_length]; omega) (by omega)).mono ?_)
              rintro e w2 ⟨rfl, hB1, hb1⟩
              rw [bytes_step] at hB1
              replace h0 := below_cells hb1 (by omega) h0
              replace hb := hb.trans (hb1.mono (by omega))
              clear HB
              have HB := Lib.hid (show Lib.IsBuilder 96 5 (w.heap.size + 1) (w.heap.size + 1) (Lib.byteCells (l ++ [dch (dg z.natAbs j)])) w2 from Or.inr hB1)
              clear hB1 hb1 ct
              go_wp2_with fail
              go_roundw
              case rel => exact ⟨j, l ++ [dch (dg z.natAbs j)], by omega, by go_num, Lib.hid (txt_step HT.out), by simp; omega, h0, HB, hb⟩
              case measure => simp [intOf]
            · obtain rfl : k = 0 := by omega
              have hlt0 := heap_lt h0
              go_wp2_with (go_at_call 60; refine (Tryz.Builder_String_any (w.heap.size + 1) (w.heap.size + 1) _ _ HB.out (by omega)).mono ?_)
              rintro e w2 ⟨rfl, hb1⟩
              go_wp2_with fail
              go_ret
              refine ⟨?_, hb.trans (hb1.mono (by omega))⟩
              have := HT.out
              simp only [dtxt, List.append_nil] at this
              rw [this]
              rfl
  · go_enter Tryz.func26, Tryz.ntmps26
    go_upto_region 2 with (fail)
    refine wp_world (fun W => W.heap[w.heap.size]? = some (.cells (lv z) 57 (0, 0)) ∧ Hid (Lib.IsBuilder 96 5 (w.heap.size + 1) (w.heap.size + 1) [] W) ∧ Below w.heap.size w W) ⟨ha_old (ha_new rfl), Lib.hid (by have := Lib.fresh_isBuilder 96 5 (w.alloc (Obj.cells (lv z) 57)); simpa using this), (((Below.refl _ _).alloc (Nat.le_refl _) _).alloc (by simp) _)⟩ ?_
    rintro W ⟨h0, hB, hb⟩
    have n0 : W.cell? ⟨w.heap.size, 0, none⟩ = some (.bool (ng z)) := by rw [cell_of_row _ _ _ _ _ _ h0]; exact lv_neg z
    rw [hn] at n0
    go_wp2_with (go_at_call 59; refine (writeByte_any (w.heap.size + 1) (w.heap.size + 1) _ _ _ hB.out (by simp) (by have := heap_lt h0; omega)).mono ?_)
    rintro e w1 ⟨rfl, hB1, hb1⟩
    have HB : Hid (Lib.IsBuilder 96 5 (w.heap.size + 1) (w.heap.size + 1) (Lib.byteCells (sgn z)) w1) := Lib.hid (by unfold sgn; rw [hn]; exact Or.inr hB1)
    have lt0 := heap_lt h0
    replace h0 := below_cells hb1 (by omega) h0
    replace hb := hb.trans (hb1.mono (by omega))
    clear hB hB1 n0 hb1 lt0
    go_wp2_with fail
    go_loopw [4] (fun i wr => ∃ t : Nat, t < 64 ∧ i = .int .i64 (t : Int) ∧ Hid (z.natAbs < 10 ^ (t + 1)) ∧ wr.heap[w.heap.size]? = some (.cells (lv z) 57 (0, 0)) ∧ Hid (Lib.IsBuilder 96 5 (w.heap.size + 1) (w.heap.size + 1) (Lib.byteCells (sgn z)) wr) ∧ Below w.heap.size w wr) (fun i _ => (intOf i).toNat)
    case atStart => exact ⟨63, by omega, rfl, HZ, h0, HB, hb⟩
    case round =>
      clear h0 HB hb
      obtain ⟨t, ht, rfl, hl, h0, HB, hb⟩ := hrel
      have ct := lv_cell h0 ht
      have dt := dg_lt z.natAbs t
      by_cases hc : 0 < t ∧ dg z.natAbs t = 0
      · obtain ⟨hc1, hc2⟩ := hc
        rw [hc2] at ct
        go_wp2_with fail
        go_roundw
        case rel =>
          refine ⟨t - 1, by omega, by go_num, Lib.hid ?_, h0, HB, hb⟩
          have h1 := mod_succ z.natAbs t
          rw [hc2, Nat.mod_eq_of_lt hl.out] at h1
          have h3 := Nat.mod_lt z.natAbs (p10 t)
          have : t - 1 + 1 = t := by omega
          rw [this]
          omega
        case measure => simp [intOf]; omega
      · have hlen : dlen z.natAbs = t + 1 := dlen_of hl.out (by omega)
        have HT : Hid (sgn z ++ dtxt z.natAbs (t + 1) = txt z) := Lib.hid (by unfold txt; rw [hlen])
        have hsl : (sgn z).length ≤ 1 := by unfold sgn; split <;> simp
        have hdone : ∀ (P : Prop), (0 < t → dg z.natAbs t ≠ 0 → P) → (t = 0 → P) → P := by
          intro P p1 p2
          rcases Nat.eq_zero_or_pos t with h | h
          · exact p2 h
          · exact p1 h (fun e => hc ⟨h, e⟩)
        clear hl hlen hc
        generalize hD : dg z.natAbs t = D at ct dt hdone
        clear hD
        apply hdone
        all_goals
          intros
          (try subst t)
          go_wp2_with fail
          clear ct dt hdone
          (first | rw [show ((D : Int) == 0) = false from by assumption] | skip)
          go_loopw [4] (fun i wr => ∃ k : Nat, ∃ l : List UInt8, k ≤ 64 ∧ i = .int .i64 ((k : Int) - 1) ∧ Hid (l ++ dtxt z.natAbs k = txt z) ∧ l.length + k ≤ 65 ∧ wr.heap[w.heap.size]? = some (.cells (lv z) 57 (0, 0)) ∧ Hid (Lib.IsBuilder 96 5 (w.heap.size + 1) (w.heap.size + 1) (Lib.byteCells l) wr) ∧ Below w.heap.size w wr) (fun i _ => (intOf i + 1).toNat)
          case atStart => exact ⟨_ + 1, sgn z, by omega, by first | rfl | (congr 1; omega), HT, by omega, h0, HB, hb⟩
          case round =>
            clear HT h0 HB hb hsl ht
            obtain ⟨k, l, hk, rfl, HT, hlk, h0, HB, hb⟩ := hrel
            by_cases hc : 0 < k
            · obtain ⟨j, rfl⟩ : ∃ j, k = j + 1 := ⟨k - 1, by omega⟩
              have ej : ((j + 1 : Nat) : Int) - 1 = (j : Int) := by omega
              rw [ej]
              clear ej hc
              have ct := lv_cell h0 (i := j) (by omega)
              have dt := dg_lt z.natAbs j
              have hlt0 := heap_lt h0
              have hbs := hb.size
              go_wp2_with (go_at_call 59; refine (writeByte_any (w.heap.size + 1) (w.heap.size + 1) _ _ _ HB.out (by simp [Lib.byteCells_length]; omega) (by omega)).mono ?_)
              rintro e w2 ⟨rfl, hB1, hb1⟩
              rw [bytes_step] at hB1
              replace h0 := below_cells hb1 (by omega) h0
              replace hb := hb.trans (hb1.mono (by omega))
              clear HB
              have HB := Lib.hid (show Lib.IsBuilder 96 5 (w.heap.size + 1) (w.heap.size + 1) (Lib.byteCells (l ++ [dch (dg z.natAbs j)])) w2 from Or.inr hB1)
              clear hB1 hb1 ct
              go_wp2_with fail
              go_roundw
              case rel => exact ⟨j, l ++ [dch (dg z.natAbs j)], by omega, by go_num, Lib.hid (txt_step HT.out), by simp; omega, h0, HB, hb⟩
              case measure => simp [intOf]
            · obtain rfl : k = 0 := by omega
              have hlt0 := heap_lt h0
              go_wp2_with (go_at_call 60; refine (Tryz.Builder_String_any (w.heap.size + 1) (w.heap.size + 1) _ _ HB.out (by omega)).mono ?_)
              rintro e w2 ⟨rfl, hb1⟩
              go_wp2_with fail
              go_ret
              refine ⟨?_, hb.trans (hb1.mono (by omega))⟩
              have := HT.out
              simp only [dtxt, List.append_nil] at this
              rw [this]
              rfl
end Go.Proofs.YtclainfdeghgnaaGreatDoor
namespace Go.Proofs.YtclainfdeghgnaaGreatDoor
open Go.RowKit Go.Proofs.YtclainfdeghgnaaGreatDoor.Nm

def okc (c : UInt8) : Bool := decide (48 ≤ c.toNat) && decide (c.toNat ≤ 57)
def rv : List UInt8 → Nat
  | [] => 0
  | c :: l => (c.toNat - 48) + 10 * rv l
/-- The number that a text is, if it is one. -/
def rd (s : List UInt8) : Option Int :=
  if 40 < s.length ∨ Lib.trimPrefix s [45] = [] ∨ ((Lib.trimPrefix s [45]).head? = some 48 ∧ s ≠ [48]) ∨ (Lib.trimPrefix s [45]).all okc = false then none
  else some (sg (decide ((Lib.trimPrefix s [45]).length < s.length)) (rv (Lib.trimPrefix s [45]).reverse))
def dgc (d : List UInt8) (i : Nat) : Nat := (d.reverse.getD i 48).toNat - 48
theorem dg_rv (l : List UInt8) (h : ∀ c ∈ l, okc c = true) (i : Nat) : dg (rv l) i = (l.getD i 48).toNat - 48 := by
  induction l generalizing i with
  | nil => simp [rv, dg]
  | cons c l ih =>
    have hc := h c (by simp)
    unfold okc at hc
    simp only [Bool.and_eq_true, decide_eq_true_eq] at hc
    cases i with
    | zero => simp [rv, dg]; omega
    | succ i =>
      rw [dg_succ]
      have : rv (c :: l) / 10 = rv l := by simp only [rv]; omega
      rw [this, ih (fun c hc => h c (by simp [hc]))]
      simp
theorem rv_lt (l : List UInt8) (h : ∀ c ∈ l, okc c = true) : rv l < 10 ^ l.length := by
  induction l with
  | nil => simp [rv]
  | cons c l ih =>
    have hc := h c (by simp)
    unfold okc at hc
    simp only [Bool.and_eq_true, decide_eq_true_eq] at hc
    have := ih (fun c hc => h c (by simp [hc]))
    simp only [rv, List.length_cons, Nat.pow_succ]
    omega
theorem trim_le (s p : List UInt8) : (Lib.trimPrefix s p).length ≤ s.length := by
  unfold Lib.trimPrefix; split <;> simp
def rdRow (d : List UInt8) (k i : Nat) : Nat := if i < k then dgc d i else 0
theorem rdRow_zero (d : List UInt8) : row (rdRow d 0) = row fun _ => 0 := row_congr fun i _ => by simp [rdRow]
theorem rdRow_step (d : List UInt8) (k : Nat) (hk : k < 64) (v : Value) (hv : v = .int .u8 (dgc d k)) : (row (rdRow d k)).setIfInBounds k v = row (rdRow d (k + 1)) := by
  subst hv; rw [row_set _ _ _ hk]; apply row_congr; intro i _; unfold rdRow; split
  · subst_vars; rw [if_pos (by omega)]
  · by_cases h : i < k
    · rw [if_pos h, if_pos (by omega)]
    · rw [if_neg h, if_neg (by omega)]
theorem rdRow_end (d : List UInt8) (h : ∀ c ∈ d, okc c = true) : row (rdRow d d.length) = dv (rv d.reverse) := row_congr fun i _ => by
  rw [dg_rv _ (by simpa using h)]
  unfold rdRow dgc
  split
  · rfl
  · rename_i hi
    rw [List.getD_eq_getElem?_getD, List.getElem?_eq_none (by simp; omega)]
    rfl
theorem is_zero (m : ByteArray) : (m.toList == [48]) = decide (m.data.toList = [48]) := by
  rw [ByteArray.toList_eq]
  rcases h : decide (m.data.toList = [48]) with _ | _
  · rw [beq_eq_false_iff_ne]; simpa using h
  · rw [beq_iff_eq]; simpa using h

set_option maxHeartbeats 400000 in
theorem read_long (m : ByteArray) (d : List UInt8) (hd : Hid (Lib.trimPrefix m.data.toList [45] = d)) (hl : 40 < m.size) (w : World) :
    Calls Tryz.prog 43 #[.string m] w fun e w' => e = .returned (.tuple #[.agg (lv 0), .bool false]) ∧ Below w.heap.size w w' := by
  go_enter Tryz.func43, Tryz.ntmps43
  go_upto_region 1 with (fail)
  refine wp_world (fun W => W.heap[w.heap.size]? = some (.cells (lv 0) 57 (0, 0)) ∧ Below w.heap.size w W) ⟨by rw [← zero_long]; exact ha_new rfl, ((Below.refl _ _).alloc (Nat.le_refl _) _)⟩ ?_
  rintro W ⟨h0, hb⟩
  go_upto_region 2 with (go_at_call 80; refine (Tryz.strings_TrimPrefix _ _ _).mono ?_; rintro e w1 ⟨rfl, rfl⟩)
  rw [show Lib.trimPrefix m.data.toList (ByteArray.mk #[45]).data.toList = d from hd.out]
  rcases d with _ | ⟨c, d'⟩
  · go_upto_region 3 with (fail)
    apply wp_region_lit
    refine wl_val rfl (ex_build 57 _ rfl (L := []) rfl built_lzero) ?_
    ((with_reducible apply wl_put75); exact rfl; exact rfl; exact h0; intro w8 hbx hk hq; replace hb := hbx _ _ (by omega) hb; clear h0; have h0 := hq; clear hbx hk hq)
    go_wp2_with fail
    exact bodyPost_ret (res_longErr rfl _ _ w.heap.size rfl h0) rfl ⟨rfl, hb⟩
  · by_cases h48 : c.toNat = 48
    · go_upto_region 3 with (fail)
      apply wp_region_lit
      refine wl_val rfl (ex_build 57 _ rfl (L := []) rfl built_lzero) ?_
      ((with_reducible apply wl_put75); exact rfl; exact rfl; exact h0; intro w8 hbx hk hq; replace hb := hbx _ _ (by omega) hb; clear h0; have h0 := hq; clear hbx hk hq)
      go_wp2_with fail
      exact bodyPost_ret (res_longErr rfl _ _ w.heap.size rfl h0) rfl ⟨rfl, hb⟩
    · go_upto_region 3 with (fail)
      apply wp_region_lit
      refine wl_val rfl (ex_build 57 _ rfl (L := []) rfl built_lzero) ?_
      ((with_reducible apply wl_put75); exact rfl; exact rfl; exact h0; intro w8 hbx hk hq; replace hb := hbx _ _ (by omega) hb; clear h0; have h0 := hq; clear hbx hk hq)
      go_wp2_with fail
      exact bodyPost_ret (res_longErr rfl _ _ w.heap.size rfl h0) rfl ⟨rfl, hb⟩
set_option maxHeartbeats 400000 in
theorem read_none (m : ByteArray) (d : List UInt8) (hd : Hid (Lib.trimPrefix m.data.toList [45] = d)) (hdd : d = []) (hl : m.size ≤ 40) (w : World) :
    Calls Tryz.prog 43 #[.string m] w fun e w' => e = .returned (.tuple #[.agg (lv 0), .bool false]) ∧ Below w.heap.size w w' := by
  go_enter Tryz.func43, Tryz.ntmps43
  go_upto_region 1 with (fail)
  refine wp_world (fun W => W.heap[w.heap.size]? = some (.cells (lv 0) 57 (0, 0)) ∧ Below w.heap.size w W) ⟨by rw [← zero_long]; exact ha_new rfl, ((Below.refl _ _).alloc (Nat.le_refl _) _)⟩ ?_
  rintro W ⟨h0, hb⟩
  go_upto_region 2 with (go_at_call 80; refine (Tryz.strings_TrimPrefix _ _ _).mono ?_; rintro e w1 ⟨rfl, rfl⟩)
  rw [show Lib.trimPrefix m.data.toList (ByteArray.mk #[45]).data.toList = d from hd.out]
  subst hdd
  · go_upto_region 3 with (fail)
    apply wp_region_lit
    refine wl_val rfl (ex_build 57 _ rfl (L := []) rfl built_lzero) ?_
    ((with_reducible apply wl_put75); exact rfl; exact rfl; exact h0; intro w8 hbx hk hq; replace hb := hbx _ _ (by omega) hb; clear h0; have h0 := hq; clear hbx hk hq)
    go_wp2_with fail
    exact bodyPost_ret (res_longErr rfl _ _ w.heap.size rfl h0) rfl ⟨rfl, hb⟩
set_option maxHeartbeats 400000 in
theorem read_zero (m : ByteArray) (d' : List UInt8) (hd : Hid (Lib.trimPrefix m.data.toList [45] = 48 :: d')) (hl : m.size ≤ 40) (hz : (m.toList == [48]) = false) (w : World) :
    Calls Tryz.prog 43 #[.string m] w fun e w' => e = .returned (.tuple #[.agg (lv 0), .bool false]) ∧ Below w.heap.size w w' := by
  obtain ⟨d, hdd⟩ : ∃ d : List UInt8, d = 48 :: d' := ⟨_, rfl⟩
  rw [← hdd] at hd
  go_enter Tryz.func43, Tryz.ntmps43
  go_upto_region 1 with (fail)
  refine wp_world (fun W => W.heap[w.heap.size]? = some (.cells (lv 0) 57 (0, 0)) ∧ Below w.heap.size w W) ⟨by rw [← zero_long]; exact ha_new rfl, ((Below.refl _ _).alloc (Nat.le_refl _) _)⟩ ?_
  rintro W ⟨h0, hb⟩
  go_upto_region 2 with (go_at_call 80; refine (Tryz.strings_TrimPrefix _ _ _).mono ?_; rintro e w1 ⟨rfl, rfl⟩)
  rw [show Lib.trimPrefix m.data.toList (ByteArray.mk #[45]).data.toList = d from hd.out]
  subst hdd
  · go_upto_region 3 with (fail)
    apply wp_region_lit
    refine wl_val rfl (ex_build 57 _ rfl (L := []) rfl built_lzero) ?_
    ((with_reducible apply wl_put75); exact rfl; exact rfl; exact h0; intro w8 hbx hk hq; replace hb := hbx _ _ (by omega) hb; clear h0; have h0 := hq; clear hbx hk hq)
    go_wp2_with fail
    exact bodyPost_ret (res_longErr rfl _ _ w.heap.size rfl h0) rfl ⟨rfl, hb⟩
set_option maxHeartbeats 400000 in
theorem read_digits (m : ByteArray) (d : List UInt8) (hd : Hid (Lib.trimPrefix m.data.toList [45] = d)) (hdd : d ≠ []) (hl : m.size ≤ 40) (hz : d.head? = some 48 → m.data.toList = [48]) (R : Ending) (HR : Hid (R = .returned (.tuple #[.agg (lv (if d.all okc then sg (decide (d.length < m.size)) (rv d.reverse) else 0)), .bool (d.all okc)]))) (w : World) :
    Calls Tryz.prog 43 #[.string m] w fun e w' => e = R ∧ Below w.heap.size w w' := by
  go_enter Tryz.func43, Tryz.ntmps43
  go_upto_region 1 with (fail)
  refine wp_world (fun W => W.heap[w.heap.size]? = some (.cells (lv 0) 57 (0, 0)) ∧ Below w.heap.size w W) ⟨by rw [← zero_long]; exact ha_new rfl, ((Below.refl _ _).alloc (Nat.le_refl _) _)⟩ ?_
  rintro W ⟨h0, hb⟩
  go_upto_region 2 with (go_at_call 80; refine (Tryz.strings_TrimPrefix _ _ _).mono ?_; rintro e w1 ⟨rfl, rfl⟩)
  rw [show Lib.trimPrefix m.data.toList (ByteArray.mk #[45]).data.toList = d from hd.out]
  have hne0 : 0 < d.length := List.length_pos_iff.2 hdd
  have hie : d.isEmpty = false := by cases d <;> simp_all
  have hl2 : ¬ 40 < (m.size : Int) := by omega
  have hle : d.length ≤ 40 := by have := trim_le m.data.toList [45]; rw [hd.out] at this; have h2 : m.data.toList.length = m.size := by simp
                                 omega
  by_cases hq : (((ByteArray.mk d.toArray)[0]'(by show 0 < d.toArray.size; simpa using hne0)).toNat : Int) = 48
  · have hz2 : (m.toList == [48]) = true := by
      rw [is_zero]
      simp only [decide_eq_true_eq]
      apply hz
      rw [List.head?_eq_getElem?, List.getElem?_eq_getElem hne0]
      congr 1
      apply UInt8.toNat_inj.1
      have : ((ByteArray.mk d.toArray)[0]'(by show 0 < d.toArray.size; simpa using hne0)) = d[0] := rfl
      rw [this] at hq
      exact Int.ofNat_inj.1 hq
    go_upto_region 5 with (fail)
    refine wp_world (fun W => W.heap[w.heap.size]? = some (.cells (lv 0) 57 (0, 0)) ∧ W.heap[w1.heap.size]? = some (.cells (row (rdRow d 0)) 55 (0, 0)) ∧ Below w.heap.size w W) ⟨ha_old h0, by rw [rdRow_zero, ← zero_row]; exact ha_new rfl, hb.alloc hb.size _⟩ ?_
    have lt1 := heap_lt h0
    obtain ⟨p, hp⟩ : ∃ p, p = w1.heap.size := ⟨_, rfl⟩
    rw [← hp] at lt1 ⊢
    clear hb h0 hp
    rintro W2 ⟨h0, h1, hb⟩
    go_wp2_with fail
    clear hq hl2 hie
    (try clear hz2)
    go_loopw [29] (fun i wr => ∃ k : Nat, k ≤ d.length ∧ i = .int .i64 (k : Int) ∧ Hid (∀ j, j < k → okc (d.reverse.getD j 48) = true) ∧ wr.heap[w.heap.size]? = some (.cells (lv 0) 57 (0, 0)) ∧ wr.heap[p]? = some (.cells (row (rdRow d k)) 55 (0, 0)) ∧ Below w.heap.size w wr) (fun i _ => (d.length - intOf i).toNat)
    case atStart => exact ⟨0, by omega, rfl, Lib.hid (fun j hj => absurd hj (by omega)), h0, h1, hb⟩
    case round =>
      clear h0 h1 hb
      obtain ⟨k, hk, rfl, HO, h0, h1, hb⟩ := hrel
      by_cases hc : k < d.length
      · obtain ⟨j, hj⟩ : ∃ j, d.length = j + 1 + k := ⟨d.length - 1 - k, by omega⟩
        have hjl : j < d.length := by omega
        have hjs : j < d.toArray.size := by simpa using hjl
        obtain ⟨c, hcc⟩ : ∃ c, c = d[j] := ⟨_, rfl⟩
        have hrc : d.reverse.getD k 48 = c := by
          rw [List.getD_eq_getElem?_getD, List.getElem?_reverse (by omega), show d.length - 1 - k = j by omega, List.getElem?_eq_getElem hjl, hcc]; rfl
        have ej : (d.length : Int) - 1 - (k : Int) = (j : Int) := by omega
        have HJ := Lib.hid hj
        clear hj
        go_upto_region 9 with (fail)
        rw [show ((ByteArray.mk d.toArray)[j]'hjs) = c from hcc.symm]
        have hcl : c.toNat < 256 := UInt8.toNat_lt c
        have HRC := Lib.hid hrc
        clear hcc ej hjl hjs hrc
        by_cases ho : 48 ≤ c.toNat ∧ c.toNat ≤ 57
        · obtain ⟨ho1, ho2⟩ := ho
          have cd : ∃ v, wr.cell? ⟨p, k, none⟩ = some v := ⟨_, by rw [cell_of_row _ _ _ _ _ _ h1, row_get _ _ (by omega)]⟩
          obtain ⟨v, cd⟩ := cd
          have fd : wr.frozen? ⟨p, k, none⟩ = false := frozen_of_row _ _ _ _ _ h1
          have HB := Lib.hid hb
          have H0 := Lib.hid h0
          have H1 := Lib.hid h1
          clear hb h0 h1
          go_wp2_with fail
          go_roundw
          case rel =>
            refine ⟨k + 1, by omega, by go_num, Lib.hid ?_, hs_old H0.out (by simp; omega), (hs_new H1.out).trans (by rw [rdRow_step _ _ (by omega) _ (by unfold dgc; rw [HRC.out]; go_num)]), HB.out.setCell (by simp; omega) _⟩
            intro i hi
            rcases Nat.lt_or_ge i k with h | h
            · exact HO.out i h
            · obtain rfl : i = k := by omega
              rw [HRC.out]
              unfold okc
              simp [ho1, ho2]
          case measure => simp [intOf]; omega
        · have hbad : d.all okc = false := by
            rw [List.all_eq_false]
            refine ⟨c, ?_, ?_⟩
            · have h1 := HRC.out
              rw [List.getD_eq_getElem?_getD, List.getElem?_eq_getElem (by simpa using hc)] at h1
              rw [← List.mem_reverse, ← h1]
              exact List.getElem_mem _
            · unfold okc
              simp
              omega
          have HBAD := Lib.hid hbad
          clear hbad
          have hcase : ∀ (P : Prop), (c.toNat < 48 → P) → (48 ≤ c.toNat → 57 < c.toNat → P) → P := by
            intro P a b
            by_cases h : c.toNat < 48
            · exact a h
            · exact b (by omega) (by omega)
          clear ho
          apply hcase
          · intro hlo
            clear hcase
            go_upto_region 10 with (fail)
            apply wp_region_lit
            refine wl_val rfl (ex_build 57 _ rfl (L := []) rfl built_lzero) ?_
            ((with_reducible apply wl_put75); exact rfl; exact rfl; exact h0; intro w8 hbx hk hq; replace hb := hbx _ _ (by omega) hb; clear h0; have h0 := hq; clear hbx hk hq)
            go_wp2_with fail
            exact bodyPost_ret (res_longErr rfl _ _ w.heap.size rfl h0) rfl ⟨by rw [HR.out, HBAD.out]; rfl, hb⟩
          · intro hlo hhi
            clear hcase
            go_upto_region 10 with (fail)
            apply wp_region_lit
            refine wl_val rfl (ex_build 57 _ rfl (L := []) rfl built_lzero) ?_
            ((with_reducible apply wl_put75); exact rfl; exact rfl; exact h0; intro w8 hbx hk hq; replace hb := hbx _ _ (by omega) hb; clear h0; have h0 := hq; clear hbx hk hq)
            go_wp2_with fail
            exact bodyPost_ret (res_longErr rfl _ _ w.heap.size rfl h0) rfl ⟨by rw [HR.out, HBAD.out]; rfl, hb⟩
      · obtain rfl : k = d.length := by omega
        have hall : ∀ c ∈ d, okc c = true := by
          intro c hc
          obtain ⟨i, hi, rfl⟩ := List.mem_iff_getElem.1 (List.mem_reverse.2 hc)
          have := HO.out i (by simpa using hi)
          rw [List.getD_eq_getElem?_getD, List.getElem?_eq_getElem hi] at this
          exact this
        have hbig : rv d.reverse < 10 ^ 64 := by
          have h1 := rv_lt d.reverse (by simpa using hall)
          have h2 : 10 ^ d.reverse.length ≤ 10 ^ 64 := Nat.pow_le_pow_right (by decide) (by simp; omega)
          omega
        have HBIG := Lib.hid hbig
        rw [rdRow_end d hall] at h1
        have HALL := Lib.hid (List.all_eq_true.2 hall)
        clear hall hbig hc hk
        go_upto_region 13 with (fail)
        apply wp_region_lit
        ((with_reducible apply wl_rowG); exact rfl; exact rfl; (first | exact rowL (by with_reducible assumption) | exact rowD (by with_reducible assumption) | exact rowR (by with_reducible assumption)))
        refine wl_k rfl (fun K hK => ?_); go_simp; refine hK _ ?_; clear hK K
        refine wl_k rfl (fun K hK => ?_); go_simp; refine hK _ ?_; clear hK K
        refine wl_k rfl (fun K hK => ?_); go_simp; refine hK _ ?_; clear hK K
        refine wl_k rfl (fun K hK => ?_); go_simp; refine hK _ ?_; clear hK K
        refine wl_k rfl (fun K hK => ?_); go_simp; refine hK _ ?_; clear hK K
        refine wl_ck rfl (fun K hK => ?_); go_simp; refine ⟨_, _, ⟨rfl, rfl⟩, hK _ _ ⟨_, signed_any _ _ HBIG.out _, ?_⟩⟩; clear hK K; rintro e w11 ⟨rfl, hb1⟩; refine ⟨_, rfl, ?_⟩; simp only [put_lit, List.set_cons_zero, List.set_cons_succ]
        replace h0 := below_look hb1 h0; replace hb := hb.trans (hb1.mono hb.size); clear hb1
        ((with_reducible apply wl_put75); exact rfl; exact rfl; exact h0; intro w12 hbx hk hq; replace hb := hbx _ _ (by omega) hb; clear h0; have h0 := hq; clear hbx hk hq)
        go_wp2_with fail
        refine bodyPost_ret (res_longErr rfl _ _ w.heap.size rfl h0) rfl ⟨?_, hb⟩
        rw [HR.out, HALL.out]
        simp
  · go_upto_region 5 with (fail)
    refine wp_world (fun W => W.heap[w.heap.size]? = some (.cells (lv 0) 57 (0, 0)) ∧ W.heap[w1.heap.size]? = some (.cells (row (rdRow d 0)) 55 (0, 0)) ∧ Below w.heap.size w W) ⟨ha_old h0, by rw [rdRow_zero, ← zero_row]; exact ha_new rfl, hb.alloc hb.size _⟩ ?_
    have lt1 := heap_lt h0
    obtain ⟨p, hp⟩ : ∃ p, p = w1.heap.size := ⟨_, rfl⟩
    rw [← hp] at lt1 ⊢
    clear hb h0 hp
    rintro W2 ⟨h0, h1, hb⟩
    go_wp2_with fail
    clear hq hl2 hie
    (try clear hz2)
    go_loopw [29] (fun i wr => ∃ k : Nat, k ≤ d.length ∧ i = .int .i64 (k : Int) ∧ Hid (∀ j, j < k → okc (d.reverse.getD j 48) = true) ∧ wr.heap[w.heap.size]? = some (.cells (lv 0) 57 (0, 0)) ∧ wr.heap[p]? = some (.cells (row (rdRow d k)) 55 (0, 0)) ∧ Below w.heap.size w wr) (fun i _ => (d.length - intOf i).toNat)
    case atStart => exact ⟨0, by omega, rfl, Lib.hid (fun j hj => absurd hj (by omega)), h0, h1, hb⟩
    case round =>
      clear h0 h1 hb
      obtain ⟨k, hk, rfl, HO, h0, h1, hb⟩ := hrel
      by_cases hc : k < d.length
      · obtain ⟨j, hj⟩ : ∃ j, d.length = j + 1 + k := ⟨d.length - 1 - k, by omega⟩
        have hjl : j < d.length := by omega
        have hjs : j < d.toArray.size := by simpa using hjl
        obtain ⟨c, hcc⟩ : ∃ c, c = d[j] := ⟨_, rfl⟩
        have hrc : d.reverse.getD k 48 = c := by
          rw [List.getD_eq_getElem?_getD, List.getElem?_reverse (by omega), show d.length - 1 - k = j by omega, List.getElem?_eq_getElem hjl, hcc]; rfl
        have ej : (d.length : Int) - 1 - (k : Int) = (j : Int) := by omega
        have HJ := Lib.hid hj
        clear hj
        go_upto_region 9 with (fail)
        rw [show ((ByteArray.mk d.toArray)[j]'hjs) = c from hcc.symm]
        have hcl : c.toNat < 256 := UInt8.toNat_lt c
        have HRC := Lib.hid hrc
        clear hcc ej hjl hjs hrc
        by_cases ho : 48 ≤ c.toNat ∧ c.toNat ≤ 57
        · obtain ⟨ho1, ho2⟩ := ho
          have cd : ∃ v, wr.cell? ⟨p, k, none⟩ = some v := ⟨_, by rw [cell_of_row _ _ _ _ _ _ h1, row_get _ _ (by omega)]⟩
          obtain ⟨v, cd⟩ := cd
          have fd : wr.frozen? ⟨p, k, none⟩ = false := frozen_of_row _ _ _ _ _ h1
          have HB := Lib.hid hb
          have H0 := Lib.hid h0
          have H1 := Lib.hid h1
          clear hb h0 h1
          go_wp2_with fail
          go_roundw
          case rel =>
            refine ⟨k + 1, by omega, by go_num, Lib.hid ?_, hs_old H0.out (by simp; omega), (hs_new H1.out).trans (by rw [rdRow_step _ _ (by omega) _ (by unfold dgc; rw [HRC.out]; go_num)]), HB.out.setCell (by simp; omega) _⟩
            intro i hi
            rcases Nat.lt_or_ge i k with h | h
            · exact HO.out i h
            · obtain rfl : i = k := by omega
              rw [HRC.out]
              unfold okc
              simp [ho1, ho2]
          case measure => simp [intOf]; omega
        · have hbad : d.all okc = false := by
            rw [List.all_eq_false]
            refine ⟨c, ?_, ?_⟩
            · have h1 := HRC.out
              rw [List.getD_eq_getElem?_getD, List.getElem?_eq_getElem (by simpa using hc)] at h1
              rw [← List.mem_reverse, ← h1]
              exact List.getElem_mem _
            · unfold okc
              simp
              omega
          have HBAD := Lib.hid hbad
          clear hbad
          have hcase : ∀ (P : Prop), (c.toNat < 48 → P) → (48 ≤ c.toNat → 57 < c.toNat → P) → P := by
            intro P a b
            by_cases h : c.toNat < 48
            · exact a h
            · exact b (by omega) (by omega)
          clear ho
          apply hcase
          · intro hlo
            clear hcase
            go_upto_region 10 with (fail)
            apply wp_region_lit
            refine wl_val rfl (ex_build 57 _ rfl (L := []) rfl built_lzero) ?_
            ((with_reducible apply wl_put75); exact rfl; exact rfl; exact h0; intro w8 hbx hk hq; replace hb := hbx _ _ (by omega) hb; clear h0; have h0 := hq; clear hbx hk hq)
            go_wp2_with fail
            exact bodyPost_ret (res_longErr rfl _ _ w.heap.size rfl h0) rfl ⟨by rw [HR.out, HBAD.out]; rfl, hb⟩
          · intro hlo hhi
            clear hcase
            go_upto_region 10 with (fail)
            apply wp_region_lit
            refine wl_val rfl (ex_build 57 _ rfl (L := []) rfl built_lzero) ?_
            ((with_reducible apply wl_put75); exact rfl; exact rfl; exact h0; intro w8 hbx hk hq; replace hb := hbx _ _ (by omega) hb; clear h0; have h0 := hq; clear hbx hk hq)
            go_wp2_with fail
            exact bodyPost_ret (res_longErr rfl _ _ w.heap.size rfl h0) rfl ⟨by rw [HR.out, HBAD.out]; rfl, hb⟩
      · obtain rfl : k = d.length := by omega
        have hall : ∀ c ∈ d, okc c = true := by
          intro c hc
          obtain ⟨i, hi, rfl⟩ := List.mem_iff_getElem.1 (List.mem_reverse.2 hc)
          have := HO.out i (by simpa using hi)
          rw [List.getD_eq_getElem?_getD, List.getElem?_eq_getElem hi] at this
          exact this
        have hbig : rv d.reverse < 10 ^ 64 := by
          have h1 := rv_lt d.reverse (by simpa using hall)
          have h2 : 10 ^ d.reverse.length ≤ 10 ^ 64 := Nat.pow_le_pow_right (by decide) (by simp; omega)
          omega
        have HBIG := Lib.hid hbig
        rw [rdRow_end d hall] at h1
        have HALL := Lib.hid (List.all_eq_true.2 hall)
        clear hall hbig hc hk
        go_upto_region 13 with (fail)
        apply wp_region_lit
        ((with_reducible apply wl_rowG); exact rfl; exact rfl; (first | exact rowL (by with_reducible assumption) | exact rowD (by with_reducible assumption) | exact rowR (by with_reducible assumption)))
        refine wl_k rfl (fun K hK => ?_); go_simp; refine hK _ ?_; clear hK K
        refine wl_k rfl (fun K hK => ?_); go_simp; refine hK _ ?_; clear hK K
        refine wl_k rfl (fun K hK => ?_); go_simp; refine hK _ ?_; clear hK K
        refine wl_k rfl (fun K hK => ?_); go_simp; refine hK _ ?_; clear hK K
        refine wl_k rfl (fun K hK => ?_); go_simp; refine hK _ ?_; clear hK K
        refine wl_ck rfl (fun K hK => ?_); go_simp; refine ⟨_, _, ⟨rfl, rfl⟩, hK _ _ ⟨_, signed_any _ _ HBIG.out _, ?_⟩⟩; clear hK K; rintro e w11 ⟨rfl, hb1⟩; refine ⟨_, rfl, ?_⟩; simp only [put_lit, List.set_cons_zero, List.set_cons_succ]
        replace h0 := below_look hb1 h0; replace hb := hb.trans (hb1.mono hb.size); clear hb1
        ((with_reducible apply wl_put75); exact rfl; exact rfl; exact h0; intro w12 hbx hk hq; replace hb := hbx _ _ (by omega) hb; clear h0; have h0 := hq; clear hbx hk hq)
        go_wp2_with fail
        refine bodyPost_ret (res_longErr rfl _ _ w.heap.size rfl h0) rfl ⟨?_, hb⟩
        rw [HR.out, HALL.out]
        simp

theorem rd_none {s : List UInt8} (h : 40 < s.length ∨ Lib.trimPrefix s [45] = [] ∨ ((Lib.trimPrefix s [45]).head? = some 48 ∧ s ≠ [48]) ∨ (Lib.trimPrefix s [45]).all okc = false) : rd s = none := by unfold rd; rw [if_pos h]
theorem rd_some {s : List UInt8} (h : ¬ (40 < s.length ∨ Lib.trimPrefix s [45] = [] ∨ ((Lib.trimPrefix s [45]).head? = some 48 ∧ s ≠ [48]) ∨ (Lib.trimPrefix s [45]).all okc = false)) :
    rd s = some (sg (decide ((Lib.trimPrefix s [45]).length < s.length)) (rv (Lib.trimPrefix s [45]).reverse)) := by unfold rd; rw [if_neg h]
def rdV (s : List UInt8) : Value := .tuple #[.agg (lv ((rd s).getD 0)), .bool (rd s).isSome]
theorem rdV_none {s : List UInt8} (h : rd s = none) : rdV s = .tuple #[.agg (lv 0), .bool false] := by unfold rdV; rw [h]; rfl
theorem rdV_some {s : List UInt8} {x : Int} (h : rd s = some x) : rdV s = .tuple #[.agg (lv x), .bool true] := by unfold rdV; rw [h]; rfl
theorem sg_bd (b : Bool) (n : Nat) : (sg b n).natAbs = n := by unfold sg; split <;> omega
theorem rd_bd {s : List UInt8} {x : Int} (h : rd s = some x) : x.natAbs < 10 ^ 40 := by
  unfold rd at h
  split at h
  · cases h
  · rename_i hc
    simp only [not_or] at hc
    obtain ⟨h1, _, _, h4⟩ := hc
    simp only [Option.some.injEq] at h
    subst h
    rw [sg_bd]
    have h5 := rv_lt (Lib.trimPrefix s [45]).reverse (by
      intro c hc
      simp only [Bool.not_eq_false, List.all_eq_true] at h4
      exact h4 c (by simpa using hc))
    have h6 := trim_le s [45]
    have h7 : 10 ^ (Lib.trimPrefix s [45]).reverse.length ≤ 10 ^ 40 := Nat.pow_le_pow_right (by decide) (by simp; omega)
    omega
theorem read_any (m : ByteArray) (w : World) :
    Calls Tryz.prog 43 #[.string m] w fun e w' => e = .returned (rdV m.data.toList) ∧ Below w.heap.size w w' := by
  have hs : m.data.toList.length = m.size := by simp
  obtain ⟨d, hd⟩ : ∃ d, Lib.trimPrefix m.data.toList [45] = d := ⟨_, rfl⟩
  by_cases h1 : 40 < m.size
  · rw [rdV_none (rd_none (Or.inl (by omega)))]
    exact read_long m d (Lib.hid hd) h1 w
  · by_cases h2 : d = []
    · rw [rdV_none (rd_none (Or.inr (Or.inl (by rw [hd, h2]))))]
      exact read_none m d (Lib.hid hd) h2 (by omega) w
    · by_cases h3 : d.head? = some 48 ∧ m.data.toList ≠ [48]
      · rw [rdV_none (rd_none (Or.inr (Or.inr (Or.inl (by rw [hd]; exact h3)))))]
        obtain ⟨c, d', rfl⟩ : ∃ c d', d = c :: d' := by
          cases d with
          | nil => exact absurd rfl h2
          | cons c d' => exact ⟨c, d', rfl⟩
        obtain ⟨h4, h5⟩ := h3
        simp only [List.head?_cons, Option.some.injEq] at h4
        subst h4
        exact read_zero m d' (Lib.hid hd) (by omega) (by rw [is_zero]; simpa using h5) w
      · refine read_digits m d (Lib.hid hd) h2 (by omega) (fun h => Classical.not_not.1 fun h4 => h3 ⟨h, h4⟩) _ (Lib.hid ?_) w
        cases hall : d.all okc
        · rw [rdV_none (rd_none (Or.inr (Or.inr (Or.inr (by rw [hd]; exact hall)))))]
          rfl
        · rw [rdV_some (rd_some (by rw [hd, hall]; simp only [not_or]; exact ⟨by omega, h2, h3, by simp⟩)), hd]
          simp
end Go.Proofs.YtclainfdeghgnaaGreatDoor
namespace Go.Proofs.YtclainfdeghgnaaGreatDoor
open Go.RowKit Go.Proofs.YtclainfdeghgnaaGreatDoor.Nm

set_option maxHeartbeats 400000 in
theorem toInt_any (z : Int) (hz : z.natAbs ≤ 9223372036854775807) (w : World) :
    Calls Tryz.prog 57 #[.agg (lv z)] w fun e w' => e = .returned (.int .i64 z) ∧ Below w.heap.size w w' := by
  have HZ := Lib.hid hz
  obtain ⟨m, hm⟩ : ∃ m, m = z.natAbs := ⟨_, rfl⟩
  have HM := Lib.hid hm
  rw [← hm] at hz
  go_enter Tryz.func57, Tryz.ntmps57
  go_upto_region 1 with (fail)
  refine wp_world (fun W => W.heap[w.heap.size]? = some (.cells (lv z) 57 (0, 0)) ∧ Below w.heap.size w W) ⟨ha_new rfl, ((Below.refl _ _).alloc (Nat.le_refl _) _)⟩ ?_
  rintro W ⟨h0, hb⟩
  clear hm
  go_wp2_with fail
  go_loopw [4, 3] (fun i n wr => ∃ k : Nat, ∃ q : Nat, k ≤ 64 ∧ i = .int .i64 ((k : Int) - 1) ∧ n = .int .i64 q ∧ Hid (q = m / 10 ^ k) ∧ wr.heap[w.heap.size]? = some (.cells (lv z) 57 (0, 0)) ∧ Below w.heap.size w wr) (fun i _ _ => (intOf i + 1).toNat)
  case atStart => exact ⟨64, 0, by omega, rfl, rfl, Lib.hid (by
    rw [Nat.div_eq_of_lt]
    have h2 : (9223372036854775808 : Nat) < 10 ^ 64 := by decide
    omega), h0, hb⟩
  case round =>
    clear h0 hb
    obtain ⟨k, q, hk, rfl, rfl, hq, h0, hb⟩ := hrel
    by_cases hc : 0 < k
    · obtain ⟨j, rfl⟩ : ∃ j, k = j + 1 := ⟨k - 1, by omega⟩
      have ej : ((j + 1 : Nat) : Int) - 1 = (j : Int) := by omega
      rw [ej]
      clear ej hc
      have ct := lv_cell h0 (i := j) (by omega)
      have dt := dg_lt z.natAbs j
      have hs := div_split m j
      rw [← hq.out, HM.out] at hs
      have hle : z.natAbs / 10 ^ j ≤ z.natAbs := Nat.div_le_self _ _
      rw [← HM.out] at hle
      have hb1 : 10 * q + dg z.natAbs j ≤ m := by rw [← hs, ← HM.out] ; exact Nat.div_le_self _ _
      have HS := Lib.hid hs
      clear hs hle
      go_wp2_with fail
      go_roundw
      case rel => exact ⟨j, 10 * q + dg z.natAbs j, by omega, by go_num, by go_num, Lib.hid (by rw [← HS.out, HM.out]), h0, hb⟩
      case measure => simp [intOf]
    · obtain rfl : k = 0 := by omega
      have HQ := hq.out
      simp only [Nat.pow_zero, Nat.div_one] at HQ
      subst HQ
      have n0 : wr.cell? ⟨w.heap.size, 0, none⟩ = some (.bool (ng z)) := by rw [cell_of_row _ _ _ _ _ _ h0]; exact lv_neg z
      cases hn : ng z
      · rw [hn] at n0
        go_wp2_with fail
        go_ret
        refine ⟨?_, hb⟩
        have h1 := HM.out
        rw [ng_def] at hn
        simp at hn
        rw [show z = (q : Int) by omega]
        rfl
      · rw [hn] at n0
        go_wp2_with fail
        go_ret
        refine ⟨?_, hb⟩
        have h1 := HM.out
        rw [ng_def] at hn
        simp at hn
        rw [show z = -(q : Int) by omega]
        rfl

def wi (b : Int) (s : Bool) : Array Value := #[.int .i64 b, .bool s]
def widthCells : Array Value := #[.int .i64 8, .bool false, .int .i64 16, .bool false, .int .i64 32, .bool false, .int .i64 64, .bool false, .int .i64 8, .bool true, .int .i64 16, .bool true, .int .i64 32, .bool true, .int .i64 64, .bool true]
set_option maxHeartbeats 400000 in
theorem widths_any (w : World) :
    Calls Tryz.prog 44 #[] w fun e w' => e = .returned (.slice (some ⟨w.heap.size, 0, none⟩) 8 8) ∧ (w'.heap[w.heap.size]? = some (.cells (widthCells) 50 (0, 0)) ∧ Below w.heap.size w w') := by
  go_enter Tryz.func44, Tryz.ntmps44
  go_wp2
  go_ret
  exact ⟨rfl, ha_new rfl, (Below.refl _ _).alloc (Nat.le_refl _) _⟩
def wN (k : Nat) : Int := [8, 16, 32, 64, 8, 16, 32, 64].getD k 0
def wS (k : Nat) : Bool := decide (4 ≤ k)
theorem widths0 {w : World} {b k : Nat} {t : TypeId} {fr : Nat × Nat} (hb : w.heap[b]? = some (.cells widthCells t fr)) (hk : k < 8) : w.cell? ⟨b, k * 2, none⟩ = some (.int .i64 (wN k)) := by
  rw [cell_of_row _ _ _ _ _ _ hb]
  match k, hk with
  | 0, _ | 1, _ | 2, _ | 3, _ | 4, _ | 5, _ | 6, _ | 7, _ => rfl
theorem widths1 {w : World} {b k : Nat} {t : TypeId} {fr : Nat × Nat} (hb : w.heap[b]? = some (.cells widthCells t fr)) (hk : k < 8) : w.cell? ⟨b, k * 2 + 1, none⟩ = some (.bool (wS k)) := by
  rw [cell_of_row _ _ _ _ _ _ hb]
  match k, hk with
  | 0, _ | 1, _ | 2, _ | 3, _ | 4, _ | 5, _ | 6, _ | 7, _ => rfl
def isRight (b : Int) : Bool := b == 8 || b == 16 || b == 32 || b == 64
theorem right_of {b : Int} {s : Bool} {k : Nat} (hk : k < 8) (h1 : wN k = b) (_ : wS k = s) : isRight b = true := by
  subst h1
  match k, hk with
  | 0, _ | 1, _ | 2, _ | 3, _ | 4, _ | 5, _ | 6, _ | 7, _ => rfl
theorem right_not {b : Int} {s : Bool} (h : ∀ k, k < 8 → ¬ (wN k = b ∧ wS k = s)) : isRight b = false := by
  rw [Bool.eq_false_iff]
  intro hr
  unfold isRight at hr
  simp only [Bool.or_eq_true, beq_iff_eq] at hr
  rcases hr with ((rfl | rfl) | rfl) | rfl
  · cases s
    · exact h 0 (by decide) ⟨rfl, rfl⟩
    · exact h 4 (by decide) ⟨rfl, rfl⟩
  · cases s
    · exact h 1 (by decide) ⟨rfl, rfl⟩
    · exact h 5 (by decide) ⟨rfl, rfl⟩
  · cases s
    · exact h 2 (by decide) ⟨rfl, rfl⟩
    · exact h 6 (by decide) ⟨rfl, rfl⟩
  · cases s
    · exact h 3 (by decide) ⟨rfl, rfl⟩
    · exact h 7 (by decide) ⟨rfl, rfl⟩

set_option maxHeartbeats 400000 in
theorem right_any (b : Int) (s : Bool) (R : Bool) (HR : Hid (R = isRight b)) (w : World) :
    Calls Tryz.prog 18 #[.agg (wi b s)] w fun e w' => e = .returned (.bool R) ∧ Below w.heap.size w w' := by
  go_enter Tryz.func18, Tryz.ntmps18
  go_upto_region 1 with (fail)
  refine wp_world (fun W => W.heap[w.heap.size]? = some (.cells (wi b s) 50 (0, 0)) ∧ Below w.heap.size w W) ⟨ha_new rfl, ((Below.refl _ _).alloc (Nat.le_refl _) _)⟩ ?_
  rintro W ⟨h0, hb⟩
  go_wp2_with (go_at_call 44; refine (widths_any _).mono ?_)
  rintro e w1 ⟨rfl, h1, hb1⟩
  have lt0 := heap_lt h0
  obtain ⟨g, hg⟩ : ∃ g, g = W.heap.size := ⟨_, rfl⟩
  rw [← hg] at h1 hb1 lt0
  have hb2 : w.heap.size ≤ g := by rw [hg]; exact hb.size
  rw [← hg]
  replace h0 := below_cells hb1 lt0 h0
  replace hb := hb.trans (hb1.mono hb2)
  clear hb1 hg
  go_wp2_with fail
  go_loopw [7] (fun i wr => ∃ k : Nat, k ≤ 8 ∧ i = .int .i64 k ∧ Hid (∀ j, j < k → ¬ (wN j = b ∧ wS j = s)) ∧ wr.heap[w.heap.size]? = some (.cells (wi b s) 50 (0, 0)) ∧ wr.heap[g]? = some (.cells (widthCells) 50 (0, 0)) ∧ Below w.heap.size w wr) (fun i _ => (8 - intOf i).toNat)
  case atStart => exact ⟨0, by omega, rfl, Lib.hid (fun j hj => absurd hj (by omega)), h0, h1, hb⟩
  case round =>
    clear h0 h1 hb
    obtain ⟨k, hk, rfl, HN, h0, h1, hb⟩ := hrel
    by_cases hc : k < 8
    · have a0 := widths0 h1 hc
      have a1 := widths1 h1 hc
      go_upto_region 4 with (fail)
      clear a0 a1
      refine wp_world (fun W => W.heap[w.heap.size]? = some (.cells (wi b s) 50 (0, 0)) ∧ W.heap[g]? = some (.cells (widthCells) 50 (0, 0)) ∧ W.heap[wr.heap.size]? = some (.cells (wi (wN k) (wS k)) 50 (0, 0)) ∧ Below w.heap.size w W) ⟨ha_old h0, ha_old h1, ha_new rfl, hb.alloc hb.size _⟩ ?_
      clear h0 h1 hb
      rintro W3 ⟨h0, h1, h2, hb⟩
      have b0 : W3.cell? ⟨w.heap.size, 0, none⟩ = some (.int .i64 b) := by rw [cell_of_row _ _ _ _ _ _ h0]; rfl
      have b1 : W3.cell? ⟨w.heap.size, 1, none⟩ = some (.bool s) := by rw [cell_of_row _ _ _ _ _ _ h0]; rfl
      have c0 : W3.cell? ⟨wr.heap.size, 0, none⟩ = some (.int .i64 (wN k)) := by rw [cell_of_row _ _ _ _ _ _ h2]; rfl
      have c1 : W3.cell? ⟨wr.heap.size, 1, none⟩ = some (.bool (wS k)) := by rw [cell_of_row _ _ _ _ _ _ h2]; rfl
      clear h2
      by_cases he : wN k = b ∧ wS k = s
      · obtain ⟨he1, he2⟩ := he
        have HRK := Lib.hid (right_of hc he1 he2)
        rw [he1] at c0
        rw [he2] at c1
        clear he1 he2
        go_wp2_with fail
        go_ret
        exact ⟨by rw [HR.out, HRK.out]; rfl, hb⟩
      · have HE := Lib.hid he
        go_wp2_with fail
        · rename_i e1 e2
          exact absurd ⟨e1, e2⟩ HE.out
        all_goals
          go_roundw
          case rel =>
            refine ⟨k + 1, by omega, by go_num, Lib.hid ?_, h0, h1, hb⟩
            intro i hi
            rcases Nat.lt_or_ge i k with h | h
            · exact HN.out i h
            · obtain rfl : i = k := by omega
              exact HE.out
          case measure => simp [intOf]; omega
    · obtain rfl : k = 8 := by omega
      go_wp2_with fail
      go_ret
      refine ⟨?_, hb⟩
      rw [HR.out, right_not HN.out]
      rfl

def isModeL (l : List UInt8) : Bool := l == [116, 114, 97, 112] || l == [119, 114, 97, 112] || l == [99, 108, 97, 109, 112]
def modeTexts : List ByteArray := [⟨#[116, 114, 97, 112]⟩, ⟨#[119, 114, 97, 112]⟩, ⟨#[99, 108, 97, 109, 112]⟩]
theorem bytes_eq {a : ByteArray} {l : Array UInt8} : a = ⟨l⟩ ↔ a.data.toList = l.toList := by
  constructor
  · rintro rfl; rfl
  · intro h
    cases a with
    | mk d => congr 1; exact Array.toList_inj.1 h
theorem isMode_mem (m : ByteArray) : Lib.containsS modeTexts m = isModeL m.data.toList := by
  rw [Bool.eq_iff_iff, Lib.containsS_iff]
  unfold modeTexts isModeL
  simp only [List.mem_cons, List.not_mem_nil, or_false, bytes_eq, Bool.or_eq_true, beq_iff_eq, or_assoc]
set_option maxHeartbeats 400000 in
theorem isMode_any (m : ByteArray) (R : Bool) (HR : Hid (R = isModeL m.data.toList)) (w : World) :
    Calls Tryz.prog 19 #[.string m] w fun e w' => e = .returned (.bool R) ∧ Below w.heap.size w w' := by
  go_enter Tryz.func19, Tryz.ntmps19
  go_wp2_with (go_at_call 20; refine (Tryz.slices_Contains_string w.heap.size 0 3 3 modeTexts m _ (by decide) (by decide) ?cells).mono ?_)
  case cells =>
    intro j hj
    rw [cell_of_row _ _ _ _ _ _ (ha_new rfl)]
    match j, hj with
    | 0, _ | 1, _ | 2, _ => rfl
  rintro e w1 ⟨rfl, rfl⟩
  rw [show modeTexts.take 3 = modeTexts from rfl, isMode_mem, ← HR.out]
  go_wp2_with fail
  go_ret
  exact ⟨rfl, (Below.refl _ _).alloc (Nat.le_refl _) _⟩
end Go.Proofs.YtclainfdeghgnaaGreatDoor
namespace Go.Proofs.YtclainfdeghgnaaGreatDoor
open Go.RowKit Go.Proofs.YtclainfdeghgnaaGreatDoor.Nm

theorem wl_w {P : Program} {ops : Array Oper} {rest : List Oper} {o : Oper} {a : Act} {w w2 : World} {Q : Exit → Act → World → Prop} {v : Value} (hg : o.guard = none) (hx : (execOp a.eval o).run P w = .ok (.value v) w2)
    (h : wpList P ops Q rest (a.put o.dst v) w2) : wpList P ops Q (o :: rest) a w := by
  refine wpList_plain hg fun K hK => ?_
  unfold Oper.wp; rw [hx]; exact hK _ _ h
theorem run_bs64 (w : World) (b : Bool) (f : Nat → Nat) : (Instr.buildSlice 46 1 #[(0, .agg (#[.bool b] ++ row f))]).run Tryz.prog w = .ok (.slice (some ⟨w.heap.size, 0, none⟩) 1 1) (w.alloc (.cells (#[.bool b] ++ row f) 57)) := by kernel_rfl
theorem ex_bs64 {ev : Operand → Value} {o : Oper} {w : World} (x : Operand) (ho : o.op = .buildSlice 46 1 #[(0, x)]) {z : Int} (hx : ev x = .agg (lv z)) :
    (execOp ev o).run Tryz.prog w = .ok (.value (.slice (some ⟨w.heap.size, 0, none⟩) 1 1)) (w.alloc (.cells (lv z) 57)) := by
  have h := run_bs64 w (ng z) (dg z.natAbs)
  unfold execOp
  simp only [ho]
  simp [hx]
  rw [show lv z = #[.bool (ng z)] ++ row (dg z.natAbs) from rfl, h]
  rfl
theorem info75z : (Tryz.prog.info? 57).map (fun i => (i.zero, i.size, i.bytes)) = some (some (.agg (#[.bool false] ++ row fun _ => 0)), 65, 65) := by kernel_rfl
theorem u64s : Tryz.prog.underlying 46 = some (.slice 57) := by kernel_rfl
theorem own_below {B : Nat} {w w' : World} {v : Value} {n : Nat} {xs : List Value} (h : w.ownsRow B 57 65 v n xs) (hb : Below w.heap.size w w') : w'.ownsRow B 57 65 v n xs := by
  refine ⟨h.1, ?_⟩
  rcases h.2 with h2 | ⟨g, cap, cur, h1, h2, h3, h4⟩
  · exact Or.inl h2
  · exact Or.inr ⟨g, cap, cur, h1, h2, below_look hb h3, h4⟩

def rdm (m : ByteArray) : Option Int := rd m.data.toList
def flat (xs : List Int) : List Value := xs.flatMap fun x => (lv x).toList
theorem flat_snoc (xs : List Int) (x : Int) : flat xs ++ (lv x).toList = flat (xs ++ [x]) := by simp [flat]
theorem read_any2 (m : ByteArray) (x : Int) (ok : Bool) (h : (rdm m = some x ∧ ok = true) ∨ (rdm m = none ∧ x = 0 ∧ ok = false)) (w : World) :
    Calls Tryz.prog 43 #[.string m] w fun e w' => e = .returned (.tuple #[.agg (lv x), .bool ok]) ∧ Below w.heap.size w w' := by
  have := read_any m w
  rcases h with ⟨h1, rfl⟩ | ⟨h1, rfl, rfl⟩
  · rwa [rdV_some h1] at this
  · rwa [rdV_none h1] at this
/-- What the texts give: the slice of the numbers, or a text that is none. -/
def ReadsTo (ms : List ByteArray) (B : Nat) (v : Value) (ok : Bool) (w : World) : Prop :=
  (ok = false ∧ ∃ m ∈ ms, rdm m = none) ∨ (ok = true ∧ ∃ xs, ms.map rdm = xs.map some ∧ w.ownsRow B 57 65 v ms.length (flat xs))

set_option maxHeartbeats 1000000 in
theorem reads_any (g c : Nat) (ms : List ByteArray) (hn : ms.length ≤ 1000) (w : World) (hg : w.heap[g]? = some (.cells (ms.map Value.string).toArray 9 (0, 0))) :
    Calls Tryz.prog 17 #[.slice (some ⟨g, 0, none⟩) ms.length c] w fun e w' => ∃ v ok, e = .returned (.tuple #[v, .bool ok]) ∧ ReadsTo ms w.heap.size v ok w' ∧ Below w.heap.size w w' := by
  obtain ⟨i0, hi, hz0, hz1, hz2⟩ := info_parts info75z
  have lt0 := heap_lt hg
  go_enter Tryz.func17, Tryz.ntmps17
  go_wp2_with fail
  go_loopw [11, 4] (fun i v wr => ∃ (k : Nat) (xs : List Int), k ≤ ms.length ∧ i = .int .i64 k ∧ Hid ((ms.take k).map rdm = xs.map some) ∧ wr.ownsRow w.heap.size 57 65 v k (flat xs) ∧ wr.heap[g]? = some (.cells (ms.map Value.string).toArray 9 (0, 0)) ∧ Below w.heap.size w wr) (fun i _ _ => (ms.length - intOf i).toNat)
  case atStart => exact ⟨0, [], by omega, rfl, Lib.hid rfl, ⟨rfl, Or.inl ⟨rfl, rfl⟩⟩, hg, Below.refl _ _⟩
  case round =>
    obtain ⟨k, xs, hk, rfl, HX, hown, h0, hb⟩ := hrel
    by_cases hc : k < ms.length
    · obtain ⟨m, hm⟩ : ∃ m, m = ms[k] := ⟨_, rfl⟩
      have a0 : wr.cell? ⟨g, k, none⟩ = some (.string m) := by
        rw [cell_of_row _ _ _ _ _ _ h0]; simp [hc, hm]
      have HM := Lib.hid hm
      clear hm
      go_upto_region 5 with (fail)
      clear a0
      cases hr : rdm m with
      | none =>
        apply wp_region_lit
        refine wl_k rfl (fun K hK => ?_); go_simp; refine hK _ ?_; clear hK K
        refine wl_ck rfl (fun K hK => ?_); go_simp; refine ⟨_, _, ⟨rfl, rfl⟩, hK _ _ ⟨_, read_any2 m 0 false (Or.inr ⟨hr, rfl, rfl⟩) _, ?_⟩⟩; clear hK K; rintro e w1 ⟨rfl, hb1⟩; refine ⟨_, rfl, ?_⟩; simp only [put_lit, List.set_cons_zero, List.set_cons_succ]
        replace hb := hb.trans (hb1.mono hb.size); clear hb1
        refine wl_k rfl (fun K hK => ?_); go_simp; refine hK _ ?_; clear hK K
        refine wl_k rfl (fun K hK => ?_); go_simp; refine hK _ ?_; clear hK K
        refine wl_k rfl (fun K hK => ?_); go_simp; refine hK _ ?_; clear hK K
        (have lsp2 := hb.size; (with_reducible apply wl_new75); intro w2 p2 hbn hlp2 hp2; replace hb := hb.trans (hbn.mono hb.size); clear hbn)
        ((with_reducible apply wl_put75); exact rfl; exact rfl; exact hp2; intro w3 hbx hk hq; replace hb := hbx _ _ (by omega) hb; clear hp2; have hp2 := hq; clear hbx hk hq)
        go_wp2_with fail
        refine bodyPost_ret (results_tmp2 rfl _ _ _) rfl ⟨_, _, rfl, Or.inl ⟨rfl, m, ?_, hr⟩, hb⟩
        rw [HM.out]
        exact List.getElem_mem _
      | some x =>
        apply wp_region_lit
        refine wl_k rfl (fun K hK => ?_); go_simp; refine hK _ ?_; clear hK K
        refine wl_ck rfl (fun K hK => ?_); go_simp; refine ⟨_, _, ⟨rfl, rfl⟩, hK _ _ ⟨_, read_any2 m x true (Or.inl ⟨hr, rfl⟩) _, ?_⟩⟩; clear hK K; rintro e w1 ⟨rfl, hb1⟩; refine ⟨_, rfl, ?_⟩; simp only [put_lit, List.set_cons_zero, List.set_cons_succ]
        have lt2 := heap_lt h0
        have own1 := own_below hown hb1
        have g1 := below_look hb1 h0
        have HB0 := Lib.hid (hb.trans (hb1.mono hb.size))
        clear hb1 hb hown h0
        have hb := Below.refl w1.heap.size w1
        refine wl_k rfl (fun K hK => ?_); go_simp; refine hK _ ?_; clear hK K
        refine wl_k rfl (fun K hK => ?_); go_simp; refine hK _ ?_; clear hK K
        refine wl_k rfl (fun K hK => ?_); go_simp; refine hK _ ?_; clear hK K
        (have lsp2 := hb.size; (with_reducible apply wl_new75); intro w2 p2 hbn hlp2 hp2; replace hb := hb.trans (hbn.mono hb.size); clear hbn)
        ((with_reducible apply wl_put75); exact rfl; exact rfl; exact hp2; intro w3 hbx hk hq; replace hb := hbx _ _ (by omega) hb; clear hp2; have hp2 := hq; clear hbx hk hq)
        have own2 := own_below own1 hb
        have g2 := below_look hb g1
        have hb2 := HB0.out.trans (hb.mono HB0.out.size)
        clear own1 g1 HB0 hb
        go_upto_region 8 with (fail)
        apply wp_region_lit
        refine wl_k rfl (fun K hK => ?_); go_simp; refine hK _ ?_; clear hK K
        ((with_reducible apply wl_rowG); exact rfl; exact rfl; (first | exact rowL (by with_reducible assumption) | exact rowD (by with_reducible assumption) | exact rowR (by with_reducible assumption)))
        refine wl_w rfl (ex_bs64 _ rfl rfl) ?_
        simp only [put_lit, List.set_cons_zero, List.set_cons_succ]
        refine wpList_append_own _ rfl _ _ 46 rfl w.heap.size 57 i0 _ 65 65 u64s hi hz0 hz1 hz2 ?c0 (by decide) _ _ _ rfl (own2.alloc _) ⟨w3.heap.size, 0, none⟩ 1 1 (lv x).toList rfl ?c1 ?c2 ?c3 ?c4 ?c5 ?c6 ?_
        case c0 => simp [Value.cells, row_size]
        case c1 => simp [lv_size]
        case c2 =>
          intro j u hj
          rw [show (Addr.add ⟨w3.heap.size, 0, none⟩ j) = ⟨w3.heap.size, j, none⟩ by simp [Addr.add]; exact fun h => h.symm, cell_of_row _ _ _ _ _ _ (ha_new rfl)]
          simpa using hj
        case c3 =>
          intro u hu
          have := lv_one x
          rw [Array.all_eq_true_iff_forall_mem] at this
          exact this u (by simpa using hu)
        case c4 => unfold maxLen; omega
        case c5 => omega
        case c6 => have := hb2.size; simp; omega
        intro v' w4 hown' hgrow _
        rw [flat_snoc] at hown'
        have hb4 : Below w.heap.size w w4 := (hb2.alloc hb2.size _).grown hgrow (by have := hb2.size; simp; omega) (fun k hk => (own2.lt k hk).1)
        have g4 := below_cells (Below.refl w.heap.size w) lt0 hg
        replace g4 := below_cells hb4 lt0 hg
        have HO := Lib.hid hown'
        clear hown' hgrow own2 g2 hb2 hp2
        go_wp2_with fail
        go_roundw
        case rel =>
          refine ⟨k + 1, xs ++ [x], by omega, by go_num, Lib.hid ?_, HO.out, g4, hb4⟩
          rw [List.take_succ_eq_append_getElem hc, List.map_append, HX.out, ← HM.out]
          simp [hr]
        case measure => simp [intOf]; omega
    · obtain rfl : k = ms.length := by omega
      go_wp2_with fail
      refine bodyPost_ret (results_tmp2 rfl _ _ _) rfl ⟨_, _, rfl, Or.inr ⟨rfl, xs, ?_, hown⟩, hb⟩
      have := HX.out
      rwa [List.take_length] at this
end Go.Proofs.YtclainfdeghgnaaGreatDoor
namespace Go.Proofs.YtclainfdeghgnaaGreatDoor
open Go.RowKit Go.Proofs.YtclainfdeghgnaaGreatDoor.Nm

/-- Two numbers side by side in a block. -/
def TwoAt (w : World) (g : Nat) (x y : Int) : Prop := ∃ cur, w.heap[g]? = some (.cells cur 57 (0, 0)) ∧ cur.extract 0 (0 + 65) = lv x ∧ cur.extract 65 (65 + 65) = lv y
theorem TwoAt.lt {w : World} {g : Nat} {x y : Int} (h : TwoAt w g x y) : g < w.heap.size := by obtain ⟨_, h, _⟩ := h; exact heap_lt h
theorem TwoAt.below {w w' : World} {g : Nat} {x y : Int} (hb : Below w.heap.size w w') (h : TwoAt w g x y) : TwoAt w' g x y := by
  obtain ⟨cur, h1, h2⟩ := h; exact ⟨cur, below_look hb h1, h2⟩
theorem two0 {w : World} {g : Nat} {x y : Int} (h : TwoAt w g x y) : RowAt w 57 ⟨g, 0, none⟩ (lv x) := by
  obtain ⟨cur, h1, h2, h3⟩ := h; exact row_mid h1 h2 u75 rfl (lv_size _) info75
theorem two1 {w : World} {g : Nat} {x y : Int} (h : TwoAt w g x y) : RowAt w 57 ⟨g, 65, none⟩ (lv y) := by
  obtain ⟨cur, h1, h2, h3⟩ := h; exact row_mid h1 h3 u75 rfl (lv_size _) info75
theorem flat_two (cur : Array Value) (x y : Int) (h : cur.toList.take (2 * 65) = flat [x, y]) : cur.extract 0 (0 + 65) = lv x ∧ cur.extract 65 (65 + 65) = lv y := by
  have h1 : flat [x, y] = (lv x).toList ++ (lv y).toList := by simp [flat]
  rw [h1] at h
  have lx : (lv x).toList.length = 65 := by simp [lv_size]
  have ly : (lv y).toList.length = 65 := by simp [lv_size]
  constructor
  · apply Array.toList_inj.1
    rw [Array.toList_extract, List.extract_eq_take_drop]
    have := congrArg (List.take 65) h
    rw [List.take_take, List.take_append_of_le_length (by omega), List.take_of_length_le (l := (lv x).toList) (by omega)] at this
    simpa using this
  · apply Array.toList_inj.1
    rw [Array.toList_extract, List.extract_eq_take_drop]
    have := congrArg (List.drop 65) h
    rw [List.drop_take, List.drop_append_of_le_length (by omega), List.drop_of_length_le (l := (lv x).toList) (by omega)] at this
    simpa using this
theorem map_two {xs : List Int} {x y : Int} (h : xs.map some = [some x, some y]) : xs = [x, y] := by
  match xs, h with
  | [p, q], h => simp at h; rw [h.1, h.2]
theorem reads2_ok (g c : Nat) (a b : ByteArray) (x y : Int) (hx : rdm a = some x) (hy : rdm b = some y) (w : World) (hg : w.heap[g]? = some (.cells #[.string a, .string b] 9 (0, 0))) :
    Calls Tryz.prog 17 #[.slice (some ⟨g, 0, none⟩) 2 c] w fun e w' => ∃ g' cap, e = .returned (.tuple #[.slice (some ⟨g', 0, none⟩) 2 cap, .bool true]) ∧ w.heap.size ≤ g' ∧ TwoAt w' g' x y ∧ Below w.heap.size w w' := by
  refine (reads_any g c [a, b] (by simp) w hg).mono ?_
  rintro e w' ⟨v, ok, rfl, hr, hb⟩
  rcases hr with ⟨_, m, hm, hn⟩ | ⟨rfl, xs, h1, h2⟩
  · simp only [List.mem_cons, List.not_mem_nil, or_false] at hm
    rcases hm with rfl | rfl
    · rw [hx] at hn; cases hn
    · rw [hy] at hn; cases hn
  · have e1 : xs = [x, y] := by
      have h3 : [rdm a, rdm b] = xs.map some := h1
      rw [hx, hy] at h3
      exact map_two h3.symm
    subst e1
    rcases h2.2 with ⟨_, h0⟩ | ⟨g', cap, cur, rfl, h3, h4, h5, h6, h7, h8⟩
    · simp at h0
    · exact ⟨g', cap, rfl, h3, ⟨cur, h4, flat_two cur x y h8⟩, hb⟩
def opTexts : List ByteArray := [⟨#[43]⟩, ⟨#[45]⟩, ⟨#[42]⟩, ⟨#[47]⟩, ⟨#[37]⟩, ⟨#[38]⟩, ⟨#[124]⟩, ⟨#[94]⟩, ⟨#[60, 60]⟩, ⟨#[62, 62]⟩]
def isOpL (l : List UInt8) : Bool := l == [43] || l == [45] || l == [42] || l == [47] || l == [37] || l == [38] || l == [124] || l == [94] || l == [60, 60] || l == [62, 62]
theorem isOp_mem (m : ByteArray) : Lib.containsS opTexts m = isOpL m.data.toList := by
  rw [Bool.eq_iff_iff, Lib.containsS_iff]
  unfold opTexts isOpL
  simp only [List.mem_cons, List.not_mem_nil, or_false, bytes_eq, Bool.or_eq_true, beq_iff_eq, or_assoc]

theorem rowWi {w : World} {b : Nat} {n : Int} {s : Bool} {t : TypeId} {fr : Nat × Nat} (hb : w.heap[b]? = some (.cells (wi n s) t fr)) : RowAt w 50 ⟨b, 0, none⟩ (wi n s) := row_mid hb (D := wi n s) (n := 2) rfl u68 rfl rfl info68
def opCells : Array Value := #[.string ⟨#[43]⟩, .string ⟨#[45]⟩, .string ⟨#[42]⟩, .string ⟨#[47]⟩, .string ⟨#[37]⟩, .string ⟨#[38]⟩, .string ⟨#[124]⟩, .string ⟨#[94]⟩, .string ⟨#[60, 60]⟩, .string ⟨#[62, 62]⟩]
theorem run_ops (w : World) : (Instr.buildSlice 52 10 #[(0, .string ⟨#[43]⟩), (1, .string ⟨#[45]⟩), (2, .string ⟨#[42]⟩), (3, .string ⟨#[47]⟩), (4, .string ⟨#[37]⟩), (5, .string ⟨#[38]⟩), (6, .string ⟨#[124]⟩), (7, .string ⟨#[94]⟩), (8, .string ⟨#[60, 60]⟩), (9, .string ⟨#[62, 62]⟩)]).run Tryz.prog w = .ok (.slice (some ⟨w.heap.size, 0, none⟩) 10 10) (w.alloc (.cells opCells 9)) := by kernel_rfl
theorem ex_ops {ev : Operand → Value} {o : Oper} {w : World} (ho : o.op = .buildSlice 52 10 #[(0, .const (.string ⟨#[43]⟩)), (1, .const (.string ⟨#[45]⟩)), (2, .const (.string ⟨#[42]⟩)), (3, .const (.string ⟨#[47]⟩)), (4, .const (.string ⟨#[37]⟩)), (5, .const (.string ⟨#[38]⟩)), (6, .const (.string ⟨#[124]⟩)), (7, .const (.string ⟨#[94]⟩)), (8, .const (.string ⟨#[60, 60]⟩)), (9, .const (.string ⟨#[62, 62]⟩))])
    (he : ∀ c, ev (.const c) = c) :
    (execOp ev o).run Tryz.prog w = .ok (.value (.slice (some ⟨w.heap.size, 0, none⟩) 10 10)) (w.alloc (.cells opCells 9)) := by
  have h := run_ops w
  unfold execOp
  simp only [ho]
  simp [he]
  rw [h]
  rfl
theorem wl_wG {P : Program} {ops : Array Oper} {rest : List Oper} {o : Oper} {a : Act} {w w2 : World} {Q : Exit → Act → World → Prop} {v : Value} (hg : Region.wanted o (yielded ops a.tmps) = true) (hx : (execOp a.eval o).run P w = .ok (.value v) w2)
    (h : wpList P ops Q rest (a.put o.dst v) w2) : wpList P ops Q (o :: rest) a w := by
  refine wpList_step fun K hK => ?_
  rw [if_pos hg]
  unfold Oper.wp; rw [hx]; exact hK _ _ h
theorem contains_ops (g : Nat) (m : ByteArray) (R : Bool) (HR : Hid (R = isOpL m.data.toList)) (w : World) (hg : w.heap[g]? = some (.cells opCells 9 (0, 0))) :
    Calls Tryz.prog 20 #[.slice (some ⟨g, 0, none⟩) 10 10, .string m] w fun e w' => e = .returned (.bool R) ∧ Below w.heap.size w w' := by
  refine (Tryz.slices_Contains_string g 0 10 10 opTexts m _ (by decide) (by decide) ?_).mono ?_
  · intro j hj
    rw [cell_of_row _ _ _ _ _ _ hg]
    match j, hj with
    | 0, _ | 1, _ | 2, _ | 3, _ | 4, _ | 5, _ | 6, _ | 7, _ | 8, _ | 9, _ => rfl
  · rintro e w1 ⟨rfl, rfl⟩
    rw [show opTexts.take 10 = opTexts from rfl, isOp_mem, ← HR.out]
    exact ⟨rfl, Below.refl _ _⟩

end Go.Proofs.YtclainfdeghgnaaGreatDoor
namespace Go.Proofs.YtclainfdeghgnaaGreatDoor
open Go.RowKit Go.Proofs.YtclainfdeghgnaaGreatDoor.Nm
section
variable {ops : Array Oper} {rest : List Oper} {dst : Option Tmp} {ty ty' : TypeId} {x : Operand} {pos : String} {after : Array Edge} {g : Option (Nat × Bool)} {a : Act} {Q : Act → Prop} {C : World → Prop} {ad : Addr} {D : Array Value} {v : Value}
theorem wq_as {o o' : Oper} (h1 : o.guard = o'.guard) (h2 : o.dst = o'.dst) (he : ∀ w, C w → (execOp a.eval o).run Tryz.prog w = (execOp a.eval o').run Tryz.prog w) (h : wpQuiet Tryz.prog ops C Q (o' :: rest) a) : wpQuiet Tryz.prog ops C Q (o :: rest) a := by
  unfold wpQuiet at h ⊢
  have e : Region.wanted o (yielded ops a.tmps) = Region.wanted o' (yielded ops a.tmps) := by unfold Region.wanted; rw [h1]
  rw [e]
  split
  · rename_i hw
    rw [if_pos hw] at h
    obtain ⟨v', hq, hk⟩ := h
    refine ⟨v', fun w hw => ?_, by rw [h2]; exact hk⟩
    unfold Oper.quietAt
    rw [he w hw]
    exact hq w hw
  · rename_i hw
    rw [if_neg hw] at h
    rw [h2]; exact h
theorem wq_row_as (hx : a.eval x = .pointer (some ad)) (hr : ∀ w', C w' → RowAt w' ty ad D) (h : wpQuiet Tryz.prog ops C Q (⟨dst, .move (.const (.agg D)), ty', pos, after, g⟩ :: rest) a) : wpQuiet Tryz.prog ops C Q (⟨dst, .load ty x, ty', pos, after, g⟩ :: rest) a := by
  exact wq_as (o := ⟨dst, .load ty x, ty', pos, after, g⟩) (o' := ⟨dst, .move (.const (.agg D)), ty', pos, after, g⟩) rfl rfl (fun w hw => (ex_row hx (hr w hw)).trans rfl) h
end
theorem right_bits {bits : Int} (h : isRight bits = true) : ∃ n : Nat, bits = n ∧ 1 ≤ n ∧ n ≤ 64 ∧ bits.toNat = n := by
  unfold isRight at h
  simp only [Bool.or_eq_true, beq_iff_eq] at h
  exact ⟨bits.toNat, by omega, by omega, by omega, rfl⟩
def hasI (bits : Int) (s : Bool) (x : Int) : Bool := hasW bits.toNat s x
theorem has_wi (bits : Int) (s : Bool) (x : Int) (hr : isRight bits = true) (hx : x.natAbs < 10 ^ 64) (R : Bool) (HR : Hid (hasI bits s x = R)) (w : World) :
    Calls Tryz.prog 21 #[.agg (wi bits s), .agg (lv x)] w fun e w' => e = .returned (.bool R) ∧ Below w.heap.size w w' := by
  obtain ⟨n, rfl, h1, h2, h3⟩ := right_bits hr
  rw [← HR.out, hasI, h3]
  exact has_any n s x h1 h2 hx w
theorem rdm_bd {m : ByteArray} {x : Int} (h : rdm m = some x) : x.natAbs < 10 ^ 64 := by
  have := rd_bd h
  have h2 : (10 : Nat) ^ 40 < 10 ^ 64 := by decide
  omega
theorem bring_wi (bits : Int) (s : Bool) (z : Int) (m : ByteArray) (hr : isRight bits = true) (hz : z.natAbs ≤ 100000000000000000000000000000000000000000000000000000000000) (r er : Int) (HR : Hid (bringW bits.toNat s m.toList z = (r, er))) (w : World) :
    Calls Tryz.prog 24 #[.agg (wi bits s), .agg (lv z), .string m] w fun e w' => e = .returned (.tuple #[.agg (lv r), .int .i64 er]) ∧ Below w.heap.size w w' := by
  obtain ⟨n, rfl, h1, h2, h3⟩ := right_bits hr
  have := bring_any n s z m h1 h2 hz w
  rw [h3] at HR
  rw [HR.out] at this
  exact this
end Go.Proofs.YtclainfdeghgnaaGreatDoor
namespace Go.Proofs.YtclainfdeghgnaaGreatDoor.Nm
open Go.RowKit

/-- What stands behind the region where it ends without more ado. -/
def OnlyN (Q : Exit → Act → World → Prop) : Exit → Act → World → Prop := fun e a w => e = .normal ∧ Q .normal a w
theorem OnlyN.up {Q : Exit → Act → World → Prop} (e : Exit) (a : Act) (w : World) (h : OnlyN Q e a w) : Q e a w := by
  obtain ⟨rfl, h⟩ := h; exact h
theorem onlyN_out {Q : Exit → Act → World → Prop} : ¬ LetsOut (OnlyN Q) := by
  rintro ⟨a, w, h, _⟩; cases h
theorem onlyN_panic {Q : Exit → Act → World → Prop} (c) (a a' : Act) (w : World) (h : OnlyN Q (.panic c) a' w) : OnlyN Q (.panic c) a w := by
  obtain ⟨h, _⟩ := h; cases h
theorem onlyN_nil {P : Program} {ops : Array Oper} {Q : Exit → Act → World → Prop} {a : Act} {w : World} (h : Q .normal a w) : wpList P ops (OnlyN Q) [] a w := ⟨rfl, h⟩

section
variable {P : Program} {ops : Array Oper} {Q : Exit → Act → World → Prop}

def lateB (ops : Array Oper) (d : Nat) : Bool :=
  match ops[d]? with
  | some od => od.guard.isNone && (match od.op with | .extract _ _ => true | _ => false) &&
    (List.range ops.size).all fun j => match ops[j]? with
      | none => true
      | some oj => (j == d || od.after.any (fun e => Region.binds .any e && e.on == j) || oj.after.any (fun e => Region.binds .any e && e.on == d) || od.apart ops oj) &&
        oj.after.all fun e => Region.binds .any e || !Region.binds .text e || (e.on == d && od.after.all fun e' => !Region.binds .text e' || oj.after.any fun e'' => Region.binds .any e'' && e''.on == e'.on)
  | none => false

theorem text_of_any {e : Edge} (h : Region.binds .any e = true) : Region.binds .text e = true := by
  unfold Region.binds at *
  cases hg : e.ground <;> simp_all

theorem ready_sub {listed : Array Bool} {i : Nat} (h : i ∈ Region.ready .text ops listed) : i ∈ Region.ready .any ops listed := by
  rw [mem_ready] at *
  obtain ⟨h0, o, ho, hall⟩ := h
  exact ⟨h0, o, ho, fun e he hb => hall e he (text_of_any hb)⟩

theorem extract_run {od : Oper} {x : Operand} {k : Nat} (hop : od.op = .extract x k) (ev : Operand → Value) :
    (∃ v, ∀ w, (execOp ev od).run P w = .ok (.value v) w) ∨ (∀ (w : World) (a : Act) (next : Act → World → Prop) (Q : Exit → Act → World → Prop), ¬ od.upon P a next Q ((execOp ev od).run P w)) := by
  unfold execOp
  simp only [hop]
  unfold Instr.extract
  cases hx : ev x
  case tuple vs =>
    cases hv : vs[k]? with
    | some v => left; refine ⟨v, fun w => ?_⟩; simp [hv]
    | none => right; intro w a next Q h; simp [hv, Oper.upon] at h
  all_goals
    right; intro w a next Q h; simp [Oper.upon] at h

theorem late_any {d : Nat} {od : Oper} (hd : ops[d]? = some od) (hsel : ∀ (j : Nat) (o : Oper) cs b, ops[j]? = some o → o.op ≠ .select cs b) (hB : lateB ops d = true) :
    ∀ (fuel : Nat) (listed : Array Bool) (a : Act) (w : World), listed.size = ops.size → wpAny P .text ops (OnlyN Q) fuel listed a w → wpAny P .any ops (OnlyN Q) fuel listed a w := by
  unfold lateB at hB
  simp only [hd, Bool.and_eq_true] at hB
  obtain ⟨⟨hgn, hex⟩, hall⟩ := hB
  have hdl : d < ops.size := (Array.getElem?_eq_some_iff.1 hd).1
  have hst : ∀ (j : Nat) (oj : Oper), ops[j]? = some oj → (j == d || od.after.any (fun e => Region.binds .any e && e.on == j) || oj.after.any (fun e => Region.binds .any e && e.on == d) || od.apart ops oj) = true ∧
      (oj.after.all fun e => Region.binds .any e || !Region.binds .text e || (e.on == d && od.after.all fun e' => !Region.binds .text e' || oj.after.any fun e'' => Region.binds .any e'' && e''.on == e'.on)) = true := by
    intro j oj hj
    have hlt : j < ops.size := (Array.getElem?_eq_some_iff.1 hj).1
    have := List.all_eq_true.1 hall j (List.mem_range.2 hlt)
    simp only [hj, Bool.and_eq_true] at this
    exact this
  have hgd : od.guard = none := by simpa using hgn
  obtain ⟨x, k, hop⟩ : ∃ x k, od.op = .extract x k := by
    cases ho : od.op <;> simp [ho] at hex
    exact ⟨_, _, rfl⟩
  -- what is ready in the one mode alone waits for d, and d is ready
  have hkey : ∀ (listed : Array Bool) (j : Nat), listed.size = ops.size → j ∈ Region.ready .any ops listed → j ∉ Region.ready .text ops listed → d ∈ Region.ready .text ops listed := by
    intro listed j hsz hj hn
    obtain ⟨h0, oj, hoj, hal⟩ := mem_ready.1 hj
    have h2 := (hst j oj hoj).2
    rw [Array.all_eq_true_iff_forall_mem] at h2
    have hx : ∃ e ∈ oj.after, Region.binds .text e = true ∧ listed.getD e.on false ≠ true := by
      refine Classical.byContradiction fun hno => hn (mem_ready.2 ⟨h0, oj, hoj, fun e he hb => ?_⟩)
      exact Classical.byContradiction fun hne => hno ⟨e, he, hb, hne⟩
    obtain ⟨e, he, hb, hne⟩ := hx
    have h3 := h2 e he
    simp only [Bool.or_eq_true, Bool.and_eq_true, Bool.not_eq_true', beq_iff_eq] at h3
    rcases h3 with (h3 | h3) | ⟨h3, h4⟩
    · exact absurd (hal e he h3) hne
    · rw [hb] at h3; cases h3
    · rw [h3] at hne
      refine mem_ready.2 ⟨getD_in (by rw [hsz]; exact hdl) (by simpa using hne), od, hd, fun e' he' hb' => ?_⟩
      rw [Array.all_eq_true_iff_forall_mem] at h4
      have h5 := h4 e' he'
      simp only [Bool.or_eq_true, Bool.not_eq_true'] at h5
      rcases h5 with h5 | h5
      · rw [hb'] at h5; cases h5
      · rw [Array.any_eq_true'] at h5
        obtain ⟨e'', he'', h6⟩ := h5
        simp only [Bool.and_eq_true, beq_iff_eq] at h6
        rw [← h6.2]
        exact hal e'' he'' h6.1
  intro fuel
  induction fuel with
  | zero =>
    intro listed a w hsz h
    refine ⟨List.eq_nil_iff_forall_not_mem.2 fun j hj => ?_, h.2⟩
    by_cases ht : j ∈ Region.ready .text ops listed
    · rw [h.1] at ht; cases ht
    · have := hkey listed j hsz hj ht; rw [h.1] at this; cases this
  | succ f ih =>
    intro listed a w hsz h
    have hz : ∀ i, (listed.setIfInBounds i true).size = ops.size := fun i => by simpa using hsz
    refine ⟨fun h0 => h.1 (List.eq_nil_iff_forall_not_mem.2 fun j hj => ?_), fun i hi => ?_⟩
    · have := ready_sub hj; rw [h0] at this; cases this
    by_cases ht : i ∈ Region.ready .text ops listed
    · exact wpOp_mono (fun a' w' h' => ih _ a' w' (hz i) h') (h.2 i ht)
    · have hdr := hkey listed i hsz hi ht
      have h1 := h.2 d hdr
      unfold wpOp at h1
      simp only [hd] at h1
      rw [if_pos (by simp [Region.wanted, hgd])] at h1
      rcases h1 with h1 | ⟨_, h1⟩
      case inr => exact absurd h1 onlyN_out
      rcases extract_run (P := P) hop a.eval with ⟨v, hv⟩ | hv
      case inr => exact absurd h1 (hv w a _ _)
      unfold Oper.wp at h1
      rw [hv w] at h1
      simp only [Oper.upon] at h1
      have h2 := ih _ _ _ (hz d) h1
      have hda := ready_sub hdr
      refine (wpAny_first (md := .any) hd hsel (fun c a w => onlyN_panic c a _ w) f listed a w (fun j oj hoj hji hun hno => ?_) hda (.inl ⟨by simp [Region.wanted, hgd], hv⟩) h2).2 i hi
      have h3 := (hst j oj hoj).1
      simp only [Bool.or_eq_true, beq_iff_eq] at h3
      rcases h3 with ((h3 | h3) | h3) | h3
      · exact absurd h3 hji
      · rw [Array.any_eq_true'] at h3
        obtain ⟨e, he, h4⟩ := h3
        simp only [Bool.and_eq_true, beq_iff_eq] at h4
        obtain ⟨_, o', ho', hal⟩ := mem_ready.1 hda
        obtain rfl : od = o' := Option.some.inj (hd.symm.trans ho')
        have h5 := hal e he h4.1
        rw [h4.2, getD_both hun] at h5
        cases h5
      · rw [Array.any_eq_true'] at h3
        obtain ⟨e, he, h4⟩ := h3
        simp only [Bool.and_eq_true, beq_iff_eq] at h4
        exact absurd h4.2 (hno e he h4.1)
      · exact h3

def floatT (ops : Array Oper) (m : Nat) : Bool :=
  Region.noSelect ops && decide (m + 1 < ops.size) && Region.sinkB .text ops (m + 1) && Region.chainB .text ops (m + 1) &&
  lexHeadF .text ops (ops.size - (m + 1)) (m + 1) m 0 ((Array.replicate ops.size false).setIfInBounds m true) &&
  (match ops[m]? with
   | some om => om.after.isEmpty && (List.range (m + 1)).all fun i => i == m || (match ops[i]? with | some o => om.apart ops o | none => true)
   | none => false)

/-- The law. -/
theorem wp_region_late {id : Nat} {Q : Exit → Act → World → Prop} {a : Act} {w : World} {l : List Oper} (m d : Nat) (dm : Tmp) (z : Array Value) (ty : TypeId) (hm : P.follows .mixedOrders = true) (hB : floatT l.toArray m = true) (hD : lateB l.toArray d = true)
    (hom : ∃ om, l[m]? = some om ∧ om.dst = some dm ∧ om.guard = none ∧ ∀ ev w, (execOp ev om).run P w = .ok (.value (.pointer (some ⟨w.heap.size, 0, none⟩))) (w.alloc (.cells z ty)))
    (h : wpStd P l.toArray (fun w' => Below w.heap.size w w') (fun a' => ∀ p w', Made w z ty p w' → wpList P l.toArray (OnlyN Q) (l.drop (m + 1)) (a'.put (some dm) (.pointer (some ⟨p, 0, none⟩))) w') (l.take m) a) : (Code.region id l.toArray true).wp P Q a w := by
  obtain ⟨om, hom, hdm, hgd, hal⟩ := hom
  have hom' : l.toArray[m]? = some om := by simpa using hom
  simp only [floatT, Bool.and_eq_true, decide_eq_true_eq, hom', List.all_eq_true, List.mem_range, Bool.or_eq_true, beq_iff_eq] at hB
  obtain ⟨⟨⟨⟨⟨hsel, hn⟩, hs⟩, hc⟩, hlex⟩, haf, hap⟩ := hB
  have haf' : om.after = #[] := by simpa using haf
  have hn' : m + 1 < l.length := by simpa using hn
  have htl : (l.take m).length = m := by simp; omega
  have hdl : (l.drop (m + 1)).length = l.toArray.size - (m + 1) := by simp
  have inv0 : HeadInv .text l.toArray (m + 1) (Array.replicate l.toArray.size false) :=
    ⟨by simp, fun j oj _ hl => (by rw [getD_replicate_false] at hl; cases hl), fun t _ ht => getD_in (by simpa using ht) (getD_replicate_false _ _)⟩
  have hm0 : (Array.replicate l.toArray.size false).getD m true = false := getD_in (by simp; omega) (getD_replicate_false _ _)
  have hmr : m ∈ Region.ready .text l.toArray (Array.replicate l.toArray.size false) := mem_ready.2 ⟨hm0, om, hom', fun e he => by rw [haf'] at he; simp at he⟩
  have inv1 := inv0.set hmr (by omega : m < m + 1)
  have H := wpAnyS_lex (P := P) (C := fun w' => Below w.heap.size w w') (md := .text) (g := l.toArray.size - (m + 1)) hsel hs hc hn (l.take m) 0 _ a (fun j hj => by
    have hj' : j < m := by rw [htl] at hj; exact hj
    simp [hj']) (by rw [htl]; omega) inv1 (by rw [htl]; exact hlex) h
  refine Code.wp_mono (Q := OnlyN Q) OnlyN.up (wp_region_any hm ?_)
  obtain ⟨od, hod⟩ : ∃ od, l.toArray[d]? = some od := by
    unfold lateB at hD
    cases hx : l.toArray[d]? with
    | none => rw [hx] at hD; cases hD
    | some od => exact ⟨od, rfl⟩
  refine late_any hod (Region.noSelect_spec hsel) hD _ _ _ _ (by simp) ?_
  have := phaseA (P := P) (Q' := OnlyN Q) (md := .text) (g := l.toArray.size - (m + 1)) (W := w) (z := z) (ty := ty) (Region.noSelect_spec hsel) hs hc hn (by omega) hom' hdm hgd haf' (fun i o hi hne ho => by
      have := hap i hi
      rcases this with h | h
      · exact absurd h hne
      · simpa [ho] using h) hal (fun p listed a' w' hw' hL => by
    have := wpAny_of_seq (md := .text) (Q' := OnlyN Q) (l.drop (m + 1)) (m + 1) listed _ w' (fun j => by simp [List.getElem?_drop]) (by rw [hdl]; exact hL.1) (hL.2 p w' hw')
    rwa [hdl] at this) _ _ a { w with drawn := w.drawn + 1 } inv0 hm0 ((Below.refl _ w).drew) H
  rw [htl, show m + 1 + (l.toArray.size - (m + 1)) = l.toArray.size by omega] at this
  exact this
end
end Go.Proofs.YtclainfdeghgnaaGreatDoor.Nm
