/- The decimal text of a long number. -/
import Derived.Test.YtclainfdeghgnaaW14
import Derived.Outline
namespace Go.Proofs.Ytclainfdeghgnaa
open Go.RowKit Go.Proofs.Ytclainfdeghgnaa.Nm

def dch (d : Nat) : UInt8 := UInt8.ofNat (48 + d)
theorem dch_nat {d : Nat} (h : d < 10) : (dch d).toNat = 48 + d := by unfold dch; simp; omega
def dtxt (n : Nat) : Nat → List UInt8
  | 0 => []
  | k + 1 => dch (dg n k) :: dtxt n k
theorem dtxt_length (n k : Nat) : (dtxt n k).length = k := by induction k with
  | zero => rfl
  | succ k ih => simp [dtxt, ih]
def dlen (n : Nat) : Nat := if n < 10 then 1 else dlen (n / 10) + 1
theorem dlen_small {n : Nat} (h : n < 10) : dlen n = 1 := by rw [dlen, if_pos h]
theorem dlen_big {n : Nat} (h : ¬ n < 10) : dlen n = dlen (n / 10) + 1 := by rw [dlen, if_neg h]
theorem dg_succ (n t : Nat) : dg n (t + 1) = dg (n / 10) t := by
  unfold dg; rw [Nat.pow_succ, Nat.mul_comm, ← Nat.div_div_eq_div_mul]
theorem dlen_of {n t : Nat} (h1 : n < 10 ^ (t + 1)) (h2 : t = 0 ∨ dg n t ≠ 0) : dlen n = t + 1 := by
  induction t generalizing n with
  | zero => exact dlen_small (by simpa using h1)
  | succ t ih =>
    have h3 : dg n (t + 1) ≠ 0 := by rcases h2 with h | h
                                     · omega
                                     · exact h
    have h4 : ¬ n < 10 := by
      intro h
      apply h3
      rw [dg_succ, Nat.div_eq_of_lt h]
      simp [dg]
    rw [dlen_big h4, ih (by rw [Nat.pow_succ] at h1; omega) (Or.inr (by rw [← dg_succ]; exact h3))]
theorem dlen_pos (n : Nat) : 1 ≤ dlen n := by rw [dlen]; split <;> omega
theorem lt_dlen (n : Nat) : n < 10 ^ dlen n := by
  induction n using Nat.strongRecOn with
  | ind n ih =>
    by_cases h : n < 10
    · rw [dlen_small h]; omega
    · rw [dlen_big h, Nat.pow_succ]; have := ih (n / 10) (by omega); omega
theorem dlen_le {n k : Nat} (h : n < 10 ^ (k + 1)) : dlen n ≤ k + 1 := by
  induction k generalizing n with
  | zero => rw [dlen_small (by simpa using h)]; omega
  | succ k ih =>
    by_cases h10 : n < 10
    · rw [dlen_small h10]; omega
    · rw [dlen_big h10]
      have := ih (n := n / 10) (by rw [Nat.pow_succ] at h; omega)
      omega
def sgn (z : Int) : List UInt8 := if ng z then [45] else []
def txt (z : Int) : List UInt8 := sgn z ++ dtxt z.natAbs (dlen z.natAbs)

theorem lv_cell {w : World} {b : Nat} {z : Int} {t : TypeId} {fr : Nat × Nat} (hb : w.heap[b]? = some (.cells (lv z) t fr)) {i : Nat} (hi : i < 64) : w.cell? ⟨b, 1 + i, none⟩ = some (.int .u8 (dg z.natAbs i)) := by
  rw [cell_of_row _ _ _ _ _ _ hb]
  unfold lv
  rw [Array.getElem?_append_right (by simp), show 1 + i - #[Value.bool (ng z)].size = i by simp]
  exact row_get _ _ hi
theorem txt_step {n k : Nat} {l : List UInt8} {T : List UInt8} (h : l ++ dtxt n (k + 1) = T) : (l ++ [dch (dg n k)]) ++ dtxt n k = T := by rw [← h]; simp [dtxt]
theorem bytes_step (l : List UInt8) (n k : Nat) : Lib.byteCells l ++ [Value.int .u8 (48 + dg n k : Int)] = Lib.byteCells (l ++ [dch (dg n k)]) := by
  simp only [Lib.byteCells, List.map_append, List.map_cons, List.map_nil]
  rw [dch_nat (dg_lt _ _)]; rfl

set_option maxHeartbeats 400000 in
theorem text_any (z : Int) (hz : z.natAbs < 10 ^ 64) (w : World) :
    Calls Try.prog 61 #[.agg (lv z)] w fun e w' => e = .returned (.string ⟨(txt z).toArray⟩) ∧ Below w.heap.size w w' := by
  have HZ := Lib.hid hz
  clear hz
  cases hn : ng z
  · go_enter Try.func61, Try.ntmps61
    go_upto_region 2 with (fail)
    refine wp_world (fun W => W.heap[w.heap.size]? = some (.cells (lv z) 75 (0, 0)) ∧ Hid (Lib.IsBuilder 116 5 (w.heap.size + 1) (w.heap.size + 1) [] W) ∧ Below w.heap.size w W) ⟨ha_old (ha_new rfl), Lib.hid (by have := Lib.fresh_isBuilder 116 5 (w.alloc (Obj.cells (lv z) 75)); simpa using this), (((Below.refl _ _).alloc (Nat.le_refl _) _).alloc (by simp) _)⟩ ?_
    rintro W ⟨h0, hB, hb⟩
    have n0 : W.cell? ⟨w.heap.size, 0, none⟩ = some (.bool (ng z)) := by rw [cell_of_row _ _ _ _ _ _ h0]; exact lv_neg z
    rw [hn] at n0
    have HB : Hid (Lib.IsBuilder 116 5 (w.heap.size + 1) (w.heap.size + 1) (Lib.byteCells (sgn z)) W) := Lib.hid (by unfold sgn; rw [hn]; exact hB.out)
    clear hB
    go_wp2_with fail
    clear n0
    go_loopw [4] (fun i wr => ∃ t : Nat, t < 64 ∧ i = .int .i64 (t : Int) ∧ Hid (z.natAbs < 10 ^ (t + 1)) ∧ wr.heap[w.heap.size]? = some (.cells (lv z) 75 (0, 0)) ∧ Hid (Lib.IsBuilder 116 5 (w.heap.size + 1) (w.heap.size + 1) (Lib.byteCells (sgn z)) wr) ∧ Below w.heap.size w wr) (fun i _ => (intOf i).toNat)
    case atStart => exact ⟨63, by omega, rfl, HZ, h0, HB, hb⟩
    case round =>
      clear h0 HB hb
      obtain ⟨t, ht, rfl, hl, h0, HB, hb⟩ := hrel
      have ct := lv_cell h0 ht
      have dt := dg_lt z.natAbs t
      by_cases hc : 0 < t ∧ dg z.natAbs t = 0
      · obtain ⟨hc1, hc2⟩ := hc
        rw [hc2] at ct
        go_wp2_with fail
        go_roundw
        case rel =>
          refine ⟨t - 1, by omega, by go_num, Lib.hid ?_, h0, HB, hb⟩
          have h1 := mod_succ z.natAbs t
          rw [hc2, Nat.mod_eq_of_lt hl.out] at h1
          have h3 := Nat.mod_lt z.natAbs (p10 t)
          have : t - 1 + 1 = t := by omega
          rw [this]
          omega
        case measure => simp [intOf]; omega
      · have hlen : dlen z.natAbs = t + 1 := dlen_of hl.out (by omega)
        have HT : Hid (sgn z ++ dtxt z.natAbs (t + 1) = txt z) := Lib.hid (by unfold txt; rw [hlen])
        have hsl : (sgn z).length ≤ 1 := by unfold sgn; split <;> simp
        have hdone : ∀ (P : Prop), (0 < t → dg z.natAbs t ≠ 0 → P) → (t = 0 → P) → P := by
          intro P p1 p2
          rcases Nat.eq_zero_or_pos t with h | h
          · exact p2 h
          · exact p1 h (fun e => hc ⟨h, e⟩)
        clear hl hlen hc
        generalize hD : dg z.natAbs t = D at ct dt hdone
        clear hD
        apply hdone
        all_goals
          intros
          (try subst t)
          go_wp2_with fail
          clear ct dt hdone
          (first | rw [show ((D : Int) == 0) = false from by assumption] | skip)
          go_loopw [4] (fun i wr => ∃ k : Nat, ∃ l : List UInt8, k ≤ 64 ∧ i = .int .i64 ((k : Int) - 1) ∧ Hid (l ++ dtxt z.natAbs k = txt z) ∧ l.length + k ≤ 65 ∧ wr.heap[w.heap.size]? = some (.cells (lv z) 75 (0, 0)) ∧ Hid (Lib.IsBuilder 116 5 (w.heap.size + 1) (w.heap.size + 1) (Lib.byteCells l) wr) ∧ Below w.heap.size w wr) (fun i _ => (intOf i + 1).toNat)
          case atStart => exact ⟨_ + 1, sgn z, by omega, by first | rfl | (congr 1; omega), HT, by omega, h0, HB, hb⟩
          case round =>
            clear HT h0 HB hb hsl ht
            obtain ⟨k, l, hk, rfl, HT, hlk, h0, HB, hb⟩ := hrel
            by_cases hc : 0 < k
            · obtain ⟨j, rfl⟩ : ∃ j, k = j + 1 := ⟨k - 1, by omega⟩
              have ej : ((j + 1 : Nat) : Int) - 1 = (j : Int) := by omega
              rw [ej]
              clear ej hc
              have ct := lv_cell h0 (i := j) (by omega)
              have dt := dg_lt z.natAbs j
              have hlt0 := heap_lt h0
              have hbs := hb.size
              go_wp2_with (go_at_call 92; refine (writeByte_any (w.heap.size + 1) (w.heap.size + 1) _ _ _ HB.out (by simp [Lib.byteCells_length]; omega) (by omega)).mono ?_)
              rintro e w2 ⟨rfl, hB1, hb1⟩
              rw [bytes_step] at hB1
              replace h0 := below_cells hb1 (by omega) h0
              replace hb := hb.trans (hb1.mono (by omega))
              clear HB
              have HB := Lib.hid (show Lib.IsBuilder 116 5 (w.heap.size + 1) (w.heap.size + 1) (Lib.byteCells (l ++ [dch (dg z.natAbs j)])) w2 from Or.inr hB1)
              clear hB1 hb1 ct
              go_wp2_with fail
              go_roundw
              case rel => exact ⟨j, l ++ [dch (dg z.natAbs j)], by omega, by go_num, Lib.hid (txt_step HT.out), by simp; omega, h0, HB, hb⟩
              case measure => simp [intOf]
            · obtain rfl : k = 0 := by omega
              have hlt0 := heap_lt h0
              go_wp2_with (go_at_call 93; refine (Try.Builder_String_any (w.heap.size + 1) (w.heap.size + 1) _ _ HB.out (by omega)).mono ?_)
              rintro e w2 ⟨rfl, hb1⟩
              go_wp2_with fail
              go_ret
              refine ⟨?_, hb.trans (hb1.mono (by omega))⟩
              have := HT.out
              simp only [dtxt, List.append_nil] at this
              rw [this]
              rfl
  · go_enter Try.func61, Try.ntmps61
    go_upto_region 2 with (fail)
    refine wp_world (fun W => W.heap[w.heap.size]? = some (.cells (lv z) 75 (0, 0)) ∧ Hid (Lib.IsBuilder 116 5 (w.heap.size + 1) (w.heap.size + 1) [] W) ∧ Below w.heap.size w W) ⟨ha_old (ha_new rfl), Lib.hid (by have := Lib.fresh_isBuilder 116 5 (w.alloc (Obj.cells (lv z) 75)); simpa using this), (((Below.refl _ _).alloc (Nat.le_refl _) _).alloc (by simp) _)⟩ ?_
    rintro W ⟨h0, hB, hb⟩
    have n0 : W.cell? ⟨w.heap.size, 0, none⟩ = some (.bool (ng z)) := by rw [cell_of_row _ _ _ _ _ _ h0]; exact lv_neg z
    rw [hn] at n0
    go_wp2_with (go_at_call 92; refine (writeByte_any (w.heap.size + 1) (w.heap.size + 1) _ _ _ hB.out (by simp) (by have := heap_lt h0; omega)).mono ?_)
    rintro e w1 ⟨rfl, hB1, hb1⟩
    have HB : Hid (Lib.IsBuilder 116 5 (w.heap.size + 1) (w.heap.size + 1) (Lib.byteCells (sgn z)) w1) := Lib.hid (by unfold sgn; rw [hn]; exact Or.inr hB1)
    have lt0 := heap_lt h0
    replace h0 := below_cells hb1 (by omega) h0
    replace hb := hb.trans (hb1.mono (by omega))
    clear hB hB1 n0 hb1 lt0
    go_wp2_with fail
    go_loopw [4] (fun i wr => ∃ t : Nat, t < 64 ∧ i = .int .i64 (t : Int) ∧ Hid (z.natAbs < 10 ^ (t + 1)) ∧ wr.heap[w.heap.size]? = some (.cells (lv z) 75 (0, 0)) ∧ Hid (Lib.IsBuilder 116 5 (w.heap.size + 1) (w.heap.size + 1) (Lib.byteCells (sgn z)) wr) ∧ Below w.heap.size w wr) (fun i _ => (intOf i).toNat)
    case atStart => exact ⟨63, by omega, rfl, HZ, h0, HB, hb⟩
    case round =>
      clear h0 HB hb
      obtain ⟨t, ht, rfl, hl, h0, HB, hb⟩ := hrel
      have ct := lv_cell h0 ht
      have dt := dg_lt z.natAbs t
      by_cases hc : 0 < t ∧ dg z.natAbs t = 0
      · obtain ⟨hc1, hc2⟩ := hc
        rw [hc2] at ct
        go_wp2_with fail
        go_roundw
        case rel =>
          refine ⟨t - 1, by omega, by go_num, Lib.hid ?_, h0, HB, hb⟩
          have h1 := mod_succ z.natAbs t
          rw [hc2, Nat.mod_eq_of_lt hl.out] at h1
          have h3 := Nat.mod_lt z.natAbs (p10 t)
          have : t - 1 + 1 = t := by omega
          rw [this]
          omega
        case measure => simp [intOf]; omega
      · have hlen : dlen z.natAbs = t + 1 := dlen_of hl.out (by omega)
        have HT : Hid (sgn z ++ dtxt z.natAbs (t + 1) = txt z) := Lib.hid (by unfold txt; rw [hlen])
        have hsl : (sgn z).length ≤ 1 := by unfold sgn; split <;> simp
        have hdone : ∀ (P : Prop), (0 < t → dg z.natAbs t ≠ 0 → P) → (t = 0 → P) → P := by
          intro P p1 p2
          rcases Nat.eq_zero_or_pos t with h | h
          · exact p2 h
          · exact p1 h (fun e => hc ⟨h, e⟩)
        clear hl hlen hc
        generalize hD : dg z.natAbs t = D at ct dt hdone
        clear hD
        apply hdone
        all_goals
          intros
          (try subst t)
          go_wp2_with fail
          clear ct dt hdone
          (first | rw [show ((D : Int) == 0) = false from by assumption] | skip)
          go_loopw [4] (fun i wr => ∃ k : Nat, ∃ l : List UInt8, k ≤ 64 ∧ i = .int .i64 ((k : Int) - 1) ∧ Hid (l ++ dtxt z.natAbs k = txt z) ∧ l.length + k ≤ 65 ∧ wr.heap[w.heap.size]? = some (.cells (lv z) 75 (0, 0)) ∧ Hid (Lib.IsBuilder 116 5 (w.heap.size + 1) (w.heap.size + 1) (Lib.byteCells l) wr) ∧ Below w.heap.size w wr) (fun i _ => (intOf i + 1).toNat)
          case atStart => exact ⟨_ + 1, sgn z, by omega, by first | rfl | (congr 1; omega), HT, by omega, h0, HB, hb⟩
          case round =>
            clear HT h0 HB hb hsl ht
            obtain ⟨k, l, hk, rfl, HT, hlk, h0, HB, hb⟩ := hrel
            by_cases hc : 0 < k
            · obtain ⟨j, rfl⟩ : ∃ j, k = j + 1 := ⟨k - 1, by omega⟩
              have ej : ((j + 1 : Nat) : Int) - 1 = (j : Int) := by omega
              rw [ej]
              clear ej hc
              have ct := lv_cell h0 (i := j) (by omega)
              have dt := dg_lt z.natAbs j
              have hlt0 := heap_lt h0
              have hbs := hb.size
              go_wp2_with (go_at_call 92; refine (writeByte_any (w.heap.size + 1) (w.heap.size + 1) _ _ _ HB.out (by simp [Lib.byteCells_length]; omega) (by omega)).mono ?_)
              rintro e w2 ⟨rfl, hB1, hb1⟩
              rw [bytes_step] at hB1
              replace h0 := below_cells hb1 (by omega) h0
              replace hb := hb.trans (hb1.mono (by omega))
              clear HB
              have HB := Lib.hid (show Lib.IsBuilder 116 5 (w.heap.size + 1) (w.heap.size + 1) (Lib.byteCells (l ++ [dch (dg z.natAbs j)])) w2 from Or.inr hB1)
              clear hB1 hb1 ct
              go_wp2_with fail
              go_roundw
              case rel => exact ⟨j, l ++ [dch (dg z.natAbs j)], by omega, by go_num, Lib.hid (txt_step HT.out), by simp; omega, h0, HB, hb⟩
              case measure => simp [intOf]
            · obtain rfl : k = 0 := by omega
              have hlt0 := heap_lt h0
              go_wp2_with (go_at_call 93; refine (Try.Builder_String_any (w.heap.size + 1) (w.heap.size + 1) _ _ HB.out (by omega)).mono ?_)
              rintro e w2 ⟨rfl, hb1⟩
              go_wp2_with fail
              go_ret
              refine ⟨?_, hb.trans (hb1.mono (by omega))⟩
              have := HT.out
              simp only [dtxt, List.append_nil] at this
              rw [this]
              rfl
end Go.Proofs.Ytclainfdeghgnaa
