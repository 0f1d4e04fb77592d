/- A long number as an int; the widths. -/
import Derived.Test.YtclainfdeghgnaaW16
import Derived.Outline
namespace Go.Proofs.Ytclainfdeghgnaa
open Go.RowKit Go.Proofs.Ytclainfdeghgnaa.Nm

set_option maxHeartbeats 400000 in
theorem toInt_any (z : Int) (hz : z.natAbs ≤ 9223372036854775807) (w : World) :
    Calls Try.prog 108 #[.agg (lv z)] w fun e w' => e = .returned (.int .i64 z) ∧ Below w.heap.size w w' := by
  have HZ := Lib.hid hz
  obtain ⟨m, hm⟩ : ∃ m, m = z.natAbs := ⟨_, rfl⟩
  have HM := Lib.hid hm
  rw [← hm] at hz
  go_enter Try.func108, Try.ntmps108
  go_upto_region 1 with (fail)
  refine wp_world (fun W => W.heap[w.heap.size]? = some (.cells (lv z) 75 (0, 0)) ∧ Below w.heap.size w W) ⟨ha_new rfl, ((Below.refl _ _).alloc (Nat.le_refl _) _)⟩ ?_
  rintro W ⟨h0, hb⟩
  clear hm
  go_wp2_with fail
  go_loopw [4, 3] (fun i n wr => ∃ k : Nat, ∃ q : Nat, k ≤ 64 ∧ i = .int .i64 ((k : Int) - 1) ∧ n = .int .i64 q ∧ Hid (q = m / 10 ^ k) ∧ wr.heap[w.heap.size]? = some (.cells (lv z) 75 (0, 0)) ∧ Below w.heap.size w wr) (fun i _ _ => (intOf i + 1).toNat)
  case atStart => exact ⟨64, 0, by omega, rfl, rfl, Lib.hid (by
    rw [Nat.div_eq_of_lt]
    have h2 : (9223372036854775808 : Nat) < 10 ^ 64 := by decide
    omega), h0, hb⟩
  case round =>
    clear h0 hb
    obtain ⟨k, q, hk, rfl, rfl, hq, h0, hb⟩ := hrel
    by_cases hc : 0 < k
    · obtain ⟨j, rfl⟩ : ∃ j, k = j + 1 := ⟨k - 1, by omega⟩
      have ej : ((j + 1 : Nat) : Int) - 1 = (j : Int) := by omega
      rw [ej]
      clear ej hc
      have ct := lv_cell h0 (i := j) (by omega)
      have dt := dg_lt z.natAbs j
      have hs := div_split m j
      rw [← hq.out, HM.out] at hs
      have hle : z.natAbs / 10 ^ j ≤ z.natAbs := Nat.div_le_self _ _
      rw [← HM.out] at hle
      have hb1 : 10 * q + dg z.natAbs j ≤ m := by rw [← hs, ← HM.out] ; exact Nat.div_le_self _ _
      have HS := Lib.hid hs
      clear hs hle
      go_wp2_with fail
      go_roundw
      case rel => exact ⟨j, 10 * q + dg z.natAbs j, by omega, by go_num, by go_num, Lib.hid (by rw [← HS.out, HM.out]), h0, hb⟩
      case measure => simp [intOf]
    · obtain rfl : k = 0 := by omega
      have HQ := hq.out
      simp only [Nat.pow_zero, Nat.div_one] at HQ
      subst HQ
      have n0 : wr.cell? ⟨w.heap.size, 0, none⟩ = some (.bool (ng z)) := by rw [cell_of_row _ _ _ _ _ _ h0]; exact lv_neg z
      cases hn : ng z
      · rw [hn] at n0
        go_wp2_with fail
        go_ret
        refine ⟨?_, hb⟩
        have h1 := HM.out
        rw [ng_def] at hn
        simp at hn
        rw [show z = (q : Int) by omega]
        rfl
      · rw [hn] at n0
        go_wp2_with fail
        go_ret
        refine ⟨?_, hb⟩
        have h1 := HM.out
        rw [ng_def] at hn
        simp at hn
        rw [show z = -(q : Int) by omega]
        rfl

def wi (b : Int) (s : Bool) : Array Value := #[.int .i64 b, .bool s]
def widthCells : Array Value := #[.int .i64 8, .bool false, .int .i64 16, .bool false, .int .i64 32, .bool false, .int .i64 64, .bool false, .int .i64 8, .bool true, .int .i64 16, .bool true, .int .i64 32, .bool true, .int .i64 64, .bool true]
set_option maxHeartbeats 400000 in
theorem widths_any (w : World) :
    Calls Try.prog 97 #[] w fun e w' => e = .returned (.slice (some ⟨w.heap.size, 0, none⟩) 8 8) ∧ (w'.heap[w.heap.size]? = some (.cells (widthCells) 68 (0, 0)) ∧ Below w.heap.size w w') := by
  go_enter Try.func97, Try.ntmps97
  go_wp2
  go_ret
  exact ⟨rfl, ha_new rfl, (Below.refl _ _).alloc (Nat.le_refl _) _⟩
def wN (k : Nat) : Int := [8, 16, 32, 64, 8, 16, 32, 64].getD k 0
def wS (k : Nat) : Bool := decide (4 ≤ k)
theorem widths0 {w : World} {b k : Nat} {t : TypeId} {fr : Nat × Nat} (hb : w.heap[b]? = some (.cells widthCells t fr)) (hk : k < 8) : w.cell? ⟨b, k * 2, none⟩ = some (.int .i64 (wN k)) := by
  rw [cell_of_row _ _ _ _ _ _ hb]
  match k, hk with
  | 0, _ | 1, _ | 2, _ | 3, _ | 4, _ | 5, _ | 6, _ | 7, _ => rfl
theorem widths1 {w : World} {b k : Nat} {t : TypeId} {fr : Nat × Nat} (hb : w.heap[b]? = some (.cells widthCells t fr)) (hk : k < 8) : w.cell? ⟨b, k * 2 + 1, none⟩ = some (.bool (wS k)) := by
  rw [cell_of_row _ _ _ _ _ _ hb]
  match k, hk with
  | 0, _ | 1, _ | 2, _ | 3, _ | 4, _ | 5, _ | 6, _ | 7, _ => rfl
def isRight (b : Int) : Bool := b == 8 || b == 16 || b == 32 || b == 64
theorem right_of {b : Int} {s : Bool} {k : Nat} (hk : k < 8) (h1 : wN k = b) (_ : wS k = s) : isRight b = true := by
  subst h1
  match k, hk with
  | 0, _ | 1, _ | 2, _ | 3, _ | 4, _ | 5, _ | 6, _ | 7, _ => rfl
theorem right_not {b : Int} {s : Bool} (h : ∀ k, k < 8 → ¬ (wN k = b ∧ wS k = s)) : isRight b = false := by
  rw [Bool.eq_false_iff]
  intro hr
  unfold isRight at hr
  simp only [Bool.or_eq_true, beq_iff_eq] at hr
  rcases hr with ((rfl | rfl) | rfl) | rfl
  · cases s
    · exact h 0 (by decide) ⟨rfl, rfl⟩
    · exact h 4 (by decide) ⟨rfl, rfl⟩
  · cases s
    · exact h 1 (by decide) ⟨rfl, rfl⟩
    · exact h 5 (by decide) ⟨rfl, rfl⟩
  · cases s
    · exact h 2 (by decide) ⟨rfl, rfl⟩
    · exact h 6 (by decide) ⟨rfl, rfl⟩
  · cases s
    · exact h 3 (by decide) ⟨rfl, rfl⟩
    · exact h 7 (by decide) ⟨rfl, rfl⟩

set_option maxHeartbeats 400000 in
theorem right_any (b : Int) (s : Bool) (R : Bool) (HR : Hid (R = isRight b)) (w : World) :
    Calls Try.prog 53 #[.agg (wi b s)] w fun e w' => e = .returned (.bool R) ∧ Below w.heap.size w w' := by
  go_enter Try.func53, Try.ntmps53
  go_upto_region 1 with (fail)
  refine wp_world (fun W => W.heap[w.heap.size]? = some (.cells (wi b s) 68 (0, 0)) ∧ Below w.heap.size w W) ⟨ha_new rfl, ((Below.refl _ _).alloc (Nat.le_refl _) _)⟩ ?_
  rintro W ⟨h0, hb⟩
  go_wp2_with (go_at_call 97; refine (widths_any _).mono ?_)
  rintro e w1 ⟨rfl, h1, hb1⟩
  have lt0 := heap_lt h0
  obtain ⟨g, hg⟩ : ∃ g, g = W.heap.size := ⟨_, rfl⟩
  rw [← hg] at h1 hb1 lt0
  have hb2 : w.heap.size ≤ g := by rw [hg]; exact hb.size
  rw [← hg]
  replace h0 := below_cells hb1 lt0 h0
  replace hb := hb.trans (hb1.mono hb2)
  clear hb1 hg
  go_wp2_with fail
  go_loopw [7] (fun i wr => ∃ k : Nat, k ≤ 8 ∧ i = .int .i64 k ∧ Hid (∀ j, j < k → ¬ (wN j = b ∧ wS j = s)) ∧ wr.heap[w.heap.size]? = some (.cells (wi b s) 68 (0, 0)) ∧ wr.heap[g]? = some (.cells (widthCells) 68 (0, 0)) ∧ Below w.heap.size w wr) (fun i _ => (8 - intOf i).toNat)
  case atStart => exact ⟨0, by omega, rfl, Lib.hid (fun j hj => absurd hj (by omega)), h0, h1, hb⟩
  case round =>
    clear h0 h1 hb
    obtain ⟨k, hk, rfl, HN, h0, h1, hb⟩ := hrel
    by_cases hc : k < 8
    · have a0 := widths0 h1 hc
      have a1 := widths1 h1 hc
      go_upto_region 4 with (fail)
      clear a0 a1
      refine wp_world (fun W => W.heap[w.heap.size]? = some (.cells (wi b s) 68 (0, 0)) ∧ W.heap[g]? = some (.cells (widthCells) 68 (0, 0)) ∧ W.heap[wr.heap.size]? = some (.cells (wi (wN k) (wS k)) 68 (0, 0)) ∧ Below w.heap.size w W) ⟨ha_old h0, ha_old h1, ha_new rfl, hb.alloc hb.size _⟩ ?_
      clear h0 h1 hb
      rintro W3 ⟨h0, h1, h2, hb⟩
      have b0 : W3.cell? ⟨w.heap.size, 0, none⟩ = some (.int .i64 b) := by rw [cell_of_row _ _ _ _ _ _ h0]; rfl
      have b1 : W3.cell? ⟨w.heap.size, 1, none⟩ = some (.bool s) := by rw [cell_of_row _ _ _ _ _ _ h0]; rfl
      have c0 : W3.cell? ⟨wr.heap.size, 0, none⟩ = some (.int .i64 (wN k)) := by rw [cell_of_row _ _ _ _ _ _ h2]; rfl
      have c1 : W3.cell? ⟨wr.heap.size, 1, none⟩ = some (.bool (wS k)) := by rw [cell_of_row _ _ _ _ _ _ h2]; rfl
      clear h2
      by_cases he : wN k = b ∧ wS k = s
      · obtain ⟨he1, he2⟩ := he
        have HRK := Lib.hid (right_of hc he1 he2)
        rw [he1] at c0
        rw [he2] at c1
        clear he1 he2
        go_wp2_with fail
        go_ret
        exact ⟨by rw [HR.out, HRK.out]; rfl, hb⟩
      · have HE := Lib.hid he
        go_wp2_with fail
        · rename_i e1 e2
          exact absurd ⟨e1, e2⟩ HE.out
        all_goals
          go_roundw
          case rel =>
            refine ⟨k + 1, by omega, by go_num, Lib.hid ?_, h0, h1, hb⟩
            intro i hi
            rcases Nat.lt_or_ge i k with h | h
            · exact HN.out i h
            · obtain rfl : i = k := by omega
              exact HE.out
          case measure => simp [intOf]; omega
    · obtain rfl : k = 8 := by omega
      go_wp2_with fail
      go_ret
      refine ⟨?_, hb⟩
      rw [HR.out, right_not HN.out]
      rfl

def isModeL (l : List UInt8) : Bool := l == [116, 114, 97, 112] || l == [119, 114, 97, 112] || l == [99, 108, 97, 109, 112]
def modeTexts : List ByteArray := [⟨#[116, 114, 97, 112]⟩, ⟨#[119, 114, 97, 112]⟩, ⟨#[99, 108, 97, 109, 112]⟩]
theorem bytes_eq {a : ByteArray} {l : Array UInt8} : a = ⟨l⟩ ↔ a.data.toList = l.toList := by
  constructor
  · rintro rfl; rfl
  · intro h
    cases a with
    | mk d => congr 1; exact Array.toList_inj.1 h
theorem isMode_mem (m : ByteArray) : Lib.containsS modeTexts m = isModeL m.data.toList := by
  rw [Bool.eq_iff_iff, Lib.containsS_iff]
  unfold modeTexts isModeL
  simp only [List.mem_cons, List.not_mem_nil, or_false, bytes_eq, Bool.or_eq_true, beq_iff_eq, or_assoc]
set_option maxHeartbeats 400000 in
theorem isMode_any (m : ByteArray) (R : Bool) (HR : Hid (R = isModeL m.data.toList)) (w : World) :
    Calls Try.prog 54 #[.string m] w fun e w' => e = .returned (.bool R) ∧ Below w.heap.size w w' := by
  go_enter Try.func54, Try.ntmps54
  go_wp2_with (go_at_call 55; refine (Try.slices_Contains_string w.heap.size 0 3 3 modeTexts m _ (by decide) (by decide) ?cells).mono ?_)
  case cells =>
    intro j hj
    rw [cell_of_row _ _ _ _ _ _ (ha_new rfl)]
    match j, hj with
    | 0, _ | 1, _ | 2, _ => rfl
  rintro e w1 ⟨rfl, rfl⟩
  rw [show modeTexts.take 3 = modeTexts from rfl, isMode_mem, ← HR.out]
  go_wp2_with fail
  go_ret
  exact ⟨rfl, (Below.refl _ _).alloc (Nat.le_refl _) _⟩
end Go.Proofs.Ytclainfdeghgnaa
