/- The first number that is not 0 (cmp.Or); orders as numbers. -/
import Derived.Test.YtokmaehefenpmaaDoorW2
import Derived.Test.YtokmaehefenpmaaDoorTyOrd
import Derived.Test.YtokmaehefenpmaaDoorSh2
namespace Go.Proofs.YtokmaehefenpmaaDoor
open Go.RowKit Go.Proofs.YtokmaehefenpmaaDoor.Nm
set_option linter.unusedSimpArgs false
def sg : Ordering → Int | .lt => -1 | .eq => 0 | .gt => 1
theorem sg_int (x y : Int) : Lib.compareInt x y = sg (cI x y) := by
  unfold Lib.compareInt cI
  by_cases h : x < y
  · rw [if_pos h, if_pos h]; rfl
  · rw [if_neg h, if_neg h]
    by_cases h2 : y < x
    · rw [if_pos h2, if_pos h2]; rfl
    · rw [if_neg h2, if_neg h2]; rfl
theorem sg_list : ∀ x y : List UInt8, Lib.compareBytes x y = sg (if x < y then .lt else if y < x then .gt else .eq)
  | [], [] => by simp [Lib.compareBytes, sg]
  | [], _ :: _ => by simp [Lib.compareBytes, sg]
  | _ :: _, [] => by simp [Lib.compareBytes, sg]
  | a :: x, b :: y => by
    rw [Lib.compareBytes, sg_list x y]
    simp only [List.cons_lt_cons_iff]
    by_cases h1 : a < b
    · simp [h1, sg]
    · by_cases h2 : b < a
      · have h3 : ¬ a = b := fun e => by subst e; exact h1 h2
        simp [h1, h2, h3, sg]
      · have h3 : a = b := UInt8.le_antisymm (UInt8.not_lt.1 h2) (UInt8.not_lt.1 h1)
        subst h3
        simp [h1]
theorem sg_bytes (x y : ByteArray) : Lib.compareBytes x.data.toList y.data.toList = sg (cB x y) := sg_list _ _
theorem cmpI_any (x y : Int) (w : World) : Calls Tryd.prog 77 #[.int .i64 x, .int .i64 y] w fun e w' => e = .returned (.int .i64 (sg (cI x y))) ∧ Below w.heap.size w w' := (Tryd.cmp_Compare_int x y w).mono fun e w' h => ⟨by rw [h.1, sg_int], by rw [h.2]; exact Below.refl _ _⟩
theorem cmpB_any (x y : ByteArray) (w : World) : Calls Tryd.prog 78 #[.string x, .string y] w fun e w' => e = .returned (.int .i64 (sg (cB x y))) ∧ Below w.heap.size w w' := (Tryd.strings_Compare x y w).mono fun e w' h => ⟨by rw [h.1, sg_bytes], by rw [h.2]; exact Below.refl _ _⟩
def orI : List Int → Int
  | [] => 0
  | a :: l => if a = 0 then orI l else a
theorem sg_then3 (a b c d : Ordering) : sg (a.then (b.then (c.then d))) = if orI [sg a, sg b, sg c] = 0 then sg d else orI [sg a, sg b, sg c] := by
  cases a <;> cases b <;> cases c <;> rfl
theorem run_bs61 (a b c : Int) (w : World) : (Instr.buildSlice 61 3 #[(0, .int .i64 a), (1, .int .i64 b), (2, .int .i64 c)]).run Tryd.prog w = .ok (.slice (some ⟨w.heap.size, 0, none⟩) 3 3) (w.alloc (.cells #[.int .i64 a, .int .i64 b, .int .i64 c] 3)) := by kernel_rfl
theorem ex_bs61 {ev : Operand → Value} {o : Oper} {w : World} (x y z : Operand) (ho : o.op = .buildSlice 61 3 #[(0, x), (1, y), (2, z)]) {a b c : Int} (hx : ev x = .int .i64 a) (hy : ev y = .int .i64 b) (hz : ev z = .int .i64 c) :
    (execOp ev o).run Tryd.prog w = .ok (.value (.slice (some ⟨w.heap.size, 0, none⟩) 3 3)) (w.alloc (.cells #[.int .i64 a, .int .i64 b, .int .i64 c] 3)) := by
  unfold execOp
  have := run_bs61 a b c w
  simp [ho, hx, hy, hz, this, Result.andThen]
theorem one61 {w : World} {p : Nat} {is : List Int} {t : TypeId} {fr : Nat × Nat} (h : w.heap[p]? = some (.cells (is.map (.int .i64)).toArray t fr)) {j : Nat} {v : Int} (hv : is[j]? = some v) : OneAt w 3 ⟨p, j, none⟩ (.int .i64 v) :=
  one_of u3 rfl (by rw [cell_of_row _ _ _ _ _ _ h]; simp [hv])
set_option maxHeartbeats 2000000 in
set_option maxRecDepth 100000 in
theorem Or_any (is : List Int) (w : World) (p : Nat) (t : TypeId) (fr : Nat × Nat) (h : w.heap[p]? = some (.cells (is.map (.int .i64)).toArray t fr)) (l : Nat) (hl : is.length = l) (hm : l ≤ 1000) : Calls Tryd.prog 76 #[.slice (some ⟨p, 0, none⟩) l l] w fun e w' => e = .returned (.int .i64 (orI is)) ∧ Below w.heap.size w w' := by
  have HP := Lib.hid h
  have HL := Lib.hid hl
  clear h hl
  have hb := Below.refl w.heap.size w
  go_enter Tryd.func76, Tryd.ntmps76
  go_wp2_with fail
  go_loopw [8] (fun i wr => ∃ j : Nat, j ≤ l ∧ i = .int .i64 (j : Int) ∧ Hid (orI is = orI (is.drop j)) ∧ Below w.heap.size w wr) (fun i _ => l - (intOf i).toNat)
  case atStart => exact ⟨0, by omega, rfl, Lib.hid rfl, hb⟩
  case round =>
    clear hb
    obtain ⟨j, hj, rfl, HR, hb⟩ := hrel
    by_cases hlt : j < l
    · have hltI : (j : Int) < (l : Int) := by omega
      obtain ⟨v, hv⟩ : ∃ v, is[j]? = some v := ⟨_, List.getElem?_eq_getElem (by rw [HL.out]; exact hlt)⟩
      have hone := one61 (below_look hb HP.out) hv
      have hd : is.drop j = v :: is.drop (j + 1) := by
        obtain ⟨hh, he⟩ := List.getElem?_eq_some_iff.1 hv
        rw [List.drop_eq_getElem_cons hh, he]
      by_cases h0 : v = 0
      · have e1 : (v != 0) = false := by simp [h0]
        have HR2 : Hid (orI is = orI (is.drop (j + 1))) := Lib.hid (by rw [HR.out, hd, orI, if_pos h0])
        clear hv hd HR h0
        go_upto_region 4 with (fail)
        apply wp_region_lit
        (with_reducible refine wl_k ?_ ?_); exact rfl; intro K hK; go_simp; refine hK _ ?_; clear hK K
        (first | ((with_reducible apply wl_oneG); exact rfl; exact rfl; first | exact f0 (by with_reducible assumption) | exact f1 (by with_reducible assumption) | exact f2 (by with_reducible assumption) | exact f3 (by with_reducible assumption) | with_reducible assumption | exact g22 (by with_reducible assumption) | exact g25 (by with_reducible assumption)) | ((with_reducible apply wl_rowG); exact rfl; exact rfl; first | with_reducible assumption | exact RowK.now (by with_reducible assumption) | exact f4 (by with_reducible assumption)))
        (with_reducible refine wl_k ?_ ?_); exact rfl; intro K hK; go_simp; refine hK _ ?_; clear hK K
        clear hone
        go_wp2_with fail
        go_roundw
        case rel => exact ⟨j + 1, by omega, by go_num, HR2, hb⟩
        case measure => simp [intOf]; omega
      · have e1 : (v != 0) = true := by simp [h0]
        have HF : Hid (orI is = v) := Lib.hid (by rw [HR.out, hd, orI, if_neg h0])
        clear hv hd HR h0
        go_upto_region 4 with (fail)
        apply wp_region_lit
        (with_reducible refine wl_k ?_ ?_); exact rfl; intro K hK; go_simp; refine hK _ ?_; clear hK K
        (first | ((with_reducible apply wl_oneG); exact rfl; exact rfl; first | exact f0 (by with_reducible assumption) | exact f1 (by with_reducible assumption) | exact f2 (by with_reducible assumption) | exact f3 (by with_reducible assumption) | with_reducible assumption | exact g22 (by with_reducible assumption) | exact g25 (by with_reducible assumption)) | ((with_reducible apply wl_rowG); exact rfl; exact rfl; first | with_reducible assumption | exact RowK.now (by with_reducible assumption) | exact f4 (by with_reducible assumption)))
        (with_reducible refine wl_k ?_ ?_); exact rfl; intro K hK; go_simp; refine hK _ ?_; clear hK K
        clear hone
        go_wp2_with fail
        go_ret
        exact ⟨ret_int HF.out.symm, hb⟩
    · have hltI : ¬ (j : Int) < (l : Int) := by omega
      have HF : Hid (orI is = 0) := Lib.hid (by rw [HR.out, List.drop_of_length_le (by rw [HL.out]; omega), orI])
      clear HR
      go_wp2_with fail
      go_ret
      exact ⟨ret_int HF.out.symm, hb⟩
end Go.Proofs.YtokmaehefenpmaaDoor
