/- The two rows of a match as makeSlice leaves them. -/
import Derived.Test.YtokmaehefenpmaaDoorM2
namespace Go.Proofs.YtokmaehefenpmaaDoor
open Go.RowKit Go.Proofs.YtokmaehefenpmaaDoor.Nm
theorem zeroTy_at (w : World) (D : Nat → Prop) : TyAt w D ((none : Option Ty).getD zeroTy) (cell4 0 ⟨#[]⟩ 0 none 0 0) := TyAt.of (by rfl) (by rfl) (Nat.zero_le _) (TysAt.nil w D)
theorem u70 : Tryd.prog.underlying 70 = some (.slice 4) := by kernel_rfl
theorem info4b : (Tryd.prog.info? 4).map (fun i => (i.zero, i.size, i.bytes)) = some (some (.bool false), 1, 1) := by kernel_rfl
theorem run_make22 (w : World) (n : Nat) (hn : n ≤ 60) : (Instr.makeSlice 22 (.int .i64 (n : Int)) (.int .i64 (n : Int))).run Tryd.prog w = .ok (.slice (some ⟨w.heap.size, 0, none⟩) n n) (w.alloc (.cells (madeCells (cell4 0 ⟨#[]⟩ 0 none 0 0) (n * 4)) 24)) := by
  obtain ⟨i0, hi, hz0, hz1, hz2⟩ := info_parts info24b
  have := run_make (P := Tryd.prog) w 22 24 i0 _ u22 hi hz0 .i64 .i64 (n : Int) (n : Int) (by omega) (by omega) (by rw [hz2]; omega) (by omega)
  rw [hz1] at this
  simpa [Value.cells] using this
theorem run_make70 (w : World) (n : Nat) (hn : n ≤ 60) : (Instr.makeSlice 70 (.int .i64 (n : Int)) (.int .i64 (n : Int))).run Tryd.prog w = .ok (.slice (some ⟨w.heap.size, 0, none⟩) n n) (w.alloc (.cells (madeCells #[.bool false] n) 4)) := by
  obtain ⟨i0, hi, hz0, hz1, hz2⟩ := info_parts info4b
  have := run_make (P := Tryd.prog) w 70 4 i0 _ u70 hi hz0 .i64 .i64 (n : Int) (n : Int) (by omega) (by omega) (by rw [hz2]; omega) (by omega)
  rw [hz1] at this
  simpa [Value.cells] using this
theorem made4_get {n m : Nat} (h : m < n * 4) : (madeCells (cell4 0 ⟨#[]⟩ 0 none 0 0) (n * 4))[m]? = some ((cell4 0 ⟨#[]⟩ 0 none 0 0)[m % 4]!) := by
  unfold madeCells
  rw [Array.getElem?_map, Array.getElem?_range, if_pos h]
  rfl
theorem made4 {n i : Nat} (hi : i < n) : (madeCells (cell4 0 ⟨#[]⟩ 0 none 0 0) (n * 4)).extract (i * 4) (i * 4 + 4) = cell4 0 ⟨#[]⟩ 0 none 0 0 := by
  apply Array.ext_getElem?
  intro m
  rw [Array.getElem?_extract, size_madeCells]
  by_cases hm : m < 4
  · rw [if_pos (by omega), made4_get (by omega), show (i * 4 + m) % 4 = m by omega]
    match m, hm with
    | 0, _ => rfl
    | 1, _ => rfl
    | 2, _ => rfl
    | 3, _ => rfl
  · rw [if_neg (by omega)]
    exact (Array.getElem?_eq_none (by show (cell4 0 ⟨#[]⟩ 0 none 0 0).size ≤ m; rw [cell4_size]; omega)).symm
theorem made1 {n i : Nat} (hi : i < n) : (madeCells #[.bool false] n)[i]? = some (.bool false) := by
  unfold madeCells
  rw [Array.getElem?_map, Array.getElem?_range, if_pos hi]
  simp [Nat.mod_one]
/-- Nothing is known yet. -/
theorem MSt.made {w : World} {g1 g2 n : Nat} (hne : g1 ≠ g2) (h1 : w.heap[g1]? = some (.cells (madeCells (cell4 0 ⟨#[]⟩ 0 none 0 0) (n * 4)) 24 (0, 0))) (h2 : w.heap[g2]? = some (.cells (madeCells #[.bool false] n) 4 (0, 0))) : MSt w g1 g2 (List.replicate n none) := by
  refine ⟨hne, ⟨_, h1, by rw [size_madeCells, List.length_replicate], fun i o ho => ?_⟩, ⟨_, h2, by rw [size_madeCells, List.length_replicate], fun i o ho => ?_⟩⟩
  · obtain ⟨hl, rfl⟩ : i < n ∧ o = none := by
      rw [List.getElem?_replicate] at ho
      split at ho
      · cases ho; exact ⟨by assumption, rfl⟩
      · cases ho
    exact ⟨_, made4 hl, zeroTy_at _ _⟩
  · obtain ⟨hl, rfl⟩ : i < n ∧ o = none := by
      rw [List.getElem?_replicate] at ho
      split at ho
      · cases ho; exact ⟨by assumption, rfl⟩
      · cases ho
    exact made1 hl
end Go.Proofs.YtokmaehefenpmaaDoor
