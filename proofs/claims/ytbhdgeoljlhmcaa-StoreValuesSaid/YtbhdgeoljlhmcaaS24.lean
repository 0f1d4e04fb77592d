/- What an operation does, by the program: put, remove, sort. -/
import Derived.Test.YtbhdgeoljlhmcaaS22
import Derived.Outline
namespace Go.Proofs.Ytbhdgeoljlhmcaa
open Go.RowKit Go.Proofs.Ytbhdgeoljlhmcaa.Nm Go.Proofs.Ytbhdgeoljlhmcaa.St
theorem ba_beq (x y : ByteArray) : (x.toList == y.toList) = decide (x = y) := by
  rw [ByteArray.toList_eq, ByteArray.toList_eq]
  by_cases h : x = y
  · subst h; simp
  · rw [decide_eq_false h, beq_eq_false_iff_ne]
    exact fun e => h (ByteArray.ext (Array.toList_inj.1 e))
theorem strs_get {l : List ByteArray} {j : Nat} {x : ByteArray} (h : l[j]? = some x) : (strs l)[j]? = some (.string x) := by unfold strs; rw [List.getElem?_map, h]; rfl
/-- a text of a row of one's own changed -/
theorem own_setS {w : World} {B p cap : Nat} {l : List ByteArray} (h : w.ownsRow B 9 1 (.slice (some ⟨p, 0, none⟩) l.length cap) l.length (strs l)) (i : Nat) (k : ByteArray) :
    (w.setCell ⟨p, i, none⟩ (.string k)).ownsRow B 9 1 (.slice (some ⟨p, 0, none⟩) l.length cap) (l.set i k).length (strs (l.set i k)) := by
  rcases h.2 with ⟨h0, _⟩ | ⟨p0, cap0, cur, hv, hB, hg, h1, h2, h3, h4⟩
  · cases h0
  · cases hv
    refine ⟨by simp [strs], Or.inr ⟨p, cap, cur.setIfInBounds i (.string k), by simp, hB, hs_new hg, by simpa using h1, h2, by simpa using h3, ?_⟩⟩
    rw [Array.toList_setIfInBounds, List.length_set, List.take_set, h4]
    unfold strs
    rw [List.map_set]
theorem Delete_any (p cap B : Nat) (l : List ByteArray) (i : Nat) (hi : i < l.length) (w : World) (ho : w.ownsRow B 9 1 (.slice (some ⟨p, 0, none⟩) l.length cap) l.length (strs l)) :
    Calls Try.prog 53 #[.slice (some ⟨p, 0, none⟩) l.length cap, .int .i64 (i : Int), .int .i64 ((i + 1 : Nat) : Int)] w fun e w' => e = .returned (.slice (some ⟨p, 0, none⟩) (l.length - 1) cap) ∧
      w'.ownsRow B 9 1 (.slice (some ⟨p, 0, none⟩) (l.length - 1) cap) (l.eraseIdx i).length (strs (l.eraseIdx i)) ∧ Kept [p] w w' := by
  rcases ho.2 with ⟨h0, _⟩ | ⟨p0, cap0, cur, hv, hB, hg, h1, h2, h3, h4⟩
  · cases h0
  · cases hv
    have hcell : ∀ j, j < l.length → w.cell? ⟨p, 0 + j, none⟩ = some (.string (l.getD j ByteArray.empty)) := fun j hj => by
      rw [Nat.zero_add, cell_of_row _ _ _ _ _ _ hg, ← Array.getElem?_toList]
      have h5 := strs_get (l := l) (j := j) (x := l.getD j ByteArray.empty) (by rw [List.getD_eq_getElem?_getD, List.getElem?_eq_getElem hj]; rfl)
      rw [← h4, List.getElem?_take_of_lt (by omega)] at h5
      exact h5
    have HC := Try.slices_Delete_string_cells p 0 l.length cap i (i + 1) (fun j => l.getD j ByteArray.empty) w h1 (by unfold maxLen at h2; omega) (by omega) hi hcell (fun j hj => frozen_of_row _ _ _ _ _ hg)
    refine HC.mono ?_
    rintro e w' ⟨rfl, q, rfl⟩
    have hall : ((Lib.strsOf (fun j => l.getD j ByteArray.empty) l.length).map Go.Proofs.encStr) = strs l := by
      unfold Lib.strsOf strs
      apply List.ext_getElem?
      intro j
      by_cases hj : j < l.length
      · simp [hj, Go.Proofs.encStr]
      · rw [List.getElem?_eq_none (by simp; omega), List.getElem?_eq_none (by simp; omega)]
    have hvs : (((Lib.strsOf (fun j => l.getD j ByteArray.empty) l.length).take i ++ (Lib.strsOf (fun j => l.getD j ByteArray.empty) l.length).drop (i + 1) ++ List.replicate (i + 1 - i) []).map Go.Proofs.encStr) = strs (l.eraseIdx i) ++ [Go.Proofs.encStr []] := by
      rw [List.map_append, List.map_append, List.map_take, List.map_drop, hall, Nat.add_sub_cancel_left]
      unfold strs
      rw [List.eraseIdx_eq_take_drop_succ, List.map_append, List.map_take, List.map_drop]
      rfl
    rw [hvs]
    have hle : (l.eraseIdx i).length = l.length - 1 := by rw [List.length_eraseIdx, if_pos hi]
    have hg' : (w.drewN q).heap[p]? = some (.cells cur 9 (0, 0)) := hg
    obtain ⟨cur', g1, g2, g3⟩ := heap_setCells_row p 9 (strs (l.eraseIdx i) ++ [Go.Proofs.encStr []]) 0 (w.drewN q) cur hg'
    refine ⟨by rw [Nat.add_sub_cancel_left], ⟨by rw [strs_length, Nat.mul_one], Or.inr ⟨p, cap, cur', by rw [hle], hB, g1, by omega, h2, by rw [g2]; exact h3, ?_⟩⟩, Nm.Kept.setCells (by simp) _ _ _ ((Nm.Kept.refl [p] w).below (below_drewN (Below.refl _ _) q))⟩
    apply List.ext_getElem?
    intro j
    rw [hle, Nat.mul_one]
    by_cases hj : j < l.length - 1
    · rw [List.getElem?_take_of_lt hj, Array.getElem?_toList, g3, if_pos (by refine ⟨Nat.zero_le _, ?_, by omega⟩; simp [strs, hle]; omega), Nat.sub_zero, List.getElem?_append_left (by rw [strs_length, hle]; exact hj)]
    · rw [List.getElem?_eq_none (by simp; omega), List.getElem?_eq_none (by rw [strs_length, hle]; omega)]
theorem own_s {w : World} {b n : Nat} {v : Value} {xs : List Value} (h : w.ownsRow b 9 1 v n xs) (hn : 1 ≤ n) : ∃ p cap, v = .slice (some ⟨p, 0, none⟩) n cap ∧ n ≤ cap := by
  rcases h.2 with ⟨_, h0⟩ | ⟨p, cap, cur, hv, _, _, h1, _⟩
  · omega
  · exact ⟨p, cap, hv, h1⟩
theorem IsSorted_any (l : List ByteArray) (v : Value) (B : Nat) (hl : l.length ≤ 1000000) (w : World) (ho : w.ownsRow B 9 1 v l.length (strs l)) :
    Calls Try.prog 55 #[v] w fun e w' => e = .returned (.bool (sortedB l)) ∧ Below w.heap.size w w' := by
  rcases ho.2 with ⟨rfl, h0⟩ | ⟨p, cap, cur, rfl, hB, hg, h1, h2, h3, h4⟩
  · obtain rfl := List.length_eq_zero_iff.1 h0
    refine (Try.slices_IsSorted_string_none none 0 w).mono ?_
    rintro e w' ⟨rfl, rfl⟩
    exact ⟨rfl, Below.refl _ _⟩
  · have HC := Try.slices_IsSorted_string p 0 cap l.toArray w (fun j hj => by
      have hj' : j < l.length := by simpa using hj
      rw [Nat.zero_add, cell_of_row _ _ _ _ _ _ hg, ← Array.getElem?_toList]
      have h5 := strs_get (l := l) (j := j) (x := l.toArray[j]!) (by rw [getElem!_pos l.toArray j hj, List.getElem?_eq_getElem hj']; simp)
      rw [← h4, List.getElem?_take_of_lt (by omega)] at h5
      exact h5) (by simpa using (show l.length < 4611686018427387904 by omega))
    rw [List.size_toArray] at HC
    refine HC.mono ?_
    rintro e w' ⟨rfl, q, rfl⟩
    refine ⟨?_, below_drewN (Below.refl _ _) q⟩
    unfold sortedB
    rw [List.size_toArray]
end Go.Proofs.Ytbhdgeoljlhmcaa
