/- The store's block; what a name is, by the program. -/
import Derived.Test.YtbhdgeoljlhmcaaS12
import Derived.Outline
namespace Go.Proofs.Ytbhdgeoljlhmcaa
open Go.RowKit Go.Proofs.Ytbhdgeoljlhmcaa.Nm Go.Proofs.Ytbhdgeoljlhmcaa.St
/-- a pointer to a buffer's block, or nil -/
def bp (o : Option Nat) : Value := .pointer (o.map fun g => ⟨g, 0, none⟩)
/-- the store's block: eight names, two counters -/
def scells (ns : List (Option Nat)) (made shared : Int) : Array Value := (ns.map bp ++ [Value.int .i64 made, Value.int .i64 shared]).toArray
theorem sc_name {w : World} {s : Nat} {ns : List (Option Nat)} {made shared : Int} (h : w.heap[s]? = some (.cells (scells ns made shared) 83 (0, 0))) {i : Nat} {o : Option Nat} (hi : ns[i]? = some o) : w.cell? ⟨s, i, none⟩ = some (bp o) := by
  have hl := (List.getElem?_eq_some_iff.1 hi).1
  rw [cell_of_row _ _ _ _ _ _ h]
  simp [scells, List.getElem?_append_left, hl]
  rw [(List.getElem?_eq_some_iff.1 hi).2]
theorem sc_made {w : World} {s : Nat} {ns : List (Option Nat)} {made shared : Int} (h : w.heap[s]? = some (.cells (scells ns made shared) 83 (0, 0))) (hn : ns.length = 8) : w.cell? ⟨s, 8, none⟩ = some (.int .i64 made) ∧ w.cell? ⟨s, 9, none⟩ = some (.int .i64 shared) := by
  rw [cell_of_row _ _ _ _ _ _ h, cell_of_row _ _ _ _ _ _ h]
  simp [scells, hn]
theorem u80 : Try.prog.underlying 80 = some (.pointer 87) := by kernel_rfl
theorem one80 {w : World} {ad : Addr} {v : Value} (h : w.cell? ad = some v) : OneAt w 80 ad v := one_of u80 rfl h
set_option maxRecDepth 100000 in
theorem kindOf_any (s : Nat) (ns : List (Option Nat)) (made shared : Int) (hn : ns.length = 8) (i : Nat) (o : Option Nat) (hi : ns[i]? = some o) (kd : Int) (w : World) (h0 : w.heap[s]? = some (.cells (scells ns made shared) 83 (0, 0)))
    (hk : ∀ g, o = some g → w.cell? ⟨g, 0, none⟩ = some (.int .i64 kd)) (hk0 : o = none → kd = 0) :
    Calls Try.prog 76 #[.pointer (some ⟨s, 0, none⟩), .int .i64 (i : Int)] w fun e w' => e = .returned (.int .i64 kd) ∧ Below w.heap.size w w' := by
  have hl : i < 8 := by rw [← hn]; exact (List.getElem?_eq_some_iff.1 hi).1
  have c0 := sc_name h0 hi
  go_enter Try.func76, Try.ntmps76
  cases o with
  | none =>
    obtain rfl := hk0 rfl
    rw [show bp none = .pointer none from rfl] at c0
    go_wp2_with fail
    go_ret
    exact ⟨rfl, Below.refl _ _⟩
  | some g =>
    have hg := hk g rfl
    rw [show bp (some g) = .pointer (some ⟨g, 0, none⟩) from rfl] at c0
    go_wp2_with fail
    go_ret
    exact ⟨rfl, Below.refl _ _⟩
theorem scells_set {ns : List (Option Nat)} {made shared : Int} {i : Nat} (hi : i < ns.length) (o : Option Nat) : (scells ns made shared).setIfInBounds i (bp o) = scells (ns.set i o) made shared := by
  unfold scells
  rw [List.setIfInBounds_toArray, List.set_append_left _ _ (by simpa using hi), List.map_set]
theorem scells_made {ns : List (Option Nat)} {made shared : Int} (hn : ns.length = 8) (m : Int) : (scells ns made shared).setIfInBounds 8 (.int .i64 m) = scells ns m shared := by
  unfold scells
  rw [List.setIfInBounds_toArray, List.set_append_right _ _ (by simp [hn])]
  simp [hn]
theorem scells_shared {ns : List (Option Nat)} {made shared : Int} (hn : ns.length = 8) (m : Int) : (scells ns made shared).setIfInBounds 9 (.int .i64 m) = scells ns made m := by
  unfold scells
  rw [List.setIfInBounds_toArray, List.set_append_right _ _ (by simp [hn])]
  simp [hn]
set_option maxRecDepth 100000 in
theorem made_any (s : Nat) (ns : List (Option Nat)) (made shared : Int) (hn : ns.length = 8) (i : Nat) (hi : i < 8) (g : Nat) (hm : 0 ≤ made) (hm2 : made ≤ 1000000) (w : World) (h0 : w.heap[s]? = some (.cells (scells ns made shared) 83 (0, 0))) :
    Calls Try.prog 51 #[.pointer (some ⟨s, 0, none⟩), .int .i64 (i : Int), .pointer (some ⟨g, 0, none⟩)] w fun e w' => e = .returned (.tuple #[]) ∧ w'.heap[s]? = some (.cells (scells (ns.set i (some g)) (made + 1) shared) 83 (0, 0)) ∧ Kept [s] w w' := by
  have c0 := sc_name h0 (List.getElem?_eq_getElem (show i < ns.length by omega))
  have f0 : w.frozen? ⟨s, i, none⟩ = false := frozen_of_row _ _ _ _ _ h0
  go_enter Try.func51, Try.ntmps51
  go_upto_region 1 with (fail)
  have HK := Lib.hid ((Nm.Kept.refl [s] w).setCell (p := s) (by simp) i (bp (some g)))
  have h1 : (w.setCell ⟨s, i, none⟩ (.pointer (some ⟨g, 0, none⟩))).heap[s]? = some (.cells (scells (ns.set i (some g)) made shared) 83 (0, 0)) := (hs_new h0 (i := i) (v := bp (some g))).trans (by rw [scells_set (by omega)])
  rw [show bp (some g) = .pointer (some ⟨g, 0, none⟩) from rfl] at HK
  clear h0 c0 f0
  generalize w.setCell ⟨s, i, none⟩ (.pointer (some ⟨g, 0, none⟩)) = w1 at *
  have hn1 : (ns.set i (some g)).length = 8 := by simpa using hn
  have c8 := (sc_made h1 hn1).1
  have f8 : w1.frozen? ⟨s, 8, none⟩ = false := frozen_of_row _ _ _ _ _ h1
  go_wp2_with fail
  go_end0
  exact ⟨rfl, (hs_new h1).trans (by rw [scells_made hn1]), HK.out.setCell (p := s) (by simp) 8 _⟩
end Go.Proofs.Ytbhdgeoljlhmcaa
