/- Arguments that are a text, a number, a list of texts, opened. -/
import Derived.Test.YtbhdgeoljlhmcaaR0
namespace Go.Proofs.Ytbhdgeoljlhmcaa
open Go.ChangeShapes Go.WideShapes Go.ChangeAt Go.RowKit
section
variable {H : Type} {enc : TypeId × Value → H} {w : World} {base b0 : Nat} {sp : Nat → Bool} {held : Bool} {r : Reach} {v : Value} {d : DataW H} {p : List MemPlace}
set_option maxRecDepth 100000 in
theorem open_str (hv : Value.okWide Try.prog w r b0 9 v) : ∃ a : ByteArray, v = .string a := okWide_string row_u9 hv
set_option maxRecDepth 100000 in
theorem open_i64 (hv : Value.okWide Try.prog w r b0 3 v) : ∃ n : Int, v = .int .i64 n := okWide_int row_u3 hv
set_option maxRecDepth 100000 in
theorem open_strs (hv : Value.okWide Try.prog w r b0 29 v) (h : DataW.Trod enc Try.prog w base sp held 29 v d p) :
    ∃ (A : Option Addr) (n c : Nat) (l : List ByteArray), v = .slice A n c ∧ StrAt w A n c l ∧ n ≤ c := by
  obtain ⟨A, n, c, rfl⟩ := okWide_slice u29 hv
  obtain ⟨fuel, hf⟩ := h
  rcases Deep.open_slice u29 hf with ⟨hc, _⟩ | ⟨a, len, cap, m, k, D, Pl, hc, _, hl, _, hmm, _, hall⟩
  · simp [Value.cells] at hc
    obtain ⟨rfl, rfl, rfl⟩ := hc
    exact ⟨_, _, _, [], rfl, ⟨rfl, Or.inl ⟨rfl, rfl, rfl⟩⟩, Nat.le_refl _⟩
  · simp [Value.cells] at hc
    obtain ⟨rfl, rfl, rfl⟩ := hc
    have hlm : n ≤ m := by rw [hmm]; split <;> omega
    have each : ∀ i, i < n → ∃ o : ByteArray, w.cell? (a.add i) = some (.string o) := fun i hi => by
      obtain ⟨cs', h1, h2⟩ := hall i (by omega)
      rw [cells9] at h1
      obtain ⟨_, hlen, hcell⟩ := World.cells?_some h1
      have g := hcell 0 (by omega)
      match cs', hlen with
      | [x], _ =>
        obtain ⟨o, q, _⟩ := DataW.trod_string row_u9 h2
        simp at q
        subst q
        refine ⟨o, ?_⟩
        simp only [Nat.mul_one] at g
        rw [show (a.add i).add 0 = a.add i by rw [Addr.add_add]; rfl] at g
        rw [g]; rfl
    obtain ⟨l, hln, hall2⟩ := choose_list n each
    refine ⟨_, _, _, l, rfl, ⟨hln, Or.inr ⟨a, rfl, fun j u hj => ?_⟩⟩, hl⟩
    unfold strs at hj
    rw [List.getElem?_map] at hj
    cases hq : l[j]? with
    | none => rw [hq] at hj; cases hj
    | some x =>
      rw [hq] at hj
      simp at hj; subst hj
      exact hall2 j x hq
end
end Go.Proofs.Ytbhdgeoljlhmcaa
