/- Arguments that are a list of seeds, opened. -/
import Derived.Test.YtbhdgeoljlhmcaaR0
import Derived.Test.YtbhdgeoljlhmcaaS58
namespace Go.Proofs.Ytbhdgeoljlhmcaa
open Go.ChangeShapes Go.WideShapes Go.ChangeAt Go.RowKit
section
variable {H : Type} {enc : TypeId × Value → H} {w : World} {base b0 : Nat} {sp : Nat → Bool} {held : Bool} {r : Reach} {v : Value} {d : DataW H} {p : List MemPlace}
theorem row_u35 : Try.prog.underlying 35 = some (.slice 40) := by kernel_rfl
theorem row_u40 : Try.prog.underlying 40 = some (.int .u16) := by kernel_rfl
theorem cells40 : Try.prog.cellsOf 40 = 1 := by kernel_rfl
theorem bounds_u16 {n : Int} (h : (Lit.int .u16 n).wf = true) : 0 ≤ n ∧ n < 65536 := by
  simp [Lit.wf, IntKind.min, IntKind.max, IntKind.signed, IntKind.bits] at h
  omega
set_option maxRecDepth 100000 in
theorem open_u16s (hv : Value.okWide Try.prog w r b0 35 v) (h : DataW.Trod enc Try.prog w base sp held 35 v d p) :
    ∃ (A : Option Addr) (n c : Nat) (l : List Nat), v = .slice A n c ∧ SdAt w A n l ∧ n ≤ c := by
  obtain ⟨A, n, c, rfl⟩ := okWide_slice row_u35 hv
  obtain ⟨fuel, hf⟩ := h
  rcases Deep.open_slice row_u35 hf with ⟨hc, _⟩ | ⟨a, len, cap, m, k, D, Pl, hc, _, hl, _, hmm, _, hall⟩
  · simp [Value.cells] at hc
    obtain ⟨rfl, rfl, rfl⟩ := hc
    exact ⟨_, _, _, [], rfl, ⟨rfl, by simp, fun i o hi => by simp at hi⟩, Nat.le_refl _⟩
  · simp [Value.cells] at hc
    obtain ⟨rfl, rfl, rfl⟩ := hc
    have hlm : n ≤ m := by rw [hmm]; split <;> omega
    have each : ∀ i, i < n → ∃ x : Nat, x < 65536 ∧ ∃ (b off : Nat), some a = some ⟨b, off, none⟩ ∧ w.cell? ⟨b, off + i, none⟩ = some (.int .u16 (x : Int)) := fun i hi => by
      obtain ⟨cs', h1, h2⟩ := hall i (by omega)
      rw [cells40] at h1
      obtain ⟨_, hlen, hcell⟩ := World.cells?_some h1
      have g := hcell 0 (by omega)
      have hs : a.spot = none := by
        obtain ⟨cs0, k1, _⟩ := hall 0 (by omega)
        rw [cells40] at k1
        obtain ⟨_, hlen0, hcell0⟩ := World.cells?_some k1
        have z0 := hcell0 0 (by omega)
        rw [List.getElem?_eq_getElem (show 0 < cs0.length by omega)] at z0
        unfold World.cell? at z0
        simp [Addr.add] at z0
        split at z0
        · split at z0
          · cases z0
          · rename_i h; simpa using h
        · cases z0
      match cs', hlen with
      | [x], _ =>
        obtain ⟨o, q, _, bz⟩ := DataW.trod_int row_u40 h2
        simp at q
        subst q
        have hz := bounds_u16 bz
        obtain ⟨b, off, s⟩ := a
        simp at hs
        subst hs
        refine ⟨o.toNat, by omega, b, off, rfl, ?_⟩
        rw [show ((o.toNat : Nat) : Int) = o by omega]
        simp only [Nat.mul_one] at g
        rw [Addr.add_mid, Addr.add_mid, Nat.add_zero] at g
        rw [g]; rfl
    obtain ⟨l, hln, hall2⟩ := choose_list n each
    refine ⟨_, _, _, l, rfl, ⟨hln, fun x hx => ?_, fun i x hi => (hall2 i x hi).2⟩, hl⟩
    obtain ⟨i, hi⟩ := List.mem_iff_getElem?.1 hx
    exact (hall2 i x hi).1
end
end Go.Proofs.Ytbhdgeoljlhmcaa
