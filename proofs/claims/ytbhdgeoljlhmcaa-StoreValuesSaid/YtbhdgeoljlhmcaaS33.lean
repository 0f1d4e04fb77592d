/- Scripts in memory; whether a script is heavy, by the law; rows beside a store. -/
import Derived.Test.YtbhdgeoljlhmcaaS32
import Derived.Outline
namespace Go.Proofs.Ytbhdgeoljlhmcaa
open Go.RowKit Go.Proofs.Ytbhdgeoljlhmcaa.Nm Go.Proofs.Ytbhdgeoljlhmcaa.St
/-- a script in memory -/
def OpsAt (w : World) (A : Option Addr) (n : Nat) (l : List OpV) : Prop := l.length = n ∧ ∀ (i : Nat) (o : OpV), l[i]? = some o → ∃ (b off : Nat) (Cs : Array Value) (t : TypeId) (fr : Nat × Nat), A = some ⟨b, off, none⟩ ∧ w.heap[b]? = some (.cells Cs t fr) ∧ Cs.extract (off + i * 6) (off + i * 6 + 6) = o.cells
theorem OpsAt.below {w w' : World} {A : Option Addr} {n : Nat} {l : List OpV} (h : OpsAt w A n l) (hb : Below w.heap.size w w') : OpsAt w' A n l :=
  ⟨h.1, fun i o ho => by obtain ⟨b, off, Cs, t, fr, h1, h2, h3⟩ := h.2 i o ho; exact ⟨b, off, Cs, t, fr, h1, below_look hb h2, h3⟩⟩
theorem u22 : Try.prog.underlying 22 = some (.slice 39) := by kernel_rfl
theorem OpsAt.row {w : World} {b off n : Nat} {l : List OpV} (h : OpsAt w (some ⟨b, off, none⟩) n l) {i : Nat} {o : OpV} (hi : l[i]? = some o) : RowAt w 39 ⟨b, off + i * 6, none⟩ o.cells := by
  obtain ⟨b', off', Cs, t, fr, h1, h2, h3⟩ := h.2 i o hi
  cases h1
  exact row_mid h2 h3 u39 rfl rfl info39
theorem OpsAt.addr {w : World} {A : Option Addr} {n : Nat} {l : List OpV} (h : OpsAt w A n l) {i : Nat} (hi : i < n) : ∃ b off, A = some ⟨b, off, none⟩ := by
  obtain ⟨b', off', Cs, t, fr, h1, h2, h3⟩ := h.2 i _ (List.getElem?_eq_getElem (show i < l.length by rw [h.1]; exact hi))
  exact ⟨b', off', h1⟩
theorem OpsAt.key {w : World} {b off n : Nat} {l : List OpV} (h : OpsAt w (some ⟨b, off, none⟩) n l) {i : Nat} {o : OpV} (hi : l[i]? = some o) : w.cell? ⟨b, off + i * 6 + 5, none⟩ = some (.string o.key) := by
  obtain ⟨b', off', Cs, t, fr, h1, h2, h3⟩ := h.2 i o hi
  cases h1
  have h4 : (Cs.extract (off + i * 6) (off + i * 6 + 6))[5]? = some (.string o.key) := by rw [h3]; rfl
  rw [Array.getElem?_extract] at h4
  split at h4
  · unfold World.cell?
    rw [h2]
    simpa using h4
  · cases h4
set_option maxHeartbeats 2000000 in
set_option maxRecDepth 100000 in
theorem heavy_any (A : Option Addr) (n c : Nat) (l : List OpV) (w : World) (h : OpsAt w A n l) :
    Calls Try.prog 13 #[.slice A n c] w fun e w' => ∃ b, e = .returned (.bool b) ∧ (b = false → n ≤ 200) ∧ Below w.heap.size w w' := by
  have HO := Lib.hid h
  clear h
  go_enter Try.func13, Try.ntmps13
  go_wp2_with fail
  go_loopw [3, 4] (fun m i wr => ∃ (j k : Nat), j ≤ n ∧ j ≤ 200 ∧ k ≤ 8000 ∧ i = .int .i64 (j : Int) ∧ m = .int .i64 (k : Int) ∧ Below w.heap.size w wr) (fun _ i _ => n - (intOf i).toNat)
  case atStart => exact ⟨0, 0, by omega, by omega, by omega, rfl, rfl, Below.refl _ _⟩
  case round =>
    obtain ⟨j, k, hj, hj2, hk, rfl, rfl, hb⟩ := hrel
    by_cases hlt : j < n
    · have hltI : (j : Int) < (n : Int) := by omega
      by_cases h200 : j = 200
      · have hd : ((j : Int) == 200) = true := by simp; omega
        go_wp2_with fail
        go_ret
        exact ⟨_, rfl, by simp, hb⟩
      · have hd : ((j : Int) == 200) = false := by simp; omega
        obtain ⟨b, off, rfl⟩ := HO.out.addr hlt
        obtain ⟨o, ho⟩ : ∃ o, l[j]? = some o := ⟨_, List.getElem?_eq_getElem (by rw [HO.out.1]; exact hlt)⟩
        have hkey := below_cell hb (HO.out.key ho)
        have hwr : IntKind.i64.wrap (8000 - (k : Int)) = 8000 - (k : Int) := wrap_small _ (by omega) (by omega)
        clear ho
        by_cases hgt : 8000 - (k : Int) < (o.key.size : Int)
        · go_wp2_with fail
          go_ret
          exact ⟨_, rfl, by simp, hb⟩
        · have hwr2 : IntKind.i64.wrap ((k : Int) + (o.key.size : Int)) = ((k + o.key.size : Nat) : Int) := by rw [wrap_small _ (by omega) (by omega)]; omega
          go_wp2_with fail
          go_roundw
          case rel => exact ⟨j + 1, k + o.key.size, by omega, by omega, by omega, by go_num, by first | rfl | (rw [hwr2]) | (congr 1), hb⟩
          case measure => simp [intOf]; omega
    · obtain rfl : j = n := by omega
      go_wp2_with fail
      go_ret
      exact ⟨_, rfl, fun _ => by omega, hb⟩
end Go.Proofs.Ytbhdgeoljlhmcaa
