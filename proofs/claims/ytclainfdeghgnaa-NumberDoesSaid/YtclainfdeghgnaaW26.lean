/- Which decimals are valid. -/
import Derived.Test.YtclainfdeghgnaaW17
import Derived.Outline
namespace Go.Proofs.Ytclainfdeghgnaa
open Go.RowKit Go.Proofs.Ytclainfdeghgnaa.Nm

/-- A decimal by value. -/
def dc (u k : Int) : Array Value := #[.int .i64 u, .int .i64 k]
def validD (u k : Int) : Bool := decide (-100000000000000000 ≤ u) && decide (u ≤ 100000000000000000) && decide (0 ≤ k) && decide (k ≤ 9)
theorem info33 : (Try.prog.info? 33).map (·.size) = some 2 := by kernel_rfl
theorem u33 : Try.prog.underlying 33 = some (.struct (Try.prog.fieldsOf 33)) := by kernel_rfl
theorem rowDc {w : World} {b : Nat} {u k : Int} {t : TypeId} {fr : Nat × Nat} (hb : w.heap[b]? = some (.cells (dc u k) t fr)) : RowAt w 33 ⟨b, 0, none⟩ (dc u k) := row_mid hb (D := dc u k) (n := 2) rfl u33 rfl rfl info33
theorem dc0 {w : World} {b : Nat} {u k : Int} {t : TypeId} {fr : Nat × Nat} (hb : w.heap[b]? = some (.cells (dc u k) t fr)) : w.cell? ⟨b, 0, none⟩ = some (.int .i64 u) := by rw [cell_of_row _ _ _ _ _ _ hb]; rfl
theorem dc1 {w : World} {b : Nat} {u k : Int} {t : TypeId} {fr : Nat × Nat} (hb : w.heap[b]? = some (.cells (dc u k) t fr)) : w.cell? ⟨b, 1, none⟩ = some (.int .i64 k) := by rw [cell_of_row _ _ _ _ _ _ hb]; rfl
theorem validD_iff {u k : Int} : validD u k = true ↔ -100000000000000000 ≤ u ∧ u ≤ 100000000000000000 ∧ 0 ≤ k ∧ k ≤ 9 := by
  unfold validD; simp [and_assoc]

set_option maxHeartbeats 400000 in
theorem ValidDecimal_any (u k : Int) (R : Bool) (HR : Hid (R = validD u k)) (w : World) :
    Calls Try.prog 130 #[.agg (dc u k)] w fun e w' => e = .returned (.bool R) ∧ Below w.heap.size w w' := by
  go_enter Try.func130, Try.ntmps130
  go_upto_region 1 with (fail)
  refine wp_world (fun W => W.heap[w.heap.size]? = some (.cells (dc u k) 33 (0, 0)) ∧ Below w.heap.size w W) ⟨ha_new rfl, ((Below.refl _ _).alloc (Nat.le_refl _) _)⟩ ?_
  rintro W ⟨h0, hb⟩
  have c0 := dc0 h0
  have c1 := dc1 h0
  go_wp2_with fail
  all_goals
    go_ret
    refine ⟨congrArg (fun b => Ending.returned (.bool b)) (?_ : _ = R), hb⟩
    rw [HR.out]
    clear HR h0 hb c0 c1
    unfold validD
    first
    | (simp [*]; done)
    | (simp [*]; omega)
set_option maxHeartbeats 400000 in
theorem valid1_any (u k : Int) (R : Bool) (HR : Hid (R = validD u k)) (w : World) :
    Calls Try.prog 129 #[.agg (dc u k)] w fun e w' => e = .returned (.bool (!R)) ∧ Below w.heap.size w w' := by
  go_enter Try.func129, Try.ntmps129
  go_upto_region 1 with (fail)
  refine wp_world (fun W => W.heap[w.heap.size]? = some (.cells (dc u k) 33 (0, 0)) ∧ Below w.heap.size w W) ⟨ha_new rfl, ((Below.refl _ _).alloc (Nat.le_refl _) _)⟩ ?_
  rintro W ⟨h0, hb⟩
  apply wp_region_lit
  ((with_reducible apply wl_rowG); exact rfl; exact rfl; exact rowDc (by with_reducible assumption))
  refine wl_ck rfl (fun K hK => ?_); go_simp; refine ⟨_, _, ⟨rfl, rfl⟩, hK _ _ ⟨_, ValidDecimal_any u k R HR _, ?_⟩⟩; clear hK K; rintro e w1 ⟨rfl, hb1⟩; refine ⟨_, rfl, ?_⟩; simp only [put_lit, List.set_cons_zero, List.set_cons_succ]
  replace hb := hb.trans (hb1.mono hb.size); clear hb1
  go_wp2_with fail
  go_ret
  exact ⟨rfl, hb⟩
/-- The cells of decimals side by side. -/
def flatD (ds : List (Int × Int)) : Array Value := (ds.flatMap fun d => [Value.int .i64 d.1, .int .i64 d.2]).toArray
theorem flatD_get (ds : List (Int × Int)) (k : Nat) (hk : k < ds.length) : (flatD ds)[k * 2]? = some (.int .i64 ds[k].1) ∧ (flatD ds)[k * 2 + 1]? = some (.int .i64 ds[k].2) := by
  unfold flatD
  simp only [List.getElem?_toArray]
  induction ds generalizing k with
  | nil => simp at hk
  | cons d ds ih =>
    cases k with
    | zero => simp
    | succ k =>
      have := ih k (by simpa using hk)
      have e1 : (k + 1) * 2 = k * 2 + 1 + 1 := by omega
      rw [e1]
      simpa using this
theorem decs0 {w : World} {b k : Nat} {ds : List (Int × Int)} {t : TypeId} {fr : Nat × Nat} (hb : w.heap[b]? = some (.cells (flatD ds) t fr)) (hk : k < ds.length) : w.cell? ⟨b, k * 2, none⟩ = some (.int .i64 ds[k].1) := by
  rw [cell_of_row _ _ _ _ _ _ hb]; exact (flatD_get ds k hk).1
theorem decs1 {w : World} {b k : Nat} {ds : List (Int × Int)} {t : TypeId} {fr : Nat × Nat} (hb : w.heap[b]? = some (.cells (flatD ds) t fr)) (hk : k < ds.length) : w.cell? ⟨b, k * 2 + 1, none⟩ = some (.int .i64 ds[k].2) := by
  rw [cell_of_row _ _ _ _ _ _ hb]; exact (flatD_get ds k hk).2
def allD (ds : List (Int × Int)) : Bool := ds.all fun d => validD d.1 d.2

set_option maxHeartbeats 1000000 in
theorem IndexFunc_any (g c : Nat) (ds : List (Int × Int)) (hn : ds.length ≤ 1000) (w : World) (hg : w.heap[g]? = some (.cells (flatD ds) 33 (0, 0))) :
    Calls Try.prog 135 #[.slice (some ⟨g, 0, none⟩) ds.length c, .func (.func 129) #[] #[]] w fun e w' => ∃ r, e = .returned (.int .i64 r) ∧ ((r < 0 ∧ allD ds = true) ∨ (0 ≤ r ∧ allD ds = false)) ∧ Below w.heap.size w w' := by
  have lt0 := heap_lt hg
  go_enter Try.func135, Try.ntmps135
  go_wp2_with fail
  go_loopw [8] (fun i wr => ∃ k : Nat, k ≤ ds.length ∧ i = .int .i64 k ∧ Hid (∀ j, (h : j < ds.length) → j < k → validD ds[j].1 ds[j].2 = true) ∧ wr.heap[g]? = some (.cells (flatD ds) 33 (0, 0)) ∧ Below w.heap.size w wr) (fun i _ => (ds.length - intOf i).toNat)
  case atStart => exact ⟨0, by omega, rfl, Lib.hid (fun j _ hj => absurd hj (by omega)), hg, Below.refl _ _⟩
  case round =>
    obtain ⟨k, hk, rfl, HV, h0, hb⟩ := hrel
    by_cases hc : k < ds.length
    · have a0 := decs0 h0 hc
      have a1 := decs1 h0 hc
      obtain ⟨u, hu⟩ : ∃ u, u = ds[k].1 := ⟨_, rfl⟩
      obtain ⟨q, hq⟩ : ∃ q, q = ds[k].2 := ⟨_, rfl⟩
      rw [← hu] at a0
      rw [← hq] at a1
      have HU := Lib.hid hu
      have HQ := Lib.hid hq
      clear hu hq
      cases hv : validD u q
      · have HVF := Lib.hid hv
        clear hv
        go_wp2_with (go_at_call 129; refine (valid1_any u q false (Lib.hid HVF.out.symm) _).mono ?_)
        rintro e w1 ⟨rfl, hb1⟩
        replace hb := hb.trans (hb1.mono hb.size)
        go_wp2_with fail
        go_ret
        refine ⟨_, rfl, Or.inr ⟨by omega, ?_⟩, hb⟩
        unfold allD
        rw [List.all_eq_false]
        exact ⟨ds[k], List.getElem_mem _, by rw [← HU.out, ← HQ.out, HVF.out]; simp⟩
      · have HVT := Lib.hid hv
        clear hv
        go_wp2_with (go_at_call 129; refine (valid1_any u q true (Lib.hid HVT.out.symm) _).mono ?_)
        rintro e w1 ⟨rfl, hb1⟩
        replace h0 := below_look hb1 h0
        replace hb := hb.trans (hb1.mono hb.size)
        clear a0 a1 hb1
        go_wp2_with fail
        go_roundw
        case rel =>
          refine ⟨k + 1, by omega, by go_num, Lib.hid ?_, h0, hb⟩
          intro i hi1 hi
          rcases Nat.lt_or_ge i k with h | h
          · exact HV.out i hi1 h
          · obtain rfl : i = k := by omega
            rw [← HU.out, ← HQ.out]; exact HVT.out
        case measure => simp [intOf]; omega
    · obtain rfl : k = ds.length := by omega
      go_wp2_with fail
      go_ret
      refine ⟨_, rfl, Or.inl ⟨by omega, ?_⟩, hb⟩
      unfold allD
      rw [List.all_eq_true]
      intro d hd
      obtain ⟨i, hi, rfl⟩ := List.mem_iff_getElem.1 hd
      exact HV.out i hi hi
set_option maxHeartbeats 400000 in
theorem ContainsFunc_any (g c : Nat) (ds : List (Int × Int)) (hn : ds.length ≤ 1000) (w : World) (hg : w.heap[g]? = some (.cells (flatD ds) 33 (0, 0))) (R : Bool) (HR : Hid (R = allD ds)) :
    Calls Try.prog 128 #[.slice (some ⟨g, 0, none⟩) ds.length c, .func (.func 129) #[] #[]] w fun e w' => e = .returned (.bool (!R)) ∧ Below w.heap.size w w' := by
  go_enter Try.func128, Try.ntmps128
  go_wp2_with (go_at_call 135; refine (IndexFunc_any g c ds hn w hg).mono ?_)
  rintro e w1 ⟨r, rfl, hr, hb⟩
  rcases hr with ⟨hr, ha⟩ | ⟨hr, ha⟩
  · rw [ha] at HR
    go_wp2_with fail
    go_ret
    refine ⟨congrArg (fun b => Ending.returned (.bool b)) (?_ : _ = !R), hb⟩
    rw [HR.out]
    first | rfl | (simp; omega)
  · rw [ha] at HR
    go_wp2_with fail
    go_ret
    refine ⟨congrArg (fun b => Ending.returned (.bool b)) (?_ : _ = !R), hb⟩
    rw [HR.out]
    first | rfl | (simp; omega)
set_option maxHeartbeats 400000 in
theorem valid_any (g c : Nat) (ds : List (Int × Int)) (hn : ds.length ≤ 1000) (R : Bool) (HR : Hid (R = allD ds)) (w : World) (hg : w.heap[g]? = some (.cells (flatD ds) 33 (0, 0))) :
    Calls Try.prog 83 #[.slice (some ⟨g, 0, none⟩) ds.length c] w fun e w' => e = .returned (.bool R) ∧ Below w.heap.size w w' := by
  go_enter Try.func83, Try.ntmps83
  go_wp2_with (go_at_call 128; refine (ContainsFunc_any g c ds hn w hg R HR).mono ?_)
  rintro e w1 ⟨rfl, hb⟩
  go_wp2_with fail
  go_ret
  exact ⟨by simp, hb⟩
end Go.Proofs.Ytclainfdeghgnaa
