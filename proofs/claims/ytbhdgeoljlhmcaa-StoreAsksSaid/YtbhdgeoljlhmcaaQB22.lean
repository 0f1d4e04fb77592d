/- The form of an operation by the document (printed by genD4.py). -/
import Derived.Outline
import Derived.Test.YtbhdgeoljlhmcaaQB21
namespace Go.Proofs.Ytbhdgeoljlhmcaa
open Go.RowKit Go.Proofs.Ytbhdgeoljlhmcaa.Nm Go.Proofs.Ytbhdgeoljlhmcaa.St
set_option linter.unusedSimpArgs false
theorem uc_cell {w : World} {g : Nat} {u : Use} (h : w.heap[g]? = some (.cells (ucells u) 4 (0, 0))) :
    w.cell? ⟨g, 0, none⟩ = some (.bool u.fr) ∧ w.cell? ⟨g, 1, none⟩ = some (.bool u.to) ∧ w.cell? ⟨g, 2, none⟩ = some (.bool u.at_) ∧ w.cell? ⟨g, 3, none⟩ = some (.bool u.n) ∧ w.cell? ⟨g, 4, none⟩ = some (.bool u.key) := by
  rw [cell_of_row _ _ _ _ _ _ h, cell_of_row _ _ _ _ _ _ h, cell_of_row _ _ _ _ _ _ h, cell_of_row _ _ _ _ _ _ h, cell_of_row _ _ _ _ _ _ h]
  exact ⟨rfl, rfl, rfl, rfl, rfl⟩
set_option maxHeartbeats 8000000 in
set_option maxRecDepth 100000 in
theorem formI_any (o : OpV) (w : World) : Calls Try.prog 81 #[.agg o.cells] w fun e w' => e = .returned (.bool (formS o)) ∧ Below w.heap.size w w' := by
  obtain ⟨G, hG⟩ : ∃ G, G = formS o := ⟨_, rfl⟩
  rw [← hG]
  go_enter Try.func81, Try.ntmps81
  go_upto_region 1 with (fail)
  refine wp_world (fun W => Below w.heap.size w W ∧ W.heap[w.heap.size]? = some (.cells o.cells 39 (0, 0))) ⟨(Below.refl w.heap.size w).alloc (Nat.le_refl _) _, ha_new rfl⟩ ?_
  rintro W ⟨hb, g1⟩
  have x0 := (op_cell g1).1
  apply wp_region_lit
  refine wl_k rfl (fun K hK => ?_); go_simp; refine hK _ ?_; clear hK K
  ((with_reducible apply wl_oneG); exact rfl; exact rfl; exact one3 x0); simp only [Zq]
  refine wl_ck rfl (fun K hK => ?_); go_simp; refine ⟨_, _, ⟨rfl, rfl⟩, hK _ _ ⟨_, usesI_any o.kind _, ?_⟩⟩; clear hK K; rintro e w1 ⟨uv, rfl, hu, hb1⟩; refine ⟨_, rfl, ?_⟩; simp only [Zq]
  replace g1 := below_look hb1 g1
  replace hb := hb.trans (hb1.mono hb.size)
  clear hb1 x0
  refine wl_k rfl (fun K hK => ?_); go_simp; refine hK _ ?_; clear hK K
  unfold UsAt at hu
  cases hus : useS o.kind with
  | none =>
    rw [hus] at hu
    simp only at hu
    subst hu
    have HG2 : Hid (G = false) := Lib.hid (by rw [hG]; unfold formS; rw [hus]; rfl)
    clear hG hus g1
    go_wp2_with fail
    go_ret
    exact ⟨by rw [HG2.out]; rfl, hb⟩
  | some u =>
    rw [hus] at hu
    simp only at hu
    obtain ⟨p, rfl, hp⟩ := hu
    obtain ⟨x0, x1, x2, x3, x4, x5⟩ := op_cell g1
    obtain ⟨y0, y1, y2, y3, y4⟩ := uc_cell hp
    have hG2 : G = (nmOk u.fr o.fr && nmOk u.to o.to && (u.at_ || (o.at_ == 0)) && (u.n || (o.n == 0)) && (u.key || o.key.toList.isEmpty)) := by rw [hG]; unfold formS useG; rw [hus]; simp
    have HG := Lib.hid hG2
    obtain ⟨kd, fr, to, at_, n, key⟩ := o
    obtain ⟨uf, ut, ua, un, uk, ukd⟩ := u
    simp only at x1 x2 x3 x4 x5 y0 y1 y2 y3 y4 HG
    clear hG hG2 hus g1 hp x0
    cases uf with
    | true =>
      cases hqf : isNm fr with
      | true =>
        cases ut with
        | true =>
          cases hqt : isNm to with
          | true =>
            cases ua with
            | true =>
              cases un with
              | true =>
                cases uk with
                | true =>
                  have HG2 : Hid (G = true) := Lib.hid (by rw [HG.out]; simp [nmOk, *])
                  go_wp2_with (first | (go_at_call 69; refine (NameI_any _ _).mono ?_; rintro e w' ⟨rfl, rfl⟩))
                  go_ret
                  exact ⟨by rw [HG2.out]; rfl, hb⟩
                | false =>
                  cases hk : key.toList.isEmpty with
                  | true =>
                    have HG2 : Hid (G = true) := Lib.hid (by rw [HG.out]; simp [nmOk, *])
                    go_wp2_with (first | (go_at_call 69; refine (NameI_any _ _).mono ?_; rintro e w' ⟨rfl, rfl⟩))
                    go_ret
                    exact ⟨by rw [HG2.out]; rfl, hb⟩
                  | false =>
                    have HG2 : Hid (G = false) := Lib.hid (by rw [HG.out]; simp [nmOk, *])
                    go_wp2_with (first | (go_at_call 69; refine (NameI_any _ _).mono ?_; rintro e w' ⟨rfl, rfl⟩))
                    go_ret
                    exact ⟨by rw [HG2.out]; rfl, hb⟩
              | false =>
                cases hdn : n == 0 with
                | true =>
                  cases uk with
                  | true =>
                    have HG2 : Hid (G = true) := Lib.hid (by rw [HG.out]; simp [nmOk, *])
                    go_wp2_with (first | (go_at_call 69; refine (NameI_any _ _).mono ?_; rintro e w' ⟨rfl, rfl⟩))
                    go_ret
                    exact ⟨by rw [HG2.out]; rfl, hb⟩
                  | false =>
                    cases hk : key.toList.isEmpty with
                    | true =>
                      have HG2 : Hid (G = true) := Lib.hid (by rw [HG.out]; simp [nmOk, *])
                      go_wp2_with (first | (go_at_call 69; refine (NameI_any _ _).mono ?_; rintro e w' ⟨rfl, rfl⟩))
                      go_ret
                      exact ⟨by rw [HG2.out]; rfl, hb⟩
                    | false =>
                      have HG2 : Hid (G = false) := Lib.hid (by rw [HG.out]; simp [nmOk, *])
                      go_wp2_with (first | (go_at_call 69; refine (NameI_any _ _).mono ?_; rintro e w' ⟨rfl, rfl⟩))
                      go_ret
                      exact ⟨by rw [HG2.out]; rfl, hb⟩
                | false =>
                  have HG2 : Hid (G = false) := Lib.hid (by rw [HG.out]; simp [nmOk, *])
                  go_wp2_with (first | (go_at_call 69; refine (NameI_any _ _).mono ?_; rintro e w' ⟨rfl, rfl⟩))
                  go_ret
                  exact ⟨by rw [HG2.out]; rfl, hb⟩
            | false =>
              cases hda : at_ == 0 with
              | true =>
                cases un with
                | true =>
                  cases uk with
                  | true =>
                    have HG2 : Hid (G = true) := Lib.hid (by rw [HG.out]; simp [nmOk, *])
                    go_wp2_with (first | (go_at_call 69; refine (NameI_any _ _).mono ?_; rintro e w' ⟨rfl, rfl⟩))
                    go_ret
                    exact ⟨by rw [HG2.out]; rfl, hb⟩
                  | false =>
                    cases hk : key.toList.isEmpty with
                    | true =>
                      have HG2 : Hid (G = true) := Lib.hid (by rw [HG.out]; simp [nmOk, *])
                      go_wp2_with (first | (go_at_call 69; refine (NameI_any _ _).mono ?_; rintro e w' ⟨rfl, rfl⟩))
                      go_ret
                      exact ⟨by rw [HG2.out]; rfl, hb⟩
                    | false =>
                      have HG2 : Hid (G = false) := Lib.hid (by rw [HG.out]; simp [nmOk, *])
                      go_wp2_with (first | (go_at_call 69; refine (NameI_any _ _).mono ?_; rintro e w' ⟨rfl, rfl⟩))
                      go_ret
                      exact ⟨by rw [HG2.out]; rfl, hb⟩
                | false =>
                  cases hdn : n == 0 with
                  | true =>
                    cases uk with
                    | true =>
                      have HG2 : Hid (G = true) := Lib.hid (by rw [HG.out]; simp [nmOk, *])
                      go_wp2_with (first | (go_at_call 69; refine (NameI_any _ _).mono ?_; rintro e w' ⟨rfl, rfl⟩))
                      go_ret
                      exact ⟨by rw [HG2.out]; rfl, hb⟩
                    | false =>
                      cases hk : key.toList.isEmpty with
                      | true =>
                        have HG2 : Hid (G = true) := Lib.hid (by rw [HG.out]; simp [nmOk, *])
                        go_wp2_with (first | (go_at_call 69; refine (NameI_any _ _).mono ?_; rintro e w' ⟨rfl, rfl⟩))
                        go_ret
                        exact ⟨by rw [HG2.out]; rfl, hb⟩
                      | false =>
                        have HG2 : Hid (G = false) := Lib.hid (by rw [HG.out]; simp [nmOk, *])
                        go_wp2_with (first | (go_at_call 69; refine (NameI_any _ _).mono ?_; rintro e w' ⟨rfl, rfl⟩))
                        go_ret
                        exact ⟨by rw [HG2.out]; rfl, hb⟩
                  | false =>
                    have HG2 : Hid (G = false) := Lib.hid (by rw [HG.out]; simp [nmOk, *])
                    go_wp2_with (first | (go_at_call 69; refine (NameI_any _ _).mono ?_; rintro e w' ⟨rfl, rfl⟩))
                    go_ret
                    exact ⟨by rw [HG2.out]; rfl, hb⟩
              | false =>
                have HG2 : Hid (G = false) := Lib.hid (by rw [HG.out]; simp [nmOk, *])
                go_wp2_with (first | (go_at_call 69; refine (NameI_any _ _).mono ?_; rintro e w' ⟨rfl, rfl⟩))
                go_ret
                exact ⟨by rw [HG2.out]; rfl, hb⟩
          | false =>
            have HG2 : Hid (G = false) := Lib.hid (by rw [HG.out]; simp [nmOk, *])
            go_wp2_with (first | (go_at_call 69; refine (NameI_any _ _).mono ?_; rintro e w' ⟨rfl, rfl⟩))
            go_ret
            exact ⟨by rw [HG2.out]; rfl, hb⟩
        | false =>
          by_cases hzt : to = 0
          · have hdt : (to != 0) = false := by simpa using hzt
            have het : decide (to = 0) = true := by simpa using hzt
            clear hzt
            cases ua with
            | true =>
              cases un with
              | true =>
                cases uk with
                | true =>
                  have HG2 : Hid (G = true) := Lib.hid (by rw [HG.out]; simp [nmOk, *])
                  go_wp2_with (first | (go_at_call 69; refine (NameI_any _ _).mono ?_; rintro e w' ⟨rfl, rfl⟩))
                  go_ret
                  exact ⟨by rw [HG2.out]; rfl, hb⟩
                | false =>
                  cases hk : key.toList.isEmpty with
                  | true =>
                    have HG2 : Hid (G = true) := Lib.hid (by rw [HG.out]; simp [nmOk, *])
                    go_wp2_with (first | (go_at_call 69; refine (NameI_any _ _).mono ?_; rintro e w' ⟨rfl, rfl⟩))
                    go_ret
                    exact ⟨by rw [HG2.out]; rfl, hb⟩
                  | false =>
                    have HG2 : Hid (G = false) := Lib.hid (by rw [HG.out]; simp [nmOk, *])
                    go_wp2_with (first | (go_at_call 69; refine (NameI_any _ _).mono ?_; rintro e w' ⟨rfl, rfl⟩))
                    go_ret
                    exact ⟨by rw [HG2.out]; rfl, hb⟩
              | false =>
                cases hdn : n == 0 with
                | true =>
                  cases uk with
                  | true =>
                    have HG2 : Hid (G = true) := Lib.hid (by rw [HG.out]; simp [nmOk, *])
                    go_wp2_with (first | (go_at_call 69; refine (NameI_any _ _).mono ?_; rintro e w' ⟨rfl, rfl⟩))
                    go_ret
                    exact ⟨by rw [HG2.out]; rfl, hb⟩
                  | false =>
                    cases hk : key.toList.isEmpty with
                    | true =>
                      have HG2 : Hid (G = true) := Lib.hid (by rw [HG.out]; simp [nmOk, *])
                      go_wp2_with (first | (go_at_call 69; refine (NameI_any _ _).mono ?_; rintro e w' ⟨rfl, rfl⟩))
                      go_ret
                      exact ⟨by rw [HG2.out]; rfl, hb⟩
                    | false =>
                      have HG2 : Hid (G = false) := Lib.hid (by rw [HG.out]; simp [nmOk, *])
                      go_wp2_with (first | (go_at_call 69; refine (NameI_any _ _).mono ?_; rintro e w' ⟨rfl, rfl⟩))
                      go_ret
                      exact ⟨by rw [HG2.out]; rfl, hb⟩
                | false =>
                  have HG2 : Hid (G = false) := Lib.hid (by rw [HG.out]; simp [nmOk, *])
                  go_wp2_with (first | (go_at_call 69; refine (NameI_any _ _).mono ?_; rintro e w' ⟨rfl, rfl⟩))
                  go_ret
                  exact ⟨by rw [HG2.out]; rfl, hb⟩
            | false =>
              cases hda : at_ == 0 with
              | true =>
                cases un with
                | true =>
                  cases uk with
                  | true =>
                    have HG2 : Hid (G = true) := Lib.hid (by rw [HG.out]; simp [nmOk, *])
                    go_wp2_with (first | (go_at_call 69; refine (NameI_any _ _).mono ?_; rintro e w' ⟨rfl, rfl⟩))
                    go_ret
                    exact ⟨by rw [HG2.out]; rfl, hb⟩
                  | false =>
                    cases hk : key.toList.isEmpty with
                    | true =>
                      have HG2 : Hid (G = true) := Lib.hid (by rw [HG.out]; simp [nmOk, *])
                      go_wp2_with (first | (go_at_call 69; refine (NameI_any _ _).mono ?_; rintro e w' ⟨rfl, rfl⟩))
                      go_ret
                      exact ⟨by rw [HG2.out]; rfl, hb⟩
                    | false =>
                      have HG2 : Hid (G = false) := Lib.hid (by rw [HG.out]; simp [nmOk, *])
                      go_wp2_with (first | (go_at_call 69; refine (NameI_any _ _).mono ?_; rintro e w' ⟨rfl, rfl⟩))
                      go_ret
                      exact ⟨by rw [HG2.out]; rfl, hb⟩
                | false =>
                  cases hdn : n == 0 with
                  | true =>
                    cases uk with
                    | true =>
                      have HG2 : Hid (G = true) := Lib.hid (by rw [HG.out]; simp [nmOk, *])
                      go_wp2_with (first | (go_at_call 69; refine (NameI_any _ _).mono ?_; rintro e w' ⟨rfl, rfl⟩))
                      go_ret
                      exact ⟨by rw [HG2.out]; rfl, hb⟩
                    | false =>
                      cases hk : key.toList.isEmpty with
                      | true =>
                        have HG2 : Hid (G = true) := Lib.hid (by rw [HG.out]; simp [nmOk, *])
                        go_wp2_with (first | (go_at_call 69; refine (NameI_any _ _).mono ?_; rintro e w' ⟨rfl, rfl⟩))
                        go_ret
                        exact ⟨by rw [HG2.out]; rfl, hb⟩
                      | false =>
                        have HG2 : Hid (G = false) := Lib.hid (by rw [HG.out]; simp [nmOk, *])
                        go_wp2_with (first | (go_at_call 69; refine (NameI_any _ _).mono ?_; rintro e w' ⟨rfl, rfl⟩))
                        go_ret
                        exact ⟨by rw [HG2.out]; rfl, hb⟩
                  | false =>
                    have HG2 : Hid (G = false) := Lib.hid (by rw [HG.out]; simp [nmOk, *])
                    go_wp2_with (first | (go_at_call 69; refine (NameI_any _ _).mono ?_; rintro e w' ⟨rfl, rfl⟩))
                    go_ret
                    exact ⟨by rw [HG2.out]; rfl, hb⟩
              | false =>
                have HG2 : Hid (G = false) := Lib.hid (by rw [HG.out]; simp [nmOk, *])
                go_wp2_with (first | (go_at_call 69; refine (NameI_any _ _).mono ?_; rintro e w' ⟨rfl, rfl⟩))
                go_ret
                exact ⟨by rw [HG2.out]; rfl, hb⟩
          · have hdt : (to != 0) = true := by simpa using hzt
            have het : decide (to = 0) = false := by simpa using hzt
            clear hzt
            have HG2 : Hid (G = false) := Lib.hid (by rw [HG.out]; simp [nmOk, *])
            go_wp2_with (first | (go_at_call 69; refine (NameI_any _ _).mono ?_; rintro e w' ⟨rfl, rfl⟩))
            go_ret
            exact ⟨by rw [HG2.out]; rfl, hb⟩
      | false =>
        have HG2 : Hid (G = false) := Lib.hid (by rw [HG.out]; simp [nmOk, *])
        go_wp2_with (first | (go_at_call 69; refine (NameI_any _ _).mono ?_; rintro e w' ⟨rfl, rfl⟩))
        go_ret
        exact ⟨by rw [HG2.out]; rfl, hb⟩
    | false =>
      by_cases hzf : fr = 0
      · have hdf : (fr != 0) = false := by simpa using hzf
        have hef : decide (fr = 0) = true := by simpa using hzf
        clear hzf
        cases ut with
        | true =>
          cases hqt : isNm to with
          | true =>
            cases ua with
            | true =>
              cases un with
              | true =>
                cases uk with
                | true =>
                  have HG2 : Hid (G = true) := Lib.hid (by rw [HG.out]; simp [nmOk, *])
                  go_wp2_with (first | (go_at_call 69; refine (NameI_any _ _).mono ?_; rintro e w' ⟨rfl, rfl⟩))
                  go_ret
                  exact ⟨by rw [HG2.out]; rfl, hb⟩
                | false =>
                  cases hk : key.toList.isEmpty with
                  | true =>
                    have HG2 : Hid (G = true) := Lib.hid (by rw [HG.out]; simp [nmOk, *])
                    go_wp2_with (first | (go_at_call 69; refine (NameI_any _ _).mono ?_; rintro e w' ⟨rfl, rfl⟩))
                    go_ret
                    exact ⟨by rw [HG2.out]; rfl, hb⟩
                  | false =>
                    have HG2 : Hid (G = false) := Lib.hid (by rw [HG.out]; simp [nmOk, *])
                    go_wp2_with (first | (go_at_call 69; refine (NameI_any _ _).mono ?_; rintro e w' ⟨rfl, rfl⟩))
                    go_ret
                    exact ⟨by rw [HG2.out]; rfl, hb⟩
              | false =>
                cases hdn : n == 0 with
                | true =>
                  cases uk with
                  | true =>
                    have HG2 : Hid (G = true) := Lib.hid (by rw [HG.out]; simp [nmOk, *])
                    go_wp2_with (first | (go_at_call 69; refine (NameI_any _ _).mono ?_; rintro e w' ⟨rfl, rfl⟩))
                    go_ret
                    exact ⟨by rw [HG2.out]; rfl, hb⟩
                  | false =>
                    cases hk : key.toList.isEmpty with
                    | true =>
                      have HG2 : Hid (G = true) := Lib.hid (by rw [HG.out]; simp [nmOk, *])
                      go_wp2_with (first | (go_at_call 69; refine (NameI_any _ _).mono ?_; rintro e w' ⟨rfl, rfl⟩))
                      go_ret
                      exact ⟨by rw [HG2.out]; rfl, hb⟩
                    | false =>
                      have HG2 : Hid (G = false) := Lib.hid (by rw [HG.out]; simp [nmOk, *])
                      go_wp2_with (first | (go_at_call 69; refine (NameI_any _ _).mono ?_; rintro e w' ⟨rfl, rfl⟩))
                      go_ret
                      exact ⟨by rw [HG2.out]; rfl, hb⟩
                | false =>
                  have HG2 : Hid (G = false) := Lib.hid (by rw [HG.out]; simp [nmOk, *])
                  go_wp2_with (first | (go_at_call 69; refine (NameI_any _ _).mono ?_; rintro e w' ⟨rfl, rfl⟩))
                  go_ret
                  exact ⟨by rw [HG2.out]; rfl, hb⟩
            | false =>
              cases hda : at_ == 0 with
              | true =>
                cases un with
                | true =>
                  cases uk with
                  | true =>
                    have HG2 : Hid (G = true) := Lib.hid (by rw [HG.out]; simp [nmOk, *])
                    go_wp2_with (first | (go_at_call 69; refine (NameI_any _ _).mono ?_; rintro e w' ⟨rfl, rfl⟩))
                    go_ret
                    exact ⟨by rw [HG2.out]; rfl, hb⟩
                  | false =>
                    cases hk : key.toList.isEmpty with
                    | true =>
                      have HG2 : Hid (G = true) := Lib.hid (by rw [HG.out]; simp [nmOk, *])
                      go_wp2_with (first | (go_at_call 69; refine (NameI_any _ _).mono ?_; rintro e w' ⟨rfl, rfl⟩))
                      go_ret
                      exact ⟨by rw [HG2.out]; rfl, hb⟩
                    | false =>
                      have HG2 : Hid (G = false) := Lib.hid (by rw [HG.out]; simp [nmOk, *])
                      go_wp2_with (first | (go_at_call 69; refine (NameI_any _ _).mono ?_; rintro e w' ⟨rfl, rfl⟩))
                      go_ret
                      exact ⟨by rw [HG2.out]; rfl, hb⟩
                | false =>
                  cases hdn : n == 0 with
                  | true =>
                    cases uk with
                    | true =>
                      have HG2 : Hid (G = true) := Lib.hid (by rw [HG.out]; simp [nmOk, *])
                      go_wp2_with (first | (go_at_call 69; refine (NameI_any _ _).mono ?_; rintro e w' ⟨rfl, rfl⟩))
                      go_ret
                      exact ⟨by rw [HG2.out]; rfl, hb⟩
                    | false =>
                      cases hk : key.toList.isEmpty with
                      | true =>
                        have HG2 : Hid (G = true) := Lib.hid (by rw [HG.out]; simp [nmOk, *])
                        go_wp2_with (first | (go_at_call 69; refine (NameI_any _ _).mono ?_; rintro e w' ⟨rfl, rfl⟩))
                        go_ret
                        exact ⟨by rw [HG2.out]; rfl, hb⟩
                      | false =>
                        have HG2 : Hid (G = false) := Lib.hid (by rw [HG.out]; simp [nmOk, *])
                        go_wp2_with (first | (go_at_call 69; refine (NameI_any _ _).mono ?_; rintro e w' ⟨rfl, rfl⟩))
                        go_ret
                        exact ⟨by rw [HG2.out]; rfl, hb⟩
                  | false =>
                    have HG2 : Hid (G = false) := Lib.hid (by rw [HG.out]; simp [nmOk, *])
                    go_wp2_with (first | (go_at_call 69; refine (NameI_any _ _).mono ?_; rintro e w' ⟨rfl, rfl⟩))
                    go_ret
                    exact ⟨by rw [HG2.out]; rfl, hb⟩
              | false =>
                have HG2 : Hid (G = false) := Lib.hid (by rw [HG.out]; simp [nmOk, *])
                go_wp2_with (first | (go_at_call 69; refine (NameI_any _ _).mono ?_; rintro e w' ⟨rfl, rfl⟩))
                go_ret
                exact ⟨by rw [HG2.out]; rfl, hb⟩
          | false =>
            have HG2 : Hid (G = false) := Lib.hid (by rw [HG.out]; simp [nmOk, *])
            go_wp2_with (first | (go_at_call 69; refine (NameI_any _ _).mono ?_; rintro e w' ⟨rfl, rfl⟩))
            go_ret
            exact ⟨by rw [HG2.out]; rfl, hb⟩
        | false =>
          by_cases hzt : to = 0
          · have hdt : (to != 0) = false := by simpa using hzt
            have het : decide (to = 0) = true := by simpa using hzt
            clear hzt
            cases ua with
            | true =>
              cases un with
              | true =>
                cases uk with
                | true =>
                  have HG2 : Hid (G = true) := Lib.hid (by rw [HG.out]; simp [nmOk, *])
                  go_wp2_with (first | (go_at_call 69; refine (NameI_any _ _).mono ?_; rintro e w' ⟨rfl, rfl⟩))
                  go_ret
                  exact ⟨by rw [HG2.out]; rfl, hb⟩
                | false =>
                  cases hk : key.toList.isEmpty with
                  | true =>
                    have HG2 : Hid (G = true) := Lib.hid (by rw [HG.out]; simp [nmOk, *])
                    go_wp2_with (first | (go_at_call 69; refine (NameI_any _ _).mono ?_; rintro e w' ⟨rfl, rfl⟩))
                    go_ret
                    exact ⟨by rw [HG2.out]; rfl, hb⟩
                  | false =>
                    have HG2 : Hid (G = false) := Lib.hid (by rw [HG.out]; simp [nmOk, *])
                    go_wp2_with (first | (go_at_call 69; refine (NameI_any _ _).mono ?_; rintro e w' ⟨rfl, rfl⟩))
                    go_ret
                    exact ⟨by rw [HG2.out]; rfl, hb⟩
              | false =>
                cases hdn : n == 0 with
                | true =>
                  cases uk with
                  | true =>
                    have HG2 : Hid (G = true) := Lib.hid (by rw [HG.out]; simp [nmOk, *])
                    go_wp2_with (first | (go_at_call 69; refine (NameI_any _ _).mono ?_; rintro e w' ⟨rfl, rfl⟩))
                    go_ret
                    exact ⟨by rw [HG2.out]; rfl, hb⟩
                  | false =>
                    cases hk : key.toList.isEmpty with
                    | true =>
                      have HG2 : Hid (G = true) := Lib.hid (by rw [HG.out]; simp [nmOk, *])
                      go_wp2_with (first | (go_at_call 69; refine (NameI_any _ _).mono ?_; rintro e w' ⟨rfl, rfl⟩))
                      go_ret
                      exact ⟨by rw [HG2.out]; rfl, hb⟩
                    | false =>
                      have HG2 : Hid (G = false) := Lib.hid (by rw [HG.out]; simp [nmOk, *])
                      go_wp2_with (first | (go_at_call 69; refine (NameI_any _ _).mono ?_; rintro e w' ⟨rfl, rfl⟩))
                      go_ret
                      exact ⟨by rw [HG2.out]; rfl, hb⟩
                | false =>
                  have HG2 : Hid (G = false) := Lib.hid (by rw [HG.out]; simp [nmOk, *])
                  go_wp2_with (first | (go_at_call 69; refine (NameI_any _ _).mono ?_; rintro e w' ⟨rfl, rfl⟩))
                  go_ret
                  exact ⟨by rw [HG2.out]; rfl, hb⟩
            | false =>
              cases hda : at_ == 0 with
              | true =>
                cases un with
                | true =>
                  cases uk with
                  | true =>
                    have HG2 : Hid (G = true) := Lib.hid (by rw [HG.out]; simp [nmOk, *])
                    go_wp2_with (first | (go_at_call 69; refine (NameI_any _ _).mono ?_; rintro e w' ⟨rfl, rfl⟩))
                    go_ret
                    exact ⟨by rw [HG2.out]; rfl, hb⟩
                  | false =>
                    cases hk : key.toList.isEmpty with
                    | true =>
                      have HG2 : Hid (G = true) := Lib.hid (by rw [HG.out]; simp [nmOk, *])
                      go_wp2_with (first | (go_at_call 69; refine (NameI_any _ _).mono ?_; rintro e w' ⟨rfl, rfl⟩))
                      go_ret
                      exact ⟨by rw [HG2.out]; rfl, hb⟩
                    | false =>
                      have HG2 : Hid (G = false) := Lib.hid (by rw [HG.out]; simp [nmOk, *])
                      go_wp2_with (first | (go_at_call 69; refine (NameI_any _ _).mono ?_; rintro e w' ⟨rfl, rfl⟩))
                      go_ret
                      exact ⟨by rw [HG2.out]; rfl, hb⟩
                | false =>
                  cases hdn : n == 0 with
                  | true =>
                    cases uk with
                    | true =>
                      have HG2 : Hid (G = true) := Lib.hid (by rw [HG.out]; simp [nmOk, *])
                      go_wp2_with (first | (go_at_call 69; refine (NameI_any _ _).mono ?_; rintro e w' ⟨rfl, rfl⟩))
                      go_ret
                      exact ⟨by rw [HG2.out]; rfl, hb⟩
                    | false =>
                      cases hk : key.toList.isEmpty with
                      | true =>
                        have HG2 : Hid (G = true) := Lib.hid (by rw [HG.out]; simp [nmOk, *])
                        go_wp2_with (first | (go_at_call 69; refine (NameI_any _ _).mono ?_; rintro e w' ⟨rfl, rfl⟩))
                        go_ret
                        exact ⟨by rw [HG2.out]; rfl, hb⟩
                      | false =>
                        have HG2 : Hid (G = false) := Lib.hid (by rw [HG.out]; simp [nmOk, *])
                        go_wp2_with (first | (go_at_call 69; refine (NameI_any _ _).mono ?_; rintro e w' ⟨rfl, rfl⟩))
                        go_ret
                        exact ⟨by rw [HG2.out]; rfl, hb⟩
                  | false =>
                    have HG2 : Hid (G = false) := Lib.hid (by rw [HG.out]; simp [nmOk, *])
                    go_wp2_with (first | (go_at_call 69; refine (NameI_any _ _).mono ?_; rintro e w' ⟨rfl, rfl⟩))
                    go_ret
                    exact ⟨by rw [HG2.out]; rfl, hb⟩
              | false =>
                have HG2 : Hid (G = false) := Lib.hid (by rw [HG.out]; simp [nmOk, *])
                go_wp2_with (first | (go_at_call 69; refine (NameI_any _ _).mono ?_; rintro e w' ⟨rfl, rfl⟩))
                go_ret
                exact ⟨by rw [HG2.out]; rfl, hb⟩
          · have hdt : (to != 0) = true := by simpa using hzt
            have het : decide (to = 0) = false := by simpa using hzt
            clear hzt
            have HG2 : Hid (G = false) := Lib.hid (by rw [HG.out]; simp [nmOk, *])
            go_wp2_with (first | (go_at_call 69; refine (NameI_any _ _).mono ?_; rintro e w' ⟨rfl, rfl⟩))
            go_ret
            exact ⟨by rw [HG2.out]; rfl, hb⟩
      · have hdf : (fr != 0) = true := by simpa using hzf
        have hef : decide (fr = 0) = false := by simpa using hzf
        clear hzf
        have HG2 : Hid (G = false) := Lib.hid (by rw [HG.out]; simp [nmOk, *])
        go_wp2_with (first | (go_at_call 69; refine (NameI_any _ _).mono ?_; rintro e w' ⟨rfl, rfl⟩))
        go_ret
        exact ⟨by rw [HG2.out]; rfl, hb⟩
end Go.Proofs.Ytbhdgeoljlhmcaa
