/- The error of an operation, by the document. -/
import Derived.Outline
import Derived.Test.YtbhdgeoljlhmcaaQB21
import Derived.Test.YtbhdgeoljlhmcaaQB22
namespace Go.Proofs.Ytbhdgeoljlhmcaa
open Go.RowKit Go.Proofs.Ytbhdgeoljlhmcaa.Nm Go.Proofs.Ytbhdgeoljlhmcaa.St
set_option linter.unusedSimpArgs false
theorem own_name {w : World} {B p c : Nat} {ns : List (Option Nat)} (h : w.ownsRow B 3 1 (.slice (some ⟨p, 0, none⟩) 8 c) 8 (ints (ns.map numN))) {i : Nat} (hi : i < 8) {o : Option Nat} (ho : ns[i]? = some o) : w.cell? ⟨p, i, none⟩ = some (.int .i64 (numN o)) := by
  rw [h.cellAt i (by omega)]
  unfold ints
  rw [List.getElem?_map, List.getElem?_map, ho]; rfl
theorem rowOp {w : World} {g : Nat} {o : OpV} (h : w.heap[g]? = some (.cells o.cells 39 (0, 0))) : RowAt w 39 ⟨g, 0, none⟩ o.cells := row_mid h (D := o.cells) (n := 6) rfl u39 rfl rfl info39
theorem formS_some {o : OpV} (h : formS o = true) : useS o.kind = some (useG o.kind) := by
  unfold formS at h
  cases hu : useS o.kind with
  | none => rw [hu] at h; simp at h
  | some u => unfold useG; rw [hu]; rfl
theorem kind_use {o : OpV} (h : formS o = true) (hk : (useG o.kind).kind ≠ 0) : (useG o.kind).fr = true ∧ (o.kind != 2) = true ∧ (isDk o.kind = decide ((useG o.kind).kind = 2)) ∧ ((useG o.kind).kind = 1 ∨ (useG o.kind).kind = 2) := by
  obtain ⟨k, fr, to, at_, n, key⟩ := o
  have := formS_kind h
  simp only at this hk ⊢
  rcases this with rfl | rfl | rfl | rfl | rfl | rfl | rfl | rfl | rfl | rfl | rfl <;> first | exact absurd rfl hk | exact ⟨rfl, rfl, rfl, Or.inl rfl⟩ | exact ⟨rfl, rfl, rfl, Or.inr rfl⟩
set_option maxHeartbeats 8000000 in
set_option maxRecDepth 100000 in
theorem checkI_any (v : Value) (A : Sto) (B : Nat) (hA : Good A) (o : OpV) (w : World) (h : DAt w B v A) :
    Calls Try.prog 63 #[v, .agg o.cells] w fun e w' => e = .returned (.int .i64 (refA A o)) ∧ Below w.heap.size w w' := by
  obtain ⟨R, hR⟩ : ∃ R, R = refB (A.buf o.fr) o := ⟨_, rfl⟩
  rw [refA_eq, ← hR]
  have HR := Lib.hid hR
  have HA := Lib.hid hA
  obtain ⟨nv, bv, rfl, hn, hbs⟩ := h
  obtain ⟨p, c, rfl, -⟩ := own_p hn (by omega)
  have HN := Lib.hid hn
  have HBS := Lib.hid hbs
  obtain ⟨M, hM⟩ : ∃ M, M = A.made := ⟨_, rfl⟩
  obtain ⟨sh, hsh⟩ : ∃ sh, sh = A.shared := ⟨_, rfl⟩
  rw [← hM, ← hsh]
  clear hR hA hn hbs hM hsh
  obtain ⟨n0, hn0⟩ : ∃ n0, n0 = Value.slice (some ⟨p, 0, none⟩) 8 c := ⟨_, rfl⟩
  go_enter Try.func63, Try.ntmps63
  go_upto_region 1 with (fail)
  refine wp_world (fun W => Below w.heap.size w W ∧ W.heap[w.heap.size]? = some (.cells (sc66 (.slice (some ⟨p, 0, none⟩) 8 c) bv M sh) 66 (0, 0)) ∧ W.heap[w.heap.size + 1]? = some (.cells o.cells 39 (0, 0))) ⟨((Below.refl w.heap.size w).alloc (Nat.le_refl _) _).alloc (by simp) _, ha_old (ha_new rfl), ha_new (by simp)⟩ ?_
  rintro W ⟨hb, g1, g2⟩
  replace HN := Lib.hid (own_below HN.out hb)
  replace HBS := Lib.hid (HBS.out.below hb)
  apply wp_region_lit
  ((with_reducible apply wl_rowG); exact rfl; exact rfl; exact rowOp g2)
  try simp only [Zq]
  refine wl_ck rfl (fun K hK => ?_); go_simp; refine ⟨_, _, ⟨rfl, rfl⟩, hK _ _ ⟨_, formI_any o _, ?_⟩⟩; clear hK K; rintro e w1 ⟨rfl, hb1⟩; refine ⟨_, rfl, ?_⟩; simp only [Zq]
  replace g1 := below_look hb1 g1
  replace g2 := below_look hb1 g2
  replace HN := Lib.hid (own_below HN.out hb1)
  replace HBS := Lib.hid (HBS.out.below hb1)
  replace hb := hb.trans (hb1.mono hb.size)
  clear hb1
  refine wl_k rfl (fun K hK => ?_); go_simp; refine hK _ ?_; clear hK K
  cases hf : formS o with
  | false =>
    go_wp2_with fail
    go_ret
    exact ⟨by rw [HR.out]; simp [refB, hf], hb⟩
  | true =>
    have x0 := (op_cell g2).1
    go_upto_region 3 with (fail)
    apply wp_region_lit
    refine wl_k rfl (fun K hK => ?_); go_simp; refine hK _ ?_; clear hK K
    ((with_reducible apply wl_oneG); exact rfl; exact rfl; exact one3 x0); try simp only [Zq]
    refine wl_ck rfl (fun K hK => ?_); go_simp; refine ⟨_, _, ⟨rfl, rfl⟩, hK _ _ ⟨_, usesI_any o.kind _, ?_⟩⟩; clear hK K; rintro e w2 ⟨uv, rfl, hu, hb1⟩; refine ⟨_, rfl, ?_⟩; simp only [Zq]
    unfold UsAt at hu
    rw [formS_some hf] at hu
    simp only at hu
    obtain ⟨pu, rfl, hpu⟩ := hu
    replace g1 := below_look hb1 g1
    replace g2 := below_look hb1 g2
    replace HN := Lib.hid (own_below HN.out hb1)
    replace HBS := Lib.hid (HBS.out.below hb1)
    replace hb := hb.trans (hb1.mono hb.size)
    clear hb1 x0
    refine wl_k rfl (fun K hK => ?_); go_simp; refine hK _ ?_; clear hK K
    clear hn0 n0
    go_upto_region 4 with (fail)
    apply wp_region_lit
    refine wl_new (fun ev w => ex_alloc105 rfl ev w) ?_
    intro W5 p6 hb5 hl5 h5
    have G1 := Lib.hid g1
    have G2 := Lib.hid g2
    have GU := Lib.hid hpu
    have HB2 := Lib.hid hb
    have HBW := Lib.hid hb5
    replace g1 := below_look hb5 g1
    replace g2 := below_look hb5 g2
    replace hpu := below_look hb5 hpu
    replace hb := hb.trans (hb5.mono hb.size)
    clear hb5
    obtain ⟨x0, x1, x2, x3, x4, x5⟩ := op_cell g2
    obtain ⟨y0, y1, y2, y3, y4⟩ := uc_cell hpu
    by_cases hk0 : (useG o.kind).kind = 0
    · obtain ⟨z0, -, -, -, -, -⟩ := rc_cell h5
      obtain ⟨k, fr, to, at_, n, key⟩ := o
      have hkk := formS_kind hf
      simp only at hkk hk0 x0 x1 x2 x3 x4 x5 y0 y4 HR
      have HB0 := h5
      rcases hkk with rfl | rfl | rfl | rfl | rfl | rfl | rfl | rfl | rfl | rfl | rfl
      · have hu : useG 1 = ⟨false, true, false, false, false, 0⟩ := rfl
        rw [hu] at y0 y4
        simp only at y0 y4
        go_wp2_with fail
        go_ret
        exact ⟨by rw [HR.out]; simp [refB, hf, hu], hb⟩
      · have hu : useG 2 = ⟨true, true, false, false, false, 0⟩ := rfl
        rw [hu] at y0 y4
        simp only at y0 y4
        go_wp2_with fail
        go_ret
        exact ⟨by rw [HR.out]; simp [refB, hf, hu], hb⟩
      · exact absurd hk0 (by decide)
      · exact absurd hk0 (by decide)
      · exact absurd hk0 (by decide)
      · exact absurd hk0 (by decide)
      · exact absurd hk0 (by decide)
      · by_cases hn0 : n < 0
        · have hu : useG 8 = ⟨false, true, false, true, false, 0⟩ := rfl
          rw [hu] at y0 y4
          simp only at y0 y4
          go_wp2_with fail
          go_ret
          exact ⟨by rw [HR.out]; simp [refB, hf, hu, hn0], hb⟩
        · by_cases hn1 : 2147483647 < n
          · have hu : useG 8 = ⟨false, true, false, true, false, 0⟩ := rfl
            rw [hu] at y0 y4
            simp only at y0 y4
            go_wp2_with fail
            go_ret
            exact ⟨by rw [HR.out]; simp [refB, hf, hu, hn0, hn1], hb⟩
          · have hu : useG 8 = ⟨false, true, false, true, false, 0⟩ := rfl
            rw [hu] at y0 y4
            simp only at y0 y4
            go_wp2_with fail
            go_ret
            exact ⟨by rw [HR.out]; simp [refB, hf, hu, hn0, hn1], hb⟩
      · exact absurd hk0 (by decide)
      · exact absurd hk0 (by decide)
      · exact absurd hk0 (by decide)
    · obtain ⟨k, fr, to, at_, n, key⟩ := o
      obtain ⟨u1, u2, u3, u4⟩ := kind_use hf hk0
      have hfr := form_fr hf
      have hkk := formS_kind hf
      simp only at hkk hk0 x0 x1 x2 x3 x4 x5 y0 y4 HR u1 u2 u3 u4 hfr G2 g2
      obtain ⟨f, rfl⟩ : ∃ f : Nat, fr = (f : Int) := ⟨fr.toNat, by omega⟩
      have hfI := hfr.2
      have hf8 : f < 8 := by omega
      obtain ⟨eK, heK⟩ : ∃ e, e = isDk k := ⟨_, rfl⟩
      have HDK : Hid (∀ W, Calls Try.prog 83 #[.int .i64 k] W fun e w' => e = .returned (.bool eK) ∧ Below W.heap.size W w') := Lib.hid (fun W => (dictI_any k W).mono (by rintro e w' ⟨rfl, rfl⟩; rw [heK]; exact ⟨rfl, Below.refl _ _⟩))
      rw [u1] at y0
      have HU4 := Lib.hid u4
      have HK0 := Lib.hid hk0
      have HEK : Hid (eK = decide ((useG k).kind = 2)) := Lib.hid (heK.trans u3)
      clear u1 u3 u4 hk0 heK hfr
      obtain ⟨a0, a1, -, -⟩ := s66_cell G1.out
      have hnm := own_name HN.out hf8 (id_names HA.out (n := (f : Int)) (by omega) hfI)
      have hSS : Kept [] w2 W5.drew := kept_of HBW.out.drew
      have e0 := (op_cell G2.out).1
      have e1 := (op_cell G2.out).2.1
      simp only at e0 e1
      cases hid : A.id (f : Int) with
      | none =>
        rw [hid, show numN none = -1 from rfl] at hnm
        go_upto_region 6 with (fail)
        refine wp_region_held_drew (S := Kept [] w2) mixed hSS (fun hS => ?_)
        refine hk3 (i := 0) rfl (by kernel_rfl) Zh hS rfl (fun K hK => ?_); go_simp; refine hK _ ?_; clear hK K; try simp only [Zq]
        refine hv3 (i := 1) rfl (by kernel_rfl) Zg hS rfl (fun w' hw' => ex_one rfl (one63 (hw'.cell a0 (by simp <;> omega)))) ?_; try simp only [Zq]
        refine hk3 (i := 2) rfl (by kernel_rfl) Zh hS rfl (fun K hK => ?_); go_simp; refine hK _ ?_; clear hK K; try simp only [Zq]
        refine hv3 (i := 3) rfl (by kernel_rfl) Zg hS rfl (fun w' hw' => ex_one rfl (one3 (hw'.cell e1 (by simp <;> omega)))) ?_; try simp only [Zq]
        refine hk3 (i := 4) rfl (by kernel_rfl) Zh hS rfl (fun K hK => ?_); go_simp; refine hK _ ?_; clear hK K; try simp only [Zq]
        refine hv3 (i := 5) rfl (by kernel_rfl) Zg hS rfl (fun w' hw' => ex_one rfl (one3 (hw'.cell hnm (by simp <;> omega)))) ?_; try simp only [Zq]
        refine hk3 (i := 6) rfl (by kernel_rfl) Zh hS rfl (fun K hK => ?_); go_simp; refine hK _ ?_; clear hK K; try simp only [Zq]
        refine hk3 (i := 7) rfl (by kernel_rfl) Zh hS rfl (fun K hK => ?_); go_simp; refine hK _ ?_; clear hK K; try simp only [Zq]
        refine hs3 (i := 8) rfl (by kernel_rfl) Zg hS rfl ?_; simp only [Zy]
        refine hs3 (i := 9) rfl (by kernel_rfl) Zg hS rfl ?_; simp only [Zy]
        refine hs3 (i := 10) rfl (by kernel_rfl) Zg hS rfl ?_; simp only [Zy]
        refine hs3 (i := 11) rfl (by kernel_rfl) Zg hS rfl ?_; simp only [Zy]
        refine hs3 (i := 12) rfl (by kernel_rfl) Zg hS rfl ?_; simp only [Zy]
        refine hs3 (i := 13) rfl (by kernel_rfl) Zg hS rfl ?_; simp only [Zy]
        refine hs3 (i := 14) rfl (by kernel_rfl) Zg hS rfl ?_; simp only [Zy]
        refine hs3 (i := 15) rfl (by kernel_rfl) Zg hS rfl ?_; simp only [Zy]
        refine hs3 (i := 16) rfl (by kernel_rfl) Zg hS rfl ?_; simp only [Zy]
        refine hs3 (i := 17) rfl (by kernel_rfl) Zg hS rfl ?_; simp only [Zy]
        refine hs3 (i := 18) rfl (by kernel_rfl) Zg hS rfl ?_; simp only [Zy]
        refine hs3 (i := 19) rfl (by kernel_rfl) Zg hS rfl ?_; simp only [Zy]
        refine hs3 (i := 20) rfl (by kernel_rfl) Zg hS rfl ?_; simp only [Zy]
        refine hs3 (i := 21) rfl (by kernel_rfl) Zg hS rfl ?_; simp only [Zy]
        refine hs3 (i := 22) rfl (by kernel_rfl) Zg hS rfl ?_; simp only [Zy]
        refine hk3 (i := 23) rfl (by kernel_rfl) Zh hS rfl (fun K hK => ?_); go_simp; refine hK _ ?_; clear hK K; try simp only [Zq]
        refine wpAnyH_done (by kernel_rfl) ?_ _
        have hb9 := HB2.out.trans ((hS.toBelow (Nat.le_refl _) (by simp)).mono HB2.out.size)
        clear hS
        go_wp2_with fail
        go_ret
        exact ⟨by rw [HR.out, buf_none hid]; unfold refB; rw [if_neg (by simp [hf]), if_pos ⟨HK0.out, fun e => HK0.out e.symm⟩]; rfl, hb9⟩
      | some i =>
        rw [hid, show numN (some i) = (i : Int) from rfl] at hnm
        have hil := HA.out.there f i (by have := id_names HA.out (n := (f : Int)) (by omega) hfI; rwa [hid] at this)
        obtain ⟨b, hbi⟩ : ∃ b, A.bufs[i]? = some b := ⟨_, List.getElem?_eq_getElem hil⟩
        obtain ⟨q, cap, cur, rfl, -, hcur, hall⟩ := HBS.out.cells (by omega)
        obtain ⟨lv, kv, vv, uv, hx, hc5, hRS, -⟩ := hall i b hbi
        have HX := Lib.hid hx
        have HRS := Lib.hid hRS
        have HBF := Lib.hid (buf_of hid hbi)
        have HGB := Lib.hid (HA.out.bufs i b hbi)
        obtain ⟨n2, hn2⟩ : ∃ n2, n2 = A.bufs.length := ⟨_, rfl⟩
        rw [← hn2] at a1 hil
        have hilI : (i : Int) < (n2 : Int) := by omega
        have hi0 : ¬ (i : Int) < 0 := by omega
        obtain ⟨dd, hdd⟩ : ∃ dd, dd = isD b := ⟨_, rfl⟩
        rw [← hdd] at hc5
        have HDD := Lib.hid hdd
        clear hall hx hRS hbi hid hn2 hdd
        go_upto_region 6 with (fail)
        refine wp_region_held_drew (S := Kept [] w2) mixed hSS (fun hS => ?_)
        clear hSS
        replace h5 : W5.drew.heap[p6]? = _ := h5
        generalize W5.drew = wd at *
        refine hk3 (i := 0) rfl (by kernel_rfl) Zh hS rfl (fun K hK => ?_); go_simp; refine hK _ ?_; clear hK K; try simp only [Zq]
        refine hv3 (i := 1) rfl (by kernel_rfl) Zg hS rfl (fun w' hw' => ex_one rfl (one63 (hw'.cell a0 (by simp <;> omega)))) ?_; try simp only [Zq]
        refine hk3 (i := 2) rfl (by kernel_rfl) Zh hS rfl (fun K hK => ?_); go_simp; refine hK _ ?_; clear hK K; try simp only [Zq]
        refine hv3 (i := 3) rfl (by kernel_rfl) Zg hS rfl (fun w' hw' => ex_one rfl (one3 (hw'.cell e1 (by simp <;> omega)))) ?_; try simp only [Zq]
        refine hk3 (i := 4) rfl (by kernel_rfl) Zh hS rfl (fun K hK => ?_); go_simp; refine hK _ ?_; clear hK K; try simp only [Zq]
        refine hv3 (i := 5) rfl (by kernel_rfl) Zg hS rfl (fun w' hw' => ex_one rfl (one3 (hw'.cell hnm (by simp <;> omega)))) ?_; try simp only [Zq]
        refine hk3 (i := 6) rfl (by kernel_rfl) Zh hS rfl (fun K hK => ?_); go_simp; refine hK _ ?_; clear hK K; try simp only [Zq]
        refine hk3 (i := 7) rfl (by kernel_rfl) Zh hS rfl (fun K hK => ?_); go_simp; refine hK _ ?_; clear hK K; try simp only [Zq]
        refine hk3 (i := 8) rfl (by kernel_rfl) Zh hS rfl (fun K hK => ?_); go_simp; refine hK _ ?_; clear hK K; try simp only [Zq]
        refine hv3 (i := 9) rfl (by kernel_rfl) Zg hS rfl (fun w' hw' => ex_one rfl (one64 (hw'.cell a1 (by simp <;> omega)))) ?_; try simp only [Zq]
        refine hk3 (i := 10) rfl (by kernel_rfl) Zh hS rfl (fun K hK => ?_); go_simp; refine hK _ ?_; clear hK K; try simp only [Zq]
        refine hv3 (i := 11) rfl (by kernel_rfl) Zg hS rfl (fun w' hw' => ex_one rfl (one63 (hw'.cell a0 (by simp <;> omega)))) ?_; try simp only [Zq]
        refine hk3 (i := 12) rfl (by kernel_rfl) Zh hS rfl (fun K hK => ?_); go_simp; refine hK _ ?_; clear hK K; try simp only [Zq]
        refine hv3 (i := 13) rfl (by kernel_rfl) Zg hS rfl (fun w' hw' => ex_one rfl (one3 (hw'.cell e1 (by simp <;> omega)))) ?_; try simp only [Zq]
        refine hk3 (i := 14) rfl (by kernel_rfl) Zh hS rfl (fun K hK => ?_); go_simp; refine hK _ ?_; clear hK K; try simp only [Zq]
        refine hv3 (i := 15) rfl (by kernel_rfl) Zg hS rfl (fun w' hw' => ex_one rfl (one3 (hw'.cell hnm (by simp <;> omega)))) ?_; try simp only [Zq]
        refine hk3 (i := 16) rfl (by kernel_rfl) Zh hS rfl (fun K hK => ?_); go_simp; refine hK _ ?_; clear hK K; try simp only [Zq]
        refine hk3 (i := 17) rfl (by kernel_rfl) Zh hS rfl (fun K hK => ?_); go_simp; refine hK _ ?_; clear hK K; try simp only [Zq]
        refine hv3 (i := 18) rfl (by kernel_rfl) Zg hS rfl (fun w' hw' => ex_one rfl (one4 (hw'.cell hc5 (by simp <;> omega)))) ?_; try simp only [Zq]
        refine hk3 (i := 19) rfl (by kernel_rfl) Zh hS rfl (fun K hK => ?_); go_simp; refine hK _ ?_; clear hK K; try simp only [Zq]
        refine hv3 (i := 20) rfl (by kernel_rfl) Zg hS rfl (fun w' hw' => ex_one rfl (one3 (hw'.cell e0 (by simp <;> omega)))) ?_; try simp only [Zq]
        refine ha_call (i := 21) (by kernel_rfl) rfl rfl (fun K hK => ?_); go_simp; refine ⟨_, _, ⟨rfl, rfl⟩, hK _ _ ⟨_, HDK.out _, ?_⟩⟩; clear hK K; rintro e w6 ⟨rfl, hb1⟩; refine ⟨_, rfl, hS.below hb1, ?_⟩; replace hS := hS.below hb1; (replace h5 := below_look hb1 h5; clear hb1); try simp only [Zq]
        refine hk3 (i := 22) rfl (by kernel_rfl) Zh hS rfl (fun K hK => ?_); go_simp; refine hK _ ?_; clear hK K; try simp only [Zq]
        refine hk3 (i := 23) rfl (by kernel_rfl) Zh hS rfl (fun K hK => ?_); go_simp; refine hK _ ?_; clear hK K; try simp only [Zq]
        refine wpAnyH_done (by kernel_rfl) ?_ _
        cases hde : (dd == eK) with
        | false =>
          have hb9 := HB2.out.trans ((hS.toBelow (Nat.le_refl _) (by simp)).mono HB2.out.size)
          have hkd : b.kd ≠ (useG k).kind := fun e => by
            have h1 := HDD.out; have h2 := HEK.out
            unfold isD at h1; rw [e] at h1
            rw [h1, h2] at hde
            simp only [beq_eq_false_iff_ne] at hde
            exact hde rfl
          clear hS
          go_wp2_with fail
          go_ret
          exact ⟨by rw [HR.out, HBF.out]; unfold refB; rw [if_neg (by simp [hf]), if_pos ⟨HK0.out, hkd⟩]; rfl, hb9⟩
        | true =>
          have hkd : b.kd = (useG k).kind := by
            have h1 := HDD.out; have h2 := HEK.out
            have h3 : dd = eK := by simpa using hde
            rw [h1, h2] at h3
            unfold isD at h3
            have h4 : b.kd = 1 ∨ b.kd = 2 := by rcases HGB.out with h | h <;> simp [h.1]
            rcases h4 with e | e <;> rcases HU4.out with e2 | e2 <;> rw [e, e2] at h3 ⊢ <;> simp at h3
          have HKD := Lib.hid hkd
          clear hkd hde
          go_upto_region 8 with (fail)
          have hSS : Kept [] w2 w6.drew := hS.below (Below.refl _ w6).drew
          replace h5 : w6.drew.heap[p6]? = _ := h5
          refine wp_region_held_drew (S := Kept [] w2) mixed hSS (fun hS => ?_)
          clear hSS
          generalize w6.drew = wd at *
          refine hk3 (i := 0) rfl (by kernel_rfl) Zh hS rfl (fun K hK => ?_); go_simp; refine hK _ ?_; clear hK K; try simp only [Zq]
          refine hv3 (i := 1) rfl (by kernel_rfl) Zg hS rfl (fun w' hw' => ex_one rfl (one64 (hw'.cell a1 (by simp <;> omega)))) ?_; try simp only [Zq]
          refine hk3 (i := 2) rfl (by kernel_rfl) Zh hS rfl (fun K hK => ?_); go_simp; refine hK _ ?_; clear hK K; try simp only [Zq]
          refine hv3 (i := 3) rfl (by kernel_rfl) Zg hS rfl (fun w' hw' => ex_one rfl (one63 (hw'.cell a0 (by simp <;> omega)))) ?_; try simp only [Zq]
          refine hk3 (i := 4) rfl (by kernel_rfl) Zh hS rfl (fun K hK => ?_); go_simp; refine hK _ ?_; clear hK K; try simp only [Zq]
          refine hv3 (i := 5) rfl (by kernel_rfl) Zg hS rfl (fun w' hw' => ex_one rfl (one3 (hw'.cell e1 (by simp <;> omega)))) ?_; try simp only [Zq]
          refine hk3 (i := 6) rfl (by kernel_rfl) Zh hS rfl (fun K hK => ?_); go_simp; refine hK _ ?_; clear hK K; try simp only [Zq]
          refine hv3 (i := 7) rfl (by kernel_rfl) Zg hS rfl (fun w' hw' => ex_one rfl (one3 (hw'.cell hnm (by simp <;> omega)))) ?_; try simp only [Zq]
          refine hk3 (i := 8) rfl (by kernel_rfl) Zh hS rfl (fun K hK => ?_); go_simp; refine hK _ ?_; clear hK K; try simp only [Zq]
          (refine hv3 (i := 9) rfl (by kernel_rfl) Zg hS rfl (fun w' hw' => ex_row rfl ((fun h => row_mid h HX.out u105 rfl rfl info105) (hw'.look hcur (by simp)))) ?_; try simp only [Zq])
          refine ha_store (i := 10) (by kernel_rfl) rfl rfl 105 _ _ rfl p6 (rcells lv b.seed kv vv uv (isD b)) rfl rfl 105 _ h5 info105 rfl (HRS.out.one b.seed (isD b)) (hS.setNew hl5 _) (fun hS => ?_); try simp only [Zy]
          refine wpAnyH_done (by kernel_rfl) ?_ _
          rw [put_noneA]
          have hb9 := HB2.out.trans ((hS.toBelow (Nat.le_refl _) (by simp)).mono HB2.out.size)
          obtain ⟨c0, -, -, c3, c4, c5⟩ := op_cell (hS.look G2.out (by simp))
          have d4 := (uc_cell (hS.look GU.out (by simp))).2.2.2.2
          have hrw := hr_new (cs := rcells lv b.seed kv vv uv (isD b)) h5
          have HRA : Hid (RAt (wd.setRow p6 (rcells lv b.seed kv vv uv (isD b))) B (.agg (rcells lv b.seed kv vv uv (isD b))) b) := Lib.hid ⟨_, _, _, _, rfl, HRS.out.below (hS.toBelow (Nat.le_refl _) (by simp))⟩
          obtain ⟨A1, c1, rfl⟩ := own_shape HRS.out.l
          obtain ⟨L, hL⟩ : ∃ L, L = b.l.length := ⟨_, rfl⟩
          rw [← hL] at hrw HRA c0 c3 c4 c5 d4 hb9 ⊢
          obtain ⟨z0, -, -, -, -, -⟩ := rc_cell hrw
          have HL := Lib.hid hL
          have hLb : L ≤ 100 := by rw [hL]; exact HGB.out.len.1
          have htb : b.t.length ≤ 264 := HGB.out.len.2
          obtain ⟨RC, hRC⟩ : ∃ RC, RC = rcells (.slice A1 L c1) b.seed kv vv uv (isD b) := ⟨_, rfl⟩
          have HRW : Hid ((wd.setRow p6 (rcells (.slice A1 L c1) b.seed kv vv uv (isD b))).heap[p6]? = some (.cells (rcells (.slice A1 L c1) b.seed kv vv uv (isD b)) 105 (0, 0))) := Lib.hid hrw
          clear hS hrw hL h5 hcur hil hilI hi0 g1 g2 hb a0 a1 e0 e1 hnm HX HN HBS HA HDD HDK HEK HU4 G1 G2 GU HB2 HBW HRS hpu hRC RC x0 x1 x2 x3 x4 x5 y0 y1 y2 y3 y4
          generalize wd.setRow p6 (rcells (.slice A1 L c1) b.seed kv vv uv (isD b)) = w9 at *
          simp only at c0 c3 c4 c5 d4
          obtain ⟨F, hF⟩ : ∃ F, F = fnd b.seed b.t key := ⟨_, rfl⟩
          obtain ⟨N, hN⟩ : ∃ N, N = cn b.t := ⟨_, rfl⟩
          have HFND : Hid (∀ W, Below w9.heap.size w9 W → Calls Try.prog 70 #[.agg (rcells (.slice A1 L c1) b.seed kv vv uv (isD b)), .string key] W fun e w' => e = .returned (.int .i64 F) ∧ Below W.heap.size W w') := Lib.hid (fun W hW => by rw [hF]; exact findI_any _ b B key HGB.out.wf (by omega) W (HRA.out.below hW))
          have HCNT : Hid (∀ W, Below w9.heap.size w9 W → Calls Try.prog 84 #[.agg (rcells (.slice A1 L c1) b.seed kv vv uv (isD b))] W fun e w' => e = .returned (.int .i64 (N : Int)) ∧ Below W.heap.size W w') := Lib.hid (fun W hW => by rw [hN]; exact countI_any _ b B (by omega) W (HRA.out.below hW))
          have HF := Lib.hid hF
          have HNC := Lib.hid hN
          have HBX := Lib.hid (Below.refl w9.heap.size w9)
          clear hF hN HRA htb
          rcases hkk with rfl | rfl | rfl | rfl | rfl | rfl | rfl | rfl | rfl | rfl | rfl
          · exact absurd rfl HK0.out
          · exact absurd rfl HK0.out
          · have hu : useG 3 = ⟨true, false, false, false, true, 1⟩ := rfl
            rw [hu] at d4
            simp only at d4
            by_cases hks : 24 < (key.size : Int)
            · go_wp2_with (fail)
              go_ret
              exact ⟨by rw [HR.out, HBF.out]; simp [refB, hf, hu, HKD.out, show 24 < key.size by omega], hb9⟩
            · by_cases hlim : 100 ≤ (L : Int)
              · go_wp2_with (fail)
                go_ret
                exact ⟨by rw [HR.out, HBF.out]; simp [refB, hf, hu, HKD.out, show ¬ 24 < key.size by omega, show 100 ≤ b.l.length by have := HL.out; omega], hb9⟩
              · go_wp2_with (fail)
                go_ret
                exact ⟨by rw [HR.out, HBF.out]; simp [refB, hf, hu, HKD.out, show ¬ 24 < key.size by omega, show ¬ 100 ≤ b.l.length by have := HL.out; omega], hb9⟩
          · have hu : useG 4 = ⟨true, false, true, false, true, 1⟩ := rfl
            rw [hu] at d4
            simp only at d4
            by_cases hks : 24 < (key.size : Int)
            · go_wp2_with (fail)
              go_ret
              exact ⟨by rw [HR.out, HBF.out]; simp [refB, hf, hu, HKD.out, show 24 < key.size by omega], hb9⟩
            · by_cases hat : at_ < 0
              · go_wp2_with (fail)
                go_ret
                exact ⟨by rw [HR.out, HBF.out]; simp [refB, hf, hu, HKD.out, show ¬ 24 < key.size by omega, hat], hb9⟩
              · by_cases hge : (L : Int) ≤ at_
                · go_wp2_with (fail)
                  go_ret
                  exact ⟨by rw [HR.out, HBF.out]; simp [refB, hf, hu, HKD.out, show ¬ 24 < key.size by omega, hat, show (b.l.length : Int) ≤ at_ by have := HL.out; omega], hb9⟩
                · go_wp2_with (fail)
                  go_ret
                  exact ⟨by rw [HR.out, HBF.out]; simp [refB, hf, hu, HKD.out, show ¬ 24 < key.size by omega, hat, show ¬ (b.l.length : Int) ≤ at_ by have := HL.out; omega], hb9⟩
          · have hu : useG 5 = ⟨true, false, true, false, false, 1⟩ := rfl
            rw [hu] at d4
            simp only at d4
            by_cases hat : at_ < 0
            · go_wp2_with (fail)
              go_ret
              exact ⟨by rw [HR.out, HBF.out]; simp [refB, hf, hu, HKD.out, hat], hb9⟩
            · by_cases hge : (L : Int) ≤ at_
              · go_wp2_with (fail)
                go_ret
                exact ⟨by rw [HR.out, HBF.out]; simp [refB, hf, hu, HKD.out, hat, show (b.l.length : Int) ≤ at_ by have := HL.out; omega], hb9⟩
              · go_wp2_with (fail)
                go_ret
                exact ⟨by rw [HR.out, HBF.out]; simp [refB, hf, hu, HKD.out, hat, show ¬ (b.l.length : Int) ≤ at_ by have := HL.out; omega], hb9⟩
          · have hu : useG 6 = ⟨true, true, true, true, false, 1⟩ := rfl
            rw [hu] at d4
            simp only at d4
            by_cases hat : at_ < 0
            · go_wp2_with (fail)
              go_ret
              exact ⟨by rw [HR.out, HBF.out]; simp [refB, hf, hu, HKD.out, hat], hb9⟩
            · by_cases hn0 : n < 0
              · go_wp2_with (fail)
                go_ret
                exact ⟨by rw [HR.out, HBF.out]; simp [refB, hf, hu, HKD.out, hat, hn0], hb9⟩
              · by_cases hge : (L : Int) < at_
                · go_wp2_with (fail)
                  go_ret
                  exact ⟨by rw [HR.out, HBF.out]; simp [refB, hf, hu, HKD.out, hat, hn0, show (b.l.length : Int) < at_ by have := HL.out; omega], hb9⟩
                · have hwr : IntKind.i64.wrap ((L : Int) - at_) = (L : Int) - at_ := wrap_small _ (by omega) (by omega)
                  by_cases hgn : (L : Int) - at_ < n
                  · go_wp2_with (fail)
                    go_ret
                    exact ⟨by rw [HR.out, HBF.out]; simp [refB, hf, hu, HKD.out, hat, hn0, show ¬ (b.l.length : Int) < at_ by have := HL.out; omega, show (b.l.length : Int) - at_ < n by have := HL.out; omega], hb9⟩
                  · go_wp2_with (fail)
                    go_ret
                    exact ⟨by rw [HR.out, HBF.out]; simp [refB, hf, hu, HKD.out, hat, hn0, show ¬ (b.l.length : Int) < at_ by have := HL.out; omega, show ¬ (b.l.length : Int) - at_ < n by have := HL.out; omega], hb9⟩
          · have hu : useG 7 = ⟨true, false, false, false, false, 1⟩ := rfl
            rw [hu] at d4
            simp only at d4
            go_wp2_with (fail)
            go_ret
            exact ⟨by rw [HR.out, HBF.out]; simp [refB, hf, hu, HKD.out], hb9⟩
          · exact absurd rfl HK0.out
          · have hu : useG 9 = ⟨true, false, false, true, true, 2⟩ := rfl
            rw [hu] at d4
            simp only at d4
            by_cases hks : 24 < (key.size : Int)
            · go_wp2_with (fail)
              go_ret
              exact ⟨by rw [HR.out, HBF.out]; simp [refB, hf, hu, HKD.out, show 24 < key.size by omega], hb9⟩
            · by_cases hF0 : F < 0
              · go_upto_region 17 with (fail)
                apply wp_region_lit
                refine wl_k rfl (fun K hK => ?_); go_simp; refine hK _ ?_; clear hK K
                ((with_reducible apply wl_oneG); exact rfl; exact rfl; exact one3 c0); try simp only [Zy]
                iterate 2 (refine wl_k rfl (fun K hK => ?_); go_simp; refine hK _ ?_; clear hK K)
                refine wl_skip rfl ?_
                refine wl_skip rfl ?_
                refine wl_skip rfl ?_
                refine wl_skip rfl ?_
                try simp only [Zy]
                iterate 3 (refine wl_k rfl (fun K hK => ?_); go_simp; refine hK _ ?_; clear hK K)
                ((with_reducible apply wl_oneG); exact rfl; exact rfl; exact one3 c0); try simp only [Zy]
                iterate 2 (refine wl_k rfl (fun K hK => ?_); go_simp; refine hK _ ?_; clear hK K)
                ((with_reducible apply wl_rowG); exact rfl; exact rfl; exact rowR HRW.out); try simp only [Zy]
                refine wl_k rfl (fun K hK => ?_); go_simp; refine hK _ ?_; clear hK K
                ((with_reducible apply wl_oneG); exact rfl; exact rfl; exact one9 c5); try simp only [Zy]
                refine wl_ck rfl (fun K hK => ?_); go_simp; refine ⟨_, _, ⟨rfl, rfl⟩, hK _ _ ⟨_, HFND.out _ HBX.out, ?_⟩⟩; clear hK K; rintro e w10 ⟨rfl, hb1⟩; refine ⟨_, rfl, ?_⟩; simp only [Zq]
                replace HBX := Lib.hid (HBX.out.trans (hb1.mono HBX.out.size)); replace hb9 := hb9.trans (hb1.mono hb9.size); replace HRW := Lib.hid (below_look hb1 HRW.out); clear hb1
                iterate 3 (refine wl_k rfl (fun K hK => ?_); go_simp; refine hK _ ?_; clear hK K)
                ((with_reducible apply wl_rowG); exact rfl; exact rfl; exact rowR HRW.out); try simp only [Zy]
                refine wl_ck rfl (fun K hK => ?_); go_simp; refine ⟨_, _, ⟨rfl, rfl⟩, hK _ _ ⟨_, HCNT.out _ HBX.out, ?_⟩⟩; clear hK K; rintro e w11 ⟨rfl, hb1⟩; refine ⟨_, rfl, ?_⟩; simp only [Zq]
                replace hb9 := hb9.trans (hb1.mono hb9.size); clear hb1
                by_cases hN1 : 100 ≤ (N : Int)
                · go_wp2_with (fail)
                  go_ret
                  exact ⟨by rw [HR.out, HBF.out]; simp [refB, hf, hu, HKD.out, show ¬ 24 < key.size by omega, show fnd b.seed b.t key < 0 by rw [← HF.out]; omega, show 100 ≤ cn b.t by have := HNC.out; omega], hb9⟩
                · go_wp2_with (fail)
                  go_ret
                  exact ⟨by rw [HR.out, HBF.out]; simp [refB, hf, hu, HKD.out, show ¬ 24 < key.size by omega, show fnd b.seed b.t key < 0 by rw [← HF.out]; omega, show ¬ 100 ≤ cn b.t by have := HNC.out; omega], hb9⟩
              · go_upto_region 17 with (fail)
                apply wp_region_lit
                refine wl_k rfl (fun K hK => ?_); go_simp; refine hK _ ?_; clear hK K
                ((with_reducible apply wl_oneG); exact rfl; exact rfl; exact one3 c0); try simp only [Zy]
                iterate 2 (refine wl_k rfl (fun K hK => ?_); go_simp; refine hK _ ?_; clear hK K)
                refine wl_skip rfl ?_
                refine wl_skip rfl ?_
                refine wl_skip rfl ?_
                refine wl_skip rfl ?_
                try simp only [Zy]
                iterate 3 (refine wl_k rfl (fun K hK => ?_); go_simp; refine hK _ ?_; clear hK K)
                ((with_reducible apply wl_oneG); exact rfl; exact rfl; exact one3 c0); try simp only [Zy]
                iterate 2 (refine wl_k rfl (fun K hK => ?_); go_simp; refine hK _ ?_; clear hK K)
                ((with_reducible apply wl_rowG); exact rfl; exact rfl; exact rowR HRW.out); try simp only [Zy]
                refine wl_k rfl (fun K hK => ?_); go_simp; refine hK _ ?_; clear hK K
                ((with_reducible apply wl_oneG); exact rfl; exact rfl; exact one9 c5); try simp only [Zy]
                refine wl_ck rfl (fun K hK => ?_); go_simp; refine ⟨_, _, ⟨rfl, rfl⟩, hK _ _ ⟨_, HFND.out _ HBX.out, ?_⟩⟩; clear hK K; rintro e w10 ⟨rfl, hb1⟩; refine ⟨_, rfl, ?_⟩; simp only [Zq]
                replace HBX := Lib.hid (HBX.out.trans (hb1.mono HBX.out.size)); replace hb9 := hb9.trans (hb1.mono hb9.size); replace HRW := Lib.hid (below_look hb1 HRW.out); clear hb1
                go_wp2_with (fail)
                go_ret
                exact ⟨by rw [HR.out, HBF.out]; simp [refB, hf, hu, HKD.out, show ¬ 24 < key.size by omega, show ¬ fnd b.seed b.t key < 0 by rw [← HF.out]; omega], hb9⟩
          · have hu : useG 10 = ⟨true, false, false, false, true, 2⟩ := rfl
            rw [hu] at d4
            simp only at d4
            by_cases hks : 24 < (key.size : Int)
            · go_wp2_with (fail)
              go_ret
              exact ⟨by rw [HR.out, HBF.out]; simp [refB, hf, hu, HKD.out, show 24 < key.size by omega], hb9⟩
            · by_cases hF0 : F < 0
              · go_upto_region 15 with (fail)
                apply wp_region_lit
                refine wl_k rfl (fun K hK => ?_); go_simp; refine hK _ ?_; clear hK K
                ((with_reducible apply wl_oneG); exact rfl; exact rfl; exact one3 c0); try simp only [Zy]
                iterate 2 (refine wl_k rfl (fun K hK => ?_); go_simp; refine hK _ ?_; clear hK K)
                ((with_reducible apply wl_rowG); exact rfl; exact rfl; exact rowR HRW.out); try simp only [Zy]
                refine wl_k rfl (fun K hK => ?_); go_simp; refine hK _ ?_; clear hK K
                ((with_reducible apply wl_oneG); exact rfl; exact rfl; exact one9 c5); try simp only [Zy]
                refine wl_ck rfl (fun K hK => ?_); go_simp; refine ⟨_, _, ⟨rfl, rfl⟩, hK _ _ ⟨_, HFND.out _ HBX.out, ?_⟩⟩; clear hK K; rintro e w10 ⟨rfl, hb1⟩; refine ⟨_, rfl, ?_⟩; simp only [Zq]
                replace HBX := Lib.hid (HBX.out.trans (hb1.mono HBX.out.size)); replace hb9 := hb9.trans (hb1.mono hb9.size); replace HRW := Lib.hid (below_look hb1 HRW.out); replace c0 := below_cell hb1 c0; clear hb1
                go_wp2_with (fail)
                go_ret
                exact ⟨by rw [HR.out, HBF.out]; simp [refB, hf, hu, HKD.out, show ¬ 24 < key.size by omega, show fnd b.seed b.t key < 0 by rw [← HF.out]; omega], hb9⟩
              · go_upto_region 15 with (fail)
                apply wp_region_lit
                refine wl_k rfl (fun K hK => ?_); go_simp; refine hK _ ?_; clear hK K
                ((with_reducible apply wl_oneG); exact rfl; exact rfl; exact one3 c0); try simp only [Zy]
                iterate 2 (refine wl_k rfl (fun K hK => ?_); go_simp; refine hK _ ?_; clear hK K)
                ((with_reducible apply wl_rowG); exact rfl; exact rfl; exact rowR HRW.out); try simp only [Zy]
                refine wl_k rfl (fun K hK => ?_); go_simp; refine hK _ ?_; clear hK K
                ((with_reducible apply wl_oneG); exact rfl; exact rfl; exact one9 c5); try simp only [Zy]
                refine wl_ck rfl (fun K hK => ?_); go_simp; refine ⟨_, _, ⟨rfl, rfl⟩, hK _ _ ⟨_, HFND.out _ HBX.out, ?_⟩⟩; clear hK K; rintro e w10 ⟨rfl, hb1⟩; refine ⟨_, rfl, ?_⟩; simp only [Zq]
                replace HBX := Lib.hid (HBX.out.trans (hb1.mono HBX.out.size)); replace hb9 := hb9.trans (hb1.mono hb9.size); replace HRW := Lib.hid (below_look hb1 HRW.out); replace c0 := below_cell hb1 c0; clear hb1
                go_wp2_with (fail)
                go_ret
                exact ⟨by rw [HR.out, HBF.out]; simp [refB, hf, hu, HKD.out, show ¬ 24 < key.size by omega, show ¬ fnd b.seed b.t key < 0 by rw [← HF.out]; omega], hb9⟩
          · have hu : useG 11 = ⟨true, true, false, false, false, 2⟩ := rfl
            rw [hu] at d4
            simp only at d4
            go_wp2_with (fail)
            go_ret
            exact ⟨by rw [HR.out, HBF.out]; simp [refB, hf, hu, HKD.out], hb9⟩
end Go.Proofs.Ytbhdgeoljlhmcaa
