/- Which of two texts is the greater number: the document's answer, and the law. -/
import Derived.Test.YtclainfdeghgnaaV4
import Derived.Test.YtclainfdeghgnaaW32
import Derived.Test.YtclainfdeghgnaaV0
import Derived.Test.YtclainfdeghgnaaW31
import Derived.Outline
namespace Go.Proofs.Ytclainfdeghgnaa
open Go.RowKit Go.Proofs.Ytclainfdeghgnaa.Nm Go.Proofs.Ytclainfdeghgnaa.Lm
theorem nl_of_abs {z : Int} {k : Nat} (h : z.natAbs < B ^ k) : nl z.natAbs ≤ k := nl_le _ _ h
theorem rdm_nl {m : ByteArray} : nl ((rdm m).getD 0).natAbs ≤ 5 := by
  refine nl_le _ _ ?_
  have h := rd_bd0 m.data.toList
  have h2 : 10 ^ 40 < B ^ 5 := by decide
  have h3 : rdm m = rd m.data.toList := rfl
  rw [h3]
  omega
def compS (a b : ByteArray) : Int × Int := if (rdm a).isSome && (rdm b).isSome then (cz ((rdm a).getD 0) ((rdm b).getD 0), 0) else (0, 4)
theorem Compare_any (a b : ByteArray) (r er : Int) (h : Hid (compS a b = (r, er))) (w : World) :
    Calls Try.prog 27 #[.string a, .string b] w fun e w' => e = .returned (.tuple #[.int .i64 r, .int .i64 er]) ∧ Below w.heap.size w w' := by
  have h := h.out
  unfold compS at h
  cases hx : rdm a with
  | none =>
    simp [hx] at h
    obtain ⟨rfl, rfl⟩ := h
    exact Compare_none a b (Or.inl hx) w
  | some x =>
    cases hy : rdm b with
    | none =>
      simp [hy] at h
      obtain ⟨rfl, rfl⟩ := h
      exact Compare_none a b (Or.inr hy) w
    | some y =>
      simp [hx, hy] at h
      obtain ⟨rfl, rfl⟩ := h
      exact Compare_ok a b x y hx hy w
set_option maxHeartbeats 1000000 in
theorem CompareI_any (a b : ByteArray) (r er : Int) (h : Hid (compS a b = (r, er))) (w : World) :
    Calls Try.prog 28 #[.string a, .string b] w fun e w' => e = .returned (.tuple #[.int .i64 r, .int .i64 er]) ∧ Below w.heap.size w w' := by
  obtain ⟨x, hx⟩ : ∃ x, x = (rdm a).getD 0 := ⟨_, rfl⟩
  obtain ⟨y, hy⟩ : ∃ y, y = (rdm b).getD 0 := ⟨_, rfl⟩
  obtain ⟨p, hp⟩ : ∃ p, p = (rdm a).isSome := ⟨_, rfl⟩
  obtain ⟨q, hq⟩ : ∃ q, q = (rdm b).isSome := ⟨_, rfl⟩
  have h := h.out
  unfold compS at h
  rw [← hx, ← hy, ← hp, ← hq] at h
  have nx : nl x.natAbs ≤ 5 := by rw [hx]; exact rdm_nl
  have r1 := ReadI_any a
  have r2 := ReadI_any b
  rw [← hx, ← hp] at r1
  rw [← hy, ← hq] at r2
  have R1 := Lib.hid r1
  have R2 := Lib.hid r2
  have HH := Lib.hid h
  clear r1 r2 hx hy hp hq h
  go_enter Try.func28, Try.ntmps28
  go_upto_region 1 with (fail)
  have hb := Below.refl w.heap.size w
  apply wp_region_lit
  refine wl_k rfl (fun K hK => ?_); go_simp; refine hK _ ?_; clear hK K
  refine wl_ck rfl (fun K hK => ?_); go_simp; refine ⟨_, _, ⟨rfl, rfl⟩, hK _ _ ⟨_, R1.out _, ?_⟩⟩; clear hK K; rintro e w1 ⟨A1, c1, rfl, i1, hb1⟩; refine ⟨_, rfl, ?_⟩; simp only [put_lit, List.set_cons_zero, List.set_cons_succ]
  replace hb := hb.trans (hb1.mono hb.size); clear hb1
  refine wl_k rfl (fun K hK => ?_); go_simp; refine hK _ ?_; clear hK K
  refine wl_k rfl (fun K hK => ?_); go_simp; refine hK _ ?_; clear hK K
  refine wl_k rfl (fun K hK => ?_); go_simp; refine hK _ ?_; clear hK K
  (have lsp6 := hb.size; (with_reducible apply wl_new84); intro w2 p6 hbn hlp6 hp6; replace i1 := i1.below hbn; replace hb := hb.trans (hbn.mono hb.size); clear hbn)
  ((with_reducible apply wl_putI); exact rfl; exact rfl; exact hp6; intro w3 hbx hk hq hi; replace i1 := hi _ _ _ i1; replace hb := hbx _ _ (by omega) hb; clear hp6; have hp6 := hq; clear hbx hk hq hi)
  go_upto_region 2 with (fail)
  apply wp_region_lit
  refine wl_k rfl (fun K hK => ?_); go_simp; refine hK _ ?_; clear hK K
  refine wl_ck rfl (fun K hK => ?_); go_simp; refine ⟨_, _, ⟨rfl, rfl⟩, hK _ _ ⟨_, R2.out _, ?_⟩⟩; clear hK K; rintro e w4 ⟨A2, c2, rfl, i2, hb1⟩; refine ⟨_, rfl, ?_⟩; simp only [put_lit, List.set_cons_zero, List.set_cons_succ]
  replace hp6 := below_look hb1 hp6; replace i1 := i1.below hb1; replace hb := hb.trans (hb1.mono hb.size); clear hb1
  refine wl_k rfl (fun K hK => ?_); go_simp; refine hK _ ?_; clear hK K
  refine wl_k rfl (fun K hK => ?_); go_simp; refine hK _ ?_; clear hK K
  refine wl_k rfl (fun K hK => ?_); go_simp; refine hK _ ?_; clear hK K
  (have lthp6p8 := heap_lt hp6; have lsp8 := hb.size; (with_reducible apply wl_new84); intro w5 p8 hbn hlp8 hp8; replace hp6 := below_look hbn hp6; replace i1 := i1.below hbn; replace i2 := i2.below hbn; replace hb := hb.trans (hbn.mono hb.size); clear hbn)
  ((with_reducible apply wl_putI); exact rfl; exact rfl; exact hp8; intro w6 hbx hk hq hi; replace hp6 := hk _ _ (by omega) hp6; replace i1 := hi _ _ _ i1; replace i2 := hi _ _ _ i2; replace hb := hbx _ _ (by omega) hb; clear hp8; have hp8 := hq; clear hbx hk hq hi)
  have HI := Lib.hid (And.intro i1 i2)
  have HB := Lib.hid hb
  have h6 := Lib.hid hp6
  have h8 := Lib.hid hp8
  clear i1 i2 hb hp6 hp8
  cases p
  · have e := HH.out
    simp at e
    obtain ⟨rfl, rfl⟩ := e
    go_wp2_with fail
    exact bodyPost_ret (results_tmp2 rfl _ _ _) rfl ⟨rfl, HB.out⟩
  · cases q
    · have e := HH.out
      simp at e
      obtain ⟨rfl, rfl⟩ := e
      go_wp2_with fail
      exact bodyPost_ret (results_tmp2 rfl _ _ _) rfl ⟨rfl, HB.out⟩
    · have e := HH.out
      simp at e
      obtain ⟨rfl, rfl⟩ := e
      go_upto_region 5 with (fail)
      have g6 := h6.out
      have g8 := h8.out
      apply wp_region_lit
      ((with_reducible apply wl_rowG); exact rfl; exact rfl; exact rowIv (by with_reducible assumption))
      ((with_reducible apply wl_rowG); exact rfl; exact rfl; exact rowIv (by with_reducible assumption))
      refine wl_ck rfl (fun K hK => ?_); go_simp; refine ⟨_, _, ⟨rfl, rfl⟩, hK _ _ ⟨_, CmpI_any _ _ _ _ _ _ _ HI.out.1 HI.out.2 (by omega), ?_⟩⟩; clear hK K; rintro e w7 ⟨rfl, hb1⟩; refine ⟨_, rfl, ?_⟩; simp only [put_lit, List.set_cons_zero, List.set_cons_succ]
      have hb := HB.out.trans (hb1.mono HB.out.size)
      clear hb1 g6 g8
      go_wp2_with fail
      exact bodyPost_ret (results_tmp2 rfl _ _ _) rfl ⟨rfl, hb⟩
theorem longs (m : ByteArray) (w : World) (R : Bool) (HR : Hid (decide (200 < m.size) = R)) : Calls Try.prog 20 #[.string m] w fun e w' => e = .returned (.bool R) ∧ Below w.heap.size w w' := longB_lit m R HR w
set_option maxHeartbeats 1000000 in
set_option maxRecDepth 100000 in
theorem NumberCompares_any (a b : ByteArray) (w : World) :
    Calls Try.prog 6 #[.string a, .string b] w fun e w' => e = .returned (.bool true) ∧ Below w.heap.size w w' := by
  have hb := Below.refl w.heap.size w
  rcases hr : compS a b with ⟨r, er⟩
  have HR := Lib.hid hr
  clear hr
  cases la : decide (200 < a.size)
  · have LA := Lib.hid la
    clear la
    cases lb : decide (200 < b.size)
    · have LB := Lib.hid lb
      clear lb
      go_enter Try.func6, Try.ntmps6
      go_wp2_with (first | (go_at_call 20; refine (longs a _ _ LA).mono ?_; rintro e w9 ⟨rfl, hb1⟩; replace hb := hb.trans (hb1.mono hb.size); clear hb1) | (go_at_call 20; refine (longs b _ _ LB).mono ?_; rintro e w9 ⟨rfl, hb1⟩; replace hb := hb.trans (hb1.mono hb.size); clear hb1) | (go_at_call 21; refine (awake_any _).mono ?_; rintro e w9 ⟨rfl, hb1⟩; replace hb := hb.trans (hb1.mono hb.size); clear hb1) | (go_at_call 27; refine (Compare_any _ _ _ _ HR _).mono ?_; rintro e w9 ⟨rfl, hb1⟩; replace hb := hb.trans (hb1.mono hb.size); clear hb1) | (go_at_call 28; refine (CompareI_any _ _ _ _ HR _).mono ?_; rintro e w9 ⟨rfl, hb1⟩; replace hb := hb.trans (hb1.mono hb.size); clear hb1))
      go_ret
      exact ⟨rfl, hb⟩
    · have LB := Lib.hid lb
      clear lb
      go_enter Try.func6, Try.ntmps6
      go_wp2_with (first | (go_at_call 20; refine (longs a _ _ LA).mono ?_; rintro e w9 ⟨rfl, hb1⟩; replace hb := hb.trans (hb1.mono hb.size); clear hb1) | (go_at_call 20; refine (longs b _ _ LB).mono ?_; rintro e w9 ⟨rfl, hb1⟩; replace hb := hb.trans (hb1.mono hb.size); clear hb1) | (go_at_call 21; refine (awake_any _).mono ?_; rintro e w9 ⟨rfl, hb1⟩; replace hb := hb.trans (hb1.mono hb.size); clear hb1))
      go_ret
      exact ⟨rfl, hb⟩
  · have LA := Lib.hid la
    clear la
    go_enter Try.func6, Try.ntmps6
    go_wp2_with (first | (go_at_call 20; refine (longs a _ _ LA).mono ?_; rintro e w9 ⟨rfl, hb1⟩; replace hb := hb.trans (hb1.mono hb.size); clear hb1) | (go_at_call 21; refine (awake_any _).mono ?_; rintro e w9 ⟨rfl, hb1⟩; replace hb := hb.trans (hb1.mono hb.size); clear hb1))
    go_ret
    exact ⟨rfl, hb⟩
end Go.Proofs.Ytclainfdeghgnaa
