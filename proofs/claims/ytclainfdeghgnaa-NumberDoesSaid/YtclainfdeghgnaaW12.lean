/- Whether a number is a value of a width; the value that differs from it by a multiple of the width's power. -/
import Derived.Test.YtclainfdeghgnaaW11
import Derived.Outline
namespace Go.Proofs.Ytclainfdeghgnaa
open Go.RowKit Nm

theorem nat64 {x : Int} (h : -18446744073709551616 ≤ x ∧ x ≤ 18446744073709551616) : x.natAbs < 10 ^ 64 := small64 (by omega)
theorem lo64 {bits : Nat} (h : bits ≤ 64) (s : Bool) : (loW bits s).natAbs < 10 ^ 64 := nat64 (by have := lo_bd h s; omega)
theorem hi64 {bits : Nat} (h0 : 1 ≤ bits) (h : bits ≤ 64) (s : Bool) : (hiW bits s).natAbs < 10 ^ 64 := nat64 (by have := hi_bd h0 h s; omega)
theorem cz_le {a b : Int} : cz a b ≤ 0 ↔ a ≤ b := by rw [cz_def]; split <;> (try split) <;> omega
theorem cz_lt {a b : Int} : cz a b < 0 ↔ a < b := by rw [cz_def]; split <;> (try split) <;> omega
theorem cz_eq {a b : Int} : cz a b = 0 ↔ a = b := by rw [cz_def]; split <;> (try split) <;> omega
theorem cz_bd (a b : Int) : -1 ≤ cz a b ∧ cz a b ≤ 1 := by rw [cz_def]; split <;> (try split) <;> omega

set_option maxHeartbeats 400000 in
theorem has_any (bits : Nat) (s : Bool) (x : Int) (h1 : 1 ≤ bits) (h2 : bits ≤ 64) (hx : x.natAbs < 10 ^ 64) (w : World) :
    Calls Try.prog 56 #[.agg (wv bits s), .agg (lv x)] w fun e w' => e = .returned (.bool (hasW bits s x)) ∧ Below w.heap.size w w' := by
  have HX := Lib.hid hx
  have HL := Lib.hid (lo64 h2 s)
  have HH := Lib.hid (hi64 h1 h2 s)
  obtain ⟨lo, hlo⟩ : ∃ l, l = loW bits s := ⟨_, rfl⟩
  obtain ⟨hi, hhi⟩ : ∃ l, l = hiW bits s := ⟨_, rfl⟩
  have HW : Hid (hasW bits s x = decide (lo ≤ x ∧ x ≤ hi)) := Lib.hid (by rw [hlo, hhi]; rfl)
  have HE : Hid (∀ w, Calls Try.prog 99 #[.agg (wv bits s)] w fun e w' => e = .returned (.tuple #[.agg (lv lo), .agg (lv hi)]) ∧ Below w.heap.size w w') := Lib.hid (by rw [hlo, hhi]; exact ends_any bits s h1 h2)
  rw [← hlo] at HL
  rw [← hhi] at HH
  clear hx hlo hhi
  by_cases hc : lo ≤ x
  · have hcz : cz lo x ≤ 0 := cz_le.2 hc
    go_enter Try.func56, Try.ntmps56
    go_upto_region 1 with (fail)
    refine wp_world (fun W => W.heap[w.heap.size]? = some (.cells (wv bits s) 68 (0, 0)) ∧ W.heap[w.heap.size + 1]? = some (.cells (lv x) 75 (0, 0)) ∧ Below w.heap.size w W) ⟨ha_old (ha_new rfl), ha_new (by simp), ((Below.refl _ _).alloc (Nat.le_refl _) _).alloc (by simp) _⟩ ?_
    rintro W ⟨h0, h3, hb⟩
    apply wp_region_lit
    ((with_reducible apply wl_rowG); exact rfl; exact rfl; exact rowW (by with_reducible assumption))
    refine wl_ck rfl (fun K hK => ?_); go_simp; refine ⟨_, _, ⟨rfl, rfl⟩, hK _ _ ⟨_, HE.out _, ?_⟩⟩; clear hK K; rintro e w1 ⟨rfl, hb1⟩; refine ⟨_, rfl, ?_⟩; simp only [put_lit, List.set_cons_zero, List.set_cons_succ]
    replace h0 := below_look hb1 h0; replace h3 := below_look hb1 h3; replace hb := hb.trans (hb1.mono hb.size); clear hb1
    refine wl_k rfl (fun K hK => ?_); go_simp; refine hK _ ?_; clear hK K
    refine wl_k rfl (fun K hK => ?_); go_simp; refine hK _ ?_; clear hK K
    refine wl_k rfl (fun K hK => ?_); go_simp; refine hK _ ?_; clear hK K
    (have lth0p2 := heap_lt h0; have lth3p2 := heap_lt h3; have lsp2 := hb.size; (with_reducible apply wl_new75); intro w2 p2 hbn hlp2 hp2; replace h0 := below_look hbn h0; replace h3 := below_look hbn h3; replace hb := hb.trans (hbn.mono hb.size); clear hbn)
    (have lth0p3 := heap_lt h0; have lth3p3 := heap_lt h3; have lthp2p3 := heap_lt hp2; have lsp3 := hb.size; (with_reducible apply wl_new75); intro w3 p3 hbn hlp3 hp3; replace h0 := below_look hbn h0; replace h3 := below_look hbn h3; replace hp2 := below_look hbn hp2; replace hb := hb.trans (hbn.mono hb.size); clear hbn)
    ((with_reducible apply wl_put75); exact rfl; exact rfl; exact hp2; intro w4 hbx hk hq; replace hp3 := hk _ _ (by omega) hp3; replace h3 := hk _ _ (by omega) h3; replace hb := hbx _ _ (by omega) hb; clear hp2; have hp2 := hq; clear hbx hk hq)
    ((with_reducible apply wl_put75); exact rfl; exact rfl; exact hp3; intro w5 hbx hk hq; replace hp2 := hk _ _ (by omega) hp2; replace h3 := hk _ _ (by omega) h3; replace hb := hbx _ _ (by omega) hb; clear hp3; have hp3 := hq; clear hbx hk hq)
    go_upto_region 2 with (fail)
    apply wp_region_lit
    ((with_reducible apply wl_rowG); exact rfl; exact rfl; (first | exact rowL (by with_reducible assumption) | exact rowD (by with_reducible assumption) | exact rowR (by with_reducible assumption)))
    ((with_reducible apply wl_rowG); exact rfl; exact rfl; (first | exact rowL (by with_reducible assumption) | exact rowD (by with_reducible assumption) | exact rowR (by with_reducible assumption)))
    refine wl_ck rfl (fun K hK => ?_); go_simp; refine ⟨_, _, ⟨rfl, rfl⟩, hK _ _ ⟨_, compare_any _ _ HL.out HX.out _, ?_⟩⟩; clear hK K; rintro e w6 ⟨rfl, hb1⟩; refine ⟨_, rfl, ?_⟩; simp only [put_lit, List.set_cons_zero, List.set_cons_succ]
    replace hp2 := below_look hb1 hp2; replace hp3 := below_look hb1 hp3; replace h3 := below_look hb1 h3; replace hb := hb.trans (hb1.mono hb.size); clear hb1
    refine wl_k rfl (fun K hK => ?_); go_simp; refine hK _ ?_; clear hK K
    refine wl_k rfl (fun K hK => ?_); go_simp; refine hK _ ?_; clear hK K
    ((with_reducible apply wl_rowG); exact rfl; exact rfl; (first | exact rowL (by with_reducible assumption) | exact rowD (by with_reducible assumption) | exact rowR (by with_reducible assumption)))
    ((with_reducible apply wl_rowG); exact rfl; exact rfl; (first | exact rowL (by with_reducible assumption) | exact rowD (by with_reducible assumption) | exact rowR (by with_reducible assumption)))
    refine wl_ck rfl (fun K hK => ?_); go_simp; refine ⟨_, _, ⟨rfl, rfl⟩, hK _ _ ⟨_, compare_any _ _ HX.out HH.out _, ?_⟩⟩; clear hK K; rintro e w7 ⟨rfl, hb1⟩; refine ⟨_, rfl, ?_⟩; simp only [put_lit, List.set_cons_zero, List.set_cons_succ]
    refine wl_k rfl (fun K hK => ?_); go_simp; refine hK _ ?_; clear hK K
    refine wl_k rfl (fun K hK => ?_); go_simp; refine hK _ ?_; clear hK K
    go_wp2_with fail
    go_ret
    refine ⟨?_, hb.trans (hb1.mono hb.size)⟩
    rw [HW.out]
    simp [cz_le, hc]
  · have hcz : ¬ cz lo x ≤ 0 := fun h => hc (cz_le.1 h)
    go_enter Try.func56, Try.ntmps56
    go_upto_region 1 with (fail)
    refine wp_world (fun W => W.heap[w.heap.size]? = some (.cells (wv bits s) 68 (0, 0)) ∧ W.heap[w.heap.size + 1]? = some (.cells (lv x) 75 (0, 0)) ∧ Below w.heap.size w W) ⟨ha_old (ha_new rfl), ha_new (by simp), ((Below.refl _ _).alloc (Nat.le_refl _) _).alloc (by simp) _⟩ ?_
    rintro W ⟨h0, h3, hb⟩
    apply wp_region_lit
    ((with_reducible apply wl_rowG); exact rfl; exact rfl; exact rowW (by with_reducible assumption))
    refine wl_ck rfl (fun K hK => ?_); go_simp; refine ⟨_, _, ⟨rfl, rfl⟩, hK _ _ ⟨_, HE.out _, ?_⟩⟩; clear hK K; rintro e w1 ⟨rfl, hb1⟩; refine ⟨_, rfl, ?_⟩; simp only [put_lit, List.set_cons_zero, List.set_cons_succ]
    replace h0 := below_look hb1 h0; replace h3 := below_look hb1 h3; replace hb := hb.trans (hb1.mono hb.size); clear hb1
    refine wl_k rfl (fun K hK => ?_); go_simp; refine hK _ ?_; clear hK K
    refine wl_k rfl (fun K hK => ?_); go_simp; refine hK _ ?_; clear hK K
    refine wl_k rfl (fun K hK => ?_); go_simp; refine hK _ ?_; clear hK K
    (have lth0p2 := heap_lt h0; have lth3p2 := heap_lt h3; have lsp2 := hb.size; (with_reducible apply wl_new75); intro w2 p2 hbn hlp2 hp2; replace h0 := below_look hbn h0; replace h3 := below_look hbn h3; replace hb := hb.trans (hbn.mono hb.size); clear hbn)
    (have lth0p3 := heap_lt h0; have lth3p3 := heap_lt h3; have lthp2p3 := heap_lt hp2; have lsp3 := hb.size; (with_reducible apply wl_new75); intro w3 p3 hbn hlp3 hp3; replace h0 := below_look hbn h0; replace h3 := below_look hbn h3; replace hp2 := below_look hbn hp2; replace hb := hb.trans (hbn.mono hb.size); clear hbn)
    ((with_reducible apply wl_put75); exact rfl; exact rfl; exact hp2; intro w4 hbx hk hq; replace hp3 := hk _ _ (by omega) hp3; replace h3 := hk _ _ (by omega) h3; replace hb := hbx _ _ (by omega) hb; clear hp2; have hp2 := hq; clear hbx hk hq)
    ((with_reducible apply wl_put75); exact rfl; exact rfl; exact hp3; intro w5 hbx hk hq; replace hp2 := hk _ _ (by omega) hp2; replace h3 := hk _ _ (by omega) h3; replace hb := hbx _ _ (by omega) hb; clear hp3; have hp3 := hq; clear hbx hk hq)
    go_upto_region 2 with (fail)
    apply wp_region_lit
    ((with_reducible apply wl_rowG); exact rfl; exact rfl; (first | exact rowL (by with_reducible assumption) | exact rowD (by with_reducible assumption) | exact rowR (by with_reducible assumption)))
    ((with_reducible apply wl_rowG); exact rfl; exact rfl; (first | exact rowL (by with_reducible assumption) | exact rowD (by with_reducible assumption) | exact rowR (by with_reducible assumption)))
    refine wl_ck rfl (fun K hK => ?_); go_simp; refine ⟨_, _, ⟨rfl, rfl⟩, hK _ _ ⟨_, compare_any _ _ HL.out HX.out _, ?_⟩⟩; clear hK K; rintro e w6 ⟨rfl, hb1⟩; refine ⟨_, rfl, ?_⟩; simp only [put_lit, List.set_cons_zero, List.set_cons_succ]
    replace hp2 := below_look hb1 hp2; replace hp3 := below_look hb1 hp3; replace h3 := below_look hb1 h3; replace hb := hb.trans (hb1.mono hb.size); clear hb1
    refine wl_k rfl (fun K hK => ?_); go_simp; refine hK _ ?_; clear hK K
    refine wl_k rfl (fun K hK => ?_); go_simp; refine hK _ ?_; clear hK K
    refine wl_skip rfl ?_
    refine wl_skip rfl ?_
    refine wl_skip rfl ?_
    refine wl_skip rfl ?_
    refine wl_k rfl (fun K hK => ?_); go_simp; refine hK _ ?_; clear hK K
    go_wp2_with fail
    go_ret
    refine ⟨?_, hb⟩
    rw [HW.out, decide_eq_false (by omega)]
    rfl

theorem big64 {n : Nat} (h : n ≤ 1000000000000000000000000000000000000000000000000000000000000000) : n < 10 ^ 64 := by
  have h2 : (1000000000000000000000000000000000000000000000000000000000000000 : Nat) < 10 ^ 64 := by decide
  omega

structure WrapBd (bits : Nat) (s : Bool) (x : Int) : Prop where
  a : x.natAbs < 10 ^ 64
  l : (loW bits s).natAbs < 10 ^ 64
  d : x.natAbs + (-loW bits s).natAbs < 10 ^ 64
  f : (x + -loW bits s).natAbs + 1 < 10 ^ 64
  p : 2 ^ bits < 10 ^ 64
  p0 : 0 < ((2 ^ bits : Nat) : Int)
  p1 : ((2 ^ bits : Nat) : Int).natAbs < 10 ^ 63
  m : ((x + -loW bits s) / ((2 ^ bits : Nat) : Int)).natAbs * ((2 ^ bits : Nat) : Int).natAbs < 10 ^ 64
  n : ((x + -loW bits s) / ((2 ^ bits : Nat) : Int) * ((2 ^ bits : Nat) : Int)).natAbs < 10 ^ 64
  e : x.natAbs + (-((x + -loW bits s) / ((2 ^ bits : Nat) : Int) * ((2 ^ bits : Nat) : Int))).natAbs < 10 ^ 64
theorem wrapBd {bits : Nat} (s : Bool) {x : Int} (h2 : bits ≤ 64) (hx : x.natAbs ≤ 100000000000000000000000000000000000000000000000000000000000) : WrapBd bits s x := by
  have h3 := lo_bd h2 s
  have h4 := two_le h2
  have h5 := two_pos bits
  have h6 := (floor_mul (x + -loW bits s) (2 ^ bits) h5).1
  have h7 : ((x + -loW bits s) / ((2 ^ bits : Nat) : Int)).natAbs * ((2 ^ bits : Nat) : Int).natAbs = ((x + -loW bits s) / ((2 ^ bits : Nat) : Int) * ((2 ^ bits : Nat) : Int)).natAbs := (Int.natAbs_mul _ _).symm
  have h8 : (10 : Nat) ^ 63 = 1000000000000000000000000000000000000000000000000000000000000000 := by decide
  refine ⟨big64 (by omega), big64 (by omega), big64 (by omega), ?_, pow2_lt h2, by omega, by rw [Int.natAbs_natCast]; omega, by rw [h7]; exact big64 (by omega), big64 (by omega), ?_⟩
  · have := big64 (n := (x + -loW bits s).natAbs + 1) (by omega); exact this
  · rw [Int.natAbs_neg]; exact big64 (by omega)

set_option maxHeartbeats 400000 in
theorem wrap_any (bits : Nat) (s : Bool) (x : Int) (h1 : 1 ≤ bits) (h2 : bits ≤ 64) (hx : x.natAbs ≤ 100000000000000000000000000000000000000000000000000000000000) (w : World) :
    Calls Try.prog 102 #[.agg (wv bits s), .agg (lv x)] w fun e w' => e = .returned (.agg (lv (wrapW bits s x))) ∧ Below w.heap.size w w' := by
  have HB := Lib.hid (wrapBd s h2 hx)
  clear hx
  go_enter Try.func102, Try.ntmps102
  go_upto_region 1 with (fail)
  refine wp_world (fun W => W.heap[w.heap.size]? = some (.cells (wv bits s) 68 (0, 0)) ∧ W.heap[w.heap.size + 1]? = some (.cells (lv x) 75 (0, 0)) ∧ W.heap[w.heap.size + 1 + 1]? = some (.cells (lv 0) 75 (0, 0)) ∧ Below w.heap.size w W) ⟨ha_old (ha_old (ha_new rfl)), ha_old (ha_new (by simp)), by rw [← zero_long]; exact ha_new (by simp), (((Below.refl _ _).alloc (Nat.le_refl _) _).alloc (by simp) _).alloc (by simp; omega) _⟩ ?_
  rintro W ⟨h0, h3, h4, hb⟩
  have c0 := wv0 h0
  apply wp_region_lit
  refine wl_k rfl (fun K hK => ?_); go_simp; refine hK _ ?_; clear hK K
  refine wl_k rfl (fun K hK => ?_); go_simp; refine hK _ ?_; clear hK K
  refine wl_ck rfl (fun K hK => ?_); go_simp; refine ⟨_, _, ⟨rfl, rfl⟩, hK _ _ ⟨_, pow2_any bits HB.out.p (by omega) (by omega) _, ?_⟩⟩; clear hK K; rintro e w1 ⟨rfl, hb1⟩; refine ⟨_, rfl, ?_⟩; simp only [put_lit, List.set_cons_zero, List.set_cons_succ]
  rw [Int.toNat_natCast]
  replace h0 := below_look hb1 h0; replace h3 := below_look hb1 h3; replace h4 := below_look hb1 h4; replace hb := hb.trans (hb1.mono hb.size); clear hb1
  (have lth0p2 := heap_lt h0; have lth3p2 := heap_lt h3; have lth4p2 := heap_lt h4; have lsp2 := hb.size; (with_reducible apply wl_new75); intro w2 p2 hbn hlp2 hp2; replace h0 := below_look hbn h0; replace h3 := below_look hbn h3; replace h4 := below_look hbn h4; replace hb := hb.trans (hbn.mono hb.size); clear hbn)
  ((with_reducible apply wl_put75); exact rfl; exact rfl; exact hp2; intro w3 hbx hk hq; replace h0 := hk _ _ (by omega) h0; replace h3 := hk _ _ (by omega) h3; replace h4 := hk _ _ (by omega) h4; replace hb := hbx _ _ (by omega) hb; clear hp2; have hp2 := hq; clear hbx hk hq)
  go_upto_region 2 with (fail)
  apply wp_region_lit
  ((with_reducible apply wl_rowG); exact rfl; exact rfl; exact rowW (by with_reducible assumption))
  refine wl_ck rfl (fun K hK => ?_); go_simp; refine ⟨_, _, ⟨rfl, rfl⟩, hK _ _ ⟨_, ends_any bits s h1 h2 _, ?_⟩⟩; clear hK K; rintro e w4 ⟨rfl, hb1⟩; refine ⟨_, rfl, ?_⟩; simp only [put_lit, List.set_cons_zero, List.set_cons_succ]
  replace h0 := below_look hb1 h0; replace h3 := below_look hb1 h3; replace h4 := below_look hb1 h4; replace hp2 := below_look hb1 hp2; replace hb := hb.trans (hb1.mono hb.size); clear hb1
  refine wl_k rfl (fun K hK => ?_); go_simp; refine hK _ ?_; clear hK K
  refine wl_k rfl (fun K hK => ?_); go_simp; refine hK _ ?_; clear hK K
  refine wl_k rfl (fun K hK => ?_); go_simp; refine hK _ ?_; clear hK K
  (have lth0p3 := heap_lt h0; have lth3p3 := heap_lt h3; have lth4p3 := heap_lt h4; have lthp2p3 := heap_lt hp2; have lsp3 := hb.size; (with_reducible apply wl_new75); intro w5 p3 hbn hlp3 hp3; replace h0 := below_look hbn h0; replace h3 := below_look hbn h3; replace h4 := below_look hbn h4; replace hp2 := below_look hbn hp2; replace hb := hb.trans (hbn.mono hb.size); clear hbn)
  (have lth0p4 := heap_lt h0; have lth3p4 := heap_lt h3; have lth4p4 := heap_lt h4; have lthp2p4 := heap_lt hp2; have lthp3p4 := heap_lt hp3; have lsp4 := hb.size; (with_reducible apply wl_new75); intro w6 p4 hbn hlp4 hp4; replace h0 := below_look hbn h0; replace h3 := below_look hbn h3; replace h4 := below_look hbn h4; replace hp2 := below_look hbn hp2; replace hp3 := below_look hbn hp3; replace hb := hb.trans (hbn.mono hb.size); clear hbn)
  ((with_reducible apply wl_put75); exact rfl; exact rfl; exact hp3; intro w7 hbx hk hq; replace h0 := hk _ _ (by omega) h0; replace h3 := hk _ _ (by omega) h3; replace h4 := hk _ _ (by omega) h4; replace hp2 := hk _ _ (by omega) hp2; replace hp4 := hk _ _ (by omega) hp4; replace hb := hbx _ _ (by omega) hb; clear hp3; have hp3 := hq; clear hbx hk hq)
  ((with_reducible apply wl_put75); exact rfl; exact rfl; exact hp4; intro w8 hbx hk hq; replace h0 := hk _ _ (by omega) h0; replace h3 := hk _ _ (by omega) h3; replace h4 := hk _ _ (by omega) h4; replace hp2 := hk _ _ (by omega) hp2; replace hp3 := hk _ _ (by omega) hp3; replace hb := hbx _ _ (by omega) hb; clear hp4; have hp4 := hq; clear hbx hk hq)
  go_upto_region 3 with (fail)
  refine wp_region_float 6 8 (lv 0) 75 mixed (by kernel_rfl) ⟨_, rfl, rfl, rfl, ex_alloc75 rfl⟩ ?_; simp only [List.take_succ_cons, List.take_zero, List.drop_succ_cons, List.drop_zero]
  ((with_reducible apply ws_row); exact rfl; exact rfl; (intro w' hw'; first | exact rowL (below_look hw' (by with_reducible assumption)) | exact rowD (below_look hw' (by with_reducible assumption)) | exact rowR (below_look hw' (by with_reducible assumption))))
  ((with_reducible apply ws_row); exact rfl; exact rfl; (intro w' hw'; first | exact rowL (below_look hw' (by with_reducible assumption)) | exact rowD (below_look hw' (by with_reducible assumption)) | exact rowR (below_look hw' (by with_reducible assumption))))
  refine ws_ck rfl (fun K hK => ?_); go_simp; refine ⟨_, _, ⟨rfl, rfl⟩, hK _ _ ⟨_, fun w' hw' => (minus_any _ HB.out.l w'), ?_⟩⟩; clear hK K; simp only [put_lit, List.set_cons_zero, List.set_cons_succ]
  refine ws_ck rfl (fun K hK => ?_); go_simp; refine ⟨_, _, ⟨rfl, rfl⟩, hK _ _ ⟨_, fun w' hw' => (add_any _ _ HB.out.d w'), ?_⟩⟩; clear hK K; simp only [put_lit, List.set_cons_zero, List.set_cons_succ]
  ((with_reducible apply ws_row); exact rfl; exact rfl; (intro w' hw'; first | exact rowL (below_look hw' (by with_reducible assumption)) | exact rowD (below_look hw' (by with_reducible assumption)) | exact rowR (below_look hw' (by with_reducible assumption))))
  refine ws_ck rfl (fun K hK => ?_); go_simp; refine ⟨_, _, ⟨rfl, rfl⟩, hK _ _ ⟨_, fun w' hw' => (floor_any _ _ HB.out.f HB.out.p0 HB.out.p1 w'), ?_⟩⟩; clear hK K; simp only [put_lit, List.set_cons_zero, List.set_cons_succ]
  rintro p5 w9 ⟨hb1, hl5, hp5⟩
  have lt4 := heap_lt h4
  have lt2 := heap_lt hp2
  replace h0 := below_look hb1 h0; replace h3 := below_look hb1 h3; replace h4 := below_look hb1 h4; replace hp2 := below_look hb1 hp2; replace hp3 := below_look hb1 hp3; replace hb := hb.trans (hb1.mono hb.size); clear hb1
  simp only [put_lit, List.set_cons_zero, List.set_cons_succ]
  ((with_reducible apply wl_put75); exact rfl; exact rfl; exact hp5; intro w10 hbx hk hq; replace h3 := hk _ _ (by omega) h3; replace h4 := hk _ _ (by omega) h4; replace hp2 := hk _ _ (by omega) hp2; replace hb := hbx _ _ (by omega) hb; clear hp5; have hp5 := hq; clear hbx hk hq)
  go_upto_region 4 with (fail)
  refine wp_region_below 6 mixed (by kernel_rfl) ?_; simp only [List.take_succ_cons, List.take_zero, List.drop_succ_cons, List.drop_zero]
  ((with_reducible apply wq_row); exact rfl; exact rfl; (intro w' hw'; first | exact rowL (below_look hw' (by with_reducible assumption)) | exact rowD (below_look hw' (by with_reducible assumption)) | exact rowR (below_look hw' (by with_reducible assumption))))
  ((with_reducible apply wq_row); exact rfl; exact rfl; (intro w' hw'; first | exact rowL (below_look hw' (by with_reducible assumption)) | exact rowD (below_look hw' (by with_reducible assumption)) | exact rowR (below_look hw' (by with_reducible assumption))))
  ((with_reducible apply wq_row); exact rfl; exact rfl; (intro w' hw'; first | exact rowL (below_look hw' (by with_reducible assumption)) | exact rowD (below_look hw' (by with_reducible assumption)) | exact rowR (below_look hw' (by with_reducible assumption))))
  refine wq_ck rfl (fun K hK => ?_); go_simp; refine ⟨_, _, ⟨rfl, rfl⟩, hK _ _ ⟨_, fun w' hw' => calls_class hw' (mul_any _ _ HB.out.m w'), ?_⟩⟩; clear hK K; simp only [put_lit, List.set_cons_zero, List.set_cons_succ]
  refine wq_ck rfl (fun K hK => ?_); go_simp; refine ⟨_, _, ⟨rfl, rfl⟩, hK _ _ ⟨_, fun w' hw' => calls_class hw' (minus_any _ HB.out.n w'), ?_⟩⟩; clear hK K; simp only [put_lit, List.set_cons_zero, List.set_cons_succ]
  refine wq_ck rfl (fun K hK => ?_); go_simp; refine ⟨_, _, ⟨rfl, rfl⟩, hK _ _ ⟨_, fun w' hw' => calls_class hw' (add_any _ _ HB.out.e w'), ?_⟩⟩; clear hK K; simp only [put_lit, List.set_cons_zero, List.set_cons_succ]
  intro w11 hb1
  replace h4 := below_look hb1 h4; replace hb := hb.trans (hb1.mono hb.size); clear hb1
  ((with_reducible apply wl_put75); exact rfl; exact rfl; exact h4; intro w12 hbx hk hq; replace hb := hbx _ _ (by omega) hb; clear h4; have h4 := hq; clear hbx hk hq)
  go_wp2_with fail
  refine bodyPost_ret (res_long rfl _ _ (w.heap.size + 1 + 1) rfl h4) rfl ⟨?_, hb⟩
  rw [wrap_eq]
end Go.Proofs.Ytclainfdeghgnaa
