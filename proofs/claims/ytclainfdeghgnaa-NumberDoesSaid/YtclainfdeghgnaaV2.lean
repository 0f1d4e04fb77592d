/- The document's whole numbers: signs, sums, products. The document's whole numbers: of an int; differences, products, quotients, powers. -/
import Derived.Test.YtclainfdeghgnaaV1
import Derived.Test.YtclainfdeghgnaaK9
import Derived.Outline
import Derived.Test.YtclainfdeghgnaaW9
namespace Go.Proofs.Ytclainfdeghgnaa
open Go.RowKit Go.Proofs.Ytclainfdeghgnaa.Nm Go.Proofs.Ytclainfdeghgnaa.Lm

/-- A whole number of the document: its sign, its limbs. -/
def iv (z : Int) (A : Option Addr) (c : Nat) : Array Value := #[.bool (ng z), .slice A (nl z.natAbs) c]
theorem iv_one (z : Int) (A : Option Addr) (c : Nat) : (iv z A c).all (·.oneCell') = true := by simp [iv, Value.oneCell']
theorem ng_zero : ng 0 = false := by rw [ng_def]; rfl
theorem iv_zero : iv 0 none 0 = #[.bool false, .slice none 0 0] := by unfold iv; rw [ng_zero]; simp [nl_zero]
/-- .. which are there. -/
def IvAt (w : World) (z : Int) (A : Option Addr) (c : Nat) : Prop := nl z.natAbs ≤ c ∧ Lr w A (nl z.natAbs) z.natAbs
theorem IvAt.below {w w' : World} {z : Int} {A : Option Addr} {c : Nat} (h : IvAt w z A c) (hb : Below w.heap.size w w') : IvAt w' z A c := ⟨h.1, h.2.below hb⟩
theorem IvAt.zero (w : World) : IvAt w 0 none 0 := ⟨by simp [nl_zero], fun h => by simp [nl_zero] at h⟩
theorem info84 : (Try.prog.info? 84).map (·.size) = some 2 := by kernel_rfl
theorem u84 : Try.prog.underlying 84 = some (.struct (Try.prog.fieldsOf 84)) := by kernel_rfl
theorem rowIv {w : World} {b : Nat} {z : Int} {A : Option Addr} {c : Nat} {t : TypeId} {fr : Nat × Nat} (hb : w.heap[b]? = some (.cells (iv z A c) t fr)) : RowAt w 84 ⟨b, 0, none⟩ (iv z A c) := row_mid hb (D := iv z A c) (n := 2) rfl u84 rfl rfl info84
theorem iv0 {w : World} {b : Nat} {z : Int} {A : Option Addr} {c : Nat} {t : TypeId} {fr : Nat × Nat} (hb : w.heap[b]? = some (.cells (iv z A c) t fr)) : w.cell? ⟨b, 0, none⟩ = some (.bool (ng z)) := by rw [cell_of_row _ _ _ _ _ _ hb]; rfl
theorem iv1 {w : World} {b : Nat} {z : Int} {A : Option Addr} {c : Nat} {t : TypeId} {fr : Nat × Nat} (hb : w.heap[b]? = some (.cells (iv z A c) t fr)) : w.cell? ⟨b, 1, none⟩ = some (.slice A (nl z.natAbs) c) := by rw [cell_of_row _ _ _ _ _ _ hb]; rfl
theorem one4 {w : World} {ad : Addr} {v : Value} (h : w.cell? ad = some v) : OneAt w 4 ad v := one_of u4 rfl h
theorem one82 {w : World} {ad : Addr} {v : Value} (h : w.cell? ad = some v) : OneAt w 82 ad v := one_of u82 rfl h
theorem res_iv {fn : Func} {p : Tmp} (h : fn.results = #[.cell p 84]) (tmps : Array Value) (w : World) (g : Nat) (hp : tmps.getD p undef = .pointer (some ⟨g, 0, none⟩)) {z : Int} {A : Option Addr} {c : Nat}
    (hg : w.heap[g]? = some (.cells (iv z A c) 84 (0, 0))) : (results fn tmps).run Try.prog w = .ok (.agg (iv z A c)) w := by
  have hp' : tmps[p]?.getD undef = .pointer (some ⟨g, 0, none⟩) := by simpa using hp
  have l1 : (loadVar 84 ⟨g, 0, none⟩).run Try.prog w = .ok (.agg (iv z A c)) w := by have := rowIv hg; unfold RowAt at this; exact this
  unfold results
  simp [h, hp', asAddr, l1]
theorem iv_sg (s : Bool) (N : Nat) (A : Option Addr) (c : Nat) : iv (sg s N) A c = #[.bool (s && decide (0 < nl N)), .slice A (nl N) c] := by
  unfold iv
  rw [sg_bd, ng_def]
  have : decide (sg s N < 0) = (s && decide (0 < nl N)) := by
    have h := nl_eq_zero (n := N)
    unfold sg
    cases s
    · simp
    · simp
      omega
  rw [this]
set_option maxHeartbeats 400000 in
theorem signedI_any (s : Bool) (A : Option Addr) (N c : Nat) (w : World) :
    Calls Try.prog 110 #[.bool s, .slice A (nl N) c] w fun e w' => e = .returned (.agg (iv (sg s N) A c)) ∧ Below w.heap.size w w' := by
  rw [iv_sg]
  obtain ⟨n, hn⟩ : ∃ n, n = nl N := ⟨_, rfl⟩
  rw [← hn]
  clear hn
  cases s
  · go_enter Try.func110, Try.ntmps110
    go_wp2_with fail
    exact bodyPost_ret (v := .agg #[.bool false, .slice A n c]) (by simp [results, Try.results110, go_sem]) rfl ⟨rfl, (Below.refl _ _).alloc (Nat.le_refl _) _⟩
  · by_cases h : 0 < n
    · go_enter Try.func110, Try.ntmps110
      go_wp2_with fail
      exact bodyPost_ret (v := .agg #[.bool true, .slice A n c]) (by simp [results, Try.results110, go_sem]) rfl ⟨by simp [h], (Below.refl _ _).alloc (Nat.le_refl _) _⟩
    · go_enter Try.func110, Try.ntmps110
      go_wp2_with fail
      exact bodyPost_ret (v := .agg #[.bool false, .slice A n c]) (by simp [results, Try.results110, go_sem]) rfl ⟨by simp [h], (Below.refl _ _).alloc (Nat.le_refl _) _⟩
theorem add_nl {a b k : Nat} (ha : nl a ≤ k) (hb : nl b ≤ k) : nl (a + b) ≤ k + 1 := by
  have h1 := nl_spec a
  have h2 := nl_spec b
  refine nl_le _ _ ?_
  have h3 : B ^ nl a ≤ B ^ k := Nat.pow_le_pow_right B_pos ha
  have h4 : B ^ nl b ≤ B ^ k := Nat.pow_le_pow_right B_pos hb
  have h5 : B ^ k * 2 ≤ B ^ (k + 1) := by rw [Nat.pow_succ B k]; exact Nat.mul_le_mul_left _ (by decide)
  omega
theorem IvAt.of {B0 : Nat} {w : World} {N : Nat} {A : Option Addr} {c : Nat} (z : Int) (hz : z.natAbs = N) (hc : nl N ≤ c) (h : LrB B0 w A (nl N) N) : IvAt w z A c := by
  subst hz; exact ⟨hc, h.lr⟩
theorem lr_setRow {B0 p : Nat} {w : World} {A : Option Addr} {n N : Nat} {cs : Array Value} (h : LrB B0 w A n N) (hp : p < B0) : LrB B0 (w.setRow p cs) A n N := fun hn => by
  obtain ⟨g, h1, h0, h2, h3⟩ := h hn
  refine ⟨g, h1, h0, by simpa using h2, fun j hj => ?_⟩
  rw [World.cell?_of_block (setRow_other w p g cs (by omega))]; exact h3 j hj
set_option maxHeartbeats 1000000 in
theorem Sum2_same (x y : Int) (A A' : Option Addr) (c c' : Nat) (w : World) (hx : IvAt w x A c) (hy : IvAt w y A' c') (hn : nl x.natAbs ≤ 400) (hn' : nl y.natAbs ≤ 400) (hs : (ng x == ng y) = true) (hz : sg (ng x) (x.natAbs + y.natAbs) = x + y) :
    Calls Try.prog 87 #[.agg (iv x A c), .agg (iv y A' c')] w fun e w' => ∃ A2 c2, e = .returned (.agg (iv (x + y) A2 c2)) ∧ IvAt w' (x + y) A2 c2 ∧ Below w.heap.size w w' := by
  have HX := Lib.hid hx
  have HY := Lib.hid hy
  have HZ := Lib.hid hz
  clear hx hy hz
  go_enter Try.func87, Try.ntmps87
  go_upto_region 1 with (fail)
  refine wp_world (fun W => W.heap[w.heap.size]? = some (.cells (iv x A c) 84 (0, 0)) ∧ W.heap[w.heap.size + 1]? = some (.cells (iv y A' c') 84 (0, 0)) ∧ W.heap[w.heap.size + 1 + 1]? = some (.cells (iv 0 none 0) 84 (0, 0)) ∧ Below w.heap.size w W) ⟨ha_old (ha_old (ha_new rfl)), ha_old (ha_new (by simp)), by rw [iv_zero]; exact ha_new (by simp), (((Below.refl _ _).alloc (Nat.le_refl _) _).alloc (by simp) _).alloc (by simp; omega) _⟩ ?_
  rintro W ⟨h0, h1, h2, hb⟩
  have a0 := iv0 h0
  have a1 := iv1 h0
  have b0 := iv0 h1
  have b1 := iv1 h1
  go_upto_region 2 with (fail)
  have hX := Lib.hid (HX.out.below hb.drew)
  have hY := Lib.hid (HY.out.below hb.drew)
  replace hb := hb.drew
  refine wp_region_held_drew (S := Kept [w.heap.size + 1 + 1] W) mixed (Kept.drew [w.heap.size + 1 + 1] W) (fun hS => ?_)
  refine ha_k (i := 0) rfl (by kernel_rfl) (by kernel_rfl) (by kernel_rfl) (fun _ _ _ _ h => h) hS rfl (fun K hK => ?_); go_simp; refine hK _ ?_; clear hK K; try simp only [put_lit, List.set_cons_zero, List.set_cons_succ]
  refine ha_val (i := 1) rfl (by kernel_rfl) (by kernel_rfl) (by kernel_rfl) (fun _ _ _ h => h) hS rfl (fun w' hw' => ex_one rfl (one4 (hw'.cell a0 (by simp <;> omega)))) ?_; try simp only [put_lit, List.set_cons_zero, List.set_cons_succ]
  refine ha_k (i := 2) rfl (by kernel_rfl) (by kernel_rfl) (by kernel_rfl) (fun _ _ _ _ h => h) hS rfl (fun K hK => ?_); go_simp; refine hK _ ?_; clear hK K; try simp only [put_lit, List.set_cons_zero, List.set_cons_succ]
  refine ha_val (i := 3) rfl (by kernel_rfl) (by kernel_rfl) (by kernel_rfl) (fun _ _ _ h => h) hS rfl (fun w' hw' => ex_one rfl (one82 (hw'.cell a1 (by simp <;> omega)))) ?_; try simp only [put_lit, List.set_cons_zero, List.set_cons_succ]
  refine ha_k (i := 4) rfl (by kernel_rfl) (by kernel_rfl) (by kernel_rfl) (fun _ _ _ _ h => h) hS rfl (fun K hK => ?_); go_simp; refine hK _ ?_; clear hK K; try simp only [put_lit, List.set_cons_zero, List.set_cons_succ]
  refine ha_val (i := 5) rfl (by kernel_rfl) (by kernel_rfl) (by kernel_rfl) (fun _ _ _ h => h) hS rfl (fun w' hw' => ex_one rfl (one82 (hw'.cell b1 (by simp <;> omega)))) ?_; try simp only [put_lit, List.set_cons_zero, List.set_cons_succ]
  refine ha_call (i := 6) (by kernel_rfl) rfl rfl (fun K hK => ?_); go_simp; refine ⟨_, _, ⟨rfl, rfl⟩, hK _ _ ⟨_, plus_any _ _ _ _ _ _ _ _ _ hX.out.2 hY.out.2 (nl_spec _) (nl_spec _) (by omega) (by omega), ?_⟩⟩; clear hK K; rintro e w2 ⟨A2, c2, rfl, hc2, hl2, hb1⟩; refine ⟨_, rfl, hS.below hb1, ?_⟩; replace hS := hS.below hb1; have lt2 := heap_lt h2; replace hb := hb.trans (hb1.mono hb.size); replace h2 := below_look hb1 h2; clear hb1; try simp only [put_lit, List.set_cons_zero, List.set_cons_succ]
  refine ha_call (i := 7) (by kernel_rfl) rfl rfl (fun K hK => ?_); go_simp; refine ⟨_, _, ⟨rfl, rfl⟩, hK _ _ ⟨_, signedI_any _ _ _ _ _, ?_⟩⟩; clear hK K; rintro e w3 ⟨rfl, hb1⟩; refine ⟨_, rfl, hS.below hb1, ?_⟩; replace hS := hS.below hb1; replace hl2 := hl2.below hb1; replace hb := hb.trans (hb1.mono hb.size); replace h2 := below_look hb1 h2; clear hb1; rw [HZ.out]; try simp only [put_lit, List.set_cons_zero, List.set_cons_succ]
  refine ha_store (i := 8) (by kernel_rfl) rfl rfl 84 _ _ rfl _ (iv (x + y) A2 c2) rfl rfl 84 _ h2 info84 rfl (iv_one _ _ _) (hS.setRow (by simp) _) (fun hS => ?_); try simp only [put_lit, List.set_cons_zero, List.set_cons_succ]
  refine wpAnyH_done (by kernel_rfl) ?_ _
  go_wp2_with fail
  exact bodyPost_ret (res_iv rfl _ _ (w.heap.size + 1 + 1) rfl (hr_new h2)) rfl ⟨A2, c2, rfl, IvAt.of (x + y) (by rw [← HZ.out, sg_bd]) hc2 (lr_setRow hl2 lt2), below_setRow hb (by omega) _⟩
set_option maxHeartbeats 1000000 in
theorem Sum2_big (x y : Int) (A A' : Option Addr) (c c' : Nat) (w : World) (hx : IvAt w x A c) (hy : IvAt w y A' c') (hn : nl x.natAbs ≤ 400) (hs : (ng x == ng y) = false) (hge : y.natAbs ≤ x.natAbs) (hz : sg (ng x) (x.natAbs - y.natAbs) = x + y) :
    Calls Try.prog 87 #[.agg (iv x A c), .agg (iv y A' c')] w fun e w' => ∃ A2 c2, e = .returned (.agg (iv (x + y) A2 c2)) ∧ IvAt w' (x + y) A2 c2 ∧ Below w.heap.size w w' := by
  have HGE := Lib.hid hge
  obtain ⟨cc, hcc⟩ : ∃ cc, cmpN x.natAbs y.natAbs = cc := ⟨_, rfl⟩
  have hc0 : 0 ≤ cc := by rw [← hcc]; exact cmpN_ge.2 hge
  have HCC := Lib.hid hcc
  clear hcc hge
  have HX := Lib.hid hx
  have HY := Lib.hid hy
  have HZ := Lib.hid hz
  clear hx hy hz
  go_enter Try.func87, Try.ntmps87
  go_upto_region 1 with (fail)
  refine wp_world (fun W => W.heap[w.heap.size]? = some (.cells (iv x A c) 84 (0, 0)) ∧ W.heap[w.heap.size + 1]? = some (.cells (iv y A' c') 84 (0, 0)) ∧ W.heap[w.heap.size + 1 + 1]? = some (.cells (iv 0 none 0) 84 (0, 0)) ∧ Below w.heap.size w W) ⟨ha_old (ha_old (ha_new rfl)), ha_old (ha_new (by simp)), by rw [iv_zero]; exact ha_new (by simp), (((Below.refl _ _).alloc (Nat.le_refl _) _).alloc (by simp) _).alloc (by simp; omega) _⟩ ?_
  rintro W ⟨h0, h1, h2, hb⟩
  have a0 := iv0 h0
  have a1 := iv1 h0
  have b0 := iv0 h1
  have b1 := iv1 h1
  go_wp2_with (go_at_call 112; refine (compareN_any _ _ _ _ x.natAbs y.natAbs _ (HX.out.below hb).2 (HY.out.below hb).2 (by omega)).mono ?_; rintro e w1 ⟨rfl, hb1⟩; rw [HCC.out]; replace h0 := below_look hb1 h0; replace h1 := below_look hb1 h1; replace h2 := below_look hb1 h2; replace hb := hb.trans (hb1.mono hb.size); clear hb1 a0 a1 b0 b1)
  have a0 := iv0 h0
  have a1 := iv1 h0
  have b1 := iv1 h1
  go_upto_region 4 with (fail)
  have hX := Lib.hid (HX.out.below hb.drew)
  have hY := Lib.hid (HY.out.below hb.drew)
  replace hb := hb.drew
  refine wp_region_held_drew (S := Kept [w.heap.size + 1 + 1] w1) mixed (Kept.drew [w.heap.size + 1 + 1] w1) (fun hS => ?_)
  refine ha_k (i := 0) rfl (by kernel_rfl) (by kernel_rfl) (by kernel_rfl) (fun _ _ _ _ h => h) hS rfl (fun K hK => ?_); go_simp; refine hK _ ?_; clear hK K; try simp only [put_lit, List.set_cons_zero, List.set_cons_succ]
  refine ha_val (i := 1) rfl (by kernel_rfl) (by kernel_rfl) (by kernel_rfl) (fun _ _ _ h => h) hS rfl (fun w' hw' => ex_one rfl (one4 (hw'.cell a0 (by simp <;> omega)))) ?_; try simp only [put_lit, List.set_cons_zero, List.set_cons_succ]
  refine ha_k (i := 2) rfl (by kernel_rfl) (by kernel_rfl) (by kernel_rfl) (fun _ _ _ _ h => h) hS rfl (fun K hK => ?_); go_simp; refine hK _ ?_; clear hK K; try simp only [put_lit, List.set_cons_zero, List.set_cons_succ]
  refine ha_val (i := 3) rfl (by kernel_rfl) (by kernel_rfl) (by kernel_rfl) (fun _ _ _ h => h) hS rfl (fun w' hw' => ex_one rfl (one82 (hw'.cell a1 (by simp <;> omega)))) ?_; try simp only [put_lit, List.set_cons_zero, List.set_cons_succ]
  refine ha_k (i := 4) rfl (by kernel_rfl) (by kernel_rfl) (by kernel_rfl) (fun _ _ _ _ h => h) hS rfl (fun K hK => ?_); go_simp; refine hK _ ?_; clear hK K; try simp only [put_lit, List.set_cons_zero, List.set_cons_succ]
  refine ha_val (i := 5) rfl (by kernel_rfl) (by kernel_rfl) (by kernel_rfl) (fun _ _ _ h => h) hS rfl (fun w' hw' => ex_one rfl (one82 (hw'.cell b1 (by simp <;> omega)))) ?_; try simp only [put_lit, List.set_cons_zero, List.set_cons_succ]
  refine ha_call (i := 6) (by kernel_rfl) rfl rfl (fun K hK => ?_); go_simp; refine ⟨_, _, ⟨rfl, rfl⟩, hK _ _ ⟨_, less_any _ _ _ _ _ _ _ _ _ hX.out.2 hY.out.2 (nl_spec _) (nl_spec _) (by omega) HGE.out, ?_⟩⟩; clear hK K; rintro e w2 ⟨A2, c2, rfl, hc2, hl2, hb1⟩; refine ⟨_, rfl, hS.below hb1, ?_⟩; replace hS := hS.below hb1; have lt2 := heap_lt h2; replace hb := hb.trans (hb1.mono hb.size); replace h2 := below_look hb1 h2; clear hb1; try simp only [put_lit, List.set_cons_zero, List.set_cons_succ]
  refine ha_call (i := 7) (by kernel_rfl) rfl rfl (fun K hK => ?_); go_simp; refine ⟨_, _, ⟨rfl, rfl⟩, hK _ _ ⟨_, signedI_any _ _ _ _ _, ?_⟩⟩; clear hK K; rintro e w3 ⟨rfl, hb1⟩; refine ⟨_, rfl, hS.below hb1, ?_⟩; replace hS := hS.below hb1; replace hl2 := hl2.below hb1; replace hb := hb.trans (hb1.mono hb.size); replace h2 := below_look hb1 h2; clear hb1; rw [HZ.out]; try simp only [put_lit, List.set_cons_zero, List.set_cons_succ]
  refine ha_store (i := 8) (by kernel_rfl) rfl rfl 84 _ _ rfl _ (iv (x + y) A2 c2) rfl rfl 84 _ h2 info84 rfl (iv_one _ _ _) (hS.setRow (by simp) _) (fun hS => ?_); try simp only [put_lit, List.set_cons_zero, List.set_cons_succ]
  refine wpAnyH_done (by kernel_rfl) ?_ _
  go_wp2_with fail
  exact bodyPost_ret (res_iv rfl _ _ (w.heap.size + 1 + 1) rfl (hr_new h2)) rfl ⟨A2, c2, rfl, IvAt.of (x + y) (by rw [← HZ.out, sg_bd]) hc2 (lr_setRow hl2 lt2), below_setRow hb (by omega) _⟩
set_option maxHeartbeats 1000000 in
theorem Sum2_less (x y : Int) (A A' : Option Addr) (c c' : Nat) (w : World) (hx : IvAt w x A c) (hy : IvAt w y A' c') (hn : nl x.natAbs ≤ 400) (hn' : nl y.natAbs ≤ 400) (hs : (ng x == ng y) = false) (hge : x.natAbs < y.natAbs) (hz : sg (ng y) (y.natAbs - x.natAbs) = x + y) :
    Calls Try.prog 87 #[.agg (iv x A c), .agg (iv y A' c')] w fun e w' => ∃ A2 c2, e = .returned (.agg (iv (x + y) A2 c2)) ∧ IvAt w' (x + y) A2 c2 ∧ Below w.heap.size w w' := by
  have HGE := Lib.hid (Nat.le_of_lt hge)
  obtain ⟨cc, hcc⟩ : ∃ cc, cmpN x.natAbs y.natAbs = cc := ⟨_, rfl⟩
  have hc0 : ¬ 0 ≤ cc := by rw [← hcc, cmpN_ge]; omega
  have HCC := Lib.hid hcc
  clear hcc hge
  have HX := Lib.hid hx
  have HY := Lib.hid hy
  have HZ := Lib.hid hz
  clear hx hy hz
  go_enter Try.func87, Try.ntmps87
  go_upto_region 1 with (fail)
  refine wp_world (fun W => W.heap[w.heap.size]? = some (.cells (iv x A c) 84 (0, 0)) ∧ W.heap[w.heap.size + 1]? = some (.cells (iv y A' c') 84 (0, 0)) ∧ W.heap[w.heap.size + 1 + 1]? = some (.cells (iv 0 none 0) 84 (0, 0)) ∧ Below w.heap.size w W) ⟨ha_old (ha_old (ha_new rfl)), ha_old (ha_new (by simp)), by rw [iv_zero]; exact ha_new (by simp), (((Below.refl _ _).alloc (Nat.le_refl _) _).alloc (by simp) _).alloc (by simp; omega) _⟩ ?_
  rintro W ⟨h0, h1, h2, hb⟩
  have a0 := iv0 h0
  have a1 := iv1 h0
  have b0 := iv0 h1
  have b1 := iv1 h1
  go_wp2_with (go_at_call 112; refine (compareN_any _ _ _ _ x.natAbs y.natAbs _ (HX.out.below hb).2 (HY.out.below hb).2 (by omega)).mono ?_; rintro e w1 ⟨rfl, hb1⟩; rw [HCC.out]; replace h0 := below_look hb1 h0; replace h1 := below_look hb1 h1; replace h2 := below_look hb1 h2; replace hb := hb.trans (hb1.mono hb.size); clear hb1 a0 a1 b0 b1)
  have a1 := iv1 h0
  have b0 := iv0 h1
  have b1 := iv1 h1
  go_upto_region 5 with (fail)
  have hX := Lib.hid (HX.out.below hb.drew)
  have hY := Lib.hid (HY.out.below hb.drew)
  replace hb := hb.drew
  refine wp_region_held_drew (S := Kept [w.heap.size + 1 + 1] w1) mixed (Kept.drew [w.heap.size + 1 + 1] w1) (fun hS => ?_)
  refine ha_k (i := 0) rfl (by kernel_rfl) (by kernel_rfl) (by kernel_rfl) (fun _ _ _ _ h => h) hS rfl (fun K hK => ?_); go_simp; refine hK _ ?_; clear hK K; try simp only [put_lit, List.set_cons_zero, List.set_cons_succ]
  refine ha_val (i := 1) rfl (by kernel_rfl) (by kernel_rfl) (by kernel_rfl) (fun _ _ _ h => h) hS rfl (fun w' hw' => ex_one rfl (one4 (hw'.cell b0 (by simp <;> omega)))) ?_; try simp only [put_lit, List.set_cons_zero, List.set_cons_succ]
  refine ha_k (i := 2) rfl (by kernel_rfl) (by kernel_rfl) (by kernel_rfl) (fun _ _ _ _ h => h) hS rfl (fun K hK => ?_); go_simp; refine hK _ ?_; clear hK K; try simp only [put_lit, List.set_cons_zero, List.set_cons_succ]
  refine ha_val (i := 3) rfl (by kernel_rfl) (by kernel_rfl) (by kernel_rfl) (fun _ _ _ h => h) hS rfl (fun w' hw' => ex_one rfl (one82 (hw'.cell b1 (by simp <;> omega)))) ?_; try simp only [put_lit, List.set_cons_zero, List.set_cons_succ]
  refine ha_k (i := 4) rfl (by kernel_rfl) (by kernel_rfl) (by kernel_rfl) (fun _ _ _ _ h => h) hS rfl (fun K hK => ?_); go_simp; refine hK _ ?_; clear hK K; try simp only [put_lit, List.set_cons_zero, List.set_cons_succ]
  refine ha_val (i := 5) rfl (by kernel_rfl) (by kernel_rfl) (by kernel_rfl) (fun _ _ _ h => h) hS rfl (fun w' hw' => ex_one rfl (one82 (hw'.cell a1 (by simp <;> omega)))) ?_; try simp only [put_lit, List.set_cons_zero, List.set_cons_succ]
  refine ha_call (i := 6) (by kernel_rfl) rfl rfl (fun K hK => ?_); go_simp; refine ⟨_, _, ⟨rfl, rfl⟩, hK _ _ ⟨_, less_any _ _ _ _ _ _ _ _ _ hY.out.2 hX.out.2 (nl_spec _) (nl_spec _) (by omega) HGE.out, ?_⟩⟩; clear hK K; rintro e w2 ⟨A2, c2, rfl, hc2, hl2, hb1⟩; refine ⟨_, rfl, hS.below hb1, ?_⟩; replace hS := hS.below hb1; have lt2 := heap_lt h2; replace hb := hb.trans (hb1.mono hb.size); replace h2 := below_look hb1 h2; clear hb1; try simp only [put_lit, List.set_cons_zero, List.set_cons_succ]
  refine ha_call (i := 7) (by kernel_rfl) rfl rfl (fun K hK => ?_); go_simp; refine ⟨_, _, ⟨rfl, rfl⟩, hK _ _ ⟨_, signedI_any _ _ _ _ _, ?_⟩⟩; clear hK K; rintro e w3 ⟨rfl, hb1⟩; refine ⟨_, rfl, hS.below hb1, ?_⟩; replace hS := hS.below hb1; replace hl2 := hl2.below hb1; replace hb := hb.trans (hb1.mono hb.size); replace h2 := below_look hb1 h2; clear hb1; rw [HZ.out]; try simp only [put_lit, List.set_cons_zero, List.set_cons_succ]
  refine ha_store (i := 8) (by kernel_rfl) rfl rfl 84 _ _ rfl _ (iv (x + y) A2 c2) rfl rfl 84 _ h2 info84 rfl (iv_one _ _ _) (hS.setRow (by simp) _) (fun hS => ?_); try simp only [put_lit, List.set_cons_zero, List.set_cons_succ]
  refine wpAnyH_done (by kernel_rfl) ?_ _
  go_wp2_with fail
  exact bodyPost_ret (res_iv rfl _ _ (w.heap.size + 1 + 1) rfl (hr_new h2)) rfl ⟨A2, c2, rfl, IvAt.of (x + y) (by rw [← HZ.out, sg_bd]) hc2 (lr_setRow hl2 lt2), below_setRow hb (by omega) _⟩
theorem Sum2_any (x y : Int) (A A' : Option Addr) (c c' : Nat) (w : World) (hx : IvAt w x A c) (hy : IvAt w y A' c') (hn : nl x.natAbs ≤ 400) (hn' : nl y.natAbs ≤ 400) :
    Calls Try.prog 87 #[.agg (iv x A c), .agg (iv y A' c')] w fun e w' => ∃ A2 c2, e = .returned (.agg (iv (x + y) A2 c2)) ∧ IvAt w' (x + y) A2 c2 ∧ Below w.heap.size w w' := by
  cases hs : (ng x == ng y)
  · by_cases h : y.natAbs ≤ x.natAbs
    · exact Sum2_big x y A A' c c' w hx hy hn hs h (add_big hs h)
    · exact Sum2_less x y A A' c c' w hx hy hn hn' hs (by omega) (add_less hs (by omega))
  · exact Sum2_same x y A A' c c' w hx hy hn hn' hs (add_same hs)
end Go.Proofs.Ytclainfdeghgnaa

namespace Go.Proofs.Ytclainfdeghgnaa
open Go.RowKit Go.Proofs.Ytclainfdeghgnaa.Nm Go.Proofs.Ytclainfdeghgnaa.Lm
theorem run_bs82b (w : World) (y z : Int) : (Instr.buildSlice 82 2 #[(0, .int .u32 y), (1, .int .u32 z)]).run Try.prog w = .ok (.slice (some ⟨w.heap.size, 0, none⟩) 2 2) (w.alloc (.cells #[.int .u32 y, .int .u32 z] 121)) := by kernel_rfl
theorem ex_bs82b {ev : Operand → Value} {o : Oper} {w : World} (x x' : Operand) (ho : o.op = .buildSlice 82 2 #[(0, x), (1, x')]) {y z : Int} (hx : ev x = .int .u32 y) (hx' : ev x' = .int .u32 z) :
    (execOp ev o).run Try.prog w = .ok (.value (.slice (some ⟨w.heap.size, 0, none⟩) 2 2)) (w.alloc (.cells #[.int .u32 y, .int .u32 z] 121)) := by
  unfold execOp
  have := run_bs82b w y z
  simp [ho, hx, hx', this, Result.andThen]
theorem two_limbs {m : Nat} : #[Value.int .u32 ((m % B : Nat) : Int), .int .u32 ((m / B % B : Nat) : Int)] = lcells m 2 := by
  have e0 : lm m 0 = m % B := by simp [lm]
  have e1 : lm m 1 = m / B % B := by unfold lm; rw [Nat.pow_one]
  simp [lcells, lrow, List.range_succ, e0, e1]
theorem lim64 {m : Nat} (h : m ≤ 9223372036854775808) : m < B ^ 2 := by
  have : B ^ 2 = 18446744073709551616 := by decide
  omega
theorem wl_put84 {ops : Array Oper} {rest : List Oper} {ty' : TypeId} {x y : Operand} {pos : String} {after : Array Edge} {a : Act} {w : World} {Q : Exit → Act → World → Prop} {b : Nat} {z z0 : Int} {A A0 : Option Addr} {c c0 : Nat} (hx : a.eval x = .pointer (some ⟨b, 0, none⟩)) (hy : a.eval y = .agg (iv z A c)) (hb : w.heap[b]? = some (.cells (iv z0 A0 c0) 84 (0, 0)))
    (h : wpList Try.prog ops Q rest (a.put none undef) (w.setRow b (iv z A c))) : wpList Try.prog ops Q (⟨none, .store 84 x y, ty', pos, after, none⟩ :: rest) a w :=
  wpList_store_row rfl 84 x y rfl b (iv z A c) hx hy 84 (iv z0 A0 c0) hb info84 rfl (iv_one _ _ _) h
set_option maxHeartbeats 1000000 in
set_option maxRecDepth 100000 in
theorem Of_any (n : Int) (h1 : -9223372036854775808 ≤ n) (h2 : n ≤ 9223372036854775807) (w : World) :
    Calls Try.prog 68 #[.int .i64 n] w fun e w' => ∃ A2 c2, e = .returned (.agg (iv n A2 c2)) ∧ IvAt w' n A2 c2 ∧ Below w.heap.size w w' := by
  obtain ⟨m, hm⟩ : ∃ m, n.natAbs = m := ⟨_, rfl⟩
  have HM := Lib.hid hm
  have hmu : (m : Int) ≤ 9223372036854775808 := by omega
  have hmu' : m ≤ 9223372036854775808 := by omega
  rcases Int.lt_or_le n 0 with hn | hn
  · have e1 := neg_u64 h1 hn
    rw [hm] at e1
    have E1 := Lib.hid e1
    clear hm
    go_enter Try.func68, Try.ntmps68
    go_upto_region 4 with (fail)
    refine wp_world (fun W => W.heap[w.heap.size]? = some (.cells (iv 0 none 0) 84 (0, 0)) ∧ Below w.heap.size w W) ⟨by rw [iv_zero]; exact ha_new rfl, (Below.refl _ _).alloc (Nat.le_refl _) _⟩ ?_
    rintro W ⟨h0, hb⟩
    apply wp_region_lit
    refine wl_k rfl (fun K hK => ?_); go_simp; refine hK _ ?_; clear hK K
    refine wl_k rfl (fun K hK => ?_); go_simp; refine hK _ ?_; clear hK K
    refine wl_k rfl (fun K hK => ?_); go_simp; refine hK _ ?_; clear hK K
    refine wl_k rfl (fun K hK => ?_); go_simp; refine hK _ ?_; clear hK K
    refine wl_k rfl (fun K hK => ?_); go_simp; refine hK _ ?_; clear hK K
    refine wl_k rfl (fun K hK => ?_); go_simp; refine hK _ ?_; clear hK K
    refine wl_k rfl (fun K hK => ?_); go_simp; refine hK _ ?_; clear hK K
    refine wl_w rfl (ex_bs82b _ _ rfl rfl rfl) ?_
    simp only [put_lit, List.set_cons_zero, List.set_cons_succ]
    try rw [E1.out]
    rw [show (m : Int) / 4294967296 = ((m / B : Nat) : Int) by rw [B_eq]; omega, wrap32, wrap32, two_limbs]
    have hl := lcells_lr (B0 := W.heap.size) (ha_new (w := W) (o := .cells (lcells m 2) 121) rfl) (Nat.le_refl _)
    refine wl_world (fun X => LrB W.heap.size X (some ⟨W.heap.size, 0, none⟩) 2 m ∧ X.heap[w.heap.size]? = some (.cells (iv 0 none 0) 84 (0, 0)) ∧ Below w.heap.size w X) ⟨hl, ha_old h0, hb.alloc hb.size _⟩ ?_
    have ltp := heap_lt h0
    clear hl h0 hb
    rintro X ⟨hl, h0, hb⟩
    refine wl_ck rfl (fun K hK => ?_); go_simp; refine ⟨_, _, ⟨rfl, rfl⟩, hK _ _ ⟨_, trim_any _ 2 2 m _ hl.lr (lim64 hmu') (Nat.le_refl _) (by omega), ?_⟩⟩; clear hK K; rintro e X2 ⟨rfl, rfl⟩; refine ⟨_, rfl, ?_⟩; simp only [put_lit, List.set_cons_zero, List.set_cons_succ]
    refine wl_k rfl (fun K hK => ?_); go_simp; refine hK _ ?_; clear hK K
    refine wl_put84 (z := n) (A := some ⟨W.heap.size, 0, none⟩) (c := 2) rfl ?_ h0 ?_
    · unfold iv
      rw [HM.out, ng_def]
      simp only [hn, decide_true]
      rfl
    have hle := nl_le _ _ (lim64 hmu')
    go_wp2_with fail
    exact bodyPost_ret (res_iv rfl _ _ w.heap.size rfl (hr_new h0)) rfl ⟨_, _, rfl, IvAt.of n HM.out hle (lr_setRow (hl.le hle) ltp), below_setRow hb (by omega) _⟩
  · have e1 := pos_u64 hn h2
    rw [hm] at e1
    have E1 := Lib.hid e1
    have hn' : ¬ n < 0 := by omega
    clear hm
    go_enter Try.func68, Try.ntmps68
    go_upto_region 4 with (fail)
    refine wp_world (fun W => W.heap[w.heap.size]? = some (.cells (iv 0 none 0) 84 (0, 0)) ∧ Below w.heap.size w W) ⟨by rw [iv_zero]; exact ha_new rfl, (Below.refl _ _).alloc (Nat.le_refl _) _⟩ ?_
    rintro W ⟨h0, hb⟩
    apply wp_region_lit
    refine wl_k rfl (fun K hK => ?_); go_simp; refine hK _ ?_; clear hK K
    refine wl_k rfl (fun K hK => ?_); go_simp; refine hK _ ?_; clear hK K
    refine wl_k rfl (fun K hK => ?_); go_simp; refine hK _ ?_; clear hK K
    refine wl_k rfl (fun K hK => ?_); go_simp; refine hK _ ?_; clear hK K
    refine wl_k rfl (fun K hK => ?_); go_simp; refine hK _ ?_; clear hK K
    refine wl_k rfl (fun K hK => ?_); go_simp; refine hK _ ?_; clear hK K
    refine wl_k rfl (fun K hK => ?_); go_simp; refine hK _ ?_; clear hK K
    refine wl_w rfl (ex_bs82b _ _ rfl rfl rfl) ?_
    simp only [put_lit, List.set_cons_zero, List.set_cons_succ]
    try rw [E1.out]
    rw [show (m : Int) / 4294967296 = ((m / B : Nat) : Int) by rw [B_eq]; omega, wrap32, wrap32, two_limbs]
    have hl := lcells_lr (B0 := W.heap.size) (ha_new (w := W) (o := .cells (lcells m 2) 121) rfl) (Nat.le_refl _)
    refine wl_world (fun X => LrB W.heap.size X (some ⟨W.heap.size, 0, none⟩) 2 m ∧ X.heap[w.heap.size]? = some (.cells (iv 0 none 0) 84 (0, 0)) ∧ Below w.heap.size w X) ⟨hl, ha_old h0, hb.alloc hb.size _⟩ ?_
    have ltp := heap_lt h0
    clear hl h0 hb
    rintro X ⟨hl, h0, hb⟩
    refine wl_ck rfl (fun K hK => ?_); go_simp; refine ⟨_, _, ⟨rfl, rfl⟩, hK _ _ ⟨_, trim_any _ 2 2 m _ hl.lr (lim64 hmu') (Nat.le_refl _) (by omega), ?_⟩⟩; clear hK K; rintro e X2 ⟨rfl, rfl⟩; refine ⟨_, rfl, ?_⟩; simp only [put_lit, List.set_cons_zero, List.set_cons_succ]
    refine wl_k rfl (fun K hK => ?_); go_simp; refine hK _ ?_; clear hK K
    refine wl_put84 (z := n) (A := some ⟨W.heap.size, 0, none⟩) (c := 2) rfl ?_ h0 ?_
    · unfold iv
      rw [HM.out, ng_def]
      simp only [hn', decide_false]
      rfl
    have hle := nl_le _ _ (lim64 hmu')
    go_wp2_with fail
    exact bodyPost_ret (res_iv rfl _ _ w.heap.size rfl (hr_new h0)) rfl ⟨_, _, rfl, IvAt.of n HM.out hle (lr_setRow (hl.le hle) ltp), below_setRow hb (by omega) _⟩
theorem IvAt.put {w : World} {z z0 : Int} {A A0 : Option Addr} {c c0 p : Nat} (h : IvAt w z A c) (hp : w.heap[p]? = some (.cells (iv z0 A0 c0) 84 (0, 0))) (cs : Array Value) : IvAt (w.setRow p cs) z A c := ⟨h.1, fun hn => by
  obtain ⟨g, h1, h2, h3⟩ := h.2 hn
  have hne : g ≠ p := by
    rintro rfl
    have := h3 0 hn
    rw [iv0 hp] at this
    cases this
  refine ⟨g, h1, by simpa using h2, fun j hj => ?_⟩
  rw [World.cell?_of_block (setRow_other w p g cs hne)]
  exact h3 j hj⟩
theorem ex_alloc84 {o : Oper} (ho : o.op = .alloc 84) (ev : Operand → Value) (w : World) : (execOp ev o).run Try.prog w = .ok (.value (.pointer (some ⟨w.heap.size, 0, none⟩))) (w.alloc (.cells (iv 0 none 0) 84)) := by
  rw [iv_zero]
  unfold execOp
  simp only [ho]
  simp [go_sem]
theorem wl_new84 {ops : Array Oper} {rest : List Oper} {dst : Option Tmp} {ty' : TypeId} {pos : String} {after : Array Edge} {a : Act} {w : World} {Q : Exit → Act → World → Prop}
    (h : ∀ W p, Below w.heap.size w W → w.heap.size ≤ p → W.heap[p]? = some (.cells (iv 0 none 0) 84 (0, 0)) → wpList Try.prog ops Q rest (a.put dst (.pointer (some ⟨p, 0, none⟩))) W) : wpList Try.prog ops Q (⟨dst, .alloc 84, ty', pos, after, none⟩ :: rest) a w := wl_new (ex_alloc84 rfl) h
/-- A whole number stored: behind it the world under a name. -/
theorem wl_putI {ops : Array Oper} {rest : List Oper} {ty' : TypeId} {x y : Operand} {pos : String} {after : Array Edge} {a : Act} {w : World} {Q : Exit → Act → World → Prop} {b : Nat} {z z0 : Int} {A A0 : Option Addr} {c c0 : Nat} (hx : a.eval x = .pointer (some ⟨b, 0, none⟩)) (hy : a.eval y = .agg (iv z A c)) (hb : w.heap[b]? = some (.cells (iv z0 A0 c0) 84 (0, 0)))
    (h : ∀ W, (∀ B w0, B ≤ b → Below B w0 w → Below B w0 W) → (∀ k o, k ≠ b → w.heap[k]? = some o → W.heap[k]? = some o) → W.heap[b]? = some (.cells (iv z A c) 84 (0, 0)) → (∀ z A c, IvAt w z A c → IvAt W z A c) → wpList Try.prog ops Q rest (a.put none undef) W) :
    wpList Try.prog ops Q (⟨none, .store 84 x y, ty', pos, after, none⟩ :: rest) a w :=
  wl_put84 hx hy hb (h _ (fun _ _ hB h0 => below_setRow h0 hB _) (fun _ _ hne h0 => hr_old h0 hne) (hr_new hb) (fun _ _ _ hi => hi.put hb _))
theorem res_iv2 {fn : Func} {p q : Tmp} (h : fn.results = #[.cell p 84, .cell q 84]) (tmps : Array Value) (w : World) (g g' : Nat) (hp : tmps.getD p undef = .pointer (some ⟨g, 0, none⟩)) (hq : tmps.getD q undef = .pointer (some ⟨g', 0, none⟩)) {z z' : Int} {A A' : Option Addr} {c c' : Nat}
    (hg : w.heap[g]? = some (.cells (iv z A c) 84 (0, 0))) (hg' : w.heap[g']? = some (.cells (iv z' A' c') 84 (0, 0))) : (results fn tmps).run Try.prog w = .ok (.tuple #[.agg (iv z A c), .agg (iv z' A' c')]) w := by
  have hp' : tmps[p]?.getD undef = .pointer (some ⟨g, 0, none⟩) := by simpa using hp
  have hq' : tmps[q]?.getD undef = .pointer (some ⟨g', 0, none⟩) := by simpa using hq
  have l1 : (loadVar 84 ⟨g, 0, none⟩).run Try.prog w = .ok (.agg (iv z A c)) w := by have := rowIv hg; unfold RowAt at this; exact this
  have l2 : (loadVar 84 ⟨g', 0, none⟩).run Try.prog w = .ok (.agg (iv z' A' c')) w := by have := rowIv hg'; unfold RowAt at this; exact this
  unfold results
  simp [h, hp', hq', asAddr, l1, l2, Result.andThen]
theorem sg_neg (z : Int) : sg (!ng z) z.natAbs = -z := by
  rw [ng_def]; unfold sg
  by_cases h : z < 0
  · simp [h]; omega
  · simp [h]; omega
set_option maxHeartbeats 1000000 in
theorem MinusI_any (x y : Int) (A A' : Option Addr) (c c' : Nat) (w : World) (hx : IvAt w x A c) (hy : IvAt w y A' c') (hn : nl x.natAbs ≤ 400) (hn' : nl y.natAbs ≤ 400) :
    Calls Try.prog 90 #[.agg (iv x A c), .agg (iv y A' c')] w fun e w' => ∃ A2 c2, e = .returned (.agg (iv (x - y) A2 c2)) ∧ IvAt w' (x - y) A2 c2 ∧ Below w.heap.size w w' := by
  rw [Int.sub_eq_add_neg]
  have HX := Lib.hid hx
  have HY := Lib.hid hy
  clear hx hy
  go_enter Try.func90, Try.ntmps90
  go_upto_region 1 with (fail)
  refine wp_world (fun W => W.heap[w.heap.size]? = some (.cells (iv x A c) 84 (0, 0)) ∧ W.heap[w.heap.size + 1]? = some (.cells (iv y A' c') 84 (0, 0)) ∧ W.heap[w.heap.size + 1 + 1]? = some (.cells (iv 0 none 0) 84 (0, 0)) ∧ Below w.heap.size w W) ⟨ha_old (ha_old (ha_new rfl)), ha_old (ha_new (by simp)), by rw [iv_zero]; exact ha_new (by simp), (((Below.refl _ _).alloc (Nat.le_refl _) _).alloc (by simp) _).alloc (by simp; omega) _⟩ ?_
  rintro W ⟨h0, h1, h2, hb⟩
  have a0 := iv0 h0
  have a1 := iv1 h0
  have b0 := iv0 h1
  have b1 := iv1 h1
  have hX := Lib.hid (HX.out.below hb.drew)
  have hY := Lib.hid (HY.out.below hb.drew)
  replace hb := hb.drew
  refine wp_region_held_drew (S := Kept [w.heap.size + 1 + 1] W) mixed (Kept.drew [w.heap.size + 1 + 1] W) (fun hS => ?_)
  refine ha_val (i := 0) rfl (by kernel_rfl) (by kernel_rfl) (by kernel_rfl) (fun _ _ _ h => h) hS rfl (fun w' hw' => ex_row rfl (rowIv (hw'.look h0 (by simp <;> omega)))) ?_; try simp only [put_lit, List.set_cons_zero, List.set_cons_succ]
  refine ha_k (i := 1) rfl (by kernel_rfl) (by kernel_rfl) (by kernel_rfl) (fun _ _ _ _ h => h) hS rfl (fun K hK => ?_); go_simp; refine hK _ ?_; clear hK K; try simp only [put_lit, List.set_cons_zero, List.set_cons_succ]
  refine ha_val (i := 2) rfl (by kernel_rfl) (by kernel_rfl) (by kernel_rfl) (fun _ _ _ h => h) hS rfl (fun w' hw' => ex_one rfl (one4 (hw'.cell b0 (by simp <;> omega)))) ?_; try simp only [put_lit, List.set_cons_zero, List.set_cons_succ]
  refine ha_k (i := 3) rfl (by kernel_rfl) (by kernel_rfl) (by kernel_rfl) (fun _ _ _ _ h => h) hS rfl (fun K hK => ?_); go_simp; refine hK _ ?_; clear hK K; try simp only [put_lit, List.set_cons_zero, List.set_cons_succ]
  refine ha_k (i := 4) rfl (by kernel_rfl) (by kernel_rfl) (by kernel_rfl) (fun _ _ _ _ h => h) hS rfl (fun K hK => ?_); go_simp; refine hK _ ?_; clear hK K; try simp only [put_lit, List.set_cons_zero, List.set_cons_succ]
  refine ha_val (i := 5) rfl (by kernel_rfl) (by kernel_rfl) (by kernel_rfl) (fun _ _ _ h => h) hS rfl (fun w' hw' => ex_one rfl (one82 (hw'.cell b1 (by simp <;> omega)))) ?_; try simp only [put_lit, List.set_cons_zero, List.set_cons_succ]
  refine ha_call (i := 6) (by kernel_rfl) rfl rfl (fun K hK => ?_); go_simp; refine ⟨_, _, ⟨rfl, rfl⟩, hK _ _ ⟨_, signedI_any _ _ _ _ _, ?_⟩⟩; clear hK K; rintro e w2 ⟨rfl, hb1⟩; refine ⟨_, rfl, hS.below hb1, ?_⟩; replace hS := hS.below hb1; have lt2 := heap_lt h2; replace hX := Lib.hid (hX.out.below hb1); replace hY := Lib.hid (hY.out.below hb1); replace hb := hb.trans (hb1.mono hb.size); replace h2 := below_look hb1 h2; clear hb1; rw [sg_neg]; try simp only [put_lit, List.set_cons_zero, List.set_cons_succ]
  refine ha_call (i := 7) (by kernel_rfl) rfl rfl (fun K hK => ?_); go_simp; refine ⟨_, _, ⟨rfl, rfl⟩, hK _ _ ⟨_, Sum2_any x (-y) _ _ _ _ _ hX.out ⟨by rw [Int.natAbs_neg]; exact hY.out.1, by rw [Int.natAbs_neg]; exact hY.out.2⟩ hn (by rw [Int.natAbs_neg]; exact hn'), ?_⟩⟩; clear hK K; rintro e w3 ⟨A2, c2, rfl, hI, hb1⟩; refine ⟨_, rfl, hS.below hb1, ?_⟩; replace hS := hS.below hb1; replace hb := hb.trans (hb1.mono hb.size); replace h2 := below_look hb1 h2; clear hb1; try simp only [put_lit, List.set_cons_zero, List.set_cons_succ]
  refine ha_store (i := 8) (by kernel_rfl) rfl rfl 84 _ _ rfl _ (iv (x + -y) A2 c2) rfl rfl 84 _ h2 info84 rfl (iv_one _ _ _) (hS.setRow (by simp) _) (fun hS => ?_); try simp only [put_lit, List.set_cons_zero, List.set_cons_succ]
  refine wpAnyH_done (by kernel_rfl) ?_ _
  go_wp2_with fail
  exact bodyPost_ret (res_iv rfl _ _ (w.heap.size + 1 + 1) rfl (hr_new h2)) rfl ⟨A2, c2, rfl, hI.put h2 _, below_setRow hb (by omega) _⟩
set_option maxHeartbeats 1000000 in
theorem TimesI_any (x y : Int) (A A' : Option Addr) (c c' : Nat) (w : World) (hx : IvAt w x A c) (hy : IvAt w y A' c') (hn : nl x.natAbs ≤ 400) (hn' : nl y.natAbs ≤ 400) :
    Calls Try.prog 78 #[.agg (iv x A c), .agg (iv y A' c')] w fun e w' => ∃ A2 c2, e = .returned (.agg (iv (x * y) A2 c2)) ∧ IvAt w' (x * y) A2 c2 ∧ Below w.heap.size w w' := by
  have HX := Lib.hid hx
  have HY := Lib.hid hy
  clear hx hy
  have HM := Lib.hid (mul_sg x y)
  go_enter Try.func78, Try.ntmps78
  go_upto_region 1 with (fail)
  refine wp_world (fun W => W.heap[w.heap.size]? = some (.cells (iv x A c) 84 (0, 0)) ∧ W.heap[w.heap.size + 1]? = some (.cells (iv y A' c') 84 (0, 0)) ∧ W.heap[w.heap.size + 1 + 1]? = some (.cells (iv 0 none 0) 84 (0, 0)) ∧ Below w.heap.size w W) ⟨ha_old (ha_old (ha_new rfl)), ha_old (ha_new (by simp)), by rw [iv_zero]; exact ha_new (by simp), (((Below.refl _ _).alloc (Nat.le_refl _) _).alloc (by simp) _).alloc (by simp; omega) _⟩ ?_
  rintro W ⟨h0, h1, h2, hb⟩
  have a0 := iv0 h0
  have a1 := iv1 h0
  have b0 := iv0 h1
  have b1 := iv1 h1
  have hX := Lib.hid (HX.out.below hb.drew)
  have hY := Lib.hid (HY.out.below hb.drew)
  replace hb := hb.drew
  refine wp_region_held_drew (S := Kept [w.heap.size + 1 + 1] W) mixed (Kept.drew [w.heap.size + 1 + 1] W) (fun hS => ?_)
  refine ha_k (i := 0) rfl (by kernel_rfl) (by kernel_rfl) (by kernel_rfl) (fun _ _ _ _ h => h) hS rfl (fun K hK => ?_); go_simp; refine hK _ ?_; clear hK K; try simp only [put_lit, List.set_cons_zero, List.set_cons_succ]
  refine ha_val (i := 1) rfl (by kernel_rfl) (by kernel_rfl) (by kernel_rfl) (fun _ _ _ h => h) hS rfl (fun w' hw' => ex_one rfl (one4 (hw'.cell a0 (by simp <;> omega)))) ?_; try simp only [put_lit, List.set_cons_zero, List.set_cons_succ]
  refine ha_k (i := 2) rfl (by kernel_rfl) (by kernel_rfl) (by kernel_rfl) (fun _ _ _ _ h => h) hS rfl (fun K hK => ?_); go_simp; refine hK _ ?_; clear hK K; try simp only [put_lit, List.set_cons_zero, List.set_cons_succ]
  refine ha_val (i := 3) rfl (by kernel_rfl) (by kernel_rfl) (by kernel_rfl) (fun _ _ _ h => h) hS rfl (fun w' hw' => ex_one rfl (one4 (hw'.cell b0 (by simp <;> omega)))) ?_; try simp only [put_lit, List.set_cons_zero, List.set_cons_succ]
  refine ha_k (i := 4) rfl (by kernel_rfl) (by kernel_rfl) (by kernel_rfl) (fun _ _ _ _ h => h) hS rfl (fun K hK => ?_); go_simp; refine hK _ ?_; clear hK K; try simp only [put_lit, List.set_cons_zero, List.set_cons_succ]
  refine ha_k (i := 5) rfl (by kernel_rfl) (by kernel_rfl) (by kernel_rfl) (fun _ _ _ _ h => h) hS rfl (fun K hK => ?_); go_simp; refine hK _ ?_; clear hK K; try simp only [put_lit, List.set_cons_zero, List.set_cons_succ]
  refine ha_val (i := 6) rfl (by kernel_rfl) (by kernel_rfl) (by kernel_rfl) (fun _ _ _ h => h) hS rfl (fun w' hw' => ex_one rfl (one82 (hw'.cell a1 (by simp <;> omega)))) ?_; try simp only [put_lit, List.set_cons_zero, List.set_cons_succ]
  refine ha_k (i := 7) rfl (by kernel_rfl) (by kernel_rfl) (by kernel_rfl) (fun _ _ _ _ h => h) hS rfl (fun K hK => ?_); go_simp; refine hK _ ?_; clear hK K; try simp only [put_lit, List.set_cons_zero, List.set_cons_succ]
  refine ha_val (i := 8) rfl (by kernel_rfl) (by kernel_rfl) (by kernel_rfl) (fun _ _ _ h => h) hS rfl (fun w' hw' => ex_one rfl (one82 (hw'.cell b1 (by simp <;> omega)))) ?_; try simp only [put_lit, List.set_cons_zero, List.set_cons_succ]
  refine ha_call (i := 9) (by kernel_rfl) rfl rfl (fun K hK => ?_); go_simp; refine ⟨_, _, ⟨rfl, rfl⟩, hK _ _ ⟨_, times_any _ _ _ _ _ _ _ _ _ hX.out.2 hY.out.2 (nl_spec _) (nl_spec _) (by omega) (by omega), ?_⟩⟩; clear hK K; rintro e w2 ⟨A2, c2, rfl, hc2, hl2, hb1⟩; refine ⟨_, rfl, hS.below hb1, ?_⟩; replace hS := hS.below hb1; have lt2 := heap_lt h2; replace hb := hb.trans (hb1.mono hb.size); replace h2 := below_look hb1 h2; clear hb1; try simp only [put_lit, List.set_cons_zero, List.set_cons_succ]
  refine ha_call (i := 10) (by kernel_rfl) rfl rfl (fun K hK => ?_); go_simp; refine ⟨_, _, ⟨rfl, rfl⟩, hK _ _ ⟨_, signedI_any (ng x != ng y) _ _ _ _, ?_⟩⟩; clear hK K; rintro e w3 ⟨rfl, hb1⟩; refine ⟨_, rfl, hS.below hb1, ?_⟩; replace hS := hS.below hb1; replace hl2 := hl2.below hb1; replace hb := hb.trans (hb1.mono hb.size); replace h2 := below_look hb1 h2; clear hb1; rw [HM.out]; try simp only [put_lit, List.set_cons_zero, List.set_cons_succ]
  refine ha_store (i := 11) (by kernel_rfl) rfl rfl 84 _ _ rfl _ (iv (x * y) A2 c2) rfl rfl 84 _ h2 info84 rfl (iv_one _ _ _) (hS.setRow (by simp) _) (fun hS => ?_); try simp only [put_lit, List.set_cons_zero, List.set_cons_succ]
  refine wpAnyH_done (by kernel_rfl) ?_ _
  go_wp2_with fail
  exact bodyPost_ret (res_iv rfl _ _ (w.heap.size + 1 + 1) rfl (hr_new h2)) rfl ⟨A2, c2, rfl, IvAt.of (x * y) (Int.natAbs_mul _ _) hc2 (lr_setRow hl2 lt2), below_setRow hb (by omega) _⟩
theorem nl_sub {r b k : Nat} (h : r ≤ b) (hb : nl b ≤ k) : nl r ≤ k := Nat.le_trans (nl_mono h) hb
set_option maxHeartbeats 1000000 in
theorem PartedI_any (x y : Int) (A A' : Option Addr) (c c' : Nat) (w : World) (hx : IvAt w x A c) (hy : IvAt w y A' c') (hn : nl x.natAbs ≤ 400) (hn' : nl y.natAbs ≤ 400) (h0y : y ≠ 0) :
    Calls Try.prog 116 #[.agg (iv x A c), .agg (iv y A' c')] w fun e w' => ∃ A2 c2 A3 c3, e = .returned (.tuple #[.agg (iv (x.tdiv y) A2 c2), .agg (iv (x.tmod y) A3 c3)]) ∧ IvAt w' (x.tdiv y) A2 c2 ∧ IvAt w' (x.tmod y) A3 c3 ∧ Below w.heap.size w w' := by
  have HP := Lib.hid (Int.natAbs_pos.2 h0y)
  clear h0y
  have HX := Lib.hid hx
  have HY := Lib.hid hy
  clear hx hy
  have HM := Lib.hid (And.intro (tdiv_sg x y) (tmod_sg x y))
  go_enter Try.func116, Try.ntmps116
  go_upto_region 1 with (fail)
  refine wp_world (fun W => W.heap[w.heap.size]? = some (.cells (iv x A c) 84 (0, 0)) ∧ W.heap[w.heap.size + 1]? = some (.cells (iv y A' c') 84 (0, 0)) ∧ W.heap[w.heap.size + 1 + 1]? = some (.cells (iv 0 none 0) 84 (0, 0)) ∧ W.heap[w.heap.size + 1 + 1 + 1]? = some (.cells (iv 0 none 0) 84 (0, 0)) ∧ Below w.heap.size w W) ⟨ha_old (ha_old (ha_old (ha_new rfl))), ha_old (ha_old (ha_new (by simp))), by rw [iv_zero]; exact ha_old (ha_new (by simp)), by rw [iv_zero]; exact ha_new (by simp), ((((Below.refl _ _).alloc (Nat.le_refl _) _).alloc (by simp) _).alloc (by simp; omega) _).alloc (by simp; omega) _⟩ ?_
  rintro W ⟨h0, h1, h2, h3, hb⟩
  have a1 := iv1 h0
  have b1 := iv1 h1
  have hX := (HX.out.below hb)
  have hY := (HY.out.below hb)
  apply wp_region_lit
  refine wl_k rfl (fun K hK => ?_); go_simp; refine hK _ ?_; clear hK K
  ((with_reducible apply wl_oneG); exact rfl; exact rfl; exact one82 (by with_reducible assumption))
  refine wl_k rfl (fun K hK => ?_); go_simp; refine hK _ ?_; clear hK K
  ((with_reducible apply wl_oneG); exact rfl; exact rfl; exact one82 (by with_reducible assumption))
  clear a1 b1
  refine wl_ck rfl (fun K hK => ?_); go_simp; refine ⟨_, _, ⟨rfl, rfl⟩, hK _ _ ⟨_, parted_any _ _ _ _ _ x.natAbs y.natAbs _ hX.2 hY.2 (nl_spec _) (by omega) (by omega) HP.out, ?_⟩⟩; clear hK K; rintro e w1 ⟨A2, c2, A3, c3, rfl, hc2, hc3, hl2, hl3, hb1⟩; refine ⟨_, rfl, ?_⟩; simp only [put_lit, List.set_cons_zero, List.set_cons_succ]
  have lt3 := heap_lt h3
  replace h0 := below_look hb1 h0
  replace h1 := below_look hb1 h1
  replace h2 := below_look hb1 h2
  replace h3 := below_look hb1 h3
  replace hb := hb.trans (hb1.mono hb.size)
  clear hb1 hX hY
  refine wl_k rfl (fun K hK => ?_); go_simp; refine hK _ ?_; clear hK K
  refine wl_k rfl (fun K hK => ?_); go_simp; refine hK _ ?_; clear hK K
  refine wl_k rfl (fun K hK => ?_); go_simp; refine hK _ ?_; clear hK K
  have a0 := iv0 h0
  have b0 := iv0 h1
  go_upto_region 2 with (fail)
  have H2 : IvAt w1.drew (sg (ng x != ng y) (x.natAbs / y.natAbs)) A2 c2 := IvAt.of _ (sg_bd _ _) hc2 hl2
  have H3 : IvAt w1.drew (sg (ng x) (x.natAbs % y.natAbs)) A3 c3 := IvAt.of _ (sg_bd _ _) hc3 hl3
  clear hc2 hc3 hl2 hl3
  rw [HM.out.1] at H2
  rw [HM.out.2] at H3
  replace hb := hb.drew
  refine wp_region_held_drew (S := Kept [w.heap.size + 1 + 1, w.heap.size + 1 + 1 + 1] w1) mixed (Kept.drew [w.heap.size + 1 + 1, w.heap.size + 1 + 1 + 1] w1) (fun hS => ?_)
  refine ha_k (i := 0) rfl (by kernel_rfl) (by kernel_rfl) (by kernel_rfl) (fun _ _ _ _ h => h) hS rfl (fun K hK => ?_); go_simp; refine hK _ ?_; clear hK K; try simp only [put_lit, List.set_cons_zero, List.set_cons_succ]
  refine ha_val (i := 1) rfl (by kernel_rfl) (by kernel_rfl) (by kernel_rfl) (fun _ _ _ h => h) hS rfl (fun w' hw' => ex_one rfl (one4 (hw'.cell a0 (by simp <;> omega)))) ?_; try simp only [put_lit, List.set_cons_zero, List.set_cons_succ]
  refine ha_k (i := 2) rfl (by kernel_rfl) (by kernel_rfl) (by kernel_rfl) (fun _ _ _ _ h => h) hS rfl (fun K hK => ?_); go_simp; refine hK _ ?_; clear hK K; try simp only [put_lit, List.set_cons_zero, List.set_cons_succ]
  refine ha_val (i := 3) rfl (by kernel_rfl) (by kernel_rfl) (by kernel_rfl) (fun _ _ _ h => h) hS rfl (fun w' hw' => ex_one rfl (one4 (hw'.cell b0 (by simp <;> omega)))) ?_; try simp only [put_lit, List.set_cons_zero, List.set_cons_succ]
  refine ha_k (i := 4) rfl (by kernel_rfl) (by kernel_rfl) (by kernel_rfl) (fun _ _ _ _ h => h) hS rfl (fun K hK => ?_); go_simp; refine hK _ ?_; clear hK K; try simp only [put_lit, List.set_cons_zero, List.set_cons_succ]
  refine ha_k (i := 5) rfl (by kernel_rfl) (by kernel_rfl) (by kernel_rfl) (fun _ _ _ _ h => h) hS rfl (fun K hK => ?_); go_simp; refine hK _ ?_; clear hK K; try simp only [put_lit, List.set_cons_zero, List.set_cons_succ]
  refine ha_k (i := 7) rfl (by kernel_rfl) (by kernel_rfl) (by kernel_rfl) (fun _ _ _ _ h => h) hS rfl (fun K hK => ?_); go_simp; refine hK _ ?_; clear hK K; try simp only [put_lit, List.set_cons_zero, List.set_cons_succ]
  refine ha_val (i := 8) rfl (by kernel_rfl) (by kernel_rfl) (by kernel_rfl) (fun _ _ _ h => h) hS rfl (fun w' hw' => ex_one rfl (one4 (hw'.cell a0 (by simp <;> omega)))) ?_; try simp only [put_lit, List.set_cons_zero, List.set_cons_succ]
  refine ha_k (i := 9) rfl (by kernel_rfl) (by kernel_rfl) (by kernel_rfl) (fun _ _ _ _ h => h) hS rfl (fun K hK => ?_); go_simp; refine hK _ ?_; clear hK K; try simp only [put_lit, List.set_cons_zero, List.set_cons_succ]
  refine ha_call (i := 6) (by kernel_rfl) rfl rfl (fun K hK => ?_); go_simp; refine ⟨_, _, ⟨rfl, rfl⟩, hK _ _ ⟨_, signedI_any (ng x != ng y) _ _ _ _, ?_⟩⟩; clear hK K; rintro e w2 ⟨rfl, hb1⟩; refine ⟨_, rfl, hS.below hb1, ?_⟩; replace hS := hS.below hb1; replace h2 := below_look hb1 h2; replace h3 := below_look hb1 h3; replace H2 := H2.below hb1; replace H3 := H3.below hb1; replace hb := hb.trans (hb1.mono hb.size); clear hb1; rw [HM.out.1]; try simp only [put_lit, List.set_cons_zero, List.set_cons_succ]
  refine ha_call (i := 10) (by kernel_rfl) rfl rfl (fun K hK => ?_); go_simp; refine ⟨_, _, ⟨rfl, rfl⟩, hK _ _ ⟨_, signedI_any _ _ _ _ _, ?_⟩⟩; clear hK K; rintro e w3 ⟨rfl, hb1⟩; refine ⟨_, rfl, hS.below hb1, ?_⟩; replace hS := hS.below hb1; replace h2 := below_look hb1 h2; replace h3 := below_look hb1 h3; replace H2 := H2.below hb1; replace H3 := H3.below hb1; replace hb := hb.trans (hb1.mono hb.size); clear hb1; rw [HM.out.2]; try simp only [put_lit, List.set_cons_zero, List.set_cons_succ]
  refine ha_store (i := 11) (by kernel_rfl) rfl rfl 84 _ _ rfl _ (iv (x.tdiv y) A2 c2) rfl rfl 84 _ h2 info84 rfl (iv_one _ _ _) (hS.setRow (by simp) _) (fun hS => ?_); try simp only [put_lit, List.set_cons_zero, List.set_cons_succ]
  refine ha_store (i := 12) (by kernel_rfl) rfl rfl 84 _ _ rfl _ (iv (x.tmod y) A3 c3) rfl rfl 84 _ (hr_old h3 (by omega)) info84 rfl (iv_one _ _ _) (hS.setRow (by simp) _) (fun hS => ?_); try simp only [put_lit, List.set_cons_zero, List.set_cons_succ]
  refine wpAnyH_done (by kernel_rfl) ?_ _
  have h3' : (w3.setRow (w.heap.size + 1 + 1) (iv (x.tdiv y) A2 c2)).heap[w.heap.size + 1 + 1 + 1]? = some (.cells (iv 0 none 0) 84 (0, 0)) := hr_old h3 (by omega)
  go_wp2_with fail
  refine bodyPost_ret (res_iv2 rfl _ _ (w.heap.size + 1 + 1) (w.heap.size + 1 + 1 + 1) rfl rfl (hr_old (hr_new h2) (by omega)) (hr_new h3')) rfl ⟨A2, c2, A3, c3, rfl, (H2.put h2 _).put h3' _, (H3.put h2 _).put h3' _, below_setRow (below_setRow hb (by omega) _) (by omega) _⟩
end Go.Proofs.Ytclainfdeghgnaa
