/- A number brought into a width by a mode. -/
import Derived.Test.YtclainfdeghgnaaW12
import Derived.Outline
namespace Go.Proofs.Ytclainfdeghgnaa
open Go.RowKit Nm

theorem res_longErr {fn : Func} {p q : Tmp} (h : fn.results = #[.cell p 75, .tmp q]) (tmps : Array Value) (w : World) (g : Nat) (hp : tmps.getD p undef = .pointer (some ⟨g, 0, none⟩)) {x : Int}
    (hg : w.heap[g]? = some (.cells (lv x) 75 (0, 0))) : (results fn tmps).run Try.prog w = .ok (.tuple #[.agg (lv x), tmps.getD q undef]) w := by
  have hp' : tmps[p]?.getD undef = .pointer (some ⟨g, 0, none⟩) := by simpa using hp
  have l1 : (loadVar 75 ⟨g, 0, none⟩).run Try.prog w = .ok (.agg (lv x)) w := by have := rowL hg; unfold RowAt at this; exact this
  rw [results_cell_tmp h]
  simp [hp', asAddr, l1, Result.andThen]

set_option maxHeartbeats 400000 in
theorem bring_has (bits : Nat) (s : Bool) (x : Int) (m : ByteArray) (h1 : 1 ≤ bits) (h2 : bits ≤ 64) (hx : x.natAbs ≤ 100000000000000000000000000000000000000000000000000000000000) (hh : hasW bits s x = true) (w : World) :
    Calls Try.prog 59 #[.agg (wv bits s), .agg (lv x), .string m] w fun e w' => e = .returned (.tuple #[.agg (lv x), .int .i64 0]) ∧ Below w.heap.size w w' := by
  have HB := Lib.hid (wrapBd s h2 hx)
  clear hx
  go_enter Try.func59, Try.ntmps59
  go_upto_region 1 with (fail)
  refine wp_world (fun W => W.heap[w.heap.size]? = some (.cells (wv bits s) 68 (0, 0)) ∧ W.heap[w.heap.size + 1]? = some (.cells (lv x) 75 (0, 0)) ∧ W.heap[w.heap.size + 1 + 1]? = some (.cells (lv 0) 75 (0, 0)) ∧ Below w.heap.size w W) ⟨ha_old (ha_old (ha_new rfl)), ha_old (ha_new (by simp)), by rw [← zero_long]; exact ha_new (by simp), (((Below.refl _ _).alloc (Nat.le_refl _) _).alloc (by simp) _).alloc (by simp; omega) _⟩ ?_
  rintro W ⟨h0, h3, h4, hb⟩
  apply wp_region_lit
  ((with_reducible apply wl_rowG); exact rfl; exact rfl; exact rowW (by with_reducible assumption))
  refine wl_ck rfl (fun K hK => ?_); go_simp; refine ⟨_, _, ⟨rfl, rfl⟩, hK _ _ ⟨_, ends_any bits s h1 h2 _, ?_⟩⟩; clear hK K; rintro e w1 ⟨rfl, hb1⟩; refine ⟨_, rfl, ?_⟩; simp only [put_lit, List.set_cons_zero, List.set_cons_succ]
  replace h0 := below_look hb1 h0; replace h3 := below_look hb1 h3; replace h4 := below_look hb1 h4; replace hb := hb.trans (hb1.mono hb.size); clear hb1
  refine wl_k rfl (fun K hK => ?_); go_simp; refine hK _ ?_; clear hK K
  refine wl_k rfl (fun K hK => ?_); go_simp; refine hK _ ?_; clear hK K
  refine wl_k rfl (fun K hK => ?_); go_simp; refine hK _ ?_; clear hK K
  (have lth0p2 := heap_lt h0; have lth3p2 := heap_lt h3; have lth4p2 := heap_lt h4; have lsp2 := hb.size; (with_reducible apply wl_new75); intro w2 p2 hbn hlp2 hp2; replace h0 := below_look hbn h0; replace h3 := below_look hbn h3; replace h4 := below_look hbn h4; replace hb := hb.trans (hbn.mono hb.size); clear hbn)
  (have lth0p3 := heap_lt h0; have lth3p3 := heap_lt h3; have lth4p3 := heap_lt h4; have lthp2p3 := heap_lt hp2; have lsp3 := hb.size; (with_reducible apply wl_new75); intro w3 p3 hbn hlp3 hp3; replace h0 := below_look hbn h0; replace h3 := below_look hbn h3; replace h4 := below_look hbn h4; replace hp2 := below_look hbn hp2; replace hb := hb.trans (hbn.mono hb.size); clear hbn)
  ((with_reducible apply wl_put75); exact rfl; exact rfl; exact hp2; intro w4 hbx hk hq; replace h0 := hk _ _ (by omega) h0; replace h3 := hk _ _ (by omega) h3; replace h4 := hk _ _ (by omega) h4; replace hp3 := hk _ _ (by omega) hp3; replace hb := hbx _ _ (by omega) hb; clear hp2; have hp2 := hq; clear hbx hk hq)
  ((with_reducible apply wl_put75); exact rfl; exact rfl; exact hp3; intro w5 hbx hk hq; replace h0 := hk _ _ (by omega) h0; replace h3 := hk _ _ (by omega) h3; replace h4 := hk _ _ (by omega) h4; replace hp2 := hk _ _ (by omega) hp2; replace hb := hbx _ _ (by omega) hb; clear hp3; have hp3 := hq; clear hbx hk hq)
  go_upto_region 2 with (fail)
  apply wp_region_lit
  ((with_reducible apply wl_rowG); exact rfl; exact rfl; exact rowW (by with_reducible assumption))
  ((with_reducible apply wl_rowG); exact rfl; exact rfl; (first | exact rowL (by with_reducible assumption) | exact rowD (by with_reducible assumption) | exact rowR (by with_reducible assumption)))
  refine wl_ck rfl (fun K hK => ?_); go_simp; refine ⟨_, _, ⟨rfl, rfl⟩, hK _ _ ⟨_, has_any bits s x h1 h2 HB.out.a _, ?_⟩⟩; clear hK K; rintro e w6 ⟨rfl, hb1⟩; refine ⟨_, rfl, ?_⟩; simp only [put_lit, List.set_cons_zero, List.set_cons_succ]
  replace h0 := below_look hb1 h0; replace h3 := below_look hb1 h3; replace h4 := below_look hb1 h4; replace hp2 := below_look hb1 hp2; replace hp3 := below_look hb1 hp3; replace hb := hb.trans (hb1.mono hb.size); clear hb1
  refine wl_k rfl (fun K hK => ?_); go_simp; refine hK _ ?_; clear hK K
  go_upto_region 3 with (fail)
  apply wp_region_lit
  ((with_reducible apply wl_rowG); exact rfl; exact rfl; (first | exact rowL (by with_reducible assumption) | exact rowD (by with_reducible assumption) | exact rowR (by with_reducible assumption)))
  ((with_reducible apply wl_put75); exact rfl; exact rfl; exact h4; intro w7 hbx hk hq; replace hb := hbx _ _ (by omega) hb; clear h4; have h4 := hq; clear hbx hk hq)
  go_wp2_with fail
  exact bodyPost_ret (res_longErr rfl _ _ (w.heap.size + 1 + 1) rfl h4) rfl ⟨rfl, hb⟩

set_option maxHeartbeats 400000 in
theorem bring_wrap (bits : Nat) (s : Bool) (x : Int) (m : ByteArray) (h1 : 1 ≤ bits) (h2 : bits ≤ 64) (hx : x.natAbs ≤ 100000000000000000000000000000000000000000000000000000000000) (hh : hasW bits s x = false) (hw : (m.toList == [119, 114, 97, 112]) = true) (w : World) :
    Calls Try.prog 59 #[.agg (wv bits s), .agg (lv x), .string m] w fun e w' => e = .returned (.tuple #[.agg (lv (wrapW bits s x)), .int .i64 0]) ∧ Below w.heap.size w w' := by
  have HB := Lib.hid (wrapBd s h2 hx)
  have HX := Lib.hid hx
  clear hx
  go_enter Try.func59, Try.ntmps59
  go_upto_region 1 with (fail)
  refine wp_world (fun W => W.heap[w.heap.size]? = some (.cells (wv bits s) 68 (0, 0)) ∧ W.heap[w.heap.size + 1]? = some (.cells (lv x) 75 (0, 0)) ∧ W.heap[w.heap.size + 1 + 1]? = some (.cells (lv 0) 75 (0, 0)) ∧ Below w.heap.size w W) ⟨ha_old (ha_old (ha_new rfl)), ha_old (ha_new (by simp)), by rw [← zero_long]; exact ha_new (by simp), (((Below.refl _ _).alloc (Nat.le_refl _) _).alloc (by simp) _).alloc (by simp; omega) _⟩ ?_
  rintro W ⟨h0, h3, h4, hb⟩
  apply wp_region_lit
  ((with_reducible apply wl_rowG); exact rfl; exact rfl; exact rowW (by with_reducible assumption))
  refine wl_ck rfl (fun K hK => ?_); go_simp; refine ⟨_, _, ⟨rfl, rfl⟩, hK _ _ ⟨_, ends_any bits s h1 h2 _, ?_⟩⟩; clear hK K; rintro e w1 ⟨rfl, hb1⟩; refine ⟨_, rfl, ?_⟩; simp only [put_lit, List.set_cons_zero, List.set_cons_succ]
  replace h0 := below_look hb1 h0; replace h3 := below_look hb1 h3; replace h4 := below_look hb1 h4; replace hb := hb.trans (hb1.mono hb.size); clear hb1
  refine wl_k rfl (fun K hK => ?_); go_simp; refine hK _ ?_; clear hK K
  refine wl_k rfl (fun K hK => ?_); go_simp; refine hK _ ?_; clear hK K
  refine wl_k rfl (fun K hK => ?_); go_simp; refine hK _ ?_; clear hK K
  (have lth0p2 := heap_lt h0; have lth3p2 := heap_lt h3; have lth4p2 := heap_lt h4; have lsp2 := hb.size; (with_reducible apply wl_new75); intro w2 p2 hbn hlp2 hp2; replace h0 := below_look hbn h0; replace h3 := below_look hbn h3; replace h4 := below_look hbn h4; replace hb := hb.trans (hbn.mono hb.size); clear hbn)
  (have lth0p3 := heap_lt h0; have lth3p3 := heap_lt h3; have lth4p3 := heap_lt h4; have lthp2p3 := heap_lt hp2; have lsp3 := hb.size; (with_reducible apply wl_new75); intro w3 p3 hbn hlp3 hp3; replace h0 := below_look hbn h0; replace h3 := below_look hbn h3; replace h4 := below_look hbn h4; replace hp2 := below_look hbn hp2; replace hb := hb.trans (hbn.mono hb.size); clear hbn)
  ((with_reducible apply wl_put75); exact rfl; exact rfl; exact hp2; intro w4 hbx hk hq; replace h0 := hk _ _ (by omega) h0; replace h3 := hk _ _ (by omega) h3; replace h4 := hk _ _ (by omega) h4; replace hp3 := hk _ _ (by omega) hp3; replace hb := hbx _ _ (by omega) hb; clear hp2; have hp2 := hq; clear hbx hk hq)
  ((with_reducible apply wl_put75); exact rfl; exact rfl; exact hp3; intro w5 hbx hk hq; replace h0 := hk _ _ (by omega) h0; replace h3 := hk _ _ (by omega) h3; replace h4 := hk _ _ (by omega) h4; replace hp2 := hk _ _ (by omega) hp2; replace hb := hbx _ _ (by omega) hb; clear hp3; have hp3 := hq; clear hbx hk hq)
  go_upto_region 2 with (fail)
  apply wp_region_lit
  ((with_reducible apply wl_rowG); exact rfl; exact rfl; exact rowW (by with_reducible assumption))
  ((with_reducible apply wl_rowG); exact rfl; exact rfl; (first | exact rowL (by with_reducible assumption) | exact rowD (by with_reducible assumption) | exact rowR (by with_reducible assumption)))
  refine wl_ck rfl (fun K hK => ?_); go_simp; refine ⟨_, _, ⟨rfl, rfl⟩, hK _ _ ⟨_, has_any bits s x h1 h2 HB.out.a _, ?_⟩⟩; clear hK K; rintro e w6 ⟨rfl, hb1⟩; refine ⟨_, rfl, ?_⟩; simp only [put_lit, List.set_cons_zero, List.set_cons_succ]
  replace h0 := below_look hb1 h0; replace h3 := below_look hb1 h3; replace h4 := below_look hb1 h4; replace hp2 := below_look hb1 hp2; replace hp3 := below_look hb1 hp3; replace hb := hb.trans (hb1.mono hb.size); clear hb1
  refine wl_k rfl (fun K hK => ?_); go_simp; refine hK _ ?_; clear hK K
  go_upto_region 5 with (fail)
  apply wp_region_lit
  ((with_reducible apply wl_rowG); exact rfl; exact rfl; exact rowW (by with_reducible assumption))
  ((with_reducible apply wl_rowG); exact rfl; exact rfl; (first | exact rowL (by with_reducible assumption) | exact rowD (by with_reducible assumption) | exact rowR (by with_reducible assumption)))
  refine wl_ck rfl (fun K hK => ?_); go_simp; refine ⟨_, _, ⟨rfl, rfl⟩, hK _ _ ⟨_, wrap_any bits s x h1 h2 HX.out _, ?_⟩⟩; clear hK K; rintro e w7 ⟨rfl, hb1⟩; refine ⟨_, rfl, ?_⟩; simp only [put_lit, List.set_cons_zero, List.set_cons_succ]
  replace h4 := below_look hb1 h4; replace hb := hb.trans (hb1.mono hb.size); clear hb1
  ((with_reducible apply wl_put75); exact rfl; exact rfl; exact h4; intro w8 hbx hk hq; replace hb := hbx _ _ (by omega) hb; clear h4; have h4 := hq; clear hbx hk hq)
  go_wp2_with fail
  exact bodyPost_ret (res_longErr rfl _ _ (w.heap.size + 1 + 1) rfl h4) rfl ⟨rfl, hb⟩

set_option maxHeartbeats 400000 in
theorem bring_trap (bits : Nat) (s : Bool) (x : Int) (m : ByteArray) (h1 : 1 ≤ bits) (h2 : bits ≤ 64) (hx : x.natAbs ≤ 100000000000000000000000000000000000000000000000000000000000) (hh : hasW bits s x = false) (hw : (m.toList == [119, 114, 97, 112]) = false) (ht : (m.toList == [116, 114, 97, 112]) = true) (w : World) :
    Calls Try.prog 59 #[.agg (wv bits s), .agg (lv x), .string m] w fun e w' => e = .returned (.tuple #[.agg (lv 0), .int .i64 1]) ∧ Below w.heap.size w w' := by
  have HB := Lib.hid (wrapBd s h2 hx)
  clear hx
  go_enter Try.func59, Try.ntmps59
  go_upto_region 1 with (fail)
  refine wp_world (fun W => W.heap[w.heap.size]? = some (.cells (wv bits s) 68 (0, 0)) ∧ W.heap[w.heap.size + 1]? = some (.cells (lv x) 75 (0, 0)) ∧ W.heap[w.heap.size + 1 + 1]? = some (.cells (lv 0) 75 (0, 0)) ∧ Below w.heap.size w W) ⟨ha_old (ha_old (ha_new rfl)), ha_old (ha_new (by simp)), by rw [← zero_long]; exact ha_new (by simp), (((Below.refl _ _).alloc (Nat.le_refl _) _).alloc (by simp) _).alloc (by simp; omega) _⟩ ?_
  rintro W ⟨h0, h3, h4, hb⟩
  apply wp_region_lit
  ((with_reducible apply wl_rowG); exact rfl; exact rfl; exact rowW (by with_reducible assumption))
  refine wl_ck rfl (fun K hK => ?_); go_simp; refine ⟨_, _, ⟨rfl, rfl⟩, hK _ _ ⟨_, ends_any bits s h1 h2 _, ?_⟩⟩; clear hK K; rintro e w1 ⟨rfl, hb1⟩; refine ⟨_, rfl, ?_⟩; simp only [put_lit, List.set_cons_zero, List.set_cons_succ]
  replace h0 := below_look hb1 h0; replace h3 := below_look hb1 h3; replace h4 := below_look hb1 h4; replace hb := hb.trans (hb1.mono hb.size); clear hb1
  refine wl_k rfl (fun K hK => ?_); go_simp; refine hK _ ?_; clear hK K
  refine wl_k rfl (fun K hK => ?_); go_simp; refine hK _ ?_; clear hK K
  refine wl_k rfl (fun K hK => ?_); go_simp; refine hK _ ?_; clear hK K
  (have lth0p2 := heap_lt h0; have lth3p2 := heap_lt h3; have lth4p2 := heap_lt h4; have lsp2 := hb.size; (with_reducible apply wl_new75); intro w2 p2 hbn hlp2 hp2; replace h0 := below_look hbn h0; replace h3 := below_look hbn h3; replace h4 := below_look hbn h4; replace hb := hb.trans (hbn.mono hb.size); clear hbn)
  (have lth0p3 := heap_lt h0; have lth3p3 := heap_lt h3; have lth4p3 := heap_lt h4; have lthp2p3 := heap_lt hp2; have lsp3 := hb.size; (with_reducible apply wl_new75); intro w3 p3 hbn hlp3 hp3; replace h0 := below_look hbn h0; replace h3 := below_look hbn h3; replace h4 := below_look hbn h4; replace hp2 := below_look hbn hp2; replace hb := hb.trans (hbn.mono hb.size); clear hbn)
  ((with_reducible apply wl_put75); exact rfl; exact rfl; exact hp2; intro w4 hbx hk hq; replace h0 := hk _ _ (by omega) h0; replace h3 := hk _ _ (by omega) h3; replace h4 := hk _ _ (by omega) h4; replace hp3 := hk _ _ (by omega) hp3; replace hb := hbx _ _ (by omega) hb; clear hp2; have hp2 := hq; clear hbx hk hq)
  ((with_reducible apply wl_put75); exact rfl; exact rfl; exact hp3; intro w5 hbx hk hq; replace h0 := hk _ _ (by omega) h0; replace h3 := hk _ _ (by omega) h3; replace h4 := hk _ _ (by omega) h4; replace hp2 := hk _ _ (by omega) hp2; replace hb := hbx _ _ (by omega) hb; clear hp3; have hp3 := hq; clear hbx hk hq)
  go_upto_region 2 with (fail)
  apply wp_region_lit
  ((with_reducible apply wl_rowG); exact rfl; exact rfl; exact rowW (by with_reducible assumption))
  ((with_reducible apply wl_rowG); exact rfl; exact rfl; (first | exact rowL (by with_reducible assumption) | exact rowD (by with_reducible assumption) | exact rowR (by with_reducible assumption)))
  refine wl_ck rfl (fun K hK => ?_); go_simp; refine ⟨_, _, ⟨rfl, rfl⟩, hK _ _ ⟨_, has_any bits s x h1 h2 HB.out.a _, ?_⟩⟩; clear hK K; rintro e w6 ⟨rfl, hb1⟩; refine ⟨_, rfl, ?_⟩; simp only [put_lit, List.set_cons_zero, List.set_cons_succ]
  replace h0 := below_look hb1 h0; replace h3 := below_look hb1 h3; replace h4 := below_look hb1 h4; replace hp2 := below_look hb1 hp2; replace hp3 := below_look hb1 hp3; replace hb := hb.trans (hb1.mono hb.size); clear hb1
  refine wl_k rfl (fun K hK => ?_); go_simp; refine hK _ ?_; clear hK K
  go_upto_region 7 with (fail)
  apply wp_region_lit
  refine wl_val rfl (ex_build 75 _ rfl (L := []) rfl built_lzero) ?_
  ((with_reducible apply wl_put75); exact rfl; exact rfl; exact h4; intro w8 hbx hk hq; replace hb := hbx _ _ (by omega) hb; clear h4; have h4 := hq; clear hbx hk hq)
  go_wp2_with fail
  exact bodyPost_ret (res_longErr rfl _ _ (w.heap.size + 1 + 1) rfl h4) rfl ⟨rfl, hb⟩

set_option maxHeartbeats 400000 in
theorem bring_low (bits : Nat) (s : Bool) (x : Int) (m : ByteArray) (h1 : 1 ≤ bits) (h2 : bits ≤ 64) (hx : x.natAbs ≤ 100000000000000000000000000000000000000000000000000000000000) (hh : hasW bits s x = false) (hw : (m.toList == [119, 114, 97, 112]) = false) (ht : (m.toList == [116, 114, 97, 112]) = false) (hc : x < loW bits s) (w : World) :
    Calls Try.prog 59 #[.agg (wv bits s), .agg (lv x), .string m] w fun e w' => e = .returned (.tuple #[.agg (lv (loW bits s)), .int .i64 0]) ∧ Below w.heap.size w w' := by
  have HB := Lib.hid (wrapBd s h2 hx)
  have hcz : cz x (loW bits s) < 0 := cz_lt.2 hc
  clear hx hc
  go_enter Try.func59, Try.ntmps59
  go_upto_region 1 with (fail)
  refine wp_world (fun W => W.heap[w.heap.size]? = some (.cells (wv bits s) 68 (0, 0)) ∧ W.heap[w.heap.size + 1]? = some (.cells (lv x) 75 (0, 0)) ∧ W.heap[w.heap.size + 1 + 1]? = some (.cells (lv 0) 75 (0, 0)) ∧ Below w.heap.size w W) ⟨ha_old (ha_old (ha_new rfl)), ha_old (ha_new (by simp)), by rw [← zero_long]; exact ha_new (by simp), (((Below.refl _ _).alloc (Nat.le_refl _) _).alloc (by simp) _).alloc (by simp; omega) _⟩ ?_
  rintro W ⟨h0, h3, h4, hb⟩
  apply wp_region_lit
  ((with_reducible apply wl_rowG); exact rfl; exact rfl; exact rowW (by with_reducible assumption))
  refine wl_ck rfl (fun K hK => ?_); go_simp; refine ⟨_, _, ⟨rfl, rfl⟩, hK _ _ ⟨_, ends_any bits s h1 h2 _, ?_⟩⟩; clear hK K; rintro e w1 ⟨rfl, hb1⟩; refine ⟨_, rfl, ?_⟩; simp only [put_lit, List.set_cons_zero, List.set_cons_succ]
  replace h0 := below_look hb1 h0; replace h3 := below_look hb1 h3; replace h4 := below_look hb1 h4; replace hb := hb.trans (hb1.mono hb.size); clear hb1
  refine wl_k rfl (fun K hK => ?_); go_simp; refine hK _ ?_; clear hK K
  refine wl_k rfl (fun K hK => ?_); go_simp; refine hK _ ?_; clear hK K
  refine wl_k rfl (fun K hK => ?_); go_simp; refine hK _ ?_; clear hK K
  (have lth0p2 := heap_lt h0; have lth3p2 := heap_lt h3; have lth4p2 := heap_lt h4; have lsp2 := hb.size; (with_reducible apply wl_new75); intro w2 p2 hbn hlp2 hp2; replace h0 := below_look hbn h0; replace h3 := below_look hbn h3; replace h4 := below_look hbn h4; replace hb := hb.trans (hbn.mono hb.size); clear hbn)
  (have lth0p3 := heap_lt h0; have lth3p3 := heap_lt h3; have lth4p3 := heap_lt h4; have lthp2p3 := heap_lt hp2; have lsp3 := hb.size; (with_reducible apply wl_new75); intro w3 p3 hbn hlp3 hp3; replace h0 := below_look hbn h0; replace h3 := below_look hbn h3; replace h4 := below_look hbn h4; replace hp2 := below_look hbn hp2; replace hb := hb.trans (hbn.mono hb.size); clear hbn)
  ((with_reducible apply wl_put75); exact rfl; exact rfl; exact hp2; intro w4 hbx hk hq; replace h0 := hk _ _ (by omega) h0; replace h3 := hk _ _ (by omega) h3; replace h4 := hk _ _ (by omega) h4; replace hp3 := hk _ _ (by omega) hp3; replace hb := hbx _ _ (by omega) hb; clear hp2; have hp2 := hq; clear hbx hk hq)
  ((with_reducible apply wl_put75); exact rfl; exact rfl; exact hp3; intro w5 hbx hk hq; replace h0 := hk _ _ (by omega) h0; replace h3 := hk _ _ (by omega) h3; replace h4 := hk _ _ (by omega) h4; replace hp2 := hk _ _ (by omega) hp2; replace hb := hbx _ _ (by omega) hb; clear hp3; have hp3 := hq; clear hbx hk hq)
  go_upto_region 2 with (fail)
  apply wp_region_lit
  ((with_reducible apply wl_rowG); exact rfl; exact rfl; exact rowW (by with_reducible assumption))
  ((with_reducible apply wl_rowG); exact rfl; exact rfl; (first | exact rowL (by with_reducible assumption) | exact rowD (by with_reducible assumption) | exact rowR (by with_reducible assumption)))
  refine wl_ck rfl (fun K hK => ?_); go_simp; refine ⟨_, _, ⟨rfl, rfl⟩, hK _ _ ⟨_, has_any bits s x h1 h2 HB.out.a _, ?_⟩⟩; clear hK K; rintro e w6 ⟨rfl, hb1⟩; refine ⟨_, rfl, ?_⟩; simp only [put_lit, List.set_cons_zero, List.set_cons_succ]
  replace h0 := below_look hb1 h0; replace h3 := below_look hb1 h3; replace h4 := below_look hb1 h4; replace hp2 := below_look hb1 hp2; replace hp3 := below_look hb1 hp3; replace hb := hb.trans (hb1.mono hb.size); clear hb1
  refine wl_k rfl (fun K hK => ?_); go_simp; refine hK _ ?_; clear hK K
  go_upto_region 8 with (fail)
  apply wp_region_lit
  ((with_reducible apply wl_rowG); exact rfl; exact rfl; (first | exact rowL (by with_reducible assumption) | exact rowD (by with_reducible assumption) | exact rowR (by with_reducible assumption)))
  ((with_reducible apply wl_rowG); exact rfl; exact rfl; (first | exact rowL (by with_reducible assumption) | exact rowD (by with_reducible assumption) | exact rowR (by with_reducible assumption)))
  refine wl_ck rfl (fun K hK => ?_); go_simp; refine ⟨_, _, ⟨rfl, rfl⟩, hK _ _ ⟨_, compare_any _ _ HB.out.a HB.out.l _, ?_⟩⟩; clear hK K; rintro e w7 ⟨rfl, hb1⟩; refine ⟨_, rfl, ?_⟩; simp only [put_lit, List.set_cons_zero, List.set_cons_succ]
  replace h0 := below_look hb1 h0; replace h3 := below_look hb1 h3; replace h4 := below_look hb1 h4; replace hp2 := below_look hb1 hp2; replace hp3 := below_look hb1 hp3; replace hb := hb.trans (hb1.mono hb.size); clear hb1
  refine wl_k rfl (fun K hK => ?_); go_simp; refine hK _ ?_; clear hK K
  refine wl_k rfl (fun K hK => ?_); go_simp; refine hK _ ?_; clear hK K
  go_upto_region 9 with (fail)
  apply wp_region_lit
  ((with_reducible apply wl_rowG); exact rfl; exact rfl; (first | exact rowL (by with_reducible assumption) | exact rowD (by with_reducible assumption) | exact rowR (by with_reducible assumption)))
  ((with_reducible apply wl_put75); exact rfl; exact rfl; exact h4; intro w8 hbx hk hq; replace hb := hbx _ _ (by omega) hb; clear h4; have h4 := hq; clear hbx hk hq)
  go_wp2_with fail
  exact bodyPost_ret (res_longErr rfl _ _ (w.heap.size + 1 + 1) rfl h4) rfl ⟨rfl, hb⟩

set_option maxHeartbeats 400000 in
theorem bring_high (bits : Nat) (s : Bool) (x : Int) (m : ByteArray) (h1 : 1 ≤ bits) (h2 : bits ≤ 64) (hx : x.natAbs ≤ 100000000000000000000000000000000000000000000000000000000000) (hh : hasW bits s x = false) (hw : (m.toList == [119, 114, 97, 112]) = false) (ht : (m.toList == [116, 114, 97, 112]) = false) (hc : loW bits s ≤ x) (w : World) :
    Calls Try.prog 59 #[.agg (wv bits s), .agg (lv x), .string m] w fun e w' => e = .returned (.tuple #[.agg (lv (hiW bits s)), .int .i64 0]) ∧ Below w.heap.size w w' := by
  have HB := Lib.hid (wrapBd s h2 hx)
  have hcz : 0 ≤ cz x (loW bits s) := by have := cz_lt (a := x) (b := loW bits s); omega
  clear hx hc
  go_enter Try.func59, Try.ntmps59
  go_upto_region 1 with (fail)
  refine wp_world (fun W => W.heap[w.heap.size]? = some (.cells (wv bits s) 68 (0, 0)) ∧ W.heap[w.heap.size + 1]? = some (.cells (lv x) 75 (0, 0)) ∧ W.heap[w.heap.size + 1 + 1]? = some (.cells (lv 0) 75 (0, 0)) ∧ Below w.heap.size w W) ⟨ha_old (ha_old (ha_new rfl)), ha_old (ha_new (by simp)), by rw [← zero_long]; exact ha_new (by simp), (((Below.refl _ _).alloc (Nat.le_refl _) _).alloc (by simp) _).alloc (by simp; omega) _⟩ ?_
  rintro W ⟨h0, h3, h4, hb⟩
  apply wp_region_lit
  ((with_reducible apply wl_rowG); exact rfl; exact rfl; exact rowW (by with_reducible assumption))
  refine wl_ck rfl (fun K hK => ?_); go_simp; refine ⟨_, _, ⟨rfl, rfl⟩, hK _ _ ⟨_, ends_any bits s h1 h2 _, ?_⟩⟩; clear hK K; rintro e w1 ⟨rfl, hb1⟩; refine ⟨_, rfl, ?_⟩; simp only [put_lit, List.set_cons_zero, List.set_cons_succ]
  replace h0 := below_look hb1 h0; replace h3 := below_look hb1 h3; replace h4 := below_look hb1 h4; replace hb := hb.trans (hb1.mono hb.size); clear hb1
  refine wl_k rfl (fun K hK => ?_); go_simp; refine hK _ ?_; clear hK K
  refine wl_k rfl (fun K hK => ?_); go_simp; refine hK _ ?_; clear hK K
  refine wl_k rfl (fun K hK => ?_); go_simp; refine hK _ ?_; clear hK K
  (have lth0p2 := heap_lt h0; have lth3p2 := heap_lt h3; have lth4p2 := heap_lt h4; have lsp2 := hb.size; (with_reducible apply wl_new75); intro w2 p2 hbn hlp2 hp2; replace h0 := below_look hbn h0; replace h3 := below_look hbn h3; replace h4 := below_look hbn h4; replace hb := hb.trans (hbn.mono hb.size); clear hbn)
  (have lth0p3 := heap_lt h0; have lth3p3 := heap_lt h3; have lth4p3 := heap_lt h4; have lthp2p3 := heap_lt hp2; have lsp3 := hb.size; (with_reducible apply wl_new75); intro w3 p3 hbn hlp3 hp3; replace h0 := below_look hbn h0; replace h3 := below_look hbn h3; replace h4 := below_look hbn h4; replace hp2 := below_look hbn hp2; replace hb := hb.trans (hbn.mono hb.size); clear hbn)
  ((with_reducible apply wl_put75); exact rfl; exact rfl; exact hp2; intro w4 hbx hk hq; replace h0 := hk _ _ (by omega) h0; replace h3 := hk _ _ (by omega) h3; replace h4 := hk _ _ (by omega) h4; replace hp3 := hk _ _ (by omega) hp3; replace hb := hbx _ _ (by omega) hb; clear hp2; have hp2 := hq; clear hbx hk hq)
  ((with_reducible apply wl_put75); exact rfl; exact rfl; exact hp3; intro w5 hbx hk hq; replace h0 := hk _ _ (by omega) h0; replace h3 := hk _ _ (by omega) h3; replace h4 := hk _ _ (by omega) h4; replace hp2 := hk _ _ (by omega) hp2; replace hb := hbx _ _ (by omega) hb; clear hp3; have hp3 := hq; clear hbx hk hq)
  go_upto_region 2 with (fail)
  apply wp_region_lit
  ((with_reducible apply wl_rowG); exact rfl; exact rfl; exact rowW (by with_reducible assumption))
  ((with_reducible apply wl_rowG); exact rfl; exact rfl; (first | exact rowL (by with_reducible assumption) | exact rowD (by with_reducible assumption) | exact rowR (by with_reducible assumption)))
  refine wl_ck rfl (fun K hK => ?_); go_simp; refine ⟨_, _, ⟨rfl, rfl⟩, hK _ _ ⟨_, has_any bits s x h1 h2 HB.out.a _, ?_⟩⟩; clear hK K; rintro e w6 ⟨rfl, hb1⟩; refine ⟨_, rfl, ?_⟩; simp only [put_lit, List.set_cons_zero, List.set_cons_succ]
  replace h0 := below_look hb1 h0; replace h3 := below_look hb1 h3; replace h4 := below_look hb1 h4; replace hp2 := below_look hb1 hp2; replace hp3 := below_look hb1 hp3; replace hb := hb.trans (hb1.mono hb.size); clear hb1
  refine wl_k rfl (fun K hK => ?_); go_simp; refine hK _ ?_; clear hK K
  go_upto_region 8 with (fail)
  apply wp_region_lit
  ((with_reducible apply wl_rowG); exact rfl; exact rfl; (first | exact rowL (by with_reducible assumption) | exact rowD (by with_reducible assumption) | exact rowR (by with_reducible assumption)))
  ((with_reducible apply wl_rowG); exact rfl; exact rfl; (first | exact rowL (by with_reducible assumption) | exact rowD (by with_reducible assumption) | exact rowR (by with_reducible assumption)))
  refine wl_ck rfl (fun K hK => ?_); go_simp; refine ⟨_, _, ⟨rfl, rfl⟩, hK _ _ ⟨_, compare_any _ _ HB.out.a HB.out.l _, ?_⟩⟩; clear hK K; rintro e w7 ⟨rfl, hb1⟩; refine ⟨_, rfl, ?_⟩; simp only [put_lit, List.set_cons_zero, List.set_cons_succ]
  replace h0 := below_look hb1 h0; replace h3 := below_look hb1 h3; replace h4 := below_look hb1 h4; replace hp2 := below_look hb1 hp2; replace hp3 := below_look hb1 hp3; replace hb := hb.trans (hb1.mono hb.size); clear hb1
  refine wl_k rfl (fun K hK => ?_); go_simp; refine hK _ ?_; clear hK K
  refine wl_k rfl (fun K hK => ?_); go_simp; refine hK _ ?_; clear hK K
  go_upto_region 10 with (fail)
  apply wp_region_lit
  ((with_reducible apply wl_rowG); exact rfl; exact rfl; (first | exact rowL (by with_reducible assumption) | exact rowD (by with_reducible assumption) | exact rowR (by with_reducible assumption)))
  ((with_reducible apply wl_put75); exact rfl; exact rfl; exact h4; intro w8 hbx hk hq; replace hb := hbx _ _ (by omega) hb; clear h4; have h4 := hq; clear hbx hk hq)
  go_wp2_with fail
  exact bodyPost_ret (res_longErr rfl _ _ (w.heap.size + 1 + 1) rfl h4) rfl ⟨rfl, hb⟩

theorem bring_any (bits : Nat) (s : Bool) (x : Int) (m : ByteArray) (h1 : 1 ≤ bits) (h2 : bits ≤ 64) (hx : x.natAbs ≤ 100000000000000000000000000000000000000000000000000000000000) (w : World) :
    Calls Try.prog 59 #[.agg (wv bits s), .agg (lv x), .string m] w fun e w' => e = .returned (.tuple #[.agg (lv (bringW bits s m.toList x).1), .int .i64 (bringW bits s m.toList x).2]) ∧ Below w.heap.size w w' := by
  unfold bringW isWrap isTrap
  cases hh : hasW bits s x
  · cases hw : (m.toList == [119, 114, 97, 112])
    · cases ht : (m.toList == [116, 114, 97, 112])
      · by_cases hc : x < loW bits s
        · simpa [hc] using bring_low bits s x m h1 h2 hx hh hw ht hc w
        · simpa [hc] using bring_high bits s x m h1 h2 hx hh hw ht (by omega) w
      · simpa using bring_trap bits s x m h1 h2 hx hh hw ht w
    · simpa using bring_wrap bits s x m h1 h2 hx hh hw w
  · simpa using bring_has bits s x m h1 h2 hx hh w
end Go.Proofs.Ytclainfdeghgnaa
