/- The document's Number, Open. -/
import Derived.Test.YtokmaehefenpmaaDoorX4
import Derived.Laws.IdiomStrings
namespace Go.Proofs.YtokmaehefenpmaaDoor
open Go.RowKit Go.Proofs.YtokmaehefenpmaaDoor.Nm
set_option linter.unusedSimpArgs false
theorem u5b : Tryd.prog.underlying 5 = some (.int .u8) := by kernel_rfl
theorem run_bs57 (x : Int) (w : World) : (Instr.buildSlice 57 1 #[(0, .int .u8 x)]).run Tryd.prog w = .ok (.slice (some ⟨w.heap.size, 0, none⟩) 1 1) (w.alloc (.cells #[.int .u8 x] 5)) := by kernel_rfl
theorem ex_bs57 {ev : Operand → Value} {o : Oper} {w : World} (x : Operand) (ho : o.op = .buildSlice 57 1 #[(0, x)]) {v : Int} (hx : ev x = .int .u8 v) : (execOp ev o).run Tryd.prog w = .ok (.value (.slice (some ⟨w.heap.size, 0, none⟩) 1 1)) (w.alloc (.cells #[.int .u8 v] 5)) := by
  unfold execOp
  simp [ho, hx, run_bs57 v w, Result.andThen]
theorem ex_str1 {ev : Operand → Value} {o : Oper} {w : World} (x : Operand) (ho : o.op = .convert 57 9 x) {p : Nat} {b : UInt8} {tq : TypeId} {fr : Nat × Nat} (hx : ev x = .slice (some ⟨p, 0, none⟩) 1 1) (hp : w.heap[p]? = some (.cells #[.int .u8 (b.toNat : Int)] tq fr)) :
    (execOp ev o).run Tryd.prog w = .ok (.value (.string ⟨#[b]⟩)) w := by
  have := run_convert_bytes_back (P := Tryd.prog) w 57 9 5 ⟨p, 0, none⟩ 1 [b] u57 u5b u9 (fun j hj => by
    have hj0 : j = 0 := by simp at hj; exact hj
    subst hj0
    rw [show (Addr.add ⟨p, 0, none⟩ 0) = ⟨p, 0, none⟩ by rw [Addr.add_mid], cell_of_row _ _ _ _ _ _ hp]
    rfl)
  unfold execOp
  simp only [List.length_cons, List.length_nil] at this
  simp [ho, hx, this, Result.andThen]
theorem dig_byte {n : Nat} (h : n < 10) : ∃ b : UInt8, b = UInt8.ofNat (48 + n) ∧ IntKind.u8.wrap (48 + (n : Int)) = (b.toNat : Int) := ⟨_, rfl, by
  have : (UInt8.ofNat (48 + n)).toNat = 48 + n := by simp; omega
  rw [this]
  have h2 : ∀ m : Nat, m < 10 → IntKind.u8.wrap (48 + (m : Int)) = ((48 + m : Nat) : Int) := by decide
  exact h2 n h⟩
set_option maxHeartbeats 2000000 in
set_option maxRecDepth 100000 in
theorem Number1 (n : Nat) (hn : n < 10) (w : World) : Calls Tryd.prog 85 #[.int .i64 (n : Int)] w fun e w' => e = .returned (.string ⟨#[UInt8.ofNat (48 + n)]⟩) ∧ Below w.heap.size w w' := by
  have h1 : (n : Int) < 10 := by omega
  have hwr : IntKind.i64.wrap (48 + (n : Int)) = 48 + (n : Int) := IntWalk.i64_in _ (by omega)
  obtain ⟨b, hbb, hw8⟩ := dig_byte hn
  rw [← hbb]
  clear hbb
  have hb := Below.refl w.heap.size w
  go_enter Tryd.func85, Tryd.ntmps85
  go_upto_region 2 with (fail)
  apply wp_region_lit
  (with_reducible refine wl_k ?_ ?_); exact rfl; intro K hK; go_simp; refine hK _ ?_; clear hK K
  (with_reducible refine wl_k ?_ ?_); exact rfl; intro K hK; go_simp; refine hK _ ?_; clear hK K
  (with_reducible refine wl_k ?_ ?_); exact rfl; intro K hK; go_simp; refine hK _ ?_; clear hK K
  refine wl_w rfl (ex_bs57 _ rfl rfl) ?_
  simp only [put_lit, List.set_cons_zero, List.set_cons_succ]
  refine wl_val rfl (ex_str1 _ rfl rfl (ha_new rfl)) ?_
  simp only [put_lit, List.set_cons_zero, List.set_cons_succ]
  replace hb := hb.alloc (Nat.le_refl _) (.cells #[.int .u8 (b.toNat : Int)] 5)
  (with_reducible refine wl_k ?_ ?_); exact rfl; intro K hK; go_simp; refine hK _ ?_; clear hK K
  go_wp2_with fail
  go_ret
  exact ⟨rfl, hb⟩
set_option maxHeartbeats 2000000 in
set_option maxRecDepth 100000 in
theorem Number2 (n : Nat) (h10 : 10 ≤ n) (hn : n < 100) (w : World) : Calls Tryd.prog 85 #[.int .i64 (n : Int)] w fun e w' => e = .returned (.string ⟨#[UInt8.ofNat (48 + n / 10), UInt8.ofNat (48 + n % 10)]⟩) ∧ Below w.heap.size w w' := by
  have h1 : ¬ (n : Int) < 10 := by omega
  have HC := Lib.hid fun w' => Number1 (n / 10) (by omega) w'
  obtain ⟨a, ha, -⟩ := dig_byte (show n / 10 < 10 by omega)
  obtain ⟨b, hbb, hw8⟩ := dig_byte (show n % 10 < 10 by omega)
  rw [← ha] at HC ⊢
  rw [← hbb]
  obtain ⟨q, hq0⟩ : ∃ q, q = n / 10 := ⟨_, rfl⟩
  obtain ⟨r, hr0⟩ : ∃ r, r = n % 10 := ⟨_, rfl⟩
  rw [← hq0] at HC
  rw [← hr0] at hw8
  have hq : IntKind.i64.wrap ((n : Int) / 10) = (q : Int) := by rw [IntWalk.i64_in _ (by omega)]; omega
  have hr : IntKind.i64.wrap ((n : Int) % 10) = (r : Int) := by rw [IntWalk.i64_in _ (by omega)]; omega
  have hr2 : (n : Int).tmod 10 = (r : Int) := by rw [show (n : Int).tmod 10 = ((n % 10 : Nat) : Int) from rfl, hr0]
  have hwr : IntKind.i64.wrap (48 + (r : Int)) = 48 + (r : Int) := IntWalk.i64_in _ (by omega)
  clear ha hbb hq0 hr0
  go_enter Tryd.func85, Tryd.ntmps85
  go_upto_region 3 with (fail)
  refine wp_region_held_drew (S := Below w.heap.size w) mixed ((Below.refl _ w).drew) (fun hS => ?_)
  refine ha_k (i := 0) rfl (by kernel_rfl) (by kernel_rfl) (by kernel_rfl) (fun _ _ _ _ h => h) hS rfl (fun K hK => ?_); go_simp; refine hK _ ?_; clear hK K; try simp only [put_lit, List.set_cons_zero, List.set_cons_succ]
  refine ha_k (i := 1) rfl (by kernel_rfl) (by kernel_rfl) (by kernel_rfl) (fun _ _ _ _ h => h) hS rfl (fun K hK => ?_); go_simp; refine hK _ ?_; clear hK K; try simp only [put_lit, List.set_cons_zero, List.set_cons_succ]
  refine ha_k (i := 3) rfl (by kernel_rfl) (by kernel_rfl) (by kernel_rfl) (fun _ _ _ _ h => h) hS rfl (fun K hK => ?_); go_simp; refine hK _ ?_; clear hK K; try simp only [put_lit, List.set_cons_zero, List.set_cons_succ]
  refine ha_k (i := 4) rfl (by kernel_rfl) (by kernel_rfl) (by kernel_rfl) (fun _ _ _ _ h => h) hS rfl (fun K hK => ?_); go_simp; refine hK _ ?_; clear hK K; try simp only [put_lit, List.set_cons_zero, List.set_cons_succ]
  refine ha_k (i := 5) rfl (by kernel_rfl) (by kernel_rfl) (by kernel_rfl) (fun _ _ _ _ h => h) hS rfl (fun K hK => ?_); go_simp; refine hK _ ?_; clear hK K; try simp only [put_lit, List.set_cons_zero, List.set_cons_succ]
  refine ha_k (i := 6) rfl (by kernel_rfl) (by kernel_rfl) (by kernel_rfl) (fun _ _ _ _ h => h) hS rfl (fun K hK => ?_); go_simp; refine hK _ ?_; clear hK K; try simp only [put_lit, List.set_cons_zero, List.set_cons_succ]
  clear hq hr hr2 hwr hw8
  refine ha_two (i := 2) (j := 7) (by kernel_rfl) ?_ ?_
  · refine sh_call (i := 2) rfl rfl (fun K hK => ?_)
    go_simp; refine ⟨_, _, ⟨rfl, rfl⟩, hK _ _ ⟨_, HC.out _, ?_⟩⟩; clear hK K; rintro e w2 ⟨rfl, hb2⟩; refine ⟨_, rfl, (hS.trans (hb2.mono hS.size)), ?_⟩
    replace hS := hS.trans (hb2.mono hS.size)
    clear hb2
    try simp only [List.getElem_toArray, List.getElem_cons_succ, List.getElem_cons_zero, put_lit, List.set_cons_zero, List.set_cons_succ]
    have hS2 := hS.alloc hS.size (.cells #[.int .u8 (b.toNat : Int)] 5)
    refine ha_do (i := 7) (by kernel_rfl) rfl rfl (ex_bs57 _ rfl rfl) hS2 ?_
    try simp only [List.getElem_toArray, List.getElem_cons_succ, List.getElem_cons_zero, put_lit, List.set_cons_zero, List.set_cons_succ]
    refine ha_do (i := 8) (by kernel_rfl) rfl rfl (ex_str1 _ rfl rfl (ha_new rfl)) hS2 ?_
    try simp only [List.getElem_toArray, List.getElem_cons_succ, List.getElem_cons_zero, put_lit, List.set_cons_zero, List.set_cons_succ]
    clear hS
    have hS := hS2
    have hcat : ¬ (9223372036854775807 : Nat) < 1 + 1 := by omega
    refine ha_k (i := 9) rfl (by kernel_rfl) (by kernel_rfl) (by kernel_rfl) (fun _ _ _ _ h => h) hS rfl (fun K hK => ?_); go_simp; refine hK _ ?_; clear hK K; try simp only [put_lit, List.set_cons_zero, List.set_cons_succ]
    clear hcat
    refine ha_k (i := 10) rfl (by kernel_rfl) (by kernel_rfl) (by kernel_rfl) (fun _ _ _ _ h => h) hS rfl (fun K hK => ?_); go_simp; refine hK _ ?_; clear hK K; try simp only [put_lit, List.set_cons_zero, List.set_cons_succ]
    clear HC
    refine wpAnyH_done (by kernel_rfl) ?_ _
    go_wp2_with fail
    go_ret
    exact ⟨rfl, hS⟩
  · have hS2 := hS.alloc hS.size (.cells #[.int .u8 (b.toNat : Int)] 5)
    refine sh_do (i := 7) rfl rfl (ex_bs57 _ rfl rfl) hS2 ?_
    try simp only [List.getElem_toArray, List.getElem_cons_succ, List.getElem_cons_zero, put_lit, List.set_cons_zero, List.set_cons_succ]
    refine ha_two (i := 2) (j := 8) (by kernel_rfl) ?_ ?_
    · refine sh_call (i := 2) rfl rfl (fun K hK => ?_)
      go_simp; refine ⟨_, _, ⟨rfl, rfl⟩, hK _ _ ⟨_, HC.out _, ?_⟩⟩; clear hK K; rintro e w2 ⟨rfl, hb2⟩
      have hS3 := hS2.trans (hb2.mono hS2.size)
      refine ⟨_, rfl, hS3, ?_⟩
      try simp only [List.getElem_toArray, List.getElem_cons_succ, List.getElem_cons_zero, put_lit, List.set_cons_zero, List.set_cons_succ]
      refine ha_do (i := 8) (by kernel_rfl) rfl rfl (ex_str1 _ rfl rfl (below_look hb2 (ha_new rfl))) hS3 ?_
      try simp only [List.getElem_toArray, List.getElem_cons_succ, List.getElem_cons_zero, put_lit, List.set_cons_zero, List.set_cons_succ]
      clear hS hS2 hb2
      have hS := hS3
      have hcat : ¬ (9223372036854775807 : Nat) < 1 + 1 := by omega
      refine ha_k (i := 9) rfl (by kernel_rfl) (by kernel_rfl) (by kernel_rfl) (fun _ _ _ _ h => h) hS rfl (fun K hK => ?_); go_simp; refine hK _ ?_; clear hK K; try simp only [put_lit, List.set_cons_zero, List.set_cons_succ]
      clear hcat
      refine ha_k (i := 10) rfl (by kernel_rfl) (by kernel_rfl) (by kernel_rfl) (fun _ _ _ _ h => h) hS rfl (fun K hK => ?_); go_simp; refine hK _ ?_; clear hK K; try simp only [put_lit, List.set_cons_zero, List.set_cons_succ]
      clear HC
      refine wpAnyH_done (by kernel_rfl) ?_ _
      go_wp2_with fail
      go_ret
      exact ⟨rfl, hS⟩
    · refine sh_do (i := 8) rfl rfl (ex_str1 _ rfl rfl (ha_new rfl)) hS2 ?_
      try simp only [List.getElem_toArray, List.getElem_cons_succ, List.getElem_cons_zero, put_lit, List.set_cons_zero, List.set_cons_succ]
      refine ha_call (i := 2) (by kernel_rfl) rfl rfl (fun K hK => ?_)
      go_simp; refine ⟨_, _, ⟨rfl, rfl⟩, hK _ _ ⟨_, HC.out _, ?_⟩⟩; clear hK K; rintro e w2 ⟨rfl, hb2⟩
      have hS3 := hS2.trans (hb2.mono hS2.size)
      refine ⟨_, rfl, hS3, ?_⟩
      try simp only [List.getElem_toArray, List.getElem_cons_succ, List.getElem_cons_zero, put_lit, List.set_cons_zero, List.set_cons_succ]
      clear hS hS2 hb2
      have hS := hS3
      have hcat : ¬ (9223372036854775807 : Nat) < 1 + 1 := by omega
      refine ha_k (i := 9) rfl (by kernel_rfl) (by kernel_rfl) (by kernel_rfl) (fun _ _ _ _ h => h) hS rfl (fun K hK => ?_); go_simp; refine hK _ ?_; clear hK K; try simp only [put_lit, List.set_cons_zero, List.set_cons_succ]
      clear hcat
      refine ha_k (i := 10) rfl (by kernel_rfl) (by kernel_rfl) (by kernel_rfl) (fun _ _ _ _ h => h) hS rfl (fun K hK => ?_); go_simp; refine hK _ ?_; clear hK K; try simp only [put_lit, List.set_cons_zero, List.set_cons_succ]
      clear HC
      refine wpAnyH_done (by kernel_rfl) ?_ _
      go_wp2_with fail
      go_ret
      exact ⟨rfl, hS⟩
theorem Number_any (n : Nat) (hn : n < 100) (w : World) : Calls Tryd.prog 85 #[.int .i64 (n : Int)] w fun e w' => e = .returned (.string ⟨(Lib.decDigits n).toArray⟩) ∧ Below w.heap.size w w' := by
  rw [Lib.decDigits]
  by_cases h : n < 10
  · rw [dif_pos h]; exact Number1 n h w
  · rw [dif_neg h, Lib.decDigits, dif_pos (show n / 10 < 10 by omega)]
    exact Number2 n (by omega) hn w
set_option maxHeartbeats 2000000 in
set_option maxRecDepth 100000 in
theorem OpenI_any (t : Ty) (w : World) (D : Nat → Prop) (row : Array Value) (h : TyAt w D t row) :
    Calls Tryd.prog 44 #[.agg row] w fun e w' => e = .returned (.bool (validB true t)) ∧ Below w.heap.size w w' := by
  have HT := Lib.hid h
  obtain ⟨k, s, n, A, l, c, ts, he, rfl, -⟩ := h.parts
  clear h he
  have hb := Below.refl w.heap.size w
  go_enter Tryd.func44, Tryd.ntmps44
  go_upto_region 0 with (fail)
  apply wp_region_lit
  (with_reducible refine wl_box rfl ?_); intro W p hbn hlp hp; replace hb := hb.trans (hbn.mono hb.size); clear hbn; simp only [put_lit, List.set_cons_zero, List.set_cons_succ]
  (with_reducible refine wl_k ?_ ?_); exact rfl; intro K hK; go_simp; refine hK _ ?_; clear hK K
  have HC := Lib.hid (TypeNodes_any 40 (by omega) t W D _ (HT.out.old hb))
  go_upto_region 1 with (fail)
  by_cases hn : t.nodes ≤ 40
  · have e1 : ((min t.nodes (40 + 1) : Nat) : Int) ≤ 40 := by omega
    have HF : Hid (validB true t = t.all (nodeB true)) := Lib.hid (by unfold validB; rw [decide_eq_true hn]; rfl)
    clear hn
    apply wp_region_lit
    (first | ((with_reducible apply wl_oneG); exact rfl; exact rfl; first | exact f0 (by with_reducible assumption) | exact f1 (by with_reducible assumption) | exact f2 (by with_reducible assumption) | exact f3 (by with_reducible assumption) | with_reducible assumption | exact g22 (by with_reducible assumption) | exact g25 (by with_reducible assumption)) | ((with_reducible apply wl_rowG); exact rfl; exact rfl; first | with_reducible assumption | exact RowK.now (by with_reducible assumption) | exact f4 (by with_reducible assumption)))
    (with_reducible refine wl_ck ?_ ?_); exact rfl; intro K hK; go_simp; refine ⟨_, _, ⟨rfl, rfl⟩, hK _ _ ⟨_, HC.out, ?_⟩⟩; clear hK K; rintro e w7 ⟨rfl, hb7⟩; refine ⟨_, rfl, ?_⟩; simp only [put_lit, List.set_cons_zero, List.set_cons_succ]
    replace hp := below_look hb7 hp; replace hb := hb.trans (hb7.mono hb.size); clear hb7
    clear HC
    have HC := Lib.hid (all_any true t w7 D _ (HT.out.old hb))
    (with_reducible refine wl_k ?_ ?_); exact rfl; intro K hK; go_simp; refine hK _ ?_; clear hK K
    (with_reducible refine wl_k ?_ ?_); exact rfl; intro K hK; go_simp; refine hK _ ?_; clear hK K
    (first | ((with_reducible apply wl_oneG); exact rfl; exact rfl; first | exact f0 (by with_reducible assumption) | exact f1 (by with_reducible assumption) | exact f2 (by with_reducible assumption) | exact f3 (by with_reducible assumption) | with_reducible assumption | exact g22 (by with_reducible assumption) | exact g25 (by with_reducible assumption)) | ((with_reducible apply wl_rowG); exact rfl; exact rfl; first | with_reducible assumption | exact RowK.now (by with_reducible assumption) | exact f4 (by with_reducible assumption)))
    (with_reducible refine wl_ck ?_ ?_); exact rfl; intro K hK; go_simp; refine ⟨_, _, ⟨rfl, rfl⟩, hK _ _ ⟨_, HC.out, ?_⟩⟩; clear hK K; rintro e w8 ⟨rfl, hb8⟩; refine ⟨_, rfl, ?_⟩; simp only [put_lit, List.set_cons_zero, List.set_cons_succ]
    (with_reducible refine wl_k ?_ ?_); exact rfl; intro K hK; go_simp; refine hK _ ?_; clear hK K
    (with_reducible refine wl_k ?_ ?_); exact rfl; intro K hK; go_simp; refine hK _ ?_; clear hK K
    replace hp := below_look hb8 hp; replace hb := hb.trans (hb8.mono hb.size); clear hb8
    clear HC hp
    go_wp2_with fail
    go_ret
    exact ⟨by rw [HF.out]; rfl, hb⟩
  · have e1 : ¬ ((min t.nodes (40 + 1) : Nat) : Int) ≤ 40 := by omega
    have HF : Hid (validB true t = false) := Lib.hid (by unfold validB; rw [decide_eq_false hn]; rfl)
    clear hn
    apply wp_region_lit
    (first | ((with_reducible apply wl_oneG); exact rfl; exact rfl; first | exact f0 (by with_reducible assumption) | exact f1 (by with_reducible assumption) | exact f2 (by with_reducible assumption) | exact f3 (by with_reducible assumption) | with_reducible assumption | exact g22 (by with_reducible assumption) | exact g25 (by with_reducible assumption)) | ((with_reducible apply wl_rowG); exact rfl; exact rfl; first | with_reducible assumption | exact RowK.now (by with_reducible assumption) | exact f4 (by with_reducible assumption)))
    (with_reducible refine wl_ck ?_ ?_); exact rfl; intro K hK; go_simp; refine ⟨_, _, ⟨rfl, rfl⟩, hK _ _ ⟨_, HC.out, ?_⟩⟩; clear hK K; rintro e w7 ⟨rfl, hb7⟩; refine ⟨_, rfl, ?_⟩; simp only [put_lit, List.set_cons_zero, List.set_cons_succ]
    replace hp := below_look hb7 hp; replace hb := hb.trans (hb7.mono hb.size); clear hb7
    clear HC
    (with_reducible refine wl_k ?_ ?_); exact rfl; intro K hK; go_simp; refine hK _ ?_; clear hK K
    (with_reducible refine wl_k ?_ ?_); exact rfl; intro K hK; go_simp; refine hK _ ?_; clear hK K
    (first | ((with_reducible refine wl_skipU ?_ ?_ ?_); exact rfl; exact rfl) | ((with_reducible refine wl_skip ?_ ?_); exact rfl; simp only [put_lit, List.set_cons_zero, List.set_cons_succ]))
    (first | ((with_reducible refine wl_skipU ?_ ?_ ?_); exact rfl; exact rfl) | ((with_reducible refine wl_skip ?_ ?_); exact rfl; simp only [put_lit, List.set_cons_zero, List.set_cons_succ]))
    (with_reducible refine wl_k ?_ ?_); exact rfl; intro K hK; go_simp; refine hK _ ?_; clear hK K
    (with_reducible refine wl_k ?_ ?_); exact rfl; intro K hK; go_simp; refine hK _ ?_; clear hK K
    clear hp
    go_wp2_with fail
    go_ret
    exact ⟨by rw [HF.out]; rfl, hb⟩
end Go.Proofs.YtokmaehefenpmaaDoor
