/- The law HeapNil: what a missing heap returns. -/
import Derived.Test.YtpamocglecangaaPA13
import Derived.Test.YtpamocglecangaaPA2
namespace Go.Proofs.Ytpamocglecangaa
open Go.RowKit Go.Proofs.Ytpamocglecangaa.Nm
set_option linter.unusedSimpArgs false
section
variable {w w' : World} {D : Nat → Prop} {q : Cl} {row rv rx tr : Array Value} {A : Option Addr} {l c p : Nat} {t : TypeId} {fr : Nat × Nat}
theorem cl_row (hp : w.heap[p]? = some (.cells row t fr)) (h : Hid (ClAt w' D q row rv rx tr A l c)) : RowAt w 37 ⟨p, 0, none⟩ row := row_mid (n := 26) hp (by have := h.out.size; simp [← this]) u37 rfl h.out.size info37
theorem cl_v (hp : w.heap[p]? = some (.cells row t fr)) (h : Hid (ClAt w' D q row rv rx tr A l c)) : RowAt w 35 ⟨p, 3, none⟩ rv := row_mid (n := 9) hp h.out.cells.2.2.2.1 u35 rfl h.out.v.size info35
theorem cl_x (hp : w.heap[p]? = some (.cells row t fr)) (h : Hid (ClAt w' D q row rv rx tr A l c)) : RowAt w 35 ⟨p, 12, none⟩ rx := row_mid (n := 9) hp h.out.cells.2.2.2.2.1 u35 rfl h.out.x.size info35
theorem cl_t (hp : w.heap[p]? = some (.cells row t fr)) (h : Hid (ClAt w' D q row rv rx tr A l c)) : RowAt w 32 ⟨p, 21, none⟩ tr := row_mid (n := 4) hp h.out.cells.2.2.2.2.2.1 u24 rfl h.out.t.size info24
theorem cl_l (hp : w.heap[p]? = some (.cells row t fr)) (h : Hid (ClAt w' D q row rv rx tr A l c)) : OneAt w 33 ⟨p, 25, none⟩ (.slice A l c) := one_of u33 rfl (by rw [cell_of_row _ _ _ _ _ _ hp]; exact h.out.cells.2.2.2.2.2.2)
theorem cl_a (hp : w.heap[p]? = some (.cells row t fr)) (h : Hid (ClAt w' D q row rv rx tr A l c)) : OneAt w 3 ⟨p, 1, none⟩ (.int .i64 q.a) := one_of u3 rfl (by rw [cell_of_row _ _ _ _ _ _ hp]; exact h.out.cells.2.1)
theorem cl_b (hp : w.heap[p]? = some (.cells row t fr)) (h : Hid (ClAt w' D q row rv rx tr A l c)) : OneAt w 3 ⟨p, 2, none⟩ (.int .i64 q.b) := one_of u3 rfl (by rw [cell_of_row _ _ _ _ _ _ hp]; exact h.out.cells.2.2.1)
end
theorem run_box37 (row : Array Value) (w : World) : (Instr.box 37 (.agg row)).run Try.prog w = .ok (.pointer (some ⟨w.heap.size, 0, none⟩)) (w.alloc (.cells row 37)) := by kernel_rfl
theorem ex_box37 {ev : Operand → Value} {o : Oper} {w : World} (x : Operand) (ho : o.op = .box 37 x) {row : Array Value} (hx : ev x = .agg row) :
    (execOp ev o).run Try.prog w = .ok (.value (.pointer (some ⟨w.heap.size, 0, none⟩))) (w.alloc (.cells row 37)) := by
  unfold execOp
  simp [ho, hx, run_box37 row w, Result.andThen]
theorem run_bs23 (c0 c1 c2 c3 c4 c5 c6 c7 c8 c9 c10 c11 c12 c13 c14 c15 c16 c17 c18 c19 c20 c21 c22 c23 c24 c25 : Value) (w : World) : (Instr.buildSlice 23 1 #[(0, .agg #[c0, c1, c2, c3, c4, c5, c6, c7, c8, c9, c10, c11, c12, c13, c14, c15, c16, c17, c18, c19, c20, c21, c22, c23, c24, c25])]).run Try.prog w = .ok (.slice (some ⟨w.heap.size, 0, none⟩) 1 1) (w.alloc (.cells #[c0, c1, c2, c3, c4, c5, c6, c7, c8, c9, c10, c11, c12, c13, c14, c15, c16, c17, c18, c19, c20, c21, c22, c23, c24, c25] 37)) := by kernel_rfl
theorem ex_bs23 {ev : Operand → Value} {o : Oper} {w : World} (x : Operand) (ho : o.op = .buildSlice 23 1 #[(0, x)]) {row : Array Value} (hx : ev x = .agg row) (h : row.size = 26) :
    (execOp ev o).run Try.prog w = .ok (.value (.slice (some ⟨w.heap.size, 0, none⟩) 1 1)) (w.alloc (.cells row 37)) := by
  obtain ⟨l⟩ := row
  match l, h with
  | [c0, c1, c2, c3, c4, c5, c6, c7, c8, c9, c10, c11, c12, c13, c14, c15, c16, c17, c18, c19, c20, c21, c22, c23, c24, c25], _ =>
    unfold execOp
    have := run_bs23 c0 c1 c2 c3 c4 c5 c6 c7 c8 c9 c10 c11 c12 c13 c14 c15 c16 c17 c18 c19 c20 c21 c22 c23 c24 c25 w
    simp [ho, hx, this, Result.andThen]
/-- One call in a block of its own. -/
theorem ClsAt.one {w : World} {D : Nat → Prop} {q : Cl} {row rv rx tr : Array Value} {A : Option Addr} {l c b : Nat} {fr : Nat × Nat} {t : TypeId} (hb : w.heap[b]? = some (.cells row t fr)) (h : ClAt w D q row rv rx tr A l c) (hD : D b) : ClsAt w D [q] (some ⟨b, 0, none⟩) 1 1 :=
  ⟨rfl, Nat.le_refl _, by unfold maxLen; omega, fun i q' hi => by
    match i, hi with
    | 0, hi =>
      cases hi
      exact ⟨b, 0, row, t, fr, row, rv, rx, tr, A, l, c, rfl, hD, hb, (by have := h.size; simp [← this]), h⟩⟩
theorem run_fld35 (w : World) : (Instr.field 35 (.agg zrow) 0).run Try.prog w = .ok (.int .i64 0) w := by kernel_rfl
theorem ex_fld35 {ev : Operand → Value} {o : Oper} {w : World} (x : Operand) (ho : o.op = .field 35 x 0) (hx : ev x = .agg zrow) : (execOp ev o).run Try.prog w = .ok (.value (.int .i64 0)) w := by
  unfold execOp
  simp [ho, hx, run_fld35 w, Result.andThen]
theorem wl_wG {P : Program} {ops : Array Oper} {rest : List Oper} {o : Oper} {a : Act} {w w2 : World} {Q : Exit → Act → World → Prop} {v : Value} (hg : Region.wanted o (yielded ops a.tmps) = true) (hx : (execOp a.eval o).run P w = .ok (.value v) w2)
    (h : wpList P ops Q rest (a.put o.dst v) w2) : wpList P ops Q (o :: rest) a w := by
  refine wpList_step fun K hK => ?_
  rw [if_pos hg]
  unfold Oper.wp; rw [hx]; exact hK _ _ h
set_option maxHeartbeats 16000000 in
set_option maxRecDepth 100000 in
theorem HeapNil_any {w : World} {D : Nat → Prop} {q : Cl} {row rv rx tr : Array Value} {A : Option Addr} {l c : Nat} (h : ClAt w D q row rv rx tr A l c) :
    Calls Try.prog 8 #[.agg row] w fun e w' => e = .returned (.bool true) ∧ Below w.heap.size w w' := by
  have HCL0 := Lib.hid h
  have hrs := h.size
  have zone : zrow.all (·.oneCell') = true := (zero_va w D).one
  have hzs : zrow.size = 9 := rfl
  have hb := Below.refl w.heap.size w
  obtain ⟨tk, ts, tn, tA, tl, tc, htr⟩ := r4_cells h.t
  subst htr
  have HCL := HCL0
  have HVv := Lib.hid h.v
  have HVx := Lib.hid h.x
  clear h
  go_enter Try.func8, Try.ntmps8
  go_upto_region 0 with (fail)
  apply wp_region_lit
  refine wl_newv (fun q => .pointer (some ⟨q, 0, none⟩)) rfl (ex_box37 _ rfl rfl) ?_
  intro W1 p1 hbn hlp hq
  simp only [put_lit, List.set_cons_zero, List.set_cons_succ]
  replace hb := hb.trans hbn
  clear hbn
  (with_reducible refine wl_k ?_ ?_); exact rfl; intro K hK; go_simp; refine hK _ ?_; clear hK K
  go_upto_region 1 with (fail)
  apply wp_region_lit
  ((with_reducible apply wl_rowG); exact rfl; exact rfl; exact cl_row hq HCL)
  refine wl_newv (fun q => .slice (some ⟨q, 0, none⟩) 1 1) rfl (ex_bs23 _ rfl rfl hrs) ?_
  intro W2 p2 hbn hlp2 hq2
  simp only [put_lit, List.set_cons_zero, List.set_cons_succ]
  replace hq := below_look hbn hq
  replace hb := hb.trans (hbn.mono hb.size)
  clear hbn
  have hcls : ClsAt W2 (fun _ => True) [q] (some ⟨p2, 0, none⟩) 1 1 := ClsAt.one hq2 (((HCL.out.mono (D' := fun _ => True) (fun _ _ => trivial) fun b _ hl => hb.block b hl))) trivial
  have HC := Lib.hid (big_any none 0 0 (by unfold maxLen; omega) [q] (some ⟨p2, 0, none⟩) 1 1 W2 _ hcls)
  clear hcls hq2
  (with_reducible refine wl_ck ?_ ?_); exact rfl; intro K hK; go_simp; refine ⟨_, _, ⟨rfl, rfl⟩, hK _ _ ⟨_, HC.out, ?_⟩⟩; clear hK K; rintro e w3 ⟨⟨bb, rfl, -⟩, hb3⟩; refine ⟨_, rfl, ?_⟩; simp only [put_lit, List.set_cons_zero, List.set_cons_succ]
  replace hq := below_look hb3 hq
  replace hb := hb.trans (hb3.mono hb.size)
  clear hb3 HC
  cases bb with
  | true =>
    go_upto_region 2 with (fail)
    apply wp_region_lit
    (with_reducible refine wl_ck ?_ ?_); exact rfl; intro K hK; go_simp; refine ⟨_, _, ⟨rfl, rfl⟩, hK _ _ ⟨_, awake_any, ?_⟩⟩; clear hK K; rintro e w4 ⟨rfl, hb4⟩; refine ⟨_, rfl, ?_⟩; simp only [put_lit, List.set_cons_zero, List.set_cons_succ]
    (with_reducible refine wl_k ?_ ?_); exact rfl; intro K hK; go_simp; refine hK _ ?_; clear hK K
    go_wp2_with fail
    go_ret
    exact ⟨rfl, hb.trans (hb4.mono hb.size)⟩
  | false =>
    go_upto_region 3 with (fail)
    apply wp_region_lit
    (with_reducible refine wl_k ?_ ?_); exact rfl; intro K hK; go_simp; refine hK _ ?_; clear hK K
    go_upto_region 4 with (fail)
    apply wp_region_lit
    (with_reducible refine wl_k ?_ ?_); exact rfl; intro K hK; go_simp; refine hK _ ?_; clear hK K
    (with_reducible refine wl_k ?_ ?_); exact rfl; intro K hK; go_simp; refine hK _ ?_; clear hK K
    ((with_reducible apply wl_rowG); exact rfl; exact rfl; exact cl_v hq HCL)
    (with_reducible refine wl_ck ?_ ?_); exact rfl; intro K hK; go_simp; refine ⟨_, _, ⟨rfl, rfl⟩, hK _ _ ⟨_, Copy_nil, ?_⟩⟩; clear hK K; rintro e w104 ⟨rfl, hbw⟩; refine ⟨_, rfl, ?_⟩; simp only [put_lit, List.set_cons_zero, List.set_cons_succ]
    replace hq := below_look hbw hq; replace hb := hb.trans (hbw.mono hb.size); clear hbw
    (with_reducible refine wl_k ?_ ?_); exact rfl; intro K hK; go_simp; refine hK _ ?_; clear hK K
    (with_reducible refine wl_k ?_ ?_); exact rfl; intro K hK; go_simp; refine hK _ ?_; clear hK K
    (with_reducible refine wl_k ?_ ?_); exact rfl; intro K hK; go_simp; refine hK _ ?_; clear hK K
    have lthqp4 := heap_lt hq; (with_reducible refine wl_allV ?_); intro Y4 p4 hbn hlp4 hp4; replace hq := below_look hbn hq; replace hb := hb.trans (hbn.mono hb.size); clear hbn; simp only [put_lit, List.set_cons_zero, List.set_cons_succ]
    (with_reducible refine wl_putV hzs zone hzs rfl rfl hp4 ?_); rw [put_noneA]; intro X4 hbx hsz hkx hnx; replace hq := (hkx _ (by omega)).trans hq; replace hb := hbx _ _ (by omega) hb; clear hp4; have hp4 := hnx; clear hnx hbx hkx hsz
    (with_reducible refine wl_k ?_ ?_); exact rfl; intro K hK; go_simp; refine hK _ ?_; clear hK K
    clear hp4 hlp4
    go_upto_region 5 with (fail)
    apply wp_region_lit
    (with_reducible refine wl_k ?_ ?_); exact rfl; intro K hK; go_simp; refine hK _ ?_; clear hK K
    (with_reducible refine wl_k ?_ ?_); exact rfl; intro K hK; go_simp; refine hK _ ?_; clear hK K
    ((with_reducible apply wl_rowG); exact rfl; exact rfl; exact cl_v hq HCL)
    (with_reducible refine wl_ck ?_ ?_); exact rfl; intro K hK; go_simp; refine ⟨_, _, ⟨rfl, rfl⟩, hK _ _ ⟨_, End_nil, ?_⟩⟩; clear hK K; rintro e w105 ⟨rfl, hbw⟩; refine ⟨_, rfl, ?_⟩; simp only [put_lit, List.set_cons_zero, List.set_cons_succ]
    replace hq := below_look hbw hq; replace hb := hb.trans (hbw.mono hb.size); clear hbw
    (with_reducible refine wl_k ?_ ?_); exact rfl; intro K hK; go_simp; refine hK _ ?_; clear hK K
    go_upto_region 6 with (fail)
    apply wp_region_lit
    (with_reducible refine wl_k ?_ ?_); exact rfl; intro K hK; go_simp; refine hK _ ?_; clear hK K
    (with_reducible refine wl_ck ?_ ?_); exact rfl; intro K hK; go_simp; refine ⟨_, _, ⟨rfl, rfl⟩, hK _ _ ⟨_, Next_nil, ?_⟩⟩; clear hK K; rintro e w106 ⟨rfl, hbw⟩; refine ⟨_, rfl, ?_⟩; simp only [put_lit, List.set_cons_zero, List.set_cons_succ]
    replace hq := below_look hbw hq; replace hb := hb.trans (hbw.mono hb.size); clear hbw
    (with_reducible refine wl_k ?_ ?_); exact rfl; intro K hK; go_simp; refine hK _ ?_; clear hK K
    (with_reducible refine wl_k ?_ ?_); exact rfl; intro K hK; go_simp; refine hK _ ?_; clear hK K
    (with_reducible refine wl_k ?_ ?_); exact rfl; intro K hK; go_simp; refine hK _ ?_; clear hK K
    have lthqp6 := heap_lt hq; (with_reducible refine wl_allV ?_); intro Y6 p6 hbn hlp6 hp6; replace hq := below_look hbn hq; replace hb := hb.trans (hbn.mono hb.size); clear hbn; simp only [put_lit, List.set_cons_zero, List.set_cons_succ]
    (with_reducible refine wl_putV hzs zone hzs rfl rfl hp6 ?_); rw [put_noneA]; intro X6 hbx hsz hkx hnx; replace hq := (hkx _ (by omega)).trans hq; replace hb := hbx _ _ (by omega) hb; clear hp6; have hp6 := hnx; clear hnx hbx hkx hsz
    (with_reducible refine wl_k ?_ ?_); exact rfl; intro K hK; go_simp; refine hK _ ?_; clear hK K
    go_upto_region 7 with (fail)
    apply wp_region_lit
    (with_reducible refine wl_k ?_ ?_); exact rfl; intro K hK; go_simp; refine hK _ ?_; clear hK K
    (with_reducible refine wl_k ?_ ?_); exact rfl; intro K hK; go_simp; refine hK _ ?_; clear hK K
    ((with_reducible apply wl_oneG); exact rfl; exact rfl; exact cl_a hq HCL)
    (with_reducible refine wl_k ?_ ?_); exact rfl; intro K hK; go_simp; refine hK _ ?_; clear hK K
    ((with_reducible apply wl_oneG); exact rfl; exact rfl; exact cl_b hq HCL)
    (with_reducible refine wl_ck ?_ ?_); exact rfl; intro K hK; go_simp; refine ⟨_, _, ⟨rfl, rfl⟩, hK _ _ ⟨_, Field_nil, ?_⟩⟩; clear hK K; rintro e w107 ⟨rfl, hbw⟩; refine ⟨_, rfl, ?_⟩; simp only [put_lit, List.set_cons_zero, List.set_cons_succ]
    replace hq := below_look hbw hq; replace hp6 := below_look hbw hp6; replace hb := hb.trans (hbw.mono hb.size); clear hbw
    (with_reducible refine wl_k ?_ ?_); exact rfl; intro K hK; go_simp; refine hK _ ?_; clear hK K
    (with_reducible refine wl_k ?_ ?_); exact rfl; intro K hK; go_simp; refine hK _ ?_; clear hK K
    (with_reducible refine wl_k ?_ ?_); exact rfl; intro K hK; go_simp; refine hK _ ?_; clear hK K
    have lthqp7 := heap_lt hq; have lthp6p7 := heap_lt hp6; (with_reducible refine wl_allV ?_); intro Y7 p7 hbn hlp7 hp7; replace hq := below_look hbn hq; replace hp6 := below_look hbn hp6; replace hb := hb.trans (hbn.mono hb.size); clear hbn; simp only [put_lit, List.set_cons_zero, List.set_cons_succ]
    (with_reducible refine wl_putV hzs zone hzs rfl rfl hp7 ?_); rw [put_noneA]; intro X7 hbx hsz hkx hnx; replace hp6 := (hkx _ (by omega)).trans hp6; replace hq := (hkx _ (by omega)).trans hq; replace hb := hbx _ _ (by omega) hb; clear hp7; have hp7 := hnx; clear hnx hbx hkx hsz
    (with_reducible refine wl_k ?_ ?_); exact rfl; intro K hK; go_simp; refine hK _ ?_; clear hK K
    clear hp7 hlp7
    go_upto_region 8 with (fail)
    apply wp_region_lit
    (with_reducible refine wl_k ?_ ?_); exact rfl; intro K hK; go_simp; refine hK _ ?_; clear hK K
    (with_reducible refine wl_k ?_ ?_); exact rfl; intro K hK; go_simp; refine hK _ ?_; clear hK K
    ((with_reducible apply wl_oneG); exact rfl; exact rfl; exact cl_a hq HCL)
    (with_reducible refine wl_k ?_ ?_); exact rfl; intro K hK; go_simp; refine hK _ ?_; clear hK K
    ((with_reducible apply wl_oneG); exact rfl; exact rfl; exact cl_b hq HCL)
    (with_reducible refine wl_k ?_ ?_); exact rfl; intro K hK; go_simp; refine hK _ ?_; clear hK K
    ((with_reducible apply wl_rowG); exact rfl; exact rfl; exact cl_v hq HCL)
    (with_reducible refine wl_ck ?_ ?_); exact rfl; intro K hK; go_simp; refine ⟨_, _, ⟨rfl, rfl⟩, hK _ _ ⟨_, Set_nil, ?_⟩⟩; clear hK K; rintro e w108 ⟨rfl, hbw⟩; refine ⟨_, rfl, ?_⟩; simp only [put_lit, List.set_cons_zero, List.set_cons_succ]
    replace hq := below_look hbw hq; replace hp6 := below_look hbw hp6; replace hb := hb.trans (hbw.mono hb.size); clear hbw
    (with_reducible refine wl_k ?_ ?_); exact rfl; intro K hK; go_simp; refine hK _ ?_; clear hK K
    (with_reducible refine wl_k ?_ ?_); exact rfl; intro K hK; go_simp; refine hK _ ?_; clear hK K
    (with_reducible refine wl_k ?_ ?_); exact rfl; intro K hK; go_simp; refine hK _ ?_; clear hK K
    have lthqp8 := heap_lt hq; have lthp6p8 := heap_lt hp6; (with_reducible refine wl_allV ?_); intro Y8 p8 hbn hlp8 hp8; replace hq := below_look hbn hq; replace hp6 := below_look hbn hp6; replace hb := hb.trans (hbn.mono hb.size); clear hbn; simp only [put_lit, List.set_cons_zero, List.set_cons_succ]
    (with_reducible refine wl_putV hzs zone hzs rfl rfl hp8 ?_); rw [put_noneA]; intro X8 hbx hsz hkx hnx; replace hp6 := (hkx _ (by omega)).trans hp6; replace hq := (hkx _ (by omega)).trans hq; replace hb := hbx _ _ (by omega) hb; clear hp8; have hp8 := hnx; clear hnx hbx hkx hsz
    (with_reducible refine wl_k ?_ ?_); exact rfl; intro K hK; go_simp; refine hK _ ?_; clear hK K
    clear hp8 hlp8
    go_upto_region 9 with (fail)
    apply wp_region_lit
    (with_reducible refine wl_k ?_ ?_); exact rfl; intro K hK; go_simp; refine hK _ ?_; clear hK K
    (with_reducible refine wl_k ?_ ?_); exact rfl; intro K hK; go_simp; refine hK _ ?_; clear hK K
    ((with_reducible apply wl_rowG); exact rfl; exact rfl; exact cl_v hq HCL)
    (with_reducible refine wl_ck ?_ ?_); exact rfl; intro K hK; go_simp; refine ⟨_, _, ⟨rfl, rfl⟩, hK _ _ ⟨_, Weak_nil, ?_⟩⟩; clear hK K; rintro e w109 ⟨rfl, hbw⟩; refine ⟨_, rfl, ?_⟩; simp only [put_lit, List.set_cons_zero, List.set_cons_succ]
    replace hq := below_look hbw hq; replace hp6 := below_look hbw hp6; replace hb := hb.trans (hbw.mono hb.size); clear hbw
    (with_reducible refine wl_k ?_ ?_); exact rfl; intro K hK; go_simp; refine hK _ ?_; clear hK K
    (with_reducible refine wl_k ?_ ?_); exact rfl; intro K hK; go_simp; refine hK _ ?_; clear hK K
    (with_reducible refine wl_k ?_ ?_); exact rfl; intro K hK; go_simp; refine hK _ ?_; clear hK K
    have lthqp9 := heap_lt hq; have lthp6p9 := heap_lt hp6; (with_reducible refine wl_allV ?_); intro Y9 p9 hbn hlp9 hp9; replace hq := below_look hbn hq; replace hp6 := below_look hbn hp6; replace hb := hb.trans (hbn.mono hb.size); clear hbn; simp only [put_lit, List.set_cons_zero, List.set_cons_succ]
    (with_reducible refine wl_putV hzs zone hzs rfl rfl hp9 ?_); rw [put_noneA]; intro X9 hbx hsz hkx hnx; replace hp6 := (hkx _ (by omega)).trans hp6; replace hq := (hkx _ (by omega)).trans hq; replace hb := hbx _ _ (by omega) hb; clear hp9; have hp9 := hnx; clear hnx hbx hkx hsz
    (with_reducible refine wl_k ?_ ?_); exact rfl; intro K hK; go_simp; refine hK _ ?_; clear hK K
    clear hp9 hlp9
    go_upto_region 10 with (fail)
    apply wp_region_lit
    (with_reducible refine wl_k ?_ ?_); exact rfl; intro K hK; go_simp; refine hK _ ?_; clear hK K
    (with_reducible refine wl_k ?_ ?_); exact rfl; intro K hK; go_simp; refine hK _ ?_; clear hK K
    ((with_reducible apply wl_rowG); exact rfl; exact rfl; exact cl_v hq HCL)
    (with_reducible refine wl_ck ?_ ?_); exact rfl; intro K hK; go_simp; refine ⟨_, _, ⟨rfl, rfl⟩, hK _ _ ⟨_, Load_nil, ?_⟩⟩; clear hK K; rintro e w110 ⟨rfl, hbw⟩; refine ⟨_, rfl, ?_⟩; simp only [put_lit, List.set_cons_zero, List.set_cons_succ]
    replace hq := below_look hbw hq; replace hp6 := below_look hbw hp6; replace hb := hb.trans (hbw.mono hb.size); clear hbw
    (with_reducible refine wl_k ?_ ?_); exact rfl; intro K hK; go_simp; refine hK _ ?_; clear hK K
    (with_reducible refine wl_k ?_ ?_); exact rfl; intro K hK; go_simp; refine hK _ ?_; clear hK K
    (with_reducible refine wl_k ?_ ?_); exact rfl; intro K hK; go_simp; refine hK _ ?_; clear hK K
    (with_reducible refine wl_k ?_ ?_); exact rfl; intro K hK; go_simp; refine hK _ ?_; clear hK K
    have lthqp10 := heap_lt hq; have lthp6p10 := heap_lt hp6; (with_reducible refine wl_allV ?_); intro Y10 p10 hbn hlp10 hp10; replace hq := below_look hbn hq; replace hp6 := below_look hbn hp6; replace hb := hb.trans (hbn.mono hb.size); clear hbn; simp only [put_lit, List.set_cons_zero, List.set_cons_succ]
    (with_reducible refine wl_putV hzs zone hzs rfl rfl hp10 ?_); rw [put_noneA]; intro X10 hbx hsz hkx hnx; replace hp6 := (hkx _ (by omega)).trans hp6; replace hq := (hkx _ (by omega)).trans hq; replace hb := hbx _ _ (by omega) hb; clear hp10; have hp10 := hnx; clear hnx hbx hkx hsz
    (with_reducible refine wl_k ?_ ?_); exact rfl; intro K hK; go_simp; refine hK _ ?_; clear hK K
    (with_reducible refine wl_k ?_ ?_); exact rfl; intro K hK; go_simp; refine hK _ ?_; clear hK K
    clear hp10 hlp10
    go_upto_region 11 with (fail)
    apply wp_region_lit
    (with_reducible refine wl_k ?_ ?_); exact rfl; intro K hK; go_simp; refine hK _ ?_; clear hK K
    (with_reducible refine wl_k ?_ ?_); exact rfl; intro K hK; go_simp; refine hK _ ?_; clear hK K
    ((with_reducible apply wl_rowG); exact rfl; exact rfl; exact cl_v hq HCL)
    (with_reducible refine wl_ck ?_ ?_); exact rfl; intro K hK; go_simp; refine ⟨_, _, ⟨rfl, rfl⟩, hK _ _ ⟨_, (Elems_nil (HVv.out.old hb)), ?_⟩⟩; clear hK K; rintro e w111 ⟨rfl, hbw⟩; refine ⟨_, rfl, ?_⟩; simp only [put_lit, List.set_cons_zero, List.set_cons_succ]
    replace hq := below_look hbw hq; replace hp6 := below_look hbw hp6; replace hb := hb.trans (hbw.mono hb.size); clear hbw
    (with_reducible refine wl_k ?_ ?_); exact rfl; intro K hK; go_simp; refine hK _ ?_; clear hK K
    (with_reducible refine wl_k ?_ ?_); exact rfl; intro K hK; go_simp; refine hK _ ?_; clear hK K
    (with_reducible refine wl_k ?_ ?_); exact rfl; intro K hK; go_simp; refine hK _ ?_; clear hK K
    (with_reducible refine wl_k ?_ ?_); exact rfl; intro K hK; go_simp; refine hK _ ?_; clear hK K
    (with_reducible refine wl_k ?_ ?_); exact rfl; intro K hK; go_simp; refine hK _ ?_; clear hK K
    go_upto_region 12 with (fail)
    apply wp_region_lit
    (with_reducible refine wl_k ?_ ?_); exact rfl; intro K hK; go_simp; refine hK _ ?_; clear hK K
    (with_reducible refine wl_k ?_ ?_); exact rfl; intro K hK; go_simp; refine hK _ ?_; clear hK K
    ((with_reducible apply wl_rowG); exact rfl; exact rfl; exact cl_v hq HCL)
    (with_reducible refine wl_ck ?_ ?_); exact rfl; intro K hK; go_simp; refine ⟨_, _, ⟨rfl, rfl⟩, hK _ _ ⟨_, (Own_nil (HVv.out.old hb)), ?_⟩⟩; clear hK K; rintro e w112 ⟨rfl, hbw⟩; refine ⟨_, rfl, ?_⟩; simp only [put_lit, List.set_cons_zero, List.set_cons_succ]
    replace hq := below_look hbw hq; replace hp6 := below_look hbw hp6; replace hb := hb.trans (hbw.mono hb.size); clear hbw
    (with_reducible refine wl_k ?_ ?_); exact rfl; intro K hK; go_simp; refine hK _ ?_; clear hK K
    (with_reducible refine wl_k ?_ ?_); exact rfl; intro K hK; go_simp; refine hK _ ?_; clear hK K
    (with_reducible refine wl_k ?_ ?_); exact rfl; intro K hK; go_simp; refine hK _ ?_; clear hK K
    (with_reducible refine wl_k ?_ ?_); exact rfl; intro K hK; go_simp; refine hK _ ?_; clear hK K
    have lthqp12 := heap_lt hq; have lthp6p12 := heap_lt hp6; (with_reducible refine wl_allV ?_); intro Y12 p12 hbn hlp12 hp12; replace hq := below_look hbn hq; replace hp6 := below_look hbn hp6; replace hb := hb.trans (hbn.mono hb.size); clear hbn; simp only [put_lit, List.set_cons_zero, List.set_cons_succ]
    (with_reducible refine wl_putV hzs zone hzs rfl rfl hp12 ?_); rw [put_noneA]; intro X12 hbx hsz hkx hnx; replace hp6 := (hkx _ (by omega)).trans hp6; replace hq := (hkx _ (by omega)).trans hq; replace hb := hbx _ _ (by omega) hb; clear hp12; have hp12 := hnx; clear hnx hbx hkx hsz
    (with_reducible refine wl_k ?_ ?_); exact rfl; intro K hK; go_simp; refine hK _ ?_; clear hK K
    (with_reducible refine wl_k ?_ ?_); exact rfl; intro K hK; go_simp; refine hK _ ?_; clear hK K
    clear hp12 hlp12
    go_upto_region 13 with (fail)
    apply wp_region_lit
    (with_reducible refine wl_k ?_ ?_); exact rfl; intro K hK; go_simp; refine hK _ ?_; clear hK K
    (with_reducible refine wl_k ?_ ?_); exact rfl; intro K hK; go_simp; refine hK _ ?_; clear hK K
    ((with_reducible apply wl_rowG); exact rfl; exact rfl; exact cl_v hq HCL)
    (with_reducible refine wl_k ?_ ?_); exact rfl; intro K hK; go_simp; refine hK _ ?_; clear hK K
    ((with_reducible apply wl_oneG); exact rfl; exact rfl; exact cl_a hq HCL)
    (with_reducible refine wl_k ?_ ?_); exact rfl; intro K hK; go_simp; refine hK _ ?_; clear hK K
    ((with_reducible apply wl_rowG); exact rfl; exact rfl; exact cl_x hq HCL)
    (with_reducible refine wl_ck ?_ ?_); exact rfl; intro K hK; go_simp; refine ⟨_, _, ⟨rfl, rfl⟩, hK _ _ ⟨_, (Put_nil (HVv.out.old hb) (HVx.out.old hb)), ?_⟩⟩; clear hK K; rintro e w113 ⟨rfl, hbw⟩; refine ⟨_, rfl, ?_⟩; simp only [put_lit, List.set_cons_zero, List.set_cons_succ]
    replace hq := below_look hbw hq; replace hp6 := below_look hbw hp6; replace hb := hb.trans (hbw.mono hb.size); clear hbw
    (with_reducible refine wl_k ?_ ?_); exact rfl; intro K hK; go_simp; refine hK _ ?_; clear hK K
    (with_reducible refine wl_k ?_ ?_); exact rfl; intro K hK; go_simp; refine hK _ ?_; clear hK K
    (with_reducible refine wl_k ?_ ?_); exact rfl; intro K hK; go_simp; refine hK _ ?_; clear hK K
    have lthqp13 := heap_lt hq; have lthp6p13 := heap_lt hp6; (with_reducible refine wl_allV ?_); intro Y13 p13 hbn hlp13 hp13; replace hq := below_look hbn hq; replace hp6 := below_look hbn hp6; replace hb := hb.trans (hbn.mono hb.size); clear hbn; simp only [put_lit, List.set_cons_zero, List.set_cons_succ]
    (with_reducible refine wl_putV hzs zone hzs rfl rfl hp13 ?_); rw [put_noneA]; intro X13 hbx hsz hkx hnx; replace hp6 := (hkx _ (by omega)).trans hp6; replace hq := (hkx _ (by omega)).trans hq; replace hb := hbx _ _ (by omega) hb; clear hp13; have hp13 := hnx; clear hnx hbx hkx hsz
    (with_reducible refine wl_k ?_ ?_); exact rfl; intro K hK; go_simp; refine hK _ ?_; clear hK K
    clear hp13 hlp13
    go_upto_region 14 with (fail)
    apply wp_region_lit
    (with_reducible refine wl_k ?_ ?_); exact rfl; intro K hK; go_simp; refine hK _ ?_; clear hK K
    (with_reducible refine wl_k ?_ ?_); exact rfl; intro K hK; go_simp; refine hK _ ?_; clear hK K
    ((with_reducible apply wl_rowG); exact rfl; exact rfl; exact cl_v hq HCL)
    (with_reducible refine wl_k ?_ ?_); exact rfl; intro K hK; go_simp; refine hK _ ?_; clear hK K
    ((with_reducible apply wl_rowG); exact rfl; exact rfl; exact cl_x hq HCL)
    (with_reducible refine wl_ck ?_ ?_); exact rfl; intro K hK; go_simp; refine ⟨_, _, ⟨rfl, rfl⟩, hK _ _ ⟨_, (Append_nil (HVv.out.old hb) (HVx.out.old hb)), ?_⟩⟩; clear hK K; rintro e w114 ⟨rfl, hbw⟩; refine ⟨_, rfl, ?_⟩; simp only [put_lit, List.set_cons_zero, List.set_cons_succ]
    replace hq := below_look hbw hq; replace hp6 := below_look hbw hp6; replace hb := hb.trans (hbw.mono hb.size); clear hbw
    (with_reducible refine wl_k ?_ ?_); exact rfl; intro K hK; go_simp; refine hK _ ?_; clear hK K
    go_upto_region 15 with (fail)
    apply wp_region_lit
    (with_reducible refine wl_k ?_ ?_); exact rfl; intro K hK; go_simp; refine hK _ ?_; clear hK K
    (with_reducible refine wl_k ?_ ?_); exact rfl; intro K hK; go_simp; refine hK _ ?_; clear hK K
    ((with_reducible apply wl_oneG); exact rfl; exact rfl; exact cl_l hq HCL)
    (with_reducible refine wl_ck ?_ ?_); exact rfl; intro K hK; go_simp; refine ⟨_, _, ⟨rfl, rfl⟩, hK _ _ ⟨_, Counts_nil, ?_⟩⟩; clear hK K; rintro e w115 ⟨rfl, hbw⟩; refine ⟨_, rfl, ?_⟩; simp only [put_lit, List.set_cons_zero, List.set_cons_succ]
    replace hq := below_look hbw hq; replace hp6 := below_look hbw hp6; replace hb := hb.trans (hbw.mono hb.size); clear hbw
    (with_reducible refine wl_k ?_ ?_); exact rfl; intro K hK; go_simp; refine hK _ ?_; clear hK K
    (with_reducible refine wl_k ?_ ?_); exact rfl; intro K hK; go_simp; refine hK _ ?_; clear hK K
    (with_reducible refine wl_k ?_ ?_); exact rfl; intro K hK; go_simp; refine hK _ ?_; clear hK K
    (with_reducible refine wl_k ?_ ?_); exact rfl; intro K hK; go_simp; refine hK _ ?_; clear hK K
    (with_reducible refine wl_k ?_ ?_); exact rfl; intro K hK; go_simp; refine hK _ ?_; clear hK K
    (with_reducible refine wl_k ?_ ?_); exact rfl; intro K hK; go_simp; refine hK _ ?_; clear hK K
    (with_reducible refine wl_k ?_ ?_); exact rfl; intro K hK; go_simp; refine hK _ ?_; clear hK K
    go_upto_region 16 with (fail)
    apply wp_region_lit
    (with_reducible refine wl_k ?_ ?_); exact rfl; intro K hK; go_simp; refine hK _ ?_; clear hK K
    (with_reducible refine wl_k ?_ ?_); exact rfl; intro K hK; go_simp; refine hK _ ?_; clear hK K
    (with_reducible refine wl_k ?_ ?_); exact rfl; intro K hK; go_simp; refine hK _ ?_; clear hK K
    (with_reducible refine wl_k ?_ ?_); exact rfl; intro K hK; go_simp; refine hK _ ?_; clear hK K
    (with_reducible refine wl_k ?_ ?_); exact rfl; intro K hK; go_simp; refine hK _ ?_; clear hK K
    (with_reducible refine wl_k ?_ ?_); exact rfl; intro K hK; go_simp; refine hK _ ?_; clear hK K
    (with_reducible refine wl_k ?_ ?_); exact rfl; intro K hK; go_simp; refine hK _ ?_; clear hK K
    (with_reducible refine wl_k ?_ ?_); exact rfl; intro K hK; go_simp; refine hK _ ?_; clear hK K
    (with_reducible refine wl_k ?_ ?_); exact rfl; intro K hK; go_simp; refine hK _ ?_; clear hK K
    (with_reducible refine wl_k ?_ ?_); exact rfl; intro K hK; go_simp; refine hK _ ?_; clear hK K
    (with_reducible refine wl_k ?_ ?_); exact rfl; intro K hK; go_simp; refine hK _ ?_; clear hK K
    (with_reducible refine wl_k ?_ ?_); exact rfl; intro K hK; go_simp; refine hK _ ?_; clear hK K
    (with_reducible refine wl_k ?_ ?_); exact rfl; intro K hK; go_simp; refine hK _ ?_; clear hK K
    (with_reducible refine wl_k ?_ ?_); exact rfl; intro K hK; go_simp; refine hK _ ?_; clear hK K
    (with_reducible refine wl_k ?_ ?_); exact rfl; intro K hK; go_simp; refine hK _ ?_; clear hK K
    (with_reducible refine wl_k ?_ ?_); exact rfl; intro K hK; go_simp; refine hK _ ?_; clear hK K
    (with_reducible refine wl_k ?_ ?_); exact rfl; intro K hK; go_simp; refine hK _ ?_; clear hK K
    (with_reducible refine wl_k ?_ ?_); exact rfl; intro K hK; go_simp; refine hK _ ?_; clear hK K
    (with_reducible refine wl_k ?_ ?_); exact rfl; intro K hK; go_simp; refine hK _ ?_; clear hK K
    (with_reducible refine wl_k ?_ ?_); exact rfl; intro K hK; go_simp; refine hK _ ?_; clear hK K
    (with_reducible refine wl_k ?_ ?_); exact rfl; intro K hK; go_simp; refine hK _ ?_; clear hK K
    (with_reducible refine wl_k ?_ ?_); exact rfl; intro K hK; go_simp; refine hK _ ?_; clear hK K
    (with_reducible refine wl_k ?_ ?_); exact rfl; intro K hK; go_simp; refine hK _ ?_; clear hK K
    (with_reducible refine wl_k ?_ ?_); exact rfl; intro K hK; go_simp; refine hK _ ?_; clear hK K
    (with_reducible refine wl_k ?_ ?_); exact rfl; intro K hK; go_simp; refine hK _ ?_; clear hK K
    (with_reducible refine wl_k ?_ ?_); exact rfl; intro K hK; go_simp; refine hK _ ?_; clear hK K
    (with_reducible refine wl_k ?_ ?_); exact rfl; intro K hK; go_simp; refine hK _ ?_; clear hK K
    (with_reducible refine wl_k ?_ ?_); exact rfl; intro K hK; go_simp; refine hK _ ?_; clear hK K
    (with_reducible refine wl_k ?_ ?_); exact rfl; intro K hK; go_simp; refine hK _ ?_; clear hK K
    (with_reducible refine wl_k ?_ ?_); exact rfl; intro K hK; go_simp; refine hK _ ?_; clear hK K
    (with_reducible refine wl_k ?_ ?_); exact rfl; intro K hK; go_simp; refine hK _ ?_; clear hK K
    (with_reducible refine wl_k ?_ ?_); exact rfl; intro K hK; go_simp; refine hK _ ?_; clear hK K
    (with_reducible refine wl_k ?_ ?_); exact rfl; intro K hK; go_simp; refine hK _ ?_; clear hK K
    (with_reducible refine wl_k ?_ ?_); exact rfl; intro K hK; go_simp; refine hK _ ?_; clear hK K
    (with_reducible refine wl_k ?_ ?_); exact rfl; intro K hK; go_simp; refine hK _ ?_; clear hK K
    (with_reducible refine wl_k ?_ ?_); exact rfl; intro K hK; go_simp; refine hK _ ?_; clear hK K
    (with_reducible refine wl_k ?_ ?_); exact rfl; intro K hK; go_simp; refine hK _ ?_; clear hK K
    (with_reducible refine wl_k ?_ ?_); exact rfl; intro K hK; go_simp; refine hK _ ?_; clear hK K
    (with_reducible refine wl_k ?_ ?_); exact rfl; intro K hK; go_simp; refine hK _ ?_; clear hK K
    have e6 : OneAt _ 3 ⟨p6, 0, none⟩ (.int .i64 0) := one_of u3 rfl (by rw [cell_of_row _ _ _ _ _ _ hp6]; rfl)
    go_upto_region 17 with (fail)
    apply wp_region_lit
    (with_reducible refine wl_k ?_ ?_); exact rfl; intro K hK; go_simp; refine hK _ ?_; clear hK K
    (with_reducible refine wl_k ?_ ?_); exact rfl; intro K hK; go_simp; refine hK _ ?_; clear hK K
    (with_reducible refine wl_k ?_ ?_); exact rfl; intro K hK; go_simp; refine hK _ ?_; clear hK K
    (with_reducible refine wl_k ?_ ?_); exact rfl; intro K hK; go_simp; refine hK _ ?_; clear hK K
    (with_reducible refine wl_k ?_ ?_); exact rfl; intro K hK; go_simp; refine hK _ ?_; clear hK K
    (with_reducible refine wl_k ?_ ?_); exact rfl; intro K hK; go_simp; refine hK _ ?_; clear hK K
    (with_reducible refine wl_k ?_ ?_); exact rfl; intro K hK; go_simp; refine hK _ ?_; clear hK K
    (with_reducible refine wl_k ?_ ?_); exact rfl; intro K hK; go_simp; refine hK _ ?_; clear hK K
    (with_reducible refine wl_k ?_ ?_); exact rfl; intro K hK; go_simp; refine hK _ ?_; clear hK K
    (with_reducible refine wl_k ?_ ?_); exact rfl; intro K hK; go_simp; refine hK _ ?_; clear hK K
    (with_reducible refine wl_k ?_ ?_); exact rfl; intro K hK; go_simp; refine hK _ ?_; clear hK K
    (with_reducible refine wl_k ?_ ?_); exact rfl; intro K hK; go_simp; refine hK _ ?_; clear hK K
    ((with_reducible apply wl_oneG); exact rfl; exact rfl; exact e6)
    (with_reducible refine wl_k ?_ ?_); exact rfl; intro K hK; go_simp; refine hK _ ?_; clear hK K
    (with_reducible refine wl_k ?_ ?_); exact rfl; intro K hK; go_simp; refine hK _ ?_; clear hK K
    (with_reducible refine wl_k ?_ ?_); exact rfl; intro K hK; go_simp; refine hK _ ?_; clear hK K
    (with_reducible refine wl_k ?_ ?_); exact rfl; intro K hK; go_simp; refine hK _ ?_; clear hK K
    (with_reducible refine wl_k ?_ ?_); exact rfl; intro K hK; go_simp; refine hK _ ?_; clear hK K
    ((with_reducible apply wl_rowG); exact rfl; exact rfl; exact cl_t hq HCL)
    (with_reducible refine wl_k ?_ ?_); exact rfl; intro K hK; go_simp; refine hK _ ?_; clear hK K
    ((with_reducible apply wl_oneG); exact rfl; exact rfl; exact cl_l hq HCL)
    (with_reducible refine wl_ck ?_ ?_); exact rfl; intro K hK; go_simp; refine ⟨_, _, ⟨rfl, rfl⟩, hK _ _ ⟨_, Make_nil, ?_⟩⟩; clear hK K; rintro e w121 ⟨rfl, hbw⟩; refine ⟨_, rfl, ?_⟩; simp only [put_lit, List.set_cons_zero, List.set_cons_succ]
    replace hq := below_look hbw hq; replace hb := hb.trans (hbw.mono hb.size); clear hbw
    refine wl_wG rfl (ex_fld35 _ rfl rfl) ?_; simp only [put_lit, List.set_cons_zero, List.set_cons_succ]
    (with_reducible refine wl_k ?_ ?_); exact rfl; intro K hK; go_simp; refine hK _ ?_; clear hK K
    (with_reducible refine wl_k ?_ ?_); exact rfl; intro K hK; go_simp; refine hK _ ?_; clear hK K
    (with_reducible refine wl_k ?_ ?_); exact rfl; intro K hK; go_simp; refine hK _ ?_; clear hK K
    (with_reducible refine wl_k ?_ ?_); exact rfl; intro K hK; go_simp; refine hK _ ?_; clear hK K
    (with_reducible refine wl_k ?_ ?_); exact rfl; intro K hK; go_simp; refine hK _ ?_; clear hK K
    ((with_reducible apply wl_rowG); exact rfl; exact rfl; exact cl_t hq HCL)
    (with_reducible refine wl_k ?_ ?_); exact rfl; intro K hK; go_simp; refine hK _ ?_; clear hK K
    ((with_reducible apply wl_oneG); exact rfl; exact rfl; exact cl_l hq HCL)
    (with_reducible refine wl_ck ?_ ?_); exact rfl; intro K hK; go_simp; refine ⟨_, _, ⟨rfl, rfl⟩, hK _ _ ⟨_, Array_nil, ?_⟩⟩; clear hK K; rintro e w131 ⟨rfl, hbw⟩; refine ⟨_, rfl, ?_⟩; simp only [put_lit, List.set_cons_zero, List.set_cons_succ]
    replace hq := below_look hbw hq; replace hb := hb.trans (hbw.mono hb.size); clear hbw
    refine wl_wG rfl (ex_fld35 _ rfl rfl) ?_; simp only [put_lit, List.set_cons_zero, List.set_cons_succ]
    (with_reducible refine wl_k ?_ ?_); exact rfl; intro K hK; go_simp; refine hK _ ?_; clear hK K
    (with_reducible refine wl_k ?_ ?_); exact rfl; intro K hK; go_simp; refine hK _ ?_; clear hK K
    (with_reducible refine wl_k ?_ ?_); exact rfl; intro K hK; go_simp; refine hK _ ?_; clear hK K
    clear e6 hp6
    have C1 : Hid (∀ w', Below w131.heap.size w131 w' → Calls Try.prog 13 #[.pointer none] w' fun e w2 => e = .returned (.slice none 0 0) ∧ Below w'.heap.size w' w2) := Lib.hid fun w' _ => Objects_nil w'
    have C2 : Hid (∀ w', Below w131.heap.size w131 w' → Calls Try.prog 38 #[.pointer none] w' fun e w2 => e = .returned (.slice none 0 0) ∧ Below w'.heap.size w' w2) := Lib.hid fun w' _ => Buffers_nil
    have C3 : Hid (∀ w', Below w131.heap.size w131 w' → Calls Try.prog 22 #[.pointer none] w' fun e w2 => e = .returned (.slice none 0 0) ∧ Below w'.heap.size w' w2) := Lib.hid fun w' _ => Cycles_nil
    have C4 : Hid (∀ w', Below w131.heap.size w131 w' → Calls Try.prog 23 #[.pointer none, .slice A l c] w' fun e w2 => e = .returned (.slice none 0 0) ∧ Below w'.heap.size w' w2) := Lib.hid fun w' _ => Leaks_nil
    have C5 : Hid (∀ w', Below w131.heap.size w131 w' → Calls Try.prog 39 #[.pointer none] w' fun e w2 => e = .returned (.int .i64 0) ∧ Below w'.heap.size w' w2) := Lib.hid fun w' _ => Levels_nil w'
    have C6 : Hid (∀ w', Below w131.heap.size w131 w' → Calls Try.prog 17 #[.pointer none] w' fun e w2 => e = .returned (.pointer none) ∧ Below w'.heap.size w' w2) := Lib.hid fun w' _ => Clone_nil
    have C7 : Hid (∀ w', Below w131.heap.size w131 w' → Calls Try.prog 10 #[] w' fun e w2 => e = .returned (.bool true) ∧ Below w'.heap.size w' w2) := Lib.hid fun w' _ => awake_any
    go_upto_region 18 with (fail)
    refine wp_region_belowAll mixed (by kernel_rfl) ?_
    (with_reducible refine wq_k ?_ ?_); exact rfl; intro K hK; go_simp; (with_reducible refine hK _ ?_); clear hK K
    (with_reducible refine wq_k ?_ ?_); exact rfl; intro K hK; go_simp; (with_reducible refine hK _ ?_); clear hK K
    (with_reducible refine wq_k ?_ ?_); exact rfl; intro K hK; go_simp; (with_reducible refine hK _ ?_); clear hK K
    (with_reducible refine wq_k ?_ ?_); exact rfl; intro K hK; go_simp; (with_reducible refine hK _ ?_); clear hK K
    (with_reducible refine wq_k ?_ ?_); exact rfl; intro K hK; go_simp; (with_reducible refine hK _ ?_); clear hK K
    (with_reducible refine wq_k ?_ ?_); exact rfl; intro K hK; go_simp; (with_reducible refine hK _ ?_); clear hK K
    (with_reducible refine wq_k ?_ ?_); exact rfl; intro K hK; go_simp; (with_reducible refine hK _ ?_); clear hK K
    (with_reducible refine wq_k ?_ ?_); exact rfl; intro K hK; go_simp; (with_reducible refine hK _ ?_); clear hK K
    (with_reducible refine wq_k ?_ ?_); exact rfl; intro K hK; go_simp; (with_reducible refine hK _ ?_); clear hK K
    (with_reducible refine wq_k ?_ ?_); exact rfl; intro K hK; go_simp; (with_reducible refine hK _ ?_); clear hK K
    (with_reducible refine wq_k ?_ ?_); exact rfl; intro K hK; go_simp; (with_reducible refine hK _ ?_); clear hK K
    (with_reducible refine wq_k ?_ ?_); exact rfl; intro K hK; go_simp; (with_reducible refine hK _ ?_); clear hK K
    (with_reducible refine wq_k ?_ ?_); exact rfl; intro K hK; go_simp; (with_reducible refine hK _ ?_); clear hK K
    (with_reducible refine wq_k ?_ ?_); exact rfl; intro K hK; go_simp; (with_reducible refine hK _ ?_); clear hK K
    refine wq_ck rfl (fun K hK => ?_); go_simp; refine ⟨_, _, ⟨rfl, rfl⟩, hK _ _ ⟨_, fun w' hw' => calls_class hw' (C1.out w' hw'), ?_⟩⟩; clear hK K; simp only [put_lit, List.set_cons_zero, List.set_cons_succ]
    (with_reducible refine wq_k ?_ ?_); exact rfl; intro K hK; go_simp; (with_reducible refine hK _ ?_); clear hK K
    (with_reducible refine wq_k ?_ ?_); exact rfl; intro K hK; go_simp; (with_reducible refine hK _ ?_); clear hK K
    (with_reducible refine wq_k ?_ ?_); exact rfl; intro K hK; go_simp; (with_reducible refine hK _ ?_); clear hK K
    refine wq_ck rfl (fun K hK => ?_); go_simp; refine ⟨_, _, ⟨rfl, rfl⟩, hK _ _ ⟨_, fun w' hw' => calls_class hw' (C2.out w' hw'), ?_⟩⟩; clear hK K; simp only [put_lit, List.set_cons_zero, List.set_cons_succ]
    (with_reducible refine wq_k ?_ ?_); exact rfl; intro K hK; go_simp; (with_reducible refine hK _ ?_); clear hK K
    (with_reducible refine wq_k ?_ ?_); exact rfl; intro K hK; go_simp; (with_reducible refine hK _ ?_); clear hK K
    (with_reducible refine wq_k ?_ ?_); exact rfl; intro K hK; go_simp; (with_reducible refine hK _ ?_); clear hK K
    refine wq_ck rfl (fun K hK => ?_); go_simp; refine ⟨_, _, ⟨rfl, rfl⟩, hK _ _ ⟨_, fun w' hw' => calls_class hw' (C3.out w' hw'), ?_⟩⟩; clear hK K; simp only [put_lit, List.set_cons_zero, List.set_cons_succ]
    (with_reducible refine wq_k ?_ ?_); exact rfl; intro K hK; go_simp; (with_reducible refine hK _ ?_); clear hK K
    (with_reducible refine wq_k ?_ ?_); exact rfl; intro K hK; go_simp; (with_reducible refine hK _ ?_); clear hK K
    (with_reducible refine wq_k ?_ ?_); exact rfl; intro K hK; go_simp; (with_reducible refine hK _ ?_); clear hK K
    (with_reducible refine wq_k ?_ ?_); exact rfl; intro K hK; go_simp; (with_reducible refine hK _ ?_); clear hK K
    ((with_reducible apply wq_one); exact rfl; exact rfl; intro w' hw'; exact cl_l (below_look hw' hq) HCL)
    refine wq_ck rfl (fun K hK => ?_); go_simp; refine ⟨_, _, ⟨rfl, rfl⟩, hK _ _ ⟨_, fun w' hw' => calls_class hw' (C4.out w' hw'), ?_⟩⟩; clear hK K; simp only [put_lit, List.set_cons_zero, List.set_cons_succ]
    (with_reducible refine wq_k ?_ ?_); exact rfl; intro K hK; go_simp; (with_reducible refine hK _ ?_); clear hK K
    (with_reducible refine wq_k ?_ ?_); exact rfl; intro K hK; go_simp; (with_reducible refine hK _ ?_); clear hK K
    (with_reducible refine wq_k ?_ ?_); exact rfl; intro K hK; go_simp; (with_reducible refine hK _ ?_); clear hK K
    refine wq_ck rfl (fun K hK => ?_); go_simp; refine ⟨_, _, ⟨rfl, rfl⟩, hK _ _ ⟨_, fun w' hw' => calls_class hw' (C5.out w' hw'), ?_⟩⟩; clear hK K; simp only [put_lit, List.set_cons_zero, List.set_cons_succ]
    (with_reducible refine wq_k ?_ ?_); exact rfl; intro K hK; go_simp; (with_reducible refine hK _ ?_); clear hK K
    (with_reducible refine wq_k ?_ ?_); exact rfl; intro K hK; go_simp; (with_reducible refine hK _ ?_); clear hK K
    (with_reducible refine wq_k ?_ ?_); exact rfl; intro K hK; go_simp; (with_reducible refine hK _ ?_); clear hK K
    (with_reducible refine wq_k ?_ ?_); exact rfl; intro K hK; go_simp; (with_reducible refine hK _ ?_); clear hK K
    (with_reducible refine wq_k ?_ ?_); exact rfl; intro K hK; go_simp; (with_reducible refine hK _ ?_); clear hK K
    refine wq_ck rfl (fun K hK => ?_); go_simp; refine ⟨_, _, ⟨rfl, rfl⟩, hK _ _ ⟨_, fun w' hw' => calls_class hw' (C6.out w' hw'), ?_⟩⟩; clear hK K; simp only [put_lit, List.set_cons_zero, List.set_cons_succ]
    (with_reducible refine wq_k ?_ ?_); exact rfl; intro K hK; go_simp; (with_reducible refine hK _ ?_); clear hK K
    (with_reducible refine wq_k ?_ ?_); exact rfl; intro K hK; go_simp; (with_reducible refine hK _ ?_); clear hK K
    (with_reducible refine wq_k ?_ ?_); exact rfl; intro K hK; go_simp; (with_reducible refine hK _ ?_); clear hK K
    refine wq_ck rfl (fun K hK => ?_); go_simp; refine ⟨_, _, ⟨rfl, rfl⟩, hK _ _ ⟨_, fun w' hw' => calls_class hw' (C7.out w' hw'), ?_⟩⟩; clear hK K; simp only [put_lit, List.set_cons_zero, List.set_cons_succ]
    (with_reducible refine wq_k ?_ ?_); exact rfl; intro K hK; go_simp; (with_reducible refine hK _ ?_); clear hK K
    (with_reducible refine wq_k ?_ ?_); exact rfl; intro K hK; go_simp; (with_reducible refine hK _ ?_); clear hK K
    intro w18 hb18
    go_wp2_with fail
    go_ret
    exact ⟨rfl, hb.trans (hb18.mono hb.size)⟩
end Go.Proofs.Ytpamocglecangaa
