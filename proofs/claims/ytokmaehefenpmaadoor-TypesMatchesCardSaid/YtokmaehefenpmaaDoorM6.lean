/- The program's Match. -/
import Derived.Test.YtokmaehefenpmaaDoorM5
import Derived.Test.YtokmaehefenpmaaDoorV2
namespace Go.Proofs.YtokmaehefenpmaaDoor
open Go.RowKit Go.Proofs.YtokmaehefenpmaaDoor.Nm
set_option linter.unusedSimpArgs false
theorem ex_alloc22 {o : Oper} (ho : o.op = .alloc 22) (ev : Operand → Value) (w : World) : (execOp ev o).run Tryd.prog w = .ok (.value (.pointer (some ⟨w.heap.size, 0, none⟩))) (w.alloc (.cells #[.slice none 0 0] 22)) := by
  unfold execOp
  simp only [ho]
  kernel_rfl
theorem ex_alloc70 {o : Oper} (ho : o.op = .alloc 70) (ev : Operand → Value) (w : World) : (execOp ev o).run Tryd.prog w = .ok (.value (.pointer (some ⟨w.heap.size, 0, none⟩))) (w.alloc (.cells #[.slice none 0 0] 70)) := by
  unfold execOp
  simp only [ho]
  kernel_rfl
theorem ex_alloc34 {o : Oper} (ho : o.op = .alloc 34) (ev : Operand → Value) (w : World) : (execOp ev o).run Tryd.prog w = .ok (.value (.pointer (some ⟨w.heap.size, 0, none⟩))) (w.alloc (.cells #[.nilFunc] 34)) := by
  unfold execOp
  simp only [ho]
  kernel_rfl
theorem info70 : (Tryd.prog.info? 70).map (·.size) = some 1 := by kernel_rfl
theorem info34 : (Tryd.prog.info? 34).map (·.size) = some 1 := by kernel_rfl
section
variable {ops : Array Oper} {rest : List Oper} {dst : Option Tmp} {ty' : TypeId} {x y : Operand} {pos : String} {after : Array Edge} {a : Act} {w : World} {Q : Exit → Act → World → Prop}
theorem wl_mk22 {n : Nat} (hn : n ≤ 60) (hx : a.eval x = .int .i64 (n : Int)) (hy : a.eval y = .int .i64 (n : Int))
    (h : ∀ W p, Below w.heap.size w W → w.heap.size ≤ p → W.heap[p]? = some (.cells (madeCells (cell4 0 ⟨#[]⟩ 0 none 0 0) (n * 4)) 24 (0, 0)) → wpList Tryd.prog ops Q rest (a.put dst (.slice (some ⟨p, 0, none⟩) n n)) W) :
    wpList Tryd.prog ops Q (⟨dst, .makeSlice 22 x y, ty', pos, after, none⟩ :: rest) a w :=
  wl_w rfl (ex_mk22 x y rfl hn hx hy) (h _ _ ((Below.refl _ w).alloc (Nat.le_refl _) _) (Nat.le_refl _) (ha_new rfl))
theorem wl_mk70 {n : Nat} (hn : n ≤ 60) (hx : a.eval x = .int .i64 (n : Int)) (hy : a.eval y = .int .i64 (n : Int))
    (h : ∀ W p, Below w.heap.size w W → w.heap.size ≤ p → W.heap[p]? = some (.cells (madeCells #[.bool false] n) 4 (0, 0)) → wpList Tryd.prog ops Q rest (a.put dst (.slice (some ⟨p, 0, none⟩) n n)) W) :
    wpList Tryd.prog ops Q (⟨dst, .makeSlice 70 x y, ty', pos, after, none⟩ :: rest) a w :=
  wl_w rfl (ex_mk70 x y rfl hn hx hy) (h _ _ ((Below.refl _ w).alloc (Nat.le_refl _) _) (Nat.le_refl _) (ha_new rfl))
end
set_option maxHeartbeats 4000000 in
set_option maxRecDepth 100000 in
theorem Match_any (ns : List ByteArray) (An : Option Addr) (ln cn : Nat) (u t : Ty) (w : World) (D D' : Nat → Prop) (row row' : Array Value) (hns : TxAt w ns An ln cn) (hfew : ln ≤ 60) (h : TyAt w D u row) (h' : TyAt w D' t row') (hnd : t.nodes ≤ 1000000) :
    Calls Tryd.prog 29 #[.slice An ln cn, .agg row, .agg row'] w (MtPost ns u t w) := by
  have hmf : ∀ (fn : Fn) (first cap : Array Value) (w : World), (Instr.makeFunc fn first cap).run Tryd.prog w = .ok (.func fn first cap) w := fun _ _ _ _ => rfl
  obtain ⟨k, s, n, A, l, c, ts1, e, rfl, -⟩ := h.parts
  obtain ⟨k', s', n', A', l', c', ts', e', rfl, -⟩ := h'.parts
  have HL := Lib.hid hns.len
  have HN0 := Lib.hid hns
  have HU0 := Lib.hid h
  have HT0 := Lib.hid h'
  have hcm := hns.cap
  have hmx := hns.max
  unfold maxLen at hmx
  clear h h' e e' hns
  have hb := Below.refl w.heap.size w
  go_enter Tryd.func29, Tryd.ntmps29
  go_upto_region 0 with (fail)
  apply wp_region_lit
  (with_reducible refine wl_box25 rfl ?_); intro W0 m hbn hlm hm; replace hb := hb.trans (hbn.mono hb.size); clear hbn; simp only [put_lit, List.set_cons_zero, List.set_cons_succ]
  have lthmp := heap_lt hm; (with_reducible refine wl_box rfl ?_); intro W1 p hbn hlp hp; replace hm := below_look hbn hm; replace hb := hb.trans (hbn.mono hb.size); clear hbn; simp only [put_lit, List.set_cons_zero, List.set_cons_succ]
  have lthmq := heap_lt hm; have lthpq := heap_lt hp; (with_reducible refine wl_box rfl ?_); intro W2 q hbn hlq hq; replace hm := below_look hbn hm; replace hp := below_look hbn hp; replace hb := hb.trans (hbn.mono hb.size); clear hbn; simp only [put_lit, List.set_cons_zero, List.set_cons_succ]
  (with_reducible refine wl_k ?_ ?_); exact rfl; intro K hK; go_simp; refine hK _ ?_; clear hK K
  (with_reducible refine wl_k ?_ ?_); exact rfl; intro K hK; go_simp; refine hK _ ?_; clear hK K
  have HN := Lib.hid (HN0.out.old hb)
  have HU := Lib.hid (HU0.out.old hb)
  have HT := Lib.hid (HT0.out.old hb)
  clear HN0 HU0 HT0
  have hz := Below.refl W2.heap.size W2
  have hlm := heap_lt hm
  have hlp2 := heap_lt hp
  have hlq2 := heap_lt hq
  go_upto_region 1 with (fail)
  apply wp_region_lit
  ((with_reducible apply wl_oneG); exact rfl; exact rfl; exact g25 hm)
  (with_reducible refine wl_k ?_ ?_); exact rfl; intro K hK; go_simp; refine hK _ ?_; clear hK K
  refine wl_mk22 hfew rfl rfl ?_
  intro W3 g1 hbn hlg1 h1
  replace hm := below_look hbn hm; replace hp := below_look hbn hp; replace hq := below_look hbn hq; replace hb := hb.trans (hbn.mono hb.size); replace hz := hz.trans (hbn.mono hz.size); clear hbn
  simp only [put_lit, List.set_cons_zero, List.set_cons_succ]
  refine wl_new (z := #[.slice none 0 0]) (fun ev w => ex_alloc22 rfl ev w) ?_
  intro W4 o hbn hlo ho
  have hlg1' := heap_lt h1
  replace hm := below_look hbn hm; replace hp := below_look hbn hp; replace hq := below_look hbn hq; replace h1 := below_look hbn h1; replace hb := hb.trans (hbn.mono hb.size); replace hz := hz.trans (hbn.mono hz.size); clear hbn
  simp only [put_lit, List.set_cons_zero, List.set_cons_succ]
  (with_reducible refine wl_put1 (v := .slice (some ⟨g1, 0, none⟩) ln ln) info22 ?_ ?_ ?_ ho ?_); exact rfl; exact rfl; exact rfl; rw [put_noneA]; intro W5 hbx hsz hkx hnx; replace hm := (hkx _ (by omega)).trans hm; replace hp := (hkx _ (by omega)).trans hp; replace hq := (hkx _ (by omega)).trans hq; replace h1 := (hkx _ (by omega)).trans h1; replace hb := hbx _ _ (by omega) hb; replace hz := hbx _ _ (by omega) hz; clear ho; have ho := hnx; clear hnx
  clear hbx hkx
  go_upto_region 2 with (fail)
  apply wp_region_lit
  ((with_reducible apply wl_oneG); exact rfl; exact rfl; exact g25 hm)
  (with_reducible refine wl_k ?_ ?_); exact rfl; intro K hK; go_simp; refine hK _ ?_; clear hK K
  refine wl_mk70 hfew rfl rfl ?_
  intro W6 g2 hbn hlg2 h2
  have hlo' := heap_lt ho
  replace hm := below_look hbn hm; replace hp := below_look hbn hp; replace hq := below_look hbn hq; replace h1 := below_look hbn h1; replace ho := below_look hbn ho; replace hb := hb.trans (hbn.mono hb.size); replace hz := hz.trans (hbn.mono hz.size); clear hbn
  simp only [put_lit, List.set_cons_zero, List.set_cons_succ]
  refine wl_new (z := #[.slice none 0 0]) (fun ev w => ex_alloc70 rfl ev w) ?_
  intro W7 r hbn hlr hr
  have hlg2' := heap_lt h2
  replace hm := below_look hbn hm; replace hp := below_look hbn hp; replace hq := below_look hbn hq; replace h1 := below_look hbn h1; replace ho := below_look hbn ho; replace h2 := below_look hbn h2; replace hb := hb.trans (hbn.mono hb.size); replace hz := hz.trans (hbn.mono hz.size); clear hbn
  simp only [put_lit, List.set_cons_zero, List.set_cons_succ]
  (with_reducible refine wl_put1 (v := .slice (some ⟨g2, 0, none⟩) ln ln) info70 ?_ ?_ ?_ hr ?_); exact rfl; exact rfl; exact rfl; rw [put_noneA]; intro W8 hbx hsz hkx hnx; replace hm := (hkx _ (by omega)).trans hm; replace hp := (hkx _ (by omega)).trans hp; replace hq := (hkx _ (by omega)).trans hq; replace h1 := (hkx _ (by omega)).trans h1; replace ho := (hkx _ (by omega)).trans ho; replace h2 := (hkx _ (by omega)).trans h2; replace hb := hbx _ _ (by omega) hb; replace hz := hbx _ _ (by omega) hz; clear hr; have hr := hnx; clear hnx
  clear hbx hkx
  go_upto_region 3 with (fail)
  apply wp_region_lit
  refine wl_new (z := #[.nilFunc]) (fun ev w => ex_alloc34 rfl ev w) ?_
  intro W9 f hbn hlf hf
  have hlr' := heap_lt hr
  replace hm := below_look hbn hm; replace hp := below_look hbn hp; replace hq := below_look hbn hq; replace h1 := below_look hbn h1; replace ho := below_look hbn ho; replace h2 := below_look hbn h2; replace hr := below_look hbn hr; replace hb := hb.trans (hbn.mono hb.size); replace hz := hz.trans (hbn.mono hz.size); clear hbn
  simp only [put_lit, List.set_cons_zero, List.set_cons_succ]
  go_upto_region 4 with (fail)
  apply wp_region_lit
  (with_reducible refine wl_k ?_ ?_); exact rfl; intro K hK; go_simp; refine hK _ ?_; clear hK K
  (with_reducible refine wl_put1 (v := .func (.func 57) #[] #[.pointer (some ⟨m, 0, none⟩), .pointer (some ⟨r, 0, none⟩), .pointer (some ⟨o, 0, none⟩), .pointer (some ⟨f, 0, none⟩)]) info34 ?_ ?_ ?_ hf ?_); exact rfl; exact rfl; exact rfl; rw [put_noneA]; intro W10 hbx hsz hkx hnx; replace hm := (hkx _ (by omega)).trans hm; replace hp := (hkx _ (by omega)).trans hp; replace hq := (hkx _ (by omega)).trans hq; replace h1 := (hkx _ (by omega)).trans h1; replace ho := (hkx _ (by omega)).trans ho; replace h2 := (hkx _ (by omega)).trans h2; replace hr := (hkx _ (by omega)).trans hr; replace hb := hbx _ _ (by omega) hb; replace hz := hbx _ _ (by omega) hz; clear hf; have hf := hnx; clear hnx
  clear hbx hkx
  have HCAP := Lib.hid (⟨hm, hr, ho, hf, by omega, by omega, by omega, by omega⟩ : MCap W10 m r o f An ln cn g1 g2)
  have HM0 := Lib.hid (MSt.made (by omega) h1 h2)
  have HB0 := Lib.hid (⟨HN.out, hfew, by omega, by omega⟩ : MBase ns W2 An ln cn g1 g2)
  have HC := Lib.hid (matchF_any ns W2 An ln cn g1 g2 m r o f HB0.out u t D D' _ _ HU.out HT.out hnd W10 hz HCAP.out _ HM0.out (by simp))
  rw [show List.replicate ln (none : Option Ty) = List.replicate ns.length none by rw [HL.out]] at HC
  obtain ⟨mm, hmm⟩ : ∃ mm, mm = matchTy ns u t (List.replicate ns.length none) := ⟨_, rfl⟩
  have HMM := Lib.hid hmm
  unfold MPost at HC
  rw [← hmm] at HC
  have hb1 : w.heap.size ≤ g1 ∧ w.heap.size ≤ g2 := by have := hb.size; omega
  have hog : o < W10.heap.size ∧ o ≠ g1 ∧ o ≠ g2 := ⟨heap_lt ho, by omega, by omega⟩
  clear hmm h1 h2 HM0 HB0 HN HU HT HCAP
  go_upto_region 5 with (fail)
  apply wp_region_lit
  ((with_reducible apply wl_oneG); exact rfl; exact rfl; exact g34 hf)
  (first | ((with_reducible apply wl_oneG); exact rfl; exact rfl; first | exact f0 (by with_reducible assumption) | exact f1 (by with_reducible assumption) | exact f2 (by with_reducible assumption) | exact f3 (by with_reducible assumption) | with_reducible assumption | exact g22 (by with_reducible assumption) | exact g25 (by with_reducible assumption)) | ((with_reducible apply wl_rowG); exact rfl; exact rfl; first | with_reducible assumption | exact RowK.now (by with_reducible assumption) | exact f4 (by with_reducible assumption)))
  (first | ((with_reducible apply wl_oneG); exact rfl; exact rfl; first | exact f0 (by with_reducible assumption) | exact f1 (by with_reducible assumption) | exact f2 (by with_reducible assumption) | exact f3 (by with_reducible assumption) | with_reducible assumption | exact g22 (by with_reducible assumption) | exact g25 (by with_reducible assumption)) | ((with_reducible apply wl_rowG); exact rfl; exact rfl; first | with_reducible assumption | exact RowK.now (by with_reducible assumption) | exact f4 (by with_reducible assumption)))
  (with_reducible refine wl_ck ?_ ?_); exact rfl; intro K hK; go_simp; refine ⟨_, _, ⟨rfl, rfl⟩, hK _ _ ⟨_, HC.out, ?_⟩⟩; clear hK K; rintro e w8 ⟨rfl, hfr8, hst8⟩; refine ⟨_, rfl, ?_⟩; simp only [put_lit, List.set_cons_zero, List.set_cons_succ]
  (with_reducible refine wl_k ?_ ?_); exact rfl; intro K hK; go_simp; refine hK _ ?_; clear hK K
  have HS8 := Lib.hid hst8
  have ho8 := (hfr8.keep o hog.1 hog.2.1 hog.2.2).trans ho
  replace hb := hfr8.bel _ _ hb1.1 hb1.2 hb.size hb
  clear hfr8 hst8 HC hm hp hq ho hr hf
  cases mm with
  | none =>
    clear ho8
    go_wp2_with fail
    go_ret2
    exact ⟨hb, .inl ⟨HMM.out.symm, rfl⟩⟩
  | some s9 =>
    have HS9 := Lib.hid (HS8.out s9 rfl)
    clear HS8
    go_upto_region 7 with (fail)
    apply wp_region_lit
    ((with_reducible apply wl_oneG); exact rfl; exact rfl; exact g22 ho8)
    (with_reducible refine wl_k ?_ ?_); exact rfl; intro K hK; go_simp; refine hK _ ?_; clear hK K
    (with_reducible refine wl_k ?_ ?_); exact rfl; intro K hK; go_simp; refine hK _ ?_; clear hK K
    clear ho8
    go_wp2_with fail
    go_ret2
    have hl9 : s9.length = ns.length := by rw [HS9.out.2]; simp
    refine ⟨hb, .inr ⟨s9, g1, HMM.out.symm, by rw [HL.out]; rfl, ?_⟩⟩
    have := HS9.out.1.at (by rw [hl9, HL.out]; unfold maxLen; omega)
    rwa [hl9] at this
end Go.Proofs.YtokmaehefenpmaaDoor
