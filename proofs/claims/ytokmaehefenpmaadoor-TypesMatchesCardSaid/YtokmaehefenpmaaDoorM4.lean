/- The document's Match. -/
import Derived.Test.YtokmaehefenpmaaDoorM3
namespace Go.Proofs.YtokmaehefenpmaaDoor
open Go.RowKit Go.Proofs.YtokmaehefenpmaaDoor.Nm
set_option linter.unusedSimpArgs false
section
variable {md : Region.Mode} {ops : Array Oper} {Q : Exit → Act → World → Prop} {S : World → Prop} {fuel : Nat} {listed : Array Bool} {a : Act} {w : World} {i : Nat} {oi : Oper}
theorem ex_mk22 {ev : Operand → Value} {o : Oper} {w : World} (x y : Operand) (ho : o.op = .makeSlice 22 x y) {n : Nat} (hn : n ≤ 60) (hx : ev x = .int .i64 (n : Int)) (hy : ev y = .int .i64 (n : Int)) :
    (execOp ev o).run Tryd.prog w = .ok (.value (.slice (some ⟨w.heap.size, 0, none⟩) n n)) (w.alloc (.cells (madeCells (cell4 0 ⟨#[]⟩ 0 none 0 0) (n * 4)) 24)) := by
  unfold execOp
  have := run_make22 w n hn
  simp [ho, hx, hy, this, Result.andThen]
theorem ex_mk70 {ev : Operand → Value} {o : Oper} {w : World} (x y : Operand) (ho : o.op = .makeSlice 70 x y) {n : Nat} (hn : n ≤ 60) (hx : ev x = .int .i64 (n : Int)) (hy : ev y = .int .i64 (n : Int)) :
    (execOp ev o).run Tryd.prog w = .ok (.value (.slice (some ⟨w.heap.size, 0, none⟩) n n)) (w.alloc (.cells (madeCells #[.bool false] n) 4)) := by
  unfold execOp
  have := run_make70 w n hn
  simp [ho, hx, hy, this, Result.andThen]
theorem sh_new {cs : Array Value} {ty : TypeId} {n : Nat} (ho : ops[i]? = some oi) (hg : Region.wanted oi (yielded ops a.tmps) = true) (hx : (execOp a.eval oi).run Tryd.prog w = .ok (.value (.slice (some ⟨w.heap.size, 0, none⟩) n n)) (w.alloc (.cells cs ty))) (hS : ∀ W, Below w.heap.size w W → S W)
    (h : ∀ W p, Below w.heap.size w W → w.heap.size ≤ p → W.heap[p]? = some (.cells cs ty (0, 0)) → S W → wpAnyH Tryd.prog md ops Q S fuel (listed.setIfInBounds i true) (a.put oi.dst (.slice (some ⟨p, 0, none⟩) n n)) W) : StepH Tryd.prog md ops Q S fuel listed a w i :=
  have hb := (Below.refl _ w).alloc (Nat.le_refl _) (.cells cs ty)
  sh_do ho hg hx (hS _ hb) (h _ _ hb (Nat.le_refl _) (ha_new rfl) (hS _ hb))
theorem ha_newS {cs : Array Value} {ty : TypeId} {n : Nat} (hr : Region.ready md ops listed = [i]) (ho : ops[i]? = some oi) (hg : Region.wanted oi (yielded ops a.tmps) = true) (hx : (execOp a.eval oi).run Tryd.prog w = .ok (.value (.slice (some ⟨w.heap.size, 0, none⟩) n n)) (w.alloc (.cells cs ty))) (hS : ∀ W, Below w.heap.size w W → S W)
    (h : ∀ W p, Below w.heap.size w W → w.heap.size ≤ p → W.heap[p]? = some (.cells cs ty (0, 0)) → S W → wpAnyH Tryd.prog md ops Q S fuel (listed.setIfInBounds i true) (a.put oi.dst (.slice (some ⟨p, 0, none⟩) n n)) W) : wpAnyH Tryd.prog md ops Q S (fuel + 1) listed a w :=
  have hb := (Below.refl _ w).alloc (Nat.le_refl _) (.cells cs ty)
  ha_do hr ho hg hx (hS _ hb) (h _ _ hb (Nat.le_refl _) (ha_new rfl) (hS _ hb))
end
/-- What Match hands back. -/
def MtPost (ns : List ByteArray) (p t : Ty) (w : World) (e : Ending) (w' : World) : Prop :=
  Below w.heap.size w w' ∧ ((matchTy ns p t (List.replicate ns.length none) = none ∧ e = .returned (.tuple #[.slice none 0 0, .bool false])) ∨
    ∃ st g, matchTy ns p t (List.replicate ns.length none) = some st ∧ e = .returned (.tuple #[.slice (some ⟨g, 0, none⟩) ns.length ns.length, .bool true]) ∧ TysAt w' Any (tysOf st) (some ⟨g, 0, none⟩) ns.length ns.length)
set_option maxHeartbeats 4000000 in
set_option maxRecDepth 100000 in
theorem MatchI_any (ns : List ByteArray) (An : Option Addr) (ln cn : Nat) (u t : Ty) (w : World) (D D' : Nat → Prop) (row row' : Array Value) (hn : TxAt w ns An ln cn) (hfew : ln ≤ 60) (h : TyAt w D u row) (h' : TyAt w D' t row') (hnd : t.nodes ≤ 1000000) :
    Calls Tryd.prog 30 #[.slice An ln cn, .agg row, .agg row'] w (MtPost ns u t w) := by
  obtain ⟨k, s, n, A, l, c, ts1, e, rfl, -⟩ := h.parts
  obtain ⟨k', s', n', A', l', c', ts', e', rfl, -⟩ := h'.parts
  have HL := Lib.hid hn.len
  have HN0 := Lib.hid hn
  have HU0 := Lib.hid h
  have HT0 := Lib.hid h'
  have hcm := hn.cap
  have hmx := hn.max
  unfold maxLen at hmx
  clear h h' e e' hn
  have hb := Below.refl w.heap.size w
  go_enter Tryd.func30, Tryd.ntmps30
  go_upto_region 0 with (fail)
  apply wp_region_lit
  (with_reducible refine wl_box rfl ?_); intro W p hbn hlp hp; replace hb := hb.trans (hbn.mono hb.size); clear hbn; simp only [put_lit, List.set_cons_zero, List.set_cons_succ]
  have lthpq := heap_lt hp; (with_reducible refine wl_box rfl ?_); intro W2 q hbn hlq hq; replace hp := below_look hbn hp; replace hb := hb.trans (hbn.mono hb.size); clear hbn; simp only [put_lit, List.set_cons_zero, List.set_cons_succ]
  (with_reducible refine wl_k ?_ ?_); exact rfl; intro K hK; go_simp; refine hK _ ?_; clear hK K
  (with_reducible refine wl_k ?_ ?_); exact rfl; intro K hK; go_simp; refine hK _ ?_; clear hK K
  have HN := Lib.hid (HN0.out.old hb)
  have HU := Lib.hid (HU0.out.old hb)
  have HT := Lib.hid (HT0.out.old hb)
  clear HN0 HU0 HT0
  go_upto_region 1 with (fail)
  refine wp_region_held_drew (S := Below W2.heap.size W2) mixed (Below.refl _ W2).drew (fun hS => ?_)
  refine ha_k (i := 0) rfl (by kernel_rfl) (by kernel_rfl) (by kernel_rfl) (fun _ _ _ _ h => h) hS rfl (fun K hK => ?_); go_simp; refine hK _ ?_; clear hK K; try simp only [put_lit, List.set_cons_zero, List.set_cons_succ]
  refine ha_k (i := 1) rfl (by kernel_rfl) (by kernel_rfl) (by kernel_rfl) (fun _ _ _ _ h => h) hS rfl (fun K hK => ?_); go_simp; refine hK _ ?_; clear hK K; try simp only [put_lit, List.set_cons_zero, List.set_cons_succ]
  refine ha_k (i := 3) rfl (by kernel_rfl) (by kernel_rfl) (by kernel_rfl) (fun _ _ _ _ h => h) hS rfl (fun K hK => ?_); go_simp; refine hK _ ?_; clear hK K; try simp only [put_lit, List.set_cons_zero, List.set_cons_succ]
  refine ha_k (i := 4) rfl (by kernel_rfl) (by kernel_rfl) (by kernel_rfl) (fun _ _ _ _ h => h) hS rfl (fun K hK => ?_); go_simp; refine hK _ ?_; clear hK K; try simp only [put_lit, List.set_cons_zero, List.set_cons_succ]
  have hsd : W2.drew.heap.size = W2.heap.size := rfl
  refine ha_two (i := 2) (j := 5) (by kernel_rfl) ?_ ?_
  · refine sh_new (i := 2) rfl rfl (ex_mk22 _ _ rfl hfew rfl rfl) (fun W hW => hS.trans (hW.mono hS.size)) ?_
    intro X1 g1 hx1 hl1 h1 hS1
    have hlt1 := heap_lt h1
    clear hS
    try simp only [put_lit, List.set_cons_zero, List.set_cons_succ]
    have hS := hS1
    refine ha_k (i := 6) rfl (by kernel_rfl) (by kernel_rfl) (by kernel_rfl) (fun _ _ _ _ h => h) hS rfl (fun K hK => ?_); go_simp; refine hK _ ?_; clear hK K; try simp only [put_lit, List.set_cons_zero, List.set_cons_succ]
    clear hS
    refine ha_newS (i := 5) (by kernel_rfl) rfl rfl (ex_mk70 _ _ rfl hfew rfl rfl) (fun W hW => hS1.trans (hW.mono hS1.size)) ?_
    intro X g2 hx2 hl2 h2 hS
    replace h1 := below_look hx2 h1
    clear hS1 hx1 hx2
    try simp only [put_lit, List.set_cons_zero, List.set_cons_succ]
    refine ha_k (i := 7) rfl (by kernel_rfl) (by kernel_rfl) (by kernel_rfl) (fun _ _ _ _ h => h) hS rfl (fun K hK => ?_); go_simp; refine hK _ ?_; clear hK K; try simp only [put_lit, List.set_cons_zero, List.set_cons_succ]
    have HM0 := Lib.hid (MSt.made (by omega) h1 h2)
    have HB0 := Lib.hid (⟨HN.out, hfew, by omega, by omega⟩ : MBase ns W2 An ln cn g1 g2)
    have HC := Lib.hid (matchR_any ns W2 An ln cn g1 g2 HB0.out u t D D' _ _ HU.out HT.out hnd X hS _ HM0.out (by simp))
    rw [show List.replicate ln (none : Option Ty) = List.replicate ns.length none by rw [HL.out]] at HC
    obtain ⟨mm, hmm⟩ : ∃ mm, mm = matchTy ns u t (List.replicate ns.length none) := ⟨_, rfl⟩
    have HMM := Lib.hid hmm
    unfold MPost at HC
    rw [← hmm] at HC
    have hb1 : w.heap.size ≤ g1 ∧ w.heap.size ≤ g2 := by have := hb.size; omega
    replace hp := below_look hS hp
    replace hq := below_look hS hq
    replace hb := hb.trans (hS.mono hb.size)
    clear hmm h1 h2 hS HM0 HB0 HN HU HT
    refine wpAnyH_done (by kernel_rfl) ?_ _
    go_upto_region 2 with (fail)
    apply wp_region_lit
    (with_reducible refine wl_k ?_ ?_); exact rfl; intro K hK; go_simp; refine hK _ ?_; clear hK K
    (first | ((with_reducible apply wl_oneG); exact rfl; exact rfl; first | exact f0 (by with_reducible assumption) | exact f1 (by with_reducible assumption) | exact f2 (by with_reducible assumption) | exact f3 (by with_reducible assumption) | with_reducible assumption | exact g22 (by with_reducible assumption) | exact g25 (by with_reducible assumption)) | ((with_reducible apply wl_rowG); exact rfl; exact rfl; first | with_reducible assumption | exact RowK.now (by with_reducible assumption) | exact f4 (by with_reducible assumption)))
    (first | ((with_reducible apply wl_oneG); exact rfl; exact rfl; first | exact f0 (by with_reducible assumption) | exact f1 (by with_reducible assumption) | exact f2 (by with_reducible assumption) | exact f3 (by with_reducible assumption) | with_reducible assumption | exact g22 (by with_reducible assumption) | exact g25 (by with_reducible assumption)) | ((with_reducible apply wl_rowG); exact rfl; exact rfl; first | with_reducible assumption | exact RowK.now (by with_reducible assumption) | exact f4 (by with_reducible assumption)))
    (with_reducible refine wl_k ?_ ?_); exact rfl; intro K hK; go_simp; refine hK _ ?_; clear hK K
    (with_reducible refine wl_k ?_ ?_); exact rfl; intro K hK; go_simp; refine hK _ ?_; clear hK K
    (with_reducible refine wl_ck ?_ ?_); exact rfl; intro K hK; go_simp; refine ⟨_, _, ⟨rfl, rfl⟩, hK _ _ ⟨_, HC.out, ?_⟩⟩; clear hK K; rintro e w8 ⟨rfl, hfr8, hst8⟩; refine ⟨_, rfl, ?_⟩; simp only [put_lit, List.set_cons_zero, List.set_cons_succ]
    (with_reducible refine wl_k ?_ ?_); exact rfl; intro K hK; go_simp; refine hK _ ?_; clear hK K
    have HS8 := Lib.hid hst8
    replace hb := hfr8.bel _ _ hb1.1 hb1.2 hb.size hb
    clear hfr8 hst8 HC hp hq
    cases mm with
    | none =>
      go_wp2_with fail
      go_ret2
      exact ⟨hb, .inl ⟨HMM.out.symm, rfl⟩⟩
    | some s9 =>
      have HS9 := Lib.hid (HS8.out s9 rfl)
      clear HS8
      go_wp2_with fail
      go_ret2
      have hl9 : s9.length = ns.length := by rw [HS9.out.2]; simp
      refine ⟨hb, .inr ⟨s9, g1, HMM.out.symm, by rw [HL.out]; rfl, ?_⟩⟩
      have := HS9.out.1.at (by rw [hl9, HL.out]; unfold maxLen; omega)
      rwa [hl9] at this
  · refine sh_new (i := 5) rfl rfl (ex_mk70 _ _ rfl hfew rfl rfl) (fun W hW => hS.trans (hW.mono hS.size)) ?_
    intro X1 g2 hx1 hl1 h2 hS1
    have hlt1 := heap_lt h2
    clear hS
    try simp only [put_lit, List.set_cons_zero, List.set_cons_succ]
    refine ha_newS (i := 2) (by kernel_rfl) rfl rfl (ex_mk22 _ _ rfl hfew rfl rfl) (fun W hW => hS1.trans (hW.mono hS1.size)) ?_
    intro X g1 hx2 hl2 h1 hS
    replace h2 := below_look hx2 h2
    clear hS1 hx1 hx2
    try simp only [put_lit, List.set_cons_zero, List.set_cons_succ]
    refine ha_k (i := 6) rfl (by kernel_rfl) (by kernel_rfl) (by kernel_rfl) (fun _ _ _ _ h => h) hS rfl (fun K hK => ?_); go_simp; refine hK _ ?_; clear hK K; try simp only [put_lit, List.set_cons_zero, List.set_cons_succ]
    refine ha_k (i := 7) rfl (by kernel_rfl) (by kernel_rfl) (by kernel_rfl) (fun _ _ _ _ h => h) hS rfl (fun K hK => ?_); go_simp; refine hK _ ?_; clear hK K; try simp only [put_lit, List.set_cons_zero, List.set_cons_succ]
    have HM0 := Lib.hid (MSt.made (by omega) h1 h2)
    have HB0 := Lib.hid (⟨HN.out, hfew, by omega, by omega⟩ : MBase ns W2 An ln cn g1 g2)
    have HC := Lib.hid (matchR_any ns W2 An ln cn g1 g2 HB0.out u t D D' _ _ HU.out HT.out hnd X hS _ HM0.out (by simp))
    rw [show List.replicate ln (none : Option Ty) = List.replicate ns.length none by rw [HL.out]] at HC
    obtain ⟨mm, hmm⟩ : ∃ mm, mm = matchTy ns u t (List.replicate ns.length none) := ⟨_, rfl⟩
    have HMM := Lib.hid hmm
    unfold MPost at HC
    rw [← hmm] at HC
    have hb1 : w.heap.size ≤ g1 ∧ w.heap.size ≤ g2 := by have := hb.size; omega
    replace hp := below_look hS hp
    replace hq := below_look hS hq
    replace hb := hb.trans (hS.mono hb.size)
    clear hmm h1 h2 hS HM0 HB0 HN HU HT
    refine wpAnyH_done (by kernel_rfl) ?_ _
    go_upto_region 2 with (fail)
    apply wp_region_lit
    (with_reducible refine wl_k ?_ ?_); exact rfl; intro K hK; go_simp; refine hK _ ?_; clear hK K
    (first | ((with_reducible apply wl_oneG); exact rfl; exact rfl; first | exact f0 (by with_reducible assumption) | exact f1 (by with_reducible assumption) | exact f2 (by with_reducible assumption) | exact f3 (by with_reducible assumption) | with_reducible assumption | exact g22 (by with_reducible assumption) | exact g25 (by with_reducible assumption)) | ((with_reducible apply wl_rowG); exact rfl; exact rfl; first | with_reducible assumption | exact RowK.now (by with_reducible assumption) | exact f4 (by with_reducible assumption)))
    (first | ((with_reducible apply wl_oneG); exact rfl; exact rfl; first | exact f0 (by with_reducible assumption) | exact f1 (by with_reducible assumption) | exact f2 (by with_reducible assumption) | exact f3 (by with_reducible assumption) | with_reducible assumption | exact g22 (by with_reducible assumption) | exact g25 (by with_reducible assumption)) | ((with_reducible apply wl_rowG); exact rfl; exact rfl; first | with_reducible assumption | exact RowK.now (by with_reducible assumption) | exact f4 (by with_reducible assumption)))
    (with_reducible refine wl_k ?_ ?_); exact rfl; intro K hK; go_simp; refine hK _ ?_; clear hK K
    (with_reducible refine wl_k ?_ ?_); exact rfl; intro K hK; go_simp; refine hK _ ?_; clear hK K
    (with_reducible refine wl_ck ?_ ?_); exact rfl; intro K hK; go_simp; refine ⟨_, _, ⟨rfl, rfl⟩, hK _ _ ⟨_, HC.out, ?_⟩⟩; clear hK K; rintro e w8 ⟨rfl, hfr8, hst8⟩; refine ⟨_, rfl, ?_⟩; simp only [put_lit, List.set_cons_zero, List.set_cons_succ]
    (with_reducible refine wl_k ?_ ?_); exact rfl; intro K hK; go_simp; refine hK _ ?_; clear hK K
    have HS8 := Lib.hid hst8
    replace hb := hfr8.bel _ _ hb1.1 hb1.2 hb.size hb
    clear hfr8 hst8 HC hp hq
    cases mm with
    | none =>
      go_wp2_with fail
      go_ret2
      exact ⟨hb, .inl ⟨HMM.out.symm, rfl⟩⟩
    | some s9 =>
      have HS9 := Lib.hid (HS8.out s9 rfl)
      clear HS8
      go_wp2_with fail
      go_ret2
      have hl9 : s9.length = ns.length := by rw [HS9.out.2]; simp
      refine ⟨hb, .inr ⟨s9, g1, HMM.out.symm, by rw [HL.out]; rfl, ?_⟩⟩
      have := HS9.out.1.at (by rw [hl9, HL.out]; unfold maxLen; omega)
      rwa [hl9] at this
end Go.Proofs.YtokmaehefenpmaaDoor
