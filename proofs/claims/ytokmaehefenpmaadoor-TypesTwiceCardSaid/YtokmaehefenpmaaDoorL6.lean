/- The law TypesTwice: whatever the input it returns true. -/
import Derived.Test.YtokmaehefenpmaaDoorN4
import Derived.Test.YtokmaehefenpmaaDoorV10
namespace Go.Proofs.YtokmaehefenpmaaDoor
open Go.RowKit Go.Proofs.YtokmaehefenpmaaDoor.Nm
set_option linter.unusedSimpArgs false
theorem eqTy_me (t : Ty) : eqTy t t = true := by simp [eqTy]
section
variable {md : Region.Mode} {ops : Array Oper} {Q : Exit → Act → World → Prop} {S : World → Prop} {fuel : Nat} {listed : Array Bool} {a : Act} {w : World} {i : Nat} {oi : Oper}
theorem ha_all (hr : Region.ready md ops listed = [i]) (ho : ops[i]? = some oi) (hg : Region.wanted oi (yielded ops a.tmps) = true) (hop : oi.op = .alloc 24) (hS : ∀ W, Below w.heap.size w W → S W)
    (h : ∀ W p, Below w.heap.size w W → w.heap.size ≤ p → W.heap[p]? = some (.cells (cell4 0 ⟨#[]⟩ 0 none 0 0) 24 (0, 0)) → S W → wpAnyH Tryd.prog md ops Q S fuel (listed.setIfInBounds i true) (a.put oi.dst (.pointer (some ⟨p, 0, none⟩))) W) : wpAnyH Tryd.prog md ops Q S (fuel + 1) listed a w :=
  have hb := (Below.refl _ w).alloc (Nat.le_refl _) (.cells (cell4 0 ⟨#[]⟩ 0 none 0 0) 24)
  ha_do hr ho hg (ex_alloc24 hop _ w) (hS _ hb) (h _ _ hb (Nat.le_refl _) (ha_new rfl) (hS _ hb))
theorem sh_all (ho : ops[i]? = some oi) (hg : Region.wanted oi (yielded ops a.tmps) = true) (hop : oi.op = .alloc 24) (hS : ∀ W, Below w.heap.size w W → S W)
    (h : ∀ W p, Below w.heap.size w W → w.heap.size ≤ p → W.heap[p]? = some (.cells (cell4 0 ⟨#[]⟩ 0 none 0 0) 24 (0, 0)) → S W → wpAnyH Tryd.prog md ops Q S fuel (listed.setIfInBounds i true) (a.put oi.dst (.pointer (some ⟨p, 0, none⟩))) W) : StepH Tryd.prog md ops Q S fuel listed a w i :=
  have hb := (Below.refl _ w).alloc (Nat.le_refl _) (.cells (cell4 0 ⟨#[]⟩ 0 none 0 0) 24)
  sh_do ho hg (ex_alloc24 hop _ w) (hS _ hb) (h _ _ hb (Nat.le_refl _) (ha_new rfl) (hS _ hb))
end
theorem at_one {w : World} {D : Nat → Prop} {t : Ty} {k : Int} {s : ByteArray} {n : Int} {A : Option Addr} {l c : Nat} (h : TyAt w D t (cell4 k s n A l c)) {p : Nat} {tq : TypeId} {fr : Nat × Nat} (hp : w.heap[p]? = some (.cells (cell4 k s n A l c) tq fr)) : TysAt w Any [t] (some ⟨p, 0, none⟩) 1 1 :=
  ⟨rfl, Nat.le_refl _, by unfold maxLen; omega, fun _ => cell4 k s n A l c, fun i u hu => by
    cases i with
    | zero => exact ⟨p, 0, _, tq, fr, rfl, trivial, hp, by rfl⟩
    | succ i => simp at hu, fun i u hu => by
    cases i with
    | zero => simp at hu; subst hu; exact h.weak fun _ _ => trivial
    | succ i => simp at hu⟩
set_option maxHeartbeats 8000000 in
set_option maxRecDepth 100000 in
theorem TypesTwice_any (t : Ty) (xn yn : List ByteArray) (xt yt : List Ty) (w : World) (D Dx Dy : Nat → Prop) (row : Array Value) (h : TyAt w D t row) (A1 A2 A3 A4 : Option Addr) (l1 c1 l2 c2 l3 c3 l4 c4 : Nat)
    (hxn : TxAt w xn A1 l1 c1) (hxs : ∀ s, s ∈ xn → s.size ≤ maxLen) (hxt : TysAt w Dx xt A2 l2 c2) (hyn : TxAt w yn A3 l3 c3) (hys : ∀ s, s ∈ yn → s.size ≤ maxLen) (hyt : TysAt w Dy yt A4 l4 c4) :
    Calls Tryd.prog 3 #[.agg row, .agg (cell2 A1 l1 c1 A2 l2 c2), .agg (cell2 A3 l3 c3 A4 l4 c4)] w fun e w' => e = .returned (.bool true) ∧ Below w.heap.size w w' := by
  obtain ⟨k, s, n, A, l, c, ts1, he, rfl, -⟩ := h.parts
  have HT := Lib.hid h
  have HX := Lib.hid hxt
  have HY := Lib.hid hyt
  have HXN := Lib.hid hxn
  have HYN := Lib.hid hyn
  have HXS := Lib.hid hxs
  have HYS := Lib.hid hys
  have hcm2 := hxt.cap
  have hmx2 := hxt.max
  have HL2 := Lib.hid hxt.len
  unfold maxLen at hmx2
  clear h hxt hyt hxn hyn hxs hys he
  have hb := Below.refl w.heap.size w
  go_enter Tryd.func3, Tryd.ntmps3
  go_upto_region 0 with (fail)
  apply wp_region_lit
  (with_reducible refine wl_box rfl ?_); intro W p hbn hlp hp; replace hb := hb.trans (hbn.mono hb.size); clear hbn; simp only [put_lit, List.set_cons_zero, List.set_cons_succ]
  have lthpq := heap_lt hp; (with_reducible refine wl_box27 rfl ?_); intro W2 q hbn hlq hq; replace hp := below_look hbn hp; replace hb := hb.trans (hbn.mono hb.size); clear hbn; simp only [put_lit, List.set_cons_zero, List.set_cons_succ]
  have lthpo := heap_lt hp; have lthqo := heap_lt hq; (with_reducible refine wl_box27 rfl ?_); intro W3 o hbn hlo ho; replace hp := below_look hbn hp; replace hq := below_look hbn hq; replace hb := hb.trans (hbn.mono hb.size); clear hbn; simp only [put_lit, List.set_cons_zero, List.set_cons_succ]
  (with_reducible refine wl_k ?_ ?_); exact rfl; intro K hK; go_simp; refine hK _ ?_; clear hK K
  go_upto_region 1 with (fail)
  apply wp_region_lit
  (first | ((with_reducible apply wl_oneG); exact rfl; exact rfl; first | exact s0 (by with_reducible assumption) | exact s1 (by with_reducible assumption)) | ((with_reducible apply wl_rowG); exact rfl; exact rfl; exact f4 (by with_reducible assumption)))
  have lthpq1 := heap_lt hp; have lthqq1 := heap_lt hq; have lthoq1 := heap_lt ho; (with_reducible refine wl_bs rfl ?_); intro W4 q1 hbn hlq1 hq1; replace hp := below_look hbn hp; replace hq := below_look hbn hq; replace ho := below_look hbn ho; replace hb := hb.trans (hbn.mono hb.size); clear hbn; simp only [put_lit, List.set_cons_zero, List.set_cons_succ]
  have HC := Lib.hid (small_any [t] _ 1 1 W4 Any (at_one (HT.out.old hb) hq1))
  (with_reducible refine wl_ck ?_ ?_); exact rfl; intro K hK; go_simp; refine ⟨_, _, ⟨rfl, rfl⟩, hK _ _ ⟨_, HC.out, ?_⟩⟩; clear hK K; rintro e w22 ⟨⟨b, rfl, hb1⟩, hb2⟩; refine ⟨_, rfl, ?_⟩; simp only [put_lit, List.set_cons_zero, List.set_cons_succ]
  have HB2 := Lib.hid hb1
  replace hp := below_look hb2 hp; replace hq := below_look hb2 hq; replace ho := below_look hb2 ho; replace hb := hb.trans (hb2.mono hb.size); clear hb2
  clear HC hb1 hq1
  cases b with
  | false =>
    (with_reducible refine wl_k ?_ ?_); exact rfl; intro K hK; go_simp; refine hK _ ?_; clear hK K
    (with_reducible refine wl_k ?_ ?_); exact rfl; intro K hK; go_simp; refine hK _ ?_; clear hK K
    (first | ((with_reducible refine wl_skipU ?_ ?_ ?_); exact rfl; exact rfl) | ((with_reducible refine wl_skip ?_ ?_); exact rfl; simp only [put_lit, List.set_cons_zero, List.set_cons_succ]))
    (first | ((with_reducible refine wl_skipU ?_ ?_ ?_); exact rfl; exact rfl) | ((with_reducible refine wl_skip ?_ ?_); exact rfl; simp only [put_lit, List.set_cons_zero, List.set_cons_succ]))
    (first | ((with_reducible refine wl_skipU ?_ ?_ ?_); exact rfl; exact rfl) | ((with_reducible refine wl_skip ?_ ?_); exact rfl; simp only [put_lit, List.set_cons_zero, List.set_cons_succ]))
    (first | ((with_reducible refine wl_skipU ?_ ?_ ?_); exact rfl; exact rfl) | ((with_reducible refine wl_skip ?_ ?_); exact rfl; simp only [put_lit, List.set_cons_zero, List.set_cons_succ]))
    (with_reducible refine wl_k ?_ ?_); exact rfl; intro K hK; go_simp; refine hK _ ?_; clear hK K
    (with_reducible refine wl_k ?_ ?_); exact rfl; intro K hK; go_simp; refine hK _ ?_; clear hK K
    (first | ((with_reducible refine wl_skipU ?_ ?_ ?_); exact rfl; exact rfl) | ((with_reducible refine wl_skip ?_ ?_); exact rfl; simp only [put_lit, List.set_cons_zero, List.set_cons_succ]))
    (first | ((with_reducible refine wl_skipU ?_ ?_ ?_); exact rfl; exact rfl) | ((with_reducible refine wl_skip ?_ ?_); exact rfl; simp only [put_lit, List.set_cons_zero, List.set_cons_succ]))
    (first | ((with_reducible refine wl_skipU ?_ ?_ ?_); exact rfl; exact rfl) | ((with_reducible refine wl_skip ?_ ?_); exact rfl; simp only [put_lit, List.set_cons_zero, List.set_cons_succ]))
    (first | ((with_reducible refine wl_skipU ?_ ?_ ?_); exact rfl; exact rfl) | ((with_reducible refine wl_skip ?_ ?_); exact rfl; simp only [put_lit, List.set_cons_zero, List.set_cons_succ]))
    (with_reducible refine wl_k ?_ ?_); exact rfl; intro K hK; go_simp; refine hK _ ?_; clear hK K
    (with_reducible refine wl_k ?_ ?_); exact rfl; intro K hK; go_simp; refine hK _ ?_; clear hK K
    (first | ((with_reducible refine wl_skipU ?_ ?_ ?_); exact rfl; exact rfl) | ((with_reducible refine wl_skip ?_ ?_); exact rfl; simp only [put_lit, List.set_cons_zero, List.set_cons_succ]))
    (first | ((with_reducible refine wl_skipU ?_ ?_ ?_); exact rfl; exact rfl) | ((with_reducible refine wl_skip ?_ ?_); exact rfl; simp only [put_lit, List.set_cons_zero, List.set_cons_succ]))
    (first | ((with_reducible refine wl_skipU ?_ ?_ ?_); exact rfl; exact rfl) | ((with_reducible refine wl_skip ?_ ?_); exact rfl; simp only [put_lit, List.set_cons_zero, List.set_cons_succ]))
    (first | ((with_reducible refine wl_skipU ?_ ?_ ?_); exact rfl; exact rfl) | ((with_reducible refine wl_skip ?_ ?_); exact rfl; simp only [put_lit, List.set_cons_zero, List.set_cons_succ]))
    (with_reducible refine wl_k ?_ ?_); exact rfl; intro K hK; go_simp; refine hK _ ?_; clear hK K
    (with_reducible refine wl_k ?_ ?_); exact rfl; intro K hK; go_simp; refine hK _ ?_; clear hK K
    (first | ((with_reducible refine wl_skipU ?_ ?_ ?_); exact rfl; exact rfl) | ((with_reducible refine wl_skip ?_ ?_); exact rfl; simp only [put_lit, List.set_cons_zero, List.set_cons_succ]))
    (first | ((with_reducible refine wl_skipU ?_ ?_ ?_); exact rfl; exact rfl) | ((with_reducible refine wl_skip ?_ ?_); exact rfl; simp only [put_lit, List.set_cons_zero, List.set_cons_succ]))
    (first | ((with_reducible refine wl_skipU ?_ ?_ ?_); exact rfl; exact rfl) | ((with_reducible refine wl_skip ?_ ?_); exact rfl; simp only [put_lit, List.set_cons_zero, List.set_cons_succ]))
    (first | ((with_reducible refine wl_skipU ?_ ?_ ?_); exact rfl; exact rfl) | ((with_reducible refine wl_skip ?_ ?_); exact rfl; simp only [put_lit, List.set_cons_zero, List.set_cons_succ]))
    (with_reducible refine wl_k ?_ ?_); exact rfl; intro K hK; go_simp; refine hK _ ?_; clear hK K
    clear hp hq ho
    go_wp2_with fail
    go_ret
    exact ⟨rfl, hb⟩
  | true =>
    have HH2 := Lib.hid (HB2.out rfl)
    clear HB2
    (with_reducible refine wl_k ?_ ?_); exact rfl; intro K hK; go_simp; refine hK _ ?_; clear hK K
    (with_reducible refine wl_k ?_ ?_); exact rfl; intro K hK; go_simp; refine hK _ ?_; clear hK K
    (with_reducible refine wl_k ?_ ?_); exact rfl; intro K hK; go_simp; refine hK _ ?_; clear hK K
    (first | ((with_reducible apply wl_oneG); exact rfl; exact rfl; first | exact s0 (by with_reducible assumption) | exact s1 (by with_reducible assumption)) | ((with_reducible apply wl_rowG); exact rfl; exact rfl; exact f4 (by with_reducible assumption)))
    have HC := Lib.hid (small_any xt A2 l2 c2 w22 Dx (HX.out.old hb))
    (with_reducible refine wl_ck ?_ ?_); exact rfl; intro K hK; go_simp; refine ⟨_, _, ⟨rfl, rfl⟩, hK _ _ ⟨_, HC.out, ?_⟩⟩; clear hK K; rintro e w27 ⟨⟨b, rfl, hb1⟩, hb2⟩; refine ⟨_, rfl, ?_⟩; simp only [put_lit, List.set_cons_zero, List.set_cons_succ]
    have HB7 := Lib.hid hb1
    replace hp := below_look hb2 hp; replace hq := below_look hb2 hq; replace ho := below_look hb2 ho; replace hb := hb.trans (hb2.mono hb.size); clear hb2
    clear HC hb1
    cases b with
    | false =>
      (with_reducible refine wl_k ?_ ?_); exact rfl; intro K hK; go_simp; refine hK _ ?_; clear hK K
      (with_reducible refine wl_k ?_ ?_); exact rfl; intro K hK; go_simp; refine hK _ ?_; clear hK K
      (with_reducible refine wl_k ?_ ?_); exact rfl; intro K hK; go_simp; refine hK _ ?_; clear hK K
      (first | ((with_reducible refine wl_skipU ?_ ?_ ?_); exact rfl; exact rfl) | ((with_reducible refine wl_skip ?_ ?_); exact rfl; simp only [put_lit, List.set_cons_zero, List.set_cons_succ]))
      (first | ((with_reducible refine wl_skipU ?_ ?_ ?_); exact rfl; exact rfl) | ((with_reducible refine wl_skip ?_ ?_); exact rfl; simp only [put_lit, List.set_cons_zero, List.set_cons_succ]))
      (first | ((with_reducible refine wl_skipU ?_ ?_ ?_); exact rfl; exact rfl) | ((with_reducible refine wl_skip ?_ ?_); exact rfl; simp only [put_lit, List.set_cons_zero, List.set_cons_succ]))
      (first | ((with_reducible refine wl_skipU ?_ ?_ ?_); exact rfl; exact rfl) | ((with_reducible refine wl_skip ?_ ?_); exact rfl; simp only [put_lit, List.set_cons_zero, List.set_cons_succ]))
      (with_reducible refine wl_k ?_ ?_); exact rfl; intro K hK; go_simp; refine hK _ ?_; clear hK K
      (with_reducible refine wl_k ?_ ?_); exact rfl; intro K hK; go_simp; refine hK _ ?_; clear hK K
      (first | ((with_reducible refine wl_skipU ?_ ?_ ?_); exact rfl; exact rfl) | ((with_reducible refine wl_skip ?_ ?_); exact rfl; simp only [put_lit, List.set_cons_zero, List.set_cons_succ]))
      (first | ((with_reducible refine wl_skipU ?_ ?_ ?_); exact rfl; exact rfl) | ((with_reducible refine wl_skip ?_ ?_); exact rfl; simp only [put_lit, List.set_cons_zero, List.set_cons_succ]))
      (first | ((with_reducible refine wl_skipU ?_ ?_ ?_); exact rfl; exact rfl) | ((with_reducible refine wl_skip ?_ ?_); exact rfl; simp only [put_lit, List.set_cons_zero, List.set_cons_succ]))
      (first | ((with_reducible refine wl_skipU ?_ ?_ ?_); exact rfl; exact rfl) | ((with_reducible refine wl_skip ?_ ?_); exact rfl; simp only [put_lit, List.set_cons_zero, List.set_cons_succ]))
      (with_reducible refine wl_k ?_ ?_); exact rfl; intro K hK; go_simp; refine hK _ ?_; clear hK K
      (with_reducible refine wl_k ?_ ?_); exact rfl; intro K hK; go_simp; refine hK _ ?_; clear hK K
      (first | ((with_reducible refine wl_skipU ?_ ?_ ?_); exact rfl; exact rfl) | ((with_reducible refine wl_skip ?_ ?_); exact rfl; simp only [put_lit, List.set_cons_zero, List.set_cons_succ]))
      (first | ((with_reducible refine wl_skipU ?_ ?_ ?_); exact rfl; exact rfl) | ((with_reducible refine wl_skip ?_ ?_); exact rfl; simp only [put_lit, List.set_cons_zero, List.set_cons_succ]))
      (first | ((with_reducible refine wl_skipU ?_ ?_ ?_); exact rfl; exact rfl) | ((with_reducible refine wl_skip ?_ ?_); exact rfl; simp only [put_lit, List.set_cons_zero, List.set_cons_succ]))
      (first | ((with_reducible refine wl_skipU ?_ ?_ ?_); exact rfl; exact rfl) | ((with_reducible refine wl_skip ?_ ?_); exact rfl; simp only [put_lit, List.set_cons_zero, List.set_cons_succ]))
      (with_reducible refine wl_k ?_ ?_); exact rfl; intro K hK; go_simp; refine hK _ ?_; clear hK K
      clear hp hq ho
      go_wp2_with fail
      go_ret
      exact ⟨rfl, hb⟩
    | true =>
      have HH7 := Lib.hid (HB7.out rfl)
      clear HB7
      (with_reducible refine wl_k ?_ ?_); exact rfl; intro K hK; go_simp; refine hK _ ?_; clear hK K
      (with_reducible refine wl_k ?_ ?_); exact rfl; intro K hK; go_simp; refine hK _ ?_; clear hK K
      (with_reducible refine wl_k ?_ ?_); exact rfl; intro K hK; go_simp; refine hK _ ?_; clear hK K
      (with_reducible refine wl_k ?_ ?_); exact rfl; intro K hK; go_simp; refine hK _ ?_; clear hK K
      (first | ((with_reducible apply wl_oneG); exact rfl; exact rfl; first | exact s0 (by with_reducible assumption) | exact s1 (by with_reducible assumption)) | ((with_reducible apply wl_rowG); exact rfl; exact rfl; exact f4 (by with_reducible assumption)))
      have HC := Lib.hid (small_any yt A4 l4 c4 w27 Dy (HY.out.old hb))
      (with_reducible refine wl_ck ?_ ?_); exact rfl; intro K hK; go_simp; refine ⟨_, _, ⟨rfl, rfl⟩, hK _ _ ⟨_, HC.out, ?_⟩⟩; clear hK K; rintro e w33 ⟨⟨b, rfl, hb1⟩, hb2⟩; refine ⟨_, rfl, ?_⟩; simp only [put_lit, List.set_cons_zero, List.set_cons_succ]
      have HB13 := Lib.hid hb1
      replace hp := below_look hb2 hp; replace hq := below_look hb2 hq; replace ho := below_look hb2 ho; replace hb := hb.trans (hb2.mono hb.size); clear hb2
      clear HC hb1
      cases b with
      | false =>
        (with_reducible refine wl_k ?_ ?_); exact rfl; intro K hK; go_simp; refine hK _ ?_; clear hK K
        (with_reducible refine wl_k ?_ ?_); exact rfl; intro K hK; go_simp; refine hK _ ?_; clear hK K
        (with_reducible refine wl_k ?_ ?_); exact rfl; intro K hK; go_simp; refine hK _ ?_; clear hK K
        (first | ((with_reducible refine wl_skipU ?_ ?_ ?_); exact rfl; exact rfl) | ((with_reducible refine wl_skip ?_ ?_); exact rfl; simp only [put_lit, List.set_cons_zero, List.set_cons_succ]))
        (first | ((with_reducible refine wl_skipU ?_ ?_ ?_); exact rfl; exact rfl) | ((with_reducible refine wl_skip ?_ ?_); exact rfl; simp only [put_lit, List.set_cons_zero, List.set_cons_succ]))
        (first | ((with_reducible refine wl_skipU ?_ ?_ ?_); exact rfl; exact rfl) | ((with_reducible refine wl_skip ?_ ?_); exact rfl; simp only [put_lit, List.set_cons_zero, List.set_cons_succ]))
        (first | ((with_reducible refine wl_skipU ?_ ?_ ?_); exact rfl; exact rfl) | ((with_reducible refine wl_skip ?_ ?_); exact rfl; simp only [put_lit, List.set_cons_zero, List.set_cons_succ]))
        (with_reducible refine wl_k ?_ ?_); exact rfl; intro K hK; go_simp; refine hK _ ?_; clear hK K
        (with_reducible refine wl_k ?_ ?_); exact rfl; intro K hK; go_simp; refine hK _ ?_; clear hK K
        (first | ((with_reducible refine wl_skipU ?_ ?_ ?_); exact rfl; exact rfl) | ((with_reducible refine wl_skip ?_ ?_); exact rfl; simp only [put_lit, List.set_cons_zero, List.set_cons_succ]))
        (first | ((with_reducible refine wl_skipU ?_ ?_ ?_); exact rfl; exact rfl) | ((with_reducible refine wl_skip ?_ ?_); exact rfl; simp only [put_lit, List.set_cons_zero, List.set_cons_succ]))
        (first | ((with_reducible refine wl_skipU ?_ ?_ ?_); exact rfl; exact rfl) | ((with_reducible refine wl_skip ?_ ?_); exact rfl; simp only [put_lit, List.set_cons_zero, List.set_cons_succ]))
        (first | ((with_reducible refine wl_skipU ?_ ?_ ?_); exact rfl; exact rfl) | ((with_reducible refine wl_skip ?_ ?_); exact rfl; simp only [put_lit, List.set_cons_zero, List.set_cons_succ]))
        (with_reducible refine wl_k ?_ ?_); exact rfl; intro K hK; go_simp; refine hK _ ?_; clear hK K
        clear hp hq ho
        go_wp2_with fail
        go_ret
        exact ⟨rfl, hb⟩
      | true =>
        have HH13 := Lib.hid (HB13.out rfl)
        clear HB13
        (with_reducible refine wl_k ?_ ?_); exact rfl; intro K hK; go_simp; refine hK _ ?_; clear hK K
        (with_reducible refine wl_k ?_ ?_); exact rfl; intro K hK; go_simp; refine hK _ ?_; clear hK K
        (with_reducible refine wl_k ?_ ?_); exact rfl; intro K hK; go_simp; refine hK _ ?_; clear hK K
        (with_reducible refine wl_k ?_ ?_); exact rfl; intro K hK; go_simp; refine hK _ ?_; clear hK K
        (first | ((with_reducible apply wl_oneG); exact rfl; exact rfl; first | exact s0 (by with_reducible assumption) | exact s1 (by with_reducible assumption)) | ((with_reducible apply wl_rowG); exact rfl; exact rfl; exact f4 (by with_reducible assumption)))
        have HC := Lib.hid (short_any xn A1 l1 c1 w33 (HXN.out.old hb) HXS.out)
        (with_reducible refine wl_ck ?_ ?_); exact rfl; intro K hK; go_simp; refine ⟨_, _, ⟨rfl, rfl⟩, hK _ _ ⟨_, HC.out, ?_⟩⟩; clear hK K; rintro e w39 ⟨⟨b, rfl, hb1⟩, hb2⟩; refine ⟨_, rfl, ?_⟩; simp only [put_lit, List.set_cons_zero, List.set_cons_succ]
        have HB19 := Lib.hid hb1
        replace hp := below_look hb2 hp; replace hq := below_look hb2 hq; replace ho := below_look hb2 ho; replace hb := hb.trans (hb2.mono hb.size); clear hb2
        clear HC hb1
        cases b with
        | false =>
          (with_reducible refine wl_k ?_ ?_); exact rfl; intro K hK; go_simp; refine hK _ ?_; clear hK K
          (with_reducible refine wl_k ?_ ?_); exact rfl; intro K hK; go_simp; refine hK _ ?_; clear hK K
          (with_reducible refine wl_k ?_ ?_); exact rfl; intro K hK; go_simp; refine hK _ ?_; clear hK K
          (first | ((with_reducible refine wl_skipU ?_ ?_ ?_); exact rfl; exact rfl) | ((with_reducible refine wl_skip ?_ ?_); exact rfl; simp only [put_lit, List.set_cons_zero, List.set_cons_succ]))
          (first | ((with_reducible refine wl_skipU ?_ ?_ ?_); exact rfl; exact rfl) | ((with_reducible refine wl_skip ?_ ?_); exact rfl; simp only [put_lit, List.set_cons_zero, List.set_cons_succ]))
          (first | ((with_reducible refine wl_skipU ?_ ?_ ?_); exact rfl; exact rfl) | ((with_reducible refine wl_skip ?_ ?_); exact rfl; simp only [put_lit, List.set_cons_zero, List.set_cons_succ]))
          (first | ((with_reducible refine wl_skipU ?_ ?_ ?_); exact rfl; exact rfl) | ((with_reducible refine wl_skip ?_ ?_); exact rfl; simp only [put_lit, List.set_cons_zero, List.set_cons_succ]))
          (with_reducible refine wl_k ?_ ?_); exact rfl; intro K hK; go_simp; refine hK _ ?_; clear hK K
          clear hp hq ho
          go_wp2_with fail
          go_ret
          exact ⟨rfl, hb⟩
        | true =>
          have HH19 := Lib.hid (HB19.out rfl)
          clear HB19
          (with_reducible refine wl_k ?_ ?_); exact rfl; intro K hK; go_simp; refine hK _ ?_; clear hK K
          (with_reducible refine wl_k ?_ ?_); exact rfl; intro K hK; go_simp; refine hK _ ?_; clear hK K
          (with_reducible refine wl_k ?_ ?_); exact rfl; intro K hK; go_simp; refine hK _ ?_; clear hK K
          (with_reducible refine wl_k ?_ ?_); exact rfl; intro K hK; go_simp; refine hK _ ?_; clear hK K
          (first | ((with_reducible apply wl_oneG); exact rfl; exact rfl; first | exact s0 (by with_reducible assumption) | exact s1 (by with_reducible assumption)) | ((with_reducible apply wl_rowG); exact rfl; exact rfl; exact f4 (by with_reducible assumption)))
          have HC := Lib.hid (short_any yn A3 l3 c3 w39 (HYN.out.old hb) HYS.out)
          (with_reducible refine wl_ck ?_ ?_); exact rfl; intro K hK; go_simp; refine ⟨_, _, ⟨rfl, rfl⟩, hK _ _ ⟨_, HC.out, ?_⟩⟩; clear hK K; rintro e w45 ⟨⟨b, rfl, hb1⟩, hb2⟩; refine ⟨_, rfl, ?_⟩; simp only [put_lit, List.set_cons_zero, List.set_cons_succ]
          have HB25 := Lib.hid hb1
          replace hp := below_look hb2 hp; replace hq := below_look hb2 hq; replace ho := below_look hb2 ho; replace hb := hb.trans (hb2.mono hb.size); clear hb2
          clear HC hb1
          cases b with
          | false =>
            (with_reducible refine wl_k ?_ ?_); exact rfl; intro K hK; go_simp; refine hK _ ?_; clear hK K
            (with_reducible refine wl_k ?_ ?_); exact rfl; intro K hK; go_simp; refine hK _ ?_; clear hK K
            clear hp hq ho
            go_wp2_with fail
            go_ret
            exact ⟨rfl, hb⟩
          | true =>
            have HH25 := Lib.hid (HB25.out rfl)
            clear HB25
            (with_reducible refine wl_k ?_ ?_); exact rfl; intro K hK; go_simp; refine hK _ ?_; clear hK K
            (with_reducible refine wl_k ?_ ?_); exact rfl; intro K hK; go_simp; refine hK _ ?_; clear hK K
            have hn0 := HH2.out.2 t (by simp)
            have HN0 : Hid (t.nodes ≤ 150) := Lib.hid hn0
            have HN1 : Hid (∀ u, u ∈ xt → u.nodes ≤ 150) := Lib.hid HH7.out.2
            have HN2 : Hid (∀ u, u ∈ yt → u.nodes ≤ 150) := Lib.hid HH13.out.2
            have hl60 : l2 ≤ 60 := by have := HH7.out.1; rw [HL2.out] at this; exact this
            clear HH2 HH7 HH13 HH19 HH25 HXS HYS
            have HPA := Lib.hid (ParamsI_any t (by omega) w45 D _ (HT.out.old hb))
            go_upto_region 3 with (fail)
            apply wp_region_lit
            (first | ((with_reducible apply wl_oneG); exact rfl; exact rfl; first | exact s0 (by with_reducible assumption) | exact s1 (by with_reducible assumption)) | ((with_reducible apply wl_rowG); exact rfl; exact rfl; exact f4 (by with_reducible assumption)))
            (with_reducible refine wl_ck ?_ ?_); exact rfl; intro K hK; go_simp; refine ⟨_, _, ⟨rfl, rfl⟩, hK _ _ ⟨_, HPA.out, ?_⟩⟩; clear hK K; rintro e w9 ⟨A5, l5, c5, ps, rfl, hown, hmem, hlen, hb9⟩; refine ⟨_, rfl, ?_⟩; simp only [put_lit, List.set_cons_zero, List.set_cons_succ]
            (with_reducible refine wl_k ?_ ?_); exact rfl; intro K hK; go_simp; refine hK _ ?_; clear hK K
            have HPS := Lib.hid hown.txAt
            have HMEM := Lib.hid hmem
            have HL5 := Lib.hid HPS.out.len
            have hl5 : l5 ≤ 150 := by have := HPS.out.len; omega
            have hcm5 := HPS.out.cap
            have hmx5 := HPS.out.max
            unfold maxLen at hmx5
            replace hp := below_look hb9 hp; replace hq := below_look hb9 hq; replace ho := below_look hb9 ho; replace hb := hb.trans (hb9.mono hb.size); clear hb9
            clear HPA hown hmem hlen hn0
            go_wp2_with fail
            go_loopw [8] (fun i wr => ∃ j : Nat, j ≤ l5 ∧ i = .int .i64 (j : Int) ∧ Hid (TxAt wr ps A5 l5 c5) ∧ Hid (∀ (i : Nat) (s : ByteArray), i < j → ps[i]? = some s → Good xn yn xt s) ∧ Below w.heap.size w wr ∧ wr.heap[p]? = some (.cells (cell4 k s n A l c) 24 (0, 0)) ∧ wr.heap[q]? = some (.cells (cell2 A1 l1 c1 A2 l2 c2) 27 (0, 0)) ∧ wr.heap[o]? = some (.cells (cell2 A3 l3 c3 A4 l4 c4) 27 (0, 0))) (fun i _ => l5 - (intOf i).toNat)
            case atStart => exact ⟨0, by omega, rfl, HPS, Lib.hid (fun i s hi => by omega), hb, hp, hq, ho⟩
            case round =>
              clear hb hp hq ho HPS
              obtain ⟨j, hj, rfl, HPS, HR, hb, hp, hq, ho⟩ := hrel
              by_cases hlt : j < l5
              · have hltI : (j : Int) < (l5 : Int) := by omega
                obtain ⟨b, off, s5, rfl, hs5⟩ := HPS.out.addr hlt
                have hones := Lib.hid (HPS.out.ones hs5)
                obtain ⟨v, hv⟩ : ∃ v, v = idxI xn s5 := ⟨_, rfl⟩
                obtain ⟨u, hu⟩ : ∃ u, u = idxI yn s5 := ⟨_, rfl⟩
                have HCX : Hid (∀ w', Below wr.heap.size wr w' → Calls Tryd.prog 18 #[.slice A1 l1 c1, .string s5] w' fun e w2 => e = .returned (.int .i64 v) ∧ Below w'.heap.size w' w2) := Lib.hid fun w' hw => by
                  rw [hv]; exact Has_any xn s5 A1 l1 c1 w' (HXN.out.old (hb.trans (hw.mono hb.size)))
                have HCY : Hid (∀ w', Below w.heap.size w w' → Calls Tryd.prog 18 #[.slice A3 l3 c3, .string s5] w' fun e w2 => e = .returned (.int .i64 u) ∧ Below w'.heap.size w' w2) := Lib.hid fun w' hw => by
                  rw [hu]; exact Has_any yn s5 A3 l3 c3 w' (HYN.out.old hw)
                have HG1 : Hid (¬ v < 0 → ¬ v ≥ (l2 : Int) → Good xn yn xt s5) := Lib.hid (by rw [hv, ← HL2.out]; exact good_in)
                have HG2 : Hid (¬ u ≥ 0 → Good xn yn xt s5) := Lib.hid (by rw [hu]; exact good_not)
                have HR2 : Hid (Good xn yn xt s5 → ∀ (i : Nat) (s : ByteArray), i < j + 1 → ps[i]? = some s → Good xn yn xt s) := Lib.hid fun hg i s hi hs => by
                  rcases Nat.lt_or_ge i j with h | h
                  · exact HR.out i s h hs
                  · obtain rfl : i = j := by omega
                    rw [hs5] at hs; cases hs; exact hg
                clear hv hu hs5 HR
                go_upto_region 7 with (fail)
                refine wp_region_belowAll mixed (by kernel_rfl) ?_
                (with_reducible refine wq_k ?_ ?_); exact rfl; intro K hK; go_simp; (with_reducible refine hK _ ?_); clear hK K
                ((with_reducible apply wq_one); exact rfl; exact rfl; intro w' hw'; first | exact s0 (below_look hw' (by with_reducible assumption)) | exact s1 (below_look hw' (by with_reducible assumption)))
                (with_reducible refine wq_k ?_ ?_); exact rfl; intro K hK; go_simp; (with_reducible refine hK _ ?_); clear hK K
                (with_reducible refine wq_k ?_ ?_); exact rfl; intro K hK; go_simp; (with_reducible refine hK _ ?_); clear hK K
                (with_reducible refine wq_k ?_ ?_); exact rfl; intro K hK; go_simp; (with_reducible refine hK _ ?_); clear hK K
                (with_reducible apply wq_one); exact rfl; exact rfl; exact hones.out
                try simp only [put_lit, List.set_cons_zero, List.set_cons_succ]
                refine wq_ck rfl (fun K hK => ?_); go_simp; refine ⟨_, _, ⟨rfl, rfl⟩, hK _ _ ⟨_, fun w' hw' => calls_class hw' (HCX.out w' hw'), ?_⟩⟩; clear hK K; simp only [put_lit, List.set_cons_zero, List.set_cons_succ]
                (with_reducible refine wq_k ?_ ?_); exact rfl; intro K hK; go_simp; (with_reducible refine hK _ ?_); clear hK K
                intro w7 hb7
                have hones8 := Lib.hid ((fun w' hw => hones.out w' (hb7.trans (hw.mono hb7.size))) : ∀ w', Below w7.heap.size w7 w' → OneAt w' 9 ⟨b, off + j, none⟩ (.string s5))
                replace HPS := Lib.hid (HPS.out.old hb7)
                replace hp := below_look hb7 hp; replace hq := below_look hb7 hq; replace ho := below_look hb7 ho; replace hb := hb.trans (hb7.mono hb.size); clear hb7
                clear HCX hones
                by_cases g1 : v < 0
                · by_cases g3 : u ≥ 0
                  · go_upto_region 8 with (fail)
                    refine wp_region_belowAll mixed (by kernel_rfl) ?_
                    (with_reducible refine wq_k ?_ ?_); exact rfl; intro K hK; go_simp; (with_reducible refine hK _ ?_); clear hK K
                    (with_reducible refine wq_k ?_ ?_); exact rfl; intro K hK; go_simp; (with_reducible refine hK _ ?_); clear hK K
                    (with_reducible refine wq_k ?_ ?_); exact rfl; intro K hK; go_simp; (with_reducible refine hK _ ?_); clear hK K
                    (with_reducible refine wq_skip ?_ ?_); exact rfl; simp only [List.getElem_toArray, List.getElem_cons_succ, List.getElem_cons_zero, put_lit, List.set_cons_zero, List.set_cons_succ]
                    (with_reducible refine wq_skip ?_ ?_); exact rfl; simp only [List.getElem_toArray, List.getElem_cons_succ, List.getElem_cons_zero, put_lit, List.set_cons_zero, List.set_cons_succ]
                    (with_reducible refine wq_skip ?_ ?_); exact rfl; simp only [List.getElem_toArray, List.getElem_cons_succ, List.getElem_cons_zero, put_lit, List.set_cons_zero, List.set_cons_succ]
                    (with_reducible refine wq_skip ?_ ?_); exact rfl; simp only [List.getElem_toArray, List.getElem_cons_succ, List.getElem_cons_zero, put_lit, List.set_cons_zero, List.set_cons_succ]
                    (with_reducible refine wq_skip ?_ ?_); exact rfl; simp only [List.getElem_toArray, List.getElem_cons_succ, List.getElem_cons_zero, put_lit, List.set_cons_zero, List.set_cons_succ]
                    (with_reducible refine wq_k ?_ ?_); exact rfl; intro K hK; go_simp; (with_reducible refine hK _ ?_); clear hK K
                    (with_reducible refine wq_k ?_ ?_); exact rfl; intro K hK; go_simp; (with_reducible refine hK _ ?_); clear hK K
                    (with_reducible refine wq_k ?_ ?_); exact rfl; intro K hK; go_simp; (with_reducible refine hK _ ?_); clear hK K
                    ((with_reducible apply wq_one); exact rfl; exact rfl; intro w' hw'; first | exact s0 (below_look hw' (by with_reducible assumption)) | exact s1 (below_look hw' (by with_reducible assumption)))
                    (with_reducible refine wq_k ?_ ?_); exact rfl; intro K hK; go_simp; (with_reducible refine hK _ ?_); clear hK K
                    (with_reducible refine wq_k ?_ ?_); exact rfl; intro K hK; go_simp; (with_reducible refine hK _ ?_); clear hK K
                    (with_reducible refine wq_k ?_ ?_); exact rfl; intro K hK; go_simp; (with_reducible refine hK _ ?_); clear hK K
                    (with_reducible apply wq_one); exact rfl; exact rfl; exact hones8.out
                    try simp only [put_lit, List.set_cons_zero, List.set_cons_succ]
                    refine wq_ck rfl (fun K hK => ?_); go_simp; refine ⟨_, _, ⟨rfl, rfl⟩, hK _ _ ⟨_, fun w' hw' => calls_class hw' ((fun w' hw => HCY.out w' (hb.trans (hw.mono hb.size))) w' hw'), ?_⟩⟩; clear hK K; simp only [put_lit, List.set_cons_zero, List.set_cons_succ]
                    (with_reducible refine wq_k ?_ ?_); exact rfl; intro K hK; go_simp; (with_reducible refine hK _ ?_); clear hK K
                    (with_reducible refine wq_k ?_ ?_); exact rfl; intro K hK; go_simp; (with_reducible refine hK _ ?_); clear hK K
                    intro w8 hb8
                    replace HPS := Lib.hid (HPS.out.old hb8)
                    replace hp := below_look hb8 hp; replace hq := below_look hb8 hq; replace ho := below_look hb8 ho; replace hb := hb.trans (hb8.mono hb.size); clear hb8
                    clear hones8 HCY HG1 HG2
                    go_upto_region 9 with (fail)
                    apply wp_region_lit
                    (with_reducible refine wl_ck ?_ ?_); exact rfl; intro K hK; go_simp; refine ⟨_, _, ⟨rfl, rfl⟩, hK _ _ ⟨_, awake_any _, ?_⟩⟩; clear hK K; rintro e w10 ⟨rfl, hb10⟩; refine ⟨_, rfl, ?_⟩; simp only [put_lit, List.set_cons_zero, List.set_cons_succ]
                    (with_reducible refine wl_k ?_ ?_); exact rfl; intro K hK; go_simp; refine hK _ ?_; clear hK K
                    replace hp := below_look hb10 hp; replace hq := below_look hb10 hq; replace ho := below_look hb10 ho; replace hb := hb.trans (hb10.mono hb.size); clear hb10
                    clear hp hq ho
                    go_wp2_with fail
                    go_ret
                    exact ⟨rfl, hb⟩
                  · have HR3 := Lib.hid (HR2.out (HG2.out g3))
                    go_upto_region 8 with (fail)
                    refine wp_region_belowAll mixed (by kernel_rfl) ?_
                    (with_reducible refine wq_k ?_ ?_); exact rfl; intro K hK; go_simp; (with_reducible refine hK _ ?_); clear hK K
                    (with_reducible refine wq_k ?_ ?_); exact rfl; intro K hK; go_simp; (with_reducible refine hK _ ?_); clear hK K
                    (with_reducible refine wq_k ?_ ?_); exact rfl; intro K hK; go_simp; (with_reducible refine hK _ ?_); clear hK K
                    (with_reducible refine wq_skip ?_ ?_); exact rfl; simp only [List.getElem_toArray, List.getElem_cons_succ, List.getElem_cons_zero, put_lit, List.set_cons_zero, List.set_cons_succ]
                    (with_reducible refine wq_skip ?_ ?_); exact rfl; simp only [List.getElem_toArray, List.getElem_cons_succ, List.getElem_cons_zero, put_lit, List.set_cons_zero, List.set_cons_succ]
                    (with_reducible refine wq_skip ?_ ?_); exact rfl; simp only [List.getElem_toArray, List.getElem_cons_succ, List.getElem_cons_zero, put_lit, List.set_cons_zero, List.set_cons_succ]
                    (with_reducible refine wq_skip ?_ ?_); exact rfl; simp only [List.getElem_toArray, List.getElem_cons_succ, List.getElem_cons_zero, put_lit, List.set_cons_zero, List.set_cons_succ]
                    (with_reducible refine wq_skip ?_ ?_); exact rfl; simp only [List.getElem_toArray, List.getElem_cons_succ, List.getElem_cons_zero, put_lit, List.set_cons_zero, List.set_cons_succ]
                    (with_reducible refine wq_k ?_ ?_); exact rfl; intro K hK; go_simp; (with_reducible refine hK _ ?_); clear hK K
                    (with_reducible refine wq_k ?_ ?_); exact rfl; intro K hK; go_simp; (with_reducible refine hK _ ?_); clear hK K
                    (with_reducible refine wq_k ?_ ?_); exact rfl; intro K hK; go_simp; (with_reducible refine hK _ ?_); clear hK K
                    ((with_reducible apply wq_one); exact rfl; exact rfl; intro w' hw'; first | exact s0 (below_look hw' (by with_reducible assumption)) | exact s1 (below_look hw' (by with_reducible assumption)))
                    (with_reducible refine wq_k ?_ ?_); exact rfl; intro K hK; go_simp; (with_reducible refine hK _ ?_); clear hK K
                    (with_reducible refine wq_k ?_ ?_); exact rfl; intro K hK; go_simp; (with_reducible refine hK _ ?_); clear hK K
                    (with_reducible refine wq_k ?_ ?_); exact rfl; intro K hK; go_simp; (with_reducible refine hK _ ?_); clear hK K
                    (with_reducible apply wq_one); exact rfl; exact rfl; exact hones8.out
                    try simp only [put_lit, List.set_cons_zero, List.set_cons_succ]
                    refine wq_ck rfl (fun K hK => ?_); go_simp; refine ⟨_, _, ⟨rfl, rfl⟩, hK _ _ ⟨_, fun w' hw' => calls_class hw' ((fun w' hw => HCY.out w' (hb.trans (hw.mono hb.size))) w' hw'), ?_⟩⟩; clear hK K; simp only [put_lit, List.set_cons_zero, List.set_cons_succ]
                    (with_reducible refine wq_k ?_ ?_); exact rfl; intro K hK; go_simp; (with_reducible refine hK _ ?_); clear hK K
                    (with_reducible refine wq_k ?_ ?_); exact rfl; intro K hK; go_simp; (with_reducible refine hK _ ?_); clear hK K
                    intro w8 hb8
                    replace HPS := Lib.hid (HPS.out.old hb8)
                    replace hp := below_look hb8 hp; replace hq := below_look hb8 hq; replace ho := below_look hb8 ho; replace hb := hb.trans (hb8.mono hb.size); clear hb8
                    clear hones8 HCY HG1 HG2
                    go_wp2_with fail
                    go_roundw
                    case rel => exact ⟨j + 1, by omega, by go_num, HPS, HR3, hb, hp, hq, ho⟩
                    case measure => simp [intOf]; omega
                · by_cases g2 : v ≥ (l2 : Int)
                  · by_cases g3 : u ≥ 0
                    · go_upto_region 8 with (fail)
                      refine wp_region_belowAll mixed (by kernel_rfl) ?_
                      (with_reducible refine wq_k ?_ ?_); exact rfl; intro K hK; go_simp; (with_reducible refine hK _ ?_); clear hK K
                      (with_reducible refine wq_k ?_ ?_); exact rfl; intro K hK; go_simp; (with_reducible refine hK _ ?_); clear hK K
                      (with_reducible refine wq_k ?_ ?_); exact rfl; intro K hK; go_simp; (with_reducible refine hK _ ?_); clear hK K
                      (with_reducible refine wq_k ?_ ?_); exact rfl; intro K hK; go_simp; (with_reducible refine hK _ ?_); clear hK K
                      (with_reducible refine wq_k ?_ ?_); exact rfl; intro K hK; go_simp; (with_reducible refine hK _ ?_); clear hK K
                      ((with_reducible apply wq_one); exact rfl; exact rfl; intro w' hw'; first | exact s0 (below_look hw' (by with_reducible assumption)) | exact s1 (below_look hw' (by with_reducible assumption)))
                      (with_reducible refine wq_k ?_ ?_); exact rfl; intro K hK; go_simp; (with_reducible refine hK _ ?_); clear hK K
                      (with_reducible refine wq_k ?_ ?_); exact rfl; intro K hK; go_simp; (with_reducible refine hK _ ?_); clear hK K
                      (with_reducible refine wq_k ?_ ?_); exact rfl; intro K hK; go_simp; (with_reducible refine hK _ ?_); clear hK K
                      (with_reducible refine wq_k ?_ ?_); exact rfl; intro K hK; go_simp; (with_reducible refine hK _ ?_); clear hK K
                      (with_reducible refine wq_k ?_ ?_); exact rfl; intro K hK; go_simp; (with_reducible refine hK _ ?_); clear hK K
                      ((with_reducible apply wq_one); exact rfl; exact rfl; intro w' hw'; first | exact s0 (below_look hw' (by with_reducible assumption)) | exact s1 (below_look hw' (by with_reducible assumption)))
                      (with_reducible refine wq_k ?_ ?_); exact rfl; intro K hK; go_simp; (with_reducible refine hK _ ?_); clear hK K
                      (with_reducible refine wq_k ?_ ?_); exact rfl; intro K hK; go_simp; (with_reducible refine hK _ ?_); clear hK K
                      (with_reducible refine wq_k ?_ ?_); exact rfl; intro K hK; go_simp; (with_reducible refine hK _ ?_); clear hK K
                      (with_reducible apply wq_one); exact rfl; exact rfl; exact hones8.out
                      try simp only [put_lit, List.set_cons_zero, List.set_cons_succ]
                      refine wq_ck rfl (fun K hK => ?_); go_simp; refine ⟨_, _, ⟨rfl, rfl⟩, hK _ _ ⟨_, fun w' hw' => calls_class hw' ((fun w' hw => HCY.out w' (hb.trans (hw.mono hb.size))) w' hw'), ?_⟩⟩; clear hK K; simp only [put_lit, List.set_cons_zero, List.set_cons_succ]
                      (with_reducible refine wq_k ?_ ?_); exact rfl; intro K hK; go_simp; (with_reducible refine hK _ ?_); clear hK K
                      (with_reducible refine wq_k ?_ ?_); exact rfl; intro K hK; go_simp; (with_reducible refine hK _ ?_); clear hK K
                      intro w8 hb8
                      replace HPS := Lib.hid (HPS.out.old hb8)
                      replace hp := below_look hb8 hp; replace hq := below_look hb8 hq; replace ho := below_look hb8 ho; replace hb := hb.trans (hb8.mono hb.size); clear hb8
                      clear hones8 HCY HG1 HG2
                      go_upto_region 9 with (fail)
                      apply wp_region_lit
                      (with_reducible refine wl_ck ?_ ?_); exact rfl; intro K hK; go_simp; refine ⟨_, _, ⟨rfl, rfl⟩, hK _ _ ⟨_, awake_any _, ?_⟩⟩; clear hK K; rintro e w10 ⟨rfl, hb10⟩; refine ⟨_, rfl, ?_⟩; simp only [put_lit, List.set_cons_zero, List.set_cons_succ]
                      (with_reducible refine wl_k ?_ ?_); exact rfl; intro K hK; go_simp; refine hK _ ?_; clear hK K
                      replace hp := below_look hb10 hp; replace hq := below_look hb10 hq; replace ho := below_look hb10 ho; replace hb := hb.trans (hb10.mono hb.size); clear hb10
                      clear hp hq ho
                      go_wp2_with fail
                      go_ret
                      exact ⟨rfl, hb⟩
                    · have HR3 := Lib.hid (HR2.out (HG2.out g3))
                      go_upto_region 8 with (fail)
                      refine wp_region_belowAll mixed (by kernel_rfl) ?_
                      (with_reducible refine wq_k ?_ ?_); exact rfl; intro K hK; go_simp; (with_reducible refine hK _ ?_); clear hK K
                      (with_reducible refine wq_k ?_ ?_); exact rfl; intro K hK; go_simp; (with_reducible refine hK _ ?_); clear hK K
                      (with_reducible refine wq_k ?_ ?_); exact rfl; intro K hK; go_simp; (with_reducible refine hK _ ?_); clear hK K
                      (with_reducible refine wq_k ?_ ?_); exact rfl; intro K hK; go_simp; (with_reducible refine hK _ ?_); clear hK K
                      (with_reducible refine wq_k ?_ ?_); exact rfl; intro K hK; go_simp; (with_reducible refine hK _ ?_); clear hK K
                      ((with_reducible apply wq_one); exact rfl; exact rfl; intro w' hw'; first | exact s0 (below_look hw' (by with_reducible assumption)) | exact s1 (below_look hw' (by with_reducible assumption)))
                      (with_reducible refine wq_k ?_ ?_); exact rfl; intro K hK; go_simp; (with_reducible refine hK _ ?_); clear hK K
                      (with_reducible refine wq_k ?_ ?_); exact rfl; intro K hK; go_simp; (with_reducible refine hK _ ?_); clear hK K
                      (with_reducible refine wq_k ?_ ?_); exact rfl; intro K hK; go_simp; (with_reducible refine hK _ ?_); clear hK K
                      (with_reducible refine wq_k ?_ ?_); exact rfl; intro K hK; go_simp; (with_reducible refine hK _ ?_); clear hK K
                      (with_reducible refine wq_k ?_ ?_); exact rfl; intro K hK; go_simp; (with_reducible refine hK _ ?_); clear hK K
                      ((with_reducible apply wq_one); exact rfl; exact rfl; intro w' hw'; first | exact s0 (below_look hw' (by with_reducible assumption)) | exact s1 (below_look hw' (by with_reducible assumption)))
                      (with_reducible refine wq_k ?_ ?_); exact rfl; intro K hK; go_simp; (with_reducible refine hK _ ?_); clear hK K
                      (with_reducible refine wq_k ?_ ?_); exact rfl; intro K hK; go_simp; (with_reducible refine hK _ ?_); clear hK K
                      (with_reducible refine wq_k ?_ ?_); exact rfl; intro K hK; go_simp; (with_reducible refine hK _ ?_); clear hK K
                      (with_reducible apply wq_one); exact rfl; exact rfl; exact hones8.out
                      try simp only [put_lit, List.set_cons_zero, List.set_cons_succ]
                      refine wq_ck rfl (fun K hK => ?_); go_simp; refine ⟨_, _, ⟨rfl, rfl⟩, hK _ _ ⟨_, fun w' hw' => calls_class hw' ((fun w' hw => HCY.out w' (hb.trans (hw.mono hb.size))) w' hw'), ?_⟩⟩; clear hK K; simp only [put_lit, List.set_cons_zero, List.set_cons_succ]
                      (with_reducible refine wq_k ?_ ?_); exact rfl; intro K hK; go_simp; (with_reducible refine hK _ ?_); clear hK K
                      (with_reducible refine wq_k ?_ ?_); exact rfl; intro K hK; go_simp; (with_reducible refine hK _ ?_); clear hK K
                      intro w8 hb8
                      replace HPS := Lib.hid (HPS.out.old hb8)
                      replace hp := below_look hb8 hp; replace hq := below_look hb8 hq; replace ho := below_look hb8 ho; replace hb := hb.trans (hb8.mono hb.size); clear hb8
                      clear hones8 HCY HG1 HG2
                      go_wp2_with fail
                      go_roundw
                      case rel => exact ⟨j + 1, by omega, by go_num, HPS, HR3, hb, hp, hq, ho⟩
                      case measure => simp [intOf]; omega
                  · have HR3 := Lib.hid (HR2.out (HG1.out g1 g2))
                    go_upto_region 8 with (fail)
                    refine wp_region_belowAll mixed (by kernel_rfl) ?_
                    (with_reducible refine wq_k ?_ ?_); exact rfl; intro K hK; go_simp; (with_reducible refine hK _ ?_); clear hK K
                    (with_reducible refine wq_k ?_ ?_); exact rfl; intro K hK; go_simp; (with_reducible refine hK _ ?_); clear hK K
                    (with_reducible refine wq_k ?_ ?_); exact rfl; intro K hK; go_simp; (with_reducible refine hK _ ?_); clear hK K
                    (with_reducible refine wq_k ?_ ?_); exact rfl; intro K hK; go_simp; (with_reducible refine hK _ ?_); clear hK K
                    (with_reducible refine wq_k ?_ ?_); exact rfl; intro K hK; go_simp; (with_reducible refine hK _ ?_); clear hK K
                    ((with_reducible apply wq_one); exact rfl; exact rfl; intro w' hw'; first | exact s0 (below_look hw' (by with_reducible assumption)) | exact s1 (below_look hw' (by with_reducible assumption)))
                    (with_reducible refine wq_k ?_ ?_); exact rfl; intro K hK; go_simp; (with_reducible refine hK _ ?_); clear hK K
                    (with_reducible refine wq_k ?_ ?_); exact rfl; intro K hK; go_simp; (with_reducible refine hK _ ?_); clear hK K
                    (with_reducible refine wq_k ?_ ?_); exact rfl; intro K hK; go_simp; (with_reducible refine hK _ ?_); clear hK K
                    (with_reducible refine wq_k ?_ ?_); exact rfl; intro K hK; go_simp; (with_reducible refine hK _ ?_); clear hK K
                    (with_reducible refine wq_skip ?_ ?_); exact rfl; simp only [List.getElem_toArray, List.getElem_cons_succ, List.getElem_cons_zero, put_lit, List.set_cons_zero, List.set_cons_succ]
                    (with_reducible refine wq_skip ?_ ?_); exact rfl; simp only [List.getElem_toArray, List.getElem_cons_succ, List.getElem_cons_zero, put_lit, List.set_cons_zero, List.set_cons_succ]
                    (with_reducible refine wq_skip ?_ ?_); exact rfl; simp only [List.getElem_toArray, List.getElem_cons_succ, List.getElem_cons_zero, put_lit, List.set_cons_zero, List.set_cons_succ]
                    (with_reducible refine wq_skip ?_ ?_); exact rfl; simp only [List.getElem_toArray, List.getElem_cons_succ, List.getElem_cons_zero, put_lit, List.set_cons_zero, List.set_cons_succ]
                    (with_reducible refine wq_skip ?_ ?_); exact rfl; simp only [List.getElem_toArray, List.getElem_cons_succ, List.getElem_cons_zero, put_lit, List.set_cons_zero, List.set_cons_succ]
                    (with_reducible refine wq_skip ?_ ?_); exact rfl; simp only [List.getElem_toArray, List.getElem_cons_succ, List.getElem_cons_zero, put_lit, List.set_cons_zero, List.set_cons_succ]
                    (with_reducible refine wq_skip ?_ ?_); exact rfl; simp only [List.getElem_toArray, List.getElem_cons_succ, List.getElem_cons_zero, put_lit, List.set_cons_zero, List.set_cons_succ]
                    (with_reducible refine wq_skip ?_ ?_); exact rfl; simp only [List.getElem_toArray, List.getElem_cons_succ, List.getElem_cons_zero, put_lit, List.set_cons_zero, List.set_cons_succ]
                    (with_reducible refine wq_k ?_ ?_); exact rfl; intro K hK; go_simp; (with_reducible refine hK _ ?_); clear hK K
                    intro w8 hb8
                    replace HPS := Lib.hid (HPS.out.old hb8)
                    replace hp := below_look hb8 hp; replace hq := below_look hb8 hq; replace ho := below_look hb8 ho; replace hb := hb.trans (hb8.mono hb.size); clear hb8
                    clear hones8 HCY HG1 HG2
                    go_wp2_with fail
                    go_roundw
                    case rel => exact ⟨j + 1, by omega, by go_num, HPS, HR3, hb, hp, hq, ho⟩
                    case measure => simp [intOf]; omega
              · have hltI : ¬ (j : Int) < (l5 : Int) := by omega
                have HGOOD : Hid (∀ s, s ∈ t.pars → Good xn yn xt s) := Lib.hid fun s hs => by
                  have hm := (HMEM.out s).2 hs
                  obtain ⟨i, hi⟩ := List.mem_iff_getElem?.1 hm
                  exact HR.out i s (by have := (List.getElem?_eq_some_iff.1 hi).1; rw [HL5.out] at this; omega) hi
                clear HR HMEM HL5 HPS
                obtain ⟨B2, hB2⟩ : ∃ B2, B2 = wr.heap.size := ⟨_, rfl⟩
                have hpB : p < B2 := by have := heap_lt hp; omega
                have hqB : q < B2 := by have := heap_lt hq; omega
                have hoB : o < B2 := by have := heap_lt ho; omega
                have hwB : w.heap.size ≤ B2 := by have := hb.size; omega
                have hB3 : B2 ≤ wr.heap.size := by omega
                have HO := Lib.hid (OwnT.nil wr B2)
                clear hB2
                go_wp2_with fail
                go_loopw [10, 11] (fun v i wr => ∃ (j : Nat) (A' : Option Addr) (l' c' : Nat), j ≤ l2 ∧ i = .int .i64 (j : Int) ∧ v = .slice A' l' c' ∧ Hid (OwnT wr B2 (.slice A' l' c') ((xt.take j).map (substTy yn yt))) ∧ Below w.heap.size w wr ∧ B2 ≤ wr.heap.size ∧ wr.heap[p]? = some (.cells (cell4 k s n A l c) 24 (0, 0)) ∧ wr.heap[q]? = some (.cells (cell2 A1 l1 c1 A2 l2 c2) 27 (0, 0)) ∧ wr.heap[o]? = some (.cells (cell2 A3 l3 c3 A4 l4 c4) 27 (0, 0))) (fun _ i _ => l2 - (intOf i).toNat)
                case atStart => exact ⟨0, none, 0, 0, by omega, rfl, rfl, HO, hb, hB3, hp, hq, ho⟩
                case round =>
                  clear hb HO hp hq ho hB3
                  obtain ⟨j2, A9, l9, c9, hj2, rfl, rfl, HO, hb, hB3, hp, hq, ho⟩ := hrel
                  by_cases hlt2 : j2 < l2
                  · have hltJ : (j2 : Int) < (l2 : Int) := by omega
                    obtain ⟨b, off, u, row, rfl, -, hu, -⟩ := HX.out.get hlt2
                    obtain ⟨row, hrow, hta⟩ := HX.out.rowK hu
                    have HRK := Lib.hid hrow
                    have HTA := Lib.hid hta
                    have HTK : Hid ((xt.take (j2 + 1)).map (substTy yn yt) = (xt.take j2).map (substTy yn yt) ++ [substTy yn yt u]) := Lib.hid (by rw [List.take_add_one, hu]; simp)
                    have HLN : Hid (((xt.take j2).map (substTy yn yt)).length ≤ 1000000) := Lib.hid (by rw [List.length_map, List.length_take]; omega)
                    have hnu := HN1.out u (List.mem_of_getElem? hu)
                    have HC : Hid (∀ w', Below w.heap.size w w' → Calls Tryd.prog 20 #[.agg row, .slice A3 l3 c3, .slice A4 l4 c4] w' (NewTy w' (substTy yn yt u))) := Lib.hid fun w' hw => Subst_any yn yt (fun u hu => by have := HN2.out u hu; omega) u (by omega) w' Dx Dy row (HTA.out.old hw) A3 A4 l3 c3 l4 c4 (HYN.out.old hw) (HY.out.old hw)
                    clear hrow hta hu hnu HTA
                    go_upto_region 12 with (fail)
                    apply wp_region_lit
                    (with_reducible refine wl_k ?_ ?_); exact rfl; intro K hK; go_simp; refine hK _ ?_; clear hK K
                    (with_reducible refine wl_k ?_ ?_); exact rfl; intro K hK; go_simp; refine hK _ ?_; clear hK K
                    (first | ((with_reducible apply wl_oneG); exact rfl; exact rfl; first | exact s0 (by with_reducible assumption) | exact s1 (by with_reducible assumption)) | ((with_reducible apply wl_rowG); exact rfl; exact rfl; exact f4 (by with_reducible assumption)))
                    (with_reducible refine wl_k ?_ ?_); exact rfl; intro K hK; go_simp; refine hK _ ?_; clear hK K
                    (with_reducible refine wl_k ?_ ?_); exact rfl; intro K hK; go_simp; refine hK _ ?_; clear hK K
                    go_upto_region 14 with (fail)
                    refine wp_region_held_drew (S := Below B2 wr) mixed ((Below.refl B2 wr).drew) (fun hS => ?_)
                    have hz : Below wr.heap.size wr wr.drew := (Below.refl _ wr).drew
                    refine ha_k (i := 0) rfl (by kernel_rfl) (by kernel_rfl) (by kernel_rfl) (fun _ _ _ _ h => h) hS rfl (fun K hK => ?_); go_simp; refine hK _ ?_; clear hK K; try simp only [put_lit, List.set_cons_zero, List.set_cons_succ]
                    refine ha_k (i := 1) rfl (by kernel_rfl) (by kernel_rfl) (by kernel_rfl) (fun _ _ _ _ h => h) hS rfl (fun K hK => ?_); go_simp; refine hK _ ?_; clear hK K; try simp only [put_lit, List.set_cons_zero, List.set_cons_succ]
                    refine ha_val (i := 2) rfl (by kernel_rfl) (by kernel_rfl) (by kernel_rfl) (fun _ _ _ h => h) hS rfl (fun w' hw' => ex_one rfl (s1 ((hw'.block _ hqB).trans hq))) ?_; try simp only [put_lit, List.set_cons_zero, List.set_cons_succ]
                    refine ha_k (i := 3) rfl (by kernel_rfl) (by kernel_rfl) (by kernel_rfl) (fun _ _ _ _ h => h) hS rfl (fun K hK => ?_); go_simp; refine hK _ ?_; clear hK K; try simp only [put_lit, List.set_cons_zero, List.set_cons_succ]
                    refine ha_k (i := 4) rfl (by kernel_rfl) (by kernel_rfl) (by kernel_rfl) (fun _ _ _ _ h => h) hS rfl (fun K hK => ?_); go_simp; refine hK _ ?_; clear hK K; try simp only [put_lit, List.set_cons_zero, List.set_cons_succ]
                    refine ha_val (i := 5) rfl (by kernel_rfl) (by kernel_rfl) (by kernel_rfl) (fun _ _ _ h => h) hS rfl (fun w' hw' => ex_row rfl (HRK.out.at (hb.trans (hw'.mono hwB)))) ?_; try simp only [put_lit, List.set_cons_zero, List.set_cons_succ]
                    refine ha_k (i := 6) rfl (by kernel_rfl) (by kernel_rfl) (by kernel_rfl) (fun _ _ _ _ h => h) hS rfl (fun K hK => ?_); go_simp; refine hK _ ?_; clear hK K; try simp only [put_lit, List.set_cons_zero, List.set_cons_succ]
                    refine ha_val (i := 7) rfl (by kernel_rfl) (by kernel_rfl) (by kernel_rfl) (fun _ _ _ h => h) hS rfl (fun w' hw' => ex_one rfl (s0 ((hw'.block _ hoB).trans ho))) ?_; try simp only [put_lit, List.set_cons_zero, List.set_cons_succ]
                    refine ha_k (i := 8) rfl (by kernel_rfl) (by kernel_rfl) (by kernel_rfl) (fun _ _ _ _ h => h) hS rfl (fun K hK => ?_); go_simp; refine hK _ ?_; clear hK K; try simp only [put_lit, List.set_cons_zero, List.set_cons_succ]
                    refine ha_val (i := 9) rfl (by kernel_rfl) (by kernel_rfl) (by kernel_rfl) (fun _ _ _ h => h) hS rfl (fun w' hw' => ex_one rfl (s1 ((hw'.block _ hoB).trans ho))) ?_; try simp only [put_lit, List.set_cons_zero, List.set_cons_succ]
                    clear hS
                    refine ha_call (i := 10) (by kernel_rfl) rfl rfl (fun K hK => ?_)
                    go_simp; refine ⟨_, _, ⟨rfl, rfl⟩, hK _ _ ⟨_, HC.out _ (hb.trans (hz.mono hb.size)), ?_⟩⟩; clear hK K; rintro e w7 ⟨row7, rfl, hta7, hb7⟩; refine ⟨_, rfl, (hz.trans (hb7.mono hz.size)).mono hB3, ?_⟩
                    obtain ⟨k7, s7, n7, A7, l7, c7, ts7, hu7, rfl, -⟩ := hta7.parts
                    have HA7 := Lib.hid (HO.out.apart hB3 (hta7.weak (D' := fun b => wr.heap.size ≤ b) fun b h => Nat.le_trans hz.size h))
                    replace hz := hz.trans (hb7.mono hz.size)
                    clear hta7 hu7 hb7
                    try simp only [put_lit, List.set_cons_zero, List.set_cons_succ]
                    refine ha_bs (i := 11) (by kernel_rfl) rfl rfl _ rfl rfl (fun W hW => (hz.trans (hW.mono hz.size)).mono hB3) ?_
                    intro X5 q3 hbn hlq3 hq3 hS5
                    replace HA7 := Lib.hid (HA7.out.old hbn)
                    replace hz := hz.trans (hbn.mono hz.size)
                    clear hbn hS5
                    try simp only [put_lit, List.set_cons_zero, List.set_cons_succ]
                    have hzs := hz.size
                    refine ha_push (i := 12) (by kernel_rfl) rfl rfl _ _ rfl rfl rfl (HO.out.old hz) HA7.out hq3 HLN.out (by omega) (fun w' hbl => hbl B2 wr (fun b hb => (HO.out.lt b hb).1) (by omega) (hz.mono hB3)) ?_
                    intro A8 l8 c8 w9 hown hk9 hbl hS
                    have HLT := Lib.hid (HO.out.old hz).lt
                    have hB7 := (hbl 0 X5 (fun _ _ => Nat.zero_le _) (Nat.zero_le _) (Below.refl 0 X5)).size
                    replace hb := hbl _ _ (fun b hb => by have := (HLT.out b hb).1; omega) (by omega) (hb.trans (hz.mono hb.size))
                    have hp5 := heap_lt hp
                    have hq5 := heap_lt hq
                    have ho5 := heap_lt ho
                    replace hp := (hk9 p (by omega) (fun e => by have := (HLT.out _ e).1; omega)).trans ((hz.block p hp5).trans hp)
                    replace hq := (hk9 q (by omega) (fun e => by have := (HLT.out _ e).1; omega)).trans ((hz.block q hq5).trans hq)
                    replace ho := (hk9 o (by omega) (fun e => by have := (HLT.out _ e).1; omega)).trans ((hz.block o ho5).trans ho)
                    rw [← HTK.out] at hown
                    replace HO := Lib.hid hown
                    have hB8 : B2 ≤ w9.heap.size := by omega
                    clear hown hk9 hbl HA7 hq3 HLT hp5 hq5 ho5 hlq3 hz hzs hB7 HC HRK
                    try simp only [put_lit, List.set_cons_zero, List.set_cons_succ]
                    refine ha_k (i := 13) rfl (by kernel_rfl) (by kernel_rfl) (by kernel_rfl) (fun _ _ _ _ h => h) hS rfl (fun K hK => ?_); go_simp; refine hK _ ?_; clear hK K; try simp only [put_lit, List.set_cons_zero, List.set_cons_succ]
                    clear hS
                    refine wpAnyH_done (by kernel_rfl) ?_ _
                    go_wp2_with fail
                    go_roundw
                    case rel => exact ⟨j2 + 1, _, _, _, by omega, by go_num, rfl, HO, hb, hB8, hp, hq, ho⟩
                    case measure => simp [intOf]; omega
                  · have hltJ : ¬ (j2 : Int) < (l2 : Int) := by omega
                    replace HO : Hid (OwnT wr B2 (.slice A9 l9 c9) (xt.map (substTy yn yt))) := Lib.hid (by have := HO.out; rwa [List.take_of_length_le (by rw [HL2.out]; omega)] at this)
                    obtain ⟨A9', l9', c9', he9, h9⟩ := HO.out.at
                    cases he9
                    have H9 := Lib.hid h9
                    clear h9 HO
                    go_upto_region 12 with (fail)
                    apply wp_region_lit
                    (with_reducible refine wl_k ?_ ?_); exact rfl; intro K hK; go_simp; refine hK _ ?_; clear hK K
                    (with_reducible refine wl_k ?_ ?_); exact rfl; intro K hK; go_simp; refine hK _ ?_; clear hK K
                    (first | ((with_reducible apply wl_oneG); exact rfl; exact rfl; first | exact s0 (by with_reducible assumption) | exact s1 (by with_reducible assumption)) | ((with_reducible apply wl_rowG); exact rfl; exact rfl; exact f4 (by with_reducible assumption)))
                    (with_reducible refine wl_k ?_ ?_); exact rfl; intro K hK; go_simp; refine hK _ ?_; clear hK K
                    (with_reducible refine wl_k ?_ ?_); exact rfl; intro K hK; go_simp; refine hK _ ?_; clear hK K
                    obtain ⟨T1, hT1⟩ : ∃ T1, T1 = substTy xn xt t := ⟨_, rfl⟩
                    obtain ⟨U, hU⟩ : ∃ U, U = substTy xn (xt.map (substTy yn yt)) t := ⟨_, rfl⟩
                    have hTU : substTy yn yt T1 = U := by rw [hT1, hU]; exact subst_twice t fun s hs => HGOOD.out s hs
                    have hn0 := HN0.out
                    have hnT : T1.nodes ≤ 1000000 := by
                      have h1 := subst_nodes (ns := xn) (ts := xt) (K := 150) (by omega) HN1.out t
                      rw [← hT1] at h1; omega
                    have hnX : ∀ u, u ∈ xt.map (substTy yn yt) → u.nodes ≤ 1000000 := fun u hu => by
                      obtain ⟨x, hx, rfl⟩ := List.mem_map.1 hu
                      have h1 := subst_nodes (ns := yn) (ts := yt) (K := 150) (by omega) HN2.out x
                      have h2 := HN1.out x hx
                      omega
                    have HC5 : Hid (∀ w', Below w.heap.size w w' → Calls Tryd.prog 20 #[.agg (cell4 k s n A l c), .slice A1 l1 c1, .slice A2 l2 c2] w' (NewTy w' T1)) := Lib.hid fun w' hw => by
                      rw [hT1]; exact Subst_any xn xt (fun u hu => by have := HN1.out u hu; omega) t (by omega) w' D Dx _ (HT.out.old hw) A1 A2 l1 c1 l2 c2 (HXN.out.old hw) (HX.out.old hw)
                    have HC10 : Hid (∀ (w' : World) (D5 : Nat → Prop) (row5 : Array Value), Below w.heap.size w w' → TyAt w' D5 T1 row5 → Calls Tryd.prog 20 #[.agg row5, .slice A3 l3 c3, .slice A4 l4 c4] w' (NewTy w' U)) := Lib.hid fun w' D5 row5 hw h5 => by
                      rw [← hTU]; exact Subst_any yn yt (fun u hu => by have := HN2.out u hu; omega) T1 hnT w' D5 Dy _ h5 A3 A4 l3 c3 l4 c4 (HYN.out.old hw) (HY.out.old hw)
                    have HC9 : Hid (∀ w', Below w.heap.size w w' → TysAt w' (fun b => B2 ≤ b) (xt.map (substTy yn yt)) A9 l9 c9 → Calls Tryd.prog 20 #[.agg (cell4 k s n A l c), .slice A1 l1 c1, .slice A9 l9 c9] w' (NewTy w' U)) := Lib.hid fun w' hw h9 => by
                      rw [hU]; exact Subst_any xn _ hnX t (by omega) w' D _ _ (HT.out.old hw) A1 A9 l1 c1 l9 c9 (HXN.out.old hw) h9
                    clear hT1 hU hTU hnT hnX hn0 HN0 HN1 HN2 HGOOD HT HX HY HXN HYN HL2 hpB hqB hoB hwB hB3
                    go_upto_region 15 with (fail)
                    have hb0 := hb.size
                    refine wp_region_held_drew (S := Below wr.heap.size wr) mixed ((Below.refl _ wr).drew) (fun hS => ?_)
                    refine ha_val (i := 0) rfl (by kernel_rfl) (by kernel_rfl) (by kernel_rfl) (fun _ _ _ h => h) hS rfl (fun w' hw' => ex_row rfl (f4 (below_look hw' hp))) ?_; try simp only [put_lit, List.set_cons_zero, List.set_cons_succ]
                    refine ha_k (i := 1) rfl (by kernel_rfl) (by kernel_rfl) (by kernel_rfl) (fun _ _ _ _ h => h) hS rfl (fun K hK => ?_); go_simp; refine hK _ ?_; clear hK K; try simp only [put_lit, List.set_cons_zero, List.set_cons_succ]
                    refine ha_val (i := 2) rfl (by kernel_rfl) (by kernel_rfl) (by kernel_rfl) (fun _ _ _ h => h) hS rfl (fun w' hw' => ex_one rfl (s0 (below_look hw' hq))) ?_; try simp only [put_lit, List.set_cons_zero, List.set_cons_succ]
                    refine ha_k (i := 3) rfl (by kernel_rfl) (by kernel_rfl) (by kernel_rfl) (fun _ _ _ _ h => h) hS rfl (fun K hK => ?_); go_simp; refine hK _ ?_; clear hK K; try simp only [put_lit, List.set_cons_zero, List.set_cons_succ]
                    refine ha_val (i := 4) rfl (by kernel_rfl) (by kernel_rfl) (by kernel_rfl) (fun _ _ _ h => h) hS rfl (fun w' hw' => ex_one rfl (s1 (below_look hw' hq))) ?_; try simp only [put_lit, List.set_cons_zero, List.set_cons_succ]
                    refine ha_k (i := 6) rfl (by kernel_rfl) (by kernel_rfl) (by kernel_rfl) (fun _ _ _ _ h => h) hS rfl (fun K hK => ?_); go_simp; refine hK _ ?_; clear hK K; try simp only [put_lit, List.set_cons_zero, List.set_cons_succ]
                    refine ha_val (i := 7) rfl (by kernel_rfl) (by kernel_rfl) (by kernel_rfl) (fun _ _ _ h => h) hS rfl (fun w' hw' => ex_one rfl (s0 (below_look hw' ho))) ?_; try simp only [put_lit, List.set_cons_zero, List.set_cons_succ]
                    refine ha_k (i := 8) rfl (by kernel_rfl) (by kernel_rfl) (by kernel_rfl) (fun _ _ _ _ h => h) hS rfl (fun K hK => ?_); go_simp; refine hK _ ?_; clear hK K; try simp only [put_lit, List.set_cons_zero, List.set_cons_succ]
                    refine ha_val (i := 9) rfl (by kernel_rfl) (by kernel_rfl) (by kernel_rfl) (fun _ _ _ h => h) hS rfl (fun w' hw' => ex_one rfl (s1 (below_look hw' ho))) ?_; try simp only [put_lit, List.set_cons_zero, List.set_cons_succ]
                    refine ha_two (i := 5) (j := 11) (by kernel_rfl) ?_ ?_
                    · have HH := Lib.hid (HC5.out _ (hb.trans (hS.mono hb.size)))
                      refine sh_call (i := 5) rfl rfl (fun K hK => ?_)
                      go_simp; refine ⟨_, _, ⟨rfl, rfl⟩, hK _ _ ⟨_, HH.out, ?_⟩⟩; clear hK K; rintro e w5 ⟨row5, rfl, hta5, hbc⟩; refine ⟨_, rfl, hS.trans (hbc.mono hS.size), ?_⟩
                      replace hS := hS.trans (hbc.mono hS.size)
                      try simp only [put_lit, List.set_cons_zero, List.set_cons_succ]
                      have HT5 := Lib.hid hta5
                      clear hta5 hbc HH
                      refine ha_two (i := 10) (j := 11) (by kernel_rfl) ?_ ?_
                      · have HH := Lib.hid (HC10.out _ _ _ (hb.trans (hS.mono hb.size)) HT5.out)
                        refine sh_call (i := 10) rfl rfl (fun K hK => ?_)
                        go_simp; refine ⟨_, _, ⟨rfl, rfl⟩, hK _ _ ⟨_, HH.out, ?_⟩⟩; clear hK K; rintro e w6 ⟨row6, rfl, hta6, hbc⟩; refine ⟨_, rfl, hS.trans (hbc.mono hS.size), ?_⟩
                        replace hS := hS.trans (hbc.mono hS.size)
                        try simp only [put_lit, List.set_cons_zero, List.set_cons_succ]
                        obtain ⟨k6, s6, n6, A6, l6, c6, ts6, hu6, rfl, -⟩ := hta6.parts
                        have hs6 := hS.size
                        have HT6 := Lib.hid hta6
                        clear hta6 hbc HH hu6 HT5
                        refine ha_all (i := 11) (by kernel_rfl) rfl rfl rfl (fun W hW => hS.trans (hW.mono hS.size)) ?_
                        intro W7 z hbz hlz hz hS7
                        have HA := Lib.hid ((HT6.out.low.weak (D' := fun b => b ≠ z) fun b h => by have := h.2; omega).old hbz)
                        have hzl : wr.heap.size ≤ z := by omega
                        clear HT6 hS hbz hlz hs6
                        have hS := hS7
                        clear hS7
                        try simp only [put_lit, List.set_cons_zero, List.set_cons_succ]
                        refine ha_put (i := 12) (by kernel_rfl) rfl rfl _ _ rfl rfl rfl hz (fun W hW => hW _ _ hzl hS) ?_
                        intro X hbx hsz hkx hnx hSX
                        replace HA := Lib.hid (HA.out.mono (D' := Any) (fun _ _ => trivial) (fun b h => hkx b h))
                        replace hp := below_look hSX hp
                        replace hq := below_look hSX hq
                        replace H9 := Lib.hid (H9.out.old hSX)
                        replace hb := hb.trans (hSX.mono hb.size)
                        clear hz hbx hsz hkx hS hSX ho HC5 HC10 hzl
                        have hz := hnx
                        clear hnx
                        refine wpAnyH_done (by kernel_rfl) ?_ _
                        go_upto_region 16 with (fail)
                        refine wp_region_held_drew (S := Below X.heap.size X) mixed ((Below.refl _ X).drew) (fun hS => ?_)
                        refine ha_val (i := 0) rfl (by kernel_rfl) (by kernel_rfl) (by kernel_rfl) (fun _ _ _ h => h) hS rfl (fun w' hw' => ex_row rfl (f4 (below_look hw' hz))) ?_; try simp only [put_lit, List.set_cons_zero, List.set_cons_succ]
                        refine ha_val (i := 1) rfl (by kernel_rfl) (by kernel_rfl) (by kernel_rfl) (fun _ _ _ h => h) hS rfl (fun w' hw' => ex_row rfl (f4 (below_look hw' hp))) ?_; try simp only [put_lit, List.set_cons_zero, List.set_cons_succ]
                        refine ha_k (i := 2) rfl (by kernel_rfl) (by kernel_rfl) (by kernel_rfl) (fun _ _ _ _ h => h) hS rfl (fun K hK => ?_); go_simp; refine hK _ ?_; clear hK K; try simp only [put_lit, List.set_cons_zero, List.set_cons_succ]
                        refine ha_val (i := 3) rfl (by kernel_rfl) (by kernel_rfl) (by kernel_rfl) (fun _ _ _ h => h) hS rfl (fun w' hw' => ex_one rfl (s0 (below_look hw' hq))) ?_; try simp only [put_lit, List.set_cons_zero, List.set_cons_succ]
                        refine ha_k (i := 4) rfl (by kernel_rfl) (by kernel_rfl) (by kernel_rfl) (fun _ _ _ _ h => h) hS rfl (fun K hK => ?_); go_simp; refine hK _ ?_; clear hK K; try simp only [put_lit, List.set_cons_zero, List.set_cons_succ]
                        have HH := Lib.hid (HC9.out _ (hb.trans (hS.mono hb.size)) (H9.out.old hS))
                        refine ha_call (i := 5) (by kernel_rfl) rfl rfl (fun K hK => ?_)
                        go_simp; refine ⟨_, _, ⟨rfl, rfl⟩, hK _ _ ⟨_, HH.out, ?_⟩⟩; clear hK K; rintro e w8 ⟨row8, rfl, hta8, hbc⟩; refine ⟨_, rfl, hS.trans (hbc.mono hS.size), ?_⟩
                        replace hS := hS.trans (hbc.mono hS.size)
                        try simp only [put_lit, List.set_cons_zero, List.set_cons_succ]
                        replace HA := Lib.hid (HA.out.old hS)
                        have HE := Lib.hid (by have := EqType_any U U w8 _ _ _ row8 HA.out hta8; rwa [eqTy_me] at this : Calls Tryd.prog 21 #[.agg (cell4 k6 s6 n6 A6 l6 c6), .agg row8] w8 fun e w' => e = .returned (.bool true) ∧ Below w8.heap.size w8 w')
                        clear HA hta8 hbc HH
                        refine ha_call (i := 6) (by kernel_rfl) rfl rfl (fun K hK => ?_)
                        go_simp; refine ⟨_, _, ⟨rfl, rfl⟩, hK _ _ ⟨_, HE.out, ?_⟩⟩; clear hK K; rintro e w9 ⟨rfl, hbc⟩; refine ⟨_, rfl, hS.trans (hbc.mono hS.size), ?_⟩
                        replace hS := hS.trans (hbc.mono hS.size)
                        try simp only [put_lit, List.set_cons_zero, List.set_cons_succ]
                        clear HE hbc
                        refine ha_k (i := 7) rfl (by kernel_rfl) (by kernel_rfl) (by kernel_rfl) (fun _ _ _ _ h => h) hS rfl (fun K hK => ?_); go_simp; refine hK _ ?_; clear hK K; try simp only [put_lit, List.set_cons_zero, List.set_cons_succ]
                        refine ha_call (i := 8) (by kernel_rfl) rfl rfl (fun K hK => ?_)
                        go_simp; refine ⟨_, _, ⟨rfl, rfl⟩, hK _ _ ⟨_, awake_any _, ?_⟩⟩; clear hK K; rintro e w10 ⟨rfl, hbc⟩; refine ⟨_, rfl, hS.trans (hbc.mono hS.size), ?_⟩
                        replace hS := hS.trans (hbc.mono hS.size)
                        try simp only [put_lit, List.set_cons_zero, List.set_cons_succ]
                        clear hbc
                        refine ha_k (i := 9) rfl (by kernel_rfl) (by kernel_rfl) (by kernel_rfl) (fun _ _ _ _ h => h) hS rfl (fun K hK => ?_); go_simp; refine hK _ ?_; clear hK K; try simp only [put_lit, List.set_cons_zero, List.set_cons_succ]
                        refine ha_k (i := 10) rfl (by kernel_rfl) (by kernel_rfl) (by kernel_rfl) (fun _ _ _ _ h => h) hS rfl (fun K hK => ?_); go_simp; refine hK _ ?_; clear hK K; try simp only [put_lit, List.set_cons_zero, List.set_cons_succ]
                        replace hb := hb.trans (hS.mono hb.size)
                        clear hS HC9 H9 hz hp hq
                        refine wpAnyH_done (by kernel_rfl) ?_ _
                        go_wp2_with fail
                        go_ret
                        exact ⟨rfl, hb⟩
                      · refine sh_all (i := 11) rfl rfl rfl (fun W hW => hS.trans (hW.mono hS.size)) ?_
                        intro W7 z hbz hlz hz hS7
                        have hs6 := hS.size
                        have hzl : wr.heap.size ≤ z := by omega
                        have hzW := heap_lt hz
                        have HH := Lib.hid (HC10.out _ _ _ (hb.trans (hS7.mono hb.size)) (HT5.out.old hbz))
                        clear hS hbz hlz HT5
                        have hS := hS7
                        clear hS7
                        try simp only [put_lit, List.set_cons_zero, List.set_cons_succ]
                        refine ha_call (i := 10) (by kernel_rfl) rfl rfl (fun K hK => ?_)
                        go_simp; refine ⟨_, _, ⟨rfl, rfl⟩, hK _ _ ⟨_, HH.out, ?_⟩⟩; clear hK K; rintro e w6 ⟨row6, rfl, hta6, hbc⟩; refine ⟨_, rfl, hS.trans (hbc.mono hS.size), ?_⟩
                        replace hS := hS.trans (hbc.mono hS.size)
                        try simp only [put_lit, List.set_cons_zero, List.set_cons_succ]
                        obtain ⟨k6, s6, n6, A6, l6, c6, ts6, hu6, rfl, -⟩ := hta6.parts
                        replace hz := below_look hbc hz
                        have HA := Lib.hid (hta6.weak (D' := fun b => b ≠ z) fun b (h : W7.heap.size ≤ b) => by omega)
                        clear hta6 hbc HH hu6 hzW hs6
                        try simp only [put_lit, List.set_cons_zero, List.set_cons_succ]
                        refine ha_put (i := 12) (by kernel_rfl) rfl rfl _ _ rfl rfl rfl hz (fun W hW => hW _ _ hzl hS) ?_
                        intro X hbx hsz hkx hnx hSX
                        replace HA := Lib.hid (HA.out.mono (D' := Any) (fun _ _ => trivial) (fun b h => hkx b h))
                        replace hp := below_look hSX hp
                        replace hq := below_look hSX hq
                        replace H9 := Lib.hid (H9.out.old hSX)
                        replace hb := hb.trans (hSX.mono hb.size)
                        clear hz hbx hsz hkx hS hSX ho HC5 HC10 hzl
                        have hz := hnx
                        clear hnx
                        refine wpAnyH_done (by kernel_rfl) ?_ _
                        go_upto_region 16 with (fail)
                        refine wp_region_held_drew (S := Below X.heap.size X) mixed ((Below.refl _ X).drew) (fun hS => ?_)
                        refine ha_val (i := 0) rfl (by kernel_rfl) (by kernel_rfl) (by kernel_rfl) (fun _ _ _ h => h) hS rfl (fun w' hw' => ex_row rfl (f4 (below_look hw' hz))) ?_; try simp only [put_lit, List.set_cons_zero, List.set_cons_succ]
                        refine ha_val (i := 1) rfl (by kernel_rfl) (by kernel_rfl) (by kernel_rfl) (fun _ _ _ h => h) hS rfl (fun w' hw' => ex_row rfl (f4 (below_look hw' hp))) ?_; try simp only [put_lit, List.set_cons_zero, List.set_cons_succ]
                        refine ha_k (i := 2) rfl (by kernel_rfl) (by kernel_rfl) (by kernel_rfl) (fun _ _ _ _ h => h) hS rfl (fun K hK => ?_); go_simp; refine hK _ ?_; clear hK K; try simp only [put_lit, List.set_cons_zero, List.set_cons_succ]
                        refine ha_val (i := 3) rfl (by kernel_rfl) (by kernel_rfl) (by kernel_rfl) (fun _ _ _ h => h) hS rfl (fun w' hw' => ex_one rfl (s0 (below_look hw' hq))) ?_; try simp only [put_lit, List.set_cons_zero, List.set_cons_succ]
                        refine ha_k (i := 4) rfl (by kernel_rfl) (by kernel_rfl) (by kernel_rfl) (fun _ _ _ _ h => h) hS rfl (fun K hK => ?_); go_simp; refine hK _ ?_; clear hK K; try simp only [put_lit, List.set_cons_zero, List.set_cons_succ]
                        have HH := Lib.hid (HC9.out _ (hb.trans (hS.mono hb.size)) (H9.out.old hS))
                        refine ha_call (i := 5) (by kernel_rfl) rfl rfl (fun K hK => ?_)
                        go_simp; refine ⟨_, _, ⟨rfl, rfl⟩, hK _ _ ⟨_, HH.out, ?_⟩⟩; clear hK K; rintro e w8 ⟨row8, rfl, hta8, hbc⟩; refine ⟨_, rfl, hS.trans (hbc.mono hS.size), ?_⟩
                        replace hS := hS.trans (hbc.mono hS.size)
                        try simp only [put_lit, List.set_cons_zero, List.set_cons_succ]
                        replace HA := Lib.hid (HA.out.old hS)
                        have HE := Lib.hid (by have := EqType_any U U w8 _ _ _ row8 HA.out hta8; rwa [eqTy_me] at this : Calls Tryd.prog 21 #[.agg (cell4 k6 s6 n6 A6 l6 c6), .agg row8] w8 fun e w' => e = .returned (.bool true) ∧ Below w8.heap.size w8 w')
                        clear HA hta8 hbc HH
                        refine ha_call (i := 6) (by kernel_rfl) rfl rfl (fun K hK => ?_)
                        go_simp; refine ⟨_, _, ⟨rfl, rfl⟩, hK _ _ ⟨_, HE.out, ?_⟩⟩; clear hK K; rintro e w9 ⟨rfl, hbc⟩; refine ⟨_, rfl, hS.trans (hbc.mono hS.size), ?_⟩
                        replace hS := hS.trans (hbc.mono hS.size)
                        try simp only [put_lit, List.set_cons_zero, List.set_cons_succ]
                        clear HE hbc
                        refine ha_k (i := 7) rfl (by kernel_rfl) (by kernel_rfl) (by kernel_rfl) (fun _ _ _ _ h => h) hS rfl (fun K hK => ?_); go_simp; refine hK _ ?_; clear hK K; try simp only [put_lit, List.set_cons_zero, List.set_cons_succ]
                        refine ha_call (i := 8) (by kernel_rfl) rfl rfl (fun K hK => ?_)
                        go_simp; refine ⟨_, _, ⟨rfl, rfl⟩, hK _ _ ⟨_, awake_any _, ?_⟩⟩; clear hK K; rintro e w10 ⟨rfl, hbc⟩; refine ⟨_, rfl, hS.trans (hbc.mono hS.size), ?_⟩
                        replace hS := hS.trans (hbc.mono hS.size)
                        try simp only [put_lit, List.set_cons_zero, List.set_cons_succ]
                        clear hbc
                        refine ha_k (i := 9) rfl (by kernel_rfl) (by kernel_rfl) (by kernel_rfl) (fun _ _ _ _ h => h) hS rfl (fun K hK => ?_); go_simp; refine hK _ ?_; clear hK K; try simp only [put_lit, List.set_cons_zero, List.set_cons_succ]
                        refine ha_k (i := 10) rfl (by kernel_rfl) (by kernel_rfl) (by kernel_rfl) (fun _ _ _ _ h => h) hS rfl (fun K hK => ?_); go_simp; refine hK _ ?_; clear hK K; try simp only [put_lit, List.set_cons_zero, List.set_cons_succ]
                        replace hb := hb.trans (hS.mono hb.size)
                        clear hS HC9 H9 hz hp hq
                        refine wpAnyH_done (by kernel_rfl) ?_ _
                        go_wp2_with fail
                        go_ret
                        exact ⟨rfl, hb⟩
                    · refine sh_all (i := 11) rfl rfl rfl (fun W hW => hS.trans (hW.mono hS.size)) ?_
                      intro W7 z hbz hlz hz hS7
                      have hs6 := hS.size
                      have hzl : wr.heap.size ≤ z := by omega
                      have hzW := heap_lt hz
                      clear hS hbz hlz
                      have hS := hS7
                      clear hS7
                      try simp only [put_lit, List.set_cons_zero, List.set_cons_succ]
                      have HH := Lib.hid (HC5.out _ (hb.trans (hS.mono hb.size)))
                      refine ha_call (i := 5) (by kernel_rfl) rfl rfl (fun K hK => ?_)
                      go_simp; refine ⟨_, _, ⟨rfl, rfl⟩, hK _ _ ⟨_, HH.out, ?_⟩⟩; clear hK K; rintro e w5 ⟨row5, rfl, hta5, hbc⟩; refine ⟨_, rfl, hS.trans (hbc.mono hS.size), ?_⟩
                      replace hS := hS.trans (hbc.mono hS.size)
                      try simp only [put_lit, List.set_cons_zero, List.set_cons_succ]
                      replace hz := below_look hbc hz
                      have hzW5 := hbc.size
                      have HT5 := Lib.hid hta5
                      clear hta5 hbc HH
                      have HH := Lib.hid (HC10.out _ _ _ (hb.trans (hS.mono hb.size)) HT5.out)
                      refine ha_call (i := 10) (by kernel_rfl) rfl rfl (fun K hK => ?_)
                      go_simp; refine ⟨_, _, ⟨rfl, rfl⟩, hK _ _ ⟨_, HH.out, ?_⟩⟩; clear hK K; rintro e w6 ⟨row6, rfl, hta6, hbc⟩; refine ⟨_, rfl, hS.trans (hbc.mono hS.size), ?_⟩
                      replace hS := hS.trans (hbc.mono hS.size)
                      try simp only [put_lit, List.set_cons_zero, List.set_cons_succ]
                      obtain ⟨k6, s6, n6, A6, l6, c6, ts6, hu6, rfl, -⟩ := hta6.parts
                      replace hz := below_look hbc hz
                      have HA := Lib.hid (hta6.weak (D' := fun b => b ≠ z) fun b (h : w5.heap.size ≤ b) => by omega)
                      clear hta6 hbc HH hu6 hzW hs6 HT5 hzW5
                      try simp only [put_lit, List.set_cons_zero, List.set_cons_succ]
                      refine ha_put (i := 12) (by kernel_rfl) rfl rfl _ _ rfl rfl rfl hz (fun W hW => hW _ _ hzl hS) ?_
                      intro X hbx hsz hkx hnx hSX
                      replace HA := Lib.hid (HA.out.mono (D' := Any) (fun _ _ => trivial) (fun b h => hkx b h))
                      replace hp := below_look hSX hp
                      replace hq := below_look hSX hq
                      replace H9 := Lib.hid (H9.out.old hSX)
                      replace hb := hb.trans (hSX.mono hb.size)
                      clear hz hbx hsz hkx hS hSX ho HC5 HC10 hzl
                      have hz := hnx
                      clear hnx
                      refine wpAnyH_done (by kernel_rfl) ?_ _
                      go_upto_region 16 with (fail)
                      refine wp_region_held_drew (S := Below X.heap.size X) mixed ((Below.refl _ X).drew) (fun hS => ?_)
                      refine ha_val (i := 0) rfl (by kernel_rfl) (by kernel_rfl) (by kernel_rfl) (fun _ _ _ h => h) hS rfl (fun w' hw' => ex_row rfl (f4 (below_look hw' hz))) ?_; try simp only [put_lit, List.set_cons_zero, List.set_cons_succ]
                      refine ha_val (i := 1) rfl (by kernel_rfl) (by kernel_rfl) (by kernel_rfl) (fun _ _ _ h => h) hS rfl (fun w' hw' => ex_row rfl (f4 (below_look hw' hp))) ?_; try simp only [put_lit, List.set_cons_zero, List.set_cons_succ]
                      refine ha_k (i := 2) rfl (by kernel_rfl) (by kernel_rfl) (by kernel_rfl) (fun _ _ _ _ h => h) hS rfl (fun K hK => ?_); go_simp; refine hK _ ?_; clear hK K; try simp only [put_lit, List.set_cons_zero, List.set_cons_succ]
                      refine ha_val (i := 3) rfl (by kernel_rfl) (by kernel_rfl) (by kernel_rfl) (fun _ _ _ h => h) hS rfl (fun w' hw' => ex_one rfl (s0 (below_look hw' hq))) ?_; try simp only [put_lit, List.set_cons_zero, List.set_cons_succ]
                      refine ha_k (i := 4) rfl (by kernel_rfl) (by kernel_rfl) (by kernel_rfl) (fun _ _ _ _ h => h) hS rfl (fun K hK => ?_); go_simp; refine hK _ ?_; clear hK K; try simp only [put_lit, List.set_cons_zero, List.set_cons_succ]
                      have HH := Lib.hid (HC9.out _ (hb.trans (hS.mono hb.size)) (H9.out.old hS))
                      refine ha_call (i := 5) (by kernel_rfl) rfl rfl (fun K hK => ?_)
                      go_simp; refine ⟨_, _, ⟨rfl, rfl⟩, hK _ _ ⟨_, HH.out, ?_⟩⟩; clear hK K; rintro e w8 ⟨row8, rfl, hta8, hbc⟩; refine ⟨_, rfl, hS.trans (hbc.mono hS.size), ?_⟩
                      replace hS := hS.trans (hbc.mono hS.size)
                      try simp only [put_lit, List.set_cons_zero, List.set_cons_succ]
                      replace HA := Lib.hid (HA.out.old hS)
                      have HE := Lib.hid (by have := EqType_any U U w8 _ _ _ row8 HA.out hta8; rwa [eqTy_me] at this : Calls Tryd.prog 21 #[.agg (cell4 k6 s6 n6 A6 l6 c6), .agg row8] w8 fun e w' => e = .returned (.bool true) ∧ Below w8.heap.size w8 w')
                      clear HA hta8 hbc HH
                      refine ha_call (i := 6) (by kernel_rfl) rfl rfl (fun K hK => ?_)
                      go_simp; refine ⟨_, _, ⟨rfl, rfl⟩, hK _ _ ⟨_, HE.out, ?_⟩⟩; clear hK K; rintro e w9 ⟨rfl, hbc⟩; refine ⟨_, rfl, hS.trans (hbc.mono hS.size), ?_⟩
                      replace hS := hS.trans (hbc.mono hS.size)
                      try simp only [put_lit, List.set_cons_zero, List.set_cons_succ]
                      clear HE hbc
                      refine ha_k (i := 7) rfl (by kernel_rfl) (by kernel_rfl) (by kernel_rfl) (fun _ _ _ _ h => h) hS rfl (fun K hK => ?_); go_simp; refine hK _ ?_; clear hK K; try simp only [put_lit, List.set_cons_zero, List.set_cons_succ]
                      refine ha_call (i := 8) (by kernel_rfl) rfl rfl (fun K hK => ?_)
                      go_simp; refine ⟨_, _, ⟨rfl, rfl⟩, hK _ _ ⟨_, awake_any _, ?_⟩⟩; clear hK K; rintro e w10 ⟨rfl, hbc⟩; refine ⟨_, rfl, hS.trans (hbc.mono hS.size), ?_⟩
                      replace hS := hS.trans (hbc.mono hS.size)
                      try simp only [put_lit, List.set_cons_zero, List.set_cons_succ]
                      clear hbc
                      refine ha_k (i := 9) rfl (by kernel_rfl) (by kernel_rfl) (by kernel_rfl) (fun _ _ _ _ h => h) hS rfl (fun K hK => ?_); go_simp; refine hK _ ?_; clear hK K; try simp only [put_lit, List.set_cons_zero, List.set_cons_succ]
                      refine ha_k (i := 10) rfl (by kernel_rfl) (by kernel_rfl) (by kernel_rfl) (fun _ _ _ _ h => h) hS rfl (fun K hK => ?_); go_simp; refine hK _ ?_; clear hK K; try simp only [put_lit, List.set_cons_zero, List.set_cons_succ]
                      replace hb := hb.trans (hS.mono hb.size)
                      clear hS HC9 H9 hz hp hq
                      refine wpAnyH_done (by kernel_rfl) ?_ _
                      go_wp2_with fail
                      go_ret
                      exact ⟨rfl, hb⟩
end Go.Proofs.YtokmaehefenpmaaDoor
