/- The law TypesMatch: whatever the input it returns true. -/
import Derived.Test.YtokmaehefenpmaaDoorM6
import Derived.Test.YtokmaehefenpmaaDoorW12
import Derived.Test.YtokmaehefenpmaaDoorV10
import Derived.Test.YtokmaehefenpmaaDoorTyHas
namespace Go.Proofs.YtokmaehefenpmaaDoor
open Go.RowKit Go.Proofs.YtokmaehefenpmaaDoor.Nm
set_option linter.unusedSimpArgs false
def cell8 (k : Int) (s : ByteArray) (n : Int) (A : Option Addr) (l c : Nat) (k' : Int) (s' : ByteArray) (n' : Int) (A' : Option Addr) (l' c' : Nat) : Array Value :=
  #[.int .i64 k, .string s, .int .i64 n, .slice A l c, .int .i64 k', .string s', .int .i64 n', .slice A' l' c']
section
variable {k : Int} {s : ByteArray} {n : Int} {A : Option Addr} {l c : Nat} {k' : Int} {s' : ByteArray} {n' : Int} {A' : Option Addr} {l' c' : Nat}
theorem run_bs2 (w : World) : (Instr.buildSlice 22 2 #[(0, .agg (cell4 k s n A l c)), (1, .agg (cell4 k' s' n' A' l' c'))]).run Tryd.prog w =
    .ok (.slice (some ⟨w.heap.size, 0, none⟩) 2 2) (w.alloc (.cells (cell8 k s n A l c k' s' n' A' l' c') 24)) := by kernel_rfl
theorem ex_bs2 {ev : Operand → Value} {o : Oper} {w : World} (x y : Operand) (ho : o.op = .buildSlice 22 2 #[(0, x), (1, y)]) (hx : ev x = .agg (cell4 k s n A l c)) (hy : ev y = .agg (cell4 k' s' n' A' l' c')) :
    (execOp ev o).run Tryd.prog w = .ok (.value (.slice (some ⟨w.heap.size, 0, none⟩) 2 2)) (w.alloc (.cells (cell8 k s n A l c k' s' n' A' l' c') 24)) := by
  unfold execOp
  have := run_bs2 (k := k) (s := s) (n := n) (A := A) (l := l) (c := c) (k' := k') (s' := s') (n' := n') (A' := A') (l' := l') (c' := c') w
  simp [ho, hx, hy, this, Result.andThen]
theorem two_at {w : World} {D D' : Nat → Prop} {t u : Ty} (h : TyAt w D t (cell4 k s n A l c)) (h' : TyAt w D' u (cell4 k' s' n' A' l' c')) {p : Nat} {tq : TypeId} {fr : Nat × Nat} (hp : w.heap[p]? = some (.cells (cell8 k s n A l c k' s' n' A' l' c') tq fr)) : TysAt w Any [t, u] (some ⟨p, 0, none⟩) 2 2 :=
  ⟨rfl, Nat.le_refl _, by unfold maxLen; omega, fun i => if i = 0 then cell4 k s n A l c else cell4 k' s' n' A' l' c', fun i x hx => by
    match i, hx with
    | 0, _ => exact ⟨p, 0, _, tq, fr, rfl, trivial, hp, by rfl⟩
    | 1, _ => exact ⟨p, 0, _, tq, fr, rfl, trivial, hp, by rfl⟩
    | i + 2, hx => simp at hx, fun i x hx => by
    match i, hx with
    | 0, hx => simp at hx; subst hx; exact h.weak fun _ _ => trivial
    | 1, hx => simp at hx; subst hx; exact h'.weak fun _ _ => trivial
    | i + 2, hx => simp at hx⟩
end
theorem eqTys_me (ts : List Ty) : eqTys ts ts = true := by simp [eqTys]
theorem eqTy_id (t : Ty) : eqTy t t = true := by simp [eqTy]
theorem MtPost.of_none {ns : List ByteArray} {p t : Ty} {w w' : World} {e : Ending} (h : MtPost ns p t w e w') (hn : matchTy ns p t (List.replicate ns.length none) = none) : e = .returned (.tuple #[.slice none 0 0, .bool false]) ∧ Below w.heap.size w w' := by
  obtain ⟨hb, ⟨-, h⟩ | ⟨st, g, h, -⟩⟩ := h
  · exact ⟨h, hb⟩
  · rw [hn] at h; cases h
theorem MtPost.of_some {ns : List ByteArray} {p t : Ty} {w w' : World} {e : Ending} (h : MtPost ns p t w e w') {st : List (Option Ty)} (hn : matchTy ns p t (List.replicate ns.length none) = some st) : ∃ g, e = .returned (.tuple #[.slice (some ⟨g, 0, none⟩) ns.length ns.length, .bool true]) ∧ TysAt w' Any (tysOf st) (some ⟨g, 0, none⟩) ns.length ns.length ∧ Below w.heap.size w w' := by
  obtain ⟨hb, ⟨h, -⟩ | ⟨st', g, h, h1, h2⟩⟩ := h
  · rw [hn] at h; cases h
  · rw [hn] at h; cases h
    exact ⟨g, h1, h2, hb⟩
set_option maxHeartbeats 8000000 in
set_option maxRecDepth 100000 in
theorem TypesMatch_any (ns : List ByteArray) (u t : Ty) (w : World) (D D' : Nat → Prop) (row row' : Array Value) (h : TyAt w D u row) (h' : TyAt w D' t row') (An : Option Addr) (ln cn : Nat) (hn : TxAt w ns An ln cn) (hsz : ∀ s, s ∈ ns → s.size ≤ maxLen) :
    Calls Tryd.prog 6 #[.slice An ln cn, .agg row, .agg row'] w fun e w' => e = .returned (.bool true) ∧ Below w.heap.size w w' := by
  obtain rfl := hn.len
  obtain ⟨k, s, n, A, l, c, ts1, he, rfl, -⟩ := h.parts
  obtain ⟨k', s', n', A', l', c', ts1', he', rfl, -⟩ := h'.parts
  have HU := Lib.hid h
  have HT := Lib.hid h'
  have HN := Lib.hid hn
  have HS := Lib.hid hsz
  clear h h' he he' hn hsz
  have hb := Below.refl w.heap.size w
  go_enter Tryd.func6, Tryd.ntmps6
  go_upto_region 0 with (fail)
  apply wp_region_lit
  (with_reducible refine wl_box rfl ?_); intro W p hbn hlp hp; replace hb := hb.trans (hbn.mono hb.size); clear hbn; simp only [put_lit, List.set_cons_zero, List.set_cons_succ]
  have lthpq := heap_lt hp; (with_reducible refine wl_box rfl ?_); intro W2 q hbn hlq hq; replace hp := below_look hbn hp; replace hb := hb.trans (hbn.mono hb.size); clear hbn; simp only [put_lit, List.set_cons_zero, List.set_cons_succ]
  (with_reducible refine wl_k ?_ ?_); exact rfl; intro K hK; go_simp; refine hK _ ?_; clear hK K
  go_upto_region 1 with (fail)
  apply wp_region_lit
  (first | ((with_reducible apply wl_oneG); exact rfl; exact rfl; first | exact f0 (by with_reducible assumption) | exact f1 (by with_reducible assumption) | exact f2 (by with_reducible assumption) | exact f3 (by with_reducible assumption) | with_reducible assumption | exact g22 (by with_reducible assumption) | exact g25 (by with_reducible assumption)) | ((with_reducible apply wl_rowG); exact rfl; exact rfl; first | with_reducible assumption | exact RowK.now (by with_reducible assumption) | exact f4 (by with_reducible assumption)))
  (first | ((with_reducible apply wl_oneG); exact rfl; exact rfl; first | exact f0 (by with_reducible assumption) | exact f1 (by with_reducible assumption) | exact f2 (by with_reducible assumption) | exact f3 (by with_reducible assumption) | with_reducible assumption | exact g22 (by with_reducible assumption) | exact g25 (by with_reducible assumption)) | ((with_reducible apply wl_rowG); exact rfl; exact rfl; first | with_reducible assumption | exact RowK.now (by with_reducible assumption) | exact f4 (by with_reducible assumption)))
  simp only [put_lit, List.set_cons_zero, List.set_cons_succ]
  have hb4 := (Below.refl _ W2).alloc (Nat.le_refl _) (.cells (cell8 k s n A l c k' s' n' A' l' c') 24)
  have HNW := Lib.hid (ha_new (w := W2) (o := .cells (cell8 k s n A l c k' s' n' A' l' c') 24) rfl)
  refine wl_w rfl (ex_bs2 _ _ rfl rfl rfl) ?_
  obtain ⟨W4, hW4⟩ : ∃ W, W = W2.alloc (.cells (cell8 k s n A l c k' s' n' A' l' c') 24) := ⟨_, rfl⟩
  obtain ⟨r, hr⟩ : ∃ r, r = W2.heap.size := ⟨_, rfl⟩
  rw [← hr] at HNW ⊢
  rw [← hW4] at HNW hb4 ⊢
  clear hr hW4
  replace hp := below_look hb4 hp; replace hq := below_look hb4 hq; replace hb := hb.trans (hb4.mono hb.size); clear hb4
  simp only [put_lit, List.set_cons_zero, List.set_cons_succ]
  have HC := Lib.hid (small_any [u, t] _ 2 2 W4 Any (two_at (HU.out.old hb) (HT.out.old hb) HNW.out))
  clear HNW
  (with_reducible refine wl_ck ?_ ?_); exact rfl; intro K hK; go_simp; refine ⟨_, _, ⟨rfl, rfl⟩, hK _ _ ⟨_, HC.out, ?_⟩⟩; clear hK K; rintro e w2 ⟨⟨b1, rfl, hb1⟩, hb2⟩; refine ⟨_, rfl, ?_⟩; simp only [put_lit, List.set_cons_zero, List.set_cons_succ]
  have HB1 := Lib.hid hb1
  replace hp := below_look hb2 hp; replace hq := below_look hb2 hq; replace hb := hb.trans (hb2.mono hb.size); clear hb2
  clear HC hb1
  cases b1 with
  | false =>
    (with_reducible refine wl_k ?_ ?_); exact rfl; intro K hK; go_simp; refine hK _ ?_; clear hK K
    (with_reducible refine wl_k ?_ ?_); exact rfl; intro K hK; go_simp; refine hK _ ?_; clear hK K
    (first | ((with_reducible refine wl_skipU ?_ ?_ ?_); exact rfl; exact rfl) | ((with_reducible refine wl_skip ?_ ?_); exact rfl; simp only [put_lit, List.set_cons_zero, List.set_cons_succ]))
    (first | ((with_reducible refine wl_skipU ?_ ?_ ?_); exact rfl; exact rfl) | ((with_reducible refine wl_skip ?_ ?_); exact rfl; simp only [put_lit, List.set_cons_zero, List.set_cons_succ]))
    (first | ((with_reducible refine wl_skipU ?_ ?_ ?_); exact rfl; exact rfl) | ((with_reducible refine wl_skip ?_ ?_); exact rfl; simp only [put_lit, List.set_cons_zero, List.set_cons_succ]))
    (with_reducible refine wl_k ?_ ?_); exact rfl; intro K hK; go_simp; refine hK _ ?_; clear hK K
    clear hp hq
    go_wp2_with fail
    go_ret
    exact ⟨rfl, hb⟩
  | true =>
    have HC := Lib.hid (short_any ns An ns.length cn w2 (HN.out.old hb) HS.out)
    (with_reducible refine wl_k ?_ ?_); exact rfl; intro K hK; go_simp; refine hK _ ?_; clear hK K
    (with_reducible refine wl_k ?_ ?_); exact rfl; intro K hK; go_simp; refine hK _ ?_; clear hK K
    (with_reducible refine wl_k ?_ ?_); exact rfl; intro K hK; go_simp; refine hK _ ?_; clear hK K
    (with_reducible refine wl_ck ?_ ?_); exact rfl; intro K hK; go_simp; refine ⟨_, _, ⟨rfl, rfl⟩, hK _ _ ⟨_, HC.out, ?_⟩⟩; clear hK K; rintro e w3 ⟨⟨b2, rfl, hb3⟩, hb4⟩; refine ⟨_, rfl, ?_⟩; simp only [put_lit, List.set_cons_zero, List.set_cons_succ]
    have HB2 := Lib.hid hb3
    replace hp := below_look hb4 hp; replace hq := below_look hb4 hq; replace hb := hb.trans (hb4.mono hb.size); clear hb4
    clear HC hb3
    cases b2 with
    | false =>
      (with_reducible refine wl_k ?_ ?_); exact rfl; intro K hK; go_simp; refine hK _ ?_; clear hK K
      (with_reducible refine wl_k ?_ ?_); exact rfl; intro K hK; go_simp; refine hK _ ?_; clear hK K
      clear hp hq
      go_wp2_with fail
      go_ret
      exact ⟨rfl, hb⟩
    | true =>
      (with_reducible refine wl_k ?_ ?_); exact rfl; intro K hK; go_simp; refine hK _ ?_; clear hK K
      (with_reducible refine wl_k ?_ ?_); exact rfl; intro K hK; go_simp; refine hK _ ?_; clear hK K
      have HFEW : Hid (ns.length ≤ 60) := Lib.hid (HB2.out rfl)
      have hu150 : u.nodes ≤ 150 := (HB1.out rfl).2 u (by simp)
      have ht150 : t.nodes ≤ 150 := (HB1.out rfl).2 t (by simp)
      have HN1 : Hid (u.nodes ≤ 1000000) := Lib.hid (by omega)
      have HN2 : Hid (t.nodes ≤ 1000000) := Lib.hid (by omega)
      clear HB1 HB2 hu150 ht150 HS
      have HM : Hid (∀ w', Below w.heap.size w w' → Calls Tryd.prog 29 #[.slice An ns.length cn, .agg (cell4 k s n A l c), .agg (cell4 k' s' n' A' l' c')] w' (MtPost ns u t w')) := Lib.hid fun w' hw => Match_any ns An ns.length cn u t w' D D' _ _ (HN.out.old hw) HFEW.out (HU.out.old hw) (HT.out.old hw) HN2.out
      have HI : Hid (∀ w', Below w.heap.size w w' → Calls Tryd.prog 30 #[.slice An ns.length cn, .agg (cell4 k s n A l c), .agg (cell4 k' s' n' A' l' c')] w' (MtPost ns u t w')) := Lib.hid fun w' hw => MatchI_any ns An ns.length cn u t w' D D' _ _ (HN.out.old hw) HFEW.out (HU.out.old hw) (HT.out.old hw) HN2.out
      cases hmm : matchTy ns u t (List.replicate ns.length none) with
      | none =>
        replace HM := Lib.hid fun w' hw => (HM.out w' hw).mono fun e w2 h => h.of_none hmm
        replace HI := Lib.hid fun w' hw => (HI.out w' hw).mono fun e w2 h => h.of_none hmm
        have HE : Hid (∀ w', Calls Tryd.prog 31 #[.slice none 0 0, .slice none 0 0] w' fun e w2 => e = .returned (.bool true) ∧ Below w'.heap.size w' w2) := Lib.hid fun w' => by
          have := EqTypes_any [] [] none none 0 0 0 0 w' Any Any (TysAt.nil _ _) (TysAt.nil _ _)
          rwa [eqTys_me] at this
        clear hmm HN1 HN2 HFEW HU HT HN
        go_upto_region 3 with (fail)
        apply wp_region_lit
        (with_reducible refine wl_k ?_ ?_); exact rfl; intro K hK; go_simp; refine hK _ ?_; clear hK K
        (first | ((with_reducible apply wl_oneG); exact rfl; exact rfl; first | exact f0 (by with_reducible assumption) | exact f1 (by with_reducible assumption) | exact f2 (by with_reducible assumption) | exact f3 (by with_reducible assumption) | with_reducible assumption | exact g22 (by with_reducible assumption) | exact g25 (by with_reducible assumption)) | ((with_reducible apply wl_rowG); exact rfl; exact rfl; first | with_reducible assumption | exact RowK.now (by with_reducible assumption) | exact f4 (by with_reducible assumption)))
        (first | ((with_reducible apply wl_oneG); exact rfl; exact rfl; first | exact f0 (by with_reducible assumption) | exact f1 (by with_reducible assumption) | exact f2 (by with_reducible assumption) | exact f3 (by with_reducible assumption) | with_reducible assumption | exact g22 (by with_reducible assumption) | exact g25 (by with_reducible assumption)) | ((with_reducible apply wl_rowG); exact rfl; exact rfl; first | with_reducible assumption | exact RowK.now (by with_reducible assumption) | exact f4 (by with_reducible assumption)))
        (with_reducible refine wl_ck ?_ ?_); exact rfl; intro K hK; go_simp; refine ⟨_, _, ⟨rfl, rfl⟩, hK _ _ ⟨_, HM.out _ hb, ?_⟩⟩; clear hK K; rintro e w8 ⟨rfl, hb7⟩; refine ⟨_, rfl, ?_⟩; simp only [put_lit, List.set_cons_zero, List.set_cons_succ]; replace hp := below_look hb7 hp; replace hq := below_look hb7 hq; replace hb := hb.trans (hb7.mono hb.size); clear hb7
        (with_reducible refine wl_k ?_ ?_); exact rfl; intro K hK; go_simp; refine hK _ ?_; clear hK K
        (with_reducible refine wl_k ?_ ?_); exact rfl; intro K hK; go_simp; refine hK _ ?_; clear hK K
        (with_reducible refine wl_k ?_ ?_); exact rfl; intro K hK; go_simp; refine hK _ ?_; clear hK K
        (with_reducible refine wl_k ?_ ?_); exact rfl; intro K hK; go_simp; refine hK _ ?_; clear hK K
        (with_reducible refine wl_k ?_ ?_); exact rfl; intro K hK; go_simp; refine hK _ ?_; clear hK K
        go_upto_region 4 with (fail)
        apply wp_region_lit
        (with_reducible refine wl_k ?_ ?_); exact rfl; intro K hK; go_simp; refine hK _ ?_; clear hK K
        (first | ((with_reducible apply wl_oneG); exact rfl; exact rfl; first | exact f0 (by with_reducible assumption) | exact f1 (by with_reducible assumption) | exact f2 (by with_reducible assumption) | exact f3 (by with_reducible assumption) | with_reducible assumption | exact g22 (by with_reducible assumption) | exact g25 (by with_reducible assumption)) | ((with_reducible apply wl_rowG); exact rfl; exact rfl; first | with_reducible assumption | exact RowK.now (by with_reducible assumption) | exact f4 (by with_reducible assumption)))
        (first | ((with_reducible apply wl_oneG); exact rfl; exact rfl; first | exact f0 (by with_reducible assumption) | exact f1 (by with_reducible assumption) | exact f2 (by with_reducible assumption) | exact f3 (by with_reducible assumption) | with_reducible assumption | exact g22 (by with_reducible assumption) | exact g25 (by with_reducible assumption)) | ((with_reducible apply wl_rowG); exact rfl; exact rfl; first | with_reducible assumption | exact RowK.now (by with_reducible assumption) | exact f4 (by with_reducible assumption)))
        (with_reducible refine wl_ck ?_ ?_); exact rfl; intro K hK; go_simp; refine ⟨_, _, ⟨rfl, rfl⟩, hK _ _ ⟨_, HI.out _ hb, ?_⟩⟩; clear hK K; rintro e w8 ⟨rfl, hb7⟩; refine ⟨_, rfl, ?_⟩; simp only [put_lit, List.set_cons_zero, List.set_cons_succ]; replace hp := below_look hb7 hp; replace hq := below_look hb7 hq; replace hb := hb.trans (hb7.mono hb.size); clear hb7
        (with_reducible refine wl_k ?_ ?_); exact rfl; intro K hK; go_simp; refine hK _ ?_; clear hK K
        (with_reducible refine wl_k ?_ ?_); exact rfl; intro K hK; go_simp; refine hK _ ?_; clear hK K
        (with_reducible refine wl_k ?_ ?_); exact rfl; intro K hK; go_simp; refine hK _ ?_; clear hK K
        (with_reducible refine wl_k ?_ ?_); exact rfl; intro K hK; go_simp; refine hK _ ?_; clear hK K
        (with_reducible refine wl_k ?_ ?_); exact rfl; intro K hK; go_simp; refine hK _ ?_; clear hK K
        go_upto_region 5 with (fail)
        apply wp_region_lit
        (with_reducible refine wl_k ?_ ?_); exact rfl; intro K hK; go_simp; refine hK _ ?_; clear hK K
        (with_reducible refine wl_k ?_ ?_); exact rfl; intro K hK; go_simp; refine hK _ ?_; clear hK K
        (with_reducible refine wl_k ?_ ?_); exact rfl; intro K hK; go_simp; refine hK _ ?_; clear hK K
        (with_reducible refine wl_k ?_ ?_); exact rfl; intro K hK; go_simp; refine hK _ ?_; clear hK K
        (with_reducible refine wl_k ?_ ?_); exact rfl; intro K hK; go_simp; refine hK _ ?_; clear hK K
        (with_reducible refine wl_k ?_ ?_); exact rfl; intro K hK; go_simp; refine hK _ ?_; clear hK K
        (with_reducible refine wl_ck ?_ ?_); exact rfl; intro K hK; go_simp; refine ⟨_, _, ⟨rfl, rfl⟩, hK _ _ ⟨_, HE.out _, ?_⟩⟩; clear hK K; rintro e w8 ⟨rfl, hb7⟩; refine ⟨_, rfl, ?_⟩; simp only [put_lit, List.set_cons_zero, List.set_cons_succ]; replace hp := below_look hb7 hp; replace hq := below_look hb7 hq; replace hb := hb.trans (hb7.mono hb.size); clear hb7
        (with_reducible refine wl_k ?_ ?_); exact rfl; intro K hK; go_simp; refine hK _ ?_; clear hK K
        (with_reducible refine wl_k ?_ ?_); exact rfl; intro K hK; go_simp; refine hK _ ?_; clear hK K
        clear HM HI HE
        go_upto_region 7 with (fail)
        apply wp_region_lit
        (with_reducible refine wl_k ?_ ?_); exact rfl; intro K hK; go_simp; refine hK _ ?_; clear hK K
        (with_reducible refine wl_k ?_ ?_); exact rfl; intro K hK; go_simp; refine hK _ ?_; clear hK K
        go_upto_region 8 with (fail)
        apply wp_region_lit
        (with_reducible refine wl_ck ?_ ?_); exact rfl; intro K hK; go_simp; refine ⟨_, _, ⟨rfl, rfl⟩, hK _ _ ⟨_, awake_any _, ?_⟩⟩; clear hK K; rintro e w8 ⟨rfl, hb7⟩; refine ⟨_, rfl, ?_⟩; simp only [put_lit, List.set_cons_zero, List.set_cons_succ]; replace hp := below_look hb7 hp; replace hq := below_look hb7 hq; replace hb := hb.trans (hb7.mono hb.size); clear hb7
        (with_reducible refine wl_k ?_ ?_); exact rfl; intro K hK; go_simp; refine hK _ ?_; clear hK K
        clear hp hq
        go_wp2_with fail
        go_ret
        exact ⟨rfl, hb⟩
      | some st =>
        replace HM := Lib.hid fun w' hw => (HM.out w' hw).mono fun e w2 h => h.of_some hmm
        replace HI := Lib.hid fun w' hw => (HI.out w' hw).mono fun e w2 h => h.of_some hmm
        have HPUT : Hid (substTy ns (tysOf st) u = t) := Lib.hid ((match_put u t _ _ hmm (by simp)).2 st (Ext.refl st))
        have HND : Hid (∀ v, v ∈ tysOf st → v.nodes ≤ 1000000) := Lib.hid (tysOf_nodes (match_nodes u t _ _ hmm HN2.out (nodes_none _ _)) (by omega))
        clear hmm HFEW
        go_upto_region 3 with (fail)
        apply wp_region_lit
        (with_reducible refine wl_k ?_ ?_); exact rfl; intro K hK; go_simp; refine hK _ ?_; clear hK K
        (first | ((with_reducible apply wl_oneG); exact rfl; exact rfl; first | exact f0 (by with_reducible assumption) | exact f1 (by with_reducible assumption) | exact f2 (by with_reducible assumption) | exact f3 (by with_reducible assumption) | with_reducible assumption | exact g22 (by with_reducible assumption) | exact g25 (by with_reducible assumption)) | ((with_reducible apply wl_rowG); exact rfl; exact rfl; first | with_reducible assumption | exact RowK.now (by with_reducible assumption) | exact f4 (by with_reducible assumption)))
        (first | ((with_reducible apply wl_oneG); exact rfl; exact rfl; first | exact f0 (by with_reducible assumption) | exact f1 (by with_reducible assumption) | exact f2 (by with_reducible assumption) | exact f3 (by with_reducible assumption) | with_reducible assumption | exact g22 (by with_reducible assumption) | exact g25 (by with_reducible assumption)) | ((with_reducible apply wl_rowG); exact rfl; exact rfl; first | with_reducible assumption | exact RowK.now (by with_reducible assumption) | exact f4 (by with_reducible assumption)))
        (with_reducible refine wl_ck ?_ ?_); exact rfl; intro K hK; go_simp; refine ⟨_, _, ⟨rfl, rfl⟩, hK _ _ ⟨_, HM.out _ hb, ?_⟩⟩; clear hK K; rintro e w4 ⟨g, rfl, hta, hb4⟩; refine ⟨_, rfl, ?_⟩; simp only [put_lit, List.set_cons_zero, List.set_cons_succ]
        replace hp := below_look hb4 hp; replace hq := below_look hb4 hq; replace hb := hb.trans (hb4.mono hb.size); clear hb4
        have HA := Lib.hid hta
        clear hta HM
        (with_reducible refine wl_k ?_ ?_); exact rfl; intro K hK; go_simp; refine hK _ ?_; clear hK K
        (with_reducible refine wl_k ?_ ?_); exact rfl; intro K hK; go_simp; refine hK _ ?_; clear hK K
        (with_reducible refine wl_k ?_ ?_); exact rfl; intro K hK; go_simp; refine hK _ ?_; clear hK K
        (with_reducible refine wl_k ?_ ?_); exact rfl; intro K hK; go_simp; refine hK _ ?_; clear hK K
        (with_reducible refine wl_k ?_ ?_); exact rfl; intro K hK; go_simp; refine hK _ ?_; clear hK K
        go_upto_region 4 with (fail)
        apply wp_region_lit
        (with_reducible refine wl_k ?_ ?_); exact rfl; intro K hK; go_simp; refine hK _ ?_; clear hK K
        (first | ((with_reducible apply wl_oneG); exact rfl; exact rfl; first | exact f0 (by with_reducible assumption) | exact f1 (by with_reducible assumption) | exact f2 (by with_reducible assumption) | exact f3 (by with_reducible assumption) | with_reducible assumption | exact g22 (by with_reducible assumption) | exact g25 (by with_reducible assumption)) | ((with_reducible apply wl_rowG); exact rfl; exact rfl; first | with_reducible assumption | exact RowK.now (by with_reducible assumption) | exact f4 (by with_reducible assumption)))
        (first | ((with_reducible apply wl_oneG); exact rfl; exact rfl; first | exact f0 (by with_reducible assumption) | exact f1 (by with_reducible assumption) | exact f2 (by with_reducible assumption) | exact f3 (by with_reducible assumption) | with_reducible assumption | exact g22 (by with_reducible assumption) | exact g25 (by with_reducible assumption)) | ((with_reducible apply wl_rowG); exact rfl; exact rfl; first | with_reducible assumption | exact RowK.now (by with_reducible assumption) | exact f4 (by with_reducible assumption)))
        (with_reducible refine wl_ck ?_ ?_); exact rfl; intro K hK; go_simp; refine ⟨_, _, ⟨rfl, rfl⟩, hK _ _ ⟨_, HI.out _ hb, ?_⟩⟩; clear hK K; rintro e w5 ⟨g2, rfl, hta2, hb5⟩; refine ⟨_, rfl, ?_⟩; simp only [put_lit, List.set_cons_zero, List.set_cons_succ]
        replace HA := Lib.hid (HA.out.old hb5)
        replace hp := below_look hb5 hp; replace hq := below_look hb5 hq; replace hb := hb.trans (hb5.mono hb.size); clear hb5
        have HE : Hid (Calls Tryd.prog 31 #[.slice (some ⟨g, 0, none⟩) ns.length ns.length, .slice (some ⟨g2, 0, none⟩) ns.length ns.length] w5 fun e w2 => e = .returned (.bool true) ∧ Below w5.heap.size w5 w2) := Lib.hid (by
          have := EqTypes_any (tysOf st) (tysOf st) _ _ _ _ _ _ w5 Any Any HA.out hta2
          rwa [eqTys_me] at this)
        clear hta2 HI
        (with_reducible refine wl_k ?_ ?_); exact rfl; intro K hK; go_simp; refine hK _ ?_; clear hK K
        (with_reducible refine wl_k ?_ ?_); exact rfl; intro K hK; go_simp; refine hK _ ?_; clear hK K
        (with_reducible refine wl_k ?_ ?_); exact rfl; intro K hK; go_simp; refine hK _ ?_; clear hK K
        (with_reducible refine wl_k ?_ ?_); exact rfl; intro K hK; go_simp; refine hK _ ?_; clear hK K
        (with_reducible refine wl_k ?_ ?_); exact rfl; intro K hK; go_simp; refine hK _ ?_; clear hK K
        go_upto_region 5 with (fail)
        apply wp_region_lit
        (with_reducible refine wl_k ?_ ?_); exact rfl; intro K hK; go_simp; refine hK _ ?_; clear hK K
        (with_reducible refine wl_k ?_ ?_); exact rfl; intro K hK; go_simp; refine hK _ ?_; clear hK K
        (with_reducible refine wl_k ?_ ?_); exact rfl; intro K hK; go_simp; refine hK _ ?_; clear hK K
        (with_reducible refine wl_k ?_ ?_); exact rfl; intro K hK; go_simp; refine hK _ ?_; clear hK K
        (with_reducible refine wl_k ?_ ?_); exact rfl; intro K hK; go_simp; refine hK _ ?_; clear hK K
        (with_reducible refine wl_k ?_ ?_); exact rfl; intro K hK; go_simp; refine hK _ ?_; clear hK K
        (with_reducible refine wl_ck ?_ ?_); exact rfl; intro K hK; go_simp; refine ⟨_, _, ⟨rfl, rfl⟩, hK _ _ ⟨_, HE.out, ?_⟩⟩; clear hK K; rintro e w6 ⟨rfl, hb6⟩; refine ⟨_, rfl, ?_⟩; simp only [put_lit, List.set_cons_zero, List.set_cons_succ]
        replace HA := Lib.hid (HA.out.old hb6)
        replace hp := below_look hb6 hp; replace hq := below_look hb6 hq; replace hb := hb.trans (hb6.mono hb.size); clear hb6
        (with_reducible refine wl_k ?_ ?_); exact rfl; intro K hK; go_simp; refine hK _ ?_; clear hK K
        (with_reducible refine wl_k ?_ ?_); exact rfl; intro K hK; go_simp; refine hK _ ?_; clear hK K
        clear HE
        go_upto_region 7 with (fail)
        apply wp_region_lit
        (with_reducible refine wl_k ?_ ?_); exact rfl; intro K hK; go_simp; refine hK _ ?_; clear hK K
        (with_reducible refine wl_k ?_ ?_); exact rfl; intro K hK; go_simp; refine hK _ ?_; clear hK K
        have HSB : Hid (∀ w', Below w6.heap.size w6 w' → Calls Tryd.prog 20 #[.agg (cell4 k s n A l c), .slice An ns.length cn, .slice (some ⟨g, 0, none⟩) ns.length ns.length] w' (NewTy w' t)) := Lib.hid fun w' hw => by
          have := Subst_any ns (tysOf st) HND.out u HN1.out w' D Any _ (HU.out.old (hb.trans (hw.mono hb.size))) An _ _ _ _ _ (HN.out.old (hb.trans (hw.mono hb.size))) (HA.out.old hw)
          rwa [HPUT.out] at this
        have HEQ : Hid (∀ (w' : World) (D2 : Nat → Prop) (row2 : Array Value), Below w.heap.size w w' → TyAt w' D2 t row2 → Calls Tryd.prog 21 #[.agg row2, .agg (cell4 k' s' n' A' l' c')] w' fun e w2 => e = .returned (.bool true) ∧ Below w'.heap.size w' w2) := Lib.hid fun w' D2 row2 hw h2 => by
          have := EqType_any t t w' D2 D' _ _ h2 (HT.out.old hw)
          rwa [eqTy_id] at this
        clear HPUT HND HN1 HN2 HU HT HN HA
        go_upto_region 9 with (fail)
        refine wp_region_held_drew (S := Below w6.heap.size w6) mixed ((Below.refl _ w6).drew) (fun hS => ?_)
        refine ha_k (i := 0) rfl (by kernel_rfl) (by kernel_rfl) (by kernel_rfl) (fun _ _ _ _ h => h) hS rfl (fun K hK => ?_); go_simp; refine hK _ ?_; clear hK K; try simp only [put_lit, List.set_cons_zero, List.set_cons_succ]
        refine ha_k (i := 1) rfl (by kernel_rfl) (by kernel_rfl) (by kernel_rfl) (fun _ _ _ _ h => h) hS rfl (fun K hK => ?_); go_simp; refine hK _ ?_; clear hK K; try simp only [put_lit, List.set_cons_zero, List.set_cons_succ]
        refine ha_k (i := 2) rfl (by kernel_rfl) (by kernel_rfl) (by kernel_rfl) (fun _ _ _ _ h => h) hS rfl (fun K hK => ?_); go_simp; refine hK _ ?_; clear hK K; try simp only [put_lit, List.set_cons_zero, List.set_cons_succ]
        refine ha_k (i := 3) rfl (by kernel_rfl) (by kernel_rfl) (by kernel_rfl) (fun _ _ _ _ h => h) hS rfl (fun K hK => ?_); go_simp; refine hK _ ?_; clear hK K; try simp only [put_lit, List.set_cons_zero, List.set_cons_succ]
        refine ha_k (i := 4) rfl (by kernel_rfl) (by kernel_rfl) (by kernel_rfl) (fun _ _ _ _ h => h) hS rfl (fun K hK => ?_); go_simp; refine hK _ ?_; clear hK K; try simp only [put_lit, List.set_cons_zero, List.set_cons_succ]
        refine ha_k (i := 5) rfl (by kernel_rfl) (by kernel_rfl) (by kernel_rfl) (fun _ _ _ _ h => h) hS rfl (fun K hK => ?_); go_simp; refine hK _ ?_; clear hK K; try simp only [put_lit, List.set_cons_zero, List.set_cons_succ]
        refine ha_val (i := 6) rfl (by kernel_rfl) (by kernel_rfl) (by kernel_rfl) (fun _ _ _ h => h) hS rfl (fun w' hw' => ex_row rfl (f4 (below_look hw' hp))) ?_; try simp only [put_lit, List.set_cons_zero, List.set_cons_succ]
        refine ha_k (i := 7) rfl (by kernel_rfl) (by kernel_rfl) (by kernel_rfl) (fun _ _ _ _ h => h) hS rfl (fun K hK => ?_); go_simp; refine hK _ ?_; clear hK K; try simp only [put_lit, List.set_cons_zero, List.set_cons_succ]
        refine ha_k (i := 8) rfl (by kernel_rfl) (by kernel_rfl) (by kernel_rfl) (fun _ _ _ _ h => h) hS rfl (fun K hK => ?_); go_simp; refine hK _ ?_; clear hK K; try simp only [put_lit, List.set_cons_zero, List.set_cons_succ]
        refine ha_val (i := 10) rfl (by kernel_rfl) (by kernel_rfl) (by kernel_rfl) (fun _ _ _ h => h) hS rfl (fun w' hw' => ex_row rfl (f4 (below_look hw' hq))) ?_; try simp only [put_lit, List.set_cons_zero, List.set_cons_succ]
        refine ha_call (i := 9) (by kernel_rfl) rfl rfl (fun K hK => ?_)
        go_simp; refine ⟨_, _, ⟨rfl, rfl⟩, hK _ _ ⟨_, HSB.out _ hS, ?_⟩⟩; clear hK K; rintro e w8 ⟨row8, rfl, hta8, hbc⟩; refine ⟨_, rfl, hS.trans (hbc.mono hS.size), ?_⟩
        replace hS := hS.trans (hbc.mono hS.size)
        try simp only [put_lit, List.set_cons_zero, List.set_cons_succ]
        have HE := Lib.hid (HEQ.out _ _ row8 (hb.trans (hS.mono hb.size)) hta8)
        clear HSB HEQ hta8 hbc
        refine ha_call (i := 11) (by kernel_rfl) rfl rfl (fun K hK => ?_)
        go_simp; refine ⟨_, _, ⟨rfl, rfl⟩, hK _ _ ⟨_, HE.out, ?_⟩⟩; clear hK K; rintro e w9 ⟨rfl, hbc⟩; refine ⟨_, rfl, hS.trans (hbc.mono hS.size), ?_⟩
        replace hS := hS.trans (hbc.mono hS.size)
        try simp only [put_lit, List.set_cons_zero, List.set_cons_succ]
        clear HE hbc
        refine ha_k (i := 12) rfl (by kernel_rfl) (by kernel_rfl) (by kernel_rfl) (fun _ _ _ _ h => h) hS rfl (fun K hK => ?_); go_simp; refine hK _ ?_; clear hK K; try simp only [put_lit, List.set_cons_zero, List.set_cons_succ]
        refine ha_k (i := 13) rfl (by kernel_rfl) (by kernel_rfl) (by kernel_rfl) (fun _ _ _ _ h => h) hS rfl (fun K hK => ?_); go_simp; refine hK _ ?_; clear hK K; try simp only [put_lit, List.set_cons_zero, List.set_cons_succ]
        refine ha_call (i := 14) (by kernel_rfl) rfl rfl (fun K hK => ?_)
        go_simp; refine ⟨_, _, ⟨rfl, rfl⟩, hK _ _ ⟨_, awake_any _, ?_⟩⟩; clear hK K; rintro e w10 ⟨rfl, hbc⟩; refine ⟨_, rfl, hS.trans (hbc.mono hS.size), ?_⟩
        replace hS := hS.trans (hbc.mono hS.size)
        try simp only [put_lit, List.set_cons_zero, List.set_cons_succ]
        clear hbc
        refine ha_k (i := 15) rfl (by kernel_rfl) (by kernel_rfl) (by kernel_rfl) (fun _ _ _ _ h => h) hS rfl (fun K hK => ?_); go_simp; refine hK _ ?_; clear hK K; try simp only [put_lit, List.set_cons_zero, List.set_cons_succ]
        refine ha_k (i := 16) rfl (by kernel_rfl) (by kernel_rfl) (by kernel_rfl) (fun _ _ _ _ h => h) hS rfl (fun K hK => ?_); go_simp; refine hK _ ?_; clear hK K; try simp only [put_lit, List.set_cons_zero, List.set_cons_succ]
        replace hb := hb.trans (hS.mono hb.size)
        clear hS hp hq
        refine wpAnyH_done (by kernel_rfl) ?_ _
        go_wp2_with fail
        go_ret
        exact ⟨rfl, hb⟩
end Go.Proofs.YtokmaehefenpmaaDoor
