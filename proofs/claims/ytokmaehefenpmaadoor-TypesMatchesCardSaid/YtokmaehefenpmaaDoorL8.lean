/- The law TypesMatches: whatever the input it returns true. -/
import Derived.Test.YtokmaehefenpmaaDoorL7
import Derived.Test.YtokmaehefenpmaaDoorH1
import Derived.Test.YtokmaehefenpmaaDoorN4
namespace Go.Proofs.YtokmaehefenpmaaDoor
open Go.RowKit Go.Proofs.YtokmaehefenpmaaDoor.Nm
set_option linter.unusedSimpArgs false
theorem tree_one {w : World} {D : Nat → Prop} {t : Ty} {k : Int} {s : ByteArray} {n : Int} {A : Option Addr} {l c : Nat} (h : TyAt w D t (cell4 k s n A l c)) {p : Nat} {tq : TypeId} {fr : Nat × Nat} (hp : w.heap[p]? = some (.cells (cell4 k s n A l c) tq fr)) : TysAt w Any [t] (some ⟨p, 0, none⟩) 1 1 :=
  ⟨rfl, Nat.le_refl _, by unfold maxLen; omega, fun _ => cell4 k s n A l c, fun i u hu => by
    cases i with
    | zero => exact ⟨p, 0, _, tq, fr, rfl, trivial, hp, by rfl⟩
    | succ i => simp at hu, fun i u hu => by
    cases i with
    | zero => simp at hu; subst hu; exact h.weak fun _ _ => trivial
    | succ i => simp at hu⟩
theorem idxI_eq {ns : List ByteArray} {s : ByteArray} {j : Nat} : idxI ns s = (j : Int) ↔ idx ns s = some j := by
  unfold idxI
  cases idx ns s with
  | none => simp
  | some i => simp only [Option.some.injEq]; omega
theorem want_yes {ns : List ByteArray} {ts : List Ty} {p : Ty} {j : Nat} {x : ByteArray} {v : Ty} (h1 : idx ns x = some j) (h2 : hasTy ns x p = true) (h3 : ts[j]? = some v) : wantTy ns ts p j x = v := by
  unfold wantTy
  rw [if_pos ⟨h1, h2⟩, h3]; rfl
theorem want_no {ns : List ByteArray} {ts : List Ty} {p : Ty} {j : Nat} {x : ByteArray} (h : ¬ (idx ns x = some j ∧ hasTy ns x p = true)) : wantTy ns ts p j x = zeroTy := by
  unfold wantTy
  rw [if_neg h]
set_option maxHeartbeats 8000000 in
set_option maxRecDepth 100000 in
theorem TypesMatches_any (u : Ty) (ns : List ByteArray) (ts : List Ty) (w : World) (D D2 : Nat → Prop) (row : Array Value) (h : TyAt w D u row) (An A2 : Option Addr) (ln cn l2 c2 : Nat) (hn : TxAt w ns An ln cn) (hsz : ∀ s, s ∈ ns → s.size ≤ maxLen) (ht : TysAt w D2 ts A2 l2 c2) :
    Calls Tryd.prog 7 #[.agg row, .agg (cell2 An ln cn A2 l2 c2)] w fun e w' => e = .returned (.bool true) ∧ Below w.heap.size w w' := by
  obtain rfl := hn.len
  obtain ⟨k, s, n, A, l, c, ts1, he, rfl, -⟩ := h.parts
  have HU := Lib.hid h
  have HT := Lib.hid ht
  have HN := Lib.hid hn
  have HS := Lib.hid hsz
  have HLT := Lib.hid ht.len
  have hcm := ht.cap
  have hmx := ht.max
  have hcn := hn.cap
  have hmn := hn.max
  unfold maxLen at hmx hmn
  clear h ht he hn hsz
  have hb := Below.refl w.heap.size w
  go_enter Tryd.func7, Tryd.ntmps7
  go_upto_region 0 with (fail)
  apply wp_region_lit
  (with_reducible refine wl_box rfl ?_); intro W p hbn hlp hp; replace hb := hb.trans (hbn.mono hb.size); clear hbn; simp only [put_lit, List.set_cons_zero, List.set_cons_succ]
  have lthpq := heap_lt hp; (with_reducible refine wl_box27 rfl ?_); intro W2 q hbn hlq hq; replace hp := below_look hbn hp; replace hb := hb.trans (hbn.mono hb.size); clear hbn; simp only [put_lit, List.set_cons_zero, List.set_cons_succ]
  (with_reducible refine wl_k ?_ ?_); exact rfl; intro K hK; go_simp; refine hK _ ?_; clear hK K
  go_upto_region 1 with (fail)
  apply wp_region_lit
  (first | ((with_reducible apply wl_oneG); exact rfl; exact rfl; first | exact s0 (by with_reducible assumption) | exact s1 (by with_reducible assumption)) | ((with_reducible apply wl_rowG); exact rfl; exact rfl; first | exact f4 (by with_reducible assumption) | exact RowK.now (by with_reducible assumption)))
  have lthpr := heap_lt hp; have lthqr := heap_lt hq; (with_reducible refine wl_bs rfl ?_); intro W4 r hbn hlr hr; replace hp := below_look hbn hp; replace hq := below_look hbn hq; replace hb := hb.trans (hbn.mono hb.size); clear hbn; simp only [put_lit, List.set_cons_zero, List.set_cons_succ]
  have HC := Lib.hid (small_any [u] _ 1 1 W4 Any (tree_one (HU.out.old hb) hr))
  clear hr
  (with_reducible refine wl_ck ?_ ?_); exact rfl; intro K hK; go_simp; refine ⟨_, _, ⟨rfl, rfl⟩, hK _ _ ⟨_, HC.out, ?_⟩⟩; clear hK K; rintro e w2 ⟨⟨b1, rfl, hb1⟩, hb2⟩; refine ⟨_, rfl, ?_⟩; simp only [put_lit, List.set_cons_zero, List.set_cons_succ]
  have HB1 := Lib.hid hb1
  replace hp := below_look hb2 hp; replace hq := below_look hb2 hq; replace hb := hb.trans (hb2.mono hb.size); clear hb2
  clear HC hb1
  cases b1 with
  | false =>
    (with_reducible refine wl_k ?_ ?_); exact rfl; intro K hK; go_simp; refine hK _ ?_; clear hK K
    (with_reducible refine wl_k ?_ ?_); exact rfl; intro K hK; go_simp; refine hK _ ?_; clear hK K
    (first | ((with_reducible refine wl_skipU ?_ ?_ ?_); exact rfl; exact rfl) | ((with_reducible refine wl_skip ?_ ?_); exact rfl; simp only [put_lit, List.set_cons_zero, List.set_cons_succ]))
    (first | ((with_reducible refine wl_skipU ?_ ?_ ?_); exact rfl; exact rfl) | ((with_reducible refine wl_skip ?_ ?_); exact rfl; simp only [put_lit, List.set_cons_zero, List.set_cons_succ]))
    (first | ((with_reducible refine wl_skipU ?_ ?_ ?_); exact rfl; exact rfl) | ((with_reducible refine wl_skip ?_ ?_); exact rfl; simp only [put_lit, List.set_cons_zero, List.set_cons_succ]))
    (first | ((with_reducible refine wl_skipU ?_ ?_ ?_); exact rfl; exact rfl) | ((with_reducible refine wl_skip ?_ ?_); exact rfl; simp only [put_lit, List.set_cons_zero, List.set_cons_succ]))
    (with_reducible refine wl_k ?_ ?_); exact rfl; intro K hK; go_simp; refine hK _ ?_; clear hK K
    (with_reducible refine wl_k ?_ ?_); exact rfl; intro K hK; go_simp; refine hK _ ?_; clear hK K
    (first | ((with_reducible refine wl_skipU ?_ ?_ ?_); exact rfl; exact rfl) | ((with_reducible refine wl_skip ?_ ?_); exact rfl; simp only [put_lit, List.set_cons_zero, List.set_cons_succ]))
    (first | ((with_reducible refine wl_skipU ?_ ?_ ?_); exact rfl; exact rfl) | ((with_reducible refine wl_skip ?_ ?_); exact rfl; simp only [put_lit, List.set_cons_zero, List.set_cons_succ]))
    (first | ((with_reducible refine wl_skipU ?_ ?_ ?_); exact rfl; exact rfl) | ((with_reducible refine wl_skip ?_ ?_); exact rfl; simp only [put_lit, List.set_cons_zero, List.set_cons_succ]))
    (first | ((with_reducible refine wl_skipU ?_ ?_ ?_); exact rfl; exact rfl) | ((with_reducible refine wl_skip ?_ ?_); exact rfl; simp only [put_lit, List.set_cons_zero, List.set_cons_succ]))
    (with_reducible refine wl_k ?_ ?_); exact rfl; intro K hK; go_simp; refine hK _ ?_; clear hK K
    (with_reducible refine wl_k ?_ ?_); exact rfl; intro K hK; go_simp; refine hK _ ?_; clear hK K
    (first | ((with_reducible refine wl_skipU ?_ ?_ ?_); exact rfl; exact rfl) | ((with_reducible refine wl_skip ?_ ?_); exact rfl; simp only [put_lit, List.set_cons_zero, List.set_cons_succ]))
    (first | ((with_reducible refine wl_skipU ?_ ?_ ?_); exact rfl; exact rfl) | ((with_reducible refine wl_skip ?_ ?_); exact rfl; simp only [put_lit, List.set_cons_zero, List.set_cons_succ]))
    (first | ((with_reducible refine wl_skipU ?_ ?_ ?_); exact rfl; exact rfl) | ((with_reducible refine wl_skip ?_ ?_); exact rfl; simp only [put_lit, List.set_cons_zero, List.set_cons_succ]))
    (first | ((with_reducible refine wl_skipU ?_ ?_ ?_); exact rfl; exact rfl) | ((with_reducible refine wl_skip ?_ ?_); exact rfl; simp only [put_lit, List.set_cons_zero, List.set_cons_succ]))
    (first | ((with_reducible refine wl_skipU ?_ ?_ ?_); exact rfl; exact rfl) | ((with_reducible refine wl_skip ?_ ?_); exact rfl; simp only [put_lit, List.set_cons_zero, List.set_cons_succ]))
    (first | ((with_reducible refine wl_skipU ?_ ?_ ?_); exact rfl; exact rfl) | ((with_reducible refine wl_skip ?_ ?_); exact rfl; simp only [put_lit, List.set_cons_zero, List.set_cons_succ]))
    (first | ((with_reducible refine wl_skipU ?_ ?_ ?_); exact rfl; exact rfl) | ((with_reducible refine wl_skip ?_ ?_); exact rfl; simp only [put_lit, List.set_cons_zero, List.set_cons_succ]))
    (with_reducible refine wl_k ?_ ?_); exact rfl; intro K hK; go_simp; refine hK _ ?_; clear hK K
    clear hp hq
    go_wp2_with fail
    go_ret
    exact ⟨rfl, hb⟩
  | true =>
  have HC := Lib.hid (small_any ts _ _ _ w2 D2 (HT.out.old hb))
  (with_reducible refine wl_k ?_ ?_); exact rfl; intro K hK; go_simp; refine hK _ ?_; clear hK K
  (with_reducible refine wl_k ?_ ?_); exact rfl; intro K hK; go_simp; refine hK _ ?_; clear hK K
  (with_reducible refine wl_k ?_ ?_); exact rfl; intro K hK; go_simp; refine hK _ ?_; clear hK K
  (first | ((with_reducible apply wl_oneG); exact rfl; exact rfl; first | exact s0 (by with_reducible assumption) | exact s1 (by with_reducible assumption)) | ((with_reducible apply wl_rowG); exact rfl; exact rfl; first | exact f4 (by with_reducible assumption) | exact RowK.now (by with_reducible assumption)))
  (with_reducible refine wl_ck ?_ ?_); exact rfl; intro K hK; go_simp; refine ⟨_, _, ⟨rfl, rfl⟩, hK _ _ ⟨_, HC.out, ?_⟩⟩; clear hK K; rintro e w3 ⟨⟨b2, rfl, hb1⟩, hb2⟩; refine ⟨_, rfl, ?_⟩; simp only [put_lit, List.set_cons_zero, List.set_cons_succ]
  have HB2 := Lib.hid hb1
  replace hp := below_look hb2 hp; replace hq := below_look hb2 hq; replace hb := hb.trans (hb2.mono hb.size); clear hb2
  clear HC hb1
  cases b2 with
  | false =>
    (with_reducible refine wl_k ?_ ?_); exact rfl; intro K hK; go_simp; refine hK _ ?_; clear hK K
    (with_reducible refine wl_k ?_ ?_); exact rfl; intro K hK; go_simp; refine hK _ ?_; clear hK K
    (with_reducible refine wl_k ?_ ?_); exact rfl; intro K hK; go_simp; refine hK _ ?_; clear hK K
    (first | ((with_reducible refine wl_skipU ?_ ?_ ?_); exact rfl; exact rfl) | ((with_reducible refine wl_skip ?_ ?_); exact rfl; simp only [put_lit, List.set_cons_zero, List.set_cons_succ]))
    (first | ((with_reducible refine wl_skipU ?_ ?_ ?_); exact rfl; exact rfl) | ((with_reducible refine wl_skip ?_ ?_); exact rfl; simp only [put_lit, List.set_cons_zero, List.set_cons_succ]))
    (first | ((with_reducible refine wl_skipU ?_ ?_ ?_); exact rfl; exact rfl) | ((with_reducible refine wl_skip ?_ ?_); exact rfl; simp only [put_lit, List.set_cons_zero, List.set_cons_succ]))
    (first | ((with_reducible refine wl_skipU ?_ ?_ ?_); exact rfl; exact rfl) | ((with_reducible refine wl_skip ?_ ?_); exact rfl; simp only [put_lit, List.set_cons_zero, List.set_cons_succ]))
    (with_reducible refine wl_k ?_ ?_); exact rfl; intro K hK; go_simp; refine hK _ ?_; clear hK K
    (with_reducible refine wl_k ?_ ?_); exact rfl; intro K hK; go_simp; refine hK _ ?_; clear hK K
    (first | ((with_reducible refine wl_skipU ?_ ?_ ?_); exact rfl; exact rfl) | ((with_reducible refine wl_skip ?_ ?_); exact rfl; simp only [put_lit, List.set_cons_zero, List.set_cons_succ]))
    (first | ((with_reducible refine wl_skipU ?_ ?_ ?_); exact rfl; exact rfl) | ((with_reducible refine wl_skip ?_ ?_); exact rfl; simp only [put_lit, List.set_cons_zero, List.set_cons_succ]))
    (first | ((with_reducible refine wl_skipU ?_ ?_ ?_); exact rfl; exact rfl) | ((with_reducible refine wl_skip ?_ ?_); exact rfl; simp only [put_lit, List.set_cons_zero, List.set_cons_succ]))
    (first | ((with_reducible refine wl_skipU ?_ ?_ ?_); exact rfl; exact rfl) | ((with_reducible refine wl_skip ?_ ?_); exact rfl; simp only [put_lit, List.set_cons_zero, List.set_cons_succ]))
    (first | ((with_reducible refine wl_skipU ?_ ?_ ?_); exact rfl; exact rfl) | ((with_reducible refine wl_skip ?_ ?_); exact rfl; simp only [put_lit, List.set_cons_zero, List.set_cons_succ]))
    (first | ((with_reducible refine wl_skipU ?_ ?_ ?_); exact rfl; exact rfl) | ((with_reducible refine wl_skip ?_ ?_); exact rfl; simp only [put_lit, List.set_cons_zero, List.set_cons_succ]))
    (first | ((with_reducible refine wl_skipU ?_ ?_ ?_); exact rfl; exact rfl) | ((with_reducible refine wl_skip ?_ ?_); exact rfl; simp only [put_lit, List.set_cons_zero, List.set_cons_succ]))
    (with_reducible refine wl_k ?_ ?_); exact rfl; intro K hK; go_simp; refine hK _ ?_; clear hK K
    clear hp hq
    go_wp2_with fail
    go_ret
    exact ⟨rfl, hb⟩
  | true =>
  have HC := Lib.hid (short_any ns _ _ _ w3 (HN.out.old hb) HS.out)
  (with_reducible refine wl_k ?_ ?_); exact rfl; intro K hK; go_simp; refine hK _ ?_; clear hK K
  (with_reducible refine wl_k ?_ ?_); exact rfl; intro K hK; go_simp; refine hK _ ?_; clear hK K
  (with_reducible refine wl_k ?_ ?_); exact rfl; intro K hK; go_simp; refine hK _ ?_; clear hK K
  (with_reducible refine wl_k ?_ ?_); exact rfl; intro K hK; go_simp; refine hK _ ?_; clear hK K
  (first | ((with_reducible apply wl_oneG); exact rfl; exact rfl; first | exact s0 (by with_reducible assumption) | exact s1 (by with_reducible assumption)) | ((with_reducible apply wl_rowG); exact rfl; exact rfl; first | exact f4 (by with_reducible assumption) | exact RowK.now (by with_reducible assumption)))
  (with_reducible refine wl_ck ?_ ?_); exact rfl; intro K hK; go_simp; refine ⟨_, _, ⟨rfl, rfl⟩, hK _ _ ⟨_, HC.out, ?_⟩⟩; clear hK K; rintro e w5 ⟨⟨b3, rfl, hb1⟩, hb2⟩; refine ⟨_, rfl, ?_⟩; simp only [put_lit, List.set_cons_zero, List.set_cons_succ]
  have HB3 := Lib.hid hb1
  replace hp := below_look hb2 hp; replace hq := below_look hb2 hq; replace hb := hb.trans (hb2.mono hb.size); clear hb2
  clear HC hb1
  cases b3 with
  | false =>
    (with_reducible refine wl_k ?_ ?_); exact rfl; intro K hK; go_simp; refine hK _ ?_; clear hK K
    (with_reducible refine wl_k ?_ ?_); exact rfl; intro K hK; go_simp; refine hK _ ?_; clear hK K
    (with_reducible refine wl_k ?_ ?_); exact rfl; intro K hK; go_simp; refine hK _ ?_; clear hK K
    (first | ((with_reducible refine wl_skipU ?_ ?_ ?_); exact rfl; exact rfl) | ((with_reducible refine wl_skip ?_ ?_); exact rfl; simp only [put_lit, List.set_cons_zero, List.set_cons_succ]))
    (first | ((with_reducible refine wl_skipU ?_ ?_ ?_); exact rfl; exact rfl) | ((with_reducible refine wl_skip ?_ ?_); exact rfl; simp only [put_lit, List.set_cons_zero, List.set_cons_succ]))
    (first | ((with_reducible refine wl_skipU ?_ ?_ ?_); exact rfl; exact rfl) | ((with_reducible refine wl_skip ?_ ?_); exact rfl; simp only [put_lit, List.set_cons_zero, List.set_cons_succ]))
    (first | ((with_reducible refine wl_skipU ?_ ?_ ?_); exact rfl; exact rfl) | ((with_reducible refine wl_skip ?_ ?_); exact rfl; simp only [put_lit, List.set_cons_zero, List.set_cons_succ]))
    (first | ((with_reducible refine wl_skipU ?_ ?_ ?_); exact rfl; exact rfl) | ((with_reducible refine wl_skip ?_ ?_); exact rfl; simp only [put_lit, List.set_cons_zero, List.set_cons_succ]))
    (first | ((with_reducible refine wl_skipU ?_ ?_ ?_); exact rfl; exact rfl) | ((with_reducible refine wl_skip ?_ ?_); exact rfl; simp only [put_lit, List.set_cons_zero, List.set_cons_succ]))
    (first | ((with_reducible refine wl_skipU ?_ ?_ ?_); exact rfl; exact rfl) | ((with_reducible refine wl_skip ?_ ?_); exact rfl; simp only [put_lit, List.set_cons_zero, List.set_cons_succ]))
    (with_reducible refine wl_k ?_ ?_); exact rfl; intro K hK; go_simp; refine hK _ ?_; clear hK K
    clear hp hq
    go_wp2_with fail
    go_ret
    exact ⟨rfl, hb⟩
  | true =>
  by_cases hle : (l2 : Int) < (ns.length : Int)
  · (with_reducible refine wl_k ?_ ?_); exact rfl; intro K hK; go_simp; refine hK _ ?_; clear hK K
    (with_reducible refine wl_k ?_ ?_); exact rfl; intro K hK; go_simp; refine hK _ ?_; clear hK K
    (with_reducible refine wl_k ?_ ?_); exact rfl; intro K hK; go_simp; refine hK _ ?_; clear hK K
    (with_reducible refine wl_k ?_ ?_); exact rfl; intro K hK; go_simp; refine hK _ ?_; clear hK K
    (first | ((with_reducible apply wl_oneG); exact rfl; exact rfl; first | exact s0 (by with_reducible assumption) | exact s1 (by with_reducible assumption)) | ((with_reducible apply wl_rowG); exact rfl; exact rfl; first | exact f4 (by with_reducible assumption) | exact RowK.now (by with_reducible assumption)))
    (with_reducible refine wl_k ?_ ?_); exact rfl; intro K hK; go_simp; refine hK _ ?_; clear hK K
    (with_reducible refine wl_k ?_ ?_); exact rfl; intro K hK; go_simp; refine hK _ ?_; clear hK K
    (first | ((with_reducible apply wl_oneG); exact rfl; exact rfl; first | exact s0 (by with_reducible assumption) | exact s1 (by with_reducible assumption)) | ((with_reducible apply wl_rowG); exact rfl; exact rfl; first | exact f4 (by with_reducible assumption) | exact RowK.now (by with_reducible assumption)))
    (with_reducible refine wl_k ?_ ?_); exact rfl; intro K hK; go_simp; refine hK _ ?_; clear hK K
    (with_reducible refine wl_k ?_ ?_); exact rfl; intro K hK; go_simp; refine hK _ ?_; clear hK K
    (with_reducible refine wl_k ?_ ?_); exact rfl; intro K hK; go_simp; refine hK _ ?_; clear hK K
    clear hp hq
    go_wp2_with fail
    go_ret
    exact ⟨rfl, hb⟩
  (with_reducible refine wl_k ?_ ?_); exact rfl; intro K hK; go_simp; refine hK _ ?_; clear hK K
  (with_reducible refine wl_k ?_ ?_); exact rfl; intro K hK; go_simp; refine hK _ ?_; clear hK K
  (with_reducible refine wl_k ?_ ?_); exact rfl; intro K hK; go_simp; refine hK _ ?_; clear hK K
  (with_reducible refine wl_k ?_ ?_); exact rfl; intro K hK; go_simp; refine hK _ ?_; clear hK K
  (first | ((with_reducible apply wl_oneG); exact rfl; exact rfl; first | exact s0 (by with_reducible assumption) | exact s1 (by with_reducible assumption)) | ((with_reducible apply wl_rowG); exact rfl; exact rfl; first | exact f4 (by with_reducible assumption) | exact RowK.now (by with_reducible assumption)))
  (with_reducible refine wl_k ?_ ?_); exact rfl; intro K hK; go_simp; refine hK _ ?_; clear hK K
  (with_reducible refine wl_k ?_ ?_); exact rfl; intro K hK; go_simp; refine hK _ ?_; clear hK K
  (first | ((with_reducible apply wl_oneG); exact rfl; exact rfl; first | exact s0 (by with_reducible assumption) | exact s1 (by with_reducible assumption)) | ((with_reducible apply wl_rowG); exact rfl; exact rfl; first | exact f4 (by with_reducible assumption) | exact RowK.now (by with_reducible assumption)))
  (with_reducible refine wl_k ?_ ?_); exact rfl; intro K hK; go_simp; refine hK _ ?_; clear hK K
  (with_reducible refine wl_k ?_ ?_); exact rfl; intro K hK; go_simp; refine hK _ ?_; clear hK K
  (with_reducible refine wl_k ?_ ?_); exact rfl; intro K hK; go_simp; refine hK _ ?_; clear hK K
  have HLE : Hid (ns.length ≤ ts.length) := Lib.hid (by rw [HLT.out]; omega)
  have hle2 : ns.length ≤ l2 := by omega
  have HFEW : Hid (ns.length ≤ 60) := Lib.hid (HB3.out rfl)
  have HU1 : Hid (u.nodes ≤ 150) := Lib.hid ((HB1.out rfl).2 u (by simp))
  have HT1 : Hid (∀ v, v ∈ ts → v.nodes ≤ 150) := Lib.hid (HB2.out rfl).2
  have HSN : Hid ((substTy ns ts u).nodes ≤ 1000000) := Lib.hid (by
    have h1 := subst_nodes (ns := ns) (ts := ts) (K := 150) (by omega) HT1.out u
    have h2 := HU1.out
    omega)
  obtain ⟨st, hst, hstl, hget⟩ := want_found HLE.out u
  have HGET := Lib.hid hget
  have HSTL := Lib.hid hstl
  have HSB : Hid (∀ w', Below w.heap.size w w' → Calls Tryd.prog 20 #[.agg (cell4 k s n A l c), .slice An ns.length cn, .slice A2 l2 c2] w' (NewTy w' (substTy ns ts u))) := Lib.hid fun w' hw => Subst_any ns ts (fun v hv => by have := HT1.out v hv; omega) u (by have := HU1.out; omega) w' D D2 _ (HU.out.old hw) An _ _ _ _ _ (HN.out.old hw) (HT.out.old hw)
  have HM : Hid (∀ (w' : World) (D' : Nat → Prop) (row' : Array Value), Below w.heap.size w w' → TyAt w' D' (substTy ns ts u) row' → Calls Tryd.prog 29 #[.slice An ns.length cn, .agg (cell4 k s n A l c), .agg row'] w' fun e w2 => ∃ g, e = .returned (.tuple #[.slice (some ⟨g, 0, none⟩) ns.length ns.length, .bool true]) ∧ TysAt w2 Any (tysOf st) (some ⟨g, 0, none⟩) ns.length ns.length ∧ Below w'.heap.size w' w2) := Lib.hid fun w' D' row' hw h' =>
    (Match_any ns An ns.length cn u (substTy ns ts u) w' D D' _ _ (HN.out.old hw) HFEW.out (HU.out.old hw) h' HSN.out).mono fun e w2 h => h.of_some hst
  clear HB1 HB2 HB3 hst hstl hget HSN HU1 HT1 HLE
  go_upto_region 3 with (fail)
  refine wp_region_held_drew (S := Below w5.heap.size w5) mixed ((Below.refl _ w5).drew) (fun hS => ?_)
  refine ha_k (i := 0) rfl (by kernel_rfl) (by kernel_rfl) (by kernel_rfl) (fun _ _ _ _ h => h) hS rfl (fun K hK => ?_); go_simp; refine hK _ ?_; clear hK K; try simp only [put_lit, List.set_cons_zero, List.set_cons_succ]
  refine ha_val (i := 1) rfl (by kernel_rfl) (by kernel_rfl) (by kernel_rfl) (fun _ _ _ h => h) hS rfl (fun w' hw' => ex_one rfl (s0 (below_look hw' hq))) ?_; try simp only [put_lit, List.set_cons_zero, List.set_cons_succ]
  refine ha_val (i := 2) rfl (by kernel_rfl) (by kernel_rfl) (by kernel_rfl) (fun _ _ _ h => h) hS rfl (fun w' hw' => ex_row rfl (f4 (below_look hw' hp))) ?_; try simp only [put_lit, List.set_cons_zero, List.set_cons_succ]
  refine ha_val (i := 3) rfl (by kernel_rfl) (by kernel_rfl) (by kernel_rfl) (fun _ _ _ h => h) hS rfl (fun w' hw' => ex_row rfl (f4 (below_look hw' hp))) ?_; try simp only [put_lit, List.set_cons_zero, List.set_cons_succ]
  refine ha_k (i := 4) rfl (by kernel_rfl) (by kernel_rfl) (by kernel_rfl) (fun _ _ _ _ h => h) hS rfl (fun K hK => ?_); go_simp; refine hK _ ?_; clear hK K; try simp only [put_lit, List.set_cons_zero, List.set_cons_succ]
  refine ha_val (i := 5) rfl (by kernel_rfl) (by kernel_rfl) (by kernel_rfl) (fun _ _ _ h => h) hS rfl (fun w' hw' => ex_one rfl (s0 (below_look hw' hq))) ?_; try simp only [put_lit, List.set_cons_zero, List.set_cons_succ]
  refine ha_k (i := 6) rfl (by kernel_rfl) (by kernel_rfl) (by kernel_rfl) (fun _ _ _ _ h => h) hS rfl (fun K hK => ?_); go_simp; refine hK _ ?_; clear hK K; try simp only [put_lit, List.set_cons_zero, List.set_cons_succ]
  refine ha_val (i := 7) rfl (by kernel_rfl) (by kernel_rfl) (by kernel_rfl) (fun _ _ _ h => h) hS rfl (fun w' hw' => ex_one rfl (s1 (below_look hw' hq))) ?_; try simp only [put_lit, List.set_cons_zero, List.set_cons_succ]
  refine ha_call (i := 8) (by kernel_rfl) rfl rfl (fun K hK => ?_)
  go_simp; refine ⟨_, _, ⟨rfl, rfl⟩, hK _ _ ⟨_, HSB.out _ (hb.trans (hS.mono hb.size)), ?_⟩⟩; clear hK K; rintro e w8 ⟨row8, rfl, hta8, hbc⟩; refine ⟨_, rfl, hS.trans (hbc.mono hS.size), ?_⟩
  replace hS := hS.trans (hbc.mono hS.size)
  try simp only [put_lit, List.set_cons_zero, List.set_cons_succ]
  have HC := Lib.hid (HM.out w8 _ row8 (hb.trans (hS.mono hb.size)) hta8)
  clear HSB HM hta8 hbc
  refine ha_call (i := 9) (by kernel_rfl) rfl rfl (fun K hK => ?_)
  go_simp; refine ⟨_, _, ⟨rfl, rfl⟩, hK _ _ ⟨_, HC.out, ?_⟩⟩; clear hK K; rintro e w9 ⟨g, rfl, hta9, hbc⟩; refine ⟨_, rfl, hS.trans (hbc.mono hS.size), ?_⟩
  replace hS := hS.trans (hbc.mono hS.size)
  try simp only [put_lit, List.set_cons_zero, List.set_cons_succ]
  have HA := Lib.hid hta9
  clear HC hta9 hbc
  refine ha_k (i := 10) rfl (by kernel_rfl) (by kernel_rfl) (by kernel_rfl) (fun _ _ _ _ h => h) hS rfl (fun K hK => ?_); go_simp; refine hK _ ?_; clear hK K; try simp only [put_lit, List.set_cons_zero, List.set_cons_succ]
  refine ha_k (i := 11) rfl (by kernel_rfl) (by kernel_rfl) (by kernel_rfl) (fun _ _ _ _ h => h) hS rfl (fun K hK => ?_); go_simp; refine hK _ ?_; clear hK K; try simp only [put_lit, List.set_cons_zero, List.set_cons_succ]
  refine ha_k (i := 12) rfl (by kernel_rfl) (by kernel_rfl) (by kernel_rfl) (fun _ _ _ _ h => h) hS rfl (fun K hK => ?_); go_simp; refine hK _ ?_; clear hK K; try simp only [put_lit, List.set_cons_zero, List.set_cons_succ]
  refine ha_k (i := 13) rfl (by kernel_rfl) (by kernel_rfl) (by kernel_rfl) (fun _ _ _ _ h => h) hS rfl (fun K hK => ?_); go_simp; refine hK _ ?_; clear hK K; try simp only [put_lit, List.set_cons_zero, List.set_cons_succ]
  refine ha_k (i := 14) rfl (by kernel_rfl) (by kernel_rfl) (by kernel_rfl) (fun _ _ _ _ h => h) hS rfl (fun K hK => ?_); go_simp; refine hK _ ?_; clear hK K; try simp only [put_lit, List.set_cons_zero, List.set_cons_succ]
  replace hp := below_look hS hp; replace hq := below_look hS hq; replace hb := hb.trans (hS.mono hb.size); clear hS
  refine wpAnyH_done (by kernel_rfl) ?_ _
  go_upto_region 4 with (fail)
  apply wp_region_lit
  (with_reducible refine wl_k ?_ ?_); exact rfl; intro K hK; go_simp; refine hK _ ?_; clear hK K
  (with_reducible refine wl_k ?_ ?_); exact rfl; intro K hK; go_simp; refine hK _ ?_; clear hK K
  (with_reducible refine wl_k ?_ ?_); exact rfl; intro K hK; go_simp; refine hK _ ?_; clear hK K
  (with_reducible refine wl_k ?_ ?_); exact rfl; intro K hK; go_simp; refine hK _ ?_; clear hK K
  (with_reducible refine wl_k ?_ ?_); exact rfl; intro K hK; go_simp; refine hK _ ?_; clear hK K
  (with_reducible refine wl_k ?_ ?_); exact rfl; intro K hK; go_simp; refine hK _ ?_; clear hK K
  (first | ((with_reducible apply wl_oneG); exact rfl; exact rfl; first | exact s0 (by with_reducible assumption) | exact s1 (by with_reducible assumption)) | ((with_reducible apply wl_rowG); exact rfl; exact rfl; first | exact f4 (by with_reducible assumption) | exact RowK.now (by with_reducible assumption)))
  (with_reducible refine wl_k ?_ ?_); exact rfl; intro K hK; go_simp; refine hK _ ?_; clear hK K
  (with_reducible refine wl_k ?_ ?_); exact rfl; intro K hK; go_simp; refine hK _ ?_; clear hK K
  (with_reducible refine wl_k ?_ ?_); exact rfl; intro K hK; go_simp; refine hK _ ?_; clear hK K
  go_wp2_with fail
  go_loopw [7] (fun i wr => ∃ j : Nat, j ≤ ns.length ∧ i = .int .i64 (j : Int) ∧ Hid (TysAt wr Any (tysOf st) (some ⟨g, 0, none⟩) ns.length ns.length) ∧ Below w.heap.size w wr ∧ wr.heap[p]? = some (.cells (cell4 k s n A l c) 24 (0, 0)) ∧ wr.heap[q]? = some (.cells (cell2 An ns.length cn A2 l2 c2) 27 (0, 0))) (fun i _ => ns.length - (intOf i).toNat)
  case atStart => exact ⟨0, by omega, rfl, HA, hb, hp, hq⟩
  case round =>
    clear hb hp hq HA
    obtain ⟨j, hj, rfl, HA, hb, hp, hq⟩ := hrel
    by_cases hlt : j < ns.length
    · have hltI : (j : Int) < (ns.length : Int) := by omega
      obtain ⟨b, off, x, rfl, hx⟩ := HN.out.addr hlt
      have hones := Lib.hid (HN.out.ones hx)
      obtain ⟨v, hv⟩ : ∃ v, v = idxI ns x := ⟨_, rfl⟩
      have HV := Lib.hid hv
      obtain ⟨hh, hhh⟩ : ∃ hh, hh = hasTy ns x u := ⟨_, rfl⟩
      have HH := Lib.hid hhh
      have HWT := Lib.hid (HGET.out j x hx)
      have HCX : Hid (∀ w', Below w.heap.size w w' → Calls Tryd.prog 18 #[.slice (some ⟨b, off, none⟩) ns.length cn, .string x] w' fun e w2 => e = .returned (.int .i64 v) ∧ Below w'.heap.size w' w2) := Lib.hid fun w' hw => by
        rw [hv]; exact Has_any ns x _ _ _ w' (HN.out.old hw)
      have HCH : Hid (∀ w', Below w.heap.size w w' → Calls Tryd.prog 32 #[.agg (cell4 k s n A l c), .slice (some ⟨b, off, none⟩) ns.length cn, .string x] w' fun e w2 => e = .returned (.bool hh) ∧ Below w'.heap.size w' w2) := Lib.hid fun w' hw => by
        rw [hhh]; exact has_any ns x u w' D _ (HU.out.old hw) _ _ _ (HN.out.old hw)
      obtain ⟨z, hz⟩ : ∃ z, ts[j]? = some z := ⟨_, List.getElem?_eq_getElem (by rw [HLT.out]; omega)⟩
      have HZ := Lib.hid hz
      clear hv hhh hz
      go_upto_region 9 with (fail)
      apply wp_region_lit
      have hbz := Below.refl wr.heap.size wr
      have lthpo := heap_lt hp; have lthqo := heap_lt hq; (with_reducible refine wl_all ?_); intro W1 o hbn hlo ho; replace hp := below_look hbn hp; replace hq := below_look hbn hq; replace hb := hb.trans (hbn.mono hb.size); replace hbz := hbz.trans (hbn.mono hbz.size); clear hbn; simp only [put_lit, List.set_cons_zero, List.set_cons_succ]
      go_upto_region 10 with (fail)
      go_cut [83] (fun s83 wx => ∃ b, s83 = .bool b ∧ Hid (b = true ↔ idx ns x = some j ∧ hasTy ns x u = true) ∧ Below W1.heap.size W1 wx)
      case first =>
        by_cases h1 : v = (j : Int)
        · have e1 : (v == (j : Int)) = true := by simp [h1]
          have HI : Hid (idx ns x = some j) := Lib.hid (idxI_eq.1 (by rw [← HV.out, h1]))
          clear h1
          refine wp_region_belowAll mixed (by kernel_rfl) ?_
          (with_reducible refine wq_k ?_ ?_); exact rfl; intro K hK; go_simp; (with_reducible refine hK _ ?_); clear hK K
          (first | ((with_reducible apply wq_one); exact rfl; exact rfl; intro w' hw'; first | exact s0 (below_look hw' (by with_reducible assumption)) | exact s1 (below_look hw' (by with_reducible assumption))) | ((with_reducible apply wq_row); exact rfl; exact rfl; intro w' hw'; exact f4 (below_look hw' (by with_reducible assumption))))
          (with_reducible refine wq_k ?_ ?_); exact rfl; intro K hK; go_simp; (with_reducible refine hK _ ?_); clear hK K
          (first | ((with_reducible apply wq_one); exact rfl; exact rfl; intro w' hw'; first | exact s0 (below_look hw' (by with_reducible assumption)) | exact s1 (below_look hw' (by with_reducible assumption))) | ((with_reducible apply wq_row); exact rfl; exact rfl; intro w' hw'; exact f4 (below_look hw' (by with_reducible assumption))))
          (with_reducible refine wq_k ?_ ?_); exact rfl; intro K hK; go_simp; (with_reducible refine hK _ ?_); clear hK K
          (with_reducible refine wq_k ?_ ?_); exact rfl; intro K hK; go_simp; (with_reducible refine hK _ ?_); clear hK K
          (with_reducible apply wq_one); exact rfl; exact rfl; exact (fun w' hw' => hones.out w' (hb.trans (hw'.mono hb.size)))
          try simp only [put_lit, List.set_cons_zero, List.set_cons_succ]
          refine wq_ck rfl (fun K hK => ?_); go_simp; refine ⟨_, _, ⟨rfl, rfl⟩, hK _ _ ⟨_, fun w' hw' => calls_class hw' ((fun w' hw' => HCX.out w' (hb.trans (hw'.mono hb.size))) w' hw'), ?_⟩⟩; clear hK K; simp only [put_lit, List.set_cons_zero, List.set_cons_succ]
          (with_reducible refine wq_k ?_ ?_); exact rfl; intro K hK; go_simp; (with_reducible refine hK _ ?_); clear hK K
          (with_reducible refine wq_k ?_ ?_); exact rfl; intro K hK; go_simp; (with_reducible refine hK _ ?_); clear hK K
          (with_reducible refine wq_k ?_ ?_); exact rfl; intro K hK; go_simp; (with_reducible refine hK _ ?_); clear hK K
          (first | ((with_reducible apply wq_one); exact rfl; exact rfl; intro w' hw'; first | exact s0 (below_look hw' (by with_reducible assumption)) | exact s1 (below_look hw' (by with_reducible assumption))) | ((with_reducible apply wq_row); exact rfl; exact rfl; intro w' hw'; exact f4 (below_look hw' (by with_reducible assumption))))
          (with_reducible refine wq_k ?_ ?_); exact rfl; intro K hK; go_simp; (with_reducible refine hK _ ?_); clear hK K
          (first | ((with_reducible apply wq_one); exact rfl; exact rfl; intro w' hw'; first | exact s0 (below_look hw' (by with_reducible assumption)) | exact s1 (below_look hw' (by with_reducible assumption))) | ((with_reducible apply wq_row); exact rfl; exact rfl; intro w' hw'; exact f4 (below_look hw' (by with_reducible assumption))))
          (with_reducible refine wq_k ?_ ?_); exact rfl; intro K hK; go_simp; (with_reducible refine hK _ ?_); clear hK K
          (first | ((with_reducible apply wq_one); exact rfl; exact rfl; intro w' hw'; first | exact s0 (below_look hw' (by with_reducible assumption)) | exact s1 (below_look hw' (by with_reducible assumption))) | ((with_reducible apply wq_row); exact rfl; exact rfl; intro w' hw'; exact f4 (below_look hw' (by with_reducible assumption))))
          (with_reducible refine wq_k ?_ ?_); exact rfl; intro K hK; go_simp; (with_reducible refine hK _ ?_); clear hK K
          (with_reducible refine wq_k ?_ ?_); exact rfl; intro K hK; go_simp; (with_reducible refine hK _ ?_); clear hK K
          (with_reducible apply wq_one); exact rfl; exact rfl; exact (fun w' hw' => hones.out w' (hb.trans (hw'.mono hb.size)))
          try simp only [put_lit, List.set_cons_zero, List.set_cons_succ]
          refine wq_ck rfl (fun K hK => ?_); go_simp; refine ⟨_, _, ⟨rfl, rfl⟩, hK _ _ ⟨_, fun w' hw' => calls_class hw' ((fun w' hw' => HCH.out w' (hb.trans (hw'.mono hb.size))) w' hw'), ?_⟩⟩; clear hK K; simp only [put_lit, List.set_cons_zero, List.set_cons_succ]
          (with_reducible refine wq_k ?_ ?_); exact rfl; intro K hK; go_simp; (with_reducible refine hK _ ?_); clear hK K
          intro w8 hb8
          go_wp2_with fail
          go_meet
          exact ⟨_, rfl, Lib.hid ⟨fun h => ⟨HI.out, by rw [← HH.out]; exact h⟩, fun h => by rw [HH.out]; exact h.2⟩, hb8⟩
        · have e1 : (v == (j : Int)) = false := by simp [h1]
          have HI : Hid (¬ idx ns x = some j) := Lib.hid fun h => h1 (by rw [HV.out]; exact idxI_eq.2 h)
          clear h1
          refine wp_region_belowAll mixed (by kernel_rfl) ?_
          (with_reducible refine wq_k ?_ ?_); exact rfl; intro K hK; go_simp; (with_reducible refine hK _ ?_); clear hK K
          (first | ((with_reducible apply wq_one); exact rfl; exact rfl; intro w' hw'; first | exact s0 (below_look hw' (by with_reducible assumption)) | exact s1 (below_look hw' (by with_reducible assumption))) | ((with_reducible apply wq_row); exact rfl; exact rfl; intro w' hw'; exact f4 (below_look hw' (by with_reducible assumption))))
          (with_reducible refine wq_k ?_ ?_); exact rfl; intro K hK; go_simp; (with_reducible refine hK _ ?_); clear hK K
          (first | ((with_reducible apply wq_one); exact rfl; exact rfl; intro w' hw'; first | exact s0 (below_look hw' (by with_reducible assumption)) | exact s1 (below_look hw' (by with_reducible assumption))) | ((with_reducible apply wq_row); exact rfl; exact rfl; intro w' hw'; exact f4 (below_look hw' (by with_reducible assumption))))
          (with_reducible refine wq_k ?_ ?_); exact rfl; intro K hK; go_simp; (with_reducible refine hK _ ?_); clear hK K
          (with_reducible refine wq_k ?_ ?_); exact rfl; intro K hK; go_simp; (with_reducible refine hK _ ?_); clear hK K
          (with_reducible apply wq_one); exact rfl; exact rfl; exact (fun w' hw' => hones.out w' (hb.trans (hw'.mono hb.size)))
          try simp only [put_lit, List.set_cons_zero, List.set_cons_succ]
          refine wq_ck rfl (fun K hK => ?_); go_simp; refine ⟨_, _, ⟨rfl, rfl⟩, hK _ _ ⟨_, fun w' hw' => calls_class hw' ((fun w' hw' => HCX.out w' (hb.trans (hw'.mono hb.size))) w' hw'), ?_⟩⟩; clear hK K; simp only [put_lit, List.set_cons_zero, List.set_cons_succ]
          (with_reducible refine wq_k ?_ ?_); exact rfl; intro K hK; go_simp; (with_reducible refine hK _ ?_); clear hK K
          (with_reducible refine wq_k ?_ ?_); exact rfl; intro K hK; go_simp; (with_reducible refine hK _ ?_); clear hK K
          (with_reducible refine wq_k ?_ ?_); exact rfl; intro K hK; go_simp; (with_reducible refine hK _ ?_); clear hK K
          (with_reducible refine wq_skip ?_ ?_); exact rfl; simp only [List.getElem_toArray, List.getElem_cons_succ, List.getElem_cons_zero, put_lit, List.set_cons_zero, List.set_cons_succ]
          (with_reducible refine wq_skip ?_ ?_); exact rfl; simp only [List.getElem_toArray, List.getElem_cons_succ, List.getElem_cons_zero, put_lit, List.set_cons_zero, List.set_cons_succ]
          (with_reducible refine wq_skip ?_ ?_); exact rfl; simp only [List.getElem_toArray, List.getElem_cons_succ, List.getElem_cons_zero, put_lit, List.set_cons_zero, List.set_cons_succ]
          (with_reducible refine wq_skip ?_ ?_); exact rfl; simp only [List.getElem_toArray, List.getElem_cons_succ, List.getElem_cons_zero, put_lit, List.set_cons_zero, List.set_cons_succ]
          (with_reducible refine wq_skip ?_ ?_); exact rfl; simp only [List.getElem_toArray, List.getElem_cons_succ, List.getElem_cons_zero, put_lit, List.set_cons_zero, List.set_cons_succ]
          (with_reducible refine wq_skip ?_ ?_); exact rfl; simp only [List.getElem_toArray, List.getElem_cons_succ, List.getElem_cons_zero, put_lit, List.set_cons_zero, List.set_cons_succ]
          (with_reducible refine wq_skip ?_ ?_); exact rfl; simp only [List.getElem_toArray, List.getElem_cons_succ, List.getElem_cons_zero, put_lit, List.set_cons_zero, List.set_cons_succ]
          (with_reducible refine wq_skip ?_ ?_); exact rfl; simp only [List.getElem_toArray, List.getElem_cons_succ, List.getElem_cons_zero, put_lit, List.set_cons_zero, List.set_cons_succ]
          (with_reducible refine wq_skip ?_ ?_); exact rfl; simp only [List.getElem_toArray, List.getElem_cons_succ, List.getElem_cons_zero, put_lit, List.set_cons_zero, List.set_cons_succ]
          (with_reducible refine wq_k ?_ ?_); exact rfl; intro K hK; go_simp; (with_reducible refine hK _ ?_); clear hK K
          intro w8 hb8
          go_wp2_with fail
          go_meet
          exact ⟨_, rfl, Lib.hid ⟨fun h => (by cases h), fun h => absurd h.1 HI.out⟩, hb8⟩
      case rest =>
        obtain ⟨bb, rfl, HB, hb8⟩ := hcut
        replace hp := below_look hb8 hp; replace hq := below_look hb8 hq; replace ho := below_look hb8 ho; replace hb := hb.trans (hb8.mono hb.size); replace hbz := hbz.trans (hb8.mono hbz.size); clear hb8
        clear HCX HCH hones HV HH
        cases bb with
        | true =>
          have HW : Hid (wantTy ns ts u j x = z) := Lib.hid (want_yes (HB.out.1 rfl).1 (HB.out.1 rfl).2 HZ.out)
          have hltJ : (j : Int) < (l2 : Int) := by omega
          obtain ⟨b2, off2, z2, rowz, rfl, -, -, -⟩ := HT.out.get (show j < l2 by omega)
          obtain ⟨rowz, hrz, htz⟩ := HT.out.rowK HZ.out
          have HRZ := Lib.hid hrz
          have HTZ := Lib.hid htz
          obtain ⟨kz, sz, nz, Az, lz, cz, tsz, hez, rfl, -⟩ := htz.parts
          clear hrz htz hez HB HZ
          go_upto_region 11 with (fail)
          apply wp_region_lit
          (with_reducible refine wl_k ?_ ?_); exact rfl; intro K hK; go_simp; refine hK _ ?_; clear hK K
          (first | ((with_reducible apply wl_oneG); exact rfl; exact rfl; first | exact s0 (by with_reducible assumption) | exact s1 (by with_reducible assumption)) | ((with_reducible apply wl_rowG); exact rfl; exact rfl; first | exact f4 (by with_reducible assumption) | exact RowK.now (by with_reducible assumption)))
          (with_reducible refine wl_k ?_ ?_); exact rfl; intro K hK; go_simp; refine hK _ ?_; clear hK K
          (with_reducible refine wl_k ?_ ?_); exact rfl; intro K hK; go_simp; refine hK _ ?_; clear hK K
          ((with_reducible apply wl_rowG); exact rfl; exact rfl; exact RowK.at HRZ.out hb)
          try simp only [put_lit, List.set_cons_zero, List.set_cons_succ]
          (with_reducible refine wl_put rfl rfl ho ?_); rw [put_noneA]; intro W3 hbx hsz hkx hnx; replace hp := (hkx _ (by omega)).trans hp; replace hq := (hkx _ (by omega)).trans hq; replace hb := hbx _ _ (by omega) hb; replace hbz := hbx _ _ (by omega) hbz; clear ho; have ho := hnx; clear hnx
          clear hbx hkx hsz
          have HVAL : Hid (TyAt W3 D2 (wantTy ns ts u j x) (cell4 kz sz nz Az lz cz)) := Lib.hid (by rw [HW.out]; exact HTZ.out.old hb)
          clear HW HRZ HTZ
          replace HA := Lib.hid (HA.out.old hbz)
          clear hbz
          obtain ⟨row9, hr9, ht9⟩ := HA.out.rowK HWT.out
          simp only [Nat.zero_add] at hr9
          have HR9 := Lib.hid hr9
          have HT9 := Lib.hid ht9
          have HC : Hid (∀ w', Below W3.heap.size W3 w' → Calls Tryd.prog 21 #[.agg row9, .agg _] w' fun e w2 => e = .returned (.bool true) ∧ Below w'.heap.size w' w2) := Lib.hid fun w' hw => by
            have := EqType_any _ _ w' _ _ _ _ (HT9.out.old hw) (HVAL.out.old hw)
            rwa [eqTy_id] at this
          clear hr9 ht9 HWT
          go_upto_region 12 with (fail)
          refine wp_region_belowAll mixed (by kernel_rfl) ?_
          (with_reducible refine wq_k ?_ ?_); exact rfl; intro K hK; go_simp; (with_reducible refine hK _ ?_); clear hK K
          (with_reducible refine wq_k ?_ ?_); exact rfl; intro K hK; go_simp; (with_reducible refine hK _ ?_); clear hK K
          (with_reducible refine wq_k ?_ ?_); exact rfl; intro K hK; go_simp; (with_reducible refine hK _ ?_); clear hK K
          (with_reducible apply wq_row); exact rfl; exact rfl; exact (fun w' hw' => RowK.at HR9.out hw')
          try simp only [put_lit, List.set_cons_zero, List.set_cons_succ]
          (first | ((with_reducible apply wq_one); exact rfl; exact rfl; intro w' hw'; first | exact s0 (below_look hw' (by with_reducible assumption)) | exact s1 (below_look hw' (by with_reducible assumption))) | ((with_reducible apply wq_row); exact rfl; exact rfl; intro w' hw'; exact f4 (below_look hw' (by with_reducible assumption))))
          refine wq_ck rfl (fun K hK => ?_); go_simp; refine ⟨_, _, ⟨rfl, rfl⟩, hK _ _ ⟨_, fun w' hw' => calls_class hw' (HC.out w' hw'), ?_⟩⟩; clear hK K; simp only [put_lit, List.set_cons_zero, List.set_cons_succ]
          (with_reducible refine wq_k ?_ ?_); exact rfl; intro K hK; go_simp; (with_reducible refine hK _ ?_); clear hK K
          intro w8 hb8
          replace HA := Lib.hid (HA.out.old hb8)
          replace hp := below_look hb8 hp; replace hq := below_look hb8 hq; replace hb := hb.trans (hb8.mono hb.size); clear hb8
          clear HC HR9 HT9 HVAL ho
          go_wp2_with fail
          go_roundw
          case rel => exact ⟨j + 1, by omega, by go_num, HA, hb, hp, hq⟩
          case measure => simp [intOf]; omega
        | false =>
          have HVAL : Hid (TyAt wc Any (wantTy ns ts u j x) (cell4 0 ⟨#[]⟩ 0 none 0 0)) := Lib.hid (by rw [want_no (fun h => by have := HB.out.2 h; cases this)]; exact zeroTy_at _ _)
          clear HB HZ
          replace HA := Lib.hid (HA.out.old hbz)
          clear hbz
          obtain ⟨row9, hr9, ht9⟩ := HA.out.rowK HWT.out
          simp only [Nat.zero_add] at hr9
          have HR9 := Lib.hid hr9
          have HT9 := Lib.hid ht9
          have HC : Hid (∀ w', Below wc.heap.size wc w' → Calls Tryd.prog 21 #[.agg row9, .agg _] w' fun e w2 => e = .returned (.bool true) ∧ Below w'.heap.size w' w2) := Lib.hid fun w' hw => by
            have := EqType_any _ _ w' _ _ _ _ (HT9.out.old hw) (HVAL.out.old hw)
            rwa [eqTy_id] at this
          clear hr9 ht9 HWT
          go_upto_region 12 with (fail)
          refine wp_region_belowAll mixed (by kernel_rfl) ?_
          (with_reducible refine wq_k ?_ ?_); exact rfl; intro K hK; go_simp; (with_reducible refine hK _ ?_); clear hK K
          (with_reducible refine wq_k ?_ ?_); exact rfl; intro K hK; go_simp; (with_reducible refine hK _ ?_); clear hK K
          (with_reducible refine wq_k ?_ ?_); exact rfl; intro K hK; go_simp; (with_reducible refine hK _ ?_); clear hK K
          (with_reducible apply wq_row); exact rfl; exact rfl; exact (fun w' hw' => RowK.at HR9.out hw')
          try simp only [put_lit, List.set_cons_zero, List.set_cons_succ]
          (first | ((with_reducible apply wq_one); exact rfl; exact rfl; intro w' hw'; first | exact s0 (below_look hw' (by with_reducible assumption)) | exact s1 (below_look hw' (by with_reducible assumption))) | ((with_reducible apply wq_row); exact rfl; exact rfl; intro w' hw'; exact f4 (below_look hw' (by with_reducible assumption))))
          refine wq_ck rfl (fun K hK => ?_); go_simp; refine ⟨_, _, ⟨rfl, rfl⟩, hK _ _ ⟨_, fun w' hw' => calls_class hw' (HC.out w' hw'), ?_⟩⟩; clear hK K; simp only [put_lit, List.set_cons_zero, List.set_cons_succ]
          (with_reducible refine wq_k ?_ ?_); exact rfl; intro K hK; go_simp; (with_reducible refine hK _ ?_); clear hK K
          intro w8 hb8
          replace HA := Lib.hid (HA.out.old hb8)
          replace hp := below_look hb8 hp; replace hq := below_look hb8 hq; replace hb := hb.trans (hb8.mono hb.size); clear hb8
          clear HC HR9 HT9 HVAL ho
          go_wp2_with fail
          go_roundw
          case rel => exact ⟨j + 1, by omega, by go_num, HA, hb, hp, hq⟩
          case measure => simp [intOf]; omega
    · have hltI : ¬ (j : Int) < (ns.length : Int) := by omega
      go_upto_region 14 with (fail)
      apply wp_region_lit
      (with_reducible refine wl_ck ?_ ?_); exact rfl; intro K hK; go_simp; refine ⟨_, _, ⟨rfl, rfl⟩, hK _ _ ⟨_, awake_any _, ?_⟩⟩; clear hK K; rintro e w10 ⟨rfl, hb10⟩; refine ⟨_, rfl, ?_⟩; simp only [put_lit, List.set_cons_zero, List.set_cons_succ]
      (with_reducible refine wl_k ?_ ?_); exact rfl; intro K hK; go_simp; refine hK _ ?_; clear hK K
      replace hp := below_look hb10 hp; replace hq := below_look hb10 hq; replace hb := hb.trans (hb10.mono hb.size); clear hb10
      clear hp hq HA
      go_wp2_with fail
      go_ret
      exact ⟨rfl, hb⟩
end Go.Proofs.YtokmaehefenpmaaDoor
