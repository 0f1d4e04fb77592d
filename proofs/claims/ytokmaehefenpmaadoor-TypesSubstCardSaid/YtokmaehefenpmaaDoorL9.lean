/- The law TypesSubst: whatever the input it returns true. -/
import Derived.Test.YtokmaehefenpmaaDoorS7
import Derived.Test.YtokmaehefenpmaaDoorS4
import Derived.Test.YtokmaehefenpmaaDoorS1
import Derived.Test.YtokmaehefenpmaaDoorN4
import Derived.Test.YtokmaehefenpmaaDoorV10
namespace Go.Proofs.YtokmaehefenpmaaDoor
open Go.RowKit Go.Proofs.YtokmaehefenpmaaDoor.Nm
set_option linter.unusedSimpArgs false
theorem tree_one {w : World} {D : Nat → Prop} {t : Ty} {k : Int} {s : ByteArray} {n : Int} {A : Option Addr} {l c : Nat} (h : TyAt w D t (cell4 k s n A l c)) {p : Nat} {tq : TypeId} {fr : Nat × Nat} (hp : w.heap[p]? = some (.cells (cell4 k s n A l c) tq fr)) : TysAt w Any [t] (some ⟨p, 0, none⟩) 1 1 :=
  ⟨rfl, Nat.le_refl _, by unfold maxLen; omega, fun _ => cell4 k s n A l c, fun i u hu => by
    cases i with
    | zero => exact ⟨p, 0, _, tq, fr, rfl, trivial, hp, by rfl⟩
    | succ i => simp at hu, fun i u hu => by
    cases i with
    | zero => simp at hu; subst hu; exact h.weak fun _ _ => trivial
    | succ i => simp at hu⟩
theorem eqTy_id (t : Ty) : eqTy t t = true := by simp [eqTy]
theorem built24n (s : ByteArray) : Tryd.prog.built 24 [(0, .int .i64 7), (1, .string s)] = some (cell4 7 s 0 none 0 0) := by kernel_rfl
def parT (s : ByteArray) : Ty := .node 7 s 0 []
theorem par_at (w : World) (D : Nat → Prop) {s : ByteArray} (h : s.size ≤ maxLen) : TyAt w D (parT s) (cell4 7 s 0 none 0 0) := TyAt.of (by rfl) (by rfl) h (TysAt.nil _ _)
def nameSm (u : Ty) : Bool := decide (u.name.size ≤ maxLen)
theorem alls_of {f : Ty → Bool} : ∀ l : List Ty, (∀ t, t ∈ l → t.all f = true) → alls f l = true
  | [], _ => rfl
  | t :: l, h => by simp only [alls]; rw [h t (by simp), alls_of l fun u hu => h u (by simp [hu])]; rfl
theorem names_small : ∀ (t : Ty) (w : World) (D : Nat → Prop) (row : Array Value), TyAt w D t row → t.all nameSm = true := Ty.ind fun k s n ts ih w D row h => by
  obtain ⟨k1, s1, n1, A, l, c, ts1, e, rfl, hk, hnn, hs, hT⟩ := h.parts
  cases e
  simp only [Ty.all, Bool.and_eq_true]
  refine ⟨decide_eq_true hs, alls_of ts fun u hu => ?_⟩
  obtain ⟨i, hi⟩ := List.mem_iff_getElem?.1 hu
  have hil := (List.getElem?_eq_some_iff.1 hi).1
  have hTl := hT.len
  obtain ⟨b, off, u2, rowx, rfl, -, -, -⟩ := hT.get (show i < l by omega)
  obtain ⟨row', -, hu'⟩ := hT.rowK hi
  exact ih u hu w D row' hu'
theorem visit_small : ∀ (t : Ty) (ns : List ByteArray), t.all nameSm = true → (∀ s, s ∈ ns → s.size ≤ maxLen) → ∀ s, s ∈ (visit stepP t ns).2 → s.size ≤ maxLen := Ty.ind fun k s n l ih ns ha hn => by
  simp only [Ty.all, Bool.and_eq_true] at ha
  have hl : ∀ (l : List Ty), (∀ t, t ∈ l → ∀ ns, t.all nameSm = true → (∀ s, s ∈ ns → s.size ≤ maxLen) → ∀ s, s ∈ (visit stepP t ns).2 → s.size ≤ maxLen) → ∀ ns, alls nameSm l = true → (∀ s, s ∈ ns → s.size ≤ maxLen) → ∀ s, s ∈ (visits stepP l ns).2 → s.size ≤ maxLen := by
    intro l
    induction l with
    | nil => intro _ ns _ hn s hs; exact hn s hs
    | cons t l ihl =>
      intro h ns ha hn
      simp only [alls, Bool.and_eq_true] at ha
      have h1 := h t (by simp) ns ha.1 hn
      have h2 := (visit_len t ns).1
      simp only [visits]
      cases hv : visit stepP t ns with
      | mk b x =>
        rw [hv] at h1 h2
        cases h2
        exact ihl (fun t ht => h t (by simp [ht])) x ha.2 h1
  have hs : stepP (.node k s n l) ns = (true, (stepP (.node k s n l) ns).2) := rfl
  simp only [visit]
  rw [hs]
  refine hl l ih _ ha.2 ?_
  intro x hx
  unfold stepP at hx
  simp only at hx
  split at hx
  · rcases List.mem_append.1 hx with hx | hx
    · exact hn x hx
    · simp at hx; subst hx; exact of_decide_eq_true ha.1
  · exact hn x hx
theorem mem_distinct {s : ByteArray} {ns : List ByteArray} (h : s ∈ distinctL ns) : s ∈ ns := by
  unfold distinctL at h
  obtain ⟨l, hl, rfl⟩ := List.mem_map.1 h
  unfold Lib.compact Lib.compactUpTo at hl
  obtain ⟨i, hi, rfl⟩ := List.mem_map.1 hl
  have hi2 := List.mem_range.1 (List.mem_filter.1 hi).1
  have hm : (sortedL ns).toArray[i]! ∈ sortedL ns := by
    rw [getElem!_pos _ i (by simpa using hi2)]
    simp
  unfold sortedL at hm
  rw [List.mem_mergeSort] at hm
  obtain ⟨x, hx, he⟩ := List.mem_map.1 hm
  unfold sortedL
  rw [← he]
  cases x
  exact hx
theorem names_sizes {w : World} {D : Nat → Prop} {t : Ty} {row : Array Value} (h : TyAt w D t row) : ∀ s, s ∈ distinctL (namesOf t) → s.size ≤ maxLen := fun s hs =>
  visit_small t [] (names_small t w D row h) (by simp) s (mem_distinct hs)
set_option maxHeartbeats 8000000 in
set_option maxRecDepth 100000 in
theorem TypesSubst_any (t : Ty) (xn : List ByteArray) (xt : List Ty) (w : World) (D D2 : Nat → Prop) (row : Array Value) (h : TyAt w D t row) (A1 A2 : Option Addr) (l1 c1 l2 c2 : Nat) (hn : TxAt w xn A1 l1 c1) (hsz : ∀ s, s ∈ xn → s.size ≤ maxLen) (ht : TysAt w D2 xt A2 l2 c2) :
    Calls Tryd.prog 10 #[.agg row, .agg (cell2 A1 l1 c1 A2 l2 c2)] w fun e w' => e = .returned (.bool true) ∧ Below w.heap.size w w' := by
  have HNS := Lib.hid (names_sizes h)
  obtain ⟨k, s, n, A, l, c, ts1, he, rfl, -⟩ := h.parts
  have HU := Lib.hid h
  have HT := Lib.hid ht
  have HN := Lib.hid hn
  have HS := Lib.hid hsz
  clear h ht he hn hsz
  have hb := Below.refl w.heap.size w
  go_enter Tryd.func10, Tryd.ntmps10
  go_upto_region 0 with (fail)
  apply wp_region_lit
  (with_reducible refine wl_box rfl ?_); intro W p hbn hlp hp; replace hb := hb.trans (hbn.mono hb.size); clear hbn; simp only [put_lit, List.set_cons_zero, List.set_cons_succ]
  have lthpq := heap_lt hp; (with_reducible refine wl_box27 rfl ?_); intro W2 q hbn hlq hq; replace hp := below_look hbn hp; replace hb := hb.trans (hbn.mono hb.size); clear hbn; simp only [put_lit, List.set_cons_zero, List.set_cons_succ]
  (with_reducible refine wl_k ?_ ?_); exact rfl; intro K hK; go_simp; refine hK _ ?_; clear hK K
  go_upto_region 1 with (fail)
  apply wp_region_lit
  (first | ((with_reducible apply wl_oneG); exact rfl; exact rfl; first | exact s0 (by with_reducible assumption) | exact s1 (by with_reducible assumption)) | ((with_reducible apply wl_rowG); exact rfl; exact rfl; first | exact f4 (by with_reducible assumption) | exact RowK.now (by with_reducible assumption)))
  have lthpr := heap_lt hp; have lthqr := heap_lt hq; (with_reducible refine wl_bs rfl ?_); intro W4 r hbn hlr hr; replace hp := below_look hbn hp; replace hq := below_look hbn hq; replace hb := hb.trans (hbn.mono hb.size); clear hbn; simp only [put_lit, List.set_cons_zero, List.set_cons_succ]
  have HC := Lib.hid (small_any [t] _ 1 1 W4 Any (tree_one (HU.out.old hb) hr))
  clear hr
  (with_reducible refine wl_ck ?_ ?_); exact rfl; intro K hK; go_simp; refine ⟨_, _, ⟨rfl, rfl⟩, hK _ _ ⟨_, HC.out, ?_⟩⟩; clear hK K; rintro e w2 ⟨⟨b1, rfl, hb1⟩, hb2⟩; refine ⟨_, rfl, ?_⟩; simp only [put_lit, List.set_cons_zero, List.set_cons_succ]
  have HB1 := Lib.hid hb1
  replace hp := below_look hb2 hp; replace hq := below_look hb2 hq; replace hb := hb.trans (hb2.mono hb.size); clear hb2
  clear HC hb1
  cases b1 with
  | false =>
    (with_reducible refine wl_k ?_ ?_); exact rfl; intro K hK; go_simp; refine hK _ ?_; clear hK K
    (with_reducible refine wl_k ?_ ?_); exact rfl; intro K hK; go_simp; refine hK _ ?_; clear hK K
    (first | ((with_reducible refine wl_skipU ?_ ?_ ?_); exact rfl; exact rfl) | ((with_reducible refine wl_skip ?_ ?_); exact rfl; simp only [put_lit, List.set_cons_zero, List.set_cons_succ]))
    (first | ((with_reducible refine wl_skipU ?_ ?_ ?_); exact rfl; exact rfl) | ((with_reducible refine wl_skip ?_ ?_); exact rfl; simp only [put_lit, List.set_cons_zero, List.set_cons_succ]))
    (first | ((with_reducible refine wl_skipU ?_ ?_ ?_); exact rfl; exact rfl) | ((with_reducible refine wl_skip ?_ ?_); exact rfl; simp only [put_lit, List.set_cons_zero, List.set_cons_succ]))
    (first | ((with_reducible refine wl_skipU ?_ ?_ ?_); exact rfl; exact rfl) | ((with_reducible refine wl_skip ?_ ?_); exact rfl; simp only [put_lit, List.set_cons_zero, List.set_cons_succ]))
    (with_reducible refine wl_k ?_ ?_); exact rfl; intro K hK; go_simp; refine hK _ ?_; clear hK K
    (with_reducible refine wl_k ?_ ?_); exact rfl; intro K hK; go_simp; refine hK _ ?_; clear hK K
    (first | ((with_reducible refine wl_skipU ?_ ?_ ?_); exact rfl; exact rfl) | ((with_reducible refine wl_skip ?_ ?_); exact rfl; simp only [put_lit, List.set_cons_zero, List.set_cons_succ]))
    (first | ((with_reducible refine wl_skipU ?_ ?_ ?_); exact rfl; exact rfl) | ((with_reducible refine wl_skip ?_ ?_); exact rfl; simp only [put_lit, List.set_cons_zero, List.set_cons_succ]))
    (first | ((with_reducible refine wl_skipU ?_ ?_ ?_); exact rfl; exact rfl) | ((with_reducible refine wl_skip ?_ ?_); exact rfl; simp only [put_lit, List.set_cons_zero, List.set_cons_succ]))
    (first | ((with_reducible refine wl_skipU ?_ ?_ ?_); exact rfl; exact rfl) | ((with_reducible refine wl_skip ?_ ?_); exact rfl; simp only [put_lit, List.set_cons_zero, List.set_cons_succ]))
    (with_reducible refine wl_k ?_ ?_); exact rfl; intro K hK; go_simp; refine hK _ ?_; clear hK K
    clear hp hq
    go_wp2_with fail
    go_ret
    exact ⟨rfl, hb⟩
  | true =>
  have HC := Lib.hid (small_any xt _ _ _ w2 D2 (HT.out.old hb))
  (with_reducible refine wl_k ?_ ?_); exact rfl; intro K hK; go_simp; refine hK _ ?_; clear hK K
  (with_reducible refine wl_k ?_ ?_); exact rfl; intro K hK; go_simp; refine hK _ ?_; clear hK K
  (with_reducible refine wl_k ?_ ?_); exact rfl; intro K hK; go_simp; refine hK _ ?_; clear hK K
  (first | ((with_reducible apply wl_oneG); exact rfl; exact rfl; first | exact s0 (by with_reducible assumption) | exact s1 (by with_reducible assumption)) | ((with_reducible apply wl_rowG); exact rfl; exact rfl; first | exact f4 (by with_reducible assumption) | exact RowK.now (by with_reducible assumption)))
  (with_reducible refine wl_ck ?_ ?_); exact rfl; intro K hK; go_simp; refine ⟨_, _, ⟨rfl, rfl⟩, hK _ _ ⟨_, HC.out, ?_⟩⟩; clear hK K; rintro e w3 ⟨⟨b2, rfl, hb1⟩, hb2⟩; refine ⟨_, rfl, ?_⟩; simp only [put_lit, List.set_cons_zero, List.set_cons_succ]
  have HB2 := Lib.hid hb1
  replace hp := below_look hb2 hp; replace hq := below_look hb2 hq; replace hb := hb.trans (hb2.mono hb.size); clear hb2
  clear HC hb1
  cases b2 with
  | false =>
    (with_reducible refine wl_k ?_ ?_); exact rfl; intro K hK; go_simp; refine hK _ ?_; clear hK K
    (with_reducible refine wl_k ?_ ?_); exact rfl; intro K hK; go_simp; refine hK _ ?_; clear hK K
    (with_reducible refine wl_k ?_ ?_); exact rfl; intro K hK; go_simp; refine hK _ ?_; clear hK K
    (first | ((with_reducible refine wl_skipU ?_ ?_ ?_); exact rfl; exact rfl) | ((with_reducible refine wl_skip ?_ ?_); exact rfl; simp only [put_lit, List.set_cons_zero, List.set_cons_succ]))
    (first | ((with_reducible refine wl_skipU ?_ ?_ ?_); exact rfl; exact rfl) | ((with_reducible refine wl_skip ?_ ?_); exact rfl; simp only [put_lit, List.set_cons_zero, List.set_cons_succ]))
    (first | ((with_reducible refine wl_skipU ?_ ?_ ?_); exact rfl; exact rfl) | ((with_reducible refine wl_skip ?_ ?_); exact rfl; simp only [put_lit, List.set_cons_zero, List.set_cons_succ]))
    (first | ((with_reducible refine wl_skipU ?_ ?_ ?_); exact rfl; exact rfl) | ((with_reducible refine wl_skip ?_ ?_); exact rfl; simp only [put_lit, List.set_cons_zero, List.set_cons_succ]))
    (with_reducible refine wl_k ?_ ?_); exact rfl; intro K hK; go_simp; refine hK _ ?_; clear hK K
    clear hp hq
    go_wp2_with fail
    go_ret
    exact ⟨rfl, hb⟩
  | true =>
  have HC := Lib.hid (short_any xn _ _ _ w3 (HN.out.old hb) HS.out)
  (with_reducible refine wl_k ?_ ?_); exact rfl; intro K hK; go_simp; refine hK _ ?_; clear hK K
  (with_reducible refine wl_k ?_ ?_); exact rfl; intro K hK; go_simp; refine hK _ ?_; clear hK K
  (with_reducible refine wl_k ?_ ?_); exact rfl; intro K hK; go_simp; refine hK _ ?_; clear hK K
  (with_reducible refine wl_k ?_ ?_); exact rfl; intro K hK; go_simp; refine hK _ ?_; clear hK K
  (first | ((with_reducible apply wl_oneG); exact rfl; exact rfl; first | exact s0 (by with_reducible assumption) | exact s1 (by with_reducible assumption)) | ((with_reducible apply wl_rowG); exact rfl; exact rfl; first | exact f4 (by with_reducible assumption) | exact RowK.now (by with_reducible assumption)))
  (with_reducible refine wl_ck ?_ ?_); exact rfl; intro K hK; go_simp; refine ⟨_, _, ⟨rfl, rfl⟩, hK _ _ ⟨_, HC.out, ?_⟩⟩; clear hK K; rintro e w5 ⟨⟨b3, rfl, hb1⟩, hb2⟩; refine ⟨_, rfl, ?_⟩; simp only [put_lit, List.set_cons_zero, List.set_cons_succ]
  replace hp := below_look hb2 hp; replace hq := below_look hb2 hq; replace hb := hb.trans (hb2.mono hb.size); clear hb2
  clear HC hb1
  cases b3 with
  | false =>
    (with_reducible refine wl_k ?_ ?_); exact rfl; intro K hK; go_simp; refine hK _ ?_; clear hK K
    (with_reducible refine wl_k ?_ ?_); exact rfl; intro K hK; go_simp; refine hK _ ?_; clear hK K
    clear hp hq
    go_wp2_with fail
    go_ret
    exact ⟨rfl, hb⟩
  | true =>
  (with_reducible refine wl_k ?_ ?_); exact rfl; intro K hK; go_simp; refine hK _ ?_; clear hK K
  (with_reducible refine wl_k ?_ ?_); exact rfl; intro K hK; go_simp; refine hK _ ?_; clear hK K
  have HU1 : Hid (t.nodes ≤ 150) := Lib.hid ((HB1.out rfl).2 t (by simp))
  have HT1 : Hid (∀ v, v ∈ xt → v.nodes ≤ 1000000) := Lib.hid fun v hv => by have := (HB2.out rfl).2 v hv; omega
  have HSB : Hid (∀ w', Below w.heap.size w w' → Calls Tryd.prog 20 #[.agg (cell4 k s n A l c), .slice A1 l1 c1, .slice A2 l2 c2] w' (NewTy w' (substTy xn xt t))) := Lib.hid fun w' hw => Subst_any xn xt HT1.out t (by have := HU1.out; omega) w' D D2 _ (HU.out.old hw) A1 A2 l1 c1 l2 c2 (HN.out.old hw) (HT.out.old hw)
  have HSI : Hid (∀ w', Below w.heap.size w w' → Calls Tryd.prog 37 #[.agg (cell4 k s n A l c), .slice A1 l1 c1, .slice A2 l2 c2] w' (NewTy w' (substTy xn xt t))) := Lib.hid fun w' hw => SubstI_any xn xt HT1.out t (by have := HU1.out; omega) w' D _ (HU.out.old hw) A1 l1 c1 (HN.out.old hw) D2 A2 l2 c2 (HT.out.old hw)
  clear HB1 HB2 HT1 HS
  go_upto_region 3 with (fail)
  refine wp_region_held_drew (S := Below w5.heap.size w5) mixed ((Below.refl _ w5).drew) (fun hS => ?_)
  refine ha_val (i := 0) rfl (by kernel_rfl) (by kernel_rfl) (by kernel_rfl) (fun _ _ _ h => h) hS rfl (fun w' hw' => ex_row rfl (f4 (below_look hw' hp))) ?_; try simp only [put_lit, List.set_cons_zero, List.set_cons_succ]
  refine ha_k (i := 1) rfl (by kernel_rfl) (by kernel_rfl) (by kernel_rfl) (fun _ _ _ _ h => h) hS rfl (fun K hK => ?_); go_simp; refine hK _ ?_; clear hK K; try simp only [put_lit, List.set_cons_zero, List.set_cons_succ]
  refine ha_val (i := 2) rfl (by kernel_rfl) (by kernel_rfl) (by kernel_rfl) (fun _ _ _ h => h) hS rfl (fun w' hw' => ex_one rfl (s0 (below_look hw' hq))) ?_; try simp only [put_lit, List.set_cons_zero, List.set_cons_succ]
  refine ha_k (i := 3) rfl (by kernel_rfl) (by kernel_rfl) (by kernel_rfl) (fun _ _ _ _ h => h) hS rfl (fun K hK => ?_); go_simp; refine hK _ ?_; clear hK K; try simp only [put_lit, List.set_cons_zero, List.set_cons_succ]
  refine ha_val (i := 4) rfl (by kernel_rfl) (by kernel_rfl) (by kernel_rfl) (fun _ _ _ h => h) hS rfl (fun w' hw' => ex_one rfl (s1 (below_look hw' hq))) ?_; try simp only [put_lit, List.set_cons_zero, List.set_cons_succ]
  refine ha_val (i := 6) rfl (by kernel_rfl) (by kernel_rfl) (by kernel_rfl) (fun _ _ _ h => h) hS rfl (fun w' hw' => ex_row rfl (f4 (below_look hw' hp))) ?_; try simp only [put_lit, List.set_cons_zero, List.set_cons_succ]
  refine ha_k (i := 7) rfl (by kernel_rfl) (by kernel_rfl) (by kernel_rfl) (fun _ _ _ _ h => h) hS rfl (fun K hK => ?_); go_simp; refine hK _ ?_; clear hK K; try simp only [put_lit, List.set_cons_zero, List.set_cons_succ]
  refine ha_val (i := 8) rfl (by kernel_rfl) (by kernel_rfl) (by kernel_rfl) (fun _ _ _ h => h) hS rfl (fun w' hw' => ex_one rfl (s0 (below_look hw' hq))) ?_; try simp only [put_lit, List.set_cons_zero, List.set_cons_succ]
  refine ha_k (i := 9) rfl (by kernel_rfl) (by kernel_rfl) (by kernel_rfl) (fun _ _ _ _ h => h) hS rfl (fun K hK => ?_); go_simp; refine hK _ ?_; clear hK K; try simp only [put_lit, List.set_cons_zero, List.set_cons_succ]
  refine ha_val (i := 10) rfl (by kernel_rfl) (by kernel_rfl) (by kernel_rfl) (fun _ _ _ h => h) hS rfl (fun w' hw' => ex_one rfl (s1 (below_look hw' hq))) ?_; try simp only [put_lit, List.set_cons_zero, List.set_cons_succ]
  refine ha_call (i := 5) (by kernel_rfl) rfl rfl (fun K hK => ?_)
  go_simp; refine ⟨_, _, ⟨rfl, rfl⟩, hK _ _ ⟨_, HSB.out _ (hb.trans (hS.mono hb.size)), ?_⟩⟩; clear hK K; rintro e w8 ⟨row8, rfl, hta8, hbc⟩; refine ⟨_, rfl, hS.trans (hbc.mono hS.size), ?_⟩
  replace hS := hS.trans (hbc.mono hS.size)
  try simp only [put_lit, List.set_cons_zero, List.set_cons_succ]
  have HA8 := Lib.hid hta8
  clear hta8 hbc
  refine ha_call (i := 11) (by kernel_rfl) rfl rfl (fun K hK => ?_)
  go_simp; refine ⟨_, _, ⟨rfl, rfl⟩, hK _ _ ⟨_, HSI.out _ (hb.trans (hS.mono hb.size)), ?_⟩⟩; clear hK K; rintro e w9 ⟨row9, rfl, hta9, hbc⟩; refine ⟨_, rfl, hS.trans (hbc.mono hS.size), ?_⟩
  replace hS := hS.trans (hbc.mono hS.size)
  try simp only [put_lit, List.set_cons_zero, List.set_cons_succ]
  have HE := Lib.hid (by have := EqType_any _ _ w9 _ _ row8 row9 (HA8.out.old hbc) hta9; rwa [eqTy_id] at this : Calls Tryd.prog 21 #[.agg row8, .agg row9] w9 fun e w' => e = .returned (.bool true) ∧ Below w9.heap.size w9 w')
  clear HA8 hta9 hbc
  refine ha_call (i := 12) (by kernel_rfl) rfl rfl (fun K hK => ?_)
  go_simp; refine ⟨_, _, ⟨rfl, rfl⟩, hK _ _ ⟨_, HE.out, ?_⟩⟩; clear hK K; rintro e w10 ⟨rfl, hbc⟩; refine ⟨_, rfl, hS.trans (hbc.mono hS.size), ?_⟩
  replace hS := hS.trans (hbc.mono hS.size)
  try simp only [put_lit, List.set_cons_zero, List.set_cons_succ]
  clear HE hbc HSB HSI
  refine ha_k (i := 13) rfl (by kernel_rfl) (by kernel_rfl) (by kernel_rfl) (fun _ _ _ _ h => h) hS rfl (fun K hK => ?_); go_simp; refine hK _ ?_; clear hK K; try simp only [put_lit, List.set_cons_zero, List.set_cons_succ]
  replace hp := below_look hS hp; replace hq := below_look hS hq; replace hb := hb.trans (hS.mono hb.size); clear hS
  refine wpAnyH_done (by kernel_rfl) ?_ _
  go_upto_region 5 with (fail)
  obtain ⟨vb, hvb⟩ : ∃ b, b = validB false t := ⟨_, rfl⟩
  have HVB := Lib.hid hvb
  have HC := Lib.hid (ValidI_any t w10 D _ (HU.out.old hb))
  rw [← hvb] at HC
  clear hvb
  apply wp_region_lit
  (first | ((with_reducible apply wl_oneG); exact rfl; exact rfl; first | exact s0 (by with_reducible assumption) | exact s1 (by with_reducible assumption)) | ((with_reducible apply wl_rowG); exact rfl; exact rfl; first | exact f4 (by with_reducible assumption) | exact RowK.now (by with_reducible assumption)))
  (with_reducible refine wl_ck ?_ ?_); exact rfl; intro K hK; go_simp; refine ⟨_, _, ⟨rfl, rfl⟩, hK _ _ ⟨_, HC.out, ?_⟩⟩; clear hK K; rintro e w11 ⟨rfl, hb11⟩; refine ⟨_, rfl, ?_⟩; simp only [put_lit, List.set_cons_zero, List.set_cons_succ]
  (with_reducible refine wl_k ?_ ?_); exact rfl; intro K hK; go_simp; refine hK _ ?_; clear hK K
  replace hp := below_look hb11 hp; replace hq := below_look hb11 hq; replace hb := hb.trans (hb11.mono hb.size); clear hb11
  clear HC
  cases vb with
  | false =>
    go_upto_region 6 with (fail)
    apply wp_region_lit
    (with_reducible refine wl_ck ?_ ?_); exact rfl; intro K hK; go_simp; refine ⟨_, _, ⟨rfl, rfl⟩, hK _ _ ⟨_, awake_any _, ?_⟩⟩; clear hK K; rintro e w12 ⟨rfl, hb12⟩; refine ⟨_, rfl, ?_⟩; simp only [put_lit, List.set_cons_zero, List.set_cons_succ]
    (with_reducible refine wl_k ?_ ?_); exact rfl; intro K hK; go_simp; refine hK _ ?_; clear hK K
    replace hp := below_look hb12 hp; replace hq := below_look hb12 hq; replace hb := hb.trans (hb12.mono hb.size); clear hb12
    clear hp hq
    go_wp2_with fail
    go_ret
    exact ⟨rfl, hb⟩
  | true =>
  obtain ⟨ps, hps⟩ : ∃ ps, ps = distinctL (namesOf t) := ⟨_, rfl⟩
  have HC := Lib.hid (Params_any t (by have := HU1.out; omega) w11 D _ (HU.out.old hb))
  rw [← hps] at HC HNS
  have HSM : Hid (substTy ps (ps.map parT) t = t) := Lib.hid (valid_par HVB.out.symm ps)
  have HPL : Hid (ps.length ≤ 1000000) := Lib.hid (by
    have h1 := distinct_le (namesOf t)
    have h2 := (visit_len t []).2
    have h3 := HU1.out
    rw [hps]
    unfold namesOf at h1 ⊢
    simp at h2
    omega)
  clear hps HVB
  go_upto_region 7 with (fail)
  apply wp_region_lit
  (first | ((with_reducible apply wl_oneG); exact rfl; exact rfl; first | exact s0 (by with_reducible assumption) | exact s1 (by with_reducible assumption)) | ((with_reducible apply wl_rowG); exact rfl; exact rfl; first | exact f4 (by with_reducible assumption) | exact RowK.now (by with_reducible assumption)))
  (with_reducible refine wl_ck ?_ ?_); exact rfl; intro K hK; go_simp; refine ⟨_, _, ⟨rfl, rfl⟩, hK _ _ ⟨_, HC.out, ?_⟩⟩; clear hK K; rintro e w12 ⟨A5, l5, c5, rfl, htx, hb12⟩; refine ⟨_, rfl, ?_⟩; simp only [put_lit, List.set_cons_zero, List.set_cons_succ]
  (with_reducible refine wl_k ?_ ?_); exact rfl; intro K hK; go_simp; refine hK _ ?_; clear hK K
  replace hp := below_look hb12 hp; replace hq := below_look hb12 hq; replace hb := hb.trans (hb12.mono hb.size); clear hb12
  have HPS := Lib.hid htx
  have hl5 := htx.len
  have hcm5 := htx.cap
  have hmx5 := htx.max
  unfold maxLen at hmx5
  clear HC htx
  obtain ⟨B2, hB2⟩ : ∃ B2, B2 = w12.heap.size := ⟨_, rfl⟩
  have HO := Lib.hid (OwnT.nil w12 B2)
  have hz := Below.refl B2 w12
  go_wp2_with fail
  go_loopw [6, 7] (fun v i wr => ∃ (j : Nat) (A' : Option Addr) (l' c' : Nat), j ≤ l5 ∧ i = .int .i64 (j : Int) ∧ v = .slice A' l' c' ∧ Hid (OwnT wr B2 (.slice A' l' c') ((ps.take j).map parT)) ∧ Below B2 w12 wr) (fun _ i _ => l5 - (intOf i).toNat)
  case atStart => exact ⟨0, none, 0, 0, by omega, rfl, rfl, HO, hz⟩
  case round =>
    clear HO hz
    obtain ⟨j, A9, l9, c9, hj, rfl, rfl, HO, hz⟩ := hrel
    have hzw : Below w12.heap.size w12 wr := by rw [← hB2]; exact hz
    have hzs := hz.size
    by_cases hlt : j < l5
    · have hltI : (j : Int) < (l5 : Int) := by omega
      obtain ⟨b, off, x, rfl, hx⟩ := HPS.out.addr hlt
      have hone := HPS.out.ones hx wr hzw
      have HXS : Hid (x.size ≤ maxLen) := Lib.hid (HNS.out x (List.mem_of_getElem? hx))
      have HTK : Hid ((ps.take (j + 1)).map parT = (ps.take j).map parT ++ [parT x]) := Lib.hid (by rw [List.take_add_one, hx]; simp)
      have HLN : Hid (((ps.take j).map parT).length ≤ 1000000) := Lib.hid (by have := HPL.out; rw [List.length_map, List.length_take]; omega)
      have hxr := Below.refl wr.heap.size wr
      clear hx
      go_upto_region 12 with (fail)
      apply wp_region_lit
      (with_reducible refine wl_k ?_ ?_); exact rfl; intro K hK; go_simp; refine hK _ ?_; clear hK K
      (with_reducible refine wl_k ?_ ?_); exact rfl; intro K hK; go_simp; refine hK _ ?_; clear hK K
      (with_reducible refine wl_k ?_ ?_); exact rfl; intro K hK; go_simp; refine hK _ ?_; clear hK K
      (with_reducible refine wl_k ?_ ?_); exact rfl; intro K hK; go_simp; refine hK _ ?_; clear hK K
      ((with_reducible apply wl_oneG); exact rfl; exact rfl; exact hone)
      try simp only [put_lit, List.set_cons_zero, List.set_cons_succ]
      refine wl_val rfl (ex_build 24 _ rfl (L := [(0, .int .i64 7), (1, .string x)]) rfl (built24n x)) ?_
      simp only [put_lit, List.set_cons_zero, List.set_cons_succ]
      (with_reducible refine wl_bs rfl ?_); intro X5 q3 hbn hlq3 hq3; replace hxr := hxr.trans (hbn.mono hxr.size); clear hbn; simp only [put_lit, List.set_cons_zero, List.set_cons_succ]
      replace hz := hz.trans (hxr.mono (by omega))
      refine wl_push rfl _ _ rfl rfl rfl (HO.out.old hxr) (par_at _ _ HXS.out) hq3 HLN.out (by have := hz.size; omega) ?_
      intro A8 l8 c8 w8 hown hk8 hbl
      have hz8 := hbl B2 w12 (fun b e => ((HO.out.old hxr).lt b e).1) (by have := hz.size; omega) hz
      rw [← HTK.out] at hown
      have HO8 := Lib.hid hown
      clear hown hk8 hbl hq3 hone
      simp only [put_lit, List.set_cons_zero, List.set_cons_succ]
      (with_reducible refine wl_k ?_ ?_); exact rfl; intro K hK; go_simp; refine hK _ ?_; clear hK K
      clear hz hxr HO HTK HLN HXS hzw hzs
      go_wp2_with fail
      go_roundw
      case rel => exact ⟨j + 1, _, _, _, by omega, by go_num, rfl, HO8, hz8⟩
      case measure => simp [intOf]; omega
    · have hltI : ¬ (j : Int) < (l5 : Int) := by omega
      obtain ⟨A8, l8, c8, he, h8⟩ := HO.out.at
      cases he
      rw [List.take_of_length_le (by omega)] at h8
      have H8 := Lib.hid h8
      have HPR := Lib.hid (HPS.out.old hzw)
      replace hp := below_look hzw hp; replace hq := below_look hzw hq; replace hb := hb.trans (hzw.mono hb.size); clear hzw
      have HND : Hid (∀ v, v ∈ ps.map parT → v.nodes ≤ 1000000) := Lib.hid fun v hv => by
        obtain ⟨x, -, rfl⟩ := List.mem_map.1 hv
        simp [parT, Ty.nodes, nodesL]
      clear h8 HO
      have HSB : Hid (∀ w', Below wr.heap.size wr w' → Calls Tryd.prog 20 #[.agg (cell4 k s n A l c), .slice A5 l5 c5, .slice A9 l9 c9] w' (NewTy w' t)) := Lib.hid fun w' hw => by
        have := Subst_any ps (ps.map parT) HND.out t (by have := HU1.out; omega) w' D _ _ (HU.out.old (hb.trans (hw.mono hb.size))) A5 A9 l5 c5 l9 c9 (HPR.out.old hw) (H8.out.old hw)
        rwa [HSM.out] at this
      have HEQ : Hid (∀ (w' : World) (D2 : Nat → Prop) (row2 : Array Value), Below w.heap.size w w' → TyAt w' D2 t row2 → Calls Tryd.prog 21 #[.agg row2, .agg (cell4 k s n A l c)] w' fun e w2 => e = .returned (.bool true) ∧ Below w'.heap.size w' w2) := Lib.hid fun w' D2 row2 hw h2 => by
        have := EqType_any t t w' D2 D _ _ h2 (HU.out.old hw)
        rwa [eqTy_id] at this
      clear hz hzs
      go_upto_region 13 with (fail)
      refine wp_region_held_drew (S := Below wr.heap.size wr) mixed ((Below.refl _ wr).drew) (fun hS => ?_)
      refine ha_val (i := 0) rfl (by kernel_rfl) (by kernel_rfl) (by kernel_rfl) (fun _ _ _ h => h) hS rfl (fun w' hw' => ex_row rfl (f4 (below_look hw' hp))) ?_; try simp only [put_lit, List.set_cons_zero, List.set_cons_succ]
      refine ha_k (i := 1) rfl (by kernel_rfl) (by kernel_rfl) (by kernel_rfl) (fun _ _ _ _ h => h) hS rfl (fun K hK => ?_); go_simp; refine hK _ ?_; clear hK K; try simp only [put_lit, List.set_cons_zero, List.set_cons_succ]
      refine ha_k (i := 2) rfl (by kernel_rfl) (by kernel_rfl) (by kernel_rfl) (fun _ _ _ _ h => h) hS rfl (fun K hK => ?_); go_simp; refine hK _ ?_; clear hK K; try simp only [put_lit, List.set_cons_zero, List.set_cons_succ]
      refine ha_val (i := 4) rfl (by kernel_rfl) (by kernel_rfl) (by kernel_rfl) (fun _ _ _ h => h) hS rfl (fun w' hw' => ex_row rfl (f4 (below_look hw' hp))) ?_; try simp only [put_lit, List.set_cons_zero, List.set_cons_succ]
      refine ha_call (i := 3) (by kernel_rfl) rfl rfl (fun K hK => ?_)
      go_simp; refine ⟨_, _, ⟨rfl, rfl⟩, hK _ _ ⟨_, HSB.out _ hS, ?_⟩⟩; clear hK K; rintro e w8 ⟨row8, rfl, hta8, hbc⟩; refine ⟨_, rfl, hS.trans (hbc.mono hS.size), ?_⟩
      replace hS := hS.trans (hbc.mono hS.size)
      try simp only [put_lit, List.set_cons_zero, List.set_cons_succ]
      have HE := Lib.hid (HEQ.out _ _ row8 (hb.trans (hS.mono hb.size)) hta8)
      clear HSB HEQ hta8 hbc
      refine ha_call (i := 5) (by kernel_rfl) rfl rfl (fun K hK => ?_)
      go_simp; refine ⟨_, _, ⟨rfl, rfl⟩, hK _ _ ⟨_, HE.out, ?_⟩⟩; clear hK K; rintro e w9 ⟨rfl, hbc⟩; refine ⟨_, rfl, hS.trans (hbc.mono hS.size), ?_⟩
      replace hS := hS.trans (hbc.mono hS.size)
      try simp only [put_lit, List.set_cons_zero, List.set_cons_succ]
      clear HE hbc
      refine ha_k (i := 6) rfl (by kernel_rfl) (by kernel_rfl) (by kernel_rfl) (fun _ _ _ _ h => h) hS rfl (fun K hK => ?_); go_simp; refine hK _ ?_; clear hK K; try simp only [put_lit, List.set_cons_zero, List.set_cons_succ]
      refine ha_call (i := 7) (by kernel_rfl) rfl rfl (fun K hK => ?_)
      go_simp; refine ⟨_, _, ⟨rfl, rfl⟩, hK _ _ ⟨_, awake_any _, ?_⟩⟩; clear hK K; rintro e w10 ⟨rfl, hbc⟩; refine ⟨_, rfl, hS.trans (hbc.mono hS.size), ?_⟩
      replace hS := hS.trans (hbc.mono hS.size)
      try simp only [put_lit, List.set_cons_zero, List.set_cons_succ]
      clear hbc
      refine ha_k (i := 8) rfl (by kernel_rfl) (by kernel_rfl) (by kernel_rfl) (fun _ _ _ _ h => h) hS rfl (fun K hK => ?_); go_simp; refine hK _ ?_; clear hK K; try simp only [put_lit, List.set_cons_zero, List.set_cons_succ]
      refine ha_k (i := 9) rfl (by kernel_rfl) (by kernel_rfl) (by kernel_rfl) (fun _ _ _ _ h => h) hS rfl (fun K hK => ?_); go_simp; refine hK _ ?_; clear hK K; try simp only [put_lit, List.set_cons_zero, List.set_cons_succ]
      replace hb := hb.trans (hS.mono hb.size)
      clear hS hp hq
      refine wpAnyH_done (by kernel_rfl) ?_ _
      go_wp2_with fail
      go_ret
      exact ⟨rfl, hb⟩
end Go.Proofs.YtokmaehefenpmaaDoor
