/- The law TypesApply: whatever the input it returns true. -/
import Derived.Test.YtokmaehefenpmaaDoorV10
import Derived.Test.YtokmaehefenpmaaDoorW2
import Derived.Test.YtokmaehefenpmaaDoorW7
import Derived.Test.YtokmaehefenpmaaDoorW8
namespace Go.Proofs.YtokmaehefenpmaaDoor
open Go.RowKit Go.Proofs.YtokmaehefenpmaaDoor.Nm
set_option linter.unusedSimpArgs false
theorem eqTy_self (t : Ty) : eqTy t t = true := by simp [eqTy]
theorem one_at {w : World} {D : Nat → Prop} {t : Ty} {k : Int} {s : ByteArray} {n : Int} {A : Option Addr} {l c : Nat} (h : TyAt w D t (cell4 k s n A l c)) {p : Nat} {tq : TypeId} {fr : Nat × Nat} (hp : w.heap[p]? = some (.cells (cell4 k s n A l c) tq fr)) : TysAt w Any [t] (some ⟨p, 0, none⟩) 1 1 :=
  ⟨rfl, Nat.le_refl _, by unfold maxLen; omega, fun _ => cell4 k s n A l c, fun i u hu => by
    cases i with
    | zero => exact ⟨p, 0, _, tq, fr, rfl, trivial, hp, by rfl⟩
    | succ i => simp at hu, fun i u hu => by
    cases i with
    | zero => simp at hu; subst hu; exact h.weak fun _ _ => trivial
    | succ i => simp at hu⟩
theorem Small.one {t : Ty} (h : Small [t]) : t.nodes ≤ 150 := h.2 t (by simp)
theorem Small.list {ts : List Ty} (h : Small ts) : nodesL ts ≤ 9000 := by
  have key : ∀ l : List Ty, (∀ t, t ∈ l → t.nodes ≤ 150) → nodesL l ≤ l.length * 150 := by
    intro l
    induction l with
    | nil => intro _; simp [nodesL]
    | cons t l ih =>
      intro h
      have := ih fun t ht => h t (by simp [ht])
      have := h t (by simp)
      simp only [nodesL, List.length_cons]; omega
  have := key ts h.2
  have := h.1
  omega
set_option maxHeartbeats 4000000 in
set_option maxRecDepth 100000 in
theorem TypesApply_any (t : Ty) (ts : List Ty) (w : World) (D D2 : Nat → Prop) (row : Array Value) (h : TyAt w D t row) (A : Option Addr) (l c : Nat) (h2 : TysAt w D2 ts A l c) :
    Calls Tryd.prog 4 #[.agg row, .slice A l c] w fun e w' => e = .returned (.bool true) ∧ Below w.heap.size w w' := by
  obtain ⟨k, s, n, A1, l1, c1, ts1, he, rfl, -⟩ := h.parts
  have HT := Lib.hid h
  have H2 := Lib.hid h2
  clear h h2 he
  have hb := Below.refl w.heap.size w
  go_enter Tryd.func4, Tryd.ntmps4
  go_upto_region 0 with (fail)
  apply wp_region_lit
  (with_reducible refine wl_box rfl ?_); intro W p hbn hlp hp; replace hb := hb.trans (hbn.mono hb.size); clear hbn; simp only [put_lit, List.set_cons_zero, List.set_cons_succ]
  (with_reducible refine wl_k ?_ ?_); exact rfl; intro K hK; go_simp; refine hK _ ?_; clear hK K
  go_upto_region 1 with (fail)
  apply wp_region_lit
  (first | ((with_reducible apply wl_oneG); exact rfl; exact rfl; first | exact f0 (by with_reducible assumption) | exact f1 (by with_reducible assumption) | exact f2 (by with_reducible assumption) | exact f3 (by with_reducible assumption) | with_reducible assumption | exact g22 (by with_reducible assumption) | exact g25 (by with_reducible assumption)) | ((with_reducible apply wl_rowG); exact rfl; exact rfl; first | with_reducible assumption | exact RowK.now (by with_reducible assumption) | exact f4 (by with_reducible assumption)))
  simp only [put_lit, List.set_cons_zero, List.set_cons_succ]
  have lthpq := heap_lt hp; (with_reducible refine wl_bs rfl ?_); intro W1 q hbn hlq hq; replace hp := below_look hbn hp; replace hb := hb.trans (hbn.mono hb.size); clear hbn; simp only [put_lit, List.set_cons_zero, List.set_cons_succ]
  have HC := Lib.hid (small_any [t] _ 1 1 W1 Any (one_at (HT.out.old hb) hq))
  (with_reducible refine wl_ck ?_ ?_); exact rfl; intro K hK; go_simp; refine ⟨_, _, ⟨rfl, rfl⟩, hK _ _ ⟨_, HC.out, ?_⟩⟩; clear hK K; rintro e w2 ⟨⟨b1, rfl, hb1⟩, hb2⟩; refine ⟨_, rfl, ?_⟩; simp only [put_lit, List.set_cons_zero, List.set_cons_succ]
  have HB1 := Lib.hid hb1
  replace hp := below_look hb2 hp; replace hb := hb.trans (hb2.mono hb.size); clear hb2
  clear HC hb1 hq
  cases b1 with
  | false =>
    (with_reducible refine wl_k ?_ ?_); exact rfl; intro K hK; go_simp; refine hK _ ?_; clear hK K
    (with_reducible refine wl_k ?_ ?_); exact rfl; intro K hK; go_simp; refine hK _ ?_; clear hK K
    (first | ((with_reducible refine wl_skipU ?_ ?_ ?_); exact rfl; exact rfl) | ((with_reducible refine wl_skip ?_ ?_); exact rfl; simp only [put_lit, List.set_cons_zero, List.set_cons_succ]))
    (first | ((with_reducible refine wl_skipU ?_ ?_ ?_); exact rfl; exact rfl) | ((with_reducible refine wl_skip ?_ ?_); exact rfl; simp only [put_lit, List.set_cons_zero, List.set_cons_succ]))
    (first | ((with_reducible refine wl_skipU ?_ ?_ ?_); exact rfl; exact rfl) | ((with_reducible refine wl_skip ?_ ?_); exact rfl; simp only [put_lit, List.set_cons_zero, List.set_cons_succ]))
    (with_reducible refine wl_k ?_ ?_); exact rfl; intro K hK; go_simp; refine hK _ ?_; clear hK K
    clear hp
    go_wp2_with fail
    go_ret
    exact ⟨rfl, hb⟩
  | true =>
    have hs1 := (HB1.out rfl).one
    have HC := Lib.hid (small_any ts A l c w2 D2 (H2.out.old hb))
    (with_reducible refine wl_k ?_ ?_); exact rfl; intro K hK; go_simp; refine hK _ ?_; clear hK K
    (with_reducible refine wl_k ?_ ?_); exact rfl; intro K hK; go_simp; refine hK _ ?_; clear hK K
    (with_reducible refine wl_k ?_ ?_); exact rfl; intro K hK; go_simp; refine hK _ ?_; clear hK K
    (with_reducible refine wl_ck ?_ ?_); exact rfl; intro K hK; go_simp; refine ⟨_, _, ⟨rfl, rfl⟩, hK _ _ ⟨_, HC.out, ?_⟩⟩; clear hK K; rintro e w3 ⟨⟨b2, rfl, hb3⟩, hb4⟩; refine ⟨_, rfl, ?_⟩; simp only [put_lit, List.set_cons_zero, List.set_cons_succ]
    have HB2 := Lib.hid hb3
    replace hp := below_look hb4 hp; replace hb := hb.trans (hb4.mono hb.size); clear hb4
    clear HC hb3
    cases b2 with
    | false =>
      (with_reducible refine wl_k ?_ ?_); exact rfl; intro K hK; go_simp; refine hK _ ?_; clear hK K
      (with_reducible refine wl_k ?_ ?_); exact rfl; intro K hK; go_simp; refine hK _ ?_; clear hK K
      clear hp
      go_wp2_with fail
      go_ret
      exact ⟨rfl, hb⟩
    | true =>
      (with_reducible refine wl_k ?_ ?_); exact rfl; intro K hK; go_simp; refine hK _ ?_; clear hK K
      (with_reducible refine wl_k ?_ ?_); exact rfl; intro K hK; go_simp; refine hK _ ?_; clear hK K
      have HSM := HB2.out rfl
      have HN1 : Hid (t.nodes ≤ 1000000) := Lib.hid (by omega)
      have HN2 : Hid (∀ u, u ∈ ts → u.nodes ≤ 1000000) := Lib.hid fun u hu => by have := HSM.2 u hu; omega
      have HN3 : Hid (nodesL ts ≤ 1000000) := Lib.hid (by have := HSM.list; omega)
      have HN4 : Hid (ts.length ≤ 1000000) := Lib.hid (by have := HSM.1; omega)
      clear HSM hs1 HB1 HB2
      have C1 : Hid (∀ w', Below w3.heap.size w3 w' → Calls Tryd.prog 22 #[.agg (cell4 k s n A1 l1 c1), .slice A l c] w' (NewTy w' (applyTy ts t))) := Lib.hid fun w' hw => Apply_any ts HN2.out t HN1.out w' D D2 _ (HT.out.old (hb.trans (hw.mono hb.size))) A l c (H2.out.old (hb.trans (hw.mono hb.size)))
      have C2 : Hid (∀ w', Below w3.heap.size w3 w' → Calls Tryd.prog 23 #[.agg (cell4 k s n A1 l1 c1), .slice A l c] w' (NewTy w' (applyTy ts t))) := Lib.hid fun w' hw => ApplyI_any ts HN2.out t HN1.out w' D _ (HT.out.old (hb.trans (hw.mono hb.size))) D2 A l c (H2.out.old (hb.trans (hw.mono hb.size)))
      have C3 : Hid (∀ w', Below w3.heap.size w3 w' → Calls Tryd.prog 24 #[.slice A l c, .agg (cell4 k s n A1 l1 c1)] w' (NewTy w' (funTy ts t))) := Lib.hid fun w' hw => Func_any ts HN2.out HN4.out t HN1.out w' D D2 _ (HT.out.old (hb.trans (hw.mono hb.size))) A l c (H2.out.old (hb.trans (hw.mono hb.size)))
      have C4 : Hid (∀ w', Below w3.heap.size w3 w' → Calls Tryd.prog 25 #[.slice A l c, .agg (cell4 k s n A1 l1 c1)] w' (NewTy w' (funTy ts t))) := Lib.hid fun w' hw => FuncI_any ts HN3.out t HN1.out w' D D2 _ (HT.out.old (hb.trans (hw.mono hb.size))) A l c (H2.out.old (hb.trans (hw.mono hb.size)))
      obtain ⟨u1, hu1⟩ : ∃ u, u = applyTy ts t := ⟨_, rfl⟩
      obtain ⟨u2, hu2⟩ : ∃ u, u = funTy ts t := ⟨_, rfl⟩
      rw [← hu1] at C1 C2
      rw [← hu2] at C3 C4
      clear hu1 hu2 HN1 HN2 HN3 HN4 HT H2
      go_upto_region 3 with (fail)
      have hlr : w3.drew.heap.size = w3.heap.size := rfl
      refine wp_region_held_drew (S := Below w3.heap.size w3) mixed ((Below.refl _ w3).drew) (fun hS => ?_)
      refine ha_val (i := 0) rfl (by kernel_rfl) (by kernel_rfl) (by kernel_rfl) (fun _ _ _ h => h) hS rfl (fun w' hw' => ex_row rfl (f4 (below_look hw' hp))) ?_; try simp only [put_lit, List.set_cons_zero, List.set_cons_succ]
      refine ha_k (i := 1) rfl (by kernel_rfl) (by kernel_rfl) (by kernel_rfl) (fun _ _ _ _ h => h) hS rfl (fun K hK => ?_); go_simp; refine hK _ ?_; clear hK K; try simp only [put_lit, List.set_cons_zero, List.set_cons_succ]
      refine ha_val (i := 3) rfl (by kernel_rfl) (by kernel_rfl) (by kernel_rfl) (fun _ _ _ h => h) hS rfl (fun w' hw' => ex_row rfl (f4 (below_look hw' hp))) ?_; try simp only [put_lit, List.set_cons_zero, List.set_cons_succ]
      refine ha_k (i := 4) rfl (by kernel_rfl) (by kernel_rfl) (by kernel_rfl) (fun _ _ _ _ h => h) hS rfl (fun K hK => ?_); go_simp; refine hK _ ?_; clear hK K; try simp only [put_lit, List.set_cons_zero, List.set_cons_succ]
      refine ha_call (i := 2) (by kernel_rfl) rfl rfl (fun K hK => ?_)
      go_simp; refine ⟨_, _, ⟨rfl, rfl⟩, hK _ _ ⟨_, C1.out _ hS, ?_⟩⟩; clear hK K; rintro e w4 ⟨row4, rfl, hta4, hbc⟩; refine ⟨_, rfl, hS.trans (hbc.mono hS.size), ?_⟩
      replace hS := hS.trans (hbc.mono hS.size)
      try simp only [put_lit, List.set_cons_zero, List.set_cons_succ]
      have HA4 := Lib.hid hta4
      clear hta4 hbc
      refine ha_call (i := 5) (by kernel_rfl) rfl rfl (fun K hK => ?_)
      go_simp; refine ⟨_, _, ⟨rfl, rfl⟩, hK _ _ ⟨_, C2.out _ hS, ?_⟩⟩; clear hK K; rintro e w5 ⟨row5, rfl, hta5, hbc⟩; refine ⟨_, rfl, hS.trans (hbc.mono hS.size), ?_⟩
      replace hS := hS.trans (hbc.mono hS.size)
      try simp only [put_lit, List.set_cons_zero, List.set_cons_succ]
      replace HA4 := Lib.hid (HA4.out.old hbc)
      have HE := Lib.hid (by have := EqType_any u1 u1 w5 _ _ row4 row5 HA4.out hta5; rwa [eqTy_self] at this : Calls Tryd.prog 21 #[.agg row4, .agg row5] w5 fun e w' => e = .returned (.bool true) ∧ Below w5.heap.size w5 w')
      clear HA4 hta5 hbc
      refine ha_call (i := 6) (by kernel_rfl) rfl rfl (fun K hK => ?_)
      go_simp; refine ⟨_, _, ⟨rfl, rfl⟩, hK _ _ ⟨_, HE.out, ?_⟩⟩; clear hK K; rintro e w6 ⟨rfl, hbc⟩; refine ⟨_, rfl, hS.trans (hbc.mono hS.size), ?_⟩
      replace hS := hS.trans (hbc.mono hS.size)
      try simp only [put_lit, List.set_cons_zero, List.set_cons_succ]
      clear HE hbc
      refine ha_k (i := 7) rfl (by kernel_rfl) (by kernel_rfl) (by kernel_rfl) (fun _ _ _ _ h => h) hS rfl (fun K hK => ?_); go_simp; refine hK _ ?_; clear hK K; try simp only [put_lit, List.set_cons_zero, List.set_cons_succ]
      refine ha_k (i := 8) rfl (by kernel_rfl) (by kernel_rfl) (by kernel_rfl) (fun _ _ _ _ h => h) hS rfl (fun K hK => ?_); go_simp; refine hK _ ?_; clear hK K; try simp only [put_lit, List.set_cons_zero, List.set_cons_succ]
      refine ha_val (i := 9) rfl (by kernel_rfl) (by kernel_rfl) (by kernel_rfl) (fun _ _ _ h => h) hS rfl (fun w' hw' => ex_row rfl (f4 (below_look hw' hp))) ?_; try simp only [put_lit, List.set_cons_zero, List.set_cons_succ]
      refine ha_k (i := 11) rfl (by kernel_rfl) (by kernel_rfl) (by kernel_rfl) (fun _ _ _ _ h => h) hS rfl (fun K hK => ?_); go_simp; refine hK _ ?_; clear hK K; try simp only [put_lit, List.set_cons_zero, List.set_cons_succ]
      refine ha_val (i := 12) rfl (by kernel_rfl) (by kernel_rfl) (by kernel_rfl) (fun _ _ _ h => h) hS rfl (fun w' hw' => ex_row rfl (f4 (below_look hw' hp))) ?_; try simp only [put_lit, List.set_cons_zero, List.set_cons_succ]
      refine ha_call (i := 10) (by kernel_rfl) rfl rfl (fun K hK => ?_)
      go_simp; refine ⟨_, _, ⟨rfl, rfl⟩, hK _ _ ⟨_, C3.out _ hS, ?_⟩⟩; clear hK K; rintro e w7 ⟨row7, rfl, hta7, hbc⟩; refine ⟨_, rfl, hS.trans (hbc.mono hS.size), ?_⟩
      replace hS := hS.trans (hbc.mono hS.size)
      try simp only [put_lit, List.set_cons_zero, List.set_cons_succ]
      have HA7 := Lib.hid hta7
      clear hta7 hbc
      refine ha_call (i := 13) (by kernel_rfl) rfl rfl (fun K hK => ?_)
      go_simp; refine ⟨_, _, ⟨rfl, rfl⟩, hK _ _ ⟨_, C4.out _ hS, ?_⟩⟩; clear hK K; rintro e w8 ⟨row8, rfl, hta8, hbc⟩; refine ⟨_, rfl, hS.trans (hbc.mono hS.size), ?_⟩
      replace hS := hS.trans (hbc.mono hS.size)
      try simp only [put_lit, List.set_cons_zero, List.set_cons_succ]
      replace HA7 := Lib.hid (HA7.out.old hbc)
      have HE := Lib.hid (by have := EqType_any u2 u2 w8 _ _ row7 row8 HA7.out hta8; rwa [eqTy_self] at this : Calls Tryd.prog 21 #[.agg row7, .agg row8] w8 fun e w' => e = .returned (.bool true) ∧ Below w8.heap.size w8 w')
      clear HA7 hta8 hbc
      refine ha_call (i := 14) (by kernel_rfl) rfl rfl (fun K hK => ?_)
      go_simp; refine ⟨_, _, ⟨rfl, rfl⟩, hK _ _ ⟨_, HE.out, ?_⟩⟩; clear hK K; rintro e w9 ⟨rfl, hbc⟩; refine ⟨_, rfl, hS.trans (hbc.mono hS.size), ?_⟩
      replace hS := hS.trans (hbc.mono hS.size)
      try simp only [put_lit, List.set_cons_zero, List.set_cons_succ]
      clear HE hbc
      refine ha_k (i := 15) rfl (by kernel_rfl) (by kernel_rfl) (by kernel_rfl) (fun _ _ _ _ h => h) hS rfl (fun K hK => ?_); go_simp; refine hK _ ?_; clear hK K; try simp only [put_lit, List.set_cons_zero, List.set_cons_succ]
      refine ha_k (i := 16) rfl (by kernel_rfl) (by kernel_rfl) (by kernel_rfl) (fun _ _ _ _ h => h) hS rfl (fun K hK => ?_); go_simp; refine hK _ ?_; clear hK K; try simp only [put_lit, List.set_cons_zero, List.set_cons_succ]
      refine ha_call (i := 17) (by kernel_rfl) rfl rfl (fun K hK => ?_)
      go_simp; refine ⟨_, _, ⟨rfl, rfl⟩, hK _ _ ⟨_, awake_any _, ?_⟩⟩; clear hK K; rintro e w10 ⟨rfl, hbc⟩; refine ⟨_, rfl, hS.trans (hbc.mono hS.size), ?_⟩
      replace hS := hS.trans (hbc.mono hS.size)
      try simp only [put_lit, List.set_cons_zero, List.set_cons_succ]
      clear hbc
      refine ha_k (i := 18) rfl (by kernel_rfl) (by kernel_rfl) (by kernel_rfl) (fun _ _ _ _ h => h) hS rfl (fun K hK => ?_); go_simp; refine hK _ ?_; clear hK K; try simp only [put_lit, List.set_cons_zero, List.set_cons_succ]
      refine ha_k (i := 19) rfl (by kernel_rfl) (by kernel_rfl) (by kernel_rfl) (fun _ _ _ _ h => h) hS rfl (fun K hK => ?_); go_simp; refine hK _ ?_; clear hK K; try simp only [put_lit, List.set_cons_zero, List.set_cons_succ]
      replace hb := hb.trans (hS.mono hb.size)
      clear hS C1 C2 C3 C4 hp hlr
      refine wpAnyH_done (by kernel_rfl) ?_ _
      go_wp2_with fail
      go_ret
      exact ⟨rfl, hb⟩
end Go.Proofs.YtokmaehefenpmaaDoor
