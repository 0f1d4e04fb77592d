/- TypesUnify: the law function answers true. Equations taken out of a row's input. -/
import Derived.Test.YtokmaehefenpmaaDoorPE22
import Derived.Test.YtokmaehefenpmaaDoorPE18
import Derived.Test.YtokmaehefenpmaaDoorPE1
import Derived.Test.YtokmaehefenpmaaDoorPE8
namespace Go.Proofs.YtokmaehefenpmaaDoor
open Go.RowKit Go.ChangeMaps Go.Proofs.YtokmaehefenpmaaDoor.Nm
set_option linter.unusedSimpArgs false
/-- What both programs hand back: the types and the error. -/
def PairIs (es : Eqs) (r : Except Int (List Ty)) (ts : List Ty) (err : Int) : Prop := (¬ OpenE es ∧ ts = [] ∧ err = 30) ∨ (OpenE es ∧ r = .error err ∧ ts = []) ∨ (OpenE es ∧ err = 0 ∧ r = .ok ts)
theorem PairIs.same {es : Eqs} {r : Except Int (List Ty)} {ts us : List Ty} {e f : Int} (h : PairIs es r ts e) (h' : PairIs es r us f) : ts = us ∧ e = f := by
  rcases h with ⟨h1, rfl, rfl⟩ | ⟨h1, h2, rfl⟩ | ⟨h1, rfl, h2⟩ <;> rcases h' with ⟨k1, rfl, rfl⟩ | ⟨k1, k2, rfl⟩ | ⟨k1, rfl, k2⟩
  · exact ⟨rfl, rfl⟩
  · exact absurd k1 h1
  · exact absurd k1 h1
  · exact absurd h1 k1
  · rw [h2] at k2; cases k2; exact ⟨rfl, rfl⟩
  · rw [h2] at k2; cases k2
  · exact absurd h1 k1
  · rw [h2] at k2; cases k2
  · rw [h2] at k2; cases k2; exact ⟨rfl, rfl⟩
theorem UPost.pair {w w' : World} {es : Eqs} {r : Except Int (List Ty)} {e : Ending} (h : UPost w es r e w') : ∃ A l c err ts, e = .returned (.tuple #[.slice A l c, .int .i64 err]) ∧ PairIs es r ts err ∧ TysAt w' Any ts A l c ∧ Below w.heap.size w w' := by
  obtain ⟨hb, ⟨ho, he⟩ | ⟨ho, hr⟩⟩ := h
  · exact ⟨none, 0, 0, 30, [], he, .inl ⟨ho, rfl, rfl⟩, TysAt.nil _ _, hb⟩
  · cases r with
    | error c => exact ⟨none, 0, 0, c, [], hr, .inr (.inl ⟨ho, rfl, rfl⟩), TysAt.nil _ _, hb⟩
    | ok s =>
      obtain ⟨A, l, c, he, ht⟩ := hr
      exact ⟨A, l, c, 0, s, he, .inr (.inr ⟨ho, rfl, rfl⟩), ht.weak fun _ _ => trivial, hb⟩
theorem UIPost.pair {w w' : World} {es : Eqs} {r : Except Int (List Ty)} {e : Ending} (h : UIPost w es r e w') : ∃ A l c err ts, e = .returned (.tuple #[.slice A l c, .int .i64 err]) ∧ PairIs es r ts err ∧ TysAt w' Any ts A l c ∧ Below w.heap.size w w' := by
  obtain ⟨hb, ⟨ho, he⟩ | ⟨ho, hr⟩⟩ := h
  · exact ⟨none, 0, 0, 30, [], he, .inl ⟨ho, rfl, rfl⟩, TysAt.nil _ _, hb⟩
  · cases r with
    | error c => exact ⟨none, 0, 0, c, [], hr, .inr (.inl ⟨ho, rfl, rfl⟩), TysAt.nil _ _, hb⟩
    | ok s =>
      obtain ⟨A, l, c, he, ht⟩ := hr
      exact ⟨A, l, c, 0, s, he, .inr (.inr ⟨ho, rfl, rfl⟩), ht, hb⟩
set_option maxHeartbeats 8000000 in
set_option maxRecDepth 100000 in
theorem TypesUnify_any (es : Eqs) (A : Option Addr) (l c : Nat) (w : World) (D : Nat → Prop) (h : EqsAt w D es A l c) :
    Calls Tryd.prog 11 #[.slice A l c] w fun e w' => e = .returned (.bool true) ∧ Below w.heap.size w w' := by
  obtain ⟨kk, r, hst⟩ := unify_run es
  have HT := Lib.hid h
  have HST := Lib.hid hst
  clear h hst
  have hb := Below.refl w.heap.size w
  go_enter Tryd.func11, Tryd.ntmps11
  go_upto_region 0 with (fail)
  apply wp_region_lit
  (with_reducible refine wl_k ?_ ?_); exact rfl; intro K hK; go_simp; refine hK _ ?_; clear hK K
  have HC := Lib.hid (pairs_any es A l c w D HT.out)
  go_upto_region 1 with (fail)
  apply wp_region_lit
  (with_reducible refine wl_k ?_ ?_); exact rfl; intro K hK; go_simp; refine hK _ ?_; clear hK K
  (with_reducible refine wl_ck ?_ ?_); exact rfl; intro K hK; go_simp; refine ⟨_, _, ⟨rfl, rfl⟩, hK _ _ ⟨_, HC.out, ?_⟩⟩; clear hK K; rintro e w7 ⟨⟨b7, rfl, -⟩, hb7⟩; refine ⟨_, rfl, ?_⟩; simp only [Zq]
  (with_reducible refine wl_k ?_ ?_); exact rfl; intro K hK; go_simp; refine hK _ ?_; clear hK K
  replace hb := hb.trans (hb7.mono hb.size); clear hb7
  clear HC
  cases b7 with
  | false =>
    go_upto_region 2 with (fail)
    apply wp_region_lit
    (with_reducible refine wl_k ?_ ?_); exact rfl; intro K hK; go_simp; refine hK _ ?_; clear hK K
    go_wp2_with fail
    go_ret
    exact ⟨rfl, hb⟩
  | true =>
    have HC := Lib.hid ((Unify_any es kk r HST.out A l c w7 D (HT.out.old hb)).mono fun e w' h => h.pair)
    go_upto_region 3 with (fail)
    apply wp_region_lit
    (with_reducible refine wl_k ?_ ?_); exact rfl; intro K hK; go_simp; refine hK _ ?_; clear hK K
    (with_reducible refine wl_ck ?_ ?_); exact rfl; intro K hK; go_simp; refine ⟨_, _, ⟨rfl, rfl⟩, hK _ _ ⟨_, HC.out, ?_⟩⟩; clear hK K; rintro e w8 ⟨A8, l8, c8, err, ts, rfl, hp1, ht1, hb8⟩; refine ⟨_, rfl, ?_⟩; simp only [Zq]
    (with_reducible refine wl_k ?_ ?_); exact rfl; intro K hK; go_simp; refine hK _ ?_; clear hK K
    (with_reducible refine wl_k ?_ ?_); exact rfl; intro K hK; go_simp; refine hK _ ?_; clear hK K
    (with_reducible refine wl_k ?_ ?_); exact rfl; intro K hK; go_simp; refine hK _ ?_; clear hK K
    (with_reducible refine wl_k ?_ ?_); exact rfl; intro K hK; go_simp; refine hK _ ?_; clear hK K
    (with_reducible refine wl_k ?_ ?_); exact rfl; intro K hK; go_simp; refine hK _ ?_; clear hK K
    clear HC
    have HP1 := Lib.hid hp1
    have HT1 := Lib.hid ht1
    clear hp1 ht1
    replace hb := hb.trans (hb8.mono hb.size); clear hb8
    have HC := Lib.hid ((UnifyI_any es kk r HST.out A l c w8 D (HT.out.old hb)).mono fun e w' h => h.pair)
    go_upto_region 4 with (fail)
    apply wp_region_lit
    (with_reducible refine wl_k ?_ ?_); exact rfl; intro K hK; go_simp; refine hK _ ?_; clear hK K
    (with_reducible refine wl_ck ?_ ?_); exact rfl; intro K hK; go_simp; refine ⟨_, _, ⟨rfl, rfl⟩, hK _ _ ⟨_, HC.out, ?_⟩⟩; clear hK K; rintro e w9 ⟨A9, l9, c9, err9, us, rfl, hp2, ht2, hb9⟩; refine ⟨_, rfl, ?_⟩; simp only [Zq]
    (with_reducible refine wl_k ?_ ?_); exact rfl; intro K hK; go_simp; refine hK _ ?_; clear hK K
    (with_reducible refine wl_k ?_ ?_); exact rfl; intro K hK; go_simp; refine hK _ ?_; clear hK K
    (with_reducible refine wl_k ?_ ?_); exact rfl; intro K hK; go_simp; refine hK _ ?_; clear hK K
    (with_reducible refine wl_k ?_ ?_); exact rfl; intro K hK; go_simp; refine hK _ ?_; clear hK K
    (with_reducible refine wl_k ?_ ?_); exact rfl; intro K hK; go_simp; refine hK _ ?_; clear hK K
    clear HC
    have HP2 := Lib.hid hp2
    have HT2 := Lib.hid ht2
    have HT19 := Lib.hid (HT1.out.old hb9)
    clear hp2 ht2 HT1
    replace hb := hb.trans (hb9.mono hb.size); clear hb9
    obtain ⟨hts, rfl⟩ := HP1.out.same HP2.out
    have hc := EqTypes_any ts us A8 A9 l8 c8 l9 c9 w9 _ _ HT19.out HT2.out
    rw [show eqTys ts us = true by rw [hts]; simp [eqTys]] at hc
    have HC := Lib.hid hc
    clear hts hc
    go_upto_region 5 with (fail)
    apply wp_region_lit
    (with_reducible refine wl_k ?_ ?_); exact rfl; intro K hK; go_simp; refine hK _ ?_; clear hK K
    (with_reducible refine wl_k ?_ ?_); exact rfl; intro K hK; go_simp; refine hK _ ?_; clear hK K
    (with_reducible refine wl_k ?_ ?_); exact rfl; intro K hK; go_simp; refine hK _ ?_; clear hK K
    (with_reducible refine wl_k ?_ ?_); exact rfl; intro K hK; go_simp; refine hK _ ?_; clear hK K
    (with_reducible refine wl_k ?_ ?_); exact rfl; intro K hK; go_simp; refine hK _ ?_; clear hK K
    (with_reducible refine wl_k ?_ ?_); exact rfl; intro K hK; go_simp; refine hK _ ?_; clear hK K
    (with_reducible refine wl_ck ?_ ?_); exact rfl; intro K hK; go_simp; refine ⟨_, _, ⟨rfl, rfl⟩, hK _ _ ⟨_, HC.out, ?_⟩⟩; clear hK K; rintro e wa ⟨rfl, hba⟩; refine ⟨_, rfl, ?_⟩; simp only [Zq]
    replace hb := hb.trans (hba.mono hb.size); clear hba
    have HAW := Lib.hid (awake_any wa)
    (with_reducible refine wl_k ?_ ?_); exact rfl; intro K hK; go_simp; refine hK _ ?_; clear hK K
    (with_reducible refine wl_k ?_ ?_); exact rfl; intro K hK; go_simp; refine hK _ ?_; clear hK K
    (with_reducible refine wl_ck ?_ ?_); exact rfl; intro K hK; go_simp; refine ⟨_, _, ⟨rfl, rfl⟩, hK _ _ ⟨_, HAW.out, ?_⟩⟩; clear hK K; rintro e wb ⟨rfl, hbb⟩; refine ⟨_, rfl, ?_⟩; simp only [Zq]
    replace hb := hb.trans (hbb.mono hb.size); clear hbb
    (with_reducible refine wl_k ?_ ?_); exact rfl; intro K hK; go_simp; refine hK _ ?_; clear hK K
    (with_reducible refine wl_k ?_ ?_); exact rfl; intro K hK; go_simp; refine hK _ ?_; clear hK K
    clear HC HAW
    go_wp2_with fail
    go_ret
    exact ⟨rfl, hb⟩
open Go.ChangeShapes Go.WideShapes Go.ChangeAt Go.RowKit
theorem cells24 : Tryd.prog.cellsOf 24 = 4 := by kernel_rfl
theorem cells58 : Tryd.prog.cellsOf 58 = 8 := by kernel_rfl
section
variable {H : Type} {enc : TypeId × Value → H} {w : World} {sp : Nat → Bool} {held : Bool} {r : Reach} {b0 base : Nat} {v : Value} {d : DataW H} {p : List MemPlace}
set_option maxRecDepth 100000 in
theorem open_eqs2 (hv : Value.okWide Tryd.prog w r b0 53 v) (h : DataW.Trod enc Tryd.prog w base sp held 53 v d p) : ∃ A l c es, v = .slice A l c ∧ EqsAt w (fun b => base ≤ b) es A l c ∧ (A = none → es = [] ∧ c = 0) := by
  obtain ⟨A, l, c, rfl⟩ := okWide_slice u53 hv
  obtain ⟨fuel, hf⟩ := h
  rcases DataW.trod_slice u53 hf with ⟨hcs, _⟩ | ⟨a, len, cap, elems, rest, k, hk, hcs, _, hb, hl, hm, hle, hall, _, _⟩
  · simp [Value.cells] at hcs
    obtain ⟨rfl, rfl, rfl⟩ := hcs
    exact ⟨_, _, _, [], rfl, ⟨rfl, Nat.le_refl _, Nat.zero_le _, fun i a b hi => by simp at hi⟩, fun _ => ⟨rfl, rfl⟩⟩
  · simp [Value.cells] at hcs
    obtain ⟨rfl, rfl, rfl⟩ := hcs
    have hs : ∀ i, i < l → a.spot = none := fun i hi => by
      have k0 := hall 0 (by omega)
      rw [List.getElem?_eq_getElem (by omega), Option.bind_eq_some_iff] at k0
      obtain ⟨cs0, k1, _⟩ := k0
      rw [cells58] at k1
      obtain ⟨_, hlen0, hcell0⟩ := World.cells?_some k1
      have z0 := hcell0 0 (by omega)
      rw [List.getElem?_eq_getElem (show 0 < cs0.length by omega)] at z0
      unfold World.cell? at z0
      simp [Addr.add] at z0
      split at z0
      · split at z0
        · cases z0
        · rename_i h; simpa using h
      · cases z0
    have each : ∀ i, i < l → ∃ q : Ty × Ty, ∃ Cs t fr, w.heap[a.block]? = some (.cells Cs t fr) ∧ ∃ rowa rowb, Cs.extract (a.off + i * 8) (a.off + i * 8 + 4) = rowa ∧ Cs.extract (a.off + i * 8 + 4) (a.off + i * 8 + 8) = rowb ∧ TyAt w (fun b => base ≤ b) q.1 rowa ∧ TyAt w (fun b => base ≤ b) q.2 rowb := fun i hi => by
      have hi2 := hall i hi
      rw [List.getElem?_eq_getElem (by omega), Option.bind_eq_some_iff] at hi2
      obtain ⟨cs', h1, h2⟩ := hi2
      rw [cells58] at h1
      obtain ⟨_, hlen, hcell⟩ := World.cells?_some h1
      obtain ⟨xs, m, _, _, _, hxl, hxs⟩ := DataW.trod_array u58 h2
      rw [cells24] at hxs
      have g0 := hxs 0 (by omega)
      have g1 := hxs 1 (by omega)
      rw [List.getElem?_eq_getElem (by omega)] at g0 g1
      obtain ⟨t0, ht0⟩ := open_tree tyNums m _ _ g0
      obtain ⟨t1, ht1⟩ := open_tree tyNums m _ _ g1
      have hsp := hs i hi
      obtain ⟨Cs, t', fr, q1, q2⟩ := four_row (w := w) (a := a) (i := i * 2) (cs := (cs'.drop (0 * 4)).take 4) (by simp; omega) (fun j hj => by
        rw [show i * 2 * 4 + j = i * 8 + j by omega, ← Addr.add_add, hcell j (by omega), List.getElem?_take_of_lt hj, List.getElem?_drop]
        simp) hsp
      obtain ⟨Cs', t'', fr', q3, q4⟩ := four_row (w := w) (a := a) (i := i * 2 + 1) (cs := (cs'.drop (1 * 4)).take 4) (by simp; omega) (fun j hj => by
        rw [show (i * 2 + 1) * 4 + j = i * 8 + (4 + j) by omega, ← Addr.add_add, hcell (4 + j) (by omega), List.getElem?_take_of_lt hj, List.getElem?_drop]) hsp
      rw [q1] at q3
      cases q3
      refine ⟨(t0, t1), Cs, t', fr, q1, _, _, ?_, ?_, ht0, ht1⟩
      · rw [← q2]; congr 1 <;> omega
      · rw [← q4]; congr 1 <;> omega
    obtain ⟨es, hln, hall2⟩ := choose_list l each
    refine ⟨_, _, _, es, rfl, ⟨hln, hl, hm, fun i x y hi => ?_⟩, fun h => by cases h⟩
    obtain ⟨Cs, t, fr, q1, rowa, rowb, q2, q3, q4, q5⟩ := hall2 i _ hi
    have hil := (List.getElem?_eq_some_iff.1 hi).1
    have hsp := hs i (by omega)
    exact ⟨a.block, a.off, Cs, t, fr, rowa, rowb, by obtain ⟨b, off, s⟩ := a; simp at hsp; simp [hsp], hb, q1, q2, q3, q4, q5⟩
set_option maxRecDepth 100000 in
theorem open_eqs (hv : Value.okWide Tryd.prog w r b0 53 v) (h : DataW.Trod enc Tryd.prog w base sp held 53 v d p) : ∃ A l c es, v = .slice A l c ∧ EqsAt w (fun b => base ≤ b) es A l c := by
  obtain ⟨A, l, c, es, h1, h2, -⟩ := open_eqs2 hv h
  exact ⟨A, l, c, es, h1, h2⟩
end
end Go.Proofs.YtokmaehefenpmaaDoor
