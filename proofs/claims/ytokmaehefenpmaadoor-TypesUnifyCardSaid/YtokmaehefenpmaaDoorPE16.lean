/- The document's put: a variable of the solution replaced. -/
import Derived.Test.YtokmaehefenpmaaDoorPE2
import Derived.Test.YtokmaehefenpmaaDoorPE15
import Derived.Test.YtokmaehefenpmaaDoorPE9
namespace Go.Proofs.YtokmaehefenpmaaDoor
open Go.RowKit Go.ChangeMaps Go.Proofs.YtokmaehefenpmaaDoor.Nm
set_option linter.unusedSimpArgs false
/-- The row of types by which put replaces one variable. -/
def onlyL (v : Nat) (t : Ty) : List Ty := List.replicate v zeroTy ++ [t]
theorem only_len (v : Nat) (t : Ty) : (onlyL v t).length = v + 1 := by simp [onlyL]
theorem only_at {v : Nat} {t : Ty} {i : Nat} {x : Ty} (h : (onlyL v t)[i]? = some x) : (i < v ∧ x = zeroTy) ∨ (i = v ∧ x = t) := by
  unfold onlyL at h
  rcases Nat.lt_or_ge i v with hlt | hge
  · rw [List.getElem?_append_left (by simpa using hlt), List.getElem?_replicate, if_pos hlt] at h
    cases h
    exact .inl ⟨hlt, rfl⟩
  · rw [List.getElem?_append_right (by simpa using hge), List.length_replicate] at h
    have h1 := (List.getElem?_eq_some_iff.1 h).1
    simp at h1
    have h2 : i = v := by omega
    subst h2
    simp at h
    exact .inr ⟨rfl, h.symm⟩
theorem app_zero {sol : List Ty} {v : Nat} {u : Ty} (h : sol[v]? = some u) (hk : u.kind = 0) : applyTy sol (varT v) = varT v := by
  unfold applyTy varT
  rw [repl_none]
  · rfl
  · simp [selVar, Ty.kind, Ty.num, h]
    exact if_pos hk
theorem only_app {m v : Nat} {t : Ty} (ht : FineV m t) : ∀ x, FineV m x → applyTy (onlyL v t) x = sub1 v t x := FineV.ind (fun w hw => by
    rw [sub1_var]
    rcases Nat.lt_trichotomy w v with h | h | h
    · rw [if_neg (by omega)]
      refine app_zero (u := zeroTy) ?_ rfl
      unfold onlyL
      rw [List.getElem?_append_left (by simpa using h), List.getElem?_replicate, if_pos h]
    · rw [if_pos h, h]
      refine app_var ?_ ht.kind
      unfold onlyL
      rw [List.getElem?_append_right (by simp), List.length_replicate, Nat.sub_self]
      rfl
    · rw [if_neg (by omega)]
      refine app_none (List.getElem?_eq_none ?_)
      rw [only_len]
      omega) fun k s n l h1 h2 _ ih => by
  rw [app_node h1, sub1_node h1]
  congr 1
  exact List.map_congr_left ih
theorem only_small {v : Nat} {t : Ty} (h : t.nodes ≤ 40) : ∀ u, u ∈ onlyL v t → u.nodes ≤ 1000000 := fun u hu => by
  obtain ⟨i, hi⟩ := List.mem_iff_getElem?.1 hu
  rcases only_at hi with ⟨-, rfl⟩ | ⟨-, rfl⟩
  · simp [zeroTy, Ty.nodes, nodesL]
  · omega
theorem only_tys {w : World} {g v : Nat} {t : Ty} {row : Array Value} {D : Nat → Prop} (hD : ∀ b, D b → b ≠ g) (hv : v ≤ 60) (ht : TyAt w D t row) :
    (w.heap[g]? = some (.cells (madeCells (cell4 0 ⟨#[]⟩ 0 none 0 0) ((v + 1) * 4)) 24 (0, 0))) → TysAt (w.setRow g (put4 (madeCells (cell4 0 ⟨#[]⟩ 0 none 0 0) ((v + 1) * 4)) v row)) (fun _ => True) (onlyL v t) (some ⟨g, 0, none⟩) (v + 1) (v + 1) := fun hg => by
  have hle : v * 4 + 4 ≤ (madeCells (cell4 0 ⟨#[]⟩ 0 none 0 0) ((v + 1) * 4)).size := by rw [size_madeCells]; omega
  refine ⟨only_len v t, Nat.le_refl _, by unfold maxLen; omega, fun i => (put4 (madeCells (cell4 0 ⟨#[]⟩ 0 none 0 0) ((v + 1) * 4)) v row).extract (i * 4) (i * 4 + 4), fun i x hx => ⟨g, 0, _, 24, (0, 0), rfl, trivial, hr_new hg, by rw [Nat.zero_add]⟩, fun i x hx => ?_⟩
  rcases only_at hx with ⟨hlt, rfl⟩ | ⟨rfl, rfl⟩
  · show TyAt _ _ _ _
    dsimp only
    rw [put4_other ht.size hle (by omega), made4 (by omega)]
    exact zeroTy_at _ _
  · dsimp only
    rw [put4_same ht.size hle]
    exact (ht.mono (D' := D) (fun _ h => h) fun b hb => setRow_other w g b _ (hD b hb)).weak fun _ _ => trivial
theorem OutR.get {w : World} {B g m : Nat} {s : List Ty} {j i : Nat} (h : OutR w B g m s j) (hi : i < j) {t : Ty} (ht : s[i]? = some t) : ∃ k s n A l c, RowAt w 24 ⟨g, i * 4, none⟩ (cell4 k s n A l c) ∧ TyAt w (fun b => B ≤ b ∧ b ≠ g) t (cell4 k s n A l c) := by
  obtain ⟨cs, h1, h2, h3⟩ := h
  have h4 := h3 i t hi ht
  obtain ⟨k, s', n, A, l, c, e⟩ := row4 h4
  refine ⟨k, s', n, A, l, c, row_mid (n := 4) h1 e u24 rfl rfl info24, e ▸ h4⟩
theorem TysAt.lowT {w : World} {D : Nat → Prop} {ts : List Ty} {A : Option Addr} {l c : Nat} (h : TysAt w D ts A l c) : TysAt w (fun b => D b ∧ b < w.heap.size) ts A l c := by
  obtain ⟨h1, h2, h3, rows, h4, h5⟩ := h
  refine ⟨h1, h2, h3, rows, fun i t hi => ?_, fun i t hi => (h5 i t hi).low⟩
  obtain ⟨b, off, Cs, t', fr, g1, g2, g3, g4⟩ := h4 i t hi
  exact ⟨b, off, Cs, t', fr, g1, ⟨g2, heap_lt g3⟩, g3, g4⟩
theorem Keep.row {C : Nat → Prop} {w w' : World} (h : Keep C w w') {g : Nat} (hg : C g) (cs : Array Value) : Keep C w (w'.setRow g cs) :=
  ⟨by simp [h.os], by simp [h.tape], by simp [h.output], by simp [h.size], fun b hb hne => by rw [setRow_other w' g b cs (fun e => hne (e ▸ hg))]; exact h.block b hb hne⟩
/-- What put hands back. -/
def PIPost (w : World) (x : Except Int (List Ty)) (e : Ending) (w' : World) : Prop := Below w.heap.size w w' ∧ match x with
  | .error c => e = .returned (.tuple #[.slice none 0 0, .int .i64 c])
  | .ok s => ∃ A l c, e = .returned (.tuple #[.slice A l c, .int .i64 0]) ∧ TysAt w' (fun b => w.heap.size ≤ b) s A l c
theorem PIPost.err {w w' : World} {x : Except Int (List Ty)} {c : Int} (hx : x = .error c) (hb : Below w.heap.size w w') : PIPost w x (.returned (.tuple #[.slice none 0 0, .int .i64 c])) w' := by subst hx; exact ⟨hb, rfl⟩
theorem PIPost.yes {w w' : World} {x : Except Int (List Ty)} {s : List Ty} {A : Option Addr} {l c : Nat} (hx : x = .ok s) (hb : Below w.heap.size w w') (ht : TysAt w' (fun b => w.heap.size ≤ b) s A l c) : PIPost w x (.returned (.tuple #[.slice A l c, .int .i64 0])) w' := by subst hx; exact ⟨hb, A, l, c, rfl, ht⟩
theorem bindP_many {sol : List Ty} {v : Nat} {t : Ty} (ho : t.occ v = false) (hn : t.nodes ≤ 40) {j : Nat} {u : Ty} (hu : (sol.map (sub1 v t))[j]? = some u) (hb : 40 < u.nodes) : bindP sol v t = .error 2 := by
  unfold bindP
  rw [ho, if_neg (by simp), if_neg (by omega), if_pos]
  exact List.any_eq_true.2 ⟨u, List.mem_of_getElem? hu, decide_eq_true hb⟩
theorem bindP_ok {sol : List Ty} {v : Nat} {t : Ty} (ho : t.occ v = false) (hn : t.nodes ≤ 40) (h : ∀ u, u ∈ sol.map (sub1 v t) → u.nodes ≤ 40) : bindP sol v t = .ok (sol.map (sub1 v t)) := by
  unfold bindP
  rw [ho, if_neg (by simp), if_neg (by omega), if_neg]
  intro h2
  obtain ⟨u, hu, hd⟩ := List.any_eq_true.1 h2
  have := h u hu
  have := of_decide_eq_true hd
  omega
set_option maxHeartbeats 8000000 in
set_option maxRecDepth 100000 in
theorem putI_any {m : Nat} {sol : List Ty} (hg : Good m sol) (hm : m ≤ 40) {v : Nat} {t : Ty} (hv : v < m) (ht : FineV m t) (w : World) (D D' : Nat → Prop) (A : Option Addr) (l c : Nat) (hs : TysAt w D sol A l c) (row : Array Value) (h : TyAt w D' t row) :
    Calls Tryd.prog 102 #[.slice A l c, .int .i64 (v : Int), .agg row] w (PIPost w (bindP sol v t)) := by
  have HT := Lib.hid h
  obtain ⟨k, s, n, A1, l1, c1, ts, htt, rfl, -⟩ := h.parts
  have hlm : l = m := by rw [← hs.len, hg.len]
  subst hlm
  obtain ⟨oc, hoc⟩ : ∃ oc, oc = t.occ v := ⟨_, rfl⟩
  obtain ⟨q, hq⟩ : ∃ q : Nat, q = min t.nodes (40 + 1) := ⟨_, rfl⟩
  obtain ⟨sl, hsl⟩ : ∃ sl, sl = sol.map (sub1 v t) := ⟨_, rfl⟩
  have HS := Lib.hid hs
  have HSL := Lib.hid hsl
  have HG := Lib.hid hg
  have HFT := Lib.hid ht
  have HOC := Lib.hid hoc
  have HQ := Lib.hid hq
  have hcm := hs.cap
  have hmx := hs.max
  unfold maxLen at hmx
  clear htt hs hg ht h hoc hq hsl
  have hb := Below.refl w.heap.size w
  go_enter Tryd.func102, Tryd.ntmps102
  go_upto_region 0 with (fail)
  apply wp_region_lit
  (with_reducible refine wl_box rfl ?_); intro W p hbn hlp hp; replace hb := hb.trans (hbn.mono hb.size); clear hbn; simp only [Zq]
  (with_reducible refine wl_k ?_ ?_); exact rfl; intro K hK; go_simp; refine hK _ ?_; clear hK K
  (with_reducible refine wl_k ?_ ?_); exact rfl; intro K hK; go_simp; refine hK _ ?_; clear hK K
  have hc7 := Occurs_any v t W _ _ (HT.out.old hb)
  rw [← HOC.out] at hc7
  have HC := Lib.hid hc7
  clear hc7
  go_upto_region 1 with (fail)
  apply wp_region_lit
  (with_reducible refine wl_k ?_ ?_); exact rfl; intro K hK; go_simp; refine hK _ ?_; clear hK K
  (first | ((with_reducible apply wl_oneG); exact rfl; exact rfl; first | exact f0 (by with_reducible assumption) | exact f1 (by with_reducible assumption) | exact f2 (by with_reducible assumption) | exact f3 (by with_reducible assumption) | with_reducible assumption | exact g22 (by with_reducible assumption) | exact g25 (by with_reducible assumption)) | ((with_reducible apply wl_rowG); exact rfl; exact rfl; first | with_reducible assumption | exact RowK.now (by with_reducible assumption) | exact f4 (by with_reducible assumption)))
  (with_reducible refine wl_ck ?_ ?_); exact rfl; intro K hK; go_simp; refine ⟨_, _, ⟨rfl, rfl⟩, hK _ _ ⟨_, HC.out, ?_⟩⟩; clear hK K; rintro e w7 ⟨rfl, hb7⟩; refine ⟨_, rfl, ?_⟩; simp only [Zq]
  replace hp := below_look hb7 hp; replace hb := hb.trans (hb7.mono hb.size); clear hb7
  clear HC
  cases oc with
  | true =>
    clear hp
    go_upto_region 2 with (fail)
    apply wp_region_lit
    (with_reducible refine wl_k ?_ ?_); exact rfl; intro K hK; go_simp; refine hK _ ?_; clear hK K
    (with_reducible refine wl_k ?_ ?_); exact rfl; intro K hK; go_simp; refine hK _ ?_; clear hK K
    go_wp2_with fail
    go_ret2
    exact PIPost.err (bind_occ HOC.out.symm) hb
  | false =>
    have hc7 := TypeNodes_any 40 (by omega) t w7 _ _ (HT.out.old hb)
    rw [← HQ.out] at hc7
    have HC := Lib.hid hc7
    clear hc7
    go_upto_region 3 with (fail)
    by_cases hlt : 40 < q
    · have hltI : (q : Int) > 40 := by omega
      have HB := Lib.hid (show 40 < t.nodes by have := HQ.out; omega)
      apply wp_region_lit
      (first | ((with_reducible apply wl_oneG); exact rfl; exact rfl; first | exact f0 (by with_reducible assumption) | exact f1 (by with_reducible assumption) | exact f2 (by with_reducible assumption) | exact f3 (by with_reducible assumption) | with_reducible assumption | exact g22 (by with_reducible assumption) | exact g25 (by with_reducible assumption)) | ((with_reducible apply wl_rowG); exact rfl; exact rfl; first | with_reducible assumption | exact RowK.now (by with_reducible assumption) | exact f4 (by with_reducible assumption)))
      (with_reducible refine wl_ck ?_ ?_); exact rfl; intro K hK; go_simp; refine ⟨_, _, ⟨rfl, rfl⟩, hK _ _ ⟨_, HC.out, ?_⟩⟩; clear hK K; rintro e w8 ⟨rfl, hb7⟩; refine ⟨_, rfl, ?_⟩; simp only [Zq]
      replace hp := below_look hb7 hp; replace hb := hb.trans (hb7.mono hb.size); clear hb7
      (with_reducible refine wl_k ?_ ?_); exact rfl; intro K hK; go_simp; refine hK _ ?_; clear hK K
      clear HC hp
      go_upto_region 4 with (fail)
      apply wp_region_lit
      (with_reducible refine wl_k ?_ ?_); exact rfl; intro K hK; go_simp; refine hK _ ?_; clear hK K
      (with_reducible refine wl_k ?_ ?_); exact rfl; intro K hK; go_simp; refine hK _ ?_; clear hK K
      go_wp2_with fail
      go_ret2
      exact PIPost.err (bind_big HOC.out.symm HB.out) hb
    · have hltI : ¬ (q : Int) > 40 := by omega
      have HB := Lib.hid (show t.nodes ≤ 40 by have := HQ.out; omega)
      apply wp_region_lit
      (first | ((with_reducible apply wl_oneG); exact rfl; exact rfl; first | exact f0 (by with_reducible assumption) | exact f1 (by with_reducible assumption) | exact f2 (by with_reducible assumption) | exact f3 (by with_reducible assumption) | with_reducible assumption | exact g22 (by with_reducible assumption) | exact g25 (by with_reducible assumption)) | ((with_reducible apply wl_rowG); exact rfl; exact rfl; first | with_reducible assumption | exact RowK.now (by with_reducible assumption) | exact f4 (by with_reducible assumption)))
      (with_reducible refine wl_ck ?_ ?_); exact rfl; intro K hK; go_simp; refine ⟨_, _, ⟨rfl, rfl⟩, hK _ _ ⟨_, HC.out, ?_⟩⟩; clear hK K; rintro e w8 ⟨rfl, hb7⟩; refine ⟨_, rfl, ?_⟩; simp only [Zq]
      replace hp := below_look hb7 hp; replace hb := hb.trans (hb7.mono hb.size); clear hb7
      (with_reducible refine wl_k ?_ ?_); exact rfl; intro K hK; go_simp; refine hK _ ?_; clear hK K
      clear HC hltI hlt
      obtain ⟨v1, hv1⟩ : ∃ v1, v1 = v + 1 := ⟨_, rfl⟩
      have hv1I : (v : Int) + 1 = (v1 : Int) := by omega
      have hv1l : (v : Int) < (v1 : Int) := by omega
      have hv1n : v < v1 := by omega
      have hv60 : v1 ≤ 60 := by omega
      have HV1 := Lib.hid hv1
      have hnw : IntKind.i64.wrap (v1 : Int) = (v1 : Int) := IntWalk.i64_in _ (by omega)
      clear hv1
      go_upto_region 5 with (fail)
      apply wp_region_lit
      (with_reducible refine wl_k ?_ ?_); exact rfl; intro K hK; go_simp; refine hK _ ?_; clear hK K
      (with_reducible refine wl_k ?_ ?_); exact rfl; intro K hK; go_simp; refine hK _ ?_; clear hK K
      (with_reducible refine wl_mk22 (by omega) rfl rfl ?_); intro W5 g hbn hlg hg; have hgw : w.heap.size ≤ g := by have := hb.size; omega
      replace hp := below_look hbn hp; replace hb := hb.trans (hbn.mono hb.size); clear hbn; simp only [Zq]
      (with_reducible refine wl_k ?_ ?_); exact rfl; intro K hK; go_simp; refine hK _ ?_; clear hK K
      clear hv1I hnw
      have hle : v * 4 + 4 ≤ (madeCells (cell4 0 ⟨#[]⟩ 0 none 0 0) (v1 * 4)).size := by rw [size_madeCells]; omega
      have hta : TyAt W5 (fun b => b ≠ g) t (cell4 k s n A1 l1 c1) := (HT.out.low.old hb).weak fun b h => by have := h.2; omega
      have HON := Lib.hid (only_tys (v := v) (fun b h => h) (by omega) hta (by rw [← HV1.out]; exact hg))
      rw [← HV1.out] at HON
      clear hta
      go_upto_region 6 with (fail)
      apply wp_region_lit
      (with_reducible refine wl_k ?_ ?_); exact rfl; intro K hK; go_simp; refine hK _ ?_; clear hK K
      (with_reducible refine wl_k ?_ ?_); exact rfl; intro K hK; go_simp; refine hK _ ?_; clear hK K
      (first | ((with_reducible apply wl_oneG); exact rfl; exact rfl; first | exact f0 (by with_reducible assumption) | exact f1 (by with_reducible assumption) | exact f2 (by with_reducible assumption) | exact f3 (by with_reducible assumption) | with_reducible assumption | exact g22 (by with_reducible assumption) | exact g25 (by with_reducible assumption)) | ((with_reducible apply wl_rowG); exact rfl; exact rfl; first | with_reducible assumption | exact RowK.now (by with_reducible assumption) | exact f4 (by with_reducible assumption)))
      (with_reducible refine wl_k ?_ ?_); exact rfl; intro K hK; go_simp; refine hK _ ?_; clear hK K
      refine wl_store4 rfl rfl hg hle ?_
      rw [put_noneA]
      replace hb := below_setRow hb hgw (put4 (madeCells (cell4 0 ⟨#[]⟩ 0 none 0 0) (v1 * 4)) v (cell4 k s n A1 l1 c1))
      obtain ⟨W6, hW6⟩ : ∃ X, X = W5.setRow g (put4 (madeCells (cell4 0 ⟨#[]⟩ 0 none 0 0) (v1 * 4)) v (cell4 k s n A1 l1 c1)) := ⟨_, rfl⟩
      rw [← hW6] at HON hb ⊢
      clear hW6 hp hg hle hv1l hv1n hlg
      go_upto_region 7 with (fail)
      apply wp_region_lit
      (with_reducible refine wl_k ?_ ?_); exact rfl; intro K hK; go_simp; refine hK _ ?_; clear hK K
      (with_reducible refine wl_k ?_ ?_); exact rfl; intro K hK; go_simp; refine hK _ ?_; clear hK K
      (with_reducible refine wl_mk22 (by omega) rfl rfl ?_); intro W7 g2 hbn hlg hg
      have HG2 : Hid (w.heap.size ≤ g2 ∧ W6.heap.size ≤ g2) := Lib.hid (by have := hb.size; omega)
      have HON7 := Lib.hid (HON.out.lowT.old hbn)
      replace hb := hb.trans (hbn.mono hb.size); clear hbn; simp only [Zq]
      (with_reducible refine wl_k ?_ ?_); exact rfl; intro K hK; go_simp; refine hK _ ?_; clear hK K
      have HOR := Lib.hid (OutR.new (B := w.heap.size) (m := l) (s := sl) hg (by rw [size_madeCells]))
      have HB7 := Lib.hid hb
      clear hg hb HON hlg hgw
      go_upto_region 8 with (fail)
      apply wp_region_lit
      (with_reducible refine wl_k ?_ ?_); exact rfl; intro K hK; go_simp; refine hK _ ?_; clear hK K
      go_wp2_with fail
      go_loopw [10] (fun i wr => ∃ j : Nat, j ≤ l ∧ i = .int .i64 (j : Int) ∧ Hid (OutR wr w.heap.size g2 l sl j) ∧ Hid (∀ (i : Nat) (u : Ty), i < j → sl[i]? = some u → u.nodes ≤ 40) ∧ Hid (Keep (fun b => b = g2) W7 wr)) (fun i _ => l - (intOf i).toNat)
      case atStart => exact ⟨0, by omega, rfl, HOR, Lib.hid (fun i u h => by omega), Lib.hid (Keep.refl _ _)⟩
      case round =>
        clear HOR
        obtain ⟨j, hj, rfl, HOR, HSM, HKW⟩ := hrel
        obtain ⟨wo, rfl⟩ : ∃ wo, wo = wr := ⟨_, rfl⟩
        go_upto_region 9 with (fail)
        by_cases hlt : j < l
        · have hltI : (j : Int) < (l : Int) := by omega
          have HSW := Lib.hid ((HS.out.lowT.old HB7.out).keep HKW.out (fun b hb => by have := hb.2; have := HG2.out; omega))
          have HOW := Lib.hid (HON7.out.keep HKW.out (fun b hb => by have := hb.2; have := HG2.out; omega))
          obtain ⟨b, off, u, rowu, rfl, -, hu, -⟩ := HSW.out.get hlt
          obtain ⟨rowu, hru, htu⟩ := HSW.out.rowK hu
          have hmem := List.mem_of_getElem? hu
          have hsj : sl[j]? = some (sub1 v t u) := by rw [HSL.out, List.getElem?_map, hu]; rfl
          have hc := ApplyI_any (onlyL v t) (only_small HB.out) u (by have := HG.out.size u hmem; omega) wo _ _ htu _ _ _ _ HOW.out
          rw [only_app HFT.out u (HG.out.fine u hmem)] at hc
          obtain ⟨x, hx⟩ : ∃ x, x = sub1 v t u := ⟨_, rfl⟩
          rw [← hx] at hc hsj
          have HC := Lib.hid hc
          have HSJ := Lib.hid hsj
          have HRU := Lib.hid hru
          clear hu htu hmem hsj hc hx hru
          apply wp_region_lit
          (with_reducible refine wl_k ?_ ?_); exact rfl; intro K hK; go_simp; refine hK _ ?_; clear hK K
          (with_reducible refine wl_k ?_ ?_); exact rfl; intro K hK; go_simp; refine hK _ ?_; clear hK K
          (with_reducible refine wl_k ?_ ?_); exact rfl; intro K hK; go_simp; refine hK _ ?_; clear hK K
          (with_reducible refine wl_k ?_ ?_); exact rfl; intro K hK; go_simp; refine hK _ ?_; clear hK K
          have hz := Below.refl wo.heap.size wo
          go_upto_region 11 with (fail)
          apply wp_region_lit
          (with_reducible refine wl_k ?_ ?_); exact rfl; intro K hK; go_simp; refine hK _ ?_; clear hK K
          (with_reducible refine wl_k ?_ ?_); exact rfl; intro K hK; go_simp; refine hK _ ?_; clear hK K
          (with_reducible refine wl_k ?_ ?_); exact rfl; intro K hK; go_simp; refine hK _ ?_; clear hK K
          (with_reducible refine wl_k ?_ ?_); exact rfl; intro K hK; go_simp; refine hK _ ?_; clear hK K
          (with_reducible refine wl_k ?_ ?_); exact rfl; intro K hK; go_simp; refine hK _ ?_; clear hK K
          ((with_reducible apply wl_rowG); exact rfl; exact rfl; exact HRU.out.now)
          (with_reducible refine wl_k ?_ ?_); exact rfl; intro K hK; go_simp; refine hK _ ?_; clear hK K
          (with_reducible refine wl_ck ?_ ?_); exact rfl; intro K hK; go_simp; refine ⟨_, _, ⟨rfl, rfl⟩, hK _ _ ⟨_, HC.out, ?_⟩⟩; clear hK K; rintro e w9 ⟨row9, rfl, hta9, hb9⟩; refine ⟨_, rfl, ?_⟩; simp only [Zq]
          obtain ⟨k9, s9, n9, A9, l9, cc9, ts9, hu9, rfl, -⟩ := hta9.parts
          have HA9 := Lib.hid (hta9.weak (D' := fun b => w.heap.size ≤ b ∧ b ≠ g2) fun b (hb : wo.heap.size ≤ b) => by
            obtain ⟨cs, h1, -⟩ := HOR.out
            have := heap_lt h1
            have := HKW.out.size
            have := HB7.out.size
            exact ⟨by omega, by omega⟩)
          have HOR9 := Lib.hid (HOR.out.old hb9)
          have HK9 := Lib.hid (HKW.out.trans (fun b h => .inl h) (Keep.of (C := fun b => b = g2) hb9))
          clear hta9 hu9 hb9 hz
          (with_reducible refine wl_k ?_ ?_); exact rfl; intro K hK; go_simp; refine hK _ ?_; clear hK K
          obtain ⟨cs, hcs, hle, hor⟩ := HOR9.out.put hlt HSJ.out HA9.out
          have HOR2 := Lib.hid hor
          refine wl_store4 rfl rfl hcs hle ?_
          rw [put_noneA]
          have HK2 : Hid (Keep (fun b => b = g2) W7 (w9.setRow g2 (put4 cs j (cell4 k9 s9 n9 A9 l9 cc9)))) := Lib.hid (HK9.out.row rfl _)
          obtain ⟨WX, hWX⟩ : ∃ X, X = w9.setRow g2 (put4 cs j (cell4 k9 s9 n9 A9 l9 cc9)) := ⟨_, rfl⟩
          rw [← hWX] at HOR2 HK2 ⊢
          clear hWX hor hcs hle HOR9 HA9 HC HOR HK9 HRU
          obtain ⟨k3, s3, n3, A3, l3, c3, hrow3, hta3⟩ := HOR2.out.get (Nat.lt_succ_self j) HSJ.out
          obtain ⟨q3, hq3⟩ : ∃ q : Nat, q = min x.nodes (40 + 1) := ⟨_, rfl⟩
          have hc3 := TypeNodes_any 40 (by omega) x WX _ _ hta3
          rw [← hq3] at hc3
          have HC := Lib.hid hc3
          have HQ3 := Lib.hid hq3
          have HR3 := Lib.hid hrow3
          clear hc3 hq3 hrow3 hta3
          go_upto_region 12 with (fail)
          by_cases hlt3 : 40 < q3
          · have hltI3 : (q3 : Int) > 40 := by omega
            have HB3 := Lib.hid (show 40 < x.nodes by have := HQ3.out; omega)
            apply wp_region_lit
            (with_reducible refine wl_k ?_ ?_); exact rfl; intro K hK; go_simp; refine hK _ ?_; clear hK K
            (with_reducible refine wl_k ?_ ?_); exact rfl; intro K hK; go_simp; refine hK _ ?_; clear hK K
            (with_reducible refine wl_k ?_ ?_); exact rfl; intro K hK; go_simp; refine hK _ ?_; clear hK K
            ((with_reducible apply wl_rowG); exact rfl; exact rfl; exact HR3.out)
            (with_reducible refine wl_ck ?_ ?_); exact rfl; intro K hK; go_simp; refine ⟨_, _, ⟨rfl, rfl⟩, hK _ _ ⟨_, HC.out, ?_⟩⟩; clear hK K; rintro e w8 ⟨rfl, hb7⟩; refine ⟨_, rfl, ?_⟩; simp only [Zq]
            (with_reducible refine wl_k ?_ ?_); exact rfl; intro K hK; go_simp; refine hK _ ?_; clear hK K
            have HBE := Lib.hid (Below.keep HB7.out (HK2.out.trans (fun b h => .inl h) (Keep.of (C := fun b => b = g2) hb7)) (fun b h => by have := HG2.out; omega))
            clear hb7 HC hltI3 hlt3
            go_upto_region 13 with (fail)
            apply wp_region_lit
            (with_reducible refine wl_k ?_ ?_); exact rfl; intro K hK; go_simp; refine hK _ ?_; clear hK K
            (with_reducible refine wl_k ?_ ?_); exact rfl; intro K hK; go_simp; refine hK _ ?_; clear hK K
            go_wp2_with fail
            go_ret2
            exact PIPost.err (bindP_many HOC.out.symm HB.out (HSL.out ▸ HSJ.out) HB3.out) HBE.out
          · have hltI3 : ¬ (q3 : Int) > 40 := by omega
            have HB3 := Lib.hid (show x.nodes ≤ 40 by have := HQ3.out; omega)
            apply wp_region_lit
            (with_reducible refine wl_k ?_ ?_); exact rfl; intro K hK; go_simp; refine hK _ ?_; clear hK K
            (with_reducible refine wl_k ?_ ?_); exact rfl; intro K hK; go_simp; refine hK _ ?_; clear hK K
            (with_reducible refine wl_k ?_ ?_); exact rfl; intro K hK; go_simp; refine hK _ ?_; clear hK K
            ((with_reducible apply wl_rowG); exact rfl; exact rfl; exact HR3.out)
            (with_reducible refine wl_ck ?_ ?_); exact rfl; intro K hK; go_simp; refine ⟨_, _, ⟨rfl, rfl⟩, hK _ _ ⟨_, HC.out, ?_⟩⟩; clear hK K; rintro e w8 ⟨rfl, hb7⟩; refine ⟨_, rfl, ?_⟩; simp only [Zq]
            (with_reducible refine wl_k ?_ ?_); exact rfl; intro K hK; go_simp; refine hK _ ?_; clear hK K
            have HK8 := Lib.hid (HK2.out.trans (fun b h => .inl h) (Keep.of (C := fun b => b = g2) hb7))
            have HOR8 := Lib.hid (HOR2.out.old hb7)
            have HSM2 : Hid (∀ (i : Nat) (u : Ty), i < j + 1 → sl[i]? = some u → u.nodes ≤ 40) := Lib.hid (fun i u hi hu => by
              by_cases e : i = j
              · subst e
                have := HSJ.out
                rw [hu] at this
                cases this
                exact HB3.out
              · exact HSM.out i u (by omega) hu)
            clear hb7 HC hltI3 hlt3 HOR2 HK2 HSM
            go_wp2_with fail
            go_roundw
            case rel => exact ⟨j + 1, by omega, by go_num, HOR8, HSM2, HK8⟩
            case measure => simp [intOf]; omega
        · have hltI : ¬ (j : Int) < (l : Int) := by omega
          obtain rfl : j = l := by omega
          apply wp_region_lit
          (with_reducible refine wl_k ?_ ?_); exact rfl; intro K hK; go_simp; refine hK _ ?_; clear hK K
          (with_reducible refine wl_k ?_ ?_); exact rfl; intro K hK; go_simp; refine hK _ ?_; clear hK K
          (with_reducible refine wl_k ?_ ?_); exact rfl; intro K hK; go_simp; refine hK _ ?_; clear hK K
          (with_reducible refine wl_k ?_ ?_); exact rfl; intro K hK; go_simp; refine hK _ ?_; clear hK K
          clear hltI hlt
          go_upto_region 14 with (fail)
          apply wp_region_lit
          (with_reducible refine wl_k ?_ ?_); exact rfl; intro K hK; go_simp; refine hK _ ?_; clear hK K
          (with_reducible refine wl_k ?_ ?_); exact rfl; intro K hK; go_simp; refine hK _ ?_; clear hK K
          (with_reducible refine wl_k ?_ ?_); exact rfl; intro K hK; go_simp; refine hK _ ?_; clear hK K
          go_wp2_with fail
          go_ret2
          have hsl : sl.length = j := by rw [HSL.out, List.length_map, HG.out.len]
          refine PIPost.yes ?_ (Below.keep HB7.out HKW.out (fun b h => by have := HG2.out; omega)) (HOR.out.at hsl (by omega) HG2.out.1)
          rw [HSL.out]
          exact bindP_ok HOC.out.symm HB.out fun u hu => by
            rw [← HSL.out] at hu
            obtain ⟨i, hi⟩ := List.mem_iff_getElem?.1 hu
            exact HSM.out i u (by have := (List.getElem?_eq_some_iff.1 hi).1; omega) hi
end Go.Proofs.YtokmaehefenpmaaDoor
