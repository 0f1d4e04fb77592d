/- The solver's bind. -/
import Derived.Test.YtokmaehefenpmaaDoorPE4
namespace Go.Proofs.YtokmaehefenpmaaDoor
open Go.RowKit Go.ChangeMaps Go.Proofs.YtokmaehefenpmaaDoor.Nm
set_option linter.unusedSimpArgs false
/-- What bind hands back. -/
def BPost (w : World) (ps q m : Nat) (x : Except Int (List Ty)) (e : Ending) (w' : World) : Prop :=
  Keep (fun b => b = q) w w' ∧ match x with
  | .error c => e = .returned (.int .i64 c)
  | .ok s => e = .returned (.int .i64 0) ∧ ∃ f es c, SolR w' ps q f es c ∧ KnownX m s f
theorem BPost.err {w w' : World} {ps q m : Nat} {x : Except Int (List Ty)} {c : Int} (hx : x = .error c) (hk : Keep (fun b => b = q) w w') : BPost w ps q m x (.returned (.int .i64 c)) w' := by subst hx; exact ⟨hk, rfl⟩
theorem BPost.yes {w w' : World} {ps q m : Nat} {x : Except Int (List Ty)} {s : List Ty} (hx : x = .ok s) (hk : Keep (fun b => b = q) w w') {f : Nat → Option Ty} {es : Array MapEntry} {c : Nat} (hs : SolR w' ps q f es c) (hkn : KnownX m s f) : BPost w ps q m x (.returned (.int .i64 0)) w' := by subst hx; exact ⟨hk, rfl, f, es, c, hs, hkn⟩
/-- The loop over the solver's entries. -/
structure LInvP (w : World) (ps q r c1 : Nat) (f : Nat → Option Ty) (v : Nat) (t : Ty) (wr : World) (es : Array MapEntry) (P : Nat → Bool) (seen : Array Nat) (c0 : Nat) : Prop where
  sol : SolR wr ps q (goneF f v t P) es c1
  it : wr.heap[r]? = some (.mapIter (some q) c1 seen c0)
  cl : c1 ≤ c0
  gone : ∀ x, x ∈ es.toList → ∀ k : Nat, x.key = .int .i64 (k : Int) → k ≠ v → seen.contains x.born = P k
  small : ∀ x u, goneF f v t P x = some u → P x = true → u.nodes ≤ 40
  keep : Keep (fun b => b = q) w wr
  low : w.heap.size ≤ r
def LInv (w : World) (ps q r c1 : Nat) (f : Nat → Option Ty) (v : Nat) (t : Ty) (wr : World) : Prop := ∃ es P seen c0, LInvP w ps q r c1 f v t wr es P seen c0
theorem linv_start {w X X2 : World} {ps q r c1 v : Nat} {f : Nat → Option Ty} {t : Ty} {es : Array MapEntry} (hs : SolR X ps q (fun x => if x = v then some t else f x) es c1) (hb : Below X.heap.size X X2) (hr : X2.heap[r]? = some (.mapIter (some q) c1 #[] c1)) (hk : Keep (fun b => b = q) w X) (hl : X.heap.size ≤ r) : LInv w ps q r c1 f v t X2 := by
  have hf : goneF f v t (fun _ => false) = fun x => if x = v then some t else f x := by funext x; simp [goneF]
  exact ⟨es, fun _ => false, #[], c1, ⟨by rw [hf]; exact hs.old hb, hr, Nat.le_refl _, fun x _ k _ _ => by simp, fun x u _ h => by simp at h, hk.trans (fun b h => .inl h) (Keep.of hb), by have := hk.size; omega⟩⟩
theorem linv_next {w wr : World} {ps q r c1 v : Nat} {f : Nat → Option Ty} {t : Ty} {es : Array MapEntry} {P : Nat → Bool} {seen : Array Nat} {c0 : Nat} (h : LInvP w ps q r c1 f v t wr es P seen c0) {e : MapEntry} (he : e ∈ (leftOf es seen).toList) {k : Nat} (hk : e.key = .int .i64 (k : Int)) : k ≠ v → P k = false := fun hne => by
  obtain ⟨h1, h2⟩ := left_mem.1 he
  rw [← h.gone e h1 k hk hne]; exact h2
theorem linv_step {w wr X : World} {ps q r c1 v : Nat} {f : Nat → Option Ty} {t : Ty} {es es' : Array MapEntry} {P : Nat → Bool} {seen : Array Nat} {c0 : Nat} (h : LInvP w ps q r c1 f v t wr es P seen c0) {e : MapEntry} (he : e ∈ (leftOf es seen).toList) {k : Nat} (hk : e.key = .int .i64 (k : Int)) {u : Ty}
    (hf : goneF f v t (fun x => P x || decide (x = k)) = fun x => if x = k then some u else goneF f v t P x) (hn : u.nodes ≤ 40) (hs : SolR X ps q (fun x => if x = k then some u else goneF f v t P x) es' c1)
    (hl : ∀ seen, (leftOf es' seen).size = (leftOf es seen).size) (hm : ∀ x, x ∈ es'.toList → ∃ y, y ∈ es.toList ∧ y.key = x.key ∧ y.born = x.born) (hr : X.heap[r]? = some (.mapIter (some q) c1 (seen.push e.born) c1)) (hw : Keep (fun b => b = q) w X) :
    LInv w ps q r c1 f v t X ∧ X.rangeLeft q r < wr.rangeLeft q r := by
  obtain ⟨h1, h2⟩ := left_mem.1 he
  constructor
  · refine ⟨es', fun x => P x || decide (x = k), seen.push e.born, c1, by rw [hf]; exact hs, hr, Nat.le_refl _, fun x hx j hj hne => ?_, fun x y hx hp => ?_, hw, h.low⟩
    · obtain ⟨y, hy, hyk, hyb⟩ := hm x hx
      rw [← hyb]
      rw [← hyk] at hj
      by_cases e2 : j = k
      · subst e2
        have hnd := h.sol.map.st.2.2
        have : y = e := by
          obtain ⟨i1, hi1⟩ := List.mem_iff_getElem?.1 hy
          obtain ⟨i2, hi2⟩ := List.mem_iff_getElem?.1 h1
          have g1 : (es.toList.map (·.key))[i1]? = some (.int .i64 (j : Int)) := by rw [List.getElem?_map, hi1]; simp [hj]
          have g2 : (es.toList.map (·.key))[i2]? = some (.int .i64 (j : Int)) := by rw [List.getElem?_map, hi2]; simp [hk]
          have := (List.getElem?_inj (List.getElem?_eq_some_iff.1 g1).1 hnd).1 (g1.trans g2.symm)
          subst this
          rw [hi1] at hi2
          exact Option.some.inj hi2
        subst this
        simp
      · have g := h.gone y hy j hj hne
        have hb : y.born ≠ e.born := fun hbe => by
          have hnd := h.sol.map.st.2.1
          obtain ⟨i1, hi1⟩ := List.mem_iff_getElem?.1 hy
          obtain ⟨i2, hi2⟩ := List.mem_iff_getElem?.1 h1
          have g1 : (es.toList.map (·.born))[i1]? = some e.born := by rw [List.getElem?_map, hi1]; simp [hbe]
          have g2 : (es.toList.map (·.born))[i2]? = some e.born := by rw [List.getElem?_map, hi2]; simp
          have := (List.getElem?_inj (List.getElem?_eq_some_iff.1 g1).1 hnd).1 (g1.trans g2.symm)
          subst this
          rw [hi1] at hi2
          have := Option.some.inj hi2
          subst this
          rw [hj] at hk
          injection hk with _ g
          omega
        simp only [Array.contains_push, e2, decide_false, Bool.or_false]
        rw [← g]
        simp [hb]
    · rw [hf] at hx
      by_cases e2 : x = k
      · simp only [if_pos e2] at hx; cases hx; exact hn
      · simp only [if_neg e2] at hx
        exact h.small x y hx (by simpa [e2] using hp)
  · unfold World.rangeLeft
    rw [hs.map.blk, hr, h.sol.map.blk, h.it]
    simp only
    rw [hl]
    exact left_push he
theorem linv_end {w wr : World} {ps q r c1 v m : Nat} {sol : List Ty} {f : Nat → Option Ty} {t : Ty} {es : Array MapEntry} {P : Nat → Bool} {seen : Array Nat} {c0 : Nat} (h : LInvP w ps q r c1 f v t wr es P seen c0) (hz : (leftOf es seen).size = 0) (hk : KnownX m sol f) (hg : Good m sol) (hv : v < m) (ht : FineV m t) (hne : t ≠ varT v) (hfix : applyTy sol t = t) (hvar : applyTy sol (varT v) = varT v) (hoc : t.occ v = false) (hn : t.nodes ≤ 40) :
    bindP sol v t = .ok (sol.map (sub1 v t)) ∧ KnownX m (sol.map (sub1 v t)) (goneF f v t P) := by
  have hP : ∀ x u, f x = some u → x ≠ v → P x = true := fun x u hx hxv => by
    have : ∃ y, goneF f v t P x = some y := by
      unfold goneF
      rw [if_neg hxv, hx]
      split
      · exact ⟨_, rfl⟩
      · exact ⟨_, rfl⟩
    obtain ⟨y, hy⟩ := this
    obtain ⟨e, he, hek⟩ := h.sol.map.has x y hy
    rw [← h.gone e he x hek hxv]
    cases hc : seen.contains e.born with
    | true => rfl
    | false =>
      have h1 := left_mem.2 ⟨he, hc⟩
      have : (leftOf es seen).toList = [] := List.length_eq_zero_iff.1 (by rw [Array.length_toList]; exact hz)
      rw [this] at h1
      cases h1
  exact ⟨gone_end hk hg hvar hoc hn hP h.small, gone_all hk hg hv ht hne hfix hvar P hP⟩
set_option maxHeartbeats 4000000 in
set_option maxRecDepth 100000 in
theorem bind_any {m : Nat} {sol : List Ty} {f : Nat → Option Ty} (hk : KnownX m sol f) (hg : Good m sol) {v : Nat} {t : Ty} (hv : v < m) (ht : FineV m t) (hne : t ≠ varT v) (hfix : applyTy sol t = t) (hvar : applyTy sol (varT v) = varT v) (hnd : t.nodes ≤ 2000) (ps q : Nat) (es : Array MapEntry) (clock : Nat) (w : World) (hs : SolR w ps q f es clock) (hpq : ps ≠ q) (row : Array Value) (h : TyAt w (fun b => b ≠ q) t row) :
    Calls Tryd.prog 100 #[.pointer (some ⟨ps, 0, none⟩), .int .i64 (v : Int), .agg row] w (BPost w ps q m (bindP sol v t)) := by
  have HT := Lib.hid h
  obtain ⟨k, s, n, A1, l1, c1, ts, htt, rfl, -⟩ := h.parts
  clear htt
  obtain ⟨oc, hoc⟩ : ∃ oc, oc = t.occ v := ⟨_, rfl⟩
  obtain ⟨zs, hzs⟩ : ∃ zs, zs = distinctI (varsOf t) := ⟨_, rfl⟩
  obtain ⟨N, hN⟩ : ∃ N, N = t.nodes := ⟨_, rfl⟩
  have HHS : Hid (zs.contains (v : Int) = oc) := Lib.hid (by rw [hzs, hoc, vars_has])
  have HQL : Hid (q < w.heap.size) := Lib.hid (heap_lt hs.map.blk)
  have HS := Lib.hid hs
  have HND := Lib.hid hnd
  have HN := Lib.hid hN
  have HZS := Lib.hid hzs
  have HOC := Lib.hid hoc
  have HPQ := Lib.hid hpq
  have HA := Lib.hid (And.intro hk (And.intro hg (And.intro hv (And.intro ht (And.intro hne (And.intro hfix hvar))))))
  clear hk hg hv ht hne hfix hvar hnd hs hpq h hoc hzs hN
  have hb := Below.refl w.heap.size w
  go_enter Tryd.func100, Tryd.ntmps100
  go_upto_region 0 with (fail)
  apply wp_region_lit
  (with_reducible refine wl_box rfl ?_); intro W p hbn hlp hp; replace hb := hb.trans (hbn.mono hb.size); clear hbn; simp only [Zq]
  (with_reducible refine wl_k ?_ ?_); exact rfl; intro K hK; go_simp; refine hK _ ?_; clear hK K
  have HPN : Hid (p ≠ q) := Lib.hid (by have := HQL.out; omega)
  have hv7 := Vars_any t (by have := HND.out; omega) W _ _ (HT.out.old hb)
  rw [← HZS.out] at hv7
  have HC := Lib.hid hv7
  clear hv7
  go_upto_region 1 with (fail)
  apply wp_region_lit
  (first | ((with_reducible apply wl_oneG); exact rfl; exact rfl; first | exact f0 (by with_reducible assumption) | exact f1 (by with_reducible assumption) | exact f2 (by with_reducible assumption) | exact f3 (by with_reducible assumption) | with_reducible assumption | exact g22 (by with_reducible assumption) | exact g25 (by with_reducible assumption)) | ((with_reducible apply wl_rowG); exact rfl; exact rfl; first | with_reducible assumption | exact RowK.now (by with_reducible assumption) | exact f4 (by with_reducible assumption)))
  (with_reducible refine wl_ck ?_ ?_); exact rfl; intro K hK; go_simp; refine ⟨_, _, ⟨rfl, rfl⟩, hK _ _ ⟨_, HC.out, ?_⟩⟩; clear hK K; rintro e w7 ⟨A7, l7, c7, rfl, hix, hb7⟩; refine ⟨_, rfl, ?_⟩; simp only [Zq]
  have hc3 := Contains_any zs (v : Int) A7 l7 c7 w7 hix
  rw [HHS.out] at hc3
  have HC3 := Lib.hid hc3
  clear hix hc3
  replace hp := below_look hb7 hp; replace hb := hb.trans (hb7.mono hb.size); clear hb7
  (with_reducible refine wl_k ?_ ?_); exact rfl; intro K hK; go_simp; refine hK _ ?_; clear hK K
  (with_reducible refine wl_ck ?_ ?_); exact rfl; intro K hK; go_simp; refine ⟨_, _, ⟨rfl, rfl⟩, hK _ _ ⟨_, HC3.out, ?_⟩⟩; clear hK K; rintro e w8 ⟨rfl, rfl⟩; refine ⟨_, rfl, ?_⟩; simp only [Zq]
  clear HC HC3
  cases oc with
  | true =>
    go_upto_region 2 with (fail)
    apply wp_region_lit
    (with_reducible refine wl_k ?_ ?_); exact rfl; intro K hK; go_simp; refine hK _ ?_; clear hK K
    clear hp
    go_wp2_with fail
    go_ret
    exact BPost.err (bind_occ HOC.out.symm) (Keep.of hb)
  | false =>
    have hc3 := Size_any t (by have := HND.out; omega) w7 _ _ (HT.out.old hb)
    rw [← HN.out] at hc3
    have HC3 := Lib.hid hc3
    clear hc3
    go_upto_region 3 with (fail)
    by_cases hlt : 40 < N
    · have hltI : (40 : Int) < (N : Int) := by omega
      apply wp_region_lit
      (first | ((with_reducible apply wl_oneG); exact rfl; exact rfl; first | exact f0 (by with_reducible assumption) | exact f1 (by with_reducible assumption) | exact f2 (by with_reducible assumption) | exact f3 (by with_reducible assumption) | with_reducible assumption | exact g22 (by with_reducible assumption) | exact g25 (by with_reducible assumption)) | ((with_reducible apply wl_rowG); exact rfl; exact rfl; first | with_reducible assumption | exact RowK.now (by with_reducible assumption) | exact f4 (by with_reducible assumption)))
      (with_reducible refine wl_ck ?_ ?_); exact rfl; intro K hK; go_simp; refine ⟨_, _, ⟨rfl, rfl⟩, hK _ _ ⟨_, HC3.out, ?_⟩⟩; clear hK K; rintro e w8 ⟨rfl, hb7⟩; refine ⟨_, rfl, ?_⟩; simp only [Zq]
      replace hp := below_look hb7 hp; replace hb := hb.trans (hb7.mono hb.size); clear hb7
      (with_reducible refine wl_k ?_ ?_); exact rfl; intro K hK; go_simp; refine hK _ ?_; clear hK K
      have HB := Lib.hid (show 40 < t.nodes by rw [← HN.out]; exact hlt)
      clear HC3 hltI hlt hp
      go_upto_region 4 with (fail)
      apply wp_region_lit
      (with_reducible refine wl_k ?_ ?_); exact rfl; intro K hK; go_simp; refine hK _ ?_; clear hK K
      go_wp2_with fail
      go_ret
      exact BPost.err (bind_big HOC.out.symm HB.out) (Keep.of hb)
    · have hltI : ¬ (40 : Int) < (N : Int) := by omega
      have HB := Lib.hid (show t.nodes ≤ 40 by rw [← HN.out]; omega)
      apply wp_region_lit
      (first | ((with_reducible apply wl_oneG); exact rfl; exact rfl; first | exact f0 (by with_reducible assumption) | exact f1 (by with_reducible assumption) | exact f2 (by with_reducible assumption) | exact f3 (by with_reducible assumption) | with_reducible assumption | exact g22 (by with_reducible assumption) | exact g25 (by with_reducible assumption)) | ((with_reducible apply wl_rowG); exact rfl; exact rfl; first | with_reducible assumption | exact RowK.now (by with_reducible assumption) | exact f4 (by with_reducible assumption)))
      (with_reducible refine wl_ck ?_ ?_); exact rfl; intro K hK; go_simp; refine ⟨_, _, ⟨rfl, rfl⟩, hK _ _ ⟨_, HC3.out, ?_⟩⟩; clear hK K; rintro e w8 ⟨rfl, hb7⟩; refine ⟨_, rfl, ?_⟩; simp only [Zq]
      replace hp := below_look hb7 hp; replace hb := hb.trans (hb7.mono hb.size); clear hb7
      (with_reducible refine wl_k ?_ ?_); exact rfl; intro K hK; go_simp; refine hK _ ?_; clear hK K
      clear HC3 hltI hlt
      have HS8 := Lib.hid (HS.out.old hb)
      have hps := HS8.out.var
      go_upto_region 5 with (fail)
      refine wp_region_held_drew (S := Keep (fun b => b = q) w8) mixed (Keep.drew _ _) (fun hS => ?_)
      refine hk3 (i := 0) rfl (by kernel_rfl) Zh hS rfl (fun K hK => ?_); go_simp; refine hK _ ?_; clear hK K; try simp only [Zq]
      refine hk3 (i := 1) rfl (by kernel_rfl) Zh hS rfl (fun K hK => ?_); go_simp; refine hK _ ?_; clear hK K; try simp only [Zq]
      refine hk3 (i := 2) rfl (by kernel_rfl) Zh hS rfl (fun K hK => ?_); go_simp; refine hK _ ?_; clear hK K; try simp only [Zq]
      refine hv3 (i := 3) rfl (by kernel_rfl) Zg hS rfl (fun w' hw' => ex_one rfl (g90 (hw'.look hps HPQ.out))) ?_; try simp only [Zy]
      refine hk3 (i := 4) rfl (by kernel_rfl) Zh hS rfl (fun K hK => ?_); go_simp; refine hK _ ?_; clear hK K; try simp only [Zq]
      refine hv3 (i := 5) rfl (by kernel_rfl) Zg hS rfl (fun w' hw' => ex_row rfl (f4 (hw'.look hp HPN.out))) ?_; try simp only [Zy]
      refine ha_new90 (i := 6) (by kernel_rfl) rfl rfl _ _ _ rfl rfl rfl rfl (HS8.out.old (Below.refl _ _).drew) (HA.out.1.none HA.out.2.1 HA.out.2.2.2.2.2.2) ((HT.out.old hb).old (Below.refl _ _).drew) (by have := HB.out; omega) HPQ.out (fun W hW => hS.trans (fun b h => .inl h) hW) ?_
      intro X es1 hkX hsX hS6
      have HK1 := Lib.hid ((Keep.of (C := fun b => b = q) hb).trans (fun b h => .inl h) hS6)
      have HS1 := Lib.hid hsX
      clear hkX hsX hS6 hS hps hp HS8
      refine wpAnyH_done (by kernel_rfl) ?_ _
      try simp only [Zy]
      try simp only [put_noneA]
      have hps := HS1.out.var
      have hmb := HS1.out.map.blk
      go_upto_region 6 with (fail)
      apply wp_region_lit
      (with_reducible refine wl_k ?_ ?_); exact rfl; intro K hK; go_simp; refine hK _ ?_; clear hK K
      (with_reducible refine wl_k ?_ ?_); exact rfl; intro K hK; go_simp; refine hK _ ?_; clear hK K
      (with_reducible refine wl_k ?_ ?_); exact rfl; intro K hK; go_simp; refine hK _ ?_; clear hK K
      ((with_reducible apply wl_oneG); exact rfl; exact rfl; exact g90 hps)
      refine wl_range90 hmb rfl ?_
      intro X2 r hbn hlr hr
      simp only [Zq]
      have HL := Lib.hid (linv_start HS1.out hbn hr HK1.out hlr)
      clear hps hmb hbn hlr hr HS1 HK1 hb
      go_wp2_with fail
      go_loopw [] (fun wr => LInv w ps q r (clock + 1) f v t wr) (fun wr => wr.rangeLeft q r)
      case atStart => exact HL.out
      case round =>
        clear HL
        obtain ⟨es2, P, seen, c0, hli⟩ := hrel
        have HI := Lib.hid hli
        clear hli
        have hr := HI.out.it
        have hmb := HI.out.sol.map.blk
        go_upto_region 7 with (fail)
        apply wp_region_lit
        refine wl_next90 rfl hr hmb HI.out.sol.map.st.1 HI.out.cl (fun hz => ?_) (fun e W2 he hkW hrW hszW => ?_)
        · have HE := Lib.hid (linv_end HI.out hz HA.out.1 HA.out.2.1 HA.out.2.2.1 HA.out.2.2.2.1 HA.out.2.2.2.2.1 HA.out.2.2.2.2.2.1 HA.out.2.2.2.2.2.2 HOC.out.symm HB.out)
          clear hz hr hmb
          simp only [Zq]
          (with_reducible refine wl_k ?_ ?_); exact rfl; intro K hK; go_simp; refine hK _ ?_; clear hK K
          go_wp2_with fail
          go_ret
          exact BPost.yes HE.out.1 HI.out.keep HI.out.sol HE.out.2
        · obtain ⟨hem, hse⟩ := left_mem.1 he
          obtain ⟨k2, row2, u, hkey, hval, hfu, hta⟩ := HI.out.sol.map.ent e hem
          have HTA := Lib.hid hta
          obtain ⟨k3, s3, n3, A3, l3, c3, ts3, hu3, rfl, -⟩ := hta.parts
          have HHE := Lib.hid he
          have HKY := Lib.hid hkey
          have HVL := Lib.hid hval
          have HEM := Lib.hid hem
          have HG := Lib.hid (gone_val HA.out.1 HA.out.2.1 HA.out.2.2.2.1 HA.out.2.2.2.2.2.1 HOC.out.symm HB.out hfu (linv_next HI.out he hkey))
          have HFU := Lib.hid hfu
          rw [hkey, hval]
          have HRQ : Hid (r ≠ q) := Lib.hid (fun e => by subst e; rw [hr] at hmb; cases hmb)
          have HCC : Hid (∀ b, b = r → b ≠ q ∧ ∀ Cs t fr, wr.heap[b]? ≠ some (.cells Cs t fr)) := Lib.hid (by
            rintro b rfl
            exact ⟨HRQ.out, fun _ _ _ h => by rw [hr] at h; cases h⟩)
          have HS2 := Lib.hid (HI.out.sol.keep hkW HCC.out)
          have HTA2 := Lib.hid (HTA.out.keepC hkW fun b _ hb => (HCC.out b hb).2)
          have HKW := Lib.hid (HI.out.keep.trans (C' := fun b => b = r) (fun b hb => .inr (by subst hb; exact HI.out.low)) hkW)
          clear hse hta hu3 he hkey hval hem hfu hr hmb HCC HTA hkW hszW
          have HRW := Lib.hid hrW
          clear hrW
          simp only [Zq]
          (with_reducible refine wl_k ?_ ?_); exact rfl; intro K hK; go_simp; refine hK _ ?_; clear hK K
          have hz := Below.refl W2.heap.size W2
          go_upto_region 8 with (fail)
          apply wp_region_lit
          refine wl_entry90 rfl HRW.out HS2.out.map.blk HEM.out HS2.out.map.st.2.1 HKY.out HVL.out ?_
          simp only [Zq]
          (with_reducible refine wl_k ?_ ?_); exact rfl; intro K hK; go_simp; refine hK _ ?_; clear hK K
          (with_reducible refine wl_k ?_ ?_); exact rfl; intro K hK; go_simp; refine hK _ ?_; clear hK K
          (with_reducible refine wl_all ?_); intro X3 g hbn hlg hg; replace hz := hz.trans (hbn.mono hz.size); clear hbn; simp only [Zq]
          (with_reducible refine wl_k ?_ ?_); exact rfl; intro K hK; go_simp; refine hK _ ?_; clear hK K
          (with_reducible refine wl_put rfl rfl hg ?_); rw [put_noneA]; intro X4 hbx hsz hkx hnx; replace hz := hbx _ _ (by omega) hz; clear hg; have hg := hnx; clear hnx
          clear hbx hkx hsz
          have HU := Lib.hid (show u.nodes ≤ 1000000 by have := HG.out.2.2.1; omega)
          have HC4 := Lib.hid (put_any (goneF f v t P) ps q es2 (clock + 1) X4 (HS2.out.old hz) u HU.out _ _ (HTA2.out.old hz))
          obtain ⟨u2, hu2⟩ : ∃ u2, u2 = sub1 v t u := ⟨_, rfl⟩
          have HU2 := Lib.hid hu2
          rw [gone_put HA.out.1 HA.out.2.1 P u HG.out.1 HG.out.2.1, ← hu2] at HC4
          clear hu2
          go_upto_region 9 with (fail)
          apply wp_region_lit
          (with_reducible refine wl_k ?_ ?_); exact rfl; intro K hK; go_simp; refine hK _ ?_; clear hK K
          (first | ((with_reducible apply wl_oneG); exact rfl; exact rfl; first | exact f0 (by with_reducible assumption) | exact f1 (by with_reducible assumption) | exact f2 (by with_reducible assumption) | exact f3 (by with_reducible assumption) | with_reducible assumption | exact g22 (by with_reducible assumption) | exact g25 (by with_reducible assumption)) | ((with_reducible apply wl_rowG); exact rfl; exact rfl; first | with_reducible assumption | exact RowK.now (by with_reducible assumption) | exact f4 (by with_reducible assumption)))
          (with_reducible refine wl_ck ?_ ?_); exact rfl; intro K hK; go_simp; refine ⟨_, _, ⟨rfl, rfl⟩, hK _ _ ⟨_, HC4.out, ?_⟩⟩; clear hK K; rintro e w9 ⟨row9, rfl, hta9, hb9⟩; refine ⟨_, rfl, ?_⟩; simp only [Zq]
          obtain ⟨k9, s9, n9, A9, l9, c9, ts9, hu9, rfl, -⟩ := hta9.parts
          have hzs := hz.size
          have HA9 := Lib.hid (hta9.weak (D' := fun b => b ≠ q) fun b (hb : X4.heap.size ≤ b) => by have := HQL.out; have := HKW.out.size; omega)
          have hy := Below.refl w9.heap.size w9
          replace hz := hz.trans (hb9.mono hz.size); clear hb9
          have hz9 := hz.size
          clear hta9 hu9 hzs hg
          (with_reducible refine wl_all ?_); intro X5 g2 hbn hlg2 hg2; replace hz := hz.trans (hbn.mono hz.size); replace hy := hy.trans (hbn.mono hy.size); clear hbn; simp only [Zq]
          (with_reducible refine wl_put rfl rfl hg2 ?_); rw [put_noneA]; intro X6 hbx hsz hkx hnx; replace hz := hbx _ _ (by omega) hz; replace hy := hbx _ _ (by omega) hy; clear hg2; have hg2 := hnx; clear hnx
          clear hbx hkx hsz HC4
          have hzs := hz.size
          have hys := hy.size
          have HG2 : Hid (g2 ≠ q) := Lib.hid (by have := HQL.out; have := HKW.out.size; have := hz.size; omega)
          have HA6 := Lib.hid (HA9.out.old hy)
          clear HA9
          have HN2 : Hid (u2.nodes ≤ 1600) := Lib.hid (by
            have h1 := nodes_sub1 (v := v) (t := t) u HG.out.1
            have h2 : u.nodes * t.nodes ≤ 40 * 40 := Nat.mul_le_mul HG.out.2.2.1 HB.out
            rw [HU2.out]; omega)
          obtain ⟨N2, hN2⟩ : ∃ N2, N2 = u2.nodes := ⟨_, rfl⟩
          have hc5 := Size_any u2 (by have := HN2.out; omega) X6 _ _ HA6.out
          rw [← hN2] at hc5
          have HC5 := Lib.hid hc5
          have HNN := Lib.hid hN2
          clear hc5 hN2 hzs hys hy hz9
          go_upto_region 10 with (fail)
          by_cases hlt : 40 < N2
          · have hltI : (40 : Int) < (N2 : Int) := by omega
            apply wp_region_lit
            (first | ((with_reducible apply wl_oneG); exact rfl; exact rfl; first | exact f0 (by with_reducible assumption) | exact f1 (by with_reducible assumption) | exact f2 (by with_reducible assumption) | exact f3 (by with_reducible assumption) | with_reducible assumption | exact g22 (by with_reducible assumption) | exact g25 (by with_reducible assumption)) | ((with_reducible apply wl_rowG); exact rfl; exact rfl; first | with_reducible assumption | exact RowK.now (by with_reducible assumption) | exact f4 (by with_reducible assumption)))
            (with_reducible refine wl_ck ?_ ?_); exact rfl; intro K hK; go_simp; refine ⟨_, _, ⟨rfl, rfl⟩, hK _ _ ⟨_, HC5.out, ?_⟩⟩; clear hK K; rintro e w8 ⟨rfl, hb7⟩; refine ⟨_, rfl, ?_⟩; simp only [Zq]
            replace hg2 := below_look hb7 hg2; replace hz := hz.trans (hb7.mono hz.size); clear hb7
            (with_reducible refine wl_k ?_ ?_); exact rfl; intro K hK; go_simp; refine hK _ ?_; clear hK K
            have HB2 := Lib.hid (show 40 < (sub1 v t u).nodes by rw [← HU2.out, ← HNN.out]; exact hlt)
            clear HC5 hltI hlt hg2
            go_upto_region 11 with (fail)
            apply wp_region_lit
            (with_reducible refine wl_k ?_ ?_); exact rfl; intro K hK; go_simp; refine hK _ ?_; clear hK K
            go_wp2_with fail
            go_ret
            refine BPost.err (bind_some HOC.out.symm HB.out (HG.out.2.2.2.2.1 fun e => ?_) HB2.out) (HKW.out.trans (fun b h => .inl h) (Keep.of hz))
            have h1 := HG.out.2.2.2.2.2 e
            have h2 := HB2.out
            rw [h1] at h2
            have := HB.out
            omega
          · have hltI : ¬ (40 : Int) < (N2 : Int) := by omega
            have HB2 := Lib.hid (show u2.nodes ≤ 40 by rw [← HNN.out]; omega)
            apply wp_region_lit
            (first | ((with_reducible apply wl_oneG); exact rfl; exact rfl; first | exact f0 (by with_reducible assumption) | exact f1 (by with_reducible assumption) | exact f2 (by with_reducible assumption) | exact f3 (by with_reducible assumption) | with_reducible assumption | exact g22 (by with_reducible assumption) | exact g25 (by with_reducible assumption)) | ((with_reducible apply wl_rowG); exact rfl; exact rfl; first | with_reducible assumption | exact RowK.now (by with_reducible assumption) | exact f4 (by with_reducible assumption)))
            (with_reducible refine wl_ck ?_ ?_); exact rfl; intro K hK; go_simp; refine ⟨_, _, ⟨rfl, rfl⟩, hK _ _ ⟨_, HC5.out, ?_⟩⟩; clear hK K; rintro e wa ⟨rfl, hb7⟩; refine ⟨_, rfl, ?_⟩; simp only [Zq]
            have HA7 := Lib.hid (HA6.out.old hb7)
            replace hg2 := below_look hb7 hg2; replace hz := hz.trans (hb7.mono hz.size); clear hb7
            (with_reducible refine wl_k ?_ ?_); exact rfl; intro K hK; go_simp; refine hK _ ?_; clear hK K
            clear HC5 hltI hlt HA6
            have HS9 := Lib.hid (HS2.out.old hz)
            have hps := HS9.out.var
            have HRZ := Lib.hid (below_look hz HRW.out)
            go_upto_region 12 with (fail)
            refine wp_region_held_drew (S := Keep (fun b => b = q) wa) mixed (Keep.drew _ _) (fun hS => ?_)
            refine hk3 (i := 0) rfl (by kernel_rfl) Zh hS rfl (fun K hK => ?_); go_simp; refine hK _ ?_; clear hK K; try simp only [Zq]
            refine hk3 (i := 1) rfl (by kernel_rfl) Zh hS rfl (fun K hK => ?_); go_simp; refine hK _ ?_; clear hK K; try simp only [Zq]
            refine hk3 (i := 2) rfl (by kernel_rfl) Zh hS rfl (fun K hK => ?_); go_simp; refine hK _ ?_; clear hK K; try simp only [Zq]
            refine hv3 (i := 3) rfl (by kernel_rfl) Zg hS rfl (fun w' hw' => ex_one rfl (g90 (hw'.look hps HPQ.out))) ?_; try simp only [Zy]
            refine hk3 (i := 4) rfl (by kernel_rfl) Zh hS rfl (fun K hK => ?_); go_simp; refine hK _ ?_; clear hK K; try simp only [Zq]
            refine hv3 (i := 5) rfl (by kernel_rfl) Zg hS rfl (fun w' hw' => ex_row rfl (f4 (hw'.look hg2 HG2.out))) ?_; try simp only [Zy]
            refine ha_upd90 (i := 6) (by kernel_rfl) rfl rfl _ _ _ rfl rfl rfl rfl (HS9.out.old (Below.refl _ _).drew) HFU.out (HA7.out.old (Below.refl _ _).drew) (by have := HB2.out; omega) HPQ.out (fun W hW => hS.trans (fun b h => .inl h) hW) ?_
            intro X9 es3 hkX hsX hl9 hm9 hS6
            have HL := Lib.hid (linv_step HI.out HHE.out HKY.out (HU2.out ▸ HG.out.2.2.2.1) HB2.out hsX hl9 hm9 (hS6.look HRZ.out HRQ.out) ((HKW.out.trans (fun b h => .inl h) (Keep.of hz)).trans (fun b h => .inl h) hS6))
            clear hkX hsX hl9 hm9 hS6 hS hps hg2 hz
            refine wpAnyH_done (by kernel_rfl) ?_ _
            try simp only [Zy]
            try simp only [put_noneA]
            go_wp2_with fail
            go_roundw
            case rel => exact HL.out.1
            case measure => exact HL.out.2
end Go.Proofs.YtokmaehefenpmaaDoor
