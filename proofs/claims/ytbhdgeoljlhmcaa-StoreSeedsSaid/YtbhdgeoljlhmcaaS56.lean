/- Entries sorted by their keys, by the document's helper. -/
import Derived.Test.YtbhdgeoljlhmcaaT5
import Derived.Test.YtbhdgeoljlhmcaaS49
import Derived.Outline
namespace Go.Proofs.Ytbhdgeoljlhmcaa
open Go.RowKit Go.Proofs.Ytbhdgeoljlhmcaa.Nm Go.Proofs.Ytbhdgeoljlhmcaa.St
set_option linter.unusedSimpArgs false
abbrev Ent := ByteArray × Int
def noE : Ent := (ByteArray.empty, 0)
def leE (a b : Ent) : Prop := leB a.1 b.1
theorem leE_trans {x y z : Ent} (h1 : leE x y) (h2 : leE y z) : leE x z := leB_trans h1 h2
/-- entries sorted by keys that are apart are the same when they are the same entries -/
theorem ent_uniq {a b : List Ent} (ha : a.Pairwise leE) (hb : b.Pairwise leE) (hd : Apt a) (h : a.Perm b) : a = b := by
  refine List.Perm.eq_of_pairwise (le := fun x y => leE x y) (fun x y hx hy h1 h2 => ?_) ha hb h
  have e : x.1 = y.1 := ltB_anti h2 h1
  have hy' := h.mem_iff.2 hy
  obtain ⟨k, v⟩ := x
  obtain ⟨k', v'⟩ := y
  simp only at e
  subst e
  rw [apt_one hd hx hy']
theorem prow_one (l : List Ent) : ∀ u ∈ prow l, u.oneCell' = true := by
  intro u hu
  simp only [prow, List.mem_flatMap] at hu
  obtain ⟨e, _, he⟩ := hu
  simp at he
  rcases he with rfl | rfl <;> rfl
theorem prow_append (l m : List Ent) : prow (l ++ m) = prow l ++ prow m := by simp [prow]
theorem own_cells {w : World} {B n e size : Nat} {v : Value} {xs : List Value} (h : w.ownsRow B e size v n xs) {p cap : Nat} (hv : v = .slice (some ⟨p, 0, none⟩) n cap) : ∀ j u, xs[j]? = some u → w.cell? ((⟨p, 0, none⟩ : Addr).add j) = some u := fun j u hj => by
  rcases h.2 with ⟨h0, _⟩ | ⟨g, cap0, cur, hv2, hB, hg, h1, h2, h3, h4⟩
  · rw [hv] at h0; cases h0
  · rw [hv] at hv2
    cases hv2
    have hjl := (List.getElem?_eq_some_iff.1 hj).1
    rw [Addr.add_mid, Nat.zero_add, cell_of_row _ _ _ _ _ _ hg, ← Array.getElem?_toList]
    rw [← h4, List.getElem?_take_of_lt (by rw [h.1] at hjl; exact hjl)] at hj
    exact hj
/-- entries appended -/
theorem run_app30 {w : World} {B B2 n m : Nat} {v v2 : Value} {l l2 : List Ent} (ty : TypeId) (ho : w.ownsRow B 91 2 v n (prow l)) (hs : w.ownsRow B2 91 2 v2 m (prow l2)) (hB : B ≤ w.heap.size) (h1 : n ≤ 1000000) (h2 : m ≤ 1000000) :
    ∃ v' w', (Builtin.append_ #[30, 30] ty #[v, v2]).run Try.prog w = .ok v' w' ∧ w'.ownsRow B 91 2 v' (n + m) (prow (l ++ l2)) ∧ w.grownBy w' v.ownBlock := by
  obtain ⟨i0, hi, hz0, hz1, hz2⟩ := info_parts infoP
  rcases hs.2 with ⟨rfl, rfl⟩ | ⟨g, cap, cur, hv, hB2, hg, g1, g2, g3, g4⟩
  · have hl : l2 = [] := by
      have h9 := hs.1
      rw [prow_length] at h9
      exact List.length_eq_zero_iff.1 (by omega)
    subst hl
    exact ⟨v, w, run_append_owned_none w B 30 ty 91 i0 2 u30 hi v n _ ho, by simpa using ho, ⟨rfl, rfl, rfl, Nat.le_refl _, fun _ _ _ => rfl⟩⟩
  · subst hv
    obtain ⟨v', w', hr, h3, h4, _, _⟩ := run_append_own_at (P := Try.prog) w B 30 ty 91 i0 _ 2 24 u30 hi hz0 hz1 hz2 rfl (by decide) v n (prow l) ho ⟨g, 0, none⟩ m cap (prow l2) hs.1 (own_cells hs rfl) (prow_one _) (by unfold maxLen; omega) (by omega) hB
    exact ⟨v', w', hr, by rw [prow_append]; exact h3, h4⟩
theorem run_bs30 (w : World) : (Instr.buildSlice 30 0 #[]).run Try.prog w = .ok (.slice (some ⟨w.heap.size, 0, none⟩) 0 0) (w.alloc (.cells #[] 91)) := by kernel_rfl
theorem ex_bs30 {ev : Operand → Value} {o : Oper} {w : World} (ho : o.op = .buildSlice 30 0 #[]) :
    (execOp ev o).run Try.prog w = .ok (.value (.slice (some ⟨w.heap.size, 0, none⟩) 0 0)) (w.alloc (.cells #[] 91)) := by
  unfold execOp
  have := run_bs30 w
  simp [ho, this, Result.andThen]
/-- a cell of a row of one's own changed -/
theorem own_setG {w : World} {B p cap n e size : Nat} {xs : List Value} (h : w.ownsRow B e size (.slice (some ⟨p, 0, none⟩) n cap) n xs) (i : Nat) (v : Value) :
    (w.setCell ⟨p, i, none⟩ v).ownsRow B e size (.slice (some ⟨p, 0, none⟩) n cap) n (xs.set i v) := by
  rcases h.2 with ⟨h0, _⟩ | ⟨p0, cap0, cur, hv, hB, hg, h1, h2, h3, h4⟩
  · cases h0
  · cases hv
    refine ⟨by rw [List.length_set]; exact h.1, Or.inr ⟨p, cap, cur.setIfInBounds i v, rfl, hB, hs_new hg, h1, h2, by simpa using h3, ?_⟩⟩
    rw [Array.toList_setIfInBounds, List.take_set, h4]
theorem prow_set : ∀ (L : List Ent) (k : Nat) (e : Ent), prow (L.set k e) = ((prow L).set (k * 2) (.string e.1)).set (k * 2 + 1) (.int .i64 e.2)
  | [], k, e => by simp [prow]
  | x :: L, 0, e => by simp [prow]
  | x :: L, k + 1, e => by
    have ih := prow_set L k e
    simp only [prow, List.set_cons_succ, List.flatMap_cons] at ih ⊢
    rw [ih]
    simp [show (k + 1) * 2 = k * 2 + 2 by omega]
theorem own_setP {w : World} {B p cap n : Nat} {L : List Ent} (h : w.ownsRow B 91 2 (.slice (some ⟨p, 0, none⟩) n cap) n (prow L)) (k : Nat) (e : Ent) :
    (w.setCells p (k * 2) (pair e.1 e.2).toList).ownsRow B 91 2 (.slice (some ⟨p, 0, none⟩) n cap) n (prow (L.set k e)) := by
  rw [prow_set]
  exact own_setG (own_setG h (k * 2) (.string e.1)) (k * 2 + 1) (.int .i64 e.2)
theorem own_thereP {w : World} {B p cap n : Nat} {L : List Ent} (h : w.ownsRow B 91 2 (.slice (some ⟨p, 0, none⟩) n cap) n (prow L)) {k : Nat} (hk : k < n) : w.there p (k * 2) 2 := by
  rcases h.2 with ⟨h0, _⟩ | ⟨p0, cap0, cur, hv, hB, hg, h1, h2, h3, h4⟩
  · cases h0
  · cases hv
    intro j hj
    rw [cell_of_row _ _ _ _ _ _ hg, frozen_of_row _ _ _ _ _ hg, Array.getElem?_eq_getElem (by omega)]
    exact ⟨rfl, rfl⟩
theorem own_rowP {w : World} {B p cap n : Nat} {L : List Ent} (h : w.ownsRow B 91 2 (.slice (some ⟨p, 0, none⟩) n cap) n (prow L)) {k : Nat} {e : Ent} (he : L[k]? = some e) : RowAt w 91 ⟨p, k * 2, none⟩ (pair e.1 e.2) ∧ w.cell? ⟨p, k * 2, none⟩ = some (.string e.1) := by
  have hlen : L.length = n := by have := h.1; rw [prow_length] at this; omega
  subst hlen
  obtain ⟨q, cap', hv, _, hr⟩ := own_pairs (k := e.1) (v := e.2) h he
  cases hv
  refine ⟨hr, ?_⟩
  have := own_cells h rfl (k * 2) _ (prow_get (k := e.1) (v := e.2) he).1
  rwa [Addr.add_mid, Nat.zero_add] at this
set_option maxHeartbeats 4000000 in
set_option maxRecDepth 100000 in
theorem Pairs_any (v : Value) (l : List Ent) (B : Nat) (hn0 : l.length ≤ 100000) (w : World) (h : w.ownsRow B 91 2 v l.length (prow l)) :
    Calls Try.prog 60 #[v] w fun e w' => ∃ v' l', e = .returned v' ∧ l'.Perm l ∧ l'.Pairwise leE ∧ w'.ownsRow w.heap.size 91 2 v' l.length (prow l') ∧ Below w.heap.size w w' := by
  have H := Lib.hid h
  obtain ⟨n, hn⟩ : ∃ n, n = l.length := ⟨_, rfl⟩
  rw [← hn] at hn0 ⊢
  have HN := Lib.hid hn.symm
  have H : Hid (w.ownsRow B 91 2 v n (prow l)) := by rw [hn]; exact Lib.hid h
  clear h hn
  go_enter Try.func60, Try.ntmps60
  go_upto_region 1 with (fail)
  apply wp_region_lit
  refine wl_w rfl (ex_bs30 rfl) ?_
  simp only [put_lit, List.set_cons_zero, List.set_cons_succ]
  have hbz := (Below.refl w.heap.size w).alloc (Nat.le_refl _) (.cells #[] 91)
  obtain ⟨v', w', hr, hown, hgr⟩ := run_app30 (l := []) 30 (own_empty w 91 2) (own_below H.out hbz) (by have := hbz.size; omega) (by omega) (by omega)
  refine wl_k rfl (fun K hK => ?_); go_simp; refine hK _ ?_; clear hK K
  refine wl_w rfl (ex_app _ _ rfl rfl rfl hr) ?_
  simp only [put_lit, List.set_cons_zero, List.set_cons_succ]
  refine wl_k rfl (fun K hK => ?_); go_simp; refine hK _ ?_; clear hK K
  have HB : Hid (Below w.heap.size w w') := Lib.hid (hbz.grown hgr hbz.size (fun q hq => by cases hq; exact Nat.le_refl _))
  have HO : Hid (w'.ownsRow w.heap.size 91 2 v' n (prow l)) := Lib.hid (by rw [Nat.zero_add] at hown; exact hown)
  obtain ⟨P, d, rfl⟩ := own_shape HO.out
  clear hbz hr hown hgr H
  go_wp2_with fail
  go_loopw [4] (fun i wr => ∃ (j : Nat) (L : List Ent), j ≤ n ∧ i = .int .i64 (j : Int) ∧ Hid (L.Perm l) ∧ Hid (∀ a b, a < b → b < j → leE (L.getD a noE) (L.getD b noE)) ∧ Hid (wr.ownsRow w.heap.size 91 2 (.slice P n d) n (prow L)) ∧ Hid (Below w.heap.size w wr)) (fun i _ => n - (intOf i).toNat)
  case atStart => exact ⟨0, l, by omega, rfl, Lib.hid (List.Perm.refl _), Lib.hid (fun a b h1 h2 => by omega), HO, HB⟩
  case round =>
    clear HO HB
    obtain ⟨i, L0, hi, rfl, HP0, HS0, HO, HB⟩ := hrel
    by_cases hin : i < n
    · have hiI : (i : Int) < (n : Int) := by omega
      obtain ⟨p, hp⟩ : ∃ p, P = some ⟨p, 0, none⟩ := by
        rcases HO.out.2 with ⟨h0, h9⟩ | ⟨g, cap, cur, hv, _⟩
        · omega
        · simp only [Value.slice.injEq] at hv; exact ⟨g, hv.1⟩
      subst hp
      have HI := Lib.hid (ins_start HS0.out)
      go_upto_region 5 with (fail)
      apply wp_region_lit
      refine wl_k rfl (fun K hK => ?_); go_simp; refine hK _ ?_; clear hK K
      refine wl_k rfl (fun K hK => ?_); go_simp; refine hK _ ?_; clear hK K
      clear HS0
      go_wp2_with fail
      go_loopw [5] (fun kv wr2 => ∃ (k : Nat) (L : List Ent), kv = .int .i64 (k : Int) ∧ k ≤ i ∧ Hid (L.Perm l) ∧ Hid (Ins noE leE L i k) ∧ Hid (wr2.ownsRow w.heap.size 91 2 (.slice (some ⟨p, 0, none⟩) n d) n (prow L)) ∧ Hid (Below w.heap.size w wr2)) (fun kv _ => (intOf kv).toNat)
      case atStart => exact ⟨i, L0, rfl, Nat.le_refl _, HP0, HI, HO, HB⟩
      case round =>
        clear HP0 HI HO HB
        obtain ⟨k, L, rfl, hki, HP, HI, HO, HB⟩ := hrel
        have hLn := HP.out.length_eq.trans HN.out
        have hzp := (HO.out.lt p rfl).1
        by_cases hk0 : k = 0
        · subst hk0
          have HE := Lib.hid (ins_end (le := leE) (fun _ _ _ h1 h2 => leE_trans h1 h2) HI.out (Or.inl rfl))
          go_upto_region 6 with (fail)
          refine wp_region_held_drew (S := Below w.heap.size w) mixed HB.out.drew (fun hS => ?_)
          refine ha_k (i := 0) rfl (by kernel_rfl) (by kernel_rfl) (by kernel_rfl) (fun _ _ _ _ h => h) hS rfl (fun K hK => ?_); go_simp; refine hK _ ?_; clear hK K; try simp only [put_lit, List.set_cons_zero, List.set_cons_succ]
          refine ha_k (i := 1) rfl (by kernel_rfl) (by kernel_rfl) (by kernel_rfl) (fun _ _ _ _ h => h) hS rfl (fun K hK => ?_); go_simp; refine hK _ ?_; clear hK K; try simp only [put_lit, List.set_cons_zero, List.set_cons_succ]
          refine ha_k (i := 2) rfl (by kernel_rfl) (by kernel_rfl) (by kernel_rfl) (fun _ _ _ _ h => h) hS rfl (fun K hK => ?_); go_simp; refine hK _ ?_; clear hK K; try simp only [put_lit, List.set_cons_zero, List.set_cons_succ]
          refine ha_skip (i := 3) rfl (by kernel_rfl) (by kernel_rfl) (by kernel_rfl) (fun _ _ _ h => h) hS rfl ?_; simp only [List.getElem_toArray, List.getElem_cons_succ, List.getElem_cons_zero, put_lit, List.set_cons_zero, List.set_cons_succ]
          refine ha_skip (i := 4) rfl (by kernel_rfl) (by kernel_rfl) (by kernel_rfl) (fun _ _ _ h => h) hS rfl ?_; simp only [List.getElem_toArray, List.getElem_cons_succ, List.getElem_cons_zero, put_lit, List.set_cons_zero, List.set_cons_succ]
          refine ha_skip (i := 5) rfl (by kernel_rfl) (by kernel_rfl) (by kernel_rfl) (fun _ _ _ h => h) hS rfl ?_; simp only [List.getElem_toArray, List.getElem_cons_succ, List.getElem_cons_zero, put_lit, List.set_cons_zero, List.set_cons_succ]
          refine ha_skip (i := 6) rfl (by kernel_rfl) (by kernel_rfl) (by kernel_rfl) (fun _ _ _ h => h) hS rfl ?_; simp only [List.getElem_toArray, List.getElem_cons_succ, List.getElem_cons_zero, put_lit, List.set_cons_zero, List.set_cons_succ]
          refine ha_skip (i := 7) rfl (by kernel_rfl) (by kernel_rfl) (by kernel_rfl) (fun _ _ _ h => h) hS rfl ?_; simp only [List.getElem_toArray, List.getElem_cons_succ, List.getElem_cons_zero, put_lit, List.set_cons_zero, List.set_cons_succ]
          refine ha_skip (i := 8) rfl (by kernel_rfl) (by kernel_rfl) (by kernel_rfl) (fun _ _ _ h => h) hS rfl ?_; simp only [List.getElem_toArray, List.getElem_cons_succ, List.getElem_cons_zero, put_lit, List.set_cons_zero, List.set_cons_succ]
          refine ha_skip (i := 9) rfl (by kernel_rfl) (by kernel_rfl) (by kernel_rfl) (fun _ _ _ h => h) hS rfl ?_; simp only [List.getElem_toArray, List.getElem_cons_succ, List.getElem_cons_zero, put_lit, List.set_cons_zero, List.set_cons_succ]
          refine ha_skip (i := 10) rfl (by kernel_rfl) (by kernel_rfl) (by kernel_rfl) (fun _ _ _ h => h) hS rfl ?_; simp only [List.getElem_toArray, List.getElem_cons_succ, List.getElem_cons_zero, put_lit, List.set_cons_zero, List.set_cons_succ]
          refine ha_skip (i := 11) rfl (by kernel_rfl) (by kernel_rfl) (by kernel_rfl) (fun _ _ _ h => h) hS rfl ?_; simp only [List.getElem_toArray, List.getElem_cons_succ, List.getElem_cons_zero, put_lit, List.set_cons_zero, List.set_cons_succ]
          refine ha_skip (i := 12) rfl (by kernel_rfl) (by kernel_rfl) (by kernel_rfl) (fun _ _ _ h => h) hS rfl ?_; simp only [List.getElem_toArray, List.getElem_cons_succ, List.getElem_cons_zero, put_lit, List.set_cons_zero, List.set_cons_succ]
          refine ha_skip (i := 13) rfl (by kernel_rfl) (by kernel_rfl) (by kernel_rfl) (fun _ _ _ h => h) hS rfl ?_; simp only [List.getElem_toArray, List.getElem_cons_succ, List.getElem_cons_zero, put_lit, List.set_cons_zero, List.set_cons_succ]
          refine ha_skip (i := 14) rfl (by kernel_rfl) (by kernel_rfl) (by kernel_rfl) (fun _ _ _ h => h) hS rfl ?_; simp only [List.getElem_toArray, List.getElem_cons_succ, List.getElem_cons_zero, put_lit, List.set_cons_zero, List.set_cons_succ]
          refine ha_k (i := 15) rfl (by kernel_rfl) (by kernel_rfl) (by kernel_rfl) (fun _ _ _ _ h => h) hS rfl (fun K hK => ?_); go_simp; refine hK _ ?_; clear hK K; try simp only [put_lit, List.set_cons_zero, List.set_cons_succ]
          refine wpAnyH_done (by kernel_rfl) ?_ _
          have HO2 := Lib.hid (own_below HO.out (Below.refl _ wr).drew)
          have HB2 := Lib.hid hS
          go_wp2_with fail
          go_roundw
          case rel => exact ⟨i + 1, L, by omega, by go_num, HP, HE, HO2, HB2⟩
          case measure => simp [intOf]; omega
        · have hkI : (0 : Int) < (k : Int) := by omega
          have hkN : 0 < k := by omega
          have hdN : decide (0 < k) = true := by simpa using hkN
          have hk1 : IntKind.i64.wrap ((k : Int) - 1) = ((k - 1 : Nat) : Int) := by rw [wrap_small _ (by omega) (by omega)]; omega
          have hkn : k < n := by omega
          have hkn1 : k - 1 < n := by omega
          have hknI : (k : Int) < (n : Int) := by omega
          have hknI1 : ((k - 1 : Nat) : Int) < (n : Int) := by omega
          have hxk : L[k]? = some (L.getD k noE) := by rw [List.getD_eq_getElem?_getD, List.getElem?_eq_getElem (by omega)]; rfl
          have hxk1 : L[k - 1]? = some (L.getD (k - 1) noE) := by rw [List.getD_eq_getElem?_getD, List.getElem?_eq_getElem (by omega)]; rfl
          obtain ⟨x, hx⟩ : ∃ x, x = L.getD k noE := ⟨_, rfl⟩
          obtain ⟨y, hy⟩ : ∃ y, y = L.getD (k - 1) noE := ⟨_, rfl⟩
          rw [← hx] at hxk
          rw [← hy] at hxk1
          have HX := Lib.hid hx
          have HY := Lib.hid hy
          obtain ⟨-, hc1⟩ := own_rowP HO.out hxk
          obtain ⟨-, hc2⟩ := own_rowP HO.out hxk1
          have HXK := Lib.hid hxk
          have HYK := Lib.hid hxk1
          clear hxk hxk1 hx hy
          go_upto_region 6 with (fail)
          refine wp_region_held_drew (S := Kept [] wr) mixed (Kept.drew [] wr) (fun hS => ?_)
          refine ha_k (i := 0) rfl (by kernel_rfl) (by kernel_rfl) (by kernel_rfl) (fun _ _ _ _ h => h) hS rfl (fun K hK => ?_); go_simp; refine hK _ ?_; clear hK K; try simp only [put_lit, List.set_cons_zero, List.set_cons_succ]
          refine ha_k (i := 1) rfl (by kernel_rfl) (by kernel_rfl) (by kernel_rfl) (fun _ _ _ _ h => h) hS rfl (fun K hK => ?_); go_simp; refine hK _ ?_; clear hK K; try simp only [put_lit, List.set_cons_zero, List.set_cons_succ]
          refine ha_k (i := 2) rfl (by kernel_rfl) (by kernel_rfl) (by kernel_rfl) (fun _ _ _ _ h => h) hS rfl (fun K hK => ?_); go_simp; refine hK _ ?_; clear hK K; try simp only [put_lit, List.set_cons_zero, List.set_cons_succ]
          refine ha_k (i := 3) rfl (by kernel_rfl) (by kernel_rfl) (by kernel_rfl) (fun _ _ _ _ h => h) hS rfl (fun K hK => ?_); go_simp; refine hK _ ?_; clear hK K; try simp only [put_lit, List.set_cons_zero, List.set_cons_succ]
          refine ha_k (i := 4) rfl (by kernel_rfl) (by kernel_rfl) (by kernel_rfl) (fun _ _ _ _ h => h) hS rfl (fun K hK => ?_); go_simp; refine hK _ ?_; clear hK K; try simp only [put_lit, List.set_cons_zero, List.set_cons_succ]
          refine ha_k (i := 5) rfl (by kernel_rfl) (by kernel_rfl) (by kernel_rfl) (fun _ _ _ _ h => h) hS rfl (fun K hK => ?_); go_simp; refine hK _ ?_; clear hK K; try simp only [put_lit, List.set_cons_zero, List.set_cons_succ]
          refine ha_k (i := 6) rfl (by kernel_rfl) (by kernel_rfl) (by kernel_rfl) (fun _ _ _ _ h => h) hS rfl (fun K hK => ?_); go_simp; refine hK _ ?_; clear hK K; try simp only [put_lit, List.set_cons_zero, List.set_cons_succ]
          refine ha_val (i := 7) rfl (by kernel_rfl) (by kernel_rfl) (by kernel_rfl) (fun _ _ _ h => h) hS (by kernel_rfl) (fun w' hw' => ex_one rfl (one9 (hw'.cell hc1 (by simp)))) ?_; try simp only [put_lit, List.set_cons_zero, List.set_cons_succ]
          refine ha_k (i := 8) rfl (by kernel_rfl) (by kernel_rfl) (by kernel_rfl) (fun _ _ _ _ h => h) hS rfl (fun K hK => ?_); go_simp; refine hK _ ?_; clear hK K; try simp only [put_lit, List.set_cons_zero, List.set_cons_succ]
          refine ha_k (i := 9) rfl (by kernel_rfl) (by kernel_rfl) (by kernel_rfl) (fun _ _ _ _ h => h) hS rfl (fun K hK => ?_); go_simp; refine hK _ ?_; clear hK K; try simp only [put_lit, List.set_cons_zero, List.set_cons_succ]
          refine ha_k (i := 10) rfl (by kernel_rfl) (by kernel_rfl) (by kernel_rfl) (fun _ _ _ _ h => h) hS rfl (fun K hK => ?_); go_simp; refine hK _ ?_; clear hK K; try simp only [put_lit, List.set_cons_zero, List.set_cons_succ]
          try rw [hk1]
          refine ha_k (i := 11) rfl (by kernel_rfl) (by kernel_rfl) (by kernel_rfl) (fun _ _ _ _ h => h) hS rfl (fun K hK => ?_); go_simp; refine hK _ ?_; clear hK K; try simp only [put_lit, List.set_cons_zero, List.set_cons_succ]
          refine ha_k (i := 12) rfl (by kernel_rfl) (by kernel_rfl) (by kernel_rfl) (fun _ _ _ _ h => h) hS rfl (fun K hK => ?_); go_simp; refine hK _ ?_; clear hK K; try simp only [put_lit, List.set_cons_zero, List.set_cons_succ]
          refine ha_val (i := 13) rfl (by kernel_rfl) (by kernel_rfl) (by kernel_rfl) (fun _ _ _ h => h) hS (by kernel_rfl) (fun w' hw' => ex_one rfl (one9 (hw'.cell hc2 (by simp)))) ?_; try simp only [put_lit, List.set_cons_zero, List.set_cons_succ]
          refine ha_k (i := 14) rfl (by kernel_rfl) (by kernel_rfl) (by kernel_rfl) (fun _ _ _ _ h => h) hS rfl (fun K hK => ?_); go_simp; refine hK _ ?_; clear hK K; try simp only [put_lit, List.set_cons_zero, List.set_cons_succ]
          rw [show Op.bytesLess x.1.toList y.1.toList = ltB x.1 y.1 from rfl]
          refine ha_k (i := 15) rfl (by kernel_rfl) (by kernel_rfl) (by kernel_rfl) (fun _ _ _ _ h => h) hS rfl (fun K hK => ?_); go_simp; refine hK _ ?_; clear hK K; try simp only [put_lit, List.set_cons_zero, List.set_cons_succ]
          refine wpAnyH_done (by kernel_rfl) ?_ _
          have HOd := Lib.hid (own_below HO.out (Below.refl _ wr).drew)
          replace HB := Lib.hid HB.out.drew
          clear hS HO hc1 hc2
          generalize wr.drew = wr at *
          obtain ⟨q, hq⟩ : ∃ q, q = ltB x.1 y.1 := ⟨_, rfl⟩
          have HQ := Lib.hid hq
          rw [← hq]
          clear hq
          cases q with
          | true =>
            have hth1 := own_thereP HOd.out hkn
            have HLE : Hid (leE (L.getD k noE) (L.getD (k - 1) noE)) := Lib.hid (leB_of_lt (by rw [← HX.out, ← HY.out]; exact HQ.out.symm))
            have HIS := Lib.hid (ins_step HI.out (by omega) (by omega) HLE.out)
            have HPS := Lib.hid ((swp_perm noE (L := L) (k := k) (by omega) (by omega)).trans HP.out)
            have HSW : Hid (swp noE L k = (L.set k y).set (k - 1) x) := Lib.hid (by unfold swp; rw [← HX.out, ← HY.out])
            have hd1 : RowAt wr.drew 91 ⟨p, k * 2, none⟩ (pair x.1 x.2) := (own_rowP (own_below HOd.out (Below.refl _ wr).drew) HXK.out).1
            have hd2 : RowAt wr.drew 91 ⟨p, (k - 1) * 2, none⟩ (pair y.1 y.2) := (own_rowP (own_below HOd.out (Below.refl _ wr).drew) HYK.out).1
            clear HLE HQ HI HP
            go_upto_region 8 with (fail)
            refine wp_region_held_drew (S := Kept [p] wr) mixed (Kept.drew [p] wr) (fun hS => ?_)
            refine ha_k (i := 0) rfl (by kernel_rfl) (by kernel_rfl) (by kernel_rfl) (fun _ _ _ _ h => h) hS rfl (fun K hK => ?_); go_simp; refine hK _ ?_; clear hK K; try simp only [put_lit, List.set_cons_zero, List.set_cons_succ]
            refine ha_k (i := 1) rfl (by kernel_rfl) (by kernel_rfl) (by kernel_rfl) (fun _ _ _ _ h => h) hS rfl (fun K hK => ?_); go_simp; refine hK _ ?_; clear hK K; try simp only [put_lit, List.set_cons_zero, List.set_cons_succ]
            refine ha_k (i := 2) rfl (by kernel_rfl) (by kernel_rfl) (by kernel_rfl) (fun _ _ _ _ h => h) hS rfl (fun K hK => ?_); go_simp; refine hK _ ?_; clear hK K; try simp only [put_lit, List.set_cons_zero, List.set_cons_succ]
            refine ha_k (i := 3) rfl (by kernel_rfl) (by kernel_rfl) (by kernel_rfl) (fun _ _ _ _ h => h) hS rfl (fun K hK => ?_); go_simp; refine hK _ ?_; clear hK K; try simp only [put_lit, List.set_cons_zero, List.set_cons_succ]
            refine ha_k (i := 4) rfl (by kernel_rfl) (by kernel_rfl) (by kernel_rfl) (fun _ _ _ _ h => h) hS rfl (fun K hK => ?_); go_simp; refine hK _ ?_; clear hK K; try simp only [put_lit, List.set_cons_zero, List.set_cons_succ]
            try rw [hk1]
            refine ha_k (i := 5) rfl (by kernel_rfl) (by kernel_rfl) (by kernel_rfl) (fun _ _ _ _ h => h) hS rfl (fun K hK => ?_); go_simp; refine hK _ ?_; clear hK K; try simp only [put_lit, List.set_cons_zero, List.set_cons_succ]
            refine ha_k (i := 6) rfl (by kernel_rfl) (by kernel_rfl) (by kernel_rfl) (fun _ _ _ _ h => h) hS rfl (fun K hK => ?_); go_simp; refine hK _ ?_; clear hK K; try simp only [put_lit, List.set_cons_zero, List.set_cons_succ]
            refine ha_k (i := 7) rfl (by kernel_rfl) (by kernel_rfl) (by kernel_rfl) (fun _ _ _ _ h => h) hS rfl (fun K hK => ?_); go_simp; refine hK _ ?_; clear hK K; try simp only [put_lit, List.set_cons_zero, List.set_cons_succ]
            try rw [hk1]
            refine ha_k (i := 8) rfl (by kernel_rfl) (by kernel_rfl) (by kernel_rfl) (fun _ _ _ _ h => h) hS rfl (fun K hK => ?_); go_simp; refine hK _ ?_; clear hK K; try simp only [put_lit, List.set_cons_zero, List.set_cons_succ]
            refine ha_k (i := 10) rfl (by kernel_rfl) (by kernel_rfl) (by kernel_rfl) (fun _ _ _ _ h => h) hS rfl (fun K hK => ?_); go_simp; refine hK _ ?_; clear hK K; try simp only [put_lit, List.set_cons_zero, List.set_cons_succ]
            refine ha_k (i := 11) rfl (by kernel_rfl) (by kernel_rfl) (by kernel_rfl) (fun _ _ _ _ h => h) hS rfl (fun K hK => ?_); go_simp; refine hK _ ?_; clear hK K; try simp only [put_lit, List.set_cons_zero, List.set_cons_succ]
            refine ha_k (i := 12) rfl (by kernel_rfl) (by kernel_rfl) (by kernel_rfl) (fun _ _ _ _ h => h) hS rfl (fun K hK => ?_); go_simp; refine hK _ ?_; clear hK K; try simp only [put_lit, List.set_cons_zero, List.set_cons_succ]
            refine ha_two (i := 9) (j := 13) (by kernel_rfl) ?_ ?_
            · refine sh_val (i := 9) rfl rfl (ex_row rfl hd2) hS ?_; try simp only [put_lit, List.set_cons_zero, List.set_cons_succ]
              refine ha_do (i := 13) (by kernel_rfl) rfl rfl (ex_row rfl hd1) hS ?_; try simp only [put_lit, List.set_cons_zero, List.set_cons_succ]
              have hown1 : (wr.drew.setCells p (k * 2) (pair y.1 y.2).toList).ownsRow w.heap.size 91 2 (.slice (some ⟨p, 0, none⟩) n d) n (prow (L.set k y)) := own_setP HOd.out k y
              have hth2 := own_thereP hown1 (k := k - 1) (by omega)
              refine ha_k (i := 14) rfl (by kernel_rfl) (by kernel_rfl) (by kernel_rfl) (fun _ _ _ _ h => h) hS rfl (fun K hK => ?_); go_simp; refine hK _ ?_; clear hK K; try simp only [put_lit, List.set_cons_zero, List.set_cons_succ]
              refine ha_storeM (i := 15) (by kernel_rfl) rfl rfl 91 _ _ rfl p (k * 2) (pair y.1 y.2) rfl rfl hth1 info91 (pair_one _ _) (Nm.Kept.setCells (by simp) _ _ _ hS) (fun hS => ?_); try simp only [put_lit, List.set_cons_zero, List.set_cons_succ]
              refine ha_k (i := 16) rfl (by kernel_rfl) (by kernel_rfl) (by kernel_rfl) (fun _ _ _ _ h => h) hS rfl (fun K hK => ?_); go_simp; refine hK _ ?_; clear hK K; try simp only [put_lit, List.set_cons_zero, List.set_cons_succ]
              refine ha_storeM (i := 17) (by kernel_rfl) rfl rfl 91 _ _ rfl p ((k - 1) * 2) (pair x.1 x.2) rfl rfl hth2 info91 (pair_one _ _) (Nm.Kept.setCells (by simp) _ _ _ hS) (fun hS => ?_); try simp only [put_lit, List.set_cons_zero, List.set_cons_succ]
              refine wpAnyH_done (by kernel_rfl) ?_ _
              have HO2 : Hid (World.ownsRow _ w.heap.size 91 2 (.slice (some ⟨p, 0, none⟩) n d) n (prow (swp noE L k))) := Lib.hid (by rw [HSW.out]; exact own_setP hown1 (k - 1) x)
              have HB2 := Lib.hid (HB.out.trans (hS.toBelow HB.out.size (fun q hq => by simp at hq; omega)))
              clear hown1 hth2 hS
              go_wp2_with fail
              go_roundw
              case rel => exact ⟨k - 1, swp noE L k, rfl, by omega, HPS, HIS, HO2, HB2⟩
              case measure => simp [intOf]; omega
            · refine sh_val (i := 13) rfl rfl (ex_row rfl hd1) hS ?_; try simp only [put_lit, List.set_cons_zero, List.set_cons_succ]
              refine ha_do (i := 9) (by kernel_rfl) rfl rfl (ex_row rfl hd2) hS ?_; try simp only [put_lit, List.set_cons_zero, List.set_cons_succ]
              have hown1 : (wr.drew.setCells p (k * 2) (pair y.1 y.2).toList).ownsRow w.heap.size 91 2 (.slice (some ⟨p, 0, none⟩) n d) n (prow (L.set k y)) := own_setP HOd.out k y
              have hth2 := own_thereP hown1 (k := k - 1) (by omega)
              refine ha_k (i := 14) rfl (by kernel_rfl) (by kernel_rfl) (by kernel_rfl) (fun _ _ _ _ h => h) hS rfl (fun K hK => ?_); go_simp; refine hK _ ?_; clear hK K; try simp only [put_lit, List.set_cons_zero, List.set_cons_succ]
              refine ha_storeM (i := 15) (by kernel_rfl) rfl rfl 91 _ _ rfl p (k * 2) (pair y.1 y.2) rfl rfl hth1 info91 (pair_one _ _) (Nm.Kept.setCells (by simp) _ _ _ hS) (fun hS => ?_); try simp only [put_lit, List.set_cons_zero, List.set_cons_succ]
              refine ha_k (i := 16) rfl (by kernel_rfl) (by kernel_rfl) (by kernel_rfl) (fun _ _ _ _ h => h) hS rfl (fun K hK => ?_); go_simp; refine hK _ ?_; clear hK K; try simp only [put_lit, List.set_cons_zero, List.set_cons_succ]
              refine ha_storeM (i := 17) (by kernel_rfl) rfl rfl 91 _ _ rfl p ((k - 1) * 2) (pair x.1 x.2) rfl rfl hth2 info91 (pair_one _ _) (Nm.Kept.setCells (by simp) _ _ _ hS) (fun hS => ?_); try simp only [put_lit, List.set_cons_zero, List.set_cons_succ]
              refine wpAnyH_done (by kernel_rfl) ?_ _
              have HO2 : Hid (World.ownsRow _ w.heap.size 91 2 (.slice (some ⟨p, 0, none⟩) n d) n (prow (swp noE L k))) := Lib.hid (by rw [HSW.out]; exact own_setP hown1 (k - 1) x)
              have HB2 := Lib.hid (HB.out.trans (hS.toBelow HB.out.size (fun q hq => by simp at hq; omega)))
              clear hown1 hth2 hS
              go_wp2_with fail
              go_roundw
              case rel => exact ⟨k - 1, swp noE L k, rfl, by omega, HPS, HIS, HO2, HB2⟩
              case measure => simp [intOf]; omega
          | false =>
            have HE := Lib.hid (ins_end (le := leE) (fun _ _ _ h1 h2 => leE_trans h1 h2) HI.out (Or.inr (by unfold leE leB; rw [← HX.out, ← HY.out]; exact HQ.out.symm)))
            go_wp2_with fail
            go_roundw
            case rel => exact ⟨i + 1, L, by omega, by go_num, HP, HE, HOd, HB⟩
            case measure => simp [intOf]; omega
    · obtain rfl : i = n := by omega
      go_wp2_with fail
      go_ret
      exact ⟨_, L0, rfl, HP0.out, ins_all (d := noE) (fun a b h1 h2 => HS0.out a b h1 (by rw [HP0.out.length_eq, HN.out] at h2; exact h2)), HO.out, HB.out⟩
end Go.Proofs.Ytbhdgeoljlhmcaa
