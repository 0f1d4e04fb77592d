/- The document's Params: the names of the parameters of a tree (in order; here: which names they are). -/
import Derived.Test.YtokmaehefenpmaaDoorN2
namespace Go.Proofs.YtokmaehefenpmaaDoor
open Go.RowKit Go.Proofs.YtokmaehefenpmaaDoor.Nm
set_option linter.unusedSimpArgs false
theorem swap_perm {a b : ByteArray} : ∀ {ns : List ByteArray} {m : Nat}, ns[m]? = some a → ns[m + 1]? = some b → ((ns.set (m + 1) a).set m b).Perm ns
  | [], m, h, _ => by simp at h
  | [x], m, _, h => by simp at h
  | x :: y :: r, 0, h1, h2 => by
    simp at h1 h2; subst h1 h2
    exact List.Perm.swap _ _ _
  | x :: y :: r, m + 1, h1, h2 => by
    simp only [List.set_cons_succ]
    exact (swap_perm (ns := y :: r) (by simpa using h1) (by simpa using h2)).cons x
theorem OwnS.addr {w : World} {B : Nat} {A : Option Addr} {l c : Nat} {ns : List ByteArray} (h : OwnS w B (.slice A l c) ns) (hl : 0 < ns.length) : ∃ g cur, A = some ⟨g, 0, none⟩ ∧ B ≤ g ∧ ns.length = l ∧ w.heap[g]? = some (.cells cur 9 (0, 0)) ∧ cur.size = c ∧ l ≤ c ∧ c ≤ maxLen ∧ cur.toList.take l = ns.map .string := by
  rcases h.2 with ⟨e, hn⟩ | ⟨g, cap, cur, e, hB, hg, hc, hm, hs, hcur⟩
  · omega
  · cases e
    exact ⟨g, cur, rfl, hB, rfl, hg, by omega, hc, hm, by rw [← hcur, Nat.mul_one]⟩
theorem OwnS.one {w : World} {B : Nat} {g l c : Nat} {ns : List ByteArray} (h : OwnS w B (.slice (some ⟨g, 0, none⟩) l c) ns) {i : Nat} {s : ByteArray} (hi : ns[i]? = some s) : OneAt w 9 ⟨g, i, none⟩ (.string s) := by
  have hl := (List.getElem?_eq_some_iff.1 hi).1
  obtain ⟨g', cur, e, -, hn, hg, -, -, -, hcur⟩ := h.addr (by omega)
  cases e
  refine one_of u9 rfl ?_
  rw [cell_of_row _ _ _ _ _ _ hg]
  have h2 : (ns.map Value.string)[i]? = some (.string s) := by rw [List.getElem?_map, hi]; rfl
  rw [← hcur, List.getElem?_take_of_lt (by omega)] at h2
  simpa using h2
theorem OwnS.put {w : World} {B : Nat} {g l c : Nat} {ns : List ByteArray} (h : OwnS w B (.slice (some ⟨g, 0, none⟩) l c) ns) {i : Nat} (hi : i < ns.length) (s : ByteArray) : OwnS (w.setCell ⟨g, i, none⟩ (.string s)) B (.slice (some ⟨g, 0, none⟩) l c) (ns.set i s) := by
  obtain ⟨g', cur, e, hB, hn, hg, hsz, hc, hm, hcur⟩ := h.addr (by omega)
  cases e
  refine ⟨by simp, .inr ⟨g, c, cur.setIfInBounds i (.string s), by simp [hn], hB, hs_new hg, by simpa [hn] using hc, hm, by simp [hsz], ?_⟩⟩
  rw [Nat.mul_one, List.length_set, hn, Array.toList_setIfInBounds, List.take_set, hcur, List.map_set]
theorem OwnS.lies {w : World} {B : Nat} {g l c : Nat} {ns : List ByteArray} (h : OwnS w B (.slice (some ⟨g, 0, none⟩) l c) ns) {i : Nat} (hi : i < ns.length) : (w.cell? ⟨g, i, none⟩).isSome = true ∧ w.frozen? ⟨g, i, none⟩ = false := by
  obtain ⟨g', cur, e, hB, hn, hg, hsz, hc, hm, hcur⟩ := h.addr (by omega)
  cases e
  refine ⟨?_, by unfold World.frozen?; rw [hg]; rfl⟩
  rw [cell_of_row _ _ _ _ _ _ hg, Array.getElem?_eq_getElem (by omega)]
  rfl
theorem info9 : (Tryd.prog.info? 9).map (·.size) = some 1 := by kernel_rfl
def PaPost (w : World) (t : Ty) (e : Ending) (w' : World) : Prop :=
  ∃ A l c ns, e = .returned (.slice A l c) ∧ OwnS w' w.heap.size (.slice A l c) ns ∧ (∀ x, x ∈ ns ↔ x ∈ t.pars) ∧ ns.length ≤ t.nodes ∧ Below w.heap.size w w'
set_option maxHeartbeats 4000000 in
set_option maxRecDepth 100000 in
theorem ParamsI_any (t : Ty) (hnd : t.nodes ≤ 1000000) (w : World) (D : Nat → Prop) (row : Array Value) (h : TyAt w D t row) : Calls Tryd.prog 17 #[.agg row] w (PaPost w t) := by
  obtain ⟨k, s, n, A0, l0, c0, ts1, e, rfl, -⟩ := h.parts
  have HT := Lib.hid h
  clear h e
  have hb := Below.refl w.heap.size w
  go_enter Tryd.func17, Tryd.ntmps17
  go_upto_region 0 with (fail)
  apply wp_region_lit
  (with_reducible refine wl_box rfl ?_); intro W p hbn hlp hp; replace hb := hb.trans (hbn.mono hb.size); clear hbn; simp only [put_lit, List.set_cons_zero, List.set_cons_succ]
  (with_reducible refine wl_k ?_ ?_); exact rfl; intro K hK; go_simp; refine hK _ ?_; clear hK K
  have HC := Lib.hid (names_any t W W.heap.size none 0 0 [] _ (OwnS.nil _ _) (Nat.le_refl _) ((HT.out.old hb).low.weak fun _ h => h.2) (by simpa using hnd))
  go_upto_region 1 with (fail)
  apply wp_region_lit
  (first | ((with_reducible apply wl_oneG); exact rfl; exact rfl; first | exact f0 (by with_reducible assumption) | exact f1 (by with_reducible assumption) | exact f2 (by with_reducible assumption) | exact f3 (by with_reducible assumption) | with_reducible assumption | exact g22 (by with_reducible assumption) | exact g25 (by with_reducible assumption)) | ((with_reducible apply wl_rowG); exact rfl; exact rfl; first | with_reducible assumption | exact RowK.now (by with_reducible assumption) | exact f4 (by with_reducible assumption)))
  (with_reducible refine wl_ck ?_ ?_); exact rfl; intro K hK; go_simp; refine ⟨_, _, ⟨rfl, rfl⟩, hK _ _ ⟨_, HC.out, ?_⟩⟩; clear hK K; rintro e w1 ⟨A, l, c, ns0, rfl, hown, hgro, hadd, hln⟩; refine ⟨_, rfl, ?_⟩; simp only [put_lit, List.set_cons_zero, List.set_cons_succ]
  (with_reducible refine wl_k ?_ ?_); exact rfl; intro K hK; go_simp; refine hK _ ?_; clear hK K
  have hb1 := hgro.bel W.heap.size W (fun b e => by cases e) (Nat.le_refl _) (Below.refl _ _)
  have hB : w.heap.size ≤ W.heap.size := hb.size
  obtain ⟨B, hBd⟩ : ∃ B, B = W.heap.size := ⟨_, rfl⟩
  rw [← hBd] at hown hB
  replace hb := hb.trans (hb1.mono hb.size)
  have HM : Hid (∀ x, x ∈ ns0 ↔ x ∈ t.pars) := Lib.hid fun x => by rw [hadd.mem]; simp
  have HLN : Hid (ns0.length ≤ t.nodes) := Lib.hid (by simpa using hln)
  have hlen : ns0.length = l := by
    obtain ⟨A', l', c', e, htx⟩ := hown.tx
    cases e; exact htx.len
  have hcl : l ≤ c ∧ c ≤ maxLen := by
    obtain ⟨A', l', c', e, htx⟩ := hown.tx
    cases e; exact ⟨htx.cap, htx.max⟩
  obtain ⟨hcm, hmx⟩ := hcl
  unfold maxLen at hmx
  have hl6 : l ≤ 1000000 := by rw [← hlen]; simp at hln; omega
  have HO := Lib.hid hown
  clear hown hgro hadd hln hb1 hBd HC HT hp
  go_wp2_with fail
  go_loopw [4] (fun i wr => ∃ (j : Nat) (ns : List ByteArray), j ≤ l ∧ i = .int .i64 (j : Int) ∧ Hid (OwnS wr B (.slice A l c) ns) ∧ Hid (ns.Perm ns0) ∧ Below w.heap.size w wr) (fun i _ => l - (intOf i).toNat)
  case atStart => exact ⟨0, ns0, by omega, rfl, HO, Lib.hid (List.Perm.refl _), hb⟩
  case round =>
    clear hb HO
    obtain ⟨j, ns1, hj, rfl, HO, HR, hb⟩ := hrel
    by_cases hlt : j < l
    · have hltI : (j : Int) < (l : Int) := by omega
      go_wp2_with fail
      go_loopw [5] (fun i wr => ∃ (m : Nat) (ns : List ByteArray), m ≤ j ∧ i = .int .i64 (m : Int) ∧ Hid (OwnS wr B (.slice A l c) ns) ∧ Hid (ns.Perm ns0) ∧ Below w.heap.size w wr) (fun i _ => (intOf i).toNat)
      case atStart => exact ⟨j, ns1, by omega, rfl, HO, HR, hb⟩
      case round =>
        clear hb HO HR
        obtain ⟨m, ns, hm, rfl, HO, HR, hb⟩ := hrel
        by_cases h0 : m = 0
        · have e0 : ¬ 0 < m := by omega
          clear h0
          go_upto_region 6 with (fail)
          refine wp_region_belowAll mixed (by kernel_rfl) ?_
          (with_reducible refine wq_k ?_ ?_); exact rfl; intro K hK; go_simp; (with_reducible refine hK _ ?_); clear hK K
          (with_reducible refine wq_k ?_ ?_); exact rfl; intro K hK; go_simp; (with_reducible refine hK _ ?_); clear hK K
          (with_reducible refine wq_k ?_ ?_); exact rfl; intro K hK; go_simp; (with_reducible refine hK _ ?_); clear hK K
          (with_reducible refine wq_skip ?_ ?_); exact rfl; simp only [List.getElem_toArray, List.getElem_cons_succ, List.getElem_cons_zero, put_lit, List.set_cons_zero, List.set_cons_succ]
          (with_reducible refine wq_skip ?_ ?_); exact rfl; simp only [List.getElem_toArray, List.getElem_cons_succ, List.getElem_cons_zero, put_lit, List.set_cons_zero, List.set_cons_succ]
          (with_reducible refine wq_skip ?_ ?_); exact rfl; simp only [List.getElem_toArray, List.getElem_cons_succ, List.getElem_cons_zero, put_lit, List.set_cons_zero, List.set_cons_succ]
          (with_reducible refine wq_skip ?_ ?_); exact rfl; simp only [List.getElem_toArray, List.getElem_cons_succ, List.getElem_cons_zero, put_lit, List.set_cons_zero, List.set_cons_succ]
          (with_reducible refine wq_skip ?_ ?_); exact rfl; simp only [List.getElem_toArray, List.getElem_cons_succ, List.getElem_cons_zero, put_lit, List.set_cons_zero, List.set_cons_succ]
          (with_reducible refine wq_skip ?_ ?_); exact rfl; simp only [List.getElem_toArray, List.getElem_cons_succ, List.getElem_cons_zero, put_lit, List.set_cons_zero, List.set_cons_succ]
          (with_reducible refine wq_skip ?_ ?_); exact rfl; simp only [List.getElem_toArray, List.getElem_cons_succ, List.getElem_cons_zero, put_lit, List.set_cons_zero, List.set_cons_succ]
          (with_reducible refine wq_skip ?_ ?_); exact rfl; simp only [List.getElem_toArray, List.getElem_cons_succ, List.getElem_cons_zero, put_lit, List.set_cons_zero, List.set_cons_succ]
          (with_reducible refine wq_skip ?_ ?_); exact rfl; simp only [List.getElem_toArray, List.getElem_cons_succ, List.getElem_cons_zero, put_lit, List.set_cons_zero, List.set_cons_succ]
          (with_reducible refine wq_skip ?_ ?_); exact rfl; simp only [List.getElem_toArray, List.getElem_cons_succ, List.getElem_cons_zero, put_lit, List.set_cons_zero, List.set_cons_succ]
          (with_reducible refine wq_k ?_ ?_); exact rfl; intro K hK; go_simp; (with_reducible refine hK _ ?_); clear hK K
          intro w7 hb7
          replace HO := Lib.hid (HO.out.old hb7)
          replace hb := hb.trans (hb7.mono hb.size)
          clear hb7
          go_wp2_with fail
          go_roundw
          case rel => exact ⟨j + 1, ns, by omega, by go_num, HO, HR, hb⟩
          case measure => simp [intOf]; omega
        · have e0 : 0 < m := by omega
          have hnl : ns.length = l := by rw [HR.out.length_eq, hlen]
          obtain ⟨g, cur, rfl, -⟩ := HO.out.addr (by omega)
          obtain ⟨m1, hq1, hq2⟩ : ∃ m1, m1 + 1 ≤ m ∧ m ≤ m1 + 1 := ⟨m - 1, by omega, by omega⟩
          obtain ⟨a, ha⟩ : ∃ a, ns[m1]? = some a := ⟨_, List.getElem?_eq_getElem (by omega)⟩
          obtain ⟨b, hb'⟩ : ∃ b, ns[m]? = some b := ⟨_, List.getElem?_eq_getElem (by omega)⟩
          have hone1 : Hid (∀ w', Below wr.heap.size wr w' → OneAt w' 9 ⟨g, m, none⟩ (.string b)) := Lib.hid fun w' hw' => (HO.out.old hw').one hb'
          have hone2 : Hid (∀ w', Below wr.heap.size wr w' → OneAt w' 9 ⟨g, m1, none⟩ (.string a)) := Lib.hid fun w' hw' => (HO.out.old hw').one ha
          have HAB := Lib.hid (And.intro ha hb')
          have hi1 : (m : Int) - 1 = (m1 : Int) := by omega
          have hmI : (m : Int) < (l : Int) := by omega
          have hmJ : (m1 : Int) < (l : Int) := by omega
          have hwr : IntKind.i64.wrap (m1 : Int) = (m1 : Int) := IntWalk.i64_in _ (by omega)
          have hgB : w.heap.size ≤ g := by obtain ⟨g', cur', e, h3, -⟩ := HO.out.addr (by omega); cases e; omega
          have hm2 : m = m1 + 1 := by omega
          have HSW : Hid (((ns.set m a).set m1 b).Perm ns0) := Lib.hid (by rw [hm2] at hb' ⊢; exact (swap_perm ha hb').trans HR.out)
          have HL2 : Hid (m1 < (ns.set m a).length ∧ m < ns.length) := Lib.hid (by rw [List.length_set]; omega)
          clear hm2
          clear h0 ha hb' hnl
          by_cases hlss : Op.bytesLess b.toList a.toList = true
          · go_upto_region 6 with (fail)
            refine wp_region_belowAll mixed (by kernel_rfl) ?_
            (with_reducible refine wq_k ?_ ?_); exact rfl; intro K hK; go_simp; (with_reducible refine hK _ ?_); clear hK K
            (with_reducible refine wq_k ?_ ?_); exact rfl; intro K hK; go_simp; (with_reducible refine hK _ ?_); clear hK K
            (with_reducible refine wq_k ?_ ?_); exact rfl; intro K hK; go_simp; (with_reducible refine hK _ ?_); clear hK K
            (with_reducible refine wq_k ?_ ?_); exact rfl; intro K hK; go_simp; (with_reducible refine hK _ ?_); clear hK K
            (with_reducible refine wq_k ?_ ?_); exact rfl; intro K hK; go_simp; (with_reducible refine hK _ ?_); clear hK K
            (with_reducible refine wq_k ?_ ?_); exact rfl; intro K hK; go_simp; (with_reducible refine hK _ ?_); clear hK K
            (with_reducible apply wq_one); exact rfl; exact rfl; exact hone1.out
            try simp only [put_lit, List.set_cons_zero, List.set_cons_succ]
            (with_reducible refine wq_k ?_ ?_); exact rfl; intro K hK; go_simp; (with_reducible refine hK _ ?_); clear hK K
            (with_reducible refine wq_k ?_ ?_); exact rfl; intro K hK; go_simp; (with_reducible refine hK _ ?_); clear hK K
            (with_reducible refine wq_k ?_ ?_); exact rfl; intro K hK; go_simp; (with_reducible refine hK _ ?_); clear hK K
            (with_reducible refine wq_k ?_ ?_); exact rfl; intro K hK; go_simp; (with_reducible refine hK _ ?_); clear hK K
            (with_reducible apply wq_one); exact rfl; exact rfl; exact hone2.out
            try simp only [put_lit, List.set_cons_zero, List.set_cons_succ]
            (with_reducible refine wq_k ?_ ?_); exact rfl; intro K hK; go_simp; (with_reducible refine hK _ ?_); clear hK K
            (with_reducible refine wq_k ?_ ?_); exact rfl; intro K hK; go_simp; (with_reducible refine hK _ ?_); clear hK K
            intro w7 hb7
            replace HO := Lib.hid (HO.out.old hb7)
            replace hb := hb.trans (hb7.mono hb.size)
            clear hb7 hone1 hone2
            have HOd : Hid (OwnS w7.drew B (.slice (some ⟨g, 0, none⟩) l c) ns) := Lib.hid HO.out
            have h1 := Lib.hid (HOd.out.one HAB.out.2)
            have h2 := Lib.hid (HOd.out.one HAB.out.1)
            clear HAB
            go_upto_region 8 with (fail)
            refine wp_region_held_drew (S := Below w.heap.size w) mixed hb.drew (fun hS => ?_)
            refine ha_k (i := 0) rfl (by kernel_rfl) (by kernel_rfl) (by kernel_rfl) (fun _ _ _ _ h => h) hS rfl (fun K hK => ?_); go_simp; refine hK _ ?_; clear hK K; try simp only [put_lit, List.set_cons_zero, List.set_cons_succ]
            refine ha_k (i := 1) rfl (by kernel_rfl) (by kernel_rfl) (by kernel_rfl) (fun _ _ _ _ h => h) hS rfl (fun K hK => ?_); go_simp; refine hK _ ?_; clear hK K; try simp only [put_lit, List.set_cons_zero, List.set_cons_succ]
            refine ha_k (i := 2) rfl (by kernel_rfl) (by kernel_rfl) (by kernel_rfl) (fun _ _ _ _ h => h) hS rfl (fun K hK => ?_); go_simp; refine hK _ ?_; clear hK K; try simp only [put_lit, List.set_cons_zero, List.set_cons_succ]
            refine ha_k (i := 3) rfl (by kernel_rfl) (by kernel_rfl) (by kernel_rfl) (fun _ _ _ _ h => h) hS rfl (fun K hK => ?_); go_simp; refine hK _ ?_; clear hK K; try simp only [put_lit, List.set_cons_zero, List.set_cons_succ]
            refine ha_k (i := 4) rfl (by kernel_rfl) (by kernel_rfl) (by kernel_rfl) (fun _ _ _ _ h => h) hS rfl (fun K hK => ?_); go_simp; refine hK _ ?_; clear hK K; try simp only [put_lit, List.set_cons_zero, List.set_cons_succ]
            refine ha_k (i := 5) rfl (by kernel_rfl) (by kernel_rfl) (by kernel_rfl) (fun _ _ _ _ h => h) hS rfl (fun K hK => ?_); go_simp; refine hK _ ?_; clear hK K; try simp only [put_lit, List.set_cons_zero, List.set_cons_succ]
            refine ha_k (i := 6) rfl (by kernel_rfl) (by kernel_rfl) (by kernel_rfl) (fun _ _ _ _ h => h) hS rfl (fun K hK => ?_); go_simp; refine hK _ ?_; clear hK K; try simp only [put_lit, List.set_cons_zero, List.set_cons_succ]
            refine ha_k (i := 7) rfl (by kernel_rfl) (by kernel_rfl) (by kernel_rfl) (fun _ _ _ _ h => h) hS rfl (fun K hK => ?_); go_simp; refine hK _ ?_; clear hK K; try simp only [put_lit, List.set_cons_zero, List.set_cons_succ]
            refine ha_k (i := 8) rfl (by kernel_rfl) (by kernel_rfl) (by kernel_rfl) (fun _ _ _ _ h => h) hS rfl (fun K hK => ?_); go_simp; refine hK _ ?_; clear hK K; try simp only [put_lit, List.set_cons_zero, List.set_cons_succ]
            refine ha_k (i := 10) rfl (by kernel_rfl) (by kernel_rfl) (by kernel_rfl) (fun _ _ _ _ h => h) hS rfl (fun K hK => ?_); go_simp; refine hK _ ?_; clear hK K; try simp only [put_lit, List.set_cons_zero, List.set_cons_succ]
            refine ha_k (i := 11) rfl (by kernel_rfl) (by kernel_rfl) (by kernel_rfl) (fun _ _ _ _ h => h) hS rfl (fun K hK => ?_); go_simp; refine hK _ ?_; clear hK K; try simp only [put_lit, List.set_cons_zero, List.set_cons_succ]
            refine ha_k (i := 12) rfl (by kernel_rfl) (by kernel_rfl) (by kernel_rfl) (fun _ _ _ _ h => h) hS rfl (fun K hK => ?_); go_simp; refine hK _ ?_; clear hK K; try simp only [put_lit, List.set_cons_zero, List.set_cons_succ]
            refine ha_two (i := 9) (j := 13) (by kernel_rfl) ?_ ?_
            · refine sh_val (i := 9) rfl rfl (ex_one rfl h2.out) hS ?_
              try simp only [put_lit, List.set_cons_zero, List.set_cons_succ]
              refine ha_do (i := 13) (by kernel_rfl) rfl rfl (ex_one rfl h1.out) hS ?_
              try simp only [put_lit, List.set_cons_zero, List.set_cons_succ]
              refine ha_k (i := 14) rfl (by kernel_rfl) (by kernel_rfl) (by kernel_rfl) (fun _ _ _ _ h => h) hS rfl (fun K hK => ?_); go_simp; refine hK _ ?_; clear hK K; try simp only [put_lit, List.set_cons_zero, List.set_cons_succ]
              refine ha_storeC (i := 15) (by kernel_rfl) rfl rfl 9 _ _ rfl g m (.string a) rfl rfl info9 rfl (HOd.out.lies HL2.out.2).1 (HOd.out.lies HL2.out.2).2 (hS.setCell hgB _) (fun hS => ?_)
              have HO2 := Lib.hid (HOd.out.put HL2.out.2 a)
              try simp only [put_lit, List.set_cons_zero, List.set_cons_succ]
              refine ha_k (i := 16) rfl (by kernel_rfl) (by kernel_rfl) (by kernel_rfl) (fun _ _ _ _ h => h) hS rfl (fun K hK => ?_); go_simp; refine hK _ ?_; clear hK K; try simp only [put_lit, List.set_cons_zero, List.set_cons_succ]
              refine ha_storeC (i := 17) (by kernel_rfl) rfl rfl 9 _ _ rfl g m1 (.string b) rfl rfl info9 rfl (HO2.out.lies HL2.out.1).1 (HO2.out.lies HL2.out.1).2 (hS.setCell hgB _) (fun hS => ?_)
              have HO3 := Lib.hid (HO2.out.put HL2.out.1 b)
              refine wpAnyH_done (by kernel_rfl) ?_ _
              clear HO2
              obtain ⟨X, hX⟩ : ∃ X, X = (w7.drew.setCell ⟨g, m, none⟩ (.string a)).setCell ⟨g, m1, none⟩ (.string b) := ⟨_, rfl⟩
              rw [← hX] at HO3 hS ⊢
              clear hX HOd h1 h2 HO hb
              go_wp2_with fail
              go_roundw
              case rel => exact ⟨m1, _, by omega, by go_num, HO3, HSW, hS⟩
              case measure => simp [intOf]; omega
            · refine sh_val (i := 13) rfl rfl (ex_one rfl h1.out) hS ?_
              try simp only [put_lit, List.set_cons_zero, List.set_cons_succ]
              refine ha_do (i := 9) (by kernel_rfl) rfl rfl (ex_one rfl h2.out) hS ?_
              try simp only [put_lit, List.set_cons_zero, List.set_cons_succ]
              refine ha_k (i := 14) rfl (by kernel_rfl) (by kernel_rfl) (by kernel_rfl) (fun _ _ _ _ h => h) hS rfl (fun K hK => ?_); go_simp; refine hK _ ?_; clear hK K; try simp only [put_lit, List.set_cons_zero, List.set_cons_succ]
              refine ha_storeC (i := 15) (by kernel_rfl) rfl rfl 9 _ _ rfl g m (.string a) rfl rfl info9 rfl (HOd.out.lies HL2.out.2).1 (HOd.out.lies HL2.out.2).2 (hS.setCell hgB _) (fun hS => ?_)
              have HO2 := Lib.hid (HOd.out.put HL2.out.2 a)
              try simp only [put_lit, List.set_cons_zero, List.set_cons_succ]
              refine ha_k (i := 16) rfl (by kernel_rfl) (by kernel_rfl) (by kernel_rfl) (fun _ _ _ _ h => h) hS rfl (fun K hK => ?_); go_simp; refine hK _ ?_; clear hK K; try simp only [put_lit, List.set_cons_zero, List.set_cons_succ]
              refine ha_storeC (i := 17) (by kernel_rfl) rfl rfl 9 _ _ rfl g m1 (.string b) rfl rfl info9 rfl (HO2.out.lies HL2.out.1).1 (HO2.out.lies HL2.out.1).2 (hS.setCell hgB _) (fun hS => ?_)
              have HO3 := Lib.hid (HO2.out.put HL2.out.1 b)
              refine wpAnyH_done (by kernel_rfl) ?_ _
              clear HO2
              obtain ⟨X, hX⟩ : ∃ X, X = (w7.drew.setCell ⟨g, m, none⟩ (.string a)).setCell ⟨g, m1, none⟩ (.string b) := ⟨_, rfl⟩
              rw [← hX] at HO3 hS ⊢
              clear hX HOd h1 h2 HO hb
              go_wp2_with fail
              go_roundw
              case rel => exact ⟨m1, _, by omega, by go_num, HO3, HSW, hS⟩
              case measure => simp [intOf]; omega
          · replace hlss : Op.bytesLess b.toList a.toList = false := by simpa using hlss
            go_upto_region 6 with (fail)
            refine wp_region_belowAll mixed (by kernel_rfl) ?_
            (with_reducible refine wq_k ?_ ?_); exact rfl; intro K hK; go_simp; (with_reducible refine hK _ ?_); clear hK K
            (with_reducible refine wq_k ?_ ?_); exact rfl; intro K hK; go_simp; (with_reducible refine hK _ ?_); clear hK K
            (with_reducible refine wq_k ?_ ?_); exact rfl; intro K hK; go_simp; (with_reducible refine hK _ ?_); clear hK K
            (with_reducible refine wq_k ?_ ?_); exact rfl; intro K hK; go_simp; (with_reducible refine hK _ ?_); clear hK K
            (with_reducible refine wq_k ?_ ?_); exact rfl; intro K hK; go_simp; (with_reducible refine hK _ ?_); clear hK K
            (with_reducible refine wq_k ?_ ?_); exact rfl; intro K hK; go_simp; (with_reducible refine hK _ ?_); clear hK K
            (with_reducible apply wq_one); exact rfl; exact rfl; exact hone1.out
            try simp only [put_lit, List.set_cons_zero, List.set_cons_succ]
            (with_reducible refine wq_k ?_ ?_); exact rfl; intro K hK; go_simp; (with_reducible refine hK _ ?_); clear hK K
            (with_reducible refine wq_k ?_ ?_); exact rfl; intro K hK; go_simp; (with_reducible refine hK _ ?_); clear hK K
            (with_reducible refine wq_k ?_ ?_); exact rfl; intro K hK; go_simp; (with_reducible refine hK _ ?_); clear hK K
            (with_reducible refine wq_k ?_ ?_); exact rfl; intro K hK; go_simp; (with_reducible refine hK _ ?_); clear hK K
            (with_reducible apply wq_one); exact rfl; exact rfl; exact hone2.out
            try simp only [put_lit, List.set_cons_zero, List.set_cons_succ]
            (with_reducible refine wq_k ?_ ?_); exact rfl; intro K hK; go_simp; (with_reducible refine hK _ ?_); clear hK K
            (with_reducible refine wq_k ?_ ?_); exact rfl; intro K hK; go_simp; (with_reducible refine hK _ ?_); clear hK K
            intro w7 hb7
            replace HO := Lib.hid (HO.out.old hb7)
            replace hb := hb.trans (hb7.mono hb.size)
            clear hb7 hone1 hone2 HAB
            go_wp2_with fail
            go_roundw
            case rel => exact ⟨j + 1, ns, by omega, by go_num, HO, HR, hb⟩
            case measure => simp [intOf]; omega
    · have hltI : ¬ (j : Int) < (l : Int) := by omega
      have HF : Hid (PaPost w t (.returned (.slice A l c)) wr) := Lib.hid (by
        refine ⟨_, _, _, ns1, rfl, ?_, fun x => by rw [HR.out.mem_iff]; exact HM.out x, by rw [HR.out.length_eq]; exact HLN.out, hb⟩
        have h1 := HO.out
        refine ⟨h1.1, h1.2.imp id ?_⟩
        rintro ⟨g, cap, cur, h2, h3, h4⟩
        exact ⟨g, cap, cur, h2, by omega, h4⟩)
      clear HO HR hb
      go_wp2_with fail
      go_ret
      exact HF.out
end Go.Proofs.YtokmaehefenpmaaDoor
