/- The document's Params once more: in order, each name once. Sorted lists of which equal neighbours are left out rise strictly; names and numbers of a tree, each once and in order, are one list. No program in sight. 'shaped' at the two nodes that 'awake' has: Int, and an array of one. A map literal whose ten entries come in whatever order. A builder's writing of a text, over this program. Contracts of the shelf at this dump, in plain words (written by the kit's own tools; those that are wanted). The text of a tree, written: lists, and nodes whose word is looked up. The texts of a list of trees, written. The text of a node whose word is looked up, written. The text of a tree, plainly. No program in sight. The program's Apply and Func. -/
import Derived.MapKept
import Derived.Carry
import Derived.Shelf.Strings.BuilderK
import Derived.Lib.Builder
import Derived.Shelf.LaysM
import Derived.Shelf.Strconv.Itoa3
import Derived.Test.YtokmaehefenpmaaGreatDoorProg
import Derived.Lib.OthersKept
import Derived.Lib.ItoaNum
import Derived.Test.YtokmaehefenpmaaGreatDoorPA6
import Derived.Test.YtokmaehefenpmaaGreatDoorPA1
import Derived.Test.YtokmaehefenpmaaGreatDoorPA2
namespace Go.Proofs.YtokmaehefenpmaaGreatDoor
open Go.RowKit Go.Proofs.YtokmaehefenpmaaGreatDoor.Nm
set_option linter.unusedSimpArgs false
section
variable {α : Type} {R : α → α → Bool}
def SrtR (R : α → α → Bool) (j : Nat) (ns : List α) : Prop := ∀ (i k : Nat) (a b : α), i < k → k < j → ns[i]? = some a → ns[k]? = some b → R a b = true
def SrtRB (R : α → α → Bool) (j m : Nat) (ns : List α) : Prop := ∀ (i k : Nat) (a b : α), i < k → k ≤ j → k ≠ m → ns[i]? = some a → ns[k]? = some b → R a b = true
theorem SrtR.start {j : Nat} {ns : List α} (h : SrtR R j ns) : SrtRB R j j ns := fun i k a b h1 h2 h3 => h i k a b h1 (by omega)
theorem SrtRB.zero {j : Nat} {ns : List α} (h : SrtRB R j 0 ns) : SrtR R (j + 1) ns := fun i k a b h1 h2 => h i k a b h1 (by omega) (by omega)
theorem SrtRB.stop {j m m1 : Nat} {ns : List α} {a b : α} (h : SrtRB R j m ns) (tr : ∀ x y z, R x y = true → R y z = true → R x z = true) (hm : m = m1 + 1) (hj : m ≤ j) (ha : ns[m1]? = some a) (hb : ns[m]? = some b) (hl : R a b = true) : SrtR R (j + 1) ns := fun i k x y h1 h2 hx hy => by
  by_cases e : k = m
  · subst e
    rw [hb] at hy
    cases hy
    by_cases e2 : i = m1
    · subst e2
      rw [ha] at hx
      cases hx
      exact hl
    · exact tr _ _ _ (h i m1 x a (by omega) (by omega) (by omega) hx ha) hl
  · exact h i k x y h1 (by omega) e hx hy
theorem set2R {ns : List α} {m m1 i : Nat} {a b x : α} (hm : m = m1 + 1) (hl : m < ns.length) (h : ((ns.set m a).set m1 b)[i]? = some x) : (i = m1 ∧ x = b) ∨ (i = m ∧ x = a) ∨ (i ≠ m1 ∧ i ≠ m ∧ ns[i]? = some x) := by
  by_cases e1 : i = m1
  · subst e1
    rw [List.getElem?_set_self (by rw [List.length_set]; omega)] at h
    cases h
    exact .inl ⟨rfl, rfl⟩
  · rw [List.getElem?_set_ne (fun e => e1 e.symm)] at h
    by_cases e2 : i = m
    · subst e2
      rw [List.getElem?_set_self hl] at h
      cases h
      exact .inr (.inl ⟨rfl, rfl⟩)
    · rw [List.getElem?_set_ne (fun e => e2 e.symm)] at h
      exact .inr (.inr ⟨e1, e2, h⟩)
theorem SrtRB.swap {j m m1 : Nat} {ns : List α} {a b : α} (h : SrtRB R j m ns) (tr : ∀ x y z, R x y = true → R y z = true → R x z = true) (tot : ∀ x y, R x y = false → R y x = true) (hm : m = m1 + 1) (hj : m ≤ j) (ha : ns[m1]? = some a) (hb : ns[m]? = some b) (hl : R a b = false) : SrtRB R j m1 ((ns.set m a).set m1 b) := fun i k x y h1 h2 h3 hx hy => by
  have hlen := (List.getElem?_eq_some_iff.1 hb).1
  rcases set2R hm hlen hx with ⟨rfl, rfl⟩ | ⟨rfl, rfl⟩ | ⟨e1, e2, hx9⟩
  · rcases set2R hm hlen hy with ⟨rfl, -⟩ | ⟨rfl, rfl⟩ | ⟨e3, e4, hy9⟩
    · omega
    · exact tot _ _ hl
    · exact h m k _ y (by omega) h2 e4 hb hy9
  · rcases set2R hm hlen hy with ⟨rfl, -⟩ | ⟨rfl, rfl⟩ | ⟨e3, e4, hy9⟩
    · omega
    · omega
    · exact h m1 k _ y (by omega) h2 e4 ha hy9
  · rcases set2R hm hlen hy with ⟨rfl, -⟩ | ⟨rfl, rfl⟩ | ⟨e3, e4, hy9⟩
    · exact absurd rfl h3
    · exact h i m1 x _ (by omega) (by omega) (by omega) hx9 ha
    · exact h i k x y h1 h2 e4 hx9 hy9
end
/-- The second one is not less. -/
def notB (a b : ByteArray) : Bool := !ltB b a
theorem notB_iff (a b : ByteArray) : notB a b = true ↔ ¬ b.data.toList < a.data.toList := by
  unfold notB
  rw [Bool.not_eq_true', ← Bool.not_eq_true, ltB_iff]
theorem notB_tr (x y z : ByteArray) (h : notB x y = true) (g : notB y z = true) : notB x z = true := by
  rw [notB_iff] at *
  exact List.not_lt.2 (List.le_trans (List.not_lt.1 h) (List.not_lt.1 g))
theorem notB_tot (x y : ByteArray) (h : notB x y = false) : notB y x = true := by
  rw [notB_iff]
  have h1 : ¬ ¬ y.data.toList < x.data.toList := fun h2 => by rw [(notB_iff x y).2 h2] at h; cases h
  exact fun h2 => h1 fun h3 => List.lt_irrefl _ (List.lt_trans h2 h3)
theorem notB_of {a b : ByteArray} (h : Op.bytesLess b.toList a.toList = true) : notB a b = false := by unfold notB ltB; rw [h]; rfl
theorem notB_is {a b : ByteArray} (h : Op.bytesLess b.toList a.toList = false) : notB a b = true := by unfold notB ltB; rw [h]; rfl
def PsPost (w : World) (t : Ty) (e : Ending) (w' : World) : Prop :=
  ∃ A l c ns, e = .returned (.slice A l c) ∧ OwnS w' w.heap.size (.slice A l c) ns ∧ (∀ x, x ∈ ns ↔ x ∈ t.pars) ∧ ns.length ≤ t.nodes ∧ SrtR notB ns.length ns ∧ ns.Nodup ∧ Below w.heap.size w w'
set_option maxHeartbeats 4000000 in
set_option maxRecDepth 100000 in
theorem ParamsS_any (t : Ty) (hnd : t.nodes ≤ 1000000) (w : World) (D : Nat → Prop) (row : Array Value) (h : TyAt w D t row) : Calls Tryz.prog 15 #[.agg row] w (PsPost w t) := by
  obtain ⟨k, s, n, A0, l0, c0, ts1, e, rfl, -⟩ := h.parts
  have HT := Lib.hid h
  clear h e
  have hb := Below.refl w.heap.size w
  go_enter Tryz.func15, Tryz.ntmps15
  go_upto_region 0 with (fail)
  apply wp_region_lit
  (with_reducible refine wl_box rfl ?_); intro W p hbn hlp hp; replace hb := hb.trans (hbn.mono hb.size); clear hbn; simp only [put_lit, List.set_cons_zero, List.set_cons_succ]
  (with_reducible refine wl_k ?_ ?_); exact rfl; intro K hK; go_simp; refine hK _ ?_; clear hK K
  have HC := Lib.hid (names_any t W W.heap.size none 0 0 [] _ (OwnS.nil _ _) (Nat.le_refl _) ((HT.out.old hb).low.weak fun _ h => h.2) (by simpa using hnd))
  go_upto_region 1 with (fail)
  apply wp_region_lit
  (first | ((with_reducible apply wl_oneG); exact rfl; exact rfl; first | exact f0 (by with_reducible assumption) | exact f1 (by with_reducible assumption) | exact f2 (by with_reducible assumption) | exact f3 (by with_reducible assumption) | with_reducible assumption | exact g22 (by with_reducible assumption) | exact g25 (by with_reducible assumption)) | ((with_reducible apply wl_rowG); exact rfl; exact rfl; first | with_reducible assumption | exact RowK.now (by with_reducible assumption) | exact f4 (by with_reducible assumption)))
  (with_reducible refine wl_ck ?_ ?_); exact rfl; intro K hK; go_simp; refine ⟨_, _, ⟨rfl, rfl⟩, hK _ _ ⟨_, HC.out, ?_⟩⟩; clear hK K; rintro e w1 ⟨A, l, c, ns0, rfl, hown, hgro, hadd, hln⟩; refine ⟨_, rfl, ?_⟩; simp only [put_lit, List.set_cons_zero, List.set_cons_succ]
  (with_reducible refine wl_k ?_ ?_); exact rfl; intro K hK; go_simp; refine hK _ ?_; clear hK K
  have hb1 := hgro.bel W.heap.size W (fun b e => by cases e) (Nat.le_refl _) (Below.refl _ _)
  have hB : w.heap.size ≤ W.heap.size := hb.size
  obtain ⟨B, hBd⟩ : ∃ B, B = W.heap.size := ⟨_, rfl⟩
  rw [← hBd] at hown hB
  replace hb := hb.trans (hb1.mono hb.size)
  have HM : Hid (∀ x, x ∈ ns0 ↔ x ∈ t.pars) := Lib.hid fun x => by rw [hadd.mem]; simp
  have HND : Hid ns0.Nodup := Lib.hid (hadd.nod List.nodup_nil)
  have HLN : Hid (ns0.length ≤ t.nodes) := Lib.hid (by simpa using hln)
  have hlen : ns0.length = l := by
    obtain ⟨A', l', c', e, htx⟩ := hown.tx
    cases e; exact htx.len
  have hcl : l ≤ c ∧ c ≤ maxLen := by
    obtain ⟨A', l', c', e, htx⟩ := hown.tx
    cases e; exact ⟨htx.cap, htx.max⟩
  obtain ⟨hcm, hmx⟩ := hcl
  unfold maxLen at hmx
  have hl6 : l ≤ 1000000 := by rw [← hlen]; simp at hln; omega
  have HO := Lib.hid hown
  clear hown hgro hadd hln hb1 hBd HC HT hp
  go_wp2_with fail
  go_loopw [4] (fun i wr => ∃ (j : Nat) (ns : List ByteArray), j ≤ l ∧ i = .int .i64 (j : Int) ∧ Hid (OwnS wr B (.slice A l c) ns) ∧ Hid (SrtR notB j ns) ∧ Hid (ns.Perm ns0) ∧ Below w.heap.size w wr) (fun i _ => l - (intOf i).toNat)
  case atStart => exact ⟨0, ns0, by omega, rfl, HO, Lib.hid (fun i k a b h1 h2 => by omega), Lib.hid (List.Perm.refl _), hb⟩
  case round =>
    clear hb HO
    obtain ⟨j, ns1, hj, rfl, HO, HSJ, HR, hb⟩ := hrel
    by_cases hlt : j < l
    · have hltI : (j : Int) < (l : Int) := by omega
      go_wp2_with fail
      go_loopw [5] (fun i wr => ∃ (m : Nat) (ns : List ByteArray), m ≤ j ∧ i = .int .i64 (m : Int) ∧ Hid (OwnS wr B (.slice A l c) ns) ∧ Hid (SrtRB notB j m ns) ∧ Hid (ns.Perm ns0) ∧ Below w.heap.size w wr) (fun i _ => (intOf i).toNat)
      case atStart => exact ⟨j, ns1, by omega, rfl, HO, Lib.hid HSJ.out.start, HR, hb⟩
      case round =>
        clear hb HO HR HSJ
        obtain ⟨m, ns, hm, rfl, HO, HSB, HR, hb⟩ := hrel
        by_cases h0 : m = 0
        · have e0 : ¬ 0 < m := by omega
          have HSZ : Hid (SrtR notB (j + 1) ns) := Lib.hid (SrtRB.zero (by rw [← h0]; exact HSB.out))
          clear h0
          go_upto_region 6 with (fail)
          refine wp_region_belowAll mixed (by kernel_rfl) ?_
          (with_reducible refine wq_k ?_ ?_); exact rfl; intro K hK; go_simp; (with_reducible refine hK _ ?_); clear hK K
          (with_reducible refine wq_k ?_ ?_); exact rfl; intro K hK; go_simp; (with_reducible refine hK _ ?_); clear hK K
          (with_reducible refine wq_k ?_ ?_); exact rfl; intro K hK; go_simp; (with_reducible refine hK _ ?_); clear hK K
          (with_reducible refine wq_skip ?_ ?_); exact rfl; simp only [List.getElem_toArray, List.getElem_cons_succ, List.getElem_cons_zero, put_lit, List.set_cons_zero, List.set_cons_succ]
          (with_reducible refine wq_skip ?_ ?_); exact rfl; simp only [List.getElem_toArray, List.getElem_cons_succ, List.getElem_cons_zero, put_lit, List.set_cons_zero, List.set_cons_succ]
          (with_reducible refine wq_skip ?_ ?_); exact rfl; simp only [List.getElem_toArray, List.getElem_cons_succ, List.getElem_cons_zero, put_lit, List.set_cons_zero, List.set_cons_succ]
          (with_reducible refine wq_skip ?_ ?_); exact rfl; simp only [List.getElem_toArray, List.getElem_cons_succ, List.getElem_cons_zero, put_lit, List.set_cons_zero, List.set_cons_succ]
          (with_reducible refine wq_skip ?_ ?_); exact rfl; simp only [List.getElem_toArray, List.getElem_cons_succ, List.getElem_cons_zero, put_lit, List.set_cons_zero, List.set_cons_succ]
          (with_reducible refine wq_skip ?_ ?_); exact rfl; simp only [List.getElem_toArray, List.getElem_cons_succ, List.getElem_cons_zero, put_lit, List.set_cons_zero, List.set_cons_succ]
          (with_reducible refine wq_skip ?_ ?_); exact rfl; simp only [List.getElem_toArray, List.getElem_cons_succ, List.getElem_cons_zero, put_lit, List.set_cons_zero, List.set_cons_succ]
          (with_reducible refine wq_skip ?_ ?_); exact rfl; simp only [List.getElem_toArray, List.getElem_cons_succ, List.getElem_cons_zero, put_lit, List.set_cons_zero, List.set_cons_succ]
          (with_reducible refine wq_skip ?_ ?_); exact rfl; simp only [List.getElem_toArray, List.getElem_cons_succ, List.getElem_cons_zero, put_lit, List.set_cons_zero, List.set_cons_succ]
          (with_reducible refine wq_skip ?_ ?_); exact rfl; simp only [List.getElem_toArray, List.getElem_cons_succ, List.getElem_cons_zero, put_lit, List.set_cons_zero, List.set_cons_succ]
          (with_reducible refine wq_k ?_ ?_); exact rfl; intro K hK; go_simp; (with_reducible refine hK _ ?_); clear hK K
          intro w7 hb7
          replace HO := Lib.hid (HO.out.old hb7)
          replace hb := hb.trans (hb7.mono hb.size)
          clear hb7
          go_wp2_with fail
          go_roundw
          case rel => exact ⟨j + 1, ns, by omega, by go_num, HO, HSZ, HR, hb⟩
          case measure => simp [intOf]; omega
        · have e0 : 0 < m := by omega
          have hnl : ns.length = l := by rw [HR.out.length_eq, hlen]
          obtain ⟨g, cur, rfl, -⟩ := HO.out.addr (by omega)
          obtain ⟨m1, hq1, hq2⟩ : ∃ m1, m1 + 1 ≤ m ∧ m ≤ m1 + 1 := ⟨m - 1, by omega, by omega⟩
          obtain ⟨a, ha⟩ : ∃ a, ns[m1]? = some a := ⟨_, List.getElem?_eq_getElem (by omega)⟩
          obtain ⟨b, hb'⟩ : ∃ b, ns[m]? = some b := ⟨_, List.getElem?_eq_getElem (by omega)⟩
          have hone1 : Hid (∀ w', Below wr.heap.size wr w' → OneAt w' 9 ⟨g, m, none⟩ (.string b)) := Lib.hid fun w' hw' => (HO.out.old hw').one hb'
          have hone2 : Hid (∀ w', Below wr.heap.size wr w' → OneAt w' 9 ⟨g, m1, none⟩ (.string a)) := Lib.hid fun w' hw' => (HO.out.old hw').one ha
          have HAB := Lib.hid (And.intro ha hb')
          have hi1 : (m : Int) - 1 = (m1 : Int) := by omega
          have hmI : (m : Int) < (l : Int) := by omega
          have hmJ : (m1 : Int) < (l : Int) := by omega
          have hwr : IntKind.i64.wrap (m1 : Int) = (m1 : Int) := IntWalk.i64_in _ (by omega)
          have hgB : w.heap.size ≤ g := by obtain ⟨g', cur', e, h3, -⟩ := HO.out.addr (by omega); cases e; omega
          have hm2 : m = m1 + 1 := by omega
          have HSS : Hid (notB a b = false → SrtRB notB j m1 ((ns.set m a).set m1 b)) := Lib.hid (fun hl => HSB.out.swap notB_tr notB_tot hm2 hm ha hb' hl)
          have HSX : Hid (notB a b = true → SrtR notB (j + 1) ns) := Lib.hid (fun hl => HSB.out.stop notB_tr hm2 hm ha hb' hl)
          have HSW : Hid (((ns.set m a).set m1 b).Perm ns0) := Lib.hid (by rw [hm2] at hb' ⊢; exact (swap_perm ha hb').trans HR.out)
          have HL2 : Hid (m1 < (ns.set m a).length ∧ m < ns.length) := Lib.hid (by rw [List.length_set]; omega)
          clear hm2
          clear h0 ha hb' hnl
          by_cases hlss : Op.bytesLess b.toList a.toList = true
          · have HSW2 := Lib.hid (HSS.out (notB_of hlss))
            go_upto_region 6 with (fail)
            refine wp_region_belowAll mixed (by kernel_rfl) ?_
            (with_reducible refine wq_k ?_ ?_); exact rfl; intro K hK; go_simp; (with_reducible refine hK _ ?_); clear hK K
            (with_reducible refine wq_k ?_ ?_); exact rfl; intro K hK; go_simp; (with_reducible refine hK _ ?_); clear hK K
            (with_reducible refine wq_k ?_ ?_); exact rfl; intro K hK; go_simp; (with_reducible refine hK _ ?_); clear hK K
            (with_reducible refine wq_k ?_ ?_); exact rfl; intro K hK; go_simp; (with_reducible refine hK _ ?_); clear hK K
            (with_reducible refine wq_k ?_ ?_); exact rfl; intro K hK; go_simp; (with_reducible refine hK _ ?_); clear hK K
            (with_reducible refine wq_k ?_ ?_); exact rfl; intro K hK; go_simp; (with_reducible refine hK _ ?_); clear hK K
            (with_reducible apply wq_one); exact rfl; exact rfl; exact hone1.out
            try simp only [put_lit, List.set_cons_zero, List.set_cons_succ]
            (with_reducible refine wq_k ?_ ?_); exact rfl; intro K hK; go_simp; (with_reducible refine hK _ ?_); clear hK K
            (with_reducible refine wq_k ?_ ?_); exact rfl; intro K hK; go_simp; (with_reducible refine hK _ ?_); clear hK K
            (with_reducible refine wq_k ?_ ?_); exact rfl; intro K hK; go_simp; (with_reducible refine hK _ ?_); clear hK K
            (with_reducible refine wq_k ?_ ?_); exact rfl; intro K hK; go_simp; (with_reducible refine hK _ ?_); clear hK K
            (with_reducible apply wq_one); exact rfl; exact rfl; exact hone2.out
            try simp only [put_lit, List.set_cons_zero, List.set_cons_succ]
            (with_reducible refine wq_k ?_ ?_); exact rfl; intro K hK; go_simp; (with_reducible refine hK _ ?_); clear hK K
            (with_reducible refine wq_k ?_ ?_); exact rfl; intro K hK; go_simp; (with_reducible refine hK _ ?_); clear hK K
            intro w7 hb7
            replace HO := Lib.hid (HO.out.old hb7)
            replace hb := hb.trans (hb7.mono hb.size)
            clear hb7 hone1 hone2
            have HOd : Hid (OwnS w7.drew B (.slice (some ⟨g, 0, none⟩) l c) ns) := Lib.hid HO.out
            have h1 := Lib.hid (HOd.out.one HAB.out.2)
            have h2 := Lib.hid (HOd.out.one HAB.out.1)
            clear HAB
            go_upto_region 8 with (fail)
            refine wp_region_held_drew (S := Below w.heap.size w) mixed hb.drew (fun hS => ?_)
            refine ha_k (i := 0) rfl (by kernel_rfl) (by kernel_rfl) (by kernel_rfl) (fun _ _ _ _ h => h) hS rfl (fun K hK => ?_); go_simp; refine hK _ ?_; clear hK K; try simp only [put_lit, List.set_cons_zero, List.set_cons_succ]
            refine ha_k (i := 1) rfl (by kernel_rfl) (by kernel_rfl) (by kernel_rfl) (fun _ _ _ _ h => h) hS rfl (fun K hK => ?_); go_simp; refine hK _ ?_; clear hK K; try simp only [put_lit, List.set_cons_zero, List.set_cons_succ]
            refine ha_k (i := 2) rfl (by kernel_rfl) (by kernel_rfl) (by kernel_rfl) (fun _ _ _ _ h => h) hS rfl (fun K hK => ?_); go_simp; refine hK _ ?_; clear hK K; try simp only [put_lit, List.set_cons_zero, List.set_cons_succ]
            refine ha_k (i := 3) rfl (by kernel_rfl) (by kernel_rfl) (by kernel_rfl) (fun _ _ _ _ h => h) hS rfl (fun K hK => ?_); go_simp; refine hK _ ?_; clear hK K; try simp only [put_lit, List.set_cons_zero, List.set_cons_succ]
            refine ha_k (i := 4) rfl (by kernel_rfl) (by kernel_rfl) (by kernel_rfl) (fun _ _ _ _ h => h) hS rfl (fun K hK => ?_); go_simp; refine hK _ ?_; clear hK K; try simp only [put_lit, List.set_cons_zero, List.set_cons_succ]
            refine ha_k (i := 5) rfl (by kernel_rfl) (by kernel_rfl) (by kernel_rfl) (fun _ _ _ _ h => h) hS rfl (fun K hK => ?_); go_simp; refine hK _ ?_; clear hK K; try simp only [put_lit, List.set_cons_zero, List.set_cons_succ]
            refine ha_k (i := 6) rfl (by kernel_rfl) (by kernel_rfl) (by kernel_rfl) (fun _ _ _ _ h => h) hS rfl (fun K hK => ?_); go_simp; refine hK _ ?_; clear hK K; try simp only [put_lit, List.set_cons_zero, List.set_cons_succ]
            refine ha_k (i := 7) rfl (by kernel_rfl) (by kernel_rfl) (by kernel_rfl) (fun _ _ _ _ h => h) hS rfl (fun K hK => ?_); go_simp; refine hK _ ?_; clear hK K; try simp only [put_lit, List.set_cons_zero, List.set_cons_succ]
            refine ha_k (i := 8) rfl (by kernel_rfl) (by kernel_rfl) (by kernel_rfl) (fun _ _ _ _ h => h) hS rfl (fun K hK => ?_); go_simp; refine hK _ ?_; clear hK K; try simp only [put_lit, List.set_cons_zero, List.set_cons_succ]
            refine ha_k (i := 10) rfl (by kernel_rfl) (by kernel_rfl) (by kernel_rfl) (fun _ _ _ _ h => h) hS rfl (fun K hK => ?_); go_simp; refine hK _ ?_; clear hK K; try simp only [put_lit, List.set_cons_zero, List.set_cons_succ]
            refine ha_k (i := 11) rfl (by kernel_rfl) (by kernel_rfl) (by kernel_rfl) (fun _ _ _ _ h => h) hS rfl (fun K hK => ?_); go_simp; refine hK _ ?_; clear hK K; try simp only [put_lit, List.set_cons_zero, List.set_cons_succ]
            refine ha_k (i := 12) rfl (by kernel_rfl) (by kernel_rfl) (by kernel_rfl) (fun _ _ _ _ h => h) hS rfl (fun K hK => ?_); go_simp; refine hK _ ?_; clear hK K; try simp only [put_lit, List.set_cons_zero, List.set_cons_succ]
            refine ha_two (i := 9) (j := 13) (by kernel_rfl) ?_ ?_
            · refine sh_val (i := 9) rfl rfl (ex_one rfl h2.out) hS ?_
              try simp only [put_lit, List.set_cons_zero, List.set_cons_succ]
              refine ha_do (i := 13) (by kernel_rfl) rfl rfl (ex_one rfl h1.out) hS ?_
              try simp only [put_lit, List.set_cons_zero, List.set_cons_succ]
              refine ha_k (i := 14) rfl (by kernel_rfl) (by kernel_rfl) (by kernel_rfl) (fun _ _ _ _ h => h) hS rfl (fun K hK => ?_); go_simp; refine hK _ ?_; clear hK K; try simp only [put_lit, List.set_cons_zero, List.set_cons_succ]
              refine ha_storeC (i := 15) (by kernel_rfl) rfl rfl 9 _ _ rfl g m (.string a) rfl rfl info9 rfl (HOd.out.lies HL2.out.2).1 (HOd.out.lies HL2.out.2).2 (hS.setCell hgB _) (fun hS => ?_)
              have HO2 := Lib.hid (HOd.out.put HL2.out.2 a)
              try simp only [put_lit, List.set_cons_zero, List.set_cons_succ]
              refine ha_k (i := 16) rfl (by kernel_rfl) (by kernel_rfl) (by kernel_rfl) (fun _ _ _ _ h => h) hS rfl (fun K hK => ?_); go_simp; refine hK _ ?_; clear hK K; try simp only [put_lit, List.set_cons_zero, List.set_cons_succ]
              refine ha_storeC (i := 17) (by kernel_rfl) rfl rfl 9 _ _ rfl g m1 (.string b) rfl rfl info9 rfl (HO2.out.lies HL2.out.1).1 (HO2.out.lies HL2.out.1).2 (hS.setCell hgB _) (fun hS => ?_)
              have HO3 := Lib.hid (HO2.out.put HL2.out.1 b)
              refine wpAnyH_done (by kernel_rfl) ?_ _
              clear HO2
              obtain ⟨X, hX⟩ : ∃ X, X = (w7.drew.setCell ⟨g, m, none⟩ (.string a)).setCell ⟨g, m1, none⟩ (.string b) := ⟨_, rfl⟩
              rw [← hX] at HO3 hS ⊢
              clear hX HOd h1 h2 HO hb
              go_wp2_with fail
              go_roundw
              case rel => exact ⟨m1, _, by omega, by go_num, HO3, HSW2, HSW, hS⟩
              case measure => simp [intOf]; omega
            · refine sh_val (i := 13) rfl rfl (ex_one rfl h1.out) hS ?_
              try simp only [put_lit, List.set_cons_zero, List.set_cons_succ]
              refine ha_do (i := 9) (by kernel_rfl) rfl rfl (ex_one rfl h2.out) hS ?_
              try simp only [put_lit, List.set_cons_zero, List.set_cons_succ]
              refine ha_k (i := 14) rfl (by kernel_rfl) (by kernel_rfl) (by kernel_rfl) (fun _ _ _ _ h => h) hS rfl (fun K hK => ?_); go_simp; refine hK _ ?_; clear hK K; try simp only [put_lit, List.set_cons_zero, List.set_cons_succ]
              refine ha_storeC (i := 15) (by kernel_rfl) rfl rfl 9 _ _ rfl g m (.string a) rfl rfl info9 rfl (HOd.out.lies HL2.out.2).1 (HOd.out.lies HL2.out.2).2 (hS.setCell hgB _) (fun hS => ?_)
              have HO2 := Lib.hid (HOd.out.put HL2.out.2 a)
              try simp only [put_lit, List.set_cons_zero, List.set_cons_succ]
              refine ha_k (i := 16) rfl (by kernel_rfl) (by kernel_rfl) (by kernel_rfl) (fun _ _ _ _ h => h) hS rfl (fun K hK => ?_); go_simp; refine hK _ ?_; clear hK K; try simp only [put_lit, List.set_cons_zero, List.set_cons_succ]
              refine ha_storeC (i := 17) (by kernel_rfl) rfl rfl 9 _ _ rfl g m1 (.string b) rfl rfl info9 rfl (HO2.out.lies HL2.out.1).1 (HO2.out.lies HL2.out.1).2 (hS.setCell hgB _) (fun hS => ?_)
              have HO3 := Lib.hid (HO2.out.put HL2.out.1 b)
              refine wpAnyH_done (by kernel_rfl) ?_ _
              clear HO2
              obtain ⟨X, hX⟩ : ∃ X, X = (w7.drew.setCell ⟨g, m, none⟩ (.string a)).setCell ⟨g, m1, none⟩ (.string b) := ⟨_, rfl⟩
              rw [← hX] at HO3 hS ⊢
              clear hX HOd h1 h2 HO hb
              go_wp2_with fail
              go_roundw
              case rel => exact ⟨m1, _, by omega, by go_num, HO3, HSW2, HSW, hS⟩
              case measure => simp [intOf]; omega
          · replace hlss : Op.bytesLess b.toList a.toList = false := by simpa using hlss
            have HST := Lib.hid (HSX.out (notB_is hlss))
            go_upto_region 6 with (fail)
            refine wp_region_belowAll mixed (by kernel_rfl) ?_
            (with_reducible refine wq_k ?_ ?_); exact rfl; intro K hK; go_simp; (with_reducible refine hK _ ?_); clear hK K
            (with_reducible refine wq_k ?_ ?_); exact rfl; intro K hK; go_simp; (with_reducible refine hK _ ?_); clear hK K
            (with_reducible refine wq_k ?_ ?_); exact rfl; intro K hK; go_simp; (with_reducible refine hK _ ?_); clear hK K
            (with_reducible refine wq_k ?_ ?_); exact rfl; intro K hK; go_simp; (with_reducible refine hK _ ?_); clear hK K
            (with_reducible refine wq_k ?_ ?_); exact rfl; intro K hK; go_simp; (with_reducible refine hK _ ?_); clear hK K
            (with_reducible refine wq_k ?_ ?_); exact rfl; intro K hK; go_simp; (with_reducible refine hK _ ?_); clear hK K
            (with_reducible apply wq_one); exact rfl; exact rfl; exact hone1.out
            try simp only [put_lit, List.set_cons_zero, List.set_cons_succ]
            (with_reducible refine wq_k ?_ ?_); exact rfl; intro K hK; go_simp; (with_reducible refine hK _ ?_); clear hK K
            (with_reducible refine wq_k ?_ ?_); exact rfl; intro K hK; go_simp; (with_reducible refine hK _ ?_); clear hK K
            (with_reducible refine wq_k ?_ ?_); exact rfl; intro K hK; go_simp; (with_reducible refine hK _ ?_); clear hK K
            (with_reducible refine wq_k ?_ ?_); exact rfl; intro K hK; go_simp; (with_reducible refine hK _ ?_); clear hK K
            (with_reducible apply wq_one); exact rfl; exact rfl; exact hone2.out
            try simp only [put_lit, List.set_cons_zero, List.set_cons_succ]
            (with_reducible refine wq_k ?_ ?_); exact rfl; intro K hK; go_simp; (with_reducible refine hK _ ?_); clear hK K
            (with_reducible refine wq_k ?_ ?_); exact rfl; intro K hK; go_simp; (with_reducible refine hK _ ?_); clear hK K
            intro w7 hb7
            replace HO := Lib.hid (HO.out.old hb7)
            replace hb := hb.trans (hb7.mono hb.size)
            clear hb7 hone1 hone2 HAB
            go_wp2_with fail
            go_roundw
            case rel => exact ⟨j + 1, ns, by omega, by go_num, HO, HST, HR, hb⟩
            case measure => simp [intOf]; omega
    · have hltI : ¬ (j : Int) < (l : Int) := by omega
      have HF : Hid (PsPost w t (.returned (.slice A l c)) wr) := Lib.hid (by
        refine ⟨_, _, _, ns1, rfl, ?_, fun x => by rw [HR.out.mem_iff]; exact HM.out x, by rw [HR.out.length_eq]; exact HLN.out, by have := HSJ.out; rw [HR.out.length_eq, hlen]; intro i k a b h1 h2; exact this i k a b h1 (by omega), HR.out.nodup_iff.2 HND.out, hb⟩
        have h1 := HO.out
        refine ⟨h1.1, h1.2.imp id ?_⟩
        rintro ⟨g, cap, cur, h2, h3, h4⟩
        exact ⟨g, cap, cur, h2, by omega, h4⟩)
      clear HO HR hb
      go_wp2_with fail
      go_ret
      exact HF.out
end Go.Proofs.YtokmaehefenpmaaGreatDoor
namespace Go.Proofs.YtokmaehefenpmaaGreatDoor
section
variable {α : Type} [Inhabited α] [DecidableEq α]
theorem compact_rise {le lt : α → α → Prop} (hlt : ∀ a b, le a b → a ≠ b → lt a b) (hle : ∀ a b c, le a b → lt b c → lt a c) (hrefl : ∀ a, le a a) {zs : List α} (h : zs.Pairwise le) : (Lib.compact zs).Pairwise lt := by
  unfold Lib.compact Lib.compactUpTo
  rw [List.pairwise_map]
  have hr : (List.range zs.toArray.size).Pairwise (fun i j => i < j) := List.pairwise_lt_range
  have key : ∀ i j, i < j → j < zs.length → Lib.keeps zs.toArray j = true → lt (zs.toArray[i]!) (zs.toArray[j]!) := by
    intro i j hij hj hk
    rw [getElem!_pos zs.toArray i (by simpa using (by omega : i < zs.length)), getElem!_pos zs.toArray j (by simpa using hj)]
    have hj1 : j - 1 < zs.length := by omega
    have hne : zs[j] ≠ zs[j - 1] := by
      unfold Lib.keeps at hk
      have h0 : j ≠ 0 := by omega
      rw [getElem!_pos zs.toArray j (by simpa using hj), getElem!_pos zs.toArray (j - 1) (by simpa using hj1)] at hk
      simpa [h0] using hk
    have h1 : le zs[j - 1] zs[j] := List.pairwise_iff_getElem.1 h (j - 1) j hj1 hj (by omega)
    have h2 : lt zs[j - 1] zs[j] := hlt _ _ h1 fun e => hne e.symm
    have h3 : le zs[i] zs[j - 1] := by
      rcases Nat.lt_or_ge i (j - 1) with h4 | h4
      · exact List.pairwise_iff_getElem.1 h i (j - 1) (by omega) hj1 h4
      · have : i = j - 1 := by omega
        subst this
        exact hrefl _
    simpa using hle _ _ _ h3 h2
  have hall : ∀ x, x ∈ (List.range zs.toArray.size).filter (Lib.keeps zs.toArray) → x < zs.length ∧ Lib.keeps zs.toArray x = true := fun x hx => by
    rw [List.mem_filter, List.mem_range] at hx
    exact ⟨by simpa using hx.1, hx.2⟩
  refine List.Pairwise.imp_of_mem ?_ (List.Pairwise.filter _ hr)
  intro i j hi hj hij
  exact key i j hij (hall j hj).1 (hall j hj).2
end
theorem distinctI_rise (l : List Int) : (distinctI l).Pairwise (fun a b => a < b) := by
  unfold distinctI sortedI
  refine compact_rise (le := fun a b => a ≤ b) (fun a b h1 h2 => by omega) (fun a b c h1 h2 => by omega) (fun a => Int.le_refl a) ?_
  have := List.pairwise_mergeSort (le := fun x y : Int => decide (x ≤ y)) (fun a b c h1 h2 => by simp at *; omega) (fun a b => by simp; omega) l
  exact this.imp fun h => by simpa using h
theorem le_bytes_refl (a : List UInt8) : a ≤ a := List.not_lt.1 (List.lt_irrefl a)
theorem le_bytes_total (a b : List UInt8) : a ≤ b ∨ b ≤ a := by
  by_cases h : b < a
  · exact .inr (List.not_lt.1 fun h2 => List.lt_irrefl _ (List.lt_trans h h2))
  · exact .inl (List.not_lt.1 h)
theorem cons_cmp {a b : List UInt8} (h1 : ¬ a < b) (h2 : ¬ b < a) : a = b := by
  have hf := (cB_fine ⟨a.toArray⟩).eq ⟨b.toArray⟩
  have : cB ⟨a.toArray⟩ ⟨b.toArray⟩ = .eq := by unfold cB; simp [h1, h2]
  have := hf.1 this
  simpa using congrArg (fun x : ByteArray => x.data.toList) this
theorem distinctL_rise (l : List ByteArray) : (distinctL l).Pairwise (fun a b => a.data.toList < b.data.toList) := by
  unfold distinctL
  rw [List.pairwise_map]
  have h : (sortedL l).Pairwise (fun a b => a ≤ b) := by
    unfold sortedL
    have := List.pairwise_mergeSort (le := fun x y : List UInt8 => decide (x ≤ y)) (fun a b c h1 h2 => by simp only [decide_eq_true_eq] at *; exact List.le_trans h1 h2) (fun a b => by simp only [Bool.or_eq_true, decide_eq_true_eq]; exact le_bytes_total a b) (l.map bytesL)
    exact this.imp fun h => by simpa using h
  have := compact_rise (le := fun a b : List UInt8 => a ≤ b) (lt := fun a b => a < b) (fun a b h1 h2 => by
    by_cases h3 : a < b
    · exact h3
    · exact absurd (cons_cmp h3 (List.not_lt.2 h1)) h2) (fun a b c h1 h2 => by
    by_cases h3 : a < c
    · exact h3
    · exact absurd (List.le_trans (List.not_lt.1 h3) h1) (List.not_le.2 h2)) le_bytes_refl h
  exact this.imp fun h => by simpa using h
section
variable {α : Type} [Inhabited α] [DecidableEq α]
theorem mem_compactG {zs : List α} {x : α} : x ∈ Lib.compact zs ↔ x ∈ zs := by
  unfold Lib.compact Lib.compactUpTo
  simp only [List.mem_map, List.mem_filter, List.mem_range]
  constructor
  · rintro ⟨j, ⟨hj, -⟩, rfl⟩
    have : j < zs.toArray.size := by simpa using hj
    rw [getElem!_pos zs.toArray j this]
    simp
  · intro hx
    obtain ⟨j, hj⟩ := List.mem_iff_getElem?.1 hx
    have hjl := (List.getElem?_eq_some_iff.1 hj).1
    have key : ∀ j, j < zs.length → ∃ i, i < zs.length ∧ Lib.keeps zs.toArray i = true ∧ zs.toArray[i]! = zs.toArray[j]! := by
      intro j
      induction j with
      | zero => intro h; exact ⟨0, h, by simp [Lib.keeps], rfl⟩
      | succ j ih =>
        intro h
        cases hk : Lib.keeps zs.toArray (j + 1) with
        | true => exact ⟨j + 1, h, hk, rfl⟩
        | false =>
          obtain ⟨i, h1, h2, h3⟩ := ih (by omega)
          refine ⟨i, h1, h2, ?_⟩
          simp [Lib.keeps] at hk
          rw [h3]
          simp [hk]
    obtain ⟨i, h1, h2, h3⟩ := key j hjl
    refine ⟨i, ⟨by simpa using h1, h2⟩, ?_⟩
    rw [h3]
    have : j < zs.toArray.size := by simpa using hjl
    rw [getElem!_pos zs.toArray j this]
    simpa using (List.getElem?_eq_some_iff.1 hj).2
end
theorem mem_distinctL {l : List ByteArray} {x : ByteArray} : x ∈ distinctL l ↔ x ∈ l := by
  unfold distinctL sortedL
  rw [List.mem_map]
  constructor
  · rintro ⟨z, hz, rfl⟩
    rw [mem_compactG, List.mem_mergeSort, List.mem_map] at hz
    obtain ⟨y, hy, rfl⟩ := hz
    exact hy
  · intro hx
    exact ⟨bytesL x, by rw [mem_compactG, List.mem_mergeSort]; exact List.mem_map_of_mem hx, rfl⟩
theorem visit_pars : ∀ (t : Ty) (ns : List ByteArray), visit stepP t ns = (true, ns ++ t.pars) := Ty.ind fun k s n l ih ns => by
  have hl : ∀ (l : List Ty), (∀ t, t ∈ l → ∀ ns, visit stepP t ns = (true, ns ++ t.pars)) → ∀ ns, visits stepP l ns = (true, ns ++ parsL l) := by
    intro l
    induction l with
    | nil => intro _ ns; simp [visits, parsL]
    | cons t l ihl =>
      intro h ns
      simp only [visits, parsL]
      rw [h t (by simp) ns]
      simp only
      rw [ihl (fun t ht => h t (by simp [ht])), List.append_assoc]
  have hs : stepP (.node k s n l) ns = (true, if k = 7 then ns ++ [s] else ns) := rfl
  simp only [visit]
  rw [hs]
  simp only
  rw [hl l ih, Ty.pars]
  by_cases h : k = 7 <;> simp [h]
theorem visit_nums : ∀ (t : Ty) (ns : List Int), visit stepV t ns = (true, ns ++ t.nums) := Ty.ind fun k s n l ih ns => by
  have hl : ∀ (l : List Ty), (∀ t, t ∈ l → ∀ ns, visit stepV t ns = (true, ns ++ t.nums)) → ∀ ns, visits stepV l ns = (true, ns ++ numsL l) := by
    intro l
    induction l with
    | nil => intro _ ns; simp [visits, numsL]
    | cons t l ihl =>
      intro h ns
      simp only [visits, numsL]
      rw [h t (by simp) ns]
      simp only
      rw [ihl (fun t ht => h t (by simp [ht])), List.append_assoc]
  have hs : stepV (.node k s n l) ns = (true, if k = 12 then ns ++ [n] else ns) := rfl
  simp only [visit]
  rw [hs]
  simp only
  rw [hl l ih, Ty.nums]
  by_cases h : k = 12 <;> simp [h]
theorem namesOf_pars (t : Ty) : namesOf t = t.pars := by unfold namesOf; rw [visit_pars]; rfl
theorem varsOf_nums (t : Ty) : varsOf t = t.nums := by unfold varsOf; rw [visit_nums]; rfl
/-- The two lists of numbers are one. -/
theorem nums_one {t : Ty} {ns : List Int} (hm : ∀ x, x ∈ ns ↔ x ∈ t.nums) (hs : Srt ns.length ns) (hn : ns.Nodup) : ns = distinctI (varsOf t) := by
  refine rising_same (R := fun a b : Int => a < b) (fun x => Int.lt_irrefl x) (fun x y z h1 h2 => Int.lt_trans h1 h2) ?_ (distinctI_rise _) fun x => by rw [hm, mem_distinctI, varsOf_nums]
  rw [List.pairwise_iff_getElem]
  intro i j hi hj hij
  have h1 := hs i j _ _ hij hj (List.getElem?_eq_getElem hi) (List.getElem?_eq_getElem hj)
  have h2 : ns[i] ≠ ns[j] := fun e => by
    have := (List.getElem_inj hn).1 e
    omega
  omega
/-- The two lists of names are one. -/
theorem pars_one {t : Ty} {ns : List ByteArray} (hm : ∀ x, x ∈ ns ↔ x ∈ t.pars) (hs : SrtR notB ns.length ns) (hn : ns.Nodup) : ns = distinctL (namesOf t) := by
  refine rising_same (R := fun a b : ByteArray => a.data.toList < b.data.toList) (fun x => List.lt_irrefl _) (fun x y z h1 h2 => List.lt_trans h1 h2) ?_ (distinctL_rise _) fun x => by rw [hm, mem_distinctL, namesOf_pars]
  rw [List.pairwise_iff_getElem]
  intro i j hi hj hij
  have h1 := (notB_iff _ _).1 (hs i j _ _ hij hj (List.getElem?_eq_getElem hi) (List.getElem?_eq_getElem hj))
  have h2 : ns[i] ≠ ns[j] := fun e => by
    have := (List.getElem_inj hn).1 e
    omega
  by_cases h3 : ns[i].data.toList < ns[j].data.toList
  · exact h3
  · exfalso
    have h4 := cons_cmp h3 h1
    refine h2 ?_
    cases h5 : ns[i] with | mk d => cases h6 : ns[j] with | mk d' =>
    rw [h5, h6] at h4
    congr 1
    exact Array.toList_inj.1 h4
end Go.Proofs.YtokmaehefenpmaaGreatDoor
namespace Go.Proofs.YtokmaehefenpmaaGreatDoor
open Go.RowKit Go.Proofs.YtokmaehefenpmaaGreatDoor.Nm
set_option linter.unusedSimpArgs false
set_option maxHeartbeats 4000000 in
set_option maxRecDepth 100000 in
theorem shaped_int (op : Bool) (w : World) (D : Nat → Prop) (row : Array Value) (h : TyAt w D (.node 1 ⟨#[]⟩ 0 []) row) :
    Calls Tryz.prog 34 #[.agg row, .bool op] w fun e w' => e = .returned (.bool true) ∧ Below w.heap.size w w' := by
  obtain ⟨k, s, n, A, l, c, ts, he, rfl, -, -, -, hT⟩ := h.parts
  cases he
  have hl : l = 0 := by have := hT.len; simp at this; omega
  subst hl
  clear h hT
  have hb := Below.refl w.heap.size w
  go_enter Tryz.func34, Tryz.ntmps34
  go_upto_region 0 with (fail)
  apply wp_region_lit
  (with_reducible refine wl_box rfl ?_); intro W p hbn hlp hp; replace hb := hb.trans (hbn.mono hb.size); clear hbn; simp only [put_lit, List.set_cons_zero, List.set_cons_succ]
  (with_reducible refine wl_k ?_ ?_); exact rfl; intro K hK; go_simp; refine hK _ ?_; clear hK K
  go_upto_region 1 with (fail)
  apply wp_region_lit
  (with_reducible refine wl_k ?_ ?_); exact rfl; intro K hK; go_simp; refine hK _ ?_; clear hK K
  (first | ((with_reducible apply wl_oneG); exact rfl; exact rfl; first | exact f0 (by with_reducible assumption) | exact f1 (by with_reducible assumption) | exact f2 (by with_reducible assumption) | exact f3 (by with_reducible assumption) | with_reducible assumption | exact g22 (by with_reducible assumption) | exact g25 (by with_reducible assumption)) | ((with_reducible apply wl_rowG); exact rfl; exact rfl; first | with_reducible assumption | exact RowK.now (by with_reducible assumption) | exact f4 (by with_reducible assumption)))
  (with_reducible refine wl_k ?_ ?_); exact rfl; intro K hK; go_simp; refine hK _ ?_; clear hK K
  (with_reducible refine wl_k ?_ ?_); exact rfl; intro K hK; go_simp; refine hK _ ?_; clear hK K
  go_upto_region 2 with (fail)
  apply wp_region_lit
  (with_reducible refine wl_k ?_ ?_); exact rfl; intro K hK; go_simp; refine hK _ ?_; clear hK K
  (first | ((with_reducible apply wl_oneG); exact rfl; exact rfl; first | exact f0 (by with_reducible assumption) | exact f1 (by with_reducible assumption) | exact f2 (by with_reducible assumption) | exact f3 (by with_reducible assumption) | with_reducible assumption | exact g22 (by with_reducible assumption) | exact g25 (by with_reducible assumption)) | ((with_reducible apply wl_rowG); exact rfl; exact rfl; first | with_reducible assumption | exact RowK.now (by with_reducible assumption) | exact f4 (by with_reducible assumption)))
  (with_reducible refine wl_k ?_ ?_); exact rfl; intro K hK; go_simp; refine hK _ ?_; clear hK K
  go_upto_region 4 with (fail)
  apply wp_region_lit
  (with_reducible refine wl_k ?_ ?_); exact rfl; intro K hK; go_simp; refine hK _ ?_; clear hK K
  (first | ((with_reducible apply wl_oneG); exact rfl; exact rfl; first | exact f0 (by with_reducible assumption) | exact f1 (by with_reducible assumption) | exact f2 (by with_reducible assumption) | exact f3 (by with_reducible assumption) | with_reducible assumption | exact g22 (by with_reducible assumption) | exact g25 (by with_reducible assumption)) | ((with_reducible apply wl_rowG); exact rfl; exact rfl; first | with_reducible assumption | exact RowK.now (by with_reducible assumption) | exact f4 (by with_reducible assumption)))
  (with_reducible refine wl_k ?_ ?_); exact rfl; intro K hK; go_simp; refine hK _ ?_; clear hK K
  go_upto_region 6 with (fail)
  apply wp_region_lit
  (with_reducible refine wl_k ?_ ?_); exact rfl; intro K hK; go_simp; refine hK _ ?_; clear hK K
  (first | ((with_reducible apply wl_oneG); exact rfl; exact rfl; first | exact f0 (by with_reducible assumption) | exact f1 (by with_reducible assumption) | exact f2 (by with_reducible assumption) | exact f3 (by with_reducible assumption) | with_reducible assumption | exact g22 (by with_reducible assumption) | exact g25 (by with_reducible assumption)) | ((with_reducible apply wl_rowG); exact rfl; exact rfl; first | with_reducible assumption | exact RowK.now (by with_reducible assumption) | exact f4 (by with_reducible assumption)))
  go_upto_region 7 with (fail)
  apply wp_region_lit
  (with_reducible refine wl_k ?_ ?_); exact rfl; intro K hK; go_simp; refine hK _ ?_; clear hK K
  (with_reducible refine wl_k ?_ ?_); exact rfl; intro K hK; go_simp; refine hK _ ?_; clear hK K
  go_upto_region 11 with (fail)
  apply wp_region_lit
  (with_reducible refine wl_k ?_ ?_); exact rfl; intro K hK; go_simp; refine hK _ ?_; clear hK K
  (with_reducible refine wl_k ?_ ?_); exact rfl; intro K hK; go_simp; refine hK _ ?_; clear hK K
  (with_reducible refine wl_k ?_ ?_); exact rfl; intro K hK; go_simp; refine hK _ ?_; clear hK K
  (with_reducible refine wl_k ?_ ?_); exact rfl; intro K hK; go_simp; refine hK _ ?_; clear hK K
  (first | ((with_reducible apply wl_oneG); exact rfl; exact rfl; first | exact f0 (by with_reducible assumption) | exact f1 (by with_reducible assumption) | exact f2 (by with_reducible assumption) | exact f3 (by with_reducible assumption) | with_reducible assumption | exact g22 (by with_reducible assumption) | exact g25 (by with_reducible assumption)) | ((with_reducible apply wl_rowG); exact rfl; exact rfl; first | with_reducible assumption | exact RowK.now (by with_reducible assumption) | exact f4 (by with_reducible assumption)))
  (with_reducible refine wl_k ?_ ?_); exact rfl; intro K hK; go_simp; refine hK _ ?_; clear hK K
  (with_reducible refine wl_k ?_ ?_); exact rfl; intro K hK; go_simp; refine hK _ ?_; clear hK K
  (with_reducible refine wl_k ?_ ?_); exact rfl; intro K hK; go_simp; refine hK _ ?_; clear hK K
  clear hp
  go_wp2_with fail
  go_ret
  exact ⟨rfl, hb⟩
set_option maxHeartbeats 4000000 in
set_option maxRecDepth 100000 in
theorem shaped_arr (op : Bool) (t : Ty) (w : World) (D : Nat → Prop) (row : Array Value) (h : TyAt w D (.node 5 ⟨#[]⟩ 0 [t]) row) :
    Calls Tryz.prog 34 #[.agg row, .bool op] w fun e w' => e = .returned (.bool true) ∧ Below w.heap.size w w' := by
  obtain ⟨k, s, n, A, l, c, ts, he, rfl, -, -, -, hT⟩ := h.parts
  cases he
  have hl : l = 1 := by have := hT.len; simp at this; omega
  subst hl
  clear h hT
  have hb := Below.refl w.heap.size w
  go_enter Tryz.func34, Tryz.ntmps34
  go_upto_region 0 with (fail)
  apply wp_region_lit
  (with_reducible refine wl_box rfl ?_); intro W p hbn hlp hp; replace hb := hb.trans (hbn.mono hb.size); clear hbn; simp only [put_lit, List.set_cons_zero, List.set_cons_succ]
  (with_reducible refine wl_k ?_ ?_); exact rfl; intro K hK; go_simp; refine hK _ ?_; clear hK K
  go_upto_region 1 with (fail)
  apply wp_region_lit
  (with_reducible refine wl_k ?_ ?_); exact rfl; intro K hK; go_simp; refine hK _ ?_; clear hK K
  (first | ((with_reducible apply wl_oneG); exact rfl; exact rfl; first | exact f0 (by with_reducible assumption) | exact f1 (by with_reducible assumption) | exact f2 (by with_reducible assumption) | exact f3 (by with_reducible assumption) | with_reducible assumption | exact g22 (by with_reducible assumption) | exact g25 (by with_reducible assumption)) | ((with_reducible apply wl_rowG); exact rfl; exact rfl; first | with_reducible assumption | exact RowK.now (by with_reducible assumption) | exact f4 (by with_reducible assumption)))
  (with_reducible refine wl_k ?_ ?_); exact rfl; intro K hK; go_simp; refine hK _ ?_; clear hK K
  (with_reducible refine wl_k ?_ ?_); exact rfl; intro K hK; go_simp; refine hK _ ?_; clear hK K
  go_upto_region 2 with (fail)
  apply wp_region_lit
  (with_reducible refine wl_k ?_ ?_); exact rfl; intro K hK; go_simp; refine hK _ ?_; clear hK K
  (first | ((with_reducible apply wl_oneG); exact rfl; exact rfl; first | exact f0 (by with_reducible assumption) | exact f1 (by with_reducible assumption) | exact f2 (by with_reducible assumption) | exact f3 (by with_reducible assumption) | with_reducible assumption | exact g22 (by with_reducible assumption) | exact g25 (by with_reducible assumption)) | ((with_reducible apply wl_rowG); exact rfl; exact rfl; first | with_reducible assumption | exact RowK.now (by with_reducible assumption) | exact f4 (by with_reducible assumption)))
  (with_reducible refine wl_k ?_ ?_); exact rfl; intro K hK; go_simp; refine hK _ ?_; clear hK K
  go_upto_region 4 with (fail)
  apply wp_region_lit
  (with_reducible refine wl_k ?_ ?_); exact rfl; intro K hK; go_simp; refine hK _ ?_; clear hK K
  (first | ((with_reducible apply wl_oneG); exact rfl; exact rfl; first | exact f0 (by with_reducible assumption) | exact f1 (by with_reducible assumption) | exact f2 (by with_reducible assumption) | exact f3 (by with_reducible assumption) | with_reducible assumption | exact g22 (by with_reducible assumption) | exact g25 (by with_reducible assumption)) | ((with_reducible apply wl_rowG); exact rfl; exact rfl; first | with_reducible assumption | exact RowK.now (by with_reducible assumption) | exact f4 (by with_reducible assumption)))
  (with_reducible refine wl_k ?_ ?_); exact rfl; intro K hK; go_simp; refine hK _ ?_; clear hK K
  go_upto_region 6 with (fail)
  apply wp_region_lit
  (with_reducible refine wl_k ?_ ?_); exact rfl; intro K hK; go_simp; refine hK _ ?_; clear hK K
  (first | ((with_reducible apply wl_oneG); exact rfl; exact rfl; first | exact f0 (by with_reducible assumption) | exact f1 (by with_reducible assumption) | exact f2 (by with_reducible assumption) | exact f3 (by with_reducible assumption) | with_reducible assumption | exact g22 (by with_reducible assumption) | exact g25 (by with_reducible assumption)) | ((with_reducible apply wl_rowG); exact rfl; exact rfl; first | with_reducible assumption | exact RowK.now (by with_reducible assumption) | exact f4 (by with_reducible assumption)))
  go_upto_region 7 with (fail)
  apply wp_region_lit
  (with_reducible refine wl_k ?_ ?_); exact rfl; intro K hK; go_simp; refine hK _ ?_; clear hK K
  (with_reducible refine wl_k ?_ ?_); exact rfl; intro K hK; go_simp; refine hK _ ?_; clear hK K
  go_upto_region 8 with (fail)
  apply wp_region_lit
  (with_reducible refine wl_k ?_ ?_); exact rfl; intro K hK; go_simp; refine hK _ ?_; clear hK K
  (with_reducible refine wl_k ?_ ?_); exact rfl; intro K hK; go_simp; refine hK _ ?_; clear hK K
  go_upto_region 9 with (fail)
  apply wp_region_lit
  (with_reducible refine wl_k ?_ ?_); exact rfl; intro K hK; go_simp; refine hK _ ?_; clear hK K
  (with_reducible refine wl_k ?_ ?_); exact rfl; intro K hK; go_simp; refine hK _ ?_; clear hK K
  go_upto_region 10 with (fail)
  apply wp_region_lit
  (with_reducible refine wl_k ?_ ?_); exact rfl; intro K hK; go_simp; refine hK _ ?_; clear hK K
  (with_reducible refine wl_k ?_ ?_); exact rfl; intro K hK; go_simp; refine hK _ ?_; clear hK K
  go_upto_region 12 with (fail)
  apply wp_region_lit
  (with_reducible refine wl_k ?_ ?_); exact rfl; intro K hK; go_simp; refine hK _ ?_; clear hK K
  (with_reducible refine wl_k ?_ ?_); exact rfl; intro K hK; go_simp; refine hK _ ?_; clear hK K
  go_upto_region 14 with (fail)
  apply wp_region_lit
  (with_reducible refine wl_k ?_ ?_); exact rfl; intro K hK; go_simp; refine hK _ ?_; clear hK K
  (with_reducible refine wl_k ?_ ?_); exact rfl; intro K hK; go_simp; refine hK _ ?_; clear hK K
  (with_reducible refine wl_k ?_ ?_); exact rfl; intro K hK; go_simp; refine hK _ ?_; clear hK K
  (with_reducible refine wl_k ?_ ?_); exact rfl; intro K hK; go_simp; refine hK _ ?_; clear hK K
  (first | ((with_reducible apply wl_oneG); exact rfl; exact rfl; first | exact f0 (by with_reducible assumption) | exact f1 (by with_reducible assumption) | exact f2 (by with_reducible assumption) | exact f3 (by with_reducible assumption) | with_reducible assumption | exact g22 (by with_reducible assumption) | exact g25 (by with_reducible assumption)) | ((with_reducible apply wl_rowG); exact rfl; exact rfl; first | with_reducible assumption | exact RowK.now (by with_reducible assumption) | exact f4 (by with_reducible assumption)))
  (with_reducible refine wl_k ?_ ?_); exact rfl; intro K hK; go_simp; refine hK _ ?_; clear hK K
  (with_reducible refine wl_k ?_ ?_); exact rfl; intro K hK; go_simp; refine hK _ ?_; clear hK K
  (with_reducible refine wl_k ?_ ?_); exact rfl; intro K hK; go_simp; refine hK _ ?_; clear hK K
  clear hp
  go_wp2_with fail
  go_ret
  exact ⟨rfl, hb⟩
def intTy : Ty := .node 1 ⟨#[]⟩ 0 []
def arrTy : Ty := .node 5 ⟨#[]⟩ 0 [intTy]
def Two (t : Ty) : Prop := t = intTy ∨ t = arrTy
theorem two_sub : ∀ k s n l, Two (.node k s n l) → ∀ u, u ∈ l → Two u := fun k s n l h u hu => by
  rcases h with h | h
  · cases h; cases hu
  · cases h; simp at hu; exact Or.inl hu
theorem two_sh (op : Bool) (t : Ty) (h : Two t) : ShC op (fun _ => true) t := fun w D row ht => by
  rcases h with rfl | rfl
  · exact shaped_int op w D row ht
  · exact shaped_arr op intTy w D row ht
end Go.Proofs.YtokmaehefenpmaaGreatDoor
namespace Go.Proofs.YtokmaehefenpmaaGreatDoor
open Go.RowKit Go.Proofs.YtokmaehefenpmaaGreatDoor.Nm
set_option linter.unusedSimpArgs false
/-- The operations of a region, by its number. -/
def regionOf (n : Nat) : Code → Option (Array Oper)
  | .region id ops _ => if id = n then some ops else none
  | .seq a b => match regionOf n a with | some x => some x | none => regionOf n b
  | .cond _ a b => match regionOf n a with | some x => some x | none => regionOf n b
  | .block _ a => regionOf n a
  | .loop a => regionOf n a
  | .scope a => regionOf n a
  | _ => none
noncomputable def opsW : Array Oper := (Tryz.f42.body.bind (regionOf 1)).getD #[]
def eL : List Nat := [1, 2, 3, 4, 5, 6, 9, 13, 17, 20, 21, 22]
def qL (p : Nat → Bool) (i : Nat) : Bool := if i ∈ eL then p i else decide (i < 23)
def listedOf (p : Nat → Bool) : Array Bool := ((List.range 25).map (qL p)).toArray
def upd (p : Nat → Bool) (i : Nat) : Nat → Bool := fun j => j == i || p j
def cnt (p : Nat → Bool) : Nat := (eL.filter fun i => !p i).length
theorem listedOf_size (p : Nat → Bool) : (listedOf p).size = 25 := by simp [listedOf]
theorem listedOf_get (p : Nat → Bool) {i : Nat} (hi : i < 25) : (listedOf p)[i]? = some (qL p i) := by simp [listedOf, hi]
theorem listedOf_getD (p : Nat → Bool) {i : Nat} (hi : i < 25) (d : Bool) : (listedOf p).getD i d = qL p i := by
  simp [listedOf_get p hi]
theorem listedOf_past (p : Nat → Bool) {i : Nat} (hi : 25 ≤ i) (d : Bool) : (listedOf p).getD i d = d := by
  simp [Array.getElem?_eq_none (show (listedOf p).size ≤ i by rw [listedOf_size]; exact hi)]
theorem listedOf_upd (p : Nat → Bool) {i : Nat} (hi : i ∈ eL) : (listedOf p).setIfInBounds i true = listedOf (upd p i) := by
  apply Array.ext_getElem?
  intro j
  rw [Array.getElem?_setIfInBounds, listedOf_size]
  by_cases hj : j < 25
  · rw [listedOf_get p hj, listedOf_get _ hj]
    by_cases e : i = j
    · subst e; simp [hj, qL, hi, upd]
    · have : (j == i) = false := by simp; exact fun h => e h.symm
      simp [e, qL, upd, this]
  · rw [Array.getElem?_eq_none (by rw [listedOf_size]; omega), Array.getElem?_eq_none (by rw [listedOf_size]; omega)]
    split
    · split
      · omega
      · rfl
    · rfl
theorem cnt_list {i : Nat} {p : Nat → Bool} (hp : p i = false) : ∀ {l : List Nat}, l.Nodup → i ∈ l → (l.filter fun j => !upd p i j).length + 1 = (l.filter fun j => !p j).length
  | [], _, h => by cases h
  | a :: l, hn, h => by
    rw [List.nodup_cons] at hn
    rcases List.mem_cons.1 h with rfl | h
    · have : (l.filter fun j => !upd p i j) = l.filter fun j => !p j := List.filter_congr fun j hj => by
        have : (j == i) = false := by simp; exact fun e => hn.1 (e ▸ hj)
        simp [upd, this]
      simp only [List.filter_cons, upd, hp, beq_self_eq_true, Bool.true_or, Bool.not_true, Bool.not_false, if_true, List.length_cons]
      rw [← this]; simp [upd]
    · have ha : (a == i) = false := by simp; exact fun e => hn.1 (e ▸ h)
      have ih := cnt_list hp hn.2 h
      simp only [List.filter_cons]
      have : upd p i a = p a := by simp [upd, ha]
      rw [this]
      cases p a <;> simp <;> omega
theorem cnt_upd {p : Nat → Bool} {i : Nat} (hi : i ∈ eL) (hp : p i = false) : cnt (upd p i) + 1 = cnt p := cnt_list hp (by decide) hi
theorem cnt_zero {p : Nat → Bool} (h : cnt p = 0) : ∀ i, i ∈ eL → p i = true := fun i hi => by
  cases hp : p i with
  | true => rfl
  | false => have := cnt_upd hi hp; omega
theorem listedOf_all {p : Nat → Bool} (h : ∀ i, i ∈ eL → p i = true) : listedOf p = listedOf fun _ => true := by
  unfold listedOf
  congr 1
  exact List.map_congr_left fun i _ => by unfold qL; split <;> simp_all
def insL : List Nat := [1, 2, 3, 4, 5, 6, 9, 13, 17, 22]
def keyOf : Nat → Int | 1 => 1 | 2 => 2 | 3 => 3 | 4 => 4 | 5 => 5 | 6 => 11 | 9 => 6 | 13 => 7 | 17 => 9 | _ => 12
def cInt : ByteArray := ⟨#[73, 110, 116]⟩
def cBool : ByteArray := ⟨#[66, 111, 111, 108]⟩
def cText : ByteArray := ⟨#[84, 101, 120, 116]⟩
def cUnit : ByteArray := ⟨#[85, 110, 105, 116]⟩
def cArr : ByteArray := ⟨#[65, 114, 114, 97, 121]⟩
def cWeak : ByteArray := ⟨#[87, 101, 97, 107]⟩
def argOp : Nat → Operand | 1 => .const (.string cInt) | 2 => .const (.string cBool) | 3 => .const (.string cText) | 4 => .const (.string cUnit) | 5 => .const (.string cArr) | 6 => .const (.string cWeak) | 9 => .tmp 9 | 13 => .tmp 12 | 17 => .tmp 15 | _ => .tmp 19
def depL : Nat → List Nat | 21 => [20] | 22 => [20, 21] | _ => []
/-- What a later operation waits for. -/
def edgesIn (o : Oper) (l : List Nat) : Bool := o.after.all fun e => decide (e.on < 23 ∧ e.on ∉ eL) || l.contains e.on
def waits (o : Oper) (l : List Nat) : Bool := l.all fun j => o.after.any fun e => e.on == j && Region.binds .any e
structure LitOps (ops : Array Oper) : Prop where
  size : ops.size = 25
  ins : ∀ i, i ∈ insL → ∃ o, ops[i]? = some o ∧ o.op = .insert 63 (.tmp 7) (.const (.int .i64 (keyOf i))) (argOp i) ∧ o.guard = none ∧ o.dst = none ∧ edgesIn o (depL i) = true
  w22 : ∃ o, ops[22]? = some o ∧ waits o [21] = true
  o20 : ∃ o T, ops[20]? = some o ∧ o.op = .call { callee := .value (.func 50), args := #[.tmp 17], argTypes := T } ∧ o.guard = none ∧ o.dst = some 18 ∧ edgesIn o [] = true
  o21 : ∃ o, ops[21]? = some o ∧ o.op = .binOp .add 9 (.const (.string ⟨#[63]⟩)) (.tmp 18) 9 ∧ o.guard = none ∧ o.dst = some 19 ∧ edgesIn o [20] = true ∧ waits o [20] = true
  w23 : ∃ o, ops[23]? = some o ∧ waits o eL = true
  w24 : ∃ o, ops[24]? = some o ∧ waits o [23] = true
theorem litOps : LitOps opsW where
  size := by kernel_rfl
  ins := fun i hi => by
    simp only [insL, List.mem_cons, List.not_mem_nil, or_false] at hi
    rcases hi with rfl | rfl | rfl | rfl | rfl | rfl | rfl | rfl | rfl | rfl
    · exact ⟨opsW.getD 1 default, by kernel_rfl, by kernel_rfl, by kernel_rfl, by kernel_rfl, by kernel_rfl⟩
    · exact ⟨opsW.getD 2 default, by kernel_rfl, by kernel_rfl, by kernel_rfl, by kernel_rfl, by kernel_rfl⟩
    · exact ⟨opsW.getD 3 default, by kernel_rfl, by kernel_rfl, by kernel_rfl, by kernel_rfl, by kernel_rfl⟩
    · exact ⟨opsW.getD 4 default, by kernel_rfl, by kernel_rfl, by kernel_rfl, by kernel_rfl, by kernel_rfl⟩
    · exact ⟨opsW.getD 5 default, by kernel_rfl, by kernel_rfl, by kernel_rfl, by kernel_rfl, by kernel_rfl⟩
    · exact ⟨opsW.getD 6 default, by kernel_rfl, by kernel_rfl, by kernel_rfl, by kernel_rfl, by kernel_rfl⟩
    · exact ⟨opsW.getD 9 default, by kernel_rfl, by kernel_rfl, by kernel_rfl, by kernel_rfl, by kernel_rfl⟩
    · exact ⟨opsW.getD 13 default, by kernel_rfl, by kernel_rfl, by kernel_rfl, by kernel_rfl, by kernel_rfl⟩
    · exact ⟨opsW.getD 17 default, by kernel_rfl, by kernel_rfl, by kernel_rfl, by kernel_rfl, by kernel_rfl⟩
    · exact ⟨opsW.getD 22 default, by kernel_rfl, by kernel_rfl, by kernel_rfl, by kernel_rfl, by kernel_rfl⟩
  w22 := ⟨opsW.getD 22 default, by kernel_rfl, by kernel_rfl⟩
  o20 := ⟨opsW.getD 20 default, #[3], by kernel_rfl, by kernel_rfl, by kernel_rfl, by kernel_rfl, by kernel_rfl⟩
  o21 := ⟨opsW.getD 21 default, by kernel_rfl, by kernel_rfl, by kernel_rfl, by kernel_rfl, by kernel_rfl, by kernel_rfl⟩
  w23 := ⟨opsW.getD 23 default, by kernel_rfl, by kernel_rfl⟩
  w24 := ⟨opsW.getD 24 default, by kernel_rfl, by kernel_rfl⟩
theorem u104 : Tryz.prog.underlying 63 = some (.map 3 9) := by kernel_rfl
theorem run_ins (r : Nat) (es : Array MapEntry) (clock : Nat) (k : Int) (v : Value) (w : World) (hb : w.heap[r]? = some (.map es clock)) (hf : Instr.findNow (.int .i64) (.int .i64 k) es.toList 0 = some none) :
    (Instr.mapUpdate 63 (.map (some r)) (.int .i64 k) v).run Tryz.prog w = .ok () { w with heap := w.heap.setIfInBounds r (.map (es.push { key := .int .i64 k, val := v, born := clock }) (clock + 1)) } := by
  unfold Instr.mapUpdate
  simp only [Sem.run_bind, run_underlying u104, Result.andThen, MapKept.run_getObj_map hb, MapKept.run_checkKey u3 (k := .int .i64 k) rfl false 9999, MapKept.run_findKey u3 hf, MapKept.run_setObj_map _ hb]
def valOf (v9 v12 v15 v19 : ByteArray) : Nat → ByteArray | 1 => cInt | 2 => cBool | 3 => cText | 4 => cUnit | 5 => cArr | 6 => cWeak | 9 => v9 | 13 => v12 | 17 => v15 | _ => v19
def GoodE (val : Nat → ByteArray) (p : Nat → Bool) (es : Array MapEntry) : Prop :=
  (∀ e, e ∈ es.toList → ∃ i, i ∈ insL ∧ p i = true ∧ e.key = .int .i64 (keyOf i) ∧ e.val = .string (val i)) ∧ ∀ i, i ∈ insL → p i = true → ∃ e, e ∈ es.toList ∧ e.key = .int .i64 (keyOf i)
theorem key_inj : ∀ i, i ∈ insL → ∀ j, j ∈ insL → keyOf i = keyOf j → i = j := by decide
theorem find_none {k : Int} : ∀ {es : List MapEntry} {n : Nat}, (∀ e, e ∈ es → ∃ k', e.key = .int .i64 k' ∧ k' ≠ k) → Instr.findNow (.int .i64) (.int .i64 k) es n = some none
  | [], _, _ => rfl
  | e :: es, n, h => by
    obtain ⟨k', h1, h2⟩ := h e (by simp)
    simp only [Instr.findNow, h1, Instr.sameNow, if_true]
    rw [show (k == k') = false by simp; exact fun e => h2 e.symm]
    exact find_none fun e he => h e (by simp [he])
theorem find_key {k : Int} {P : Value → Prop} : ∀ {es : List MapEntry} {n : Nat}, (∀ e, e ∈ es → ∃ k', e.key = .int .i64 k' ∧ (k' = k → P e.val)) → (∃ e, e ∈ es ∧ e.key = .int .i64 k) → ∃ m v, Instr.findNow (.int .i64) (.int .i64 k) es n = some (some (m, v)) ∧ P v
  | [], _, _, ⟨_, h, _⟩ => by cases h
  | e :: es, n, h, ⟨e2, h2, h3⟩ => by
    obtain ⟨k', h1, hP⟩ := h e (by simp)
    simp only [Instr.findNow, h1, Instr.sameNow, if_true]
    by_cases hk : k = k'
    · subst hk
      simp only [beq_self_eq_true]
      exact ⟨n, e.val, rfl, hP rfl⟩
    · rw [show (k == k') = false by simp [hk]]
      refine find_key (fun e he => h e (by simp [he])) ⟨e2, ?_, h3⟩
      rcases List.mem_cons.1 h2 with rfl | h2
      · rw [h1] at h3; cases h3; exact absurd rfl hk
      · exact h2
theorem GoodE.miss {val : Nat → ByteArray} {p : Nat → Bool} {es : Array MapEntry} (h : GoodE val p es) {i : Nat} (hi : i ∈ insL) (hp : p i = false) : Instr.findNow (.int .i64) (.int .i64 (keyOf i)) es.toList 0 = some none :=
  find_none fun e he => by
    obtain ⟨j, hj, hpj, hk, _⟩ := h.1 e he
    exact ⟨_, hk, fun e2 => by have := key_inj j hj i hi e2; subst this; rw [hp] at hpj; cases hpj⟩
theorem GoodE.hit {val : Nat → ByteArray} {p : Nat → Bool} {es : Array MapEntry} (h : GoodE val p es) {i : Nat} (hi : i ∈ insL) (hp : p i = true) : ∃ m, Instr.findNow (.int .i64) (.int .i64 (keyOf i)) es.toList 0 = some (some (m, .string (val i))) := by
  obtain ⟨m, v, h1, h2⟩ := find_key (P := fun v => v = .string (val i)) (fun e he => by
    obtain ⟨j, hj, hpj, hk, hv⟩ := h.1 e he
    exact ⟨_, hk, fun e2 => by have := key_inj j hj i hi e2; subst this; exact hv⟩) (h.2 i hi hp)
  exact ⟨m, by rw [h1, h2]⟩
theorem GoodE.push {val : Nat → ByteArray} {p : Nat → Bool} {es : Array MapEntry} (h : GoodE val p es) {i : Nat} (hi : i ∈ insL) (c : Nat) : GoodE val (upd p i) (es.push { key := .int .i64 (keyOf i), val := .string (val i), born := c }) := by
  refine ⟨fun e he => ?_, fun j hj hp => ?_⟩
  · simp only [Array.toList_push, List.mem_append, List.mem_singleton] at he
    rcases he with he | rfl
    · obtain ⟨j, hj, hp, h3⟩ := h.1 e he
      exact ⟨j, hj, by simp [upd, hp], h3⟩
    · exact ⟨i, hi, by simp [upd], rfl, rfl⟩
  · simp only [Array.toList_push, List.mem_append, List.mem_singleton]
    by_cases e : j = i
    · subst e; exact ⟨_, Or.inr rfl, rfl⟩
    · obtain ⟨x, h1, h2⟩ := h.2 j hj (by simpa [upd, e] using hp)
      exact ⟨x, Or.inl h1, h2⟩
theorem GoodE.skip {val : Nat → ByteArray} {p : Nat → Bool} {es : Array MapEntry} (h : GoodE val p es) {i : Nat} (hi : i ∉ insL) : GoodE val (upd p i) es :=
  ⟨fun e he => by obtain ⟨j, hj, hp, h3⟩ := h.1 e he; exact ⟨j, hj, by simp [upd, hp], h3⟩, fun j hj hp => h.2 j hj (by
    have : j ≠ i := fun e => hi (e ▸ hj)
    simpa [upd, this] using hp)⟩
/-- What the frames hold while the entries come. -/
structure LitFr (ops : Array Oper) (W0 : World) (r : Nat) (n : Int) (v9 v12 v15 z v19 : ByteArray) (A0 A1 A2 : Act) : Prop where
  hr : W0.heap.size ≤ r
  m0 : ∀ A, A = A0 ∨ A = A1 ∨ A = A2 → A.eval (.tmp 7) = .map (some r) ∧ A.eval (.tmp 9) = .string v9 ∧ A.eval (.tmp 12) = .string v12 ∧ A.eval (.tmp 15) = .string v15
  m2 : A2.eval (.tmp 19) = .string v19
  n0 : A0.eval (.tmp 17) = .int .i64 n
  call : ∀ w, Below W0.heap.size W0 w → Calls Tryz.prog 50 #[.int .i64 n] w fun e w' => e = .returned (.string z) ∧ w' = w
  p1 : A0.put (some 18) (.string z) = A1
  cat : ∀ (o : Oper) (w : World), o.op = .binOp .add 9 (.const (.string ⟨#[63]⟩)) (.tmp 18) 9 → (execOp A1.eval o).run Tryz.prog w = .ok (.value (.string v19)) w
  p2 : A1.put (some 19) (.string v19) = A2
def frOf (A0 A1 A2 : Act) (p : Nat → Bool) : Act := if p 21 then A2 else if p 20 then A1 else A0
theorem eL_lt : ∀ i, i ∈ eL → i < 25 := by decide
theorem insL_eL : ∀ i, i ∈ insL → i ∈ eL := by decide
theorem dep_nil : ∀ i, i ∈ insL → i ≠ 22 → depL i = [] := by decide
theorem eL_cases : ∀ i, i ∈ eL → i ∈ insL ∨ i = 20 ∨ i = 21 := by decide
theorem ins_ne : ∀ i, i ∈ insL → (20 == i) = false ∧ (21 == i) = false := by decide
theorem argOp_eval {W0 : World} {r : Nat} {n : Int} {v9 v12 v15 z v19 : ByteArray} {A0 A1 A2 : Act} {ops : Array Oper} (F : LitFr ops W0 r n v9 v12 v15 z v19 A0 A1 A2) {A : Act} (hA : A = A0 ∨ A = A1 ∨ A = A2) {i : Nat} (hi : i ∈ insL) (h22 : i = 22 → A = A2) : A.eval (argOp i) = .string (valOf v9 v12 v15 v19 i) := by
  obtain ⟨_, h9, h12, h15⟩ := F.m0 A hA
  simp only [insL, List.mem_cons, List.not_mem_nil, or_false] at hi
  rcases hi with rfl | rfl | rfl | rfl | rfl | rfl | rfl | rfl | rfl | rfl
  · rfl
  · rfl
  · rfl
  · rfl
  · rfl
  · rfl
  · exact h9
  · exact h12
  · exact h15
  · rw [h22 rfl]; exact F.m2
theorem wpOp_at {P : Program} {ops : Array Oper} {Q : Exit → Act → World → Prop} {i : Nat} {K : Act → World → Prop} {a : Act} {w : World} {o : Oper} (ho : ops[i]? = some o) (hg : o.guard = none) (h : o.wp P a w K Q) : wpOp P ops Q i K a w := by
  unfold wpOp
  simp only [ho]
  rw [if_pos (by simp [Region.wanted, hg])]
  exact .inl h
theorem edges_ok {o : Oper} {l : List Nat} (h : edgesIn o l = true) {p : Nat → Bool} (hl : ∀ j, j ∈ l → j < 23 ∧ qL p j = true) : ∀ e ∈ o.after, Region.binds .any e = true → (listedOf p).getD e.on false = true := fun e he _ => by
  unfold edgesIn at h
  rw [Array.all_eq_true'] at h
  have h1 := h e he
  simp only [Bool.or_eq_true, decide_eq_true_eq, List.contains_iff_mem] at h1
  rcases h1 with ⟨h1, h2⟩ | h1
  · rw [listedOf_getD p (by omega)]
    unfold qL
    rw [if_neg h2]; simpa using h1
  · obtain ⟨h2, h3⟩ := hl _ h1
    rw [listedOf_getD p (by omega)]; exact h3
theorem waits_ok {o : Oper} {l : List Nat} (h : waits o l = true) {p : Nat → Bool} (ha : ∀ e ∈ o.after, Region.binds .any e = true → (listedOf p).getD e.on false = true) : ∀ j, j ∈ l → (listedOf p).getD j false = true := fun j hj => by
  unfold waits at h
  rw [List.all_eq_true] at h
  have h1 := h j hj
  rw [Array.any_eq_true'] at h1
  obtain ⟨e, he, h2⟩ := h1
  simp only [Bool.and_eq_true, beq_iff_eq] at h2
  rw [← h2.1]; exact ha e he h2.2
set_option maxRecDepth 100000 in
theorem lit_any {ops : Array Oper} (hO : LitOps ops) {W0 : World} {r : Nat} {n : Int} {v9 v12 v15 z v19 : ByteArray} {A0 A1 A2 : Act} (F : LitFr ops W0 r n v9 v12 v15 z v19 A0 A1 A2) {Q : Exit → Act → World → Prop} {f : Nat}
    (hK : ∀ w es c, w.heap[r]? = some (.map es c) → GoodE (valOf v9 v12 v15 v19) (fun _ => true) es → Below W0.heap.size W0 w → wpAnyH Tryz.prog .any ops Q (Below W0.heap.size W0) f (listedOf fun _ => true) A2 w) :
    ∀ (k : Nat) (p : Nat → Bool), (p 21 = true → p 20 = true) → (p 22 = true → p 21 = true) → cnt p = k → ∀ w es c, w.heap[r]? = some (.map es c) → GoodE (valOf v9 v12 v15 v19) p es → Below W0.heap.size W0 w → wpAnyH Tryz.prog .any ops Q (Below W0.heap.size W0) (k + f) (listedOf p) (frOf A0 A1 A2 p) w := by
  intro k
  induction k with
  | zero =>
    intro p h21 h22 hc w es c hr hG hb
    have hall := cnt_zero hc
    rw [listedOf_all hall, Nat.zero_add]
    have : frOf A0 A1 A2 p = A2 := by unfold frOf; rw [if_pos (hall 21 (by decide))]
    rw [this]
    refine hK w es c hr ⟨fun e he => ?_, fun i hi _ => hG.2 i hi (hall i (insL_eL i (by assumption)))⟩ hb
    obtain ⟨j, hj, hp, h3⟩ := hG.1 e he
    exact ⟨j, hj, rfl, h3⟩
  | succ k ih =>
    intro p h21 h22 hc w es c hr hG hb
    have hA : frOf A0 A1 A2 p = A0 ∨ frOf A0 A1 A2 p = A1 ∨ frOf A0 A1 A2 p = A2 := by
      unfold frOf; split
      · exact Or.inr (Or.inr rfl)
      · split
        · exact Or.inr (Or.inl rfl)
        · exact Or.inl rfl
    rw [show k + 1 + f = (k + f) + 1 by omega]
    refine ⟨fun h0 => ?_, fun i hi => ?_⟩
    · -- something is ready
      exfalso
      have hno : ∀ i, i ∉ Region.ready .any ops (listedOf p) := fun i hi => by rw [h0] at hi; cases hi
      have key : ∀ i o l, i ∈ eL → p i = false → ops[i]? = some o → edgesIn o l = true → (∀ j, j ∈ l → j < 23 ∧ qL p j = true) → False := fun i o l hi hp ho he hl =>
        hno i (mem_ready.2 ⟨by rw [listedOf_getD p (eL_lt i hi)]; simp [qL, hi, hp], o, ho, edges_ok he hl⟩)
      have h1 : ∀ i, i ∈ insL → i ≠ 22 → p i = true := fun i hi hne => by
        cases hp : p i with
        | true => rfl
        | false =>
          obtain ⟨o, ho, _, _, _, he⟩ := hO.ins i hi
          exact (key i o (depL i) (insL_eL i hi) hp ho he (fun j hj => by rw [dep_nil i hi hne] at hj; cases hj)).elim
      have h20 : p 20 = true := by
        cases hp : p 20 with
        | true => rfl
        | false =>
          obtain ⟨o, T, ho, _, _, _, he⟩ := hO.o20
          exact (key 20 o [] (by decide) hp ho he (fun j hj => by cases hj)).elim
      have q20 : qL p 20 = true := by simp [qL, eL, h20]
      have h21' : p 21 = true := by
        cases hp : p 21 with
        | true => rfl
        | false =>
          obtain ⟨o, ho, _, _, _, he, _⟩ := hO.o21
          exact (key 21 o [20] (by decide) hp ho he (fun j hj => by simp at hj; subst hj; exact ⟨by omega, q20⟩)).elim
      have q21 : qL p 21 = true := by simp [qL, eL, h21']
      have h22' : p 22 = true := by
        cases hp : p 22 with
        | true => rfl
        | false =>
          obtain ⟨o, ho, _, _, _, he⟩ := hO.ins 22 (by decide)
          exact (key 22 o [20, 21] (by decide) hp ho he (fun j hj => by
            simp at hj
            rcases hj with rfl | rfl
            · exact ⟨by omega, q20⟩
            · exact ⟨by omega, q21⟩)).elim
      have hall : ∀ i, i ∈ eL → p i = true := fun i hi => by
        rcases eL_cases i hi with h | rfl | rfl
        · by_cases e : i = 22
          · subst e; exact h22'
          · exact h1 i h e
        · exact h20
        · exact h21'
      have : cnt p = 0 := by
        unfold cnt
        rw [List.length_eq_zero_iff, List.filter_eq_nil_iff]
        intro i hi; simp [hall i hi]
      omega
    · obtain ⟨hun, o, ho, hed⟩ := mem_ready.1 hi
      have hi25 : i < 25 := by
        rcases Nat.lt_or_ge i 25 with h | h
        · exact h
        · rw [listedOf_past p h] at hun; cases hun
      rw [listedOf_getD p hi25] at hun
      by_cases hE : i ∈ eL
      · have hp : p i = false := by simpa [qL, hE] using hun
        have hcu := cnt_upd hE hp
        rw [listedOf_upd p hE]
        rcases eL_cases i hE with hins | rfl | rfl
        · obtain ⟨o', ho', hop, hg, hd, -⟩ := hO.ins i hins
          rw [ho'] at ho; cases ho
          have h22i : i = 22 → p 21 = true := fun e => by
            subst e
            obtain ⟨o2, ho2, hw⟩ := hO.w22
            rw [ho2] at ho'; cases ho'
            have := waits_ok hw hed 21 (by simp)
            rw [listedOf_getD p (by omega)] at this
            simpa [qL, eL] using this
          have hfr : frOf A0 A1 A2 (upd p i) = frOf A0 A1 A2 p := by
            obtain ⟨e2, e1⟩ := ins_ne i hins
            simp [frOf, upd, e1, e2]
          have hx := argOp_eval F hA hins (fun e => by unfold frOf; rw [if_pos (h22i e)])
          refine wpOp_at ho' hg ?_
          unfold Oper.wp execOp
          have hc2 : (frOf A0 A1 A2 p).eval (.const (.int .i64 (keyOf i))) = .int .i64 (keyOf i) := rfl
          simp only [hop, (F.m0 _ hA).1, hx, hc2, run_ins r es c (keyOf i) _ w hr (hG.miss hins hp), Sem.run_bind, Sem.run_pure, Result.andThen_ok]
          obtain ⟨g1, g2⟩ := MapKept.heap_set (o' := .map (es.push { key := .int .i64 (keyOf i), val := .string (valOf v9 v12 v15 v19 i), born := c }) (c + 1)) hr
          have hb2 : Below W0.heap.size W0 { w with heap := w.heap.setIfInBounds r (.map (es.push { key := .int .i64 (keyOf i), val := .string (valOf v9 v12 v15 v19 i), born := c }) (c + 1)) } := ⟨hb.os, hb.tape, hb.output, by simpa using hb.size, fun j hj => by rw [g2 j (by have := F.hr; omega)]; exact hb.block j hj⟩
          have := ih (upd p i) (fun h => by
              have e1 := (ins_ne i hins).2
              simp [upd, e1] at h ⊢; exact Or.inr (h21 h)) (fun h => by
              simp only [upd, Bool.or_eq_true, beq_iff_eq] at h ⊢
              rcases h with h | h
              · exact Or.inr (h22i h.symm)
              · exact Or.inr (h22 h)) (by omega) _ _ _ g1 (hG.push hins c) hb2
          rw [hfr] at this
          show Below W0.heap.size W0 _ ∧ wpAnyH _ _ _ _ _ _ _ ((frOf A0 A1 A2 p).put o.dst undef) _
          rw [hd]
          exact ⟨hb2, this⟩
        · obtain ⟨o', T, ho', hop, hg, hd, -⟩ := hO.o20
          rw [ho'] at ho; cases ho
          have hp21 : p 21 = false := by
            cases h : p 21 with
            | false => rfl
            | true => rw [h21 h] at hp; cases hp
          have hfr0 : frOf A0 A1 A2 p = A0 := by simp [frOf, hp, hp21]
          have hfr1 : frOf A0 A1 A2 (upd p 20) = A1 := by simp [frOf, upd, hp21]
          refine wpOp_at ho' hg ?_
          rw [hfr0]
          unfold Oper.wp
          have hv : (execOp A0.eval o).run Tryz.prog w = .ok (.enter 50 #[.int .i64 n]) w := by
            unfold execOp
            have e1 : A0.eval (.func 50) = .func (.func 50) #[] #[] := rfl
            simp only [hop, resolve, Deferred.ofValue, invoke, e1, F.n0, Sem.run_bind, Sem.run_pure, Result.andThen_ok, List.map_toArray, List.map_cons, List.map_nil]
            exact (enters_of Tryz.func50 (by kernel_rfl) rfl : Enters Tryz.prog 50) _ w
          rw [hv]
          refine (F.call w hb).mono ?_
          rintro e w' ⟨rfl, rfl⟩
          show Below W0.heap.size W0 _ ∧ wpAnyH _ _ _ _ _ _ _ (A0.put o.dst (.string z)) _
          rw [hd, F.p1, ← hfr1]
          exact ⟨hb, ih (upd p 20) (fun _ => by simp [upd]) (fun h => by simp [upd] at h ⊢; exact h22 h) (by omega) _ _ _ hr (hG.skip (by decide)) hb⟩
        · obtain ⟨o', ho', hop, hg, hd, -, hw⟩ := hO.o21
          rw [ho'] at ho; cases ho
          have hp20 : p 20 = true := by
            have := waits_ok hw hed 20 (by simp)
            rw [listedOf_getD p (by omega)] at this
            simpa [qL, eL] using this
          have hfr1 : frOf A0 A1 A2 p = A1 := by simp [frOf, hp, hp20]
          have hfr2 : frOf A0 A1 A2 (upd p 21) = A2 := by simp [frOf, upd]
          refine wpOp_at ho' hg ?_
          rw [hfr1]
          unfold Oper.wp
          rw [F.cat o w hop]
          show Below W0.heap.size W0 _ ∧ wpAnyH _ _ _ _ _ _ _ (A1.put o.dst (.string v19)) _
          rw [hd, F.p2, ← hfr2]
          exact ⟨hb, ih (upd p 21) (fun _ => by simp [upd, hp20]) (fun h => by simp [upd]) (by omega) _ _ _ hr (hG.skip (by decide)) hb⟩
      · -- 23 and 24 wait
        exfalso
        have hge : ¬ i < 23 := by simpa [qL, hE] using hun
        have : i = 23 ∨ i = 24 := by omega
        rcases this with rfl | rfl
        · obtain ⟨o', ho', hw⟩ := hO.w23
          rw [ho'] at ho; cases ho
          have hall := waits_ok hw hed
          have : cnt p = 0 := by
            unfold cnt
            rw [List.length_eq_zero_iff, List.filter_eq_nil_iff]
            intro i hi
            have := hall i hi
            rw [listedOf_getD p (eL_lt i hi)] at this
            simp [qL, hi] at this
            simp [this]
          omega
        · obtain ⟨o', ho', hw⟩ := hO.w24
          rw [ho'] at ho; cases ho
          have := waits_ok hw hed 23 (by simp)
          rw [listedOf_getD p (by omega)] at this
          simp [qL, eL] at this
end Go.Proofs.YtokmaehefenpmaaGreatDoor
namespace Go.Proofs.YtokmaehefenpmaaGreatDoor
open Go.RowKit Go.Proofs.YtokmaehefenpmaaGreatDoor.Nm
theorem u72 : Tryz.prog.underlying 48 = some (.pointer 51) := by kernel_rfl
theorem u138 : Tryz.prog.underlying 100 = some .unsafePointer := by kernel_rfl
theorem u57 : Tryz.prog.underlying 49 = some (.slice 5) := by kernel_rfl
theorem u9s : Tryz.prog.underlying 9 = some .string := by kernel_rfl
theorem infoBuilder : (Tryz.prog.info? 51).map (·.size) = some 2 := by kernel_rfl
theorem infoByte : (Tryz.prog.info? 5).map (fun i => (i.zero, i.size, i.bytes)) = some (some (.int .u8 0), 1, 1) := by kernel_rfl
theorem liesBuilder : liesAt Tryz.prog Tryz.prog.depth 51 (2 / Tryz.prog.cellsOf 51) 0 51 1 = true := by kernel_rfl
set_option maxHeartbeats 1000000 in
set_option maxRecDepth 100000 in
theorem copyCheck_used (b : Nat) (w : World) (h0 : w.cell? ⟨b, 0, none⟩ = some (.pointer (some ⟨b, 0, none⟩))) :
    Calls Tryz.prog 78 #[.pointer (some ⟨b, 0, none⟩)] w fun e w' => e = .returned (.tuple #[]) ∧ w' = w := by
  obtain ⟨j, hj, hjs⟩ := info_of infoBuilder
  go_enter Tryz.func78, Tryz.ntmps78
  go_wp2
  rw [Lib.run_neq_ptr_same w _ u72 hj]
  go_wp2
  go_end0
  exact ⟨rfl, rfl⟩
set_option maxHeartbeats 1000000 in
set_option maxRecDepth 100000 in
theorem copyCheck_fresh (b : Nat) (w : World) (h0 : w.cell? ⟨b, 0, none⟩ = some (.pointer none)) (hsh : w.shape? b = some (51, 2)) (hfz : w.frozen? ⟨b, 0, none⟩ = false) :
    Calls Tryz.prog 78 #[.pointer (some ⟨b, 0, none⟩)] w fun e w' => e = .returned (.tuple #[]) ∧ w' = w.setCell ⟨b, 0, none⟩ (.pointer (some ⟨b, 0, none⟩)) := by
  obtain ⟨j, hj, hjs⟩ := info_of infoBuilder
  go_enter Tryz.func78, Tryz.ntmps78
  go_wp2
  rw [Lib.run_to_unsafe w ⟨b, 0, none⟩ u72 u138 hj (by rw [hjs]; decide) hsh (Nat.zero_lt_succ 1)]
  simp only [Result.andThen]
  rw [Oper.upon_value]
  go_wp2
  rw [run_callFunc_extern Tryz.func90 (by kernel_rfl) (by kernel_rfl) (by kernel_rfl) (e := Extern.AbiNoEscape.same) (by kernel_rfl)]
  rw [Lib.run_noEscape]
  simp only [Result.andThen]
  rw [Oper.upon_value]
  go_wp2
  rw [Lib.run_from_unsafe w ⟨b, 0, none⟩ u138 u72 hj hsh liesBuilder]
  simp only [Result.andThen]
  rw [Oper.upon_value]
  go_wp2
  go_end0
  exact ⟨rfl, rfl⟩
theorem copyCheck_any (B b : Nat) (bs : List Value) (w : World) (h : Lib.IsBuilderF 51 5 B b bs w) :
    Calls Tryz.prog 78 #[.pointer (some ⟨b, 0, none⟩)] w fun e w' => e = .returned (.tuple #[]) ∧ (Lib.BuilderAtF 51 5 B b (.pointer (some ⟨b, 0, none⟩)) bs w' ∧ Below B w w' ∧ Lib.OthersKept 5 (some b) w w') := by
  rcases h with h | h
  · refine (copyCheck_fresh b w h.cell0 h.shape h.frozen0).mono ?_
    rintro e w' ⟨rfl, rfl⟩
    exact ⟨rfl, h.used _, (Below.refl B w).setCell (p := ⟨b, 0, none⟩) h.1 _, (Lib.OthersKept.refl _ _ w).setCell ⟨b, 0, none⟩ rfl _⟩
  · refine (copyCheck_used b w h.cell0).mono ?_
    rintro e w' ⟨rfl, rfl⟩
    exact ⟨rfl, h, Below.refl B _, Lib.OthersKept.refl _ _ _⟩
set_option maxHeartbeats 2000000 in
set_option maxRecDepth 100000 in
theorem WriteString_any (B b : Nat) (bs : List Value) (s : ByteArray) (w : World) (h : Lib.IsBuilderF 51 5 B b bs w) (hlen : bs.length + s.size ≤ 140737488355328) (hBw : B ≤ w.heap.size) :
    Calls Tryz.prog 51 #[.pointer (some ⟨b, 0, none⟩), .string s] w fun e w' => e = .returned (.tuple #[.int .i64 s.size, .nilIface]) ∧ (Lib.BuilderAtF 51 5 B b (.pointer (some ⟨b, 0, none⟩)) (bs ++ Lib.strCells s) w' ∧ Below B w w' ∧ Lib.OthersKept 5 (some b) w w') := by
  obtain ⟨i0, hi, hz0, hz1, hz2⟩ := info_parts infoByte
  go_enter Tryz.func51, Tryz.ntmps51
  go_wp2_with (go_at_call 78; refine (copyCheck_any B b bs _ h).mono ?_)
  rintro e w1 ⟨rfl, h1, hb1, hk1⟩
  obtain ⟨hB, v, hbk, hown, hne⟩ := h1
  have c0 : w1.cell? ⟨b, 0, none⟩ = some (.pointer (some ⟨b, 0, none⟩)) := by rw [Lib.cell_of_heap hbk]; rfl
  have c1 : w1.cell? ⟨b, 1, none⟩ = some v := by rw [Lib.cell_of_heap hbk]; rfl
  go_wp2_with (at_builtin; refine Lib.wpList_append_own_stringF _ rfl _ _ 49 9 rfl B 5 i0 u57 u9s hi hz0 hz1 hz2 _ _ _ rfl hown s rfl ?c3 ?c4 ?c5 ?_)
  case c3 => unfold maxLen; omega
  case c4 => omega
  case c5 => have := hb1.size; omega
  intro v' w2 hown' hgrow _
  have hlt : b < w1.heap.size := heap_lt hbk
  have hb2 : w2.heap[b]? = some (.cells #[.pointer (some ⟨b, 0, none⟩), v] 51 (0, 0)) := by
    rw [hgrow.block b hlt (fun e => hne e.symm)]
    exact hbk
  have d0 : w2.cell? ⟨b, 0, none⟩ = some (.pointer (some ⟨b, 0, none⟩)) := by rw [Lib.cell_of_heap hb2]; rfl
  have d1 : w2.cell? ⟨b, 1, none⟩ = some v := by rw [Lib.cell_of_heap hb2]; rfl
  have f1 : w2.frozen? ⟨b, 1, none⟩ = false := Lib.frozen_of_heap hb2 1
  obtain ⟨ao, n', cap, rfl⟩ : ∃ ao n' cap, v' = .slice ao n' cap := by
    rcases hown'.2 with ⟨hv, _⟩ | ⟨g, cap, cur, fz, hv, _⟩
    · exact ⟨_, _, _, hv⟩
    · exact ⟨_, _, _, hv⟩
  go_wp2
  go_ret2
  refine ⟨rfl, ?_, ?_, (hk1.grown hgrow (Lib.ownsRowF_kind hown)).setCell ⟨b, 1, none⟩ rfl _⟩
  · exact Lib.BuilderAtF.put (T := 51) (e := 5) hB hb2 (bs' := bs ++ Lib.strCells s) (by simpa [Lib.strCells_length] using hown') (by decide)
  · exact (hb1.grown hgrow (by have := hb1.size; omega) (fun k hk => (hown.lt k hk).1)).setCell (p := ⟨b, 1, none⟩) hB _
end Go.Proofs.YtokmaehefenpmaaGreatDoor
namespace Go.Proofs
open Go.Shelf
def Tryz.lays169_ren : Go.Shelf.Ren := ⟨fun | 169 => 43 | n => n, fun | 70 => 48 | 9 => 9 | 0 => 0 | 72 => 51 | 37 => 49 | 127 => 69 | 3 => 3 | 5 => 5 | n => n, fun | n => n⟩
theorem Tryz.lays169 : Go.Proofs.Lays.n169 Tryz.prog Tryz.lays169_ren := {
  mixed := by kernel_rfl
  f169 := Tryz.func43.trans (congrArg some (by kernel_rfl))
  t0 := Tryz.underlying0
  a0 := Tryz.isAgg0
  z0 := Tryz.sizeOf0
  v0 := Tryz.zeroValue0
  t3 := Tryz.underlying3
  a3 := Tryz.isAgg3
  z3 := Tryz.sizeOf3
  v3 := Tryz.zeroValue3
  t9 := Tryz.underlying9
  a9 := Tryz.isAgg9
  z9 := Tryz.sizeOf9
  v9 := Tryz.zeroValue9
  t37 := Tryz.underlying49
  a37 := Tryz.isAgg49
  z37 := Tryz.sizeOf49
  v37 := Tryz.zeroValue49
  t70 := Tryz.underlying48
  a70 := Tryz.isAgg48
  z70 := Tryz.sizeOf48
  v70 := Tryz.zeroValue48
  t72 := Tryz.underlying51
  a72 := Tryz.isAgg51
  z72 := Tryz.sizeOf51
  v72 := Tryz.zeroValue51
  t127 := Tryz.underlying69
  a127 := Tryz.isAgg69
  z127 := Tryz.sizeOf69
  v127 := Tryz.zeroValue69 }
theorem Tryz.Builder_Extra_169 : Builder.Extra Tryz.prog Tryz.lays169_ren := {
  sizeBuilder := by kernel_rfl
  liesBuilder := by kernel_rfl
  t5 := Tryz.underlying5
  a5 := Tryz.isAgg5
  z5 := Tryz.sizeOf5
  v5 := Tryz.zeroValue5
  infoByte := by kernel_rfl
  cellsByte := by kernel_rfl
  sizeByte := by kernel_rfl
  neB5 := by decide }
open Go.RowKit in
theorem Tryz.Builder_String_any_k (B b : Nat) (l : List UInt8) (w : World) (h : Lib.IsBuilderF 51 5 B b (Lib.byteCells l) w) (hBw : B ≤ w.heap.size) :
    Calls Tryz.prog 43 #[.pointer (some ⟨b, 0, none⟩)] w fun e w' => e = .returned (.string ⟨l.toArray⟩) ∧ (Lib.IsBuilderF 51 5 B b (Lib.byteCells l) w' ∧ Below B w w' ∧ Lib.OthersKept 5 (some b) w w') := Any.Builder_String_any_k Tryz.lays169 Tryz.Builder_Extra_169 B b l w h hBw
def Tryz.lays171_ren : Go.Shelf.Ren := ⟨fun | 171 => 50 | 243 => 77 | 246 => 89 | 283 => 93 | 284 => 94 | 285 => 95 | 286 => 96 | 129 => 67 | 317 => 97 | 318 => 98 | 319 => 99 | 320 => 100 | 337 => 101 | 338 => 102 | n => n, fun | 3 => 3 | 9 => 9 | 2 => 2 | 4 => 4 | 171 => 106 | 0 => 0 | 53 => 83 | 37 => 49 | 5 => 5 | 173 => 108 | 212 => 112 | 51 => 81 | 20 => 20 | 213 => 113 | 46 => 60 | 232 => 114 | 233 => 115 | n => n, fun | 17 => 0 | 18 => 1 | 19 => 2 | n => n⟩
theorem Tryz.lays171 : Go.Proofs.Lays.n171 Tryz.prog Tryz.lays171_ren := {
  mixed := by kernel_rfl
  f129 := Tryz.func67.trans (congrArg some (by kernel_rfl))
  f171 := Tryz.func50.trans (congrArg some (by kernel_rfl))
  f243 := Tryz.func77.trans (congrArg some (by kernel_rfl))
  f246 := Tryz.func89.trans (congrArg some (by kernel_rfl))
  f283 := Tryz.func93.trans (congrArg some (by kernel_rfl))
  f284 := Tryz.func94.trans (congrArg some (by kernel_rfl))
  f285 := Tryz.func95.trans (congrArg some (by kernel_rfl))
  f286 := Tryz.func96.trans (congrArg some (by kernel_rfl))
  f317 := Tryz.func97.trans (congrArg some (by kernel_rfl))
  f318 := Tryz.func98.trans (congrArg some (by kernel_rfl))
  f319 := Tryz.func99.trans (congrArg some (by kernel_rfl))
  f320 := Tryz.func100.trans (congrArg some (by kernel_rfl))
  f337 := Tryz.func101.trans (congrArg some (by kernel_rfl))
  f338 := Tryz.func102.trans (congrArg some (by kernel_rfl))
  t0 := Tryz.underlying0
  a0 := Tryz.isAgg0
  z0 := Tryz.sizeOf0
  v0 := Tryz.zeroValue0
  t2 := Tryz.underlying2
  a2 := Tryz.isAgg2
  z2 := Tryz.sizeOf2
  v2 := Tryz.zeroValue2
  t3 := Tryz.underlying3
  a3 := Tryz.isAgg3
  z3 := Tryz.sizeOf3
  v3 := Tryz.zeroValue3
  t4 := Tryz.underlying4
  a4 := Tryz.isAgg4
  z4 := Tryz.sizeOf4
  v4 := Tryz.zeroValue4
  t5 := Tryz.underlying5
  a5 := Tryz.isAgg5
  z5 := Tryz.sizeOf5
  v5 := Tryz.zeroValue5
  t9 := Tryz.underlying9
  a9 := Tryz.isAgg9
  z9 := Tryz.sizeOf9
  v9 := Tryz.zeroValue9
  t20 := Tryz.underlying20
  a20 := Tryz.isAgg20
  z20 := Tryz.sizeOf20
  v20 := Tryz.zeroValue20
  t37 := Tryz.underlying49
  a37 := Tryz.isAgg49
  z37 := Tryz.sizeOf49
  v37 := Tryz.zeroValue49
  t46 := Tryz.underlying60
  a46 := Tryz.isAgg60
  z46 := Tryz.sizeOf60
  v46 := Tryz.zeroValue60
  t51 := Tryz.underlying81
  a51 := Tryz.isAgg81
  z51 := Tryz.sizeOf81
  v51 := Tryz.zeroValue81
  t53 := Tryz.underlying83
  a53 := Tryz.isAgg83
  z53 := Tryz.sizeOf83
  v53 := Tryz.zeroValue83
  t171 := Tryz.underlying106
  a171 := Tryz.isAgg106
  z171 := Tryz.sizeOf106
  v171 := Tryz.zeroValue106
  t173 := Tryz.underlying108
  a173 := Tryz.isAgg108
  z173 := Tryz.sizeOf108
  v173 := Tryz.zeroValue108
  t212 := Tryz.underlying112
  a212 := Tryz.isAgg112
  z212 := Tryz.sizeOf112
  v212 := Tryz.zeroValue112
  t213 := Tryz.underlying113
  a213 := Tryz.isAgg113
  z213 := Tryz.sizeOf113
  t232 := Tryz.underlying114
  a232 := Tryz.isAgg114
  z232 := Tryz.sizeOf114
  v232 := Tryz.zeroValue114
  t233 := Tryz.underlying115
  a233 := Tryz.isAgg115
  z233 := Tryz.sizeOf115
  v233 := Tryz.zeroValue115
  g17 := by kernel_rfl
  g18 := by kernel_rfl
  g19 := by kernel_rfl }
open Go.RowKit Go.Sort Go.Lib in
theorem Tryz.strconv_Itoa_small (i : Nat) (hi : i < 100) (w : World) :
    Calls Tryz.prog 50 #[.int .i64 i] w fun e w' => e = .returned (.string ⟨(Lib.decDigits i).toArray⟩) ∧ w' = w := Any.strconv_Itoa_small Tryz.lays171 i hi w
end Go.Proofs
namespace Go.Proofs.YtokmaehefenpmaaGreatDoor
open Go.RowKit Go.Proofs.YtokmaehefenpmaaGreatDoor.Nm
set_option linter.unusedSimpArgs false
theorem ownsRowF_below {w w' : World} {B : Nat} {e : TypeId} {size : Nat} {v : Value} {n : Nat} {xs : List Value} (h : w.ownsRowF B e size v n xs) (hb : Below w.heap.size w w') : w'.ownsRowF B e size v n xs :=
  h.kept (row := none) ⟨hb.os, hb.tape, hb.output, hb.size, fun k hk _ => hb.block k hk⟩ (by cases v.ownBlock <;> simp)
theorem BuilderAtF_below {w w' : World} {T e : TypeId} {B b : Nat} {p : Value} {bs : List Value} (h : Lib.BuilderAtF T e B b p bs w) (hb : Below w.heap.size w w') : Lib.BuilderAtF T e B b p bs w' := by
  obtain ⟨h1, v, h2, h3, h4⟩ := h
  exact ⟨h1, v, below_look hb h2, ownsRowF_below h3 hb, h4⟩
/-- A builder with the text so far. -/
def Bd (w : World) (B b : Nat) (l : List UInt8) : Prop := Lib.IsBuilderF 51 5 B b (Lib.byteCells l) w
theorem Bd.old {w w' : World} {B b : Nat} {l : List UInt8} (h : Bd w B b l) (hb : Below w.heap.size w w') : Bd w' B b l := h.imp (BuilderAtF_below · hb) (BuilderAtF_below · hb)
theorem Bd.lt {w : World} {B b : Nat} {l : List UInt8} (h : Bd w B b l) : B ≤ b ∧ b < w.heap.size := h.elim (fun h => ⟨h.1, h.lt⟩) (fun h => ⟨h.1, h.lt⟩)
/-- What a writing leaves alone. -/
structure Kb (B b : Nat) (w w' : World) : Prop where
  below : Below B w w'
  oth : Lib.OthersKept 5 (some b) w w'
theorem Kb.refl (B b : Nat) (w : World) : Kb B b w w := ⟨Below.refl _ _, Lib.OthersKept.refl _ _ _⟩
theorem Kb.trans {B b : Nat} {w w1 w2 : World} (h : Kb B b w w1) (k : Kb B b w1 w2) : Kb B b w w2 := ⟨h.below.trans k.below, h.oth.trans k.oth⟩
theorem Kb.of {B b : Nat} {w w' : World} (h : Below w.heap.size w w') (hB : B ≤ w.heap.size) : Kb B b w w' := ⟨h.mono hB, fun _ _ hk _ _ => below_look h hk⟩
theorem Kb.look {B b : Nat} {w w' : World} (h : Kb B b w w') {g : Nat} {cs : Array Value} {t : TypeId} {fr : Nat × Nat} (hg : w.heap[g]? = some (.cells cs t fr)) (hb : g ≠ b) (ht : t ≠ 5) : w'.heap[g]? = some (.cells cs t fr) :=
  h.oth g _ hg (by simpa using hb) (fun c fz e => by cases e; exact ht rfl)
theorem Kb.size {B b : Nat} {w w' : World} (h : Kb B b w w') : w.heap.size ≤ w'.heap.size := h.below.size
def WPost (B b : Nat) (out : List UInt8) (w : World) (e : Ending) (w' : World) : Prop := e = .returned (.tuple #[]) ∧ Bd w' B b out ∧ Kb B b w w'
theorem WriteS (B b : Nat) (l : List UInt8) (s : ByteArray) (w : World) (h : Bd w B b l) (hlen : l.length + s.size ≤ 1000000000) (hB : B ≤ w.heap.size) :
    Calls Tryz.prog 51 #[.pointer (some ⟨b, 0, none⟩), .string s] w fun e w' => e = .returned (.tuple #[.int .i64 s.size, .nilIface]) ∧ Bd w' B b (l ++ s.data.toList) ∧ Kb B b w w' := by
  refine (WriteString_any B b _ s w h (by rw [Lib.byteCells_length]; omega) hB).mono ?_
  rintro e w' ⟨rfl, h1, h2, h3⟩
  refine ⟨rfl, Or.inr ?_, h2, h3⟩
  have : Lib.byteCells (l ++ s.data.toList) = Lib.byteCells l ++ Lib.strCells s := by simp [Lib.byteCells, Lib.strCells]
  rw [this]; exact h1
theorem TyAt.kb {w w' : World} {B b : Nat} {D : Nat → Prop} {t : Ty} {row : Array Value} (h : TyAt w D t row) (hD : ∀ x, D x → x < B) (hk : Kb B b w w') : TyAt w' D t row := h.mono (fun _ h => h) fun x hx => hk.below.block x (hD x hx)
theorem TysAt.kb {w w' : World} {B b : Nat} {D : Nat → Prop} {ts : List Ty} {A : Option Addr} {l c : Nat} (h : TysAt w D ts A l c) (hD : ∀ x, D x → x < B) (hk : Kb B b w w') : TysAt w' D ts A l c := h.mono (fun _ h => h) fun x hx => hk.below.block x (hD x hx)
def cSep : ByteArray := ⟨#[44, 32]⟩
abbrev tv (b : Nat) : Value := .agg #[.pointer (some ⟨b, 0, none⟩)]
def TypC (txt : Ty → List UInt8) (t : Ty) : Prop := ∀ (w : World) (B b : Nat) (l : List UInt8) (D : Nat → Prop) (row : Array Value), Bd w B b l → B ≤ w.heap.size → l.length + (txt t).length ≤ 1000000000 → TyAt w D t row → (∀ x, D x → x < B) →
  Calls Tryz.prog 42 #[tv b, .agg row] w (WPost B b (l ++ txt t) w)
/-- The texts of some trees with commas between them, behind j of them. -/
def sepText (txt : Ty → List UInt8) : Bool → List Ty → List UInt8
  | _, [] => []
  | first, t :: l => (if first then [] else [44, 32]) ++ txt t ++ sepText txt false l
theorem run_box76 (b : Nat) (w : World) : (Instr.box 53 (tv b)).run Tryz.prog w = .ok (.pointer (some ⟨w.heap.size, 0, none⟩)) (w.alloc (.cells #[.pointer (some ⟨b, 0, none⟩)] 53)) := by kernel_rfl
theorem u76 : Tryz.prog.underlying 53 = some (.struct (Tryz.prog.fieldsOf 53)) := by kernel_rfl
theorem info76 : (Tryz.prog.info? 53).map (·.size) = some 1 := by kernel_rfl
theorem g76 {w : World} {p b : Nat} {t : TypeId} {fr : Nat × Nat} (h : w.heap[p]? = some (.cells #[.pointer (some ⟨b, 0, none⟩)] t fr)) : RowAt w 53 ⟨p, 0, none⟩ #[.pointer (some ⟨b, 0, none⟩)] := row_mid (n := 1) h (by rfl) u76 rfl rfl info76
theorem g72 {w : World} {p : Nat} {v : Value} {t : TypeId} {fr : Nat × Nat} (h : w.heap[p]? = some (.cells #[v] t fr)) : OneAt w 48 ⟨p, 0, none⟩ v := one_of u72 rfl (by rw [cell_of_row _ _ _ _ _ _ h]; rfl)
section
variable {ops : Array Oper} {rest : List Oper} {dst : Option Tmp} {ty' : TypeId} {x : Operand} {pos : String} {after : Array Edge} {a : Act} {w : World} {Q : Exit → Act → World → Prop}
theorem wl_box76 {b : Nat} (hx : a.eval x = tv b)
    (h : ∀ W p, Below w.heap.size w W → w.heap.size ≤ p → W.heap[p]? = some (.cells #[.pointer (some ⟨b, 0, none⟩)] 53 (0, 0)) → wpList Tryz.prog ops Q rest (a.put dst (.pointer (some ⟨p, 0, none⟩))) W) :
    wpList Tryz.prog ops Q (⟨dst, .box 53 x, ty', pos, after, none⟩ :: rest) a w :=
  wl_w rfl (by unfold execOp; simp [hx, run_box76 b w, Result.andThen]) (h _ _ ((Below.refl _ w).alloc (Nat.le_refl _) _) (Nat.le_refl _) (ha_new rfl))
end
/-- The text of the first j trees. -/
theorem sep_step (txt : Ty → List UInt8) : ∀ (f : Bool) (l : List Ty) (j : Nat) (t : Ty), l[j]? = some t → sepText txt f (l.take (j + 1)) = sepText txt f (l.take j) ++ ((if f && j == 0 then [] else [44, 32]) ++ txt t)
  | _, [], j, t, h => by simp at h
  | f, u :: l, 0, t, h => by
    simp at h; subst h
    cases f <;> simp [sepText]
  | f, u :: l, j + 1, t, h => by
    have := sep_step txt false l j t (by simpa using h)
    simp only [List.take_succ_cons, sepText, this]
    simp
theorem sep_take (txt : Ty → List UInt8) : ∀ (f : Bool) (l : List Ty) (j : Nat), (sepText txt f (l.take j)).length ≤ (sepText txt f l).length
  | _, [], j => by simp [sepText]
  | f, u :: l, 0 => by simp [sepText]
  | f, u :: l, j + 1 => by
    have := sep_take txt false l j
    simp only [List.take_succ_cons, sepText, List.length_append]; omega
end Go.Proofs.YtokmaehefenpmaaGreatDoor
namespace Go.Proofs.YtokmaehefenpmaaGreatDoor
open Go.RowKit Go.Proofs.YtokmaehefenpmaaGreatDoor.Nm
set_option linter.unusedSimpArgs false
set_option maxHeartbeats 4000000 in
set_option maxRecDepth 100000 in
theorem list_any (txt : Ty → List UInt8) (ts : List Ty) (hC : ∀ t, t ∈ ts → TypC txt t) (w : World) (B b : Nat) (l0 : List UInt8) (D : Nat → Prop) (A : Option Addr) (l c : Nat) (hBd : Bd w B b l0) (hB : B ≤ w.heap.size) (hlen : l0.length + (sepText txt true ts).length ≤ 1000000000) (hT : TysAt w D ts A l c) (hD : ∀ x, D x → x < B) :
    Calls Tryz.prog 52 #[tv b, .slice A l c] w (WPost B b (l0 ++ sepText txt true ts) w) := by
  have hmf : ∀ (fn : Fn) (first cap : Array Value) (w : World), (Instr.makeFunc fn first cap).run Tryz.prog w = .ok (.func fn first cap) w := fun _ _ _ _ => rfl
  have HT := Lib.hid hT
  have HL := Lib.hid hT.len
  have hcm := hT.cap
  have hmx := hT.max
  unfold maxLen at hmx
  have HI := Lib.hid hC
  have HD := Lib.hid hD
  have HLN := Lib.hid hlen
  have hbl := hBd.lt
  have HB0 := Lib.hid hBd
  clear hT hC hD hlen hBd
  have hb := Below.refl w.heap.size w
  go_enter Tryz.func52, Tryz.ntmps52
  go_upto_region 0 with (fail)
  apply wp_region_lit
  (with_reducible refine wl_box76 rfl ?_); intro W p hbn hlp hp; replace hb := hb.trans (hbn.mono hb.size); clear hbn; simp only [put_lit, List.set_cons_zero, List.set_cons_succ]
  have hpb : p ≠ b := by omega
  have hK : Kb B b w W := Kb.of hb hB
  have HBd := Lib.hid (HB0.out.old hb)
  clear HB0 hb
  go_upto_region 1 with (fail)
  apply wp_region_lit
  ((with_reducible apply wl_rowG); exact rfl; exact rfl; exact g76 hp)
  simp only [put_lit, List.set_cons_zero, List.set_cons_succ]
  (with_reducible refine wl_k ?_ ?_); exact rfl; intro K hK; go_simp; refine hK _ ?_; clear hK K
  (with_reducible refine wl_k ?_ ?_); exact rfl; intro K hK; go_simp; refine hK _ ?_; clear hK K
  go_wp2_with fail
  go_loopw [11] (fun i wr => ∃ j : Nat, j ≤ l ∧ i = .int .i64 (j : Int) ∧ Hid (Bd wr B b (l0 ++ sepText txt true (ts.take j))) ∧ Kb B b w wr ∧ wr.heap[p]? = some (.cells #[.pointer (some ⟨b, 0, none⟩)] 53 (0, 0))) (fun i _ => l - (intOf i).toNat)
  case atStart => exact ⟨0, by omega, rfl, Lib.hid (by simpa [sepText] using HBd.out), hK, hp⟩
  case round =>
    clear HBd hK hp
    obtain ⟨j, hj, rfl, HBd, hK, hp⟩ := hrel
    by_cases hlt : j < l
    · have hltI : (j : Int) < (l : Int) := by omega
      obtain ⟨ba, off, t, row, rfl, -, ht, -⟩ := HT.out.get hlt
      obtain ⟨row, hrow, hta⟩ := (HT.out.kb HD.out hK).rowK ht
      obtain ⟨k3, s3, n3, A3, l3, c3, ts3, ht3, rfl, -⟩ := hta.parts
      have HTB := Lib.hid hta
      have HST := Lib.hid (sep_step txt true ts j t ht)
      have HM := Lib.hid (List.mem_of_getElem? ht)
      have hs1 := sep_take txt true ts j
      have hs2 := sep_take txt true ts (j + 1)
      rw [HST.out] at hs2
      have hs3 := HLN.out
      simp only [List.length_append] at hs2
      have HLL := Lib.hid (show (l0 ++ sepText txt true (ts.take j)).length + (if true && j == 0 then [] else [(44 : UInt8), 32]).length + (txt t).length ≤ 1000000000 by simp only [List.length_append]; omega)
      clear hta ht ht3 hs1 hs2 hs3
      have hz := Below.refl wr.heap.size wr
      have hwB := hK.size
      go_upto_region 4 with (fail)
      apply wp_region_lit
      (with_reducible refine wl_k ?_ ?_); exact rfl; intro K hK; go_simp; refine hK _ ?_; clear hK K
      (with_reducible refine wl_k ?_ ?_); exact rfl; intro K hK; go_simp; refine hK _ ?_; clear hK K
      (first | ((with_reducible apply wl_oneG); exact rfl; exact rfl; first | exact f0 (by with_reducible assumption) | exact f1 (by with_reducible assumption) | exact f2 (by with_reducible assumption) | exact f3 (by with_reducible assumption) | with_reducible assumption | exact g22 (by with_reducible assumption) | exact g25 (by with_reducible assumption)) | ((with_reducible apply wl_rowG); exact rfl; exact rfl; first | with_reducible assumption | exact RowK.now (by with_reducible assumption) | exact f4 (by with_reducible assumption)))
      have lthpq := heap_lt hp; (with_reducible refine wl_all ?_); intro X1 q hbn hlq hq; replace hp := below_look hbn hp; replace hz := hz.trans (hbn.mono hz.size); clear hbn; simp only [put_lit, List.set_cons_zero, List.set_cons_succ]
      (with_reducible refine wl_k ?_ ?_); exact rfl; intro K hK; go_simp; refine hK _ ?_; clear hK K
      (with_reducible refine wl_put rfl rfl hq ?_); rw [put_noneA]; intro X2 hbx hsz hkx hnx; replace hp := (hkx _ (by omega)).trans hp; replace hz := hbx _ _ (by omega) hz; clear hq; have hq := hnx; clear hnx
      clear hbx hkx hsz
      have hzs := hz.size
      have hqb : q ≠ b := by omega
      replace HBd := Lib.hid (HBd.out.old hz)
      replace hK := hK.trans (Kb.of (b := b) hz (by omega))
      replace HTB := Lib.hid (HTB.out.old hz)
      clear hrow hz
      by_cases hj0 : j = 0
      · have hj1 : ¬ (j : Int) > 0 := by omega
        have HEQ : Hid (sepText txt true (ts.take (j + 1)) = sepText txt true (ts.take j) ++ txt t) := Lib.hid (by rw [HST.out, hj0]; simp)
        have HC := Lib.hid (HI.out t HM.out X2 B b _ D _ HBd.out (by omega) (by have := HLL.out; omega) HTB.out HD.out)
        clear hj0 HST HLL
        go_upto_region 7 with (fail)
        apply wp_region_lit
        (with_reducible refine wl_k ?_ ?_); exact rfl; intro K hK; go_simp; refine hK _ ?_; clear hK K
        (first | ((with_reducible apply wl_oneG); exact rfl; exact rfl; first | exact f0 (by with_reducible assumption) | exact f1 (by with_reducible assumption) | exact f2 (by with_reducible assumption) | exact f3 (by with_reducible assumption) | with_reducible assumption | exact g22 (by with_reducible assumption) | exact g25 (by with_reducible assumption)) | ((with_reducible apply wl_rowG); exact rfl; exact rfl; first | with_reducible assumption | exact RowK.now (by with_reducible assumption) | exact f4 (by with_reducible assumption)))
        (with_reducible refine wl_ck ?_ ?_); exact rfl; intro K hK; go_simp; refine ⟨_, _, ⟨rfl, rfl⟩, hK _ _ ⟨_, HC.out, ?_⟩⟩; clear hK K; rintro e w7 ⟨rfl, hbd7, hk7⟩; refine ⟨_, rfl, ?_⟩; simp only [put_lit, List.set_cons_zero, List.set_cons_succ]
        rw [List.append_assoc, ← HEQ.out] at hbd7
        have HBd7 := Lib.hid hbd7
        replace hp := hk7.look hp hpb (by decide)
        replace hK := hK.trans hk7
        clear hbd7 hk7 hq
        clear HBd HTB HC HM HEQ
        go_wp2_with fail
        go_roundw
        case rel => exact ⟨j + 1, by omega, by go_num, HBd7, hK, hp⟩
        case measure => simp [intOf]; omega
      · have hj1 : (j : Int) > 0 := by omega
        have hj2 : 0 < j := by omega
        have HEQ : Hid (sepText txt true (ts.take (j + 1)) = sepText txt true (ts.take j) ++ [44, 32] ++ txt t) := Lib.hid (by
          rw [HST.out, show (j == 0) = false by simp [hj0]]; simp)
        have HLL2 := Lib.hid (show (l0 ++ sepText txt true (ts.take j)).length + 2 + (txt t).length ≤ 1000000000 by
          have := HLL.out; rw [show (j == 0) = false by simp [hj0]] at this; simpa using this)
        clear hj0 HST HLL
        have HW := Lib.hid (WriteS B b _ cSep X2 HBd.out (by have := HLL2.out; have hc : cSep.size = 2 := rfl; omega) (by omega))
        go_upto_region 6 with (fail)
        apply wp_region_lit
        (with_reducible refine wl_k ?_ ?_); exact rfl; intro K hK; go_simp; refine hK _ ?_; clear hK K
        (with_reducible apply wl_oneG); exact rfl; exact rfl; exact g72 hp
        (with_reducible refine wl_ck ?_ ?_); exact rfl; intro K hK; go_simp; refine ⟨_, _, ⟨rfl, rfl⟩, hK _ _ ⟨_, HW.out, ?_⟩⟩; clear hK K; rintro e w6 ⟨rfl, hbd6, hk6⟩; refine ⟨_, rfl, ?_⟩; simp only [put_lit, List.set_cons_zero, List.set_cons_succ]
        have hk6s := hk6.size
        replace HTB := Lib.hid (HTB.out.kb HD.out hk6)
        replace hp := hk6.look hp hpb (by decide)
        replace hq := hk6.look hq hqb (by decide)
        replace hK := hK.trans hk6
        have HBd6 := Lib.hid hbd6
        clear hk6 hbd6 HW HBd
        have HC := Lib.hid (HI.out t HM.out w6 B b _ D _ HBd6.out (by omega) (by have := HLL2.out; rw [List.length_append]; have hc : cSep.data.toList.length = 2 := rfl; omega) HTB.out HD.out)
        go_upto_region 7 with (fail)
        apply wp_region_lit
        (with_reducible refine wl_k ?_ ?_); exact rfl; intro K hK; go_simp; refine hK _ ?_; clear hK K
        (first | ((with_reducible apply wl_oneG); exact rfl; exact rfl; first | exact f0 (by with_reducible assumption) | exact f1 (by with_reducible assumption) | exact f2 (by with_reducible assumption) | exact f3 (by with_reducible assumption) | with_reducible assumption | exact g22 (by with_reducible assumption) | exact g25 (by with_reducible assumption)) | ((with_reducible apply wl_rowG); exact rfl; exact rfl; first | with_reducible assumption | exact RowK.now (by with_reducible assumption) | exact f4 (by with_reducible assumption)))
        (with_reducible refine wl_ck ?_ ?_); exact rfl; intro K hK; go_simp; refine ⟨_, _, ⟨rfl, rfl⟩, hK _ _ ⟨_, HC.out, ?_⟩⟩; clear hK K; rintro e w7 ⟨rfl, hbd7, hk7⟩; refine ⟨_, rfl, ?_⟩; simp only [put_lit, List.set_cons_zero, List.set_cons_succ]
        have HBd7 : Hid (Bd w7 B b (l0 ++ sepText txt true (ts.take (j + 1)))) := Lib.hid (by
          rw [HEQ.out]; simpa [cSep] using hbd7)
        replace hp := hk7.look hp hpb (by decide)
        replace hK := hK.trans hk7
        clear hbd7 hk7 hq
        clear HTB HC HM HEQ HBd6 HLL2
        go_wp2_with fail
        go_roundw
        case rel => exact ⟨j + 1, by omega, by go_num, HBd7, hK, hp⟩
        case measure => simp [intOf]; omega
    · have hltI : ¬ (j : Int) < (l : Int) := by omega
      replace HBd : Hid (Bd wr B b (l0 ++ sepText txt true ts)) := Lib.hid (by have := HBd.out; rwa [List.take_of_length_le (by rw [HL.out]; omega)] at this)
      go_wp2_with fail
      go_end0
      exact ⟨rfl, HBd.out, hK⟩
end Go.Proofs.YtokmaehefenpmaaGreatDoor
namespace Go.Proofs.YtokmaehefenpmaaGreatDoor
open Go.RowKit Go.Proofs.YtokmaehefenpmaaGreatDoor.Nm
set_option linter.unusedSimpArgs false
theorem lit_cast {ops : Array Oper} (e : ops = opsW) : LitOps ops := by rw [e]; exact litOps
theorem ex_mm {o : Oper} (ho : o.op = .makeMap 63 none) (ev : Operand → Value) (w : World) : (execOp ev o).run Tryz.prog w = .ok (.value (.map (some w.heap.size))) (w.alloc (.map #[] 0)) := by
  unfold execOp
  simp [ho, run_makeMap, Result.andThen]
def wordOf (s : ByteArray) (z : ByteArray) (i : Nat) : ByteArray := valOf s (⟨#[36]⟩ ++ s) (⟨#[97, 110, 121, 32]⟩ ++ s) (⟨#[63]⟩ ++ z) i
theorem key8 : ∀ i, i ∈ insL → (keyOf i == 8) = false := by decide
theorem key10 : ∀ i, i ∈ insL → (keyOf i == 10) = false := by decide
theorem run_look {r : Nat} {es : Array MapEntry} {c : Nat} {k : Int} {m : Nat} {v : ByteArray} (w : World) (hb : w.heap[r]? = some (.map es c)) (hf : Instr.findNow (.int .i64) (.int .i64 k) es.toList 0 = some (some (m, .string v))) : (Instr.lookup 63 (.map (some r)) (.int .i64 k) false).run Tryz.prog w = .ok (.string v) w := by
  unfold Instr.lookup
  simp [Sem.run_bind, run_underlying u104, Result.andThen, MapKept.run_getObj_map hb, MapKept.run_checkKey u3 (k := .int .i64 k) rfl _ 9999, MapKept.run_findKey u3 hf]
theorem ex_look {ev : Operand → Value} {o : Oper} {w : World} (x y : Operand) (ho : o.op = .lookup 63 x y false) {r : Nat} {es : Array MapEntry} {c : Nat} {k : Int} {m : Nat} {v : ByteArray} (hx : ev x = .map (some r)) (hy : ev y = .int .i64 k) (hb : w.heap[r]? = some (.map es c)) (hf : Instr.findNow (.int .i64) (.int .i64 k) es.toList 0 = some (some (m, .string v))) :
    (execOp ev o).run Tryz.prog w = .ok (.value (.string v)) w := by
  unfold execOp
  simp [ho, hx, hy, run_look w hb hf, Result.andThen]
theorem run_cat (z : ByteArray) (hz : ¬ 9223372036854775807 < 1 + z.size) (A : Act) (hA : A.eval (.tmp 18) = .string z) (o : Oper) (w : World) (ho : o.op = .binOp .add 9 (.const (.string ⟨#[63]⟩)) (.tmp 18) 9) : (execOp A.eval o).run Tryz.prog w = .ok (.value (.string (⟨#[63]⟩ ++ z))) w := by
  have e2 : A.eval (.const (.string ⟨#[63]⟩)) = .string ⟨#[63]⟩ := rfl
  unfold execOp
  simp only [ho, hA, e2]
  have h3 := Tryz.underlying9
  simp [go_sem, hz]
/-- The ten entries come, from the start. -/
theorem lit_A {ops : Array Oper} (hO : LitOps ops) {W0 : World} {r : Nat} {n : Int} {v9 v12 v15 z : ByteArray} {A0 A1 A2 : Act} (h1 : A0.put (some 18) (.string z) = A1) (h2 : A1.put (some 19) (.string (⟨#[63]⟩ ++ z)) = A2) (hz : ¬ 9223372036854775807 < 1 + z.size) (hr : W0.heap.size ≤ r)
    (m0 : A0.eval (.tmp 7) = .map (some r) ∧ A0.eval (.tmp 9) = .string v9 ∧ A0.eval (.tmp 12) = .string v12 ∧ A0.eval (.tmp 15) = .string v15) (m1 : A1.eval (.tmp 7) = .map (some r) ∧ A1.eval (.tmp 9) = .string v9 ∧ A1.eval (.tmp 12) = .string v12 ∧ A1.eval (.tmp 15) = .string v15) (m2 : A2.eval (.tmp 7) = .map (some r) ∧ A2.eval (.tmp 9) = .string v9 ∧ A2.eval (.tmp 12) = .string v12 ∧ A2.eval (.tmp 15) = .string v15)
    (q1 : A1.eval (.tmp 18) = .string z) (q2 : A2.eval (.tmp 19) = .string (⟨#[63]⟩ ++ z)) (n0 : A0.eval (.tmp 17) = .int .i64 n) (call : ∀ w, Calls Tryz.prog 50 #[.int .i64 n] w fun e w' => e = .returned (.string z) ∧ w' = w)
    {Q : Exit → Act → World → Prop} {L : Array Bool} (hL : L = listedOf fun _ => false) {w : World} (hm : w.heap[r]? = some (.map #[] 0)) (hb : Below W0.heap.size W0 w)
    (hK : ∀ w es c, w.heap[r]? = some (.map es c) → GoodE (valOf v9 v12 v15 (⟨#[63]⟩ ++ z)) (fun _ => true) es → Below W0.heap.size W0 w → wpAnyH Tryz.prog .any ops Q (Below W0.heap.size W0) 2 (listedOf fun _ => true) A2 w) :
    wpAnyH Tryz.prog .any ops Q (Below W0.heap.size W0) 14 L A0 w := by
  subst hL
  have F : LitFr ops W0 r n v9 v12 v15 z (⟨#[63]⟩ ++ z) A0 A1 A2 := ⟨hr, fun A hA => by
    rcases hA with rfl | rfl | rfl
    · exact m0
    · exact m1
    · exact m2, q2, n0, fun w _ => call w, h1, fun o w ho => run_cat z hz A1 q1 o w ho, h2⟩
  exact lit_any hO F hK 12 (fun _ => false) (fun h => by cases h) (fun h => by cases h) rfl w #[] 0 hm ⟨fun e he => by simp at he, fun i _ h => by cases h⟩ hb
/-- They come, once the number's text is there. -/
theorem lit_B {ops : Array Oper} (hO : LitOps ops) {W0 : World} {r : Nat} {n : Int} {v9 v12 v15 z : ByteArray} {A : Act} (h1 : A.put (some 18) (.string z) = A) (h2 : A.put (some 19) (.string (⟨#[63]⟩ ++ z)) = A) (hz : ¬ 9223372036854775807 < 1 + z.size) (hr : W0.heap.size ≤ r)
    (m0 : A.eval (.tmp 7) = .map (some r) ∧ A.eval (.tmp 9) = .string v9 ∧ A.eval (.tmp 12) = .string v12 ∧ A.eval (.tmp 15) = .string v15)
    (q1 : A.eval (.tmp 18) = .string z) (q2 : A.eval (.tmp 19) = .string (⟨#[63]⟩ ++ z)) (n0 : A.eval (.tmp 17) = .int .i64 n) (call : ∀ w, Calls Tryz.prog 50 #[.int .i64 n] w fun e w' => e = .returned (.string z) ∧ w' = w)
    {Q : Exit → Act → World → Prop} {L : Array Bool} (hL : L = listedOf fun j => j == 20 || j == 21) {w : World} (hm : w.heap[r]? = some (.map #[] 0)) (hb : Below W0.heap.size W0 w)
    (hK : ∀ w es c, w.heap[r]? = some (.map es c) → GoodE (valOf v9 v12 v15 (⟨#[63]⟩ ++ z)) (fun _ => true) es → Below W0.heap.size W0 w → wpAnyH Tryz.prog .any ops Q (Below W0.heap.size W0) 2 (listedOf fun _ => true) A w) :
    wpAnyH Tryz.prog .any ops Q (Below W0.heap.size W0) 12 L A w := by
  subst hL
  have F : LitFr ops W0 r n v9 v12 v15 z (⟨#[63]⟩ ++ z) A A A := ⟨hr, fun A hA => by
    rcases hA with rfl | rfl | rfl <;> exact m0, q2, n0, fun w _ => call w, h1, fun o w ho => run_cat z hz A q1 o w ho, h2⟩
  have := lit_any hO F hK 10 (fun j => j == 20 || j == 21) (fun _ => rfl) (fun h => by simp at h) rfl w #[] 0 hm ⟨fun e he => by simp at he, fun i hi h => by
    have := ins_ne i hi
    simp only [Bool.or_eq_true, beq_iff_eq] at h
    rcases h with rfl | rfl
    · simp at this
    · simp at this⟩ hb
  have e : frOf A A A (fun j => j == 20 || j == 21) = A := rfl
  rw [e] at this
  exact this
set_option maxHeartbeats 4000000 in
set_option maxRecDepth 100000 in
theorem typ_simple (txt : Ty → List UInt8) (k : Int) (s : ByteArray) (n : Nat) (ts : List Ty) (i : Nat) (hi : i ∈ insL) (hk : keyOf i = k) (hn : n < 100) (hdl : (⟨(Lib.decDigits n).toArray⟩ : ByteArray).size ≤ 100) (hsz : s.size ≤ 1000000000) (hC : ∀ t, t ∈ ts → TypC txt t)
    (htxt : txt (.node k s n ts) = (wordOf s ⟨(Lib.decDigits n).toArray⟩ i).data.toList ++ if ts = [] then [] else [60] ++ sepText txt true ts ++ [62]) : TypC txt (.node k s n ts) := by
  intro w B b l0 D row hBd hB hlen h hD
  have hmf : ∀ (fn : Fn) (first cap : Array Value) (w : World), (Instr.makeFunc fn first cap).run Tryz.prog w = .ok (.func fn first cap) w := fun _ _ _ _ => rfl
  obtain ⟨k1, s1, n1, A, l, c, ts1, e, rfl, -, -, -, hT⟩ := h.parts
  cases e
  have HT := Lib.hid hT
  have HL := Lib.hid hT.len
  have HI := Lib.hid hC
  have HD := Lib.hid hD
  have HLN := Lib.hid hlen
  have HTX := Lib.hid htxt
  have hbl := hBd.lt
  have HB0 := Lib.hid hBd
  have HIN := Lib.hid hi
  have HKI := Lib.hid hk
  clear hT hC hD hlen hBd h htxt hi hk
  have hb := Below.refl w.heap.size w
  go_enter Tryz.func42, Tryz.ntmps42
  go_upto_region 0 with (fail)
  apply wp_region_lit
  (with_reducible refine wl_box76 rfl ?_); intro W p hbn hlp hp; replace hb := hb.trans (hbn.mono hb.size); clear hbn; simp only [put_lit, List.set_cons_zero, List.set_cons_succ]
  have lthpq := heap_lt hp; (with_reducible refine wl_box rfl ?_); intro W0 q hbn hlq hq; replace hp := below_look hbn hp; replace hb := hb.trans (hbn.mono hb.size); clear hbn; simp only [put_lit, List.set_cons_zero, List.set_cons_succ]
  have hpb : p ≠ b := by omega
  have hqb : q ≠ b := by have := heap_lt hp; omega
  have e8 : (k == 8) = false := by rw [← HKI.out]; exact key8 i HIN.out
  have e10 : (k == 10) = false := by rw [← HKI.out]; exact key10 i HIN.out
  have HWL : Hid ((wordOf s ⟨(Lib.decDigits n).toArray⟩ i).size ≤ (txt (.node k s n ts)).length) := Lib.hid (by rw [HTX.out, List.length_append]; exact Nat.le_add_right _ _)
  go_upto_region 1 with (fail)
  refine wp_region_held_drew (S := Below W0.heap.size W0) mixed ((Below.refl _ W0).drew) (fun hS => ?_)
  have hz1 : ¬ 9223372036854775807 < 1 + s.size := by omega
  have hz4 : ¬ 9223372036854775807 < 4 + s.size := by omega
  refine ha_k (i := 7) rfl (by kernel_rfl) (by kernel_rfl) (by kernel_rfl) (fun _ _ _ _ h => h) hS rfl (fun K hK => ?_); go_simp; refine hK _ ?_; clear hK K; try simp only [put_lit, List.set_cons_zero, List.set_cons_succ]
  refine ha_val (i := 8) rfl (by kernel_rfl) (by kernel_rfl) (by kernel_rfl) (fun _ _ _ h => h) hS rfl (fun w' hw' => ex_one rfl (f1 (below_look hw' hq))) ?_; try simp only [put_lit, List.set_cons_zero, List.set_cons_succ]
  refine ha_k (i := 10) rfl (by kernel_rfl) (by kernel_rfl) (by kernel_rfl) (fun _ _ _ _ h => h) hS rfl (fun K hK => ?_); go_simp; refine hK _ ?_; clear hK K; try simp only [put_lit, List.set_cons_zero, List.set_cons_succ]
  refine ha_val (i := 11) rfl (by kernel_rfl) (by kernel_rfl) (by kernel_rfl) (fun _ _ _ h => h) hS rfl (fun w' hw' => ex_one rfl (f1 (below_look hw' hq))) ?_; try simp only [put_lit, List.set_cons_zero, List.set_cons_succ]
  refine ha_k (i := 12) rfl (by kernel_rfl) (by kernel_rfl) (by kernel_rfl) (fun _ _ _ _ h => h) hS rfl (fun K hK => ?_); go_simp; refine hK _ ?_; clear hK K; try simp only [put_lit, List.set_cons_zero, List.set_cons_succ]
  refine ha_k (i := 14) rfl (by kernel_rfl) (by kernel_rfl) (by kernel_rfl) (fun _ _ _ _ h => h) hS rfl (fun K hK => ?_); go_simp; refine hK _ ?_; clear hK K; try simp only [put_lit, List.set_cons_zero, List.set_cons_succ]
  refine ha_val (i := 15) rfl (by kernel_rfl) (by kernel_rfl) (by kernel_rfl) (fun _ _ _ h => h) hS rfl (fun w' hw' => ex_one rfl (f1 (below_look hw' hq))) ?_; try simp only [put_lit, List.set_cons_zero, List.set_cons_succ]
  refine ha_k (i := 16) rfl (by kernel_rfl) (by kernel_rfl) (by kernel_rfl) (fun _ _ _ _ h => h) hS rfl (fun K hK => ?_); go_simp; refine hK _ ?_; clear hK K; try simp only [put_lit, List.set_cons_zero, List.set_cons_succ]
  refine ha_k (i := 18) rfl (by kernel_rfl) (by kernel_rfl) (by kernel_rfl) (fun _ _ _ _ h => h) hS rfl (fun K hK => ?_); go_simp; refine hK _ ?_; clear hK K; try simp only [put_lit, List.set_cons_zero, List.set_cons_succ]
  refine ha_val (i := 19) rfl (by kernel_rfl) (by kernel_rfl) (by kernel_rfl) (fun _ _ _ h => h) hS rfl (fun w' hw' => ex_one rfl (f2 (below_look hw' hq))) ?_; try simp only [put_lit, List.set_cons_zero, List.set_cons_succ]
  clear hz1 hz4
  obtain ⟨z, hz⟩ : ∃ z, z = (⟨(Lib.decDigits n).toArray⟩ : ByteArray) := ⟨_, rfl⟩
  have HZ := Lib.hid hz
  have hzl : ¬ 9223372036854775807 < 1 + z.size := by rw [hz]; omega
  have HCI : Hid (∀ w, Calls Tryz.prog 50 #[.int .i64 (n : Int)] w fun e w' => e = .returned (.string z) ∧ w' = w) := Lib.hid fun w => by rw [hz]; exact Tryz.strconv_Itoa_small n hn w
  clear hz
  refine ha_two (i := 0) (j := 20) (by kernel_rfl) ?_ ?_
  · have hbm : Below W0.heap.size W0 (W0.drew.alloc (.map #[] 0)) := (Below.refl _ W0).drew.alloc (Nat.le_refl _) _
    refine sh_do (i := 0) rfl rfl (ex_mm rfl _ _) hbm ?_
    try simp only [List.getElem_toArray, List.getElem_cons_succ, List.getElem_cons_zero, put_lit, List.set_cons_zero, List.set_cons_succ]
    refine lit_A (lit_cast (by kernel_rfl)) rfl rfl hzl (r := W0.heap.size) (Nat.le_refl _) ⟨rfl, rfl, rfl, rfl⟩ ⟨rfl, rfl, rfl, rfl⟩ ⟨rfl, rfl, rfl, rfl⟩ rfl rfl rfl HCI.out (by kernel_rfl) (ha_new rfl) hbm ?_
    intro w1 es c1 hm hG hb1
    obtain ⟨m, hfind⟩ := hG.hit HIN.out rfl
    rw [HKI.out] at hfind
    have HFD := Lib.hid hfind
    obtain ⟨wd, hwd⟩ : ∃ wd, wd = wordOf s z i := ⟨_, rfl⟩
    replace HFD : Hid (Instr.findNow (.int .i64) (.int .i64 k) es.toList 0 = some (some (m, .string wd))) := Lib.hid (by rw [hwd]; exact hfind)
    have HWD := Lib.hid hwd
    have hS := hb1
    clear hG hfind hwd
    try simp only [List.getElem_toArray, List.getElem_cons_succ, List.getElem_cons_zero, put_lit, List.set_cons_zero, List.set_cons_succ]
    refine ha_k (i := 23) rfl (by kernel_rfl) (by kernel_rfl) (by kernel_rfl) (fun _ _ _ _ h => h) hS rfl (fun K hK => ?_); go_simp; refine hK _ ?_; clear hK K; try simp only [put_lit, List.set_cons_zero, List.set_cons_succ]
    refine ha_k (i := 24) rfl (by kernel_rfl) (by kernel_rfl) (by kernel_rfl) (fun _ _ _ _ h => h) hS rfl (fun K hK => ?_); go_simp; refine hK _ ?_; clear hK K; try simp only [put_lit, List.set_cons_zero, List.set_cons_succ]
    clear hS
    refine wpAnyH_done (by kernel_rfl) ?_ _
    replace hp := below_look hb1 hp
    replace hq := below_look hb1 hq
    have hb2 := hb.trans (hb1.mono hb.size)
    have hK : Kb B b w w1 := Kb.of hb2 hB
    have HBd := Lib.hid (HB0.out.old hb2)
    have hsz1 := hb2.size
    have HTW := Lib.hid (HT.out.old hb2)
    clear hb1 hb2
    go_upto_region 2 with (fail)
    apply wp_region_lit
    (with_reducible refine wl_k ?_ ?_); exact rfl; intro K hK; go_simp; refine hK _ ?_; clear hK K
    (with_reducible apply wl_oneG); exact rfl; exact rfl; exact g72 hp
    (with_reducible refine wl_k ?_ ?_); exact rfl; intro K hK; go_simp; refine hK _ ?_; clear hK K
    (with_reducible refine wl_k ?_ ?_); exact rfl; intro K hK; go_simp; refine hK _ ?_; clear hK K
    go_upto_region 3 with (fail)
    apply wp_region_lit
    (with_reducible refine wl_k ?_ ?_); exact rfl; intro K hK; go_simp; refine hK _ ?_; clear hK K
    (first | ((with_reducible apply wl_oneG); exact rfl; exact rfl; first | exact f0 (by with_reducible assumption) | exact f1 (by with_reducible assumption) | exact f2 (by with_reducible assumption) | exact f3 (by with_reducible assumption) | with_reducible assumption | exact g22 (by with_reducible assumption) | exact g25 (by with_reducible assumption)) | ((with_reducible apply wl_rowG); exact rfl; exact rfl; first | with_reducible assumption | exact RowK.now (by with_reducible assumption) | exact f4 (by with_reducible assumption)))
    go_upto_region 9 with (fail)
    apply wp_region_lit
    (with_reducible refine wl_k ?_ ?_); exact rfl; intro K hK; go_simp; refine hK _ ?_; clear hK K
    (with_reducible refine wl_k ?_ ?_); exact rfl; intro K hK; go_simp; refine hK _ ?_; clear hK K
    go_upto_region 12 with (fail)
    apply wp_region_lit
    (with_reducible refine wl_k ?_ ?_); exact rfl; intro K hK; go_simp; refine hK _ ?_; clear hK K
    (with_reducible refine wl_k ?_ ?_); exact rfl; intro K hK; go_simp; refine hK _ ?_; clear hK K
    have HW := Lib.hid (WriteS B b _ wd w1 HBd.out (by have := HLN.out; have := HWL.out; rw [HWD.out, HZ.out]; omega) (by omega))
    go_upto_region 4 with (fail)
    apply wp_region_lit
    (with_reducible refine wl_k ?_ ?_); exact rfl; intro K hK; go_simp; refine hK _ ?_; clear hK K
    (with_reducible refine wl_k ?_ ?_); exact rfl; intro K hK; go_simp; refine hK _ ?_; clear hK K
    (with_reducible refine wl_k ?_ ?_); exact rfl; intro K hK; go_simp; refine hK _ ?_; clear hK K
    (first | ((with_reducible apply wl_oneG); exact rfl; exact rfl; first | exact f0 (by with_reducible assumption) | exact f1 (by with_reducible assumption) | exact f2 (by with_reducible assumption) | exact f3 (by with_reducible assumption) | with_reducible assumption | exact g22 (by with_reducible assumption) | exact g25 (by with_reducible assumption)) | ((with_reducible apply wl_rowG); exact rfl; exact rfl; first | with_reducible assumption | exact RowK.now (by with_reducible assumption) | exact f4 (by with_reducible assumption)))
    refine wl_val rfl (ex_look _ _ rfl rfl rfl hm HFD.out) ?_
    simp only [put_lit, List.set_cons_zero, List.set_cons_succ]
    (with_reducible refine wl_ck ?_ ?_); exact rfl; intro K hK; go_simp; refine ⟨_, _, ⟨rfl, rfl⟩, hK _ _ ⟨_, HW.out, ?_⟩⟩; clear hK K; rintro e w6 ⟨rfl, hbd6, hk6⟩; refine ⟨_, rfl, ?_⟩; simp only [put_lit, List.set_cons_zero, List.set_cons_succ]
    replace HTW := Lib.hid (HTW.out.kb HD.out hk6)
    replace hp := hk6.look hp hpb (by decide)
    replace hq := hk6.look hq hqb (by decide)
    have hsz6 := hk6.size
    replace hK := hK.trans hk6
    replace HBd := Lib.hid hbd6
    clear hk6 hbd6 HW hm HFD
    by_cases hts : ts = []
    · have hl0 : l = 0 := by rw [← HL.out, hts]; rfl
      have HFIN : Hid (l0 ++ txt (.node k s n ts) = l0 ++ wd.data.toList) := Lib.hid (by rw [HTX.out, if_pos hts, List.append_nil, HWD.out, HZ.out])
      subst hl0
      clear hts
      go_upto_region 5 with (fail)
      apply wp_region_lit
      (with_reducible refine wl_k ?_ ?_); exact rfl; intro K hK; go_simp; refine hK _ ?_; clear hK K
      (first | ((with_reducible apply wl_oneG); exact rfl; exact rfl; first | exact f0 (by with_reducible assumption) | exact f1 (by with_reducible assumption) | exact f2 (by with_reducible assumption) | exact f3 (by with_reducible assumption) | with_reducible assumption | exact g22 (by with_reducible assumption) | exact g25 (by with_reducible assumption)) | ((with_reducible apply wl_rowG); exact rfl; exact rfl; first | with_reducible assumption | exact RowK.now (by with_reducible assumption) | exact f4 (by with_reducible assumption)))
      (with_reducible refine wl_k ?_ ?_); exact rfl; intro K hK; go_simp; refine hK _ ?_; clear hK K
      (with_reducible refine wl_k ?_ ?_); exact rfl; intro K hK; go_simp; refine hK _ ?_; clear hK K
      go_wp2_with fail
      go_end0
      exact ⟨rfl, by rw [HFIN.out]; exact HBd.out, hK⟩
    · have hlp : (l : Int) > 0 := by have := HL.out; have : 0 < ts.length := List.length_pos_iff.2 hts; omega
      have hlp2 : 0 < l := by omega
      have HFIN : Hid (l0 ++ txt (.node k s n ts) = l0 ++ wd.data.toList ++ [60] ++ sepText txt true ts ++ [62]) := Lib.hid (by rw [HTX.out, if_neg hts, HWD.out, HZ.out]; simp)
      have HLF := Lib.hid (show l0.length + wd.data.toList.length + 1 + (sepText txt true ts).length + 1 ≤ 1000000000 by
        have h1 := HLN.out
        have h2 := congrArg List.length HFIN.out
        simp only [List.length_append, List.length_cons, List.length_nil] at h2
        omega)
      clear hts
      have HW2 := Lib.hid (WriteS B b _ ⟨#[60]⟩ w6 HBd.out (by have := HLF.out; rw [List.length_append]; have hc : (⟨#[60]⟩ : ByteArray).size = 1 := rfl; omega) (by omega))
      go_upto_region 5 with (fail)
      apply wp_region_lit
      (with_reducible refine wl_k ?_ ?_); exact rfl; intro K hK; go_simp; refine hK _ ?_; clear hK K
      (first | ((with_reducible apply wl_oneG); exact rfl; exact rfl; first | exact f0 (by with_reducible assumption) | exact f1 (by with_reducible assumption) | exact f2 (by with_reducible assumption) | exact f3 (by with_reducible assumption) | with_reducible assumption | exact g22 (by with_reducible assumption) | exact g25 (by with_reducible assumption)) | ((with_reducible apply wl_rowG); exact rfl; exact rfl; first | with_reducible assumption | exact RowK.now (by with_reducible assumption) | exact f4 (by with_reducible assumption)))
      (with_reducible refine wl_k ?_ ?_); exact rfl; intro K hK; go_simp; refine hK _ ?_; clear hK K
      (with_reducible refine wl_k ?_ ?_); exact rfl; intro K hK; go_simp; refine hK _ ?_; clear hK K
      go_upto_region 6 with (fail)
      apply wp_region_lit
      (with_reducible refine wl_k ?_ ?_); exact rfl; intro K hK; go_simp; refine hK _ ?_; clear hK K
      (with_reducible refine wl_ck ?_ ?_); exact rfl; intro K hK; go_simp; refine ⟨_, _, ⟨rfl, rfl⟩, hK _ _ ⟨_, HW2.out, ?_⟩⟩; clear hK K; rintro e w7 ⟨rfl, hbd7, hk7⟩; refine ⟨_, rfl, ?_⟩; simp only [put_lit, List.set_cons_zero, List.set_cons_succ]
      replace HTW := Lib.hid (HTW.out.kb HD.out hk7)
      replace hp := hk7.look hp hpb (by decide)
      replace hq := hk7.look hq hqb (by decide)
      have hsz7 := hk7.size
      replace hK := hK.trans hk7
      replace HBd : Hid (Bd w7 B b (l0 ++ wd.data.toList ++ [60])) := Lib.hid hbd7
      clear hk7 hbd7 HW2
      have HC := Lib.hid (list_any txt ts HI.out w7 B b _ D A l c HBd.out (by omega) (by have := HLF.out; simp only [List.length_append, List.length_cons, List.length_nil]; omega) HTW.out HD.out)
      go_upto_region 7 with (fail)
      apply wp_region_lit
      (with_reducible apply wl_rowG); exact rfl; exact rfl; exact g76 hp
      (with_reducible refine wl_k ?_ ?_); exact rfl; intro K hK; go_simp; refine hK _ ?_; clear hK K
      (first | ((with_reducible apply wl_oneG); exact rfl; exact rfl; first | exact f0 (by with_reducible assumption) | exact f1 (by with_reducible assumption) | exact f2 (by with_reducible assumption) | exact f3 (by with_reducible assumption) | with_reducible assumption | exact g22 (by with_reducible assumption) | exact g25 (by with_reducible assumption)) | ((with_reducible apply wl_rowG); exact rfl; exact rfl; first | with_reducible assumption | exact RowK.now (by with_reducible assumption) | exact f4 (by with_reducible assumption)))
      (with_reducible refine wl_ck ?_ ?_); exact rfl; intro K hK; go_simp; refine ⟨_, _, ⟨rfl, rfl⟩, hK _ _ ⟨_, HC.out, ?_⟩⟩; clear hK K; rintro e w8 ⟨rfl, hbd8, hk8⟩; refine ⟨_, rfl, ?_⟩; simp only [put_lit, List.set_cons_zero, List.set_cons_succ]
      have hsz8 := hk8.size
      replace hK := hK.trans hk8
      replace HBd := Lib.hid hbd8
      clear hk8 hbd8 HC hp hq
      have HW3 := Lib.hid (WriteS B b _ ⟨#[62]⟩ w8 HBd.out (by have := HLF.out; simp only [List.length_append, List.length_cons, List.length_nil]; have hc : (⟨#[62]⟩ : ByteArray).size = 1 := rfl; omega) (by omega))
      go_upto_region 8 with (fail)
      apply wp_region_lit
      (with_reducible refine wl_k ?_ ?_); exact rfl; intro K hK; go_simp; refine hK _ ?_; clear hK K
      (with_reducible refine wl_ck ?_ ?_); exact rfl; intro K hK; go_simp; refine ⟨_, _, ⟨rfl, rfl⟩, hK _ _ ⟨_, HW3.out, ?_⟩⟩; clear hK K; rintro e w9 ⟨rfl, hbd9, hk9⟩; refine ⟨_, rfl, ?_⟩; simp only [put_lit, List.set_cons_zero, List.set_cons_succ]
      replace hK := hK.trans hk9
      replace HBd : Hid (Bd w9 B b (l0 ++ wd.data.toList ++ [60] ++ sepText txt true ts ++ [62])) := Lib.hid hbd9
      clear hk9 hbd9 HW3
      go_wp2_with fail
      go_end0
      exact ⟨rfl, by rw [HFIN.out]; exact HBd.out, hK⟩
  · refine sh_call (i := 20) rfl rfl (fun K hK => ?_)
    go_simp; refine ⟨_, _, ⟨rfl, rfl⟩, hK _ _ ⟨_, HCI.out _, ?_⟩⟩; clear hK K; rintro e w20 ⟨rfl, rfl⟩; refine ⟨_, rfl, (Below.refl _ W0).drew, ?_⟩
    try simp only [List.getElem_toArray, List.getElem_cons_succ, List.getElem_cons_zero, put_lit, List.set_cons_zero, List.set_cons_succ]
    refine ha_k (i := 21) rfl (by kernel_rfl) (by kernel_rfl) (by kernel_rfl) (fun _ _ _ _ h => h) hS rfl (fun K hK => ?_); go_simp; refine hK _ ?_; clear hK K; try simp only [put_lit, List.set_cons_zero, List.set_cons_succ]
    have hbm : Below W0.heap.size W0 (W0.drew.alloc (.map #[] 0)) := (Below.refl _ W0).drew.alloc (Nat.le_refl _) _
    refine ha_do (i := 0) (by kernel_rfl) rfl rfl (ex_mm rfl _ _) hbm ?_
    try simp only [List.getElem_toArray, List.getElem_cons_succ, List.getElem_cons_zero, put_lit, List.set_cons_zero, List.set_cons_succ]
    refine lit_B (lit_cast (by kernel_rfl)) rfl rfl hzl (r := W0.heap.size) (Nat.le_refl _) ⟨rfl, rfl, rfl, rfl⟩ rfl rfl rfl HCI.out (by kernel_rfl) (ha_new rfl) hbm ?_
    intro w1 es c1 hm hG hb1
    obtain ⟨m, hfind⟩ := hG.hit HIN.out rfl
    rw [HKI.out] at hfind
    have HFD := Lib.hid hfind
    obtain ⟨wd, hwd⟩ : ∃ wd, wd = wordOf s z i := ⟨_, rfl⟩
    replace HFD : Hid (Instr.findNow (.int .i64) (.int .i64 k) es.toList 0 = some (some (m, .string wd))) := Lib.hid (by rw [hwd]; exact hfind)
    have HWD := Lib.hid hwd
    have hS := hb1
    clear hG hfind hwd
    try simp only [List.getElem_toArray, List.getElem_cons_succ, List.getElem_cons_zero, put_lit, List.set_cons_zero, List.set_cons_succ]
    refine ha_k (i := 23) rfl (by kernel_rfl) (by kernel_rfl) (by kernel_rfl) (fun _ _ _ _ h => h) hS rfl (fun K hK => ?_); go_simp; refine hK _ ?_; clear hK K; try simp only [put_lit, List.set_cons_zero, List.set_cons_succ]
    refine ha_k (i := 24) rfl (by kernel_rfl) (by kernel_rfl) (by kernel_rfl) (fun _ _ _ _ h => h) hS rfl (fun K hK => ?_); go_simp; refine hK _ ?_; clear hK K; try simp only [put_lit, List.set_cons_zero, List.set_cons_succ]
    clear hS
    refine wpAnyH_done (by kernel_rfl) ?_ _
    replace hp := below_look hb1 hp
    replace hq := below_look hb1 hq
    have hb2 := hb.trans (hb1.mono hb.size)
    have hK : Kb B b w w1 := Kb.of hb2 hB
    have HBd := Lib.hid (HB0.out.old hb2)
    have hsz1 := hb2.size
    have HTW := Lib.hid (HT.out.old hb2)
    clear hb1 hb2
    go_upto_region 2 with (fail)
    apply wp_region_lit
    (with_reducible refine wl_k ?_ ?_); exact rfl; intro K hK; go_simp; refine hK _ ?_; clear hK K
    (with_reducible apply wl_oneG); exact rfl; exact rfl; exact g72 hp
    (with_reducible refine wl_k ?_ ?_); exact rfl; intro K hK; go_simp; refine hK _ ?_; clear hK K
    (with_reducible refine wl_k ?_ ?_); exact rfl; intro K hK; go_simp; refine hK _ ?_; clear hK K
    go_upto_region 3 with (fail)
    apply wp_region_lit
    (with_reducible refine wl_k ?_ ?_); exact rfl; intro K hK; go_simp; refine hK _ ?_; clear hK K
    (first | ((with_reducible apply wl_oneG); exact rfl; exact rfl; first | exact f0 (by with_reducible assumption) | exact f1 (by with_reducible assumption) | exact f2 (by with_reducible assumption) | exact f3 (by with_reducible assumption) | with_reducible assumption | exact g22 (by with_reducible assumption) | exact g25 (by with_reducible assumption)) | ((with_reducible apply wl_rowG); exact rfl; exact rfl; first | with_reducible assumption | exact RowK.now (by with_reducible assumption) | exact f4 (by with_reducible assumption)))
    go_upto_region 9 with (fail)
    apply wp_region_lit
    (with_reducible refine wl_k ?_ ?_); exact rfl; intro K hK; go_simp; refine hK _ ?_; clear hK K
    (with_reducible refine wl_k ?_ ?_); exact rfl; intro K hK; go_simp; refine hK _ ?_; clear hK K
    go_upto_region 12 with (fail)
    apply wp_region_lit
    (with_reducible refine wl_k ?_ ?_); exact rfl; intro K hK; go_simp; refine hK _ ?_; clear hK K
    (with_reducible refine wl_k ?_ ?_); exact rfl; intro K hK; go_simp; refine hK _ ?_; clear hK K
    have HW := Lib.hid (WriteS B b _ wd w1 HBd.out (by have := HLN.out; have := HWL.out; rw [HWD.out, HZ.out]; omega) (by omega))
    go_upto_region 4 with (fail)
    apply wp_region_lit
    (with_reducible refine wl_k ?_ ?_); exact rfl; intro K hK; go_simp; refine hK _ ?_; clear hK K
    (with_reducible refine wl_k ?_ ?_); exact rfl; intro K hK; go_simp; refine hK _ ?_; clear hK K
    (with_reducible refine wl_k ?_ ?_); exact rfl; intro K hK; go_simp; refine hK _ ?_; clear hK K
    (first | ((with_reducible apply wl_oneG); exact rfl; exact rfl; first | exact f0 (by with_reducible assumption) | exact f1 (by with_reducible assumption) | exact f2 (by with_reducible assumption) | exact f3 (by with_reducible assumption) | with_reducible assumption | exact g22 (by with_reducible assumption) | exact g25 (by with_reducible assumption)) | ((with_reducible apply wl_rowG); exact rfl; exact rfl; first | with_reducible assumption | exact RowK.now (by with_reducible assumption) | exact f4 (by with_reducible assumption)))
    refine wl_val rfl (ex_look _ _ rfl rfl rfl hm HFD.out) ?_
    simp only [put_lit, List.set_cons_zero, List.set_cons_succ]
    (with_reducible refine wl_ck ?_ ?_); exact rfl; intro K hK; go_simp; refine ⟨_, _, ⟨rfl, rfl⟩, hK _ _ ⟨_, HW.out, ?_⟩⟩; clear hK K; rintro e w6 ⟨rfl, hbd6, hk6⟩; refine ⟨_, rfl, ?_⟩; simp only [put_lit, List.set_cons_zero, List.set_cons_succ]
    replace HTW := Lib.hid (HTW.out.kb HD.out hk6)
    replace hp := hk6.look hp hpb (by decide)
    replace hq := hk6.look hq hqb (by decide)
    have hsz6 := hk6.size
    replace hK := hK.trans hk6
    replace HBd := Lib.hid hbd6
    clear hk6 hbd6 HW hm HFD
    by_cases hts : ts = []
    · have hl0 : l = 0 := by rw [← HL.out, hts]; rfl
      have HFIN : Hid (l0 ++ txt (.node k s n ts) = l0 ++ wd.data.toList) := Lib.hid (by rw [HTX.out, if_pos hts, List.append_nil, HWD.out, HZ.out])
      subst hl0
      clear hts
      go_upto_region 5 with (fail)
      apply wp_region_lit
      (with_reducible refine wl_k ?_ ?_); exact rfl; intro K hK; go_simp; refine hK _ ?_; clear hK K
      (first | ((with_reducible apply wl_oneG); exact rfl; exact rfl; first | exact f0 (by with_reducible assumption) | exact f1 (by with_reducible assumption) | exact f2 (by with_reducible assumption) | exact f3 (by with_reducible assumption) | with_reducible assumption | exact g22 (by with_reducible assumption) | exact g25 (by with_reducible assumption)) | ((with_reducible apply wl_rowG); exact rfl; exact rfl; first | with_reducible assumption | exact RowK.now (by with_reducible assumption) | exact f4 (by with_reducible assumption)))
      (with_reducible refine wl_k ?_ ?_); exact rfl; intro K hK; go_simp; refine hK _ ?_; clear hK K
      (with_reducible refine wl_k ?_ ?_); exact rfl; intro K hK; go_simp; refine hK _ ?_; clear hK K
      go_wp2_with fail
      go_end0
      exact ⟨rfl, by rw [HFIN.out]; exact HBd.out, hK⟩
    · have hlp : (l : Int) > 0 := by have := HL.out; have : 0 < ts.length := List.length_pos_iff.2 hts; omega
      have hlp2 : 0 < l := by omega
      have HFIN : Hid (l0 ++ txt (.node k s n ts) = l0 ++ wd.data.toList ++ [60] ++ sepText txt true ts ++ [62]) := Lib.hid (by rw [HTX.out, if_neg hts, HWD.out, HZ.out]; simp)
      have HLF := Lib.hid (show l0.length + wd.data.toList.length + 1 + (sepText txt true ts).length + 1 ≤ 1000000000 by
        have h1 := HLN.out
        have h2 := congrArg List.length HFIN.out
        simp only [List.length_append, List.length_cons, List.length_nil] at h2
        omega)
      clear hts
      have HW2 := Lib.hid (WriteS B b _ ⟨#[60]⟩ w6 HBd.out (by have := HLF.out; rw [List.length_append]; have hc : (⟨#[60]⟩ : ByteArray).size = 1 := rfl; omega) (by omega))
      go_upto_region 5 with (fail)
      apply wp_region_lit
      (with_reducible refine wl_k ?_ ?_); exact rfl; intro K hK; go_simp; refine hK _ ?_; clear hK K
      (first | ((with_reducible apply wl_oneG); exact rfl; exact rfl; first | exact f0 (by with_reducible assumption) | exact f1 (by with_reducible assumption) | exact f2 (by with_reducible assumption) | exact f3 (by with_reducible assumption) | with_reducible assumption | exact g22 (by with_reducible assumption) | exact g25 (by with_reducible assumption)) | ((with_reducible apply wl_rowG); exact rfl; exact rfl; first | with_reducible assumption | exact RowK.now (by with_reducible assumption) | exact f4 (by with_reducible assumption)))
      (with_reducible refine wl_k ?_ ?_); exact rfl; intro K hK; go_simp; refine hK _ ?_; clear hK K
      (with_reducible refine wl_k ?_ ?_); exact rfl; intro K hK; go_simp; refine hK _ ?_; clear hK K
      go_upto_region 6 with (fail)
      apply wp_region_lit
      (with_reducible refine wl_k ?_ ?_); exact rfl; intro K hK; go_simp; refine hK _ ?_; clear hK K
      (with_reducible refine wl_ck ?_ ?_); exact rfl; intro K hK; go_simp; refine ⟨_, _, ⟨rfl, rfl⟩, hK _ _ ⟨_, HW2.out, ?_⟩⟩; clear hK K; rintro e w7 ⟨rfl, hbd7, hk7⟩; refine ⟨_, rfl, ?_⟩; simp only [put_lit, List.set_cons_zero, List.set_cons_succ]
      replace HTW := Lib.hid (HTW.out.kb HD.out hk7)
      replace hp := hk7.look hp hpb (by decide)
      replace hq := hk7.look hq hqb (by decide)
      have hsz7 := hk7.size
      replace hK := hK.trans hk7
      replace HBd : Hid (Bd w7 B b (l0 ++ wd.data.toList ++ [60])) := Lib.hid hbd7
      clear hk7 hbd7 HW2
      have HC := Lib.hid (list_any txt ts HI.out w7 B b _ D A l c HBd.out (by omega) (by have := HLF.out; simp only [List.length_append, List.length_cons, List.length_nil]; omega) HTW.out HD.out)
      go_upto_region 7 with (fail)
      apply wp_region_lit
      (with_reducible apply wl_rowG); exact rfl; exact rfl; exact g76 hp
      (with_reducible refine wl_k ?_ ?_); exact rfl; intro K hK; go_simp; refine hK _ ?_; clear hK K
      (first | ((with_reducible apply wl_oneG); exact rfl; exact rfl; first | exact f0 (by with_reducible assumption) | exact f1 (by with_reducible assumption) | exact f2 (by with_reducible assumption) | exact f3 (by with_reducible assumption) | with_reducible assumption | exact g22 (by with_reducible assumption) | exact g25 (by with_reducible assumption)) | ((with_reducible apply wl_rowG); exact rfl; exact rfl; first | with_reducible assumption | exact RowK.now (by with_reducible assumption) | exact f4 (by with_reducible assumption)))
      (with_reducible refine wl_ck ?_ ?_); exact rfl; intro K hK; go_simp; refine ⟨_, _, ⟨rfl, rfl⟩, hK _ _ ⟨_, HC.out, ?_⟩⟩; clear hK K; rintro e w8 ⟨rfl, hbd8, hk8⟩; refine ⟨_, rfl, ?_⟩; simp only [put_lit, List.set_cons_zero, List.set_cons_succ]
      have hsz8 := hk8.size
      replace hK := hK.trans hk8
      replace HBd := Lib.hid hbd8
      clear hk8 hbd8 HC hp hq
      have HW3 := Lib.hid (WriteS B b _ ⟨#[62]⟩ w8 HBd.out (by have := HLF.out; simp only [List.length_append, List.length_cons, List.length_nil]; have hc : (⟨#[62]⟩ : ByteArray).size = 1 := rfl; omega) (by omega))
      go_upto_region 8 with (fail)
      apply wp_region_lit
      (with_reducible refine wl_k ?_ ?_); exact rfl; intro K hK; go_simp; refine hK _ ?_; clear hK K
      (with_reducible refine wl_ck ?_ ?_); exact rfl; intro K hK; go_simp; refine ⟨_, _, ⟨rfl, rfl⟩, hK _ _ ⟨_, HW3.out, ?_⟩⟩; clear hK K; rintro e w9 ⟨rfl, hbd9, hk9⟩; refine ⟨_, rfl, ?_⟩; simp only [put_lit, List.set_cons_zero, List.set_cons_succ]
      replace hK := hK.trans hk9
      replace HBd : Hid (Bd w9 B b (l0 ++ wd.data.toList ++ [60] ++ sepText txt true ts ++ [62])) := Lib.hid hbd9
      clear hk9 hbd9 HW3
      go_wp2_with fail
      go_end0
      exact ⟨rfl, by rw [HFIN.out]; exact HBd.out, hK⟩
end Go.Proofs.YtokmaehefenpmaaGreatDoor
namespace Go.Proofs.YtokmaehefenpmaaGreatDoor
/-- The word of a node. -/
def wordT (k : Int) (s : ByteArray) (n : Int) : List UInt8 :=
  if k = 1 then [73, 110, 116] else if k = 2 then [66, 111, 111, 108] else if k = 3 then [84, 101, 120, 116] else if k = 4 then [85, 110, 105, 116]
  else if k = 5 then [65, 114, 114, 97, 121] else if k = 11 then [87, 101, 97, 107] else if k = 6 then s.data.toList else if k = 7 then 36 :: s.data.toList
  else if k = 9 then [97, 110, 121, 32] ++ s.data.toList else 63 :: Lib.decDigits n.toNat
mutual
/-- The text of a tree. -/
def txtT : Ty → List UInt8
  | .node k s n l =>
    if k = 8 then txtSep true l ++ (46 :: s.data.toList)
    else if k = 10 then 40 :: txtFn true l
    else wordT k s n ++ if l.isEmpty then [] else 60 :: (txtSep true l ++ [62])
/-- Texts with commas between them. -/
def txtSep (first : Bool) : List Ty → List UInt8
  | [] => []
  | t :: l => (if first then [] else [44, 32]) ++ (txtT t ++ txtSep false l)
/-- The parts of a function's text behind the first sign. -/
def txtFn (first : Bool) : List Ty → List UInt8
  | [] => []
  | t :: l => if l.isEmpty then [41, 32, 45, 62, 32] ++ txtT t else (if first then [] else [44, 32]) ++ (txtT t ++ txtFn false l)
end
end Go.Proofs.YtokmaehefenpmaaGreatDoor
namespace Go.Proofs.YtokmaehefenpmaaGreatDoor
open Go.RowKit Go.Proofs.YtokmaehefenpmaaGreatDoor.Nm
set_option linter.unusedSimpArgs false
theorem built24k (k : Int) : Tryz.prog.built 24 [(0, .int .i64 k)] = some (cell4 k ⟨#[]⟩ 0 none 0 0) := by kernel_rfl
end Go.Proofs.YtokmaehefenpmaaGreatDoor
