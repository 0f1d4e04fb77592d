/- The document's names: the names of the parameters of a tree. The document's numbers: the numbers of the variables of a tree. The document's Vars: the numbers of the variables of a tree (in order; here: which numbers they are). Lists of numbers put together; the numbers of an open tree. Equations in another order, plainly. Lists of equations of the call's own: what an append leaves. Equations cut out of a list; a list of none and of one. 'shaped' at the two nodes that 'awake' has: Int, and an array of one. A map literal whose ten entries come in whatever order. A builder's writing of a text, over this program. Contracts of the shelf at this dump, in plain words (written by the kit's own tools; those that are wanted). The text of a tree, written: lists, and nodes whose word is looked up. The texts of a list of trees, written. -/
import Derived.Deep.DeepCutAuto
import Derived.Test.YtokmaehefenpmaaDoorPD3
import Derived.Test.YtokmaehefenpmaaDoorPD15
import Derived.Laws.OwnMore
import Derived.Test.YtokmaehefenpmaaDoorPD14
import Derived.Test.YtokmaehefenpmaaDoorPD8
import Derived.MapKept
import Derived.Carry
import Derived.Shelf.Strings.BuilderK
import Derived.Lib.Builder
import Derived.Test.YtokmaehefenpmaaDoorPD1
import Derived.Shelf.LaysM
import Derived.Shelf.Strconv.Itoa3
import Derived.Test.YtokmaehefenpmaaDoorProg
import Derived.Lib.OthersKept
namespace Go.Proofs.YtokmaehefenpmaaDoor
open Go.RowKit Go.Proofs.YtokmaehefenpmaaDoor.Nm
set_option linter.unusedSimpArgs false
theorem nodesL_take {ts : List Ty} {j : Nat} {t : Ty} (ht : ts[j]? = some t) : nodesL (ts.take (j + 1)) = nodesL (ts.take j) + t.nodes := by
  have h : ∀ l m : List Ty, nodesL (l ++ m) = nodesL l + nodesL m := by
    intro l m
    induction l with
    | nil => simp [nodesL]
    | cons a l ih => simp [nodesL, ih]; omega
  rw [List.take_add_one, ht, h]
  simp [nodesL]
theorem nodesL_le {ts : List Ty} {j : Nat} : nodesL (ts.take j) ≤ nodesL ts := by
  have h : ∀ l m : List Ty, nodesL (l ++ m) = nodesL l + nodesL m := by
    intro l m
    induction l with
    | nil => simp [nodesL]
    | cons a l ih => simp [nodesL, ih]; omega
  conv => rhs; rw [← List.take_append_drop j ts]
  rw [h]; omega
end Go.Proofs.YtokmaehefenpmaaDoor
namespace Go.Proofs.YtokmaehefenpmaaDoor
open Go.RowKit Go.Proofs.YtokmaehefenpmaaDoor.Nm
set_option linter.unusedSimpArgs false
mutual
def Ty.nums : Ty → List Int
  | .node k _ n l => (if k = 12 then [n] else []) ++ numsL l
def numsL : List Ty → List Int
  | [] => []
  | t :: l => t.nums ++ numsL l
end
theorem numsL_mem {x : Int} : ∀ {l : List Ty}, x ∈ numsL l ↔ ∃ u, u ∈ l ∧ x ∈ u.nums
  | [] => by simp [numsL]
  | t :: l => by simp [numsL, numsL_mem (l := l)]
theorem nums_occ {v : Nat} : ∀ t : Ty, (v : Int) ∈ t.nums ↔ t.occ v = true := Ty.ind fun k s n l ih => by
  have h1 : (v : Int) ∈ numsL l ↔ occs v l = true := by
    rw [numsL_mem, occs_iff]
    constructor
    · rintro ⟨u, hu, h⟩; exact ⟨u, hu, (ih u hu).1 h⟩
    · rintro ⟨u, hu, h⟩; exact ⟨u, hu, (ih u hu).2 h⟩
  simp only [Ty.nums, Ty.occ, List.mem_append, h1, Bool.or_eq_true]
  by_cases hk : k = 12
  · by_cases hn : n = (v : Int)
    · simp [hk, hn]
    · have hn2 : ¬ (v : Int) = n := fun e => hn e.symm
      simp [hk, hn, hn2]
  · simp [hk]
def NuPost (w : World) (B : Nat) (v : Value) (ns l : List Int) (m : Nat) (e : Ending) (w' : World) : Prop :=
  ∃ A' l' c' ns', e = .returned (.slice A' l' c') ∧ OwnI w' B (.slice A' l' c') ns' ∧ Gro v w (.slice A' l' c') w' ∧ (∀ x, x ∈ ns' ↔ x ∈ ns ∨ x ∈ l) ∧ ns'.length ≤ ns.length + m
def NumsC (t : Ty) : Prop := ∀ (w : World) (B : Nat) (A : Option Addr) (l c : Nat) (ns : List Int) (row : Array Value), OwnI w B (.slice A l c) ns → B ≤ w.heap.size → TyAt w (fun b => b < B) t row → ns.length + t.nodes ≤ 1000000 →
  Calls Tryd.prog 73 #[.agg row, .slice A l c] w (NuPost w B (.slice A l c) ns t.nums t.nodes)
theorem numsL_take {ts : List Ty} {j : Nat} {t : Ty} (ht : ts[j]? = some t) : numsL (ts.take (j + 1)) = numsL (ts.take j) ++ t.nums := by
  have h : ∀ l m : List Ty, numsL (l ++ m) = numsL l ++ numsL m := by
    intro l m
    induction l with
    | nil => rfl
    | cons a l ih => simp [numsL, ih]
  rw [List.take_add_one, ht, h]
  simp [numsL]
theorem mem_next {ns : List Int} {j : Nat} {z n : Int} (h : ns[j]? = some z) (hn : decide (n ∈ ns.take j) = false) : decide (n ∈ ns.take (j + 1)) = (z == n) := by
  rw [List.take_add_one, h]
  simp at hn
  by_cases e : z = n
  · subst e; simp
  · have e2 : ¬ n = z := fun h => e h.symm
    simp [hn, e, e2]
set_option maxHeartbeats 4000000 in
set_option maxRecDepth 100000 in
theorem numbers_any : ∀ t : Ty, NumsC t := Ty.ind fun k s n ts ih w B A0 l0 c0 ns row hO hB h hnd => by
  obtain ⟨k1, s1, n1, A, l, c, ts1, e, rfl, hk, hn, hs, hT⟩ := h.parts
  cases e
  have HT := Lib.hid hT
  have HL := Lib.hid hT.len
  have hcm := hT.cap
  have hmx := hT.max
  unfold maxLen at hmx
  simp only [Ty.nodes] at hnd
  have HI := Lib.hid ih
  have HO := Lib.hid hO
  obtain ⟨A0', l0', c0', e0, htx⟩ := hO.ix
  cases e0
  have HTX := Lib.hid htx
  have HL0 := Lib.hid htx.1
  have hl0 : l0 ≤ 1000000 := by have := htx.1; omega
  clear h hk hn hs hT ih hO htx
  have hb := Below.refl w.heap.size w
  go_enter Tryd.func73, Tryd.ntmps73
  go_upto_region 0 with (fail)
  apply wp_region_lit
  (with_reducible refine wl_box rfl ?_); intro W p hbn hlp hp; replace hb := hb.trans (hbn.mono hb.size); clear hbn; simp only [put_lit, List.set_cons_zero, List.set_cons_succ]
  (with_reducible refine wl_k ?_ ?_); exact rfl; intro K hK; go_simp; refine hK _ ?_; clear hK K
  have HLT := Lib.hid HO.out.lt
  have HP0 : Hid ((Value.slice A0 l0 c0).ownBlock ≠ some p) := Lib.hid fun e => by have := (HLT.out p e).2; omega
  obtain ⟨b12, hb12⟩ : ∃ b : Bool, b = (k == 12) := ⟨_, rfl⟩
  have e12 : (k == 12) = b12 := hb12.symm
  have HK := Lib.hid hb12
  clear hb12
  go_upto_region 1 with (fail)
  apply wp_region_lit
  (with_reducible refine wl_k ?_ ?_); exact rfl; intro K hK; go_simp; refine hK _ ?_; clear hK K
  (first | ((with_reducible apply wl_oneG); exact rfl; exact rfl; first | exact f0 (by with_reducible assumption) | exact f1 (by with_reducible assumption) | exact f2 (by with_reducible assumption) | exact f3 (by with_reducible assumption) | with_reducible assumption | exact g22 (by with_reducible assumption) | exact g25 (by with_reducible assumption)) | ((with_reducible apply wl_rowG); exact rfl; exact rfl; first | with_reducible assumption | exact RowK.now (by with_reducible assumption) | exact f4 (by with_reducible assumption)))
  (with_reducible refine wl_k ?_ ?_); exact rfl; intro K hK; go_simp; refine hK _ ?_; clear hK K
  clear e12
  go_upto_if 10 with (fail)
  go_cut [1] (fun s1 wx => ∃ A1 l1 c1 ns1, s1 = .slice A1 l1 c1 ∧ Hid (OwnI wx B (.slice A1 l1 c1) ns1) ∧ Hid (Gro (.slice A0 l0 c0) w (.slice A1 l1 c1) wx) ∧ Hid ((Value.slice A1 l1 c1).ownBlock ≠ some p) ∧ Hid (∀ x, x ∈ ns1 ↔ x ∈ ns ∨ x ∈ (if k = 12 then [n] else [])) ∧ ns1.length ≤ ns.length + 1 ∧ wx.heap[p]? = some (.cells (cell4 k s n A l c) 24 (0, 0)))
  case first =>
    cases b12 with
    | true =>
      have HK2 : Hid (k = 12) := Lib.hid (beq_iff_eq.1 HK.out.symm)
      go_upto_region 2 with (fail)
      apply wp_region_lit
      (with_reducible refine wl_k ?_ ?_); exact rfl; intro K hK; go_simp; refine hK _ ?_; clear hK K
      go_upto_region 3 with (fail)
      apply wp_region_lit
      (with_reducible refine wl_k ?_ ?_); exact rfl; intro K hK; go_simp; refine hK _ ?_; clear hK K
      go_wp2_with fail
      go_loopw [5, 6] (fun th i wr => ∃ (j : Nat) (b : Bool), j ≤ l0 ∧ i = .int .i64 (j : Int) ∧ th = .bool b ∧ Hid (b = decide (n ∈ ns.take j)) ∧ Below w.heap.size w wr ∧ wr.heap[p]? = some (.cells (cell4 k s n A l c) 24 (0, 0))) (fun _ i _ => l0 - (intOf i).toNat)
      case atStart => exact ⟨0, false, by omega, rfl, rfl, Lib.hid (by simp), hb, hp⟩
      case round =>
        clear hb hp
        obtain ⟨j, b, hj, rfl, rfl, HBD, hb, hp⟩ := hrel
        go_upto_region 4 with (fail)
        by_cases hlt : j < l0
        · have hltI : (j : Int) < (l0 : Int) := by omega
          apply wp_region_lit
          (with_reducible refine wl_k ?_ ?_); exact rfl; intro K hK; go_simp; refine hK _ ?_; clear hK K
          (with_reducible refine wl_k ?_ ?_); exact rfl; intro K hK; go_simp; refine hK _ ?_; clear hK K
          (with_reducible refine wl_k ?_ ?_); exact rfl; intro K hK; go_simp; refine hK _ ?_; clear hK K
          (with_reducible refine wl_k ?_ ?_); exact rfl; intro K hK; go_simp; refine hK _ ?_; clear hK K
          cases b with
          | true =>
            have HBN : Hid (true = decide (n ∈ ns.take (j + 1))) := Lib.hid (by
              have := HBD.out
              simp at this ⊢
              rw [List.take_add_one]
              exact List.mem_append.2 (.inl this))
            go_upto_region 6 with (fail)
            refine wp_region_belowAll mixed (by kernel_rfl) ?_
            (with_reducible refine wq_k ?_ ?_); exact rfl; intro K hK; go_simp; (with_reducible refine hK _ ?_); clear hK K
            (with_reducible refine wq_k ?_ ?_); exact rfl; intro K hK; go_simp; (with_reducible refine hK _ ?_); clear hK K
            (with_reducible refine wq_skip ?_ ?_); exact rfl; simp only [List.getElem_toArray, List.getElem_cons_succ, List.getElem_cons_zero, put_lit, List.set_cons_zero, List.set_cons_succ]
            (with_reducible refine wq_skip ?_ ?_); exact rfl; simp only [List.getElem_toArray, List.getElem_cons_succ, List.getElem_cons_zero, put_lit, List.set_cons_zero, List.set_cons_succ]
            (with_reducible refine wq_skip ?_ ?_); exact rfl; simp only [List.getElem_toArray, List.getElem_cons_succ, List.getElem_cons_zero, put_lit, List.set_cons_zero, List.set_cons_succ]
            (with_reducible refine wq_skip ?_ ?_); exact rfl; simp only [List.getElem_toArray, List.getElem_cons_succ, List.getElem_cons_zero, put_lit, List.set_cons_zero, List.set_cons_succ]
            (with_reducible refine wq_skip ?_ ?_); exact rfl; simp only [List.getElem_toArray, List.getElem_cons_succ, List.getElem_cons_zero, put_lit, List.set_cons_zero, List.set_cons_succ]
            (with_reducible refine wq_skip ?_ ?_); exact rfl; simp only [List.getElem_toArray, List.getElem_cons_succ, List.getElem_cons_zero, put_lit, List.set_cons_zero, List.set_cons_succ]
            (with_reducible refine wq_skip ?_ ?_); exact rfl; simp only [List.getElem_toArray, List.getElem_cons_succ, List.getElem_cons_zero, put_lit, List.set_cons_zero, List.set_cons_succ]
            (with_reducible refine wq_k ?_ ?_); exact rfl; intro K hK; go_simp; (with_reducible refine hK _ ?_); clear hK K
            (with_reducible refine wq_k ?_ ?_); exact rfl; intro K hK; go_simp; (with_reducible refine hK _ ?_); clear hK K
            intro w7 hb7
            replace hp := below_look hb7 hp; replace hb := hb.trans (hb7.mono hb.size); clear hb7
            go_wp2_with fail
            go_roundw
            case rel => exact ⟨j + 1, true, by omega, by go_num, rfl, HBN, hb, hp⟩
            case measure => simp [intOf]; omega
          | false =>
            obtain ⟨z, hz⟩ : ∃ z, ns[j]? = some z := ⟨_, List.getElem?_eq_getElem (by rw [HL0.out]; exact hlt)⟩
            obtain ⟨b7, o7, rfl, -⟩ := HTX.out.2.2.2 j z hz
            have hone : Hid (∀ w', Below wr.heap.size wr w' → OneAt w' 3 ⟨b7, o7 + j, none⟩ (.int .i64 z)) := Lib.hid fun w' hw' => by
              obtain ⟨b8, o8, e8, hc⟩ := ((HTX.out.old hb).old hw').2.2.2 j z hz
              cases e8
              exact int_at hc
            have HBN : Hid ((z == n) = decide (n ∈ ns.take (j + 1))) := Lib.hid (mem_next hz HBD.out.symm).symm
            clear hz
            go_upto_region 6 with (fail)
            refine wp_region_belowAll mixed (by kernel_rfl) ?_
            (with_reducible refine wq_k ?_ ?_); exact rfl; intro K hK; go_simp; (with_reducible refine hK _ ?_); clear hK K
            (with_reducible refine wq_k ?_ ?_); exact rfl; intro K hK; go_simp; (with_reducible refine hK _ ?_); clear hK K
            (with_reducible refine wq_k ?_ ?_); exact rfl; intro K hK; go_simp; (with_reducible refine hK _ ?_); clear hK K
            (with_reducible refine wq_k ?_ ?_); exact rfl; intro K hK; go_simp; (with_reducible refine hK _ ?_); clear hK K
            (with_reducible refine wq_k ?_ ?_); exact rfl; intro K hK; go_simp; (with_reducible refine hK _ ?_); clear hK K
            (with_reducible apply wq_one); exact rfl; exact rfl; exact hone.out
            try simp only [put_lit, List.set_cons_zero, List.set_cons_succ]
            (with_reducible refine wq_k ?_ ?_); exact rfl; intro K hK; go_simp; (with_reducible refine hK _ ?_); clear hK K
            (first | ((with_reducible apply wq_one); exact rfl; exact rfl; intro w' hw'; first | exact f0 (below_look hw' (by with_reducible assumption)) | exact f1 (below_look hw' (by with_reducible assumption)) | exact f2 (below_look hw' (by with_reducible assumption)) | exact f3 (below_look hw' (by with_reducible assumption)) ) | ((with_reducible apply wq_row); exact rfl; exact rfl; intro w' hw'; first | exact RowK.at (by with_reducible assumption) hw' | exact f4 (below_look hw' (by with_reducible assumption))))
            (with_reducible refine wq_k ?_ ?_); exact rfl; intro K hK; go_simp; (with_reducible refine hK _ ?_); clear hK K
            (with_reducible refine wq_k ?_ ?_); exact rfl; intro K hK; go_simp; (with_reducible refine hK _ ?_); clear hK K
            (with_reducible refine wq_k ?_ ?_); exact rfl; intro K hK; go_simp; (with_reducible refine hK _ ?_); clear hK K
            intro w7 hb7
            replace hp := below_look hb7 hp; replace hb := hb.trans (hb7.mono hb.size); clear hb7
            clear hone
            go_wp2_with fail
            go_roundw
            case rel => exact ⟨j + 1, _, by omega, by go_num, rfl, HBN, hb, hp⟩
            case measure => simp [intOf]; omega
        · have hltI : ¬ (j : Int) < (l0 : Int) := by omega
          apply wp_region_lit
          (with_reducible refine wl_k ?_ ?_); exact rfl; intro K hK; go_simp; refine hK _ ?_; clear hK K
          (with_reducible refine wl_k ?_ ?_); exact rfl; intro K hK; go_simp; refine hK _ ?_; clear hK K
          (with_reducible refine wl_k ?_ ?_); exact rfl; intro K hK; go_simp; refine hK _ ?_; clear hK K
          (with_reducible refine wl_k ?_ ?_); exact rfl; intro K hK; go_simp; refine hK _ ?_; clear hK K
          have HBE : Hid (b = decide (n ∈ ns)) := Lib.hid (by have := HBD.out; rwa [List.take_of_length_le (by rw [HL0.out]; omega)] at this)
          go_upto_region 7 with (fail)
          apply wp_region_lit
          (with_reducible refine wl_k ?_ ?_); exact rfl; intro K hK; go_simp; refine hK _ ?_; clear hK K
          (with_reducible refine wl_k ?_ ?_); exact rfl; intro K hK; go_simp; refine hK _ ?_; clear hK K
          cases b with
          | true =>
            go_wp2_with fail
            go_meet
            exact ⟨_, _, _, _, rfl, Lib.hid (HO.out.old hb), Lib.hid (Gro.of hb), HP0, Lib.hid (fun x => by
              have := HBE.out
              simp at this
              rw [if_pos HK2.out]
              constructor
              · exact .inl
              · rintro (h | h)
                · exact h
                · simp at h; subst h; exact this), by omega, hp⟩
          | false =>
            go_upto_region 8 with (fail)
            apply wp_region_lit
            (with_reducible refine wl_k ?_ ?_); exact rfl; intro K hK; go_simp; refine hK _ ?_; clear hK K
            (with_reducible refine wl_k ?_ ?_); exact rfl; intro K hK; go_simp; refine hK _ ?_; clear hK K
            (first | ((with_reducible apply wl_oneG); exact rfl; exact rfl; first | exact f0 (by with_reducible assumption) | exact f1 (by with_reducible assumption) | exact f2 (by with_reducible assumption) | exact f3 (by with_reducible assumption) | with_reducible assumption | exact g22 (by with_reducible assumption) | exact g25 (by with_reducible assumption)) | ((with_reducible apply wl_rowG); exact rfl; exact rfl; first | with_reducible assumption | exact RowK.now (by with_reducible assumption) | exact f4 (by with_reducible assumption)))
            (with_reducible refine wl_bsI rfl ?_)
            intro W3 q hbn hlq hq
            replace hp := below_look hbn hp; replace hb := hb.trans (hbn.mono hb.size); clear hbn
            simp only [put_lit, List.set_cons_zero, List.set_cons_succ]
            refine wl_pushI rfl _ _ rfl rfl rfl (HO.out.old hb) hq (by rw [HL0.out]; omega) (by have := hb.size; omega) ?_
            intro A9 l9 c9 w9 hown hgro
            simp only [put_lit, List.set_cons_zero, List.set_cons_succ]
            (with_reducible refine wl_k ?_ ?_); exact rfl; intro K hK; go_simp; refine hK _ ?_; clear hK K
            go_wp2_with fail
            go_meet
            exact ⟨_, _, _, _, rfl, Lib.hid hown, Lib.hid ((Gro.of hb).trans hgro), Lib.hid (fun e => by
              rcases hgro.own _ e with e | e
              · exact HP0.out e
              · have := heap_lt hp; omega), Lib.hid (fun x => by rw [if_pos HK2.out]; simp), by simp, by rw [hgro.keep p (heap_lt hp) HP0.out]; exact hp⟩
    | false =>
      have HK2 : Hid (¬ k = 12) := Lib.hid (fun e => by have := HK.out; rw [e] at this; cases this)
      go_wp2_with fail
      go_meet
      exact ⟨_, _, _, _, rfl, Lib.hid (HO.out.old hb), Lib.hid (Gro.of hb), HP0, Lib.hid (fun x => by rw [if_neg HK2.out]; simp), by omega, hp⟩
  case rest =>
    clear hb hp HO HP0 HTX
    obtain ⟨A1, l1, c1, ns1, rfl, HO, HG, HP, HA, hl1, hp⟩ := hcut
    have HA0 : Hid (∀ x, x ∈ ns1 ↔ x ∈ ns ∨ x ∈ ((if k = 12 then [n] else []) ++ numsL (ts.take 0))) := Lib.hid (by simpa [numsL] using HA.out)
    clear HA
    go_upto_region 9 with (fail)
    apply wp_region_lit
    (with_reducible refine wl_k ?_ ?_); exact rfl; intro K hK; go_simp; refine hK _ ?_; clear hK K
    go_wp2_with fail
    go_loopw [1, 7] (fun v i wr => ∃ (j : Nat) (A1 : Option Addr) (l1 c1 : Nat) (ns1 : List Int), j ≤ l ∧ i = .int .i64 (j : Int) ∧ v = .slice A1 l1 c1 ∧ Hid (OwnI wr B (.slice A1 l1 c1) ns1) ∧ Hid (Gro (.slice A0 l0 c0) w (.slice A1 l1 c1) wr) ∧ Hid ((Value.slice A1 l1 c1).ownBlock ≠ some p) ∧ Hid (∀ x, x ∈ ns1 ↔ x ∈ ns ∨ x ∈ ((if k = 12 then [n] else []) ++ numsL (ts.take j))) ∧ ns1.length ≤ ns.length + 1 + nodesL (ts.take j) ∧ wr.heap[p]? = some (.cells (cell4 k s n A l c) 24 (0, 0))) (fun _ i _ => l - (intOf i).toNat)
    case atStart => exact ⟨0, _, _, _, _, by omega, rfl, rfl, HO, HG, HP, HA0, by omega, hp⟩
    case round =>
      clear HO HG HP HA0 hl1 hp
      obtain ⟨j, A1, l1, c1, ns1, hj, rfl, rfl, HO, HG, HP, HA, hl1, hp⟩ := hrel
      by_cases hlt : j < l
      · have hltI : (j : Int) < (l : Int) := by omega
        have hbB := HG.out.bel B w (fun b e => (HLT.out b e).1) hB (Below.refl _ _)
        have HT2 := Lib.hid (HT.out.mono (D' := fun b => b < B) (fun _ h => h) (fun b h => hbB.block b h))
        obtain ⟨b, off, t, row, rfl, -, ht, -⟩ := HT2.out.get hlt
        obtain ⟨row, hrow, hta⟩ := HT2.out.rowK ht
        have hn1 := nodesL_take ht
        have hn2 := nodesL_le (ts := ts) (j := j + 1)
        have hsz := HG.out.size
        have HC := Lib.hid (HI.out t (List.mem_of_getElem? ht) wr B A1 l1 c1 ns1 row HO.out (by omega) hta (by omega))
        have HPT := Lib.hid (numsL_take ht)
        clear ht hta hbB HT2
        go_upto_region 10 with (fail)
        apply wp_region_lit
        (with_reducible refine wl_k ?_ ?_); exact rfl; intro K hK; go_simp; refine hK _ ?_; clear hK K
        (with_reducible refine wl_k ?_ ?_); exact rfl; intro K hK; go_simp; refine hK _ ?_; clear hK K
        (first | ((with_reducible apply wl_oneG); exact rfl; exact rfl; first | exact f0 (by with_reducible assumption) | exact f1 (by with_reducible assumption) | exact f2 (by with_reducible assumption) | exact f3 (by with_reducible assumption) | with_reducible assumption | exact g22 (by with_reducible assumption) | exact g25 (by with_reducible assumption)) | ((with_reducible apply wl_rowG); exact rfl; exact rfl; first | with_reducible assumption | exact RowK.now (by with_reducible assumption) | exact f4 (by with_reducible assumption)))
        (with_reducible refine wl_k ?_ ?_); exact rfl; intro K hK; go_simp; refine hK _ ?_; clear hK K
        (with_reducible refine wl_k ?_ ?_); exact rfl; intro K hK; go_simp; refine hK _ ?_; clear hK K
        go_upto_region 12 with (fail)
        apply wp_region_lit
        (with_reducible refine wl_k ?_ ?_); exact rfl; intro K hK; go_simp; refine hK _ ?_; clear hK K
        (first | ((with_reducible apply wl_oneG); exact rfl; exact rfl; first | exact f0 (by with_reducible assumption) | exact f1 (by with_reducible assumption) | exact f2 (by with_reducible assumption) | exact f3 (by with_reducible assumption) | with_reducible assumption | exact g22 (by with_reducible assumption) | exact g25 (by with_reducible assumption)) | ((with_reducible apply wl_rowG); exact rfl; exact rfl; first | with_reducible assumption | exact RowK.now (by with_reducible assumption) | exact f4 (by with_reducible assumption)))
        (with_reducible refine wl_k ?_ ?_); exact rfl; intro K hK; go_simp; refine hK _ ?_; clear hK K
        (with_reducible refine wl_k ?_ ?_); exact rfl; intro K hK; go_simp; refine hK _ ?_; clear hK K
        (first | ((with_reducible apply wl_oneG); exact rfl; exact rfl; first | exact f0 (by with_reducible assumption) | exact f1 (by with_reducible assumption) | exact f2 (by with_reducible assumption) | exact f3 (by with_reducible assumption) | with_reducible assumption | exact g22 (by with_reducible assumption) | exact g25 (by with_reducible assumption)) | ((with_reducible apply wl_rowG); exact rfl; exact rfl; first | with_reducible assumption | exact RowK.now (by with_reducible assumption) | exact f4 (by with_reducible assumption)))
        (with_reducible refine wl_k ?_ ?_); exact rfl; intro K hK; go_simp; refine hK _ ?_; clear hK K
        (with_reducible refine wl_ck ?_ ?_); exact rfl; intro K hK; go_simp; refine ⟨_, _, ⟨rfl, rfl⟩, hK _ _ ⟨_, HC.out, ?_⟩⟩; clear hK K; rintro e w7 ⟨A7, l7, c7, ns7, rfl, hown7, hgro7, hadd7, hln7⟩; refine ⟨_, rfl, ?_⟩; simp only [put_lit, List.set_cons_zero, List.set_cons_succ]
        (with_reducible refine wl_k ?_ ?_); exact rfl; intro K hK; go_simp; refine hK _ ?_; clear hK K
        have hpr := hp
        replace hp := (hgro7.keep p (heap_lt hpr) HP.out).trans hpr
        replace HO := Lib.hid hown7
        have HP7 : Hid ((Value.slice A7 l7 c7).ownBlock ≠ some p) := Lib.hid fun e => by
          rcases hgro7.own _ e with e | e
          · exact HP.out e
          · have := heap_lt hpr; omega
        replace HG := Lib.hid (HG.out.trans hgro7)
        have HA7 : Hid (∀ x, x ∈ ns7 ↔ x ∈ ns ∨ x ∈ ((if k = 12 then [n] else []) ++ numsL (ts.take (j + 1)))) := Lib.hid (fun x => by
          rw [hadd7 x, HA.out x, HPT.out, ← List.append_assoc, List.mem_append (s := (if k = 12 then [n] else []) ++ numsL (ts.take j)), or_assoc])
        clear HC hrow hown7 hgro7 hadd7 HA HP hpr HPT
        go_wp2_with fail
        go_roundw
        case rel => exact ⟨j + 1, _, _, _, _, by omega, by go_num, rfl, HO, HG, HP7, HA7, by omega, hp⟩
        case measure => simp [intOf]; omega
      · have hltI : ¬ (j : Int) < (l : Int) := by omega
        have HF : Hid (NuPost w B (.slice A0 l0 c0) ns (Ty.node k s n ts).nums (Ty.node k s n ts).nodes (.returned (.slice A1 l1 c1)) wr) := Lib.hid (by
          have h1 := HA.out
          rw [List.take_of_length_le (by rw [HL.out]; omega)] at h1
          have h2 := nodesL_le (ts := ts) (j := j)
          exact ⟨_, _, _, ns1, rfl, HO.out, HG.out, h1, by simp only [Ty.nodes]; omega⟩)
        clear HA HO HG HP hl1
        go_upto_region 10 with (fail)
        apply wp_region_lit
        (with_reducible refine wl_k ?_ ?_); exact rfl; intro K hK; go_simp; refine hK _ ?_; clear hK K
        (with_reducible refine wl_k ?_ ?_); exact rfl; intro K hK; go_simp; refine hK _ ?_; clear hK K
        (first | ((with_reducible apply wl_oneG); exact rfl; exact rfl; first | exact f0 (by with_reducible assumption) | exact f1 (by with_reducible assumption) | exact f2 (by with_reducible assumption) | exact f3 (by with_reducible assumption) | with_reducible assumption | exact g22 (by with_reducible assumption) | exact g25 (by with_reducible assumption)) | ((with_reducible apply wl_rowG); exact rfl; exact rfl; first | with_reducible assumption | exact RowK.now (by with_reducible assumption) | exact f4 (by with_reducible assumption)))
        (with_reducible refine wl_k ?_ ?_); exact rfl; intro K hK; go_simp; refine hK _ ?_; clear hK K
        (with_reducible refine wl_k ?_ ?_); exact rfl; intro K hK; go_simp; refine hK _ ?_; clear hK K
        clear hp
        go_upto_region 13 with (fail)
        apply wp_region_lit
        (with_reducible refine wl_k ?_ ?_); exact rfl; intro K hK; go_simp; refine hK _ ?_; clear hK K
        (with_reducible refine wl_k ?_ ?_); exact rfl; intro K hK; go_simp; refine hK _ ?_; clear hK K
        go_wp2_with fail
        go_ret
        exact HF.out
end Go.Proofs.YtokmaehefenpmaaDoor
namespace Go.Proofs.YtokmaehefenpmaaDoor
open Go.RowKit Go.Proofs.YtokmaehefenpmaaDoor.Nm
set_option linter.unusedSimpArgs false
theorem swap_permI {a b : Int} : ∀ {ns : List Int} {m : Nat}, ns[m]? = some a → ns[m + 1]? = some b → ((ns.set (m + 1) a).set m b).Perm ns
  | [], m, h, _ => by simp at h
  | [x], m, _, h => by simp at h
  | x :: y :: r, 0, h1, h2 => by
    simp at h1 h2; subst h1 h2
    exact List.Perm.swap _ _ _
  | x :: y :: r, m + 1, h1, h2 => by
    simp only [List.set_cons_succ]
    exact (swap_permI (ns := y :: r) (by simpa using h1) (by simpa using h2)).cons x
theorem OwnI.addr {w : World} {B : Nat} {A : Option Addr} {l c : Nat} {ns : List Int} (h : OwnI w B (.slice A l c) ns) (hl : 0 < ns.length) : ∃ g cur, A = some ⟨g, 0, none⟩ ∧ B ≤ g ∧ ns.length = l ∧ w.heap[g]? = some (.cells cur 3 (0, 0)) ∧ cur.size = c ∧ l ≤ c ∧ c ≤ maxLen ∧ cur.toList.take l = ns.map (.int .i64) := by
  rcases h.2 with ⟨e, hn⟩ | ⟨g, cap, cur, e, hB, hg, hc, hm, hs, hcur⟩
  · omega
  · cases e
    exact ⟨g, cur, rfl, hB, rfl, hg, by omega, hc, hm, by rw [← hcur, Nat.mul_one]⟩
theorem OwnI.one {w : World} {B : Nat} {g l c : Nat} {ns : List Int} (h : OwnI w B (.slice (some ⟨g, 0, none⟩) l c) ns) {i : Nat} {s : Int} (hi : ns[i]? = some s) : OneAt w 3 ⟨g, i, none⟩ (.int .i64 s) := by
  have hl := (List.getElem?_eq_some_iff.1 hi).1
  obtain ⟨g', cur, e, -, hn, hg, -, -, -, hcur⟩ := h.addr (by omega)
  cases e
  refine one_of u3 rfl ?_
  rw [cell_of_row _ _ _ _ _ _ hg]
  have h2 : (ns.map (Value.int .i64))[i]? = some (.int .i64 s) := by rw [List.getElem?_map, hi]; rfl
  rw [← hcur, List.getElem?_take_of_lt (by omega)] at h2
  simpa using h2
theorem OwnI.put {w : World} {B : Nat} {g l c : Nat} {ns : List Int} (h : OwnI w B (.slice (some ⟨g, 0, none⟩) l c) ns) {i : Nat} (hi : i < ns.length) (s : Int) : OwnI (w.setCell ⟨g, i, none⟩ (.int .i64 s)) B (.slice (some ⟨g, 0, none⟩) l c) (ns.set i s) := by
  obtain ⟨g', cur, e, hB, hn, hg, hsz, hc, hm, hcur⟩ := h.addr (by omega)
  cases e
  refine ⟨by simp, .inr ⟨g, c, cur.setIfInBounds i (.int .i64 s), by simp [hn], hB, hs_new hg, by simpa [hn] using hc, hm, by simp [hsz], ?_⟩⟩
  rw [Nat.mul_one, List.length_set, hn, Array.toList_setIfInBounds, List.take_set, hcur, List.map_set]
theorem OwnI.lies {w : World} {B : Nat} {g l c : Nat} {ns : List Int} (h : OwnI w B (.slice (some ⟨g, 0, none⟩) l c) ns) {i : Nat} (hi : i < ns.length) : (w.cell? ⟨g, i, none⟩).isSome = true ∧ w.frozen? ⟨g, i, none⟩ = false := by
  obtain ⟨g', cur, e, hB, hn, hg, hsz, hc, hm, hcur⟩ := h.addr (by omega)
  cases e
  refine ⟨?_, by unfold World.frozen?; rw [hg]; rfl⟩
  rw [cell_of_row _ _ _ _ _ _ hg, Array.getElem?_eq_getElem (by omega)]
  rfl
theorem info3s : (Tryd.prog.info? 3).map (·.size) = some 1 := by kernel_rfl
def VaPost (w : World) (t : Ty) (e : Ending) (w' : World) : Prop :=
  ∃ A l c ns, e = .returned (.slice A l c) ∧ OwnI w' w.heap.size (.slice A l c) ns ∧ (∀ x, x ∈ ns ↔ x ∈ t.nums) ∧ ns.length ≤ t.nodes ∧ Below w.heap.size w w'
set_option maxHeartbeats 4000000 in
set_option maxRecDepth 100000 in
theorem VarsI_any (t : Ty) (hnd : t.nodes ≤ 1000000) (w : World) (D : Nat → Prop) (row : Array Value) (h : TyAt w D t row) : Calls Tryd.prog 45 #[.agg row] w (VaPost w t) := by
  obtain ⟨k, s, n, A0, l0, c0, ts1, e, rfl, -⟩ := h.parts
  have HT := Lib.hid h
  clear h e
  have hb := Below.refl w.heap.size w
  go_enter Tryd.func45, Tryd.ntmps45
  go_upto_region 0 with (fail)
  apply wp_region_lit
  (with_reducible refine wl_box rfl ?_); intro W p hbn hlp hp; replace hb := hb.trans (hbn.mono hb.size); clear hbn; simp only [put_lit, List.set_cons_zero, List.set_cons_succ]
  (with_reducible refine wl_k ?_ ?_); exact rfl; intro K hK; go_simp; refine hK _ ?_; clear hK K
  have HC := Lib.hid (numbers_any t W W.heap.size none 0 0 [] _ (OwnI.nil _ _) (Nat.le_refl _) ((HT.out.old hb).low.weak fun _ h => h.2) (by simpa using hnd))
  go_upto_region 1 with (fail)
  apply wp_region_lit
  (first | ((with_reducible apply wl_oneG); exact rfl; exact rfl; first | exact f0 (by with_reducible assumption) | exact f1 (by with_reducible assumption) | exact f2 (by with_reducible assumption) | exact f3 (by with_reducible assumption) | with_reducible assumption | exact g22 (by with_reducible assumption) | exact g25 (by with_reducible assumption)) | ((with_reducible apply wl_rowG); exact rfl; exact rfl; first | with_reducible assumption | exact RowK.now (by with_reducible assumption) | exact f4 (by with_reducible assumption)))
  (with_reducible refine wl_ck ?_ ?_); exact rfl; intro K hK; go_simp; refine ⟨_, _, ⟨rfl, rfl⟩, hK _ _ ⟨_, HC.out, ?_⟩⟩; clear hK K; rintro e w1 ⟨A, l, c, ns0, rfl, hown, hgro, hadd, hln⟩; refine ⟨_, rfl, ?_⟩; simp only [put_lit, List.set_cons_zero, List.set_cons_succ]
  (with_reducible refine wl_k ?_ ?_); exact rfl; intro K hK; go_simp; refine hK _ ?_; clear hK K
  have hb1 := hgro.bel W.heap.size W (fun b e => by cases e) (Nat.le_refl _) (Below.refl _ _)
  have hB : w.heap.size ≤ W.heap.size := hb.size
  obtain ⟨B, hBd⟩ : ∃ B, B = W.heap.size := ⟨_, rfl⟩
  rw [← hBd] at hown hB
  replace hb := hb.trans (hb1.mono hb.size)
  have HM : Hid (∀ x, x ∈ ns0 ↔ x ∈ t.nums) := Lib.hid fun x => by rw [hadd x]; simp
  have HLN : Hid (ns0.length ≤ t.nodes) := Lib.hid (by simpa using hln)
  have hlen : ns0.length = l := by
    obtain ⟨A', l', c', e, htx⟩ := hown.ix
    cases e; exact htx.1
  have hcl : l ≤ c ∧ c ≤ maxLen := by
    obtain ⟨A', l', c', e, htx⟩ := hown.ix
    cases e; exact ⟨htx.2.1, htx.2.2.1⟩
  obtain ⟨hcm, hmx⟩ := hcl
  unfold maxLen at hmx
  have hl6 : l ≤ 1000000 := by rw [← hlen]; simp at hln; omega
  have HO := Lib.hid hown
  clear hown hgro hadd hln hb1 hBd HC HT hp
  go_wp2_with fail
  go_loopw [4] (fun i wr => ∃ (j : Nat) (ns : List Int), j ≤ l ∧ i = .int .i64 (j : Int) ∧ Hid (OwnI wr B (.slice A l c) ns) ∧ Hid (ns.Perm ns0) ∧ Below w.heap.size w wr) (fun i _ => l - (intOf i).toNat)
  case atStart => exact ⟨0, ns0, by omega, rfl, HO, Lib.hid (List.Perm.refl _), hb⟩
  case round =>
    clear hb HO
    obtain ⟨j, ns1, hj, rfl, HO, HR, hb⟩ := hrel
    by_cases hlt : j < l
    · have hltI : (j : Int) < (l : Int) := by omega
      go_wp2_with fail
      go_loopw [5] (fun i wr => ∃ (m : Nat) (ns : List Int), m ≤ j ∧ i = .int .i64 (m : Int) ∧ Hid (OwnI wr B (.slice A l c) ns) ∧ Hid (ns.Perm ns0) ∧ Below w.heap.size w wr) (fun i _ => (intOf i).toNat)
      case atStart => exact ⟨j, ns1, by omega, rfl, HO, HR, hb⟩
      case round =>
        clear hb HO HR
        obtain ⟨m, ns, hm, rfl, HO, HR, hb⟩ := hrel
        by_cases h0 : m = 0
        · have e0 : ¬ 0 < m := by omega
          clear h0
          go_upto_region 6 with (fail)
          refine wp_region_belowAll mixed (by kernel_rfl) ?_
          (with_reducible refine wq_k ?_ ?_); exact rfl; intro K hK; go_simp; (with_reducible refine hK _ ?_); clear hK K
          (with_reducible refine wq_k ?_ ?_); exact rfl; intro K hK; go_simp; (with_reducible refine hK _ ?_); clear hK K
          (with_reducible refine wq_k ?_ ?_); exact rfl; intro K hK; go_simp; (with_reducible refine hK _ ?_); clear hK K
          (with_reducible refine wq_skip ?_ ?_); exact rfl; simp only [List.getElem_toArray, List.getElem_cons_succ, List.getElem_cons_zero, put_lit, List.set_cons_zero, List.set_cons_succ]
          (with_reducible refine wq_skip ?_ ?_); exact rfl; simp only [List.getElem_toArray, List.getElem_cons_succ, List.getElem_cons_zero, put_lit, List.set_cons_zero, List.set_cons_succ]
          (with_reducible refine wq_skip ?_ ?_); exact rfl; simp only [List.getElem_toArray, List.getElem_cons_succ, List.getElem_cons_zero, put_lit, List.set_cons_zero, List.set_cons_succ]
          (with_reducible refine wq_skip ?_ ?_); exact rfl; simp only [List.getElem_toArray, List.getElem_cons_succ, List.getElem_cons_zero, put_lit, List.set_cons_zero, List.set_cons_succ]
          (with_reducible refine wq_skip ?_ ?_); exact rfl; simp only [List.getElem_toArray, List.getElem_cons_succ, List.getElem_cons_zero, put_lit, List.set_cons_zero, List.set_cons_succ]
          (with_reducible refine wq_skip ?_ ?_); exact rfl; simp only [List.getElem_toArray, List.getElem_cons_succ, List.getElem_cons_zero, put_lit, List.set_cons_zero, List.set_cons_succ]
          (with_reducible refine wq_skip ?_ ?_); exact rfl; simp only [List.getElem_toArray, List.getElem_cons_succ, List.getElem_cons_zero, put_lit, List.set_cons_zero, List.set_cons_succ]
          (with_reducible refine wq_skip ?_ ?_); exact rfl; simp only [List.getElem_toArray, List.getElem_cons_succ, List.getElem_cons_zero, put_lit, List.set_cons_zero, List.set_cons_succ]
          (with_reducible refine wq_skip ?_ ?_); exact rfl; simp only [List.getElem_toArray, List.getElem_cons_succ, List.getElem_cons_zero, put_lit, List.set_cons_zero, List.set_cons_succ]
          (with_reducible refine wq_skip ?_ ?_); exact rfl; simp only [List.getElem_toArray, List.getElem_cons_succ, List.getElem_cons_zero, put_lit, List.set_cons_zero, List.set_cons_succ]
          (with_reducible refine wq_k ?_ ?_); exact rfl; intro K hK; go_simp; (with_reducible refine hK _ ?_); clear hK K
          intro w7 hb7
          replace HO := Lib.hid (HO.out.old hb7)
          replace hb := hb.trans (hb7.mono hb.size)
          clear hb7
          go_wp2_with fail
          go_roundw
          case rel => exact ⟨j + 1, ns, by omega, by go_num, HO, HR, hb⟩
          case measure => simp [intOf]; omega
        · have e0 : 0 < m := by omega
          have hnl : ns.length = l := by rw [HR.out.length_eq, hlen]
          obtain ⟨g, cur, rfl, -⟩ := HO.out.addr (by omega)
          obtain ⟨m1, hq1, hq2⟩ : ∃ m1, m1 + 1 ≤ m ∧ m ≤ m1 + 1 := ⟨m - 1, by omega, by omega⟩
          obtain ⟨a, ha⟩ : ∃ a, ns[m1]? = some a := ⟨_, List.getElem?_eq_getElem (by omega)⟩
          obtain ⟨b, hb'⟩ : ∃ b, ns[m]? = some b := ⟨_, List.getElem?_eq_getElem (by omega)⟩
          have hone1 : Hid (∀ w', Below wr.heap.size wr w' → OneAt w' 3 ⟨g, m, none⟩ (.int .i64 b)) := Lib.hid fun w' hw' => (HO.out.old hw').one hb'
          have hone2 : Hid (∀ w', Below wr.heap.size wr w' → OneAt w' 3 ⟨g, m1, none⟩ (.int .i64 a)) := Lib.hid fun w' hw' => (HO.out.old hw').one ha
          have HAB := Lib.hid (And.intro ha hb')
          have hi1 : (m : Int) - 1 = (m1 : Int) := by omega
          have hmI : (m : Int) < (l : Int) := by omega
          have hmJ : (m1 : Int) < (l : Int) := by omega
          have hwr : IntKind.i64.wrap (m1 : Int) = (m1 : Int) := IntWalk.i64_in _ (by omega)
          have hgB : w.heap.size ≤ g := by obtain ⟨g', cur', e, h3, -⟩ := HO.out.addr (by omega); cases e; omega
          have hm2 : m = m1 + 1 := by omega
          have HSW : Hid (((ns.set m a).set m1 b).Perm ns0) := Lib.hid (by rw [hm2] at hb' ⊢; exact (swap_permI ha hb').trans HR.out)
          have HL2 : Hid (m1 < (ns.set m a).length ∧ m < ns.length) := Lib.hid (by rw [List.length_set]; omega)
          clear hm2
          clear h0 ha hb' hnl
          by_cases hlss : b < a
          · go_upto_region 6 with (fail)
            refine wp_region_belowAll mixed (by kernel_rfl) ?_
            (with_reducible refine wq_k ?_ ?_); exact rfl; intro K hK; go_simp; (with_reducible refine hK _ ?_); clear hK K
            (with_reducible refine wq_k ?_ ?_); exact rfl; intro K hK; go_simp; (with_reducible refine hK _ ?_); clear hK K
            (with_reducible refine wq_k ?_ ?_); exact rfl; intro K hK; go_simp; (with_reducible refine hK _ ?_); clear hK K
            (with_reducible refine wq_k ?_ ?_); exact rfl; intro K hK; go_simp; (with_reducible refine hK _ ?_); clear hK K
            (with_reducible refine wq_k ?_ ?_); exact rfl; intro K hK; go_simp; (with_reducible refine hK _ ?_); clear hK K
            (with_reducible refine wq_k ?_ ?_); exact rfl; intro K hK; go_simp; (with_reducible refine hK _ ?_); clear hK K
            (with_reducible apply wq_one); exact rfl; exact rfl; exact hone1.out
            try simp only [put_lit, List.set_cons_zero, List.set_cons_succ]
            (with_reducible refine wq_k ?_ ?_); exact rfl; intro K hK; go_simp; (with_reducible refine hK _ ?_); clear hK K
            (with_reducible refine wq_k ?_ ?_); exact rfl; intro K hK; go_simp; (with_reducible refine hK _ ?_); clear hK K
            (with_reducible refine wq_k ?_ ?_); exact rfl; intro K hK; go_simp; (with_reducible refine hK _ ?_); clear hK K
            (with_reducible refine wq_k ?_ ?_); exact rfl; intro K hK; go_simp; (with_reducible refine hK _ ?_); clear hK K
            (with_reducible apply wq_one); exact rfl; exact rfl; exact hone2.out
            try simp only [put_lit, List.set_cons_zero, List.set_cons_succ]
            (with_reducible refine wq_k ?_ ?_); exact rfl; intro K hK; go_simp; (with_reducible refine hK _ ?_); clear hK K
            (with_reducible refine wq_k ?_ ?_); exact rfl; intro K hK; go_simp; (with_reducible refine hK _ ?_); clear hK K
            intro w7 hb7
            replace HO := Lib.hid (HO.out.old hb7)
            replace hb := hb.trans (hb7.mono hb.size)
            clear hb7 hone1 hone2
            have HOd : Hid (OwnI w7.drew B (.slice (some ⟨g, 0, none⟩) l c) ns) := Lib.hid HO.out
            have h1 := Lib.hid (HOd.out.one HAB.out.2)
            have h2 := Lib.hid (HOd.out.one HAB.out.1)
            clear HAB
            go_upto_region 8 with (fail)
            refine wp_region_held_drew (S := Below w.heap.size w) mixed hb.drew (fun hS => ?_)
            refine ha_k (i := 0) rfl (by kernel_rfl) (by kernel_rfl) (by kernel_rfl) (fun _ _ _ _ h => h) hS rfl (fun K hK => ?_); go_simp; refine hK _ ?_; clear hK K; try simp only [put_lit, List.set_cons_zero, List.set_cons_succ]
            refine ha_k (i := 1) rfl (by kernel_rfl) (by kernel_rfl) (by kernel_rfl) (fun _ _ _ _ h => h) hS rfl (fun K hK => ?_); go_simp; refine hK _ ?_; clear hK K; try simp only [put_lit, List.set_cons_zero, List.set_cons_succ]
            refine ha_k (i := 2) rfl (by kernel_rfl) (by kernel_rfl) (by kernel_rfl) (fun _ _ _ _ h => h) hS rfl (fun K hK => ?_); go_simp; refine hK _ ?_; clear hK K; try simp only [put_lit, List.set_cons_zero, List.set_cons_succ]
            refine ha_k (i := 3) rfl (by kernel_rfl) (by kernel_rfl) (by kernel_rfl) (fun _ _ _ _ h => h) hS rfl (fun K hK => ?_); go_simp; refine hK _ ?_; clear hK K; try simp only [put_lit, List.set_cons_zero, List.set_cons_succ]
            refine ha_k (i := 4) rfl (by kernel_rfl) (by kernel_rfl) (by kernel_rfl) (fun _ _ _ _ h => h) hS rfl (fun K hK => ?_); go_simp; refine hK _ ?_; clear hK K; try simp only [put_lit, List.set_cons_zero, List.set_cons_succ]
            refine ha_k (i := 5) rfl (by kernel_rfl) (by kernel_rfl) (by kernel_rfl) (fun _ _ _ _ h => h) hS rfl (fun K hK => ?_); go_simp; refine hK _ ?_; clear hK K; try simp only [put_lit, List.set_cons_zero, List.set_cons_succ]
            refine ha_k (i := 6) rfl (by kernel_rfl) (by kernel_rfl) (by kernel_rfl) (fun _ _ _ _ h => h) hS rfl (fun K hK => ?_); go_simp; refine hK _ ?_; clear hK K; try simp only [put_lit, List.set_cons_zero, List.set_cons_succ]
            refine ha_k (i := 7) rfl (by kernel_rfl) (by kernel_rfl) (by kernel_rfl) (fun _ _ _ _ h => h) hS rfl (fun K hK => ?_); go_simp; refine hK _ ?_; clear hK K; try simp only [put_lit, List.set_cons_zero, List.set_cons_succ]
            refine ha_k (i := 8) rfl (by kernel_rfl) (by kernel_rfl) (by kernel_rfl) (fun _ _ _ _ h => h) hS rfl (fun K hK => ?_); go_simp; refine hK _ ?_; clear hK K; try simp only [put_lit, List.set_cons_zero, List.set_cons_succ]
            refine ha_k (i := 10) rfl (by kernel_rfl) (by kernel_rfl) (by kernel_rfl) (fun _ _ _ _ h => h) hS rfl (fun K hK => ?_); go_simp; refine hK _ ?_; clear hK K; try simp only [put_lit, List.set_cons_zero, List.set_cons_succ]
            refine ha_k (i := 11) rfl (by kernel_rfl) (by kernel_rfl) (by kernel_rfl) (fun _ _ _ _ h => h) hS rfl (fun K hK => ?_); go_simp; refine hK _ ?_; clear hK K; try simp only [put_lit, List.set_cons_zero, List.set_cons_succ]
            refine ha_k (i := 12) rfl (by kernel_rfl) (by kernel_rfl) (by kernel_rfl) (fun _ _ _ _ h => h) hS rfl (fun K hK => ?_); go_simp; refine hK _ ?_; clear hK K; try simp only [put_lit, List.set_cons_zero, List.set_cons_succ]
            refine ha_two (i := 9) (j := 13) (by kernel_rfl) ?_ ?_
            · refine sh_val (i := 9) rfl rfl (ex_one rfl h2.out) hS ?_
              try simp only [put_lit, List.set_cons_zero, List.set_cons_succ]
              refine ha_do (i := 13) (by kernel_rfl) rfl rfl (ex_one rfl h1.out) hS ?_
              try simp only [put_lit, List.set_cons_zero, List.set_cons_succ]
              refine ha_k (i := 14) rfl (by kernel_rfl) (by kernel_rfl) (by kernel_rfl) (fun _ _ _ _ h => h) hS rfl (fun K hK => ?_); go_simp; refine hK _ ?_; clear hK K; try simp only [put_lit, List.set_cons_zero, List.set_cons_succ]
              refine ha_storeC (i := 15) (by kernel_rfl) rfl rfl 3 _ _ rfl g m (.int .i64 a) rfl rfl info3s rfl (HOd.out.lies HL2.out.2).1 (HOd.out.lies HL2.out.2).2 (hS.setCell hgB _) (fun hS => ?_)
              have HO2 := Lib.hid (HOd.out.put HL2.out.2 a)
              try simp only [put_lit, List.set_cons_zero, List.set_cons_succ]
              refine ha_k (i := 16) rfl (by kernel_rfl) (by kernel_rfl) (by kernel_rfl) (fun _ _ _ _ h => h) hS rfl (fun K hK => ?_); go_simp; refine hK _ ?_; clear hK K; try simp only [put_lit, List.set_cons_zero, List.set_cons_succ]
              refine ha_storeC (i := 17) (by kernel_rfl) rfl rfl 3 _ _ rfl g m1 (.int .i64 b) rfl rfl info3s rfl (HO2.out.lies HL2.out.1).1 (HO2.out.lies HL2.out.1).2 (hS.setCell hgB _) (fun hS => ?_)
              have HO3 := Lib.hid (HO2.out.put HL2.out.1 b)
              refine wpAnyH_done (by kernel_rfl) ?_ _
              clear HO2
              obtain ⟨X, hX⟩ : ∃ X, X = (w7.drew.setCell ⟨g, m, none⟩ (.int .i64 a)).setCell ⟨g, m1, none⟩ (.int .i64 b) := ⟨_, rfl⟩
              rw [← hX] at HO3 hS ⊢
              clear hX HOd h1 h2 HO hb
              go_wp2_with fail
              go_roundw
              case rel => exact ⟨m1, _, by omega, by go_num, HO3, HSW, hS⟩
              case measure => simp [intOf]; omega
            · refine sh_val (i := 13) rfl rfl (ex_one rfl h1.out) hS ?_
              try simp only [put_lit, List.set_cons_zero, List.set_cons_succ]
              refine ha_do (i := 9) (by kernel_rfl) rfl rfl (ex_one rfl h2.out) hS ?_
              try simp only [put_lit, List.set_cons_zero, List.set_cons_succ]
              refine ha_k (i := 14) rfl (by kernel_rfl) (by kernel_rfl) (by kernel_rfl) (fun _ _ _ _ h => h) hS rfl (fun K hK => ?_); go_simp; refine hK _ ?_; clear hK K; try simp only [put_lit, List.set_cons_zero, List.set_cons_succ]
              refine ha_storeC (i := 15) (by kernel_rfl) rfl rfl 3 _ _ rfl g m (.int .i64 a) rfl rfl info3s rfl (HOd.out.lies HL2.out.2).1 (HOd.out.lies HL2.out.2).2 (hS.setCell hgB _) (fun hS => ?_)
              have HO2 := Lib.hid (HOd.out.put HL2.out.2 a)
              try simp only [put_lit, List.set_cons_zero, List.set_cons_succ]
              refine ha_k (i := 16) rfl (by kernel_rfl) (by kernel_rfl) (by kernel_rfl) (fun _ _ _ _ h => h) hS rfl (fun K hK => ?_); go_simp; refine hK _ ?_; clear hK K; try simp only [put_lit, List.set_cons_zero, List.set_cons_succ]
              refine ha_storeC (i := 17) (by kernel_rfl) rfl rfl 3 _ _ rfl g m1 (.int .i64 b) rfl rfl info3s rfl (HO2.out.lies HL2.out.1).1 (HO2.out.lies HL2.out.1).2 (hS.setCell hgB _) (fun hS => ?_)
              have HO3 := Lib.hid (HO2.out.put HL2.out.1 b)
              refine wpAnyH_done (by kernel_rfl) ?_ _
              clear HO2
              obtain ⟨X, hX⟩ : ∃ X, X = (w7.drew.setCell ⟨g, m, none⟩ (.int .i64 a)).setCell ⟨g, m1, none⟩ (.int .i64 b) := ⟨_, rfl⟩
              rw [← hX] at HO3 hS ⊢
              clear hX HOd h1 h2 HO hb
              go_wp2_with fail
              go_roundw
              case rel => exact ⟨m1, _, by omega, by go_num, HO3, HSW, hS⟩
              case measure => simp [intOf]; omega
          · replace hlss : ¬ b < a := hlss
            go_upto_region 6 with (fail)
            refine wp_region_belowAll mixed (by kernel_rfl) ?_
            (with_reducible refine wq_k ?_ ?_); exact rfl; intro K hK; go_simp; (with_reducible refine hK _ ?_); clear hK K
            (with_reducible refine wq_k ?_ ?_); exact rfl; intro K hK; go_simp; (with_reducible refine hK _ ?_); clear hK K
            (with_reducible refine wq_k ?_ ?_); exact rfl; intro K hK; go_simp; (with_reducible refine hK _ ?_); clear hK K
            (with_reducible refine wq_k ?_ ?_); exact rfl; intro K hK; go_simp; (with_reducible refine hK _ ?_); clear hK K
            (with_reducible refine wq_k ?_ ?_); exact rfl; intro K hK; go_simp; (with_reducible refine hK _ ?_); clear hK K
            (with_reducible refine wq_k ?_ ?_); exact rfl; intro K hK; go_simp; (with_reducible refine hK _ ?_); clear hK K
            (with_reducible apply wq_one); exact rfl; exact rfl; exact hone1.out
            try simp only [put_lit, List.set_cons_zero, List.set_cons_succ]
            (with_reducible refine wq_k ?_ ?_); exact rfl; intro K hK; go_simp; (with_reducible refine hK _ ?_); clear hK K
            (with_reducible refine wq_k ?_ ?_); exact rfl; intro K hK; go_simp; (with_reducible refine hK _ ?_); clear hK K
            (with_reducible refine wq_k ?_ ?_); exact rfl; intro K hK; go_simp; (with_reducible refine hK _ ?_); clear hK K
            (with_reducible refine wq_k ?_ ?_); exact rfl; intro K hK; go_simp; (with_reducible refine hK _ ?_); clear hK K
            (with_reducible apply wq_one); exact rfl; exact rfl; exact hone2.out
            try simp only [put_lit, List.set_cons_zero, List.set_cons_succ]
            (with_reducible refine wq_k ?_ ?_); exact rfl; intro K hK; go_simp; (with_reducible refine hK _ ?_); clear hK K
            (with_reducible refine wq_k ?_ ?_); exact rfl; intro K hK; go_simp; (with_reducible refine hK _ ?_); clear hK K
            intro w7 hb7
            replace HO := Lib.hid (HO.out.old hb7)
            replace hb := hb.trans (hb7.mono hb.size)
            clear hb7 hone1 hone2 HAB
            go_wp2_with fail
            go_roundw
            case rel => exact ⟨j + 1, ns, by omega, by go_num, HO, HR, hb⟩
            case measure => simp [intOf]; omega
    · have hltI : ¬ (j : Int) < (l : Int) := by omega
      have HF : Hid (VaPost w t (.returned (.slice A l c)) wr) := Lib.hid (by
        refine ⟨_, _, _, ns1, rfl, ?_, fun x => by rw [HR.out.mem_iff]; exact HM.out x, by rw [HR.out.length_eq]; exact HLN.out, hb⟩
        have h1 := HO.out
        refine ⟨h1.1, h1.2.imp id ?_⟩
        rintro ⟨g, cap, cur, h2, h3, h4⟩
        exact ⟨g, cap, cur, h2, by omega, h4⟩)
      clear HO HR hb
      go_wp2_with fail
      go_ret
      exact HF.out
end Go.Proofs.YtokmaehefenpmaaDoor
namespace Go.Proofs.YtokmaehefenpmaaDoor
open Go.RowKit Go.Proofs.YtokmaehefenpmaaDoor.Nm
set_option linter.unusedSimpArgs false
theorem nums_low : ∀ t : Ty, t.all (nodeB true) = true → ∀ x, x ∈ t.nums → 0 ≤ x ∧ x < 40 := Ty.ind fun k s n l ih ha x hx => by
  rw [Ty.all, Bool.and_eq_true, alls_iff] at ha
  simp only [Ty.nums, List.mem_append] at hx
  rcases hx with hx | hx
  · by_cases hk : k = 12
    · subst hk
      have := ha.1
      simp [nodeB, nodeK] at this
      simp at hx
      subst hx
      omega
    · rw [if_neg hk] at hx; cases hx
  · obtain ⟨u, hu, h2⟩ := numsL_mem.1 hx
    exact ih u hu (ha.2 u hu) x h2
theorem nums_open {t : Ty} (h : validB true t = true) : ∀ x, x ∈ t.nums → 0 ≤ x ∧ x < 40 := nums_low t (by
  unfold validB at h
  rw [Bool.and_eq_true] at h
  exact h.2)
theorem run_catI {w : World} {B : Nat} {v : Value} {ns zs : List Int} (oty : TypeId) (h : OwnI w B v ns) {A : Option Addr} {l c : Nat} (hz : IxAt w zs A l c) (hc : A = none → c = 0) (hn : ns.length + zs.length ≤ 1000000) (hB : B ≤ w.heap.size) :
    ∃ A' l' c' w', (Builtin.append_ #[61, 61] oty #[v, .slice A l c]).run Tryd.prog w = .ok (.slice A' l' c') w' ∧ OwnI w' B (.slice A' l' c') (ns ++ zs) ∧ Gro v w (.slice A' l' c') w' := by
  obtain ⟨i0, hi, hz0, hz1, hz2⟩ := info_parts info3b
  obtain ⟨rfl, h2, h3, h4⟩ := hz
  cases A with
  | none =>
    obtain rfl := hc rfl
    have h0 : zs = [] := by
      cases zs with
      | nil => rfl
      | cons z zs => obtain ⟨b, off, e, -⟩ := h4 0 z rfl; cases e
    subst h0
    obtain ⟨A', l', c', rfl, -⟩ := h.ix
    refine ⟨A', l', c', w, run_append_owned_none (P := Tryd.prog) w B 61 oty 3 i0 1 u61 hi _ ns.length _ h, by rw [List.append_nil]; exact h, Gro.of (Below.refl _ _)⟩
  | some a =>
    obtain ⟨v', w', hr, g2, g3, g4, g5⟩ := run_append_own_at (P := Tryd.prog) w B 61 oty 3 i0 _ 1 8 u61 hi hz0 hz1 hz2 rfl (by decide) v ns.length _ h a zs.length c (zs.map (.int .i64)) (by simp) (fun j u hj => by
        rw [List.getElem?_map] at hj
        obtain ⟨z, hz, rfl⟩ := Option.map_eq_some_iff.1 hj
        obtain ⟨b, off, e, hcell⟩ := h4 j z hz
        cases e
        rw [Addr.add_mid]
        exact hcell) (fun u hu => by obtain ⟨z, -, rfl⟩ := List.mem_map.1 hu; rfl) (by unfold maxLen; omega) (by omega) hB
    have hO : OwnI w' B v' (ns ++ zs) := by unfold OwnI; simpa using g2
    obtain ⟨A', l', c', rfl, -⟩ := hO.ix
    refine ⟨A', l', c', w', hr, hO, fun b hb hne => g3.block b hb (fun e => hne e.symm), fun b e => ?_, fun B' w0 hb1 hb2 hb => hb.grown g3 hb2 hb1⟩
    rcases g5 with e5 | e5
    · rw [e5] at e; exact .inl e
    · rw [e5] at e; simp at e; exact .inr (by omega)
section
variable {md : Region.Mode} {ops : Array Oper} {Q : Exit → Act → World → Prop} {S : World → Prop} {fuel : Nat} {listed : Array Bool} {a : Act} {w : World} {i : Nat} {oi : Oper}
theorem ha_catI (hr : Region.ready md ops listed = [i]) (ho : ops[i]? = some oi) (hg : Region.wanted oi (yielded ops a.tmps) = true) (s x : Operand) (hop : oi.op = .call { callee := .builtin .append, args := #[s, x], argTypes := #[61, 61] }) {B : Nat} {v : Value} {ns zs : List Int} {A : Option Addr} {l c : Nat}
    (hs : a.eval s = v) (hx : a.eval x = .slice A l c) (h : OwnI w B v ns) (hz : IxAt w zs A l c) (hc : A = none → c = 0) (hn : ns.length + zs.length ≤ 1000000) (hB : B ≤ w.heap.size)
    (hS : ∀ A l c w', Gro v w (.slice A l c) w' → S w')
    (hK : ∀ A l c w', OwnI w' B (.slice A l c) (ns ++ zs) → Gro v w (.slice A l c) w' → S w' → wpAnyH Tryd.prog md ops Q S fuel (listed.setIfInBounds i true) (a.put oi.dst (.slice A l c)) w') : wpAnyH Tryd.prog md ops Q S (fuel + 1) listed a w := by
  obtain ⟨A', l', c', w', hx2, h2, h3⟩ := run_catI oi.type h hz hc hn hB
  refine ha_do hr ho hg (w2 := w') (v := .slice A' l' c') ?_ (hS _ _ _ w' h3) (hK A' l' c' w' h2 h3 (hS _ _ _ w' h3))
  unfold execOp
  simp only [hop, resolve, invoke, builtin, Sem.run_bind, Sem.run_pure, Result.andThen_ok, List.map_toArray, List.map_cons, List.map_nil, hs, hx, hx2]
end
end Go.Proofs.YtokmaehefenpmaaDoor
namespace Go.Proofs.YtokmaehefenpmaaDoor
open Go.RowKit Go.ChangeMaps Go.Proofs.YtokmaehefenpmaaDoor.Nm
/-- The same equations, but for the order and the sides. -/
def SameE (es fs : Eqs) : Prop := (∀ p, p ∈ es → p ∈ fs ∨ (p.2, p.1) ∈ fs) ∧ ∀ p, p ∈ fs → p ∈ es ∨ (p.2, p.1) ∈ es
theorem SameE.refl (es : Eqs) : SameE es es := ⟨fun _ h => .inl h, fun _ h => .inl h⟩
theorem SameE.step {es os ls : Eqs} (h : SameE es (os ++ ls)) {k : Nat} {t u : Ty} (hk : ls[k]? = some (t, u)) {x : Ty × Ty} (hx : x = (t, u) ∨ x = (u, t)) : SameE es ((os ++ [x]) ++ (ls.take k ++ ls.drop (k + 1))) := by
  obtain ⟨hl, he⟩ := List.getElem?_eq_some_iff.1 hk
  have hm : ∀ p, p ∈ ls ↔ p ∈ ls.take k ∨ p = (t, u) ∨ p ∈ ls.drop (k + 1) := fun p => by
    have e : ls = ls.take k ++ (t, u) :: ls.drop (k + 1) := by
      conv => lhs; rw [← List.take_append_drop k ls, List.drop_eq_getElem_cons hl, he]
    conv => lhs; rw [e]
    simp
  constructor
  · intro p hp
    have key : ∀ p, p ∈ os ++ ls → p ∈ (os ++ [x]) ++ (ls.take k ++ ls.drop (k + 1)) ∨ (p.2, p.1) ∈ (os ++ [x]) ++ (ls.take k ++ ls.drop (k + 1)) := fun p hp => by
      rcases List.mem_append.1 hp with hp | hp
      · left; simp [hp]
      · rcases (hm p).1 hp with hp | rfl | hp
        · left; simp [hp]
        · rcases hx with rfl | rfl
          · left; simp
          · right; simp
        · left; simp [hp]
    rcases h.1 p hp with hp | hp
    · exact key p hp
    · rcases key _ hp with h | h
      · exact .inr h
      · exact .inl h
  · intro p hp
    have key : p ∈ os ++ ls ∨ (p.2, p.1) ∈ os ++ ls := by
      simp only [List.mem_append, List.mem_singleton] at hp
      rcases hp with (hp | rfl) | (hp | hp)
      · left; simp [hp]
      · rcases hx with rfl | rfl
        · left; exact List.mem_append.2 (.inr ((hm _).2 (.inr (.inl rfl))))
        · right; exact List.mem_append.2 (.inr ((hm _).2 (.inr (.inl rfl))))
      · left; exact List.mem_append.2 (.inr ((hm _).2 (.inl hp)))
      · left; exact List.mem_append.2 (.inr ((hm _).2 (.inr (.inr hp))))
    rcases key with hp | hp
    · exact h.2 p hp
    · rcases h.2 _ hp with h | h
      · exact .inr h
      · exact .inl h
theorem SameE.opn {es fs : Eqs} (h : SameE es fs) : OpenE es ↔ OpenE fs := by
  constructor
  · intro ho p hp
    rcases h.2 p hp with h | h
    · exact ho p h
    · exact ⟨(ho _ h).2, (ho _ h).1⟩
  · intro ho p hp
    rcases h.1 p hp with h | h
    · exact ho p h
    · exact ⟨(ho _ h).2, (ho _ h).1⟩
theorem most_least {b : Int} : ∀ (es : Eqs) (a : Int), OpenE es → a ≤ b → (∀ p, p ∈ es → ∀ v : Nat, p.1.occ v = true ∨ p.2.occ v = true → (v : Int) ≤ b) → es.foldl (fun a p => most1 (most1 a p.1) p.2) a ≤ b
  | [], a, _, ha, _ => ha
  | (t, u) :: es, a, ho, ha, hv => by
    have one : ∀ (x : Ty) (a : Int), validB true x = true → a ≤ b → (∀ v : Nat, x.occ v = true → (v : Int) ≤ b) → most1 a x ≤ b := fun x a hx ha hv => (foldl_max _ _).2.2 b ha fun z hz => by
      obtain ⟨h1, h2⟩ := open_vars hx z hz
      have e : z = ((z.toNat : Nat) : Int) := by omega
      rw [e]
      refine hv _ ?_
      rw [← vars_has, List.contains_iff_mem, ← e]
      exact hz
    have h0 := ho (t, u) (by simp)
    simp only [List.foldl_cons]
    exact most_least es _ (fun p hp => ho p (by simp [hp])) (one u _ h0.2 (one t a h0.1 ha fun v h => hv (t, u) (by simp) v (.inl h)) fun v h => hv (t, u) (by simp) v (.inr h)) fun p hp => hv p (by simp [hp])
theorem SameE.most {es fs : Eqs} (h : SameE es fs) (ho : OpenE es) : mostE fs ≤ mostE es := by
  obtain ⟨h1, h2, h3⟩ := most_run es (-1) ho (by omega)
  refine most_least fs (-1) (h.opn.1 ho) h1 fun p hp v hv => ?_
  rcases h.2 p hp with h | h
  · exact h3 p h v hv
  · exact h3 _ h v hv.symm
theorem SameE.symm {es fs : Eqs} (h : SameE es fs) : SameE fs es := ⟨h.2, h.1⟩
theorem SameE.mOf {es fs : Eqs} (h : SameE es fs) (ho : OpenE es) : mOf fs = mOf es := by
  have h1 := h.most ho
  have h2 := h.symm.most (h.opn.1 ho)
  unfold YtokmaehefenpmaaDoor.mOf
  rw [show mostE fs = mostE es by omega]
end Go.Proofs.YtokmaehefenpmaaDoor
namespace Go.Proofs.YtokmaehefenpmaaDoor
open Go.RowKit Go.ChangeMaps Go.Proofs.YtokmaehefenpmaaDoor.Nm
set_option linter.unusedSimpArgs false
/-- A row of pairs whose trees lie below B. -/
def SrcE (w : World) (B : Nat) (es : Eqs) (A : Option Addr) : Prop := ∀ i a b, es[i]? = some (a, b) → ∃ bl off Cs t fr rowa rowb, A = some ⟨bl, off, none⟩ ∧ w.heap[bl]? = some (.cells Cs t fr) ∧ Cs.extract (off + i * 8) (off + i * 8 + 4) = rowa ∧ Cs.extract (off + i * 8 + 4) (off + i * 8 + 8) = rowb ∧ TyAt w (fun b => b < B) a rowa ∧ TyAt w (fun b => b < B) b rowb
theorem SrcE.eqs {w : World} {B : Nat} {es : Eqs} {A : Option Addr} {l c : Nat} (h : SrcE w B es A) (hl : es.length = l) (hc : l ≤ c) (hm : c ≤ maxLen) : EqsAt w Any es A l c :=
  ⟨hl, hc, hm, fun i a b hi => by
    obtain ⟨bl, off, Cs, t, fr, rowa, rowb, h1, h3, h4, h5, h6, h7⟩ := h i a b hi
    exact ⟨bl, off, Cs, t, fr, rowa, rowb, h1, trivial, h3, h4, h5, h6.weak fun _ _ => trivial, h7.weak fun _ _ => trivial⟩⟩
theorem EqsAt.src {w : World} {D : Nat → Prop} {B : Nat} {es : Eqs} {A : Option Addr} {l c : Nat} (h : EqsAt w D es A l c) (hD : ∀ b, D b → b < B) : SrcE w B es A := fun i a b hi => by
  obtain ⟨bl, off, Cs, t, fr, rowa, rowb, h1, h2, h3, h4, h5, h6, h7⟩ := h.el i a b hi
  exact ⟨bl, off, Cs, t, fr, rowa, rowb, h1, h3, h4, h5, h6.weak hD, h7.weak hD⟩
theorem SrcE.take {w : World} {B : Nat} {es : Eqs} {A : Option Addr} (h : SrcE w B es A) (k : Nat) : SrcE w B (es.take k) A := fun i a b hi => h i a b (by
  rw [List.getElem?_take] at hi
  split at hi
  · exact hi
  · cases hi)
theorem SrcE.drop {w : World} {B : Nat} {es : Eqs} {bl off : Nat} (h : SrcE w B es (some ⟨bl, off, none⟩)) (k : Nat) : SrcE w B (es.drop k) (some ⟨bl, off + k * 8, none⟩) := fun i a b hi => by
  rw [List.getElem?_drop] at hi
  obtain ⟨bl', off', Cs, t, fr, rowa, rowb, h1, h3, h4, h5, h6, h7⟩ := h _ a b hi
  cases h1
  exact ⟨bl, off + k * 8, Cs, t, fr, rowa, rowb, rfl, h3, by rw [← h4]; congr 1 <;> omega, by rw [← h5]; congr 1 <;> omega, h6, h7⟩
/-- Its cells. -/
theorem SrcE.cells {w : World} {B : Nat} {es : Eqs} {bl off : Nat} (h : SrcE w B es (some ⟨bl, off, none⟩)) (hne : 0 < es.length) : ∃ news : List Value, news.length = es.length * 8 ∧ (∀ j u, news[j]? = some u → w.cell? (Addr.add ⟨bl, off, none⟩ j) = some u) ∧ (∀ u, u ∈ news → u.oneCell' = true) ∧
    ∀ i a b, es[i]? = some (a, b) → TyAt w (fun b => b < B) a ((news.drop (i * 8)).take 4).toArray ∧ TyAt w (fun b => b < B) b ((news.drop (i * 8 + 4)).take 4).toArray := by
  obtain ⟨bl0, off0, Cs, t, fr, rowa, rowb, h1, h3, -⟩ := h 0 _ _ (List.getElem?_eq_getElem hne)
  cases h1
  have hsz : off + es.length * 8 ≤ Cs.size := by
    have hlast : es.length - 1 < es.length := by omega
    obtain ⟨bl1, off1, Cs1, t1, fr1, ra, rb, k1, k3, k4, k5, k6, k7⟩ := h (es.length - 1) _ _ (List.getElem?_eq_getElem hlast)
    cases k1
    rw [h3] at k3
    cases k3
    have := k7.size
    rw [← k5] at this
    simp at this
    omega
  have hpart : ∀ i a b, es[i]? = some (a, b) → ((((Cs.toList.drop off).take (es.length * 8)).drop (i * 8)).take 4).toArray = Cs.extract (off + i * 8) (off + i * 8 + 4) ∧ ((((Cs.toList.drop off).take (es.length * 8)).drop (i * 8 + 4)).take 4).toArray = Cs.extract (off + i * 8 + 4) (off + i * 8 + 8) := fun i a b hi => by
    have hil := (List.getElem?_eq_some_iff.1 hi).1
    have key : ∀ m, m + 4 ≤ es.length * 8 → ((((Cs.toList.drop off).take (es.length * 8)).drop m).take 4).toArray = Cs.extract (off + m) (off + m + 4) := fun m hm => by
      apply Array.ext_getElem?
      intro j
      rw [Array.getElem?_extract]
      simp only [List.getElem?_toArray]
      by_cases hj : j < 4
      · rw [List.getElem?_take_of_lt hj, List.getElem?_drop, List.getElem?_take_of_lt (by omega), List.getElem?_drop, Array.getElem?_toList, if_pos (by omega)]
        congr 1; omega
      · rw [List.getElem?_eq_none (by simp; omega), if_neg (by omega)]
    exact ⟨by rw [key _ (by omega)], by rw [key _ (by omega)]; congr 1 <;> omega⟩
  refine ⟨(Cs.toList.drop off).take (es.length * 8), by simp; omega, fun j u hj => ?_, fun u hu => ?_, fun i a b hi => ?_⟩
  · have hj8 : j < es.length * 8 := by
      have := (List.getElem?_eq_some_iff.1 hj).1
      simp at this; omega
    rw [List.getElem?_take_of_lt hj8, List.getElem?_drop, Array.getElem?_toList] at hj
    rw [Addr.add_mid, cell_of_row _ _ _ _ _ _ h3]
    exact hj
  · obtain ⟨j, hj⟩ := List.mem_iff_getElem?.1 hu
    have hj8 : j < es.length * 8 := by
      have := (List.getElem?_eq_some_iff.1 hj).1
      simp at this; omega
    have hi : j / 8 < es.length := by omega
    obtain ⟨⟨a, b⟩, hab⟩ : ∃ p, es[j / 8]? = some p := ⟨_, List.getElem?_eq_getElem hi⟩
    obtain ⟨bl1, off1, Cs1, t1, fr1, ra, rb, k1, k3, k4, k5, k6, k7⟩ := h (j / 8) a b hab
    cases k1
    rw [h3] at k3
    cases k3
    rw [List.getElem?_take_of_lt hj8, List.getElem?_drop, Array.getElem?_toList] at hj
    have one4 : ∀ {x : Ty} {row : Array Value} {i : Nat} {u : Value}, TyAt w (fun b => b < B) x row → row[i]? = some u → u.oneCell' = true := fun {x row i u} hx hu => by
      obtain ⟨k, s, n, A, l, c, rfl⟩ := row4 hx
      have := Array.mem_of_getElem? hu
      simp [cell4] at this
      rcases this with rfl | rfl | rfl | rfl <;> rfl
    by_cases h4 : j % 8 < 4
    · refine one4 (i := j % 8) k6 ?_
      rw [← k4, Array.getElem?_extract, if_pos (by omega), ← hj]
      congr 1; omega
    · refine one4 (i := j % 8 - 4) k7 ?_
      rw [← k5, Array.getElem?_extract, if_pos (by omega), ← hj]
      congr 1; omega
  · obtain ⟨bl1, off1, Cs1, t1, fr1, ra, rb, k1, k3, k4, k5, k6, k7⟩ := h i a b hi
    cases k1
    rw [h3] at k3
    cases k3
    obtain ⟨g1, g2⟩ := hpart i a b hi
    rw [g1, g2, k4, k5]
    exact ⟨k6, k7⟩
/-- A list of pairs of the call's own, its trees below B. -/
def OwnE (w : World) (B : Nat) (v : Value) (es : Eqs) : Prop := ∃ xs, w.ownsRow B 58 8 v es.length xs ∧ ∀ i a b, es[i]? = some (a, b) → TyAt w (fun b => b < B) a ((xs.drop (i * 8)).take 4).toArray ∧ TyAt w (fun b => b < B) b ((xs.drop (i * 8 + 4)).take 4).toArray
theorem OwnE.lt {w : World} {B : Nat} {v : Value} {es : Eqs} (h : OwnE w B v es) : ∀ b, v.ownBlock = some b → B ≤ b ∧ b < w.heap.size := by
  obtain ⟨xs, h1, -⟩ := h
  exact h1.lt
theorem OwnE.old {w w' : World} {B : Nat} {v : Value} {es : Eqs} (h : OwnE w B v es) (hb : Below w.heap.size w w') : OwnE w' B v es := by
  obtain ⟨xs, h1, h2⟩ := h
  exact ⟨xs, own_same h1 fun q hq _ => hb.block q hq, fun i a b hi => ⟨(h2 i a b hi).1.old hb, (h2 i a b hi).2.old hb⟩⟩
theorem OwnE.keep {w w' : World} {B : Nat} {v : Value} {es : Eqs} (h : OwnE w B v es) {C : Nat → Prop} (hk : Keep C w w') (hC : ∀ b, C b → B ≤ b ∧ v.ownBlock ≠ some b) : OwnE w' B v es := by
  obtain ⟨xs, h1, h2⟩ := h
  exact ⟨xs, own_same h1 fun q hq hv => hk.block q hq (fun hc => (hC q hc).2 hv), fun i a b hi => ⟨(h2 i a b hi).1.keep hk fun b hb hc => by have := (hC b hc).1; omega, (h2 i a b hi).2.keep hk fun b hb hc => by have := (hC b hc).1; omega⟩⟩
/-- Read as a row of pairs. -/
theorem OwnE.src {w : World} {B : Nat} {v : Value} {es : Eqs} (h : OwnE w B v es) : ∃ A c, v = .slice A es.length c ∧ SrcE w B es A ∧ es.length ≤ c ∧ c ≤ maxLen ∧ ∀ a, A = some a → ∃ g, a = ⟨g, 0, none⟩ := by
  obtain ⟨xs, h1, h2⟩ := h
  rcases h1.2 with ⟨rfl, hn⟩ | ⟨g, cap, cur, rfl, hB, hg, hc, hm, hs, hcur⟩
  · have : es = [] := by cases es with | nil => rfl | cons => simp at hn
    subst this
    exact ⟨none, 0, rfl, fun i a b hi => by simp at hi, Nat.le_refl _, Nat.zero_le _, fun a h => by cases h⟩
  · refine ⟨some ⟨g, 0, none⟩, cap, rfl, fun i a b hi => ?_, hc, hm, fun a h => by cases h; exact ⟨g, rfl⟩⟩
    have hil := (List.getElem?_eq_some_iff.1 hi).1
    obtain ⟨k1, k2⟩ := h2 i a b hi
    have hmul : es.length * 8 ≤ cap * 8 := Nat.mul_le_mul_right _ hc
    have key : ∀ m, m + 4 ≤ es.length * 8 → ((xs.drop m).take 4).toArray = cur.extract (0 + m) (0 + m + 4) := fun m hm => by
      apply Array.ext_getElem?
      intro j
      rw [Array.getElem?_extract]
      simp only [List.getElem?_toArray]
      by_cases hj : j < 4
      · rw [List.getElem?_take_of_lt hj, List.getElem?_drop, ← hcur, List.getElem?_take_of_lt (by omega), Array.getElem?_toList, if_pos (by omega)]
        congr 1; omega
      · rw [List.getElem?_eq_none (by simp; omega), if_neg (by omega)]
    rw [key _ (by omega)] at k1 k2
    exact ⟨g, 0, cur, 58, (0, 0), _, _, rfl, hg, rfl, by congr 1 <;> omega, k1, k2⟩
theorem info58b : (Tryd.prog.info? 58).map (fun i => (i.zero, i.size, i.bytes)) = some (some (.agg (cell8 0 ⟨#[]⟩ 0 none 0 0 0 ⟨#[]⟩ 0 none 0 0)), 8, 112) := by kernel_rfl
/-- An append of a row of pairs. -/
theorem run_catE {w : World} {B : Nat} {v : Value} {es fs : Eqs} (oty : TypeId) (h : OwnE w B v es) {A : Option Addr} {c : Nat} (hs : SrcE w B fs A) (hn : es.length + fs.length ≤ 1000000) (hB : B ≤ w.heap.size) (hAn : A = none → fs = [] ∧ c = 0) :
    ∃ v' w', (Builtin.append_ #[53, 53] oty #[v, .slice A fs.length c]).run Tryd.prog w = .ok v' w' ∧ OwnE w' B v' (es ++ fs) ∧ Keep (fun b => v.ownBlock = some b) w w' ∧ (v'.ownBlock = v.ownBlock ∨ v'.ownBlock = some w.heap.size) := by
  obtain ⟨i0, hi, hz0, hz1, hz2⟩ := info_parts info58b
  obtain ⟨xs, h1, h2⟩ := h
  have fin : ∀ {v' : Value} {w' : World} {news : List Value}, news.length = fs.length * 8 → (∀ i a b, fs[i]? = some (a, b) → TyAt w (fun b => b < B) a ((news.drop (i * 8)).take 4).toArray ∧ TyAt w (fun b => b < B) b ((news.drop (i * 8 + 4)).take 4).toArray) → w'.ownsRow B 58 8 v' (es.length + fs.length) (xs ++ news) → w.grownBy w' v.ownBlock → OwnE w' B v' (es ++ fs) := fun {v' w' news} hl hn ho hg => by
    have hxs : xs.length = es.length * 8 := h1.1
    have key : ∀ {x : Ty} {row : Array Value}, TyAt w (fun b => b < B) x row → TyAt w' (fun b => b < B) x row := fun h => h.mono (fun _ h => h) fun b hb => hg.block b (by omega) (fun e => by have := (h1.lt b e.symm).1; omega)
    refine ⟨xs ++ news, by rw [List.length_append]; exact ho, fun i a b hi => ?_⟩
    rcases Nat.lt_or_ge i es.length with hlt | hge
    · rw [List.getElem?_append_left hlt] at hi
      obtain ⟨k1, k2⟩ := h2 i a b hi
      rw [List.drop_append_of_le_length (by omega), List.drop_append_of_le_length (by omega), List.take_append_of_le_length (by simp; omega), List.take_append_of_le_length (by simp; omega)]
      exact ⟨key k1, key k2⟩
    · rw [List.getElem?_append_right hge] at hi
      obtain ⟨k1, k2⟩ := hn _ a b hi
      rw [List.drop_append, List.drop_append, List.drop_of_length_le (show xs.length ≤ i * 8 by omega), List.drop_of_length_le (show xs.length ≤ i * 8 + 4 by omega), List.nil_append, List.nil_append]
      rw [show i * 8 - xs.length = (i - es.length) * 8 by omega, show i * 8 + 4 - xs.length = (i - es.length) * 8 + 4 by omega]
      exact ⟨key k1, key k2⟩
  have keepOf : ∀ {w' : World}, w.grownBy w' v.ownBlock → Keep (fun b => v.ownBlock = some b) w w' := fun hg => ⟨hg.os, hg.tape, hg.output, hg.size, fun b hb hne => hg.block b hb (fun e => hne e.symm)⟩
  have rest : ∀ (a : Addr) (news : List Value), A = some a → news.length = fs.length * 8 → (∀ j u, news[j]? = some u → w.cell? (a.add j) = some u) → (∀ u, u ∈ news → u.oneCell' = true) → (∀ i a b, fs[i]? = some (a, b) → TyAt w (fun b => b < B) a ((news.drop (i * 8)).take 4).toArray ∧ TyAt w (fun b => b < B) b ((news.drop (i * 8 + 4)).take 4).toArray) →
      ∃ v' w', (Builtin.append_ #[53, 53] oty #[v, .slice A fs.length c]).run Tryd.prog w = .ok v' w' ∧ OwnE w' B v' (es ++ fs) ∧ Keep (fun b => v.ownBlock = some b) w w' ∧ (v'.ownBlock = v.ownBlock ∨ v'.ownBlock = some w.heap.size) := fun a news hAe hl hc h1' hn' => by
    subst hAe
    obtain ⟨v', w', hr, g2, g3, -, g5⟩ := run_append_own_at (P := Tryd.prog) w B 53 oty 58 i0 _ 8 112 u53 hi hz0 hz1 hz2 rfl (by decide) v es.length xs h1 a fs.length c news hl hc h1' (by unfold maxLen; omega) (by omega) hB
    exact ⟨v', w', hr, fin hl hn' g2 g3, keepOf g3, g5⟩
  by_cases hf : fs = []
  · subst hf
    cases A with
    | none =>
      obtain rfl := (hAn rfl).2
      have hr := run_append_owned_none (P := Tryd.prog) w B 53 oty 58 i0 8 u53 hi v es.length xs h1
      exact ⟨v, w, hr, by rw [List.append_nil]; exact ⟨xs, h1, h2⟩, Keep.refl _ _, .inl rfl⟩
    | some a => exact rest a [] rfl rfl (fun j u h => by simp at h) (fun u h => by simp at h) (fun i a b h => by simp at h)
  · have hne : 0 < fs.length := List.length_pos_iff.2 hf
    obtain ⟨bl, off, Cs, t, fr, rowa, rowb, hAe, -⟩ := hs 0 _ _ (List.getElem?_eq_getElem hne)
    subst hAe
    obtain ⟨news, g1, g2, g3, g4⟩ := hs.cells hne
    exact rest _ news rfl g1 g2 g3 g4
section
variable {ops : Array Oper} {rest : List Oper} {o : Oper} {a : Act} {w : World} {Q : Exit → Act → World → Prop}
theorem wl_catE (hg : o.guard = none) (s x : Operand) (ho : o.op = .call { callee := .builtin .append, args := #[s, x], argTypes := #[53, 53] }) {B : Nat} {v : Value} {es fs : Eqs} {A : Option Addr} {m c : Nat}
    (hs : a.eval s = v) (hx : a.eval x = .slice A m c) (h : OwnE w B v es) (hsrc : SrcE w B fs A) (hm : fs.length = m) (hAn : A = none → fs = [] ∧ c = 0) (hn : es.length + fs.length ≤ 1000000) (hB : B ≤ w.heap.size)
    (hK : ∀ v' w', OwnE w' B v' (es ++ fs) → Keep (fun b => v.ownBlock = some b) w w' → (v'.ownBlock = v.ownBlock ∨ v'.ownBlock = some w.heap.size) → wpList Tryd.prog ops Q rest (a.put o.dst v') w') : wpList Tryd.prog ops Q (o :: rest) a w := by
  subst hm
  obtain ⟨v', w', hr, h2, h3, h4⟩ := run_catE o.type h hsrc hn hB hAn
  refine wl_w hg ?_ (hK v' w' h2 h3 h4)
  unfold execOp
  simp only [ho, resolve, invoke, builtin, Sem.run_bind, Sem.run_pure, Result.andThen_ok, List.map_toArray, List.map_cons, List.map_nil, hs, hx, hr]
end
section
variable {md : Region.Mode} {ops : Array Oper} {Q : Exit → Act → World → Prop} {S : World → Prop} {fuel : Nat} {listed : Array Bool} {a : Act} {w : World} {i : Nat} {oi : Oper}
end
end Go.Proofs.YtokmaehefenpmaaDoor
namespace Go.Proofs.YtokmaehefenpmaaDoor
open Go.RowKit Go.ChangeMaps Go.Proofs.YtokmaehefenpmaaDoor.Nm
set_option linter.unusedSimpArgs false
theorem run_bs1 (k : Int) (s : ByteArray) (n : Int) (A : Option Addr) (l c : Nat) (k' : Int) (s' : ByteArray) (n' : Int) (A' : Option Addr) (l' c' : Nat) (w : World) : (Instr.buildSlice 53 1 #[(0, .agg (cell8 k s n A l c k' s' n' A' l' c'))]).run Tryd.prog w = .ok (.slice (some ⟨w.heap.size, 0, none⟩) 1 1) (w.alloc (.cells (cell8 k s n A l c k' s' n' A' l' c') 58)) := by kernel_rfl
theorem own_nil (w : World) (B : Nat) : OwnE w B (.slice none 0 0) [] := ⟨[], World.ownsRow_nil _ _ _ _, fun i a b h => by simp at h⟩
theorem src_one {w : World} {B p : Nat} {k : Int} {s : ByteArray} {n : Int} {A : Option Addr} {l c : Nat} {k' : Int} {s' : ByteArray} {n' : Int} {A' : Option Addr} {l' c' : Nat} {t u : Ty} (hp : w.heap[p]? = some (.cells (cell8 k s n A l c k' s' n' A' l' c') 58 (0, 0))) (ht : TyAt w (fun b => b < B) t (cell4 k s n A l c)) (hu : TyAt w (fun b => b < B) u (cell4 k' s' n' A' l' c')) : SrcE w B [(t, u)] (some ⟨p, 0, none⟩) := fun i a b hi => by
  rcases i with _ | i
  · cases hi
    exact ⟨p, 0, _, _, _, _, _, rfl, hp, rfl, rfl, ht, hu⟩
  · simp at hi
section
variable {ops : Array Oper} {rest : List Oper} {dst : Option Tmp} {ty ty' : TypeId} {x y : Operand} {pos : String} {after : Array Edge} {a : Act} {w : World} {Q : Exit → Act → World → Prop}
theorem wl_bs1 {k : Int} {s : ByteArray} {n : Int} {A : Option Addr} {l c : Nat} {k' : Int} {s' : ByteArray} {n' : Int} {A' : Option Addr} {l' c' : Nat} (hx : a.eval x = .agg (cell8 k s n A l c k' s' n' A' l' c')) (h : ∀ W p, Below w.heap.size w W → w.heap.size ≤ p → W.heap[p]? = some (.cells (cell8 k s n A l c k' s' n' A' l' c') 58 (0, 0)) → wpList Tryd.prog ops Q rest (a.put dst (.slice (some ⟨p, 0, none⟩) 1 1)) W) : wpList Tryd.prog ops Q (⟨dst, .buildSlice 53 1 #[(0, x)], ty', pos, after, none⟩ :: rest) a w :=
  wl_w rfl (by unfold execOp; have := run_bs1 k s n A l c k' s' n' A' l' c' w; simp [hx, this, Result.andThen]) (h _ _ ((Below.refl _ w).alloc (Nat.le_refl _) _) (Nat.le_refl _) (ha_new rfl))
end
section
variable {md : Region.Mode} {ops : Array Oper} {Q : Exit → Act → World → Prop} {S : World → Prop} {fuel : Nat} {listed : Array Bool} {a : Act} {w : World} {i : Nat} {oi : Oper}
end
end Go.Proofs.YtokmaehefenpmaaDoor
namespace Go.Proofs.YtokmaehefenpmaaDoor
open Go.RowKit Go.Proofs.YtokmaehefenpmaaDoor.Nm
set_option linter.unusedSimpArgs false
set_option maxHeartbeats 4000000 in
set_option maxRecDepth 100000 in
theorem shaped_int (op : Bool) (w : World) (D : Nat → Prop) (row : Array Value) (h : TyAt w D (.node 1 ⟨#[]⟩ 0 []) row) :
    Calls Tryd.prog 104 #[.agg row, .bool op] w fun e w' => e = .returned (.bool true) ∧ Below w.heap.size w w' := by
  obtain ⟨k, s, n, A, l, c, ts, he, rfl, -, -, -, hT⟩ := h.parts
  cases he
  have hl : l = 0 := by have := hT.len; simp at this; omega
  subst hl
  clear h hT
  have hb := Below.refl w.heap.size w
  go_enter Tryd.func104, Tryd.ntmps104
  go_upto_region 0 with (fail)
  apply wp_region_lit
  (with_reducible refine wl_box rfl ?_); intro W p hbn hlp hp; replace hb := hb.trans (hbn.mono hb.size); clear hbn; simp only [put_lit, List.set_cons_zero, List.set_cons_succ]
  (with_reducible refine wl_k ?_ ?_); exact rfl; intro K hK; go_simp; refine hK _ ?_; clear hK K
  go_upto_region 1 with (fail)
  apply wp_region_lit
  (with_reducible refine wl_k ?_ ?_); exact rfl; intro K hK; go_simp; refine hK _ ?_; clear hK K
  (first | ((with_reducible apply wl_oneG); exact rfl; exact rfl; first | exact f0 (by with_reducible assumption) | exact f1 (by with_reducible assumption) | exact f2 (by with_reducible assumption) | exact f3 (by with_reducible assumption) | with_reducible assumption | exact g22 (by with_reducible assumption) | exact g25 (by with_reducible assumption)) | ((with_reducible apply wl_rowG); exact rfl; exact rfl; first | with_reducible assumption | exact RowK.now (by with_reducible assumption) | exact f4 (by with_reducible assumption)))
  (with_reducible refine wl_k ?_ ?_); exact rfl; intro K hK; go_simp; refine hK _ ?_; clear hK K
  (with_reducible refine wl_k ?_ ?_); exact rfl; intro K hK; go_simp; refine hK _ ?_; clear hK K
  go_upto_region 2 with (fail)
  apply wp_region_lit
  (with_reducible refine wl_k ?_ ?_); exact rfl; intro K hK; go_simp; refine hK _ ?_; clear hK K
  (first | ((with_reducible apply wl_oneG); exact rfl; exact rfl; first | exact f0 (by with_reducible assumption) | exact f1 (by with_reducible assumption) | exact f2 (by with_reducible assumption) | exact f3 (by with_reducible assumption) | with_reducible assumption | exact g22 (by with_reducible assumption) | exact g25 (by with_reducible assumption)) | ((with_reducible apply wl_rowG); exact rfl; exact rfl; first | with_reducible assumption | exact RowK.now (by with_reducible assumption) | exact f4 (by with_reducible assumption)))
  (with_reducible refine wl_k ?_ ?_); exact rfl; intro K hK; go_simp; refine hK _ ?_; clear hK K
  go_upto_region 4 with (fail)
  apply wp_region_lit
  (with_reducible refine wl_k ?_ ?_); exact rfl; intro K hK; go_simp; refine hK _ ?_; clear hK K
  (first | ((with_reducible apply wl_oneG); exact rfl; exact rfl; first | exact f0 (by with_reducible assumption) | exact f1 (by with_reducible assumption) | exact f2 (by with_reducible assumption) | exact f3 (by with_reducible assumption) | with_reducible assumption | exact g22 (by with_reducible assumption) | exact g25 (by with_reducible assumption)) | ((with_reducible apply wl_rowG); exact rfl; exact rfl; first | with_reducible assumption | exact RowK.now (by with_reducible assumption) | exact f4 (by with_reducible assumption)))
  (with_reducible refine wl_k ?_ ?_); exact rfl; intro K hK; go_simp; refine hK _ ?_; clear hK K
  go_upto_region 6 with (fail)
  apply wp_region_lit
  (with_reducible refine wl_k ?_ ?_); exact rfl; intro K hK; go_simp; refine hK _ ?_; clear hK K
  (first | ((with_reducible apply wl_oneG); exact rfl; exact rfl; first | exact f0 (by with_reducible assumption) | exact f1 (by with_reducible assumption) | exact f2 (by with_reducible assumption) | exact f3 (by with_reducible assumption) | with_reducible assumption | exact g22 (by with_reducible assumption) | exact g25 (by with_reducible assumption)) | ((with_reducible apply wl_rowG); exact rfl; exact rfl; first | with_reducible assumption | exact RowK.now (by with_reducible assumption) | exact f4 (by with_reducible assumption)))
  go_upto_region 7 with (fail)
  apply wp_region_lit
  (with_reducible refine wl_k ?_ ?_); exact rfl; intro K hK; go_simp; refine hK _ ?_; clear hK K
  (with_reducible refine wl_k ?_ ?_); exact rfl; intro K hK; go_simp; refine hK _ ?_; clear hK K
  go_upto_region 11 with (fail)
  apply wp_region_lit
  (with_reducible refine wl_k ?_ ?_); exact rfl; intro K hK; go_simp; refine hK _ ?_; clear hK K
  (with_reducible refine wl_k ?_ ?_); exact rfl; intro K hK; go_simp; refine hK _ ?_; clear hK K
  (with_reducible refine wl_k ?_ ?_); exact rfl; intro K hK; go_simp; refine hK _ ?_; clear hK K
  (with_reducible refine wl_k ?_ ?_); exact rfl; intro K hK; go_simp; refine hK _ ?_; clear hK K
  (first | ((with_reducible apply wl_oneG); exact rfl; exact rfl; first | exact f0 (by with_reducible assumption) | exact f1 (by with_reducible assumption) | exact f2 (by with_reducible assumption) | exact f3 (by with_reducible assumption) | with_reducible assumption | exact g22 (by with_reducible assumption) | exact g25 (by with_reducible assumption)) | ((with_reducible apply wl_rowG); exact rfl; exact rfl; first | with_reducible assumption | exact RowK.now (by with_reducible assumption) | exact f4 (by with_reducible assumption)))
  (with_reducible refine wl_k ?_ ?_); exact rfl; intro K hK; go_simp; refine hK _ ?_; clear hK K
  (with_reducible refine wl_k ?_ ?_); exact rfl; intro K hK; go_simp; refine hK _ ?_; clear hK K
  (with_reducible refine wl_k ?_ ?_); exact rfl; intro K hK; go_simp; refine hK _ ?_; clear hK K
  clear hp
  go_wp2_with fail
  go_ret
  exact ⟨rfl, hb⟩
set_option maxHeartbeats 4000000 in
set_option maxRecDepth 100000 in
theorem shaped_arr (op : Bool) (t : Ty) (w : World) (D : Nat → Prop) (row : Array Value) (h : TyAt w D (.node 5 ⟨#[]⟩ 0 [t]) row) :
    Calls Tryd.prog 104 #[.agg row, .bool op] w fun e w' => e = .returned (.bool true) ∧ Below w.heap.size w w' := by
  obtain ⟨k, s, n, A, l, c, ts, he, rfl, -, -, -, hT⟩ := h.parts
  cases he
  have hl : l = 1 := by have := hT.len; simp at this; omega
  subst hl
  clear h hT
  have hb := Below.refl w.heap.size w
  go_enter Tryd.func104, Tryd.ntmps104
  go_upto_region 0 with (fail)
  apply wp_region_lit
  (with_reducible refine wl_box rfl ?_); intro W p hbn hlp hp; replace hb := hb.trans (hbn.mono hb.size); clear hbn; simp only [put_lit, List.set_cons_zero, List.set_cons_succ]
  (with_reducible refine wl_k ?_ ?_); exact rfl; intro K hK; go_simp; refine hK _ ?_; clear hK K
  go_upto_region 1 with (fail)
  apply wp_region_lit
  (with_reducible refine wl_k ?_ ?_); exact rfl; intro K hK; go_simp; refine hK _ ?_; clear hK K
  (first | ((with_reducible apply wl_oneG); exact rfl; exact rfl; first | exact f0 (by with_reducible assumption) | exact f1 (by with_reducible assumption) | exact f2 (by with_reducible assumption) | exact f3 (by with_reducible assumption) | with_reducible assumption | exact g22 (by with_reducible assumption) | exact g25 (by with_reducible assumption)) | ((with_reducible apply wl_rowG); exact rfl; exact rfl; first | with_reducible assumption | exact RowK.now (by with_reducible assumption) | exact f4 (by with_reducible assumption)))
  (with_reducible refine wl_k ?_ ?_); exact rfl; intro K hK; go_simp; refine hK _ ?_; clear hK K
  (with_reducible refine wl_k ?_ ?_); exact rfl; intro K hK; go_simp; refine hK _ ?_; clear hK K
  go_upto_region 2 with (fail)
  apply wp_region_lit
  (with_reducible refine wl_k ?_ ?_); exact rfl; intro K hK; go_simp; refine hK _ ?_; clear hK K
  (first | ((with_reducible apply wl_oneG); exact rfl; exact rfl; first | exact f0 (by with_reducible assumption) | exact f1 (by with_reducible assumption) | exact f2 (by with_reducible assumption) | exact f3 (by with_reducible assumption) | with_reducible assumption | exact g22 (by with_reducible assumption) | exact g25 (by with_reducible assumption)) | ((with_reducible apply wl_rowG); exact rfl; exact rfl; first | with_reducible assumption | exact RowK.now (by with_reducible assumption) | exact f4 (by with_reducible assumption)))
  (with_reducible refine wl_k ?_ ?_); exact rfl; intro K hK; go_simp; refine hK _ ?_; clear hK K
  go_upto_region 4 with (fail)
  apply wp_region_lit
  (with_reducible refine wl_k ?_ ?_); exact rfl; intro K hK; go_simp; refine hK _ ?_; clear hK K
  (first | ((with_reducible apply wl_oneG); exact rfl; exact rfl; first | exact f0 (by with_reducible assumption) | exact f1 (by with_reducible assumption) | exact f2 (by with_reducible assumption) | exact f3 (by with_reducible assumption) | with_reducible assumption | exact g22 (by with_reducible assumption) | exact g25 (by with_reducible assumption)) | ((with_reducible apply wl_rowG); exact rfl; exact rfl; first | with_reducible assumption | exact RowK.now (by with_reducible assumption) | exact f4 (by with_reducible assumption)))
  (with_reducible refine wl_k ?_ ?_); exact rfl; intro K hK; go_simp; refine hK _ ?_; clear hK K
  go_upto_region 6 with (fail)
  apply wp_region_lit
  (with_reducible refine wl_k ?_ ?_); exact rfl; intro K hK; go_simp; refine hK _ ?_; clear hK K
  (first | ((with_reducible apply wl_oneG); exact rfl; exact rfl; first | exact f0 (by with_reducible assumption) | exact f1 (by with_reducible assumption) | exact f2 (by with_reducible assumption) | exact f3 (by with_reducible assumption) | with_reducible assumption | exact g22 (by with_reducible assumption) | exact g25 (by with_reducible assumption)) | ((with_reducible apply wl_rowG); exact rfl; exact rfl; first | with_reducible assumption | exact RowK.now (by with_reducible assumption) | exact f4 (by with_reducible assumption)))
  go_upto_region 7 with (fail)
  apply wp_region_lit
  (with_reducible refine wl_k ?_ ?_); exact rfl; intro K hK; go_simp; refine hK _ ?_; clear hK K
  (with_reducible refine wl_k ?_ ?_); exact rfl; intro K hK; go_simp; refine hK _ ?_; clear hK K
  go_upto_region 8 with (fail)
  apply wp_region_lit
  (with_reducible refine wl_k ?_ ?_); exact rfl; intro K hK; go_simp; refine hK _ ?_; clear hK K
  (with_reducible refine wl_k ?_ ?_); exact rfl; intro K hK; go_simp; refine hK _ ?_; clear hK K
  go_upto_region 9 with (fail)
  apply wp_region_lit
  (with_reducible refine wl_k ?_ ?_); exact rfl; intro K hK; go_simp; refine hK _ ?_; clear hK K
  (with_reducible refine wl_k ?_ ?_); exact rfl; intro K hK; go_simp; refine hK _ ?_; clear hK K
  go_upto_region 10 with (fail)
  apply wp_region_lit
  (with_reducible refine wl_k ?_ ?_); exact rfl; intro K hK; go_simp; refine hK _ ?_; clear hK K
  (with_reducible refine wl_k ?_ ?_); exact rfl; intro K hK; go_simp; refine hK _ ?_; clear hK K
  go_upto_region 12 with (fail)
  apply wp_region_lit
  (with_reducible refine wl_k ?_ ?_); exact rfl; intro K hK; go_simp; refine hK _ ?_; clear hK K
  (with_reducible refine wl_k ?_ ?_); exact rfl; intro K hK; go_simp; refine hK _ ?_; clear hK K
  go_upto_region 14 with (fail)
  apply wp_region_lit
  (with_reducible refine wl_k ?_ ?_); exact rfl; intro K hK; go_simp; refine hK _ ?_; clear hK K
  (with_reducible refine wl_k ?_ ?_); exact rfl; intro K hK; go_simp; refine hK _ ?_; clear hK K
  (with_reducible refine wl_k ?_ ?_); exact rfl; intro K hK; go_simp; refine hK _ ?_; clear hK K
  (with_reducible refine wl_k ?_ ?_); exact rfl; intro K hK; go_simp; refine hK _ ?_; clear hK K
  (first | ((with_reducible apply wl_oneG); exact rfl; exact rfl; first | exact f0 (by with_reducible assumption) | exact f1 (by with_reducible assumption) | exact f2 (by with_reducible assumption) | exact f3 (by with_reducible assumption) | with_reducible assumption | exact g22 (by with_reducible assumption) | exact g25 (by with_reducible assumption)) | ((with_reducible apply wl_rowG); exact rfl; exact rfl; first | with_reducible assumption | exact RowK.now (by with_reducible assumption) | exact f4 (by with_reducible assumption)))
  (with_reducible refine wl_k ?_ ?_); exact rfl; intro K hK; go_simp; refine hK _ ?_; clear hK K
  (with_reducible refine wl_k ?_ ?_); exact rfl; intro K hK; go_simp; refine hK _ ?_; clear hK K
  (with_reducible refine wl_k ?_ ?_); exact rfl; intro K hK; go_simp; refine hK _ ?_; clear hK K
  clear hp
  go_wp2_with fail
  go_ret
  exact ⟨rfl, hb⟩
def intTy : Ty := .node 1 ⟨#[]⟩ 0 []
def arrTy : Ty := .node 5 ⟨#[]⟩ 0 [intTy]
def Two (t : Ty) : Prop := t = intTy ∨ t = arrTy
theorem two_sub : ∀ k s n l, Two (.node k s n l) → ∀ u, u ∈ l → Two u := fun k s n l h u hu => by
  rcases h with h | h
  · cases h; cases hu
  · cases h; simp at hu; exact Or.inl hu
theorem two_sh (op : Bool) (t : Ty) (h : Two t) : ShC op (fun _ => true) t := fun w D row ht => by
  rcases h with rfl | rfl
  · exact shaped_int op w D row ht
  · exact shaped_arr op intTy w D row ht
end Go.Proofs.YtokmaehefenpmaaDoor
namespace Go.Proofs.YtokmaehefenpmaaDoor
open Go.RowKit Go.Proofs.YtokmaehefenpmaaDoor.Nm
set_option linter.unusedSimpArgs false
/-- The operations of a region, by its number. -/
def regionOf (n : Nat) : Code → Option (Array Oper)
  | .region id ops _ => if id = n then some ops else none
  | .seq a b => match regionOf n a with | some x => some x | none => regionOf n b
  | .cond _ a b => match regionOf n a with | some x => some x | none => regionOf n b
  | .block _ a => regionOf n a
  | .loop a => regionOf n a
  | .scope a => regionOf n a
  | _ => none
noncomputable def opsW : Array Oper := (Tryd.f60.body.bind (regionOf 1)).getD #[]
def eL : List Nat := [1, 2, 3, 4, 5, 6, 9, 13, 17, 20, 21, 22]
def qL (p : Nat → Bool) (i : Nat) : Bool := if i ∈ eL then p i else decide (i < 23)
def listedOf (p : Nat → Bool) : Array Bool := ((List.range 25).map (qL p)).toArray
def upd (p : Nat → Bool) (i : Nat) : Nat → Bool := fun j => j == i || p j
def cnt (p : Nat → Bool) : Nat := (eL.filter fun i => !p i).length
theorem listedOf_size (p : Nat → Bool) : (listedOf p).size = 25 := by simp [listedOf]
theorem listedOf_get (p : Nat → Bool) {i : Nat} (hi : i < 25) : (listedOf p)[i]? = some (qL p i) := by simp [listedOf, hi]
theorem listedOf_getD (p : Nat → Bool) {i : Nat} (hi : i < 25) (d : Bool) : (listedOf p).getD i d = qL p i := by
  simp [listedOf_get p hi]
theorem listedOf_past (p : Nat → Bool) {i : Nat} (hi : 25 ≤ i) (d : Bool) : (listedOf p).getD i d = d := by
  simp [Array.getElem?_eq_none (show (listedOf p).size ≤ i by rw [listedOf_size]; exact hi)]
theorem listedOf_upd (p : Nat → Bool) {i : Nat} (hi : i ∈ eL) : (listedOf p).setIfInBounds i true = listedOf (upd p i) := by
  apply Array.ext_getElem?
  intro j
  rw [Array.getElem?_setIfInBounds, listedOf_size]
  by_cases hj : j < 25
  · rw [listedOf_get p hj, listedOf_get _ hj]
    by_cases e : i = j
    · subst e; simp [hj, qL, hi, upd]
    · have : (j == i) = false := by simp; exact fun h => e h.symm
      simp [e, qL, upd, this]
  · rw [Array.getElem?_eq_none (by rw [listedOf_size]; omega), Array.getElem?_eq_none (by rw [listedOf_size]; omega)]
    split
    · split
      · omega
      · rfl
    · rfl
theorem cnt_list {i : Nat} {p : Nat → Bool} (hp : p i = false) : ∀ {l : List Nat}, l.Nodup → i ∈ l → (l.filter fun j => !upd p i j).length + 1 = (l.filter fun j => !p j).length
  | [], _, h => by cases h
  | a :: l, hn, h => by
    rw [List.nodup_cons] at hn
    rcases List.mem_cons.1 h with rfl | h
    · have : (l.filter fun j => !upd p i j) = l.filter fun j => !p j := List.filter_congr fun j hj => by
        have : (j == i) = false := by simp; exact fun e => hn.1 (e ▸ hj)
        simp [upd, this]
      simp only [List.filter_cons, upd, hp, beq_self_eq_true, Bool.true_or, Bool.not_true, Bool.not_false, if_true, List.length_cons]
      rw [← this]; simp [upd]
    · have ha : (a == i) = false := by simp; exact fun e => hn.1 (e ▸ h)
      have ih := cnt_list hp hn.2 h
      simp only [List.filter_cons]
      have : upd p i a = p a := by simp [upd, ha]
      rw [this]
      cases p a <;> simp <;> omega
theorem cnt_upd {p : Nat → Bool} {i : Nat} (hi : i ∈ eL) (hp : p i = false) : cnt (upd p i) + 1 = cnt p := cnt_list hp (by decide) hi
theorem cnt_zero {p : Nat → Bool} (h : cnt p = 0) : ∀ i, i ∈ eL → p i = true := fun i hi => by
  cases hp : p i with
  | true => rfl
  | false => have := cnt_upd hi hp; omega
theorem listedOf_all {p : Nat → Bool} (h : ∀ i, i ∈ eL → p i = true) : listedOf p = listedOf fun _ => true := by
  unfold listedOf
  congr 1
  exact List.map_congr_left fun i _ => by unfold qL; split <;> simp_all
def insL : List Nat := [1, 2, 3, 4, 5, 6, 9, 13, 17, 22]
def keyOf : Nat → Int | 1 => 1 | 2 => 2 | 3 => 3 | 4 => 4 | 5 => 5 | 6 => 11 | 9 => 6 | 13 => 7 | 17 => 9 | _ => 12
def cInt : ByteArray := ⟨#[73, 110, 116]⟩
def cBool : ByteArray := ⟨#[66, 111, 111, 108]⟩
def cText : ByteArray := ⟨#[84, 101, 120, 116]⟩
def cUnit : ByteArray := ⟨#[85, 110, 105, 116]⟩
def cArr : ByteArray := ⟨#[65, 114, 114, 97, 121]⟩
def cWeak : ByteArray := ⟨#[87, 101, 97, 107]⟩
def argOp : Nat → Operand | 1 => .const (.string cInt) | 2 => .const (.string cBool) | 3 => .const (.string cText) | 4 => .const (.string cUnit) | 5 => .const (.string cArr) | 6 => .const (.string cWeak) | 9 => .tmp 9 | 13 => .tmp 12 | 17 => .tmp 15 | _ => .tmp 19
def depL : Nat → List Nat | 21 => [20] | 22 => [20, 21] | _ => []
/-- What a later operation waits for. -/
def edgesIn (o : Oper) (l : List Nat) : Bool := o.after.all fun e => decide (e.on < 23 ∧ e.on ∉ eL) || l.contains e.on
def waits (o : Oper) (l : List Nat) : Bool := l.all fun j => o.after.any fun e => e.on == j && Region.binds .any e
structure LitOps (ops : Array Oper) : Prop where
  size : ops.size = 25
  ins : ∀ i, i ∈ insL → ∃ o, ops[i]? = some o ∧ o.op = .insert 104 (.tmp 7) (.const (.int .i64 (keyOf i))) (argOp i) ∧ o.guard = none ∧ o.dst = none ∧ edgesIn o (depL i) = true
  w22 : ∃ o, ops[22]? = some o ∧ waits o [21] = true
  o20 : ∃ o T, ops[20]? = some o ∧ o.op = .call { callee := .value (.func 81), args := #[.tmp 17], argTypes := T } ∧ o.guard = none ∧ o.dst = some 18 ∧ edgesIn o [] = true
  o21 : ∃ o, ops[21]? = some o ∧ o.op = .binOp .add 9 (.const (.string ⟨#[63]⟩)) (.tmp 18) 9 ∧ o.guard = none ∧ o.dst = some 19 ∧ edgesIn o [20] = true ∧ waits o [20] = true
  w23 : ∃ o, ops[23]? = some o ∧ waits o eL = true
  w24 : ∃ o, ops[24]? = some o ∧ waits o [23] = true
theorem litOps : LitOps opsW where
  size := by kernel_rfl
  ins := fun i hi => by
    simp only [insL, List.mem_cons, List.not_mem_nil, or_false] at hi
    rcases hi with rfl | rfl | rfl | rfl | rfl | rfl | rfl | rfl | rfl | rfl
    · exact ⟨opsW.getD 1 default, by kernel_rfl, by kernel_rfl, by kernel_rfl, by kernel_rfl, by kernel_rfl⟩
    · exact ⟨opsW.getD 2 default, by kernel_rfl, by kernel_rfl, by kernel_rfl, by kernel_rfl, by kernel_rfl⟩
    · exact ⟨opsW.getD 3 default, by kernel_rfl, by kernel_rfl, by kernel_rfl, by kernel_rfl, by kernel_rfl⟩
    · exact ⟨opsW.getD 4 default, by kernel_rfl, by kernel_rfl, by kernel_rfl, by kernel_rfl, by kernel_rfl⟩
    · exact ⟨opsW.getD 5 default, by kernel_rfl, by kernel_rfl, by kernel_rfl, by kernel_rfl, by kernel_rfl⟩
    · exact ⟨opsW.getD 6 default, by kernel_rfl, by kernel_rfl, by kernel_rfl, by kernel_rfl, by kernel_rfl⟩
    · exact ⟨opsW.getD 9 default, by kernel_rfl, by kernel_rfl, by kernel_rfl, by kernel_rfl, by kernel_rfl⟩
    · exact ⟨opsW.getD 13 default, by kernel_rfl, by kernel_rfl, by kernel_rfl, by kernel_rfl, by kernel_rfl⟩
    · exact ⟨opsW.getD 17 default, by kernel_rfl, by kernel_rfl, by kernel_rfl, by kernel_rfl, by kernel_rfl⟩
    · exact ⟨opsW.getD 22 default, by kernel_rfl, by kernel_rfl, by kernel_rfl, by kernel_rfl, by kernel_rfl⟩
  w22 := ⟨opsW.getD 22 default, by kernel_rfl, by kernel_rfl⟩
  o20 := ⟨opsW.getD 20 default, #[3], by kernel_rfl, by kernel_rfl, by kernel_rfl, by kernel_rfl, by kernel_rfl⟩
  o21 := ⟨opsW.getD 21 default, by kernel_rfl, by kernel_rfl, by kernel_rfl, by kernel_rfl, by kernel_rfl, by kernel_rfl⟩
  w23 := ⟨opsW.getD 23 default, by kernel_rfl, by kernel_rfl⟩
  w24 := ⟨opsW.getD 24 default, by kernel_rfl, by kernel_rfl⟩
theorem u104 : Tryd.prog.underlying 104 = some (.map 3 9) := by kernel_rfl
theorem run_ins (r : Nat) (es : Array MapEntry) (clock : Nat) (k : Int) (v : Value) (w : World) (hb : w.heap[r]? = some (.map es clock)) (hf : Instr.findNow (.int .i64) (.int .i64 k) es.toList 0 = some none) :
    (Instr.mapUpdate 104 (.map (some r)) (.int .i64 k) v).run Tryd.prog w = .ok () { w with heap := w.heap.setIfInBounds r (.map (es.push { key := .int .i64 k, val := v, born := clock }) (clock + 1)) } := by
  unfold Instr.mapUpdate
  simp only [Sem.run_bind, run_underlying u104, Result.andThen, MapKept.run_getObj_map hb, MapKept.run_checkKey u3 (k := .int .i64 k) rfl false 9999, MapKept.run_findKey u3 hf, MapKept.run_setObj_map _ hb]
def valOf (v9 v12 v15 v19 : ByteArray) : Nat → ByteArray | 1 => cInt | 2 => cBool | 3 => cText | 4 => cUnit | 5 => cArr | 6 => cWeak | 9 => v9 | 13 => v12 | 17 => v15 | _ => v19
def GoodE (val : Nat → ByteArray) (p : Nat → Bool) (es : Array MapEntry) : Prop :=
  (∀ e, e ∈ es.toList → ∃ i, i ∈ insL ∧ p i = true ∧ e.key = .int .i64 (keyOf i) ∧ e.val = .string (val i)) ∧ ∀ i, i ∈ insL → p i = true → ∃ e, e ∈ es.toList ∧ e.key = .int .i64 (keyOf i)
theorem key_inj : ∀ i, i ∈ insL → ∀ j, j ∈ insL → keyOf i = keyOf j → i = j := by decide
theorem find_none {k : Int} : ∀ {es : List MapEntry} {n : Nat}, (∀ e, e ∈ es → ∃ k', e.key = .int .i64 k' ∧ k' ≠ k) → Instr.findNow (.int .i64) (.int .i64 k) es n = some none
  | [], _, _ => rfl
  | e :: es, n, h => by
    obtain ⟨k', h1, h2⟩ := h e (by simp)
    simp only [Instr.findNow, h1, Instr.sameNow, if_true]
    rw [show (k == k') = false by simp; exact fun e => h2 e.symm]
    exact find_none fun e he => h e (by simp [he])
theorem find_key {k : Int} {P : Value → Prop} : ∀ {es : List MapEntry} {n : Nat}, (∀ e, e ∈ es → ∃ k', e.key = .int .i64 k' ∧ (k' = k → P e.val)) → (∃ e, e ∈ es ∧ e.key = .int .i64 k) → ∃ m v, Instr.findNow (.int .i64) (.int .i64 k) es n = some (some (m, v)) ∧ P v
  | [], _, _, ⟨_, h, _⟩ => by cases h
  | e :: es, n, h, ⟨e2, h2, h3⟩ => by
    obtain ⟨k', h1, hP⟩ := h e (by simp)
    simp only [Instr.findNow, h1, Instr.sameNow, if_true]
    by_cases hk : k = k'
    · subst hk
      simp only [beq_self_eq_true]
      exact ⟨n, e.val, rfl, hP rfl⟩
    · rw [show (k == k') = false by simp [hk]]
      refine find_key (fun e he => h e (by simp [he])) ⟨e2, ?_, h3⟩
      rcases List.mem_cons.1 h2 with rfl | h2
      · rw [h1] at h3; cases h3; exact absurd rfl hk
      · exact h2
theorem GoodE.miss {val : Nat → ByteArray} {p : Nat → Bool} {es : Array MapEntry} (h : GoodE val p es) {i : Nat} (hi : i ∈ insL) (hp : p i = false) : Instr.findNow (.int .i64) (.int .i64 (keyOf i)) es.toList 0 = some none :=
  find_none fun e he => by
    obtain ⟨j, hj, hpj, hk, _⟩ := h.1 e he
    exact ⟨_, hk, fun e2 => by have := key_inj j hj i hi e2; subst this; rw [hp] at hpj; cases hpj⟩
theorem GoodE.hit {val : Nat → ByteArray} {p : Nat → Bool} {es : Array MapEntry} (h : GoodE val p es) {i : Nat} (hi : i ∈ insL) (hp : p i = true) : ∃ m, Instr.findNow (.int .i64) (.int .i64 (keyOf i)) es.toList 0 = some (some (m, .string (val i))) := by
  obtain ⟨m, v, h1, h2⟩ := find_key (P := fun v => v = .string (val i)) (fun e he => by
    obtain ⟨j, hj, hpj, hk, hv⟩ := h.1 e he
    exact ⟨_, hk, fun e2 => by have := key_inj j hj i hi e2; subst this; exact hv⟩) (h.2 i hi hp)
  exact ⟨m, by rw [h1, h2]⟩
theorem GoodE.push {val : Nat → ByteArray} {p : Nat → Bool} {es : Array MapEntry} (h : GoodE val p es) {i : Nat} (hi : i ∈ insL) (c : Nat) : GoodE val (upd p i) (es.push { key := .int .i64 (keyOf i), val := .string (val i), born := c }) := by
  refine ⟨fun e he => ?_, fun j hj hp => ?_⟩
  · simp only [Array.toList_push, List.mem_append, List.mem_singleton] at he
    rcases he with he | rfl
    · obtain ⟨j, hj, hp, h3⟩ := h.1 e he
      exact ⟨j, hj, by simp [upd, hp], h3⟩
    · exact ⟨i, hi, by simp [upd], rfl, rfl⟩
  · simp only [Array.toList_push, List.mem_append, List.mem_singleton]
    by_cases e : j = i
    · subst e; exact ⟨_, Or.inr rfl, rfl⟩
    · obtain ⟨x, h1, h2⟩ := h.2 j hj (by simpa [upd, e] using hp)
      exact ⟨x, Or.inl h1, h2⟩
theorem GoodE.skip {val : Nat → ByteArray} {p : Nat → Bool} {es : Array MapEntry} (h : GoodE val p es) {i : Nat} (hi : i ∉ insL) : GoodE val (upd p i) es :=
  ⟨fun e he => by obtain ⟨j, hj, hp, h3⟩ := h.1 e he; exact ⟨j, hj, by simp [upd, hp], h3⟩, fun j hj hp => h.2 j hj (by
    have : j ≠ i := fun e => hi (e ▸ hj)
    simpa [upd, this] using hp)⟩
/-- What the frames hold while the entries come. -/
structure LitFr (ops : Array Oper) (W0 : World) (r : Nat) (n : Int) (v9 v12 v15 z v19 : ByteArray) (A0 A1 A2 : Act) : Prop where
  hr : W0.heap.size ≤ r
  m0 : ∀ A, A = A0 ∨ A = A1 ∨ A = A2 → A.eval (.tmp 7) = .map (some r) ∧ A.eval (.tmp 9) = .string v9 ∧ A.eval (.tmp 12) = .string v12 ∧ A.eval (.tmp 15) = .string v15
  m2 : A2.eval (.tmp 19) = .string v19
  n0 : A0.eval (.tmp 17) = .int .i64 n
  call : ∀ w, Below W0.heap.size W0 w → Calls Tryd.prog 81 #[.int .i64 n] w fun e w' => e = .returned (.string z) ∧ w' = w
  p1 : A0.put (some 18) (.string z) = A1
  cat : ∀ (o : Oper) (w : World), o.op = .binOp .add 9 (.const (.string ⟨#[63]⟩)) (.tmp 18) 9 → (execOp A1.eval o).run Tryd.prog w = .ok (.value (.string v19)) w
  p2 : A1.put (some 19) (.string v19) = A2
def frOf (A0 A1 A2 : Act) (p : Nat → Bool) : Act := if p 21 then A2 else if p 20 then A1 else A0
theorem eL_lt : ∀ i, i ∈ eL → i < 25 := by decide
theorem insL_eL : ∀ i, i ∈ insL → i ∈ eL := by decide
theorem dep_nil : ∀ i, i ∈ insL → i ≠ 22 → depL i = [] := by decide
theorem eL_cases : ∀ i, i ∈ eL → i ∈ insL ∨ i = 20 ∨ i = 21 := by decide
theorem ins_ne : ∀ i, i ∈ insL → (20 == i) = false ∧ (21 == i) = false := by decide
theorem argOp_eval {W0 : World} {r : Nat} {n : Int} {v9 v12 v15 z v19 : ByteArray} {A0 A1 A2 : Act} {ops : Array Oper} (F : LitFr ops W0 r n v9 v12 v15 z v19 A0 A1 A2) {A : Act} (hA : A = A0 ∨ A = A1 ∨ A = A2) {i : Nat} (hi : i ∈ insL) (h22 : i = 22 → A = A2) : A.eval (argOp i) = .string (valOf v9 v12 v15 v19 i) := by
  obtain ⟨_, h9, h12, h15⟩ := F.m0 A hA
  simp only [insL, List.mem_cons, List.not_mem_nil, or_false] at hi
  rcases hi with rfl | rfl | rfl | rfl | rfl | rfl | rfl | rfl | rfl | rfl
  · rfl
  · rfl
  · rfl
  · rfl
  · rfl
  · rfl
  · exact h9
  · exact h12
  · exact h15
  · rw [h22 rfl]; exact F.m2
theorem wpOp_at {P : Program} {ops : Array Oper} {Q : Exit → Act → World → Prop} {i : Nat} {K : Act → World → Prop} {a : Act} {w : World} {o : Oper} (ho : ops[i]? = some o) (hg : o.guard = none) (h : o.wp P a w K Q) : wpOp P ops Q i K a w := by
  unfold wpOp
  simp only [ho]
  rw [if_pos (by simp [Region.wanted, hg])]
  exact .inl h
theorem edges_ok {o : Oper} {l : List Nat} (h : edgesIn o l = true) {p : Nat → Bool} (hl : ∀ j, j ∈ l → j < 23 ∧ qL p j = true) : ∀ e ∈ o.after, Region.binds .any e = true → (listedOf p).getD e.on false = true := fun e he _ => by
  unfold edgesIn at h
  rw [Array.all_eq_true'] at h
  have h1 := h e he
  simp only [Bool.or_eq_true, decide_eq_true_eq, List.contains_iff_mem] at h1
  rcases h1 with ⟨h1, h2⟩ | h1
  · rw [listedOf_getD p (by omega)]
    unfold qL
    rw [if_neg h2]; simpa using h1
  · obtain ⟨h2, h3⟩ := hl _ h1
    rw [listedOf_getD p (by omega)]; exact h3
theorem waits_ok {o : Oper} {l : List Nat} (h : waits o l = true) {p : Nat → Bool} (ha : ∀ e ∈ o.after, Region.binds .any e = true → (listedOf p).getD e.on false = true) : ∀ j, j ∈ l → (listedOf p).getD j false = true := fun j hj => by
  unfold waits at h
  rw [List.all_eq_true] at h
  have h1 := h j hj
  rw [Array.any_eq_true'] at h1
  obtain ⟨e, he, h2⟩ := h1
  simp only [Bool.and_eq_true, beq_iff_eq] at h2
  rw [← h2.1]; exact ha e he h2.2
set_option maxRecDepth 100000 in
theorem lit_any {ops : Array Oper} (hO : LitOps ops) {W0 : World} {r : Nat} {n : Int} {v9 v12 v15 z v19 : ByteArray} {A0 A1 A2 : Act} (F : LitFr ops W0 r n v9 v12 v15 z v19 A0 A1 A2) {Q : Exit → Act → World → Prop} {f : Nat}
    (hK : ∀ w es c, w.heap[r]? = some (.map es c) → GoodE (valOf v9 v12 v15 v19) (fun _ => true) es → Below W0.heap.size W0 w → wpAnyH Tryd.prog .any ops Q (Below W0.heap.size W0) f (listedOf fun _ => true) A2 w) :
    ∀ (k : Nat) (p : Nat → Bool), (p 21 = true → p 20 = true) → (p 22 = true → p 21 = true) → cnt p = k → ∀ w es c, w.heap[r]? = some (.map es c) → GoodE (valOf v9 v12 v15 v19) p es → Below W0.heap.size W0 w → wpAnyH Tryd.prog .any ops Q (Below W0.heap.size W0) (k + f) (listedOf p) (frOf A0 A1 A2 p) w := by
  intro k
  induction k with
  | zero =>
    intro p h21 h22 hc w es c hr hG hb
    have hall := cnt_zero hc
    rw [listedOf_all hall, Nat.zero_add]
    have : frOf A0 A1 A2 p = A2 := by unfold frOf; rw [if_pos (hall 21 (by decide))]
    rw [this]
    refine hK w es c hr ⟨fun e he => ?_, fun i hi _ => hG.2 i hi (hall i (insL_eL i (by assumption)))⟩ hb
    obtain ⟨j, hj, hp, h3⟩ := hG.1 e he
    exact ⟨j, hj, rfl, h3⟩
  | succ k ih =>
    intro p h21 h22 hc w es c hr hG hb
    have hA : frOf A0 A1 A2 p = A0 ∨ frOf A0 A1 A2 p = A1 ∨ frOf A0 A1 A2 p = A2 := by
      unfold frOf; split
      · exact Or.inr (Or.inr rfl)
      · split
        · exact Or.inr (Or.inl rfl)
        · exact Or.inl rfl
    rw [show k + 1 + f = (k + f) + 1 by omega]
    refine ⟨fun h0 => ?_, fun i hi => ?_⟩
    · -- something is ready
      exfalso
      have hno : ∀ i, i ∉ Region.ready .any ops (listedOf p) := fun i hi => by rw [h0] at hi; cases hi
      have key : ∀ i o l, i ∈ eL → p i = false → ops[i]? = some o → edgesIn o l = true → (∀ j, j ∈ l → j < 23 ∧ qL p j = true) → False := fun i o l hi hp ho he hl =>
        hno i (mem_ready.2 ⟨by rw [listedOf_getD p (eL_lt i hi)]; simp [qL, hi, hp], o, ho, edges_ok he hl⟩)
      have h1 : ∀ i, i ∈ insL → i ≠ 22 → p i = true := fun i hi hne => by
        cases hp : p i with
        | true => rfl
        | false =>
          obtain ⟨o, ho, _, _, _, he⟩ := hO.ins i hi
          exact (key i o (depL i) (insL_eL i hi) hp ho he (fun j hj => by rw [dep_nil i hi hne] at hj; cases hj)).elim
      have h20 : p 20 = true := by
        cases hp : p 20 with
        | true => rfl
        | false =>
          obtain ⟨o, T, ho, _, _, _, he⟩ := hO.o20
          exact (key 20 o [] (by decide) hp ho he (fun j hj => by cases hj)).elim
      have q20 : qL p 20 = true := by simp [qL, eL, h20]
      have h21' : p 21 = true := by
        cases hp : p 21 with
        | true => rfl
        | false =>
          obtain ⟨o, ho, _, _, _, he, _⟩ := hO.o21
          exact (key 21 o [20] (by decide) hp ho he (fun j hj => by simp at hj; subst hj; exact ⟨by omega, q20⟩)).elim
      have q21 : qL p 21 = true := by simp [qL, eL, h21']
      have h22' : p 22 = true := by
        cases hp : p 22 with
        | true => rfl
        | false =>
          obtain ⟨o, ho, _, _, _, he⟩ := hO.ins 22 (by decide)
          exact (key 22 o [20, 21] (by decide) hp ho he (fun j hj => by
            simp at hj
            rcases hj with rfl | rfl
            · exact ⟨by omega, q20⟩
            · exact ⟨by omega, q21⟩)).elim
      have hall : ∀ i, i ∈ eL → p i = true := fun i hi => by
        rcases eL_cases i hi with h | rfl | rfl
        · by_cases e : i = 22
          · subst e; exact h22'
          · exact h1 i h e
        · exact h20
        · exact h21'
      have : cnt p = 0 := by
        unfold cnt
        rw [List.length_eq_zero_iff, List.filter_eq_nil_iff]
        intro i hi; simp [hall i hi]
      omega
    · obtain ⟨hun, o, ho, hed⟩ := mem_ready.1 hi
      have hi25 : i < 25 := by
        rcases Nat.lt_or_ge i 25 with h | h
        · exact h
        · rw [listedOf_past p h] at hun; cases hun
      rw [listedOf_getD p hi25] at hun
      by_cases hE : i ∈ eL
      · have hp : p i = false := by simpa [qL, hE] using hun
        have hcu := cnt_upd hE hp
        rw [listedOf_upd p hE]
        rcases eL_cases i hE with hins | rfl | rfl
        · obtain ⟨o', ho', hop, hg, hd, -⟩ := hO.ins i hins
          rw [ho'] at ho; cases ho
          have h22i : i = 22 → p 21 = true := fun e => by
            subst e
            obtain ⟨o2, ho2, hw⟩ := hO.w22
            rw [ho2] at ho'; cases ho'
            have := waits_ok hw hed 21 (by simp)
            rw [listedOf_getD p (by omega)] at this
            simpa [qL, eL] using this
          have hfr : frOf A0 A1 A2 (upd p i) = frOf A0 A1 A2 p := by
            obtain ⟨e2, e1⟩ := ins_ne i hins
            simp [frOf, upd, e1, e2]
          have hx := argOp_eval F hA hins (fun e => by unfold frOf; rw [if_pos (h22i e)])
          refine wpOp_at ho' hg ?_
          unfold Oper.wp execOp
          have hc2 : (frOf A0 A1 A2 p).eval (.const (.int .i64 (keyOf i))) = .int .i64 (keyOf i) := rfl
          simp only [hop, (F.m0 _ hA).1, hx, hc2, run_ins r es c (keyOf i) _ w hr (hG.miss hins hp), Sem.run_bind, Sem.run_pure, Result.andThen_ok]
          obtain ⟨g1, g2⟩ := MapKept.heap_set (o' := .map (es.push { key := .int .i64 (keyOf i), val := .string (valOf v9 v12 v15 v19 i), born := c }) (c + 1)) hr
          have hb2 : Below W0.heap.size W0 { w with heap := w.heap.setIfInBounds r (.map (es.push { key := .int .i64 (keyOf i), val := .string (valOf v9 v12 v15 v19 i), born := c }) (c + 1)) } := ⟨hb.os, hb.tape, hb.output, by simpa using hb.size, fun j hj => by rw [g2 j (by have := F.hr; omega)]; exact hb.block j hj⟩
          have := ih (upd p i) (fun h => by
              have e1 := (ins_ne i hins).2
              simp [upd, e1] at h ⊢; exact Or.inr (h21 h)) (fun h => by
              simp only [upd, Bool.or_eq_true, beq_iff_eq] at h ⊢
              rcases h with h | h
              · exact Or.inr (h22i h.symm)
              · exact Or.inr (h22 h)) (by omega) _ _ _ g1 (hG.push hins c) hb2
          rw [hfr] at this
          show Below W0.heap.size W0 _ ∧ wpAnyH _ _ _ _ _ _ _ ((frOf A0 A1 A2 p).put o.dst undef) _
          rw [hd]
          exact ⟨hb2, this⟩
        · obtain ⟨o', T, ho', hop, hg, hd, -⟩ := hO.o20
          rw [ho'] at ho; cases ho
          have hp21 : p 21 = false := by
            cases h : p 21 with
            | false => rfl
            | true => rw [h21 h] at hp; cases hp
          have hfr0 : frOf A0 A1 A2 p = A0 := by simp [frOf, hp, hp21]
          have hfr1 : frOf A0 A1 A2 (upd p 20) = A1 := by simp [frOf, upd, hp21]
          refine wpOp_at ho' hg ?_
          rw [hfr0]
          unfold Oper.wp
          have hv : (execOp A0.eval o).run Tryd.prog w = .ok (.enter 81 #[.int .i64 n]) w := by
            unfold execOp
            have e1 : A0.eval (.func 81) = .func (.func 81) #[] #[] := rfl
            simp only [hop, resolve, Deferred.ofValue, invoke, e1, F.n0, Sem.run_bind, Sem.run_pure, Result.andThen_ok, List.map_toArray, List.map_cons, List.map_nil]
            exact (enters_of Tryd.func81 (by kernel_rfl) rfl : Enters Tryd.prog 81) _ w
          rw [hv]
          refine (F.call w hb).mono ?_
          rintro e w' ⟨rfl, rfl⟩
          show Below W0.heap.size W0 _ ∧ wpAnyH _ _ _ _ _ _ _ (A0.put o.dst (.string z)) _
          rw [hd, F.p1, ← hfr1]
          exact ⟨hb, ih (upd p 20) (fun _ => by simp [upd]) (fun h => by simp [upd] at h ⊢; exact h22 h) (by omega) _ _ _ hr (hG.skip (by decide)) hb⟩
        · obtain ⟨o', ho', hop, hg, hd, -, hw⟩ := hO.o21
          rw [ho'] at ho; cases ho
          have hp20 : p 20 = true := by
            have := waits_ok hw hed 20 (by simp)
            rw [listedOf_getD p (by omega)] at this
            simpa [qL, eL] using this
          have hfr1 : frOf A0 A1 A2 p = A1 := by simp [frOf, hp, hp20]
          have hfr2 : frOf A0 A1 A2 (upd p 21) = A2 := by simp [frOf, upd]
          refine wpOp_at ho' hg ?_
          rw [hfr1]
          unfold Oper.wp
          rw [F.cat o w hop]
          show Below W0.heap.size W0 _ ∧ wpAnyH _ _ _ _ _ _ _ (A1.put o.dst (.string v19)) _
          rw [hd, F.p2, ← hfr2]
          exact ⟨hb, ih (upd p 21) (fun _ => by simp [upd, hp20]) (fun h => by simp [upd]) (by omega) _ _ _ hr (hG.skip (by decide)) hb⟩
      · -- 23 and 24 wait
        exfalso
        have hge : ¬ i < 23 := by simpa [qL, hE] using hun
        have : i = 23 ∨ i = 24 := by omega
        rcases this with rfl | rfl
        · obtain ⟨o', ho', hw⟩ := hO.w23
          rw [ho'] at ho; cases ho
          have hall := waits_ok hw hed
          have : cnt p = 0 := by
            unfold cnt
            rw [List.length_eq_zero_iff, List.filter_eq_nil_iff]
            intro i hi
            have := hall i hi
            rw [listedOf_getD p (eL_lt i hi)] at this
            simp [qL, hi] at this
            simp [this]
          omega
        · obtain ⟨o', ho', hw⟩ := hO.w24
          rw [ho'] at ho; cases ho
          have := waits_ok hw hed 23 (by simp)
          rw [listedOf_getD p (by omega)] at this
          simp [qL, eL] at this
end Go.Proofs.YtokmaehefenpmaaDoor
namespace Go.Proofs.YtokmaehefenpmaaDoor
open Go.RowKit Go.Proofs.YtokmaehefenpmaaDoor.Nm
theorem u72 : Tryd.prog.underlying 72 = some (.pointer 74) := by kernel_rfl
theorem u138 : Tryd.prog.underlying 138 = some .unsafePointer := by kernel_rfl
theorem u57 : Tryd.prog.underlying 57 = some (.slice 5) := by kernel_rfl
theorem u9s : Tryd.prog.underlying 9 = some .string := by kernel_rfl
theorem infoBuilder : (Tryd.prog.info? 74).map (·.size) = some 2 := by kernel_rfl
theorem infoByte : (Tryd.prog.info? 5).map (fun i => (i.zero, i.size, i.bytes)) = some (some (.int .u8 0), 1, 1) := by kernel_rfl
theorem liesBuilder : liesAt Tryd.prog Tryd.prog.depth 74 (2 / Tryd.prog.cellsOf 74) 0 74 1 = true := by kernel_rfl
set_option maxHeartbeats 1000000 in
set_option maxRecDepth 100000 in
theorem copyCheck_used (b : Nat) (w : World) (h0 : w.cell? ⟨b, 0, none⟩ = some (.pointer (some ⟨b, 0, none⟩))) :
    Calls Tryd.prog 108 #[.pointer (some ⟨b, 0, none⟩)] w fun e w' => e = .returned (.tuple #[]) ∧ w' = w := by
  obtain ⟨j, hj, hjs⟩ := info_of infoBuilder
  go_enter Tryd.func108, Tryd.ntmps108
  go_wp2
  rw [Lib.run_neq_ptr_same w _ u72 hj]
  go_wp2
  go_end0
  exact ⟨rfl, rfl⟩
set_option maxHeartbeats 1000000 in
set_option maxRecDepth 100000 in
theorem copyCheck_fresh (b : Nat) (w : World) (h0 : w.cell? ⟨b, 0, none⟩ = some (.pointer none)) (hsh : w.shape? b = some (74, 2)) (hfz : w.frozen? ⟨b, 0, none⟩ = false) :
    Calls Tryd.prog 108 #[.pointer (some ⟨b, 0, none⟩)] w fun e w' => e = .returned (.tuple #[]) ∧ w' = w.setCell ⟨b, 0, none⟩ (.pointer (some ⟨b, 0, none⟩)) := by
  obtain ⟨j, hj, hjs⟩ := info_of infoBuilder
  go_enter Tryd.func108, Tryd.ntmps108
  go_wp2
  rw [Lib.run_to_unsafe w ⟨b, 0, none⟩ u72 u138 hj (by rw [hjs]; decide) hsh (Nat.zero_lt_succ 1)]
  simp only [Result.andThen]
  rw [Oper.upon_value]
  go_wp2
  rw [run_callFunc_extern Tryd.func127 (by kernel_rfl) (by kernel_rfl) (by kernel_rfl) (e := Extern.AbiNoEscape.same) (by kernel_rfl)]
  rw [Lib.run_noEscape]
  simp only [Result.andThen]
  rw [Oper.upon_value]
  go_wp2
  rw [Lib.run_from_unsafe w ⟨b, 0, none⟩ u138 u72 hj hsh liesBuilder]
  simp only [Result.andThen]
  rw [Oper.upon_value]
  go_wp2
  go_end0
  exact ⟨rfl, rfl⟩
theorem copyCheck_any (B b : Nat) (bs : List Value) (w : World) (h : Lib.IsBuilderF 74 5 B b bs w) :
    Calls Tryd.prog 108 #[.pointer (some ⟨b, 0, none⟩)] w fun e w' => e = .returned (.tuple #[]) ∧ (Lib.BuilderAtF 74 5 B b (.pointer (some ⟨b, 0, none⟩)) bs w' ∧ Below B w w' ∧ Lib.OthersKept 5 (some b) w w') := by
  rcases h with h | h
  · refine (copyCheck_fresh b w h.cell0 h.shape h.frozen0).mono ?_
    rintro e w' ⟨rfl, rfl⟩
    exact ⟨rfl, h.used _, (Below.refl B w).setCell (p := ⟨b, 0, none⟩) h.1 _, (Lib.OthersKept.refl _ _ w).setCell ⟨b, 0, none⟩ rfl _⟩
  · refine (copyCheck_used b w h.cell0).mono ?_
    rintro e w' ⟨rfl, rfl⟩
    exact ⟨rfl, h, Below.refl B _, Lib.OthersKept.refl _ _ _⟩
set_option maxHeartbeats 2000000 in
set_option maxRecDepth 100000 in
theorem WriteString_any (B b : Nat) (bs : List Value) (s : ByteArray) (w : World) (h : Lib.IsBuilderF 74 5 B b bs w) (hlen : bs.length + s.size ≤ 140737488355328) (hBw : B ≤ w.heap.size) :
    Calls Tryd.prog 82 #[.pointer (some ⟨b, 0, none⟩), .string s] w fun e w' => e = .returned (.tuple #[.int .i64 s.size, .nilIface]) ∧ (Lib.BuilderAtF 74 5 B b (.pointer (some ⟨b, 0, none⟩)) (bs ++ Lib.strCells s) w' ∧ Below B w w' ∧ Lib.OthersKept 5 (some b) w w') := by
  obtain ⟨i0, hi, hz0, hz1, hz2⟩ := info_parts infoByte
  go_enter Tryd.func82, Tryd.ntmps82
  go_wp2_with (go_at_call 108; refine (copyCheck_any B b bs _ h).mono ?_)
  rintro e w1 ⟨rfl, h1, hb1, hk1⟩
  obtain ⟨hB, v, hbk, hown, hne⟩ := h1
  have c0 : w1.cell? ⟨b, 0, none⟩ = some (.pointer (some ⟨b, 0, none⟩)) := by rw [Lib.cell_of_heap hbk]; rfl
  have c1 : w1.cell? ⟨b, 1, none⟩ = some v := by rw [Lib.cell_of_heap hbk]; rfl
  go_wp2_with (at_builtin; refine Lib.wpList_append_own_stringF _ rfl _ _ 57 9 rfl B 5 i0 u57 u9s hi hz0 hz1 hz2 _ _ _ rfl hown s rfl ?c3 ?c4 ?c5 ?_)
  case c3 => unfold maxLen; omega
  case c4 => omega
  case c5 => have := hb1.size; omega
  intro v' w2 hown' hgrow _
  have hlt : b < w1.heap.size := heap_lt hbk
  have hb2 : w2.heap[b]? = some (.cells #[.pointer (some ⟨b, 0, none⟩), v] 74 (0, 0)) := by
    rw [hgrow.block b hlt (fun e => hne e.symm)]
    exact hbk
  have d0 : w2.cell? ⟨b, 0, none⟩ = some (.pointer (some ⟨b, 0, none⟩)) := by rw [Lib.cell_of_heap hb2]; rfl
  have d1 : w2.cell? ⟨b, 1, none⟩ = some v := by rw [Lib.cell_of_heap hb2]; rfl
  have f1 : w2.frozen? ⟨b, 1, none⟩ = false := Lib.frozen_of_heap hb2 1
  obtain ⟨ao, n', cap, rfl⟩ : ∃ ao n' cap, v' = .slice ao n' cap := by
    rcases hown'.2 with ⟨hv, _⟩ | ⟨g, cap, cur, fz, hv, _⟩
    · exact ⟨_, _, _, hv⟩
    · exact ⟨_, _, _, hv⟩
  go_wp2
  go_ret2
  refine ⟨rfl, ?_, ?_, (hk1.grown hgrow (Lib.ownsRowF_kind hown)).setCell ⟨b, 1, none⟩ rfl _⟩
  · exact Lib.BuilderAtF.put (T := 74) (e := 5) hB hb2 (bs' := bs ++ Lib.strCells s) (by simpa [Lib.strCells_length] using hown') (by decide)
  · exact (hb1.grown hgrow (by have := hb1.size; omega) (fun k hk => (hown.lt k hk).1)).setCell (p := ⟨b, 1, none⟩) hB _
end Go.Proofs.YtokmaehefenpmaaDoor
namespace Go.Proofs
open Go.Shelf
def Tryd.lays169_ren : Go.Shelf.Ren := ⟨fun | 169 => 61 | n => n, fun | 70 => 72 | 9 => 9 | 0 => 0 | 72 => 74 | 37 => 57 | 127 => 110 | 3 => 3 | 5 => 5 | n => n, fun | n => n⟩
theorem Tryd.lays169 : Go.Proofs.Lays.n169 Tryd.prog Tryd.lays169_ren := {
  mixed := by kernel_rfl
  f169 := Tryd.func61.trans (congrArg some (by kernel_rfl))
  t0 := Tryd.underlying0
  a0 := Tryd.isAgg0
  z0 := Tryd.sizeOf0
  v0 := Tryd.zeroValue0
  t3 := Tryd.underlying3
  a3 := Tryd.isAgg3
  z3 := Tryd.sizeOf3
  v3 := Tryd.zeroValue3
  t9 := Tryd.underlying9
  a9 := Tryd.isAgg9
  z9 := Tryd.sizeOf9
  v9 := Tryd.zeroValue9
  t37 := Tryd.underlying57
  a37 := Tryd.isAgg57
  z37 := Tryd.sizeOf57
  v37 := Tryd.zeroValue57
  t70 := Tryd.underlying72
  a70 := Tryd.isAgg72
  z70 := Tryd.sizeOf72
  v70 := Tryd.zeroValue72
  t72 := Tryd.underlying74
  a72 := Tryd.isAgg74
  z72 := Tryd.sizeOf74
  v72 := Tryd.zeroValue74
  t127 := Tryd.underlying110
  a127 := Tryd.isAgg110
  z127 := Tryd.sizeOf110
  v127 := Tryd.zeroValue110 }
theorem Tryd.Builder_Extra_169 : Builder.Extra Tryd.prog Tryd.lays169_ren := {
  sizeBuilder := by kernel_rfl
  liesBuilder := by kernel_rfl
  t5 := Tryd.underlying5
  a5 := Tryd.isAgg5
  z5 := Tryd.sizeOf5
  v5 := Tryd.zeroValue5
  infoByte := by kernel_rfl
  cellsByte := by kernel_rfl
  sizeByte := by kernel_rfl
  neB5 := by decide }
open Go.RowKit in
theorem Tryd.Builder_String_any_k (B b : Nat) (l : List UInt8) (w : World) (h : Lib.IsBuilderF 74 5 B b (Lib.byteCells l) w) (hBw : B ≤ w.heap.size) :
    Calls Tryd.prog 61 #[.pointer (some ⟨b, 0, none⟩)] w fun e w' => e = .returned (.string ⟨l.toArray⟩) ∧ (Lib.IsBuilderF 74 5 B b (Lib.byteCells l) w' ∧ Below B w w' ∧ Lib.OthersKept 5 (some b) w w') := Any.Builder_String_any_k Tryd.lays169 Tryd.Builder_Extra_169 B b l w h hBw
def Tryd.lays171_ren : Go.Shelf.Ren := ⟨fun | 171 => 81 | 243 => 107 | 246 => 126 | 283 => 149 | 284 => 150 | 285 => 151 | 286 => 152 | 129 => 145 | 317 => 172 | 318 => 173 | 319 => 174 | 320 => 175 | 337 => 182 | 338 => 183 | n => n, fun | 3 => 3 | 9 => 9 | 2 => 2 | 4 => 4 | 171 => 160 | 0 => 0 | 53 => 157 | 37 => 57 | 5 => 5 | 173 => 162 | 212 => 183 | 51 => 155 | 20 => 20 | 213 => 184 | 46 => 131 | 232 => 195 | 233 => 196 | n => n, fun | 17 => 3 | 18 => 4 | 19 => 5 | n => n⟩
theorem Tryd.lays171 : Go.Proofs.Lays.n171 Tryd.prog Tryd.lays171_ren := {
  mixed := by kernel_rfl
  f129 := Tryd.func145.trans (congrArg some (by kernel_rfl))
  f171 := Tryd.func81.trans (congrArg some (by kernel_rfl))
  f243 := Tryd.func107.trans (congrArg some (by kernel_rfl))
  f246 := Tryd.func126.trans (congrArg some (by kernel_rfl))
  f283 := Tryd.func149.trans (congrArg some (by kernel_rfl))
  f284 := Tryd.func150.trans (congrArg some (by kernel_rfl))
  f285 := Tryd.func151.trans (congrArg some (by kernel_rfl))
  f286 := Tryd.func152.trans (congrArg some (by kernel_rfl))
  f317 := Tryd.func172.trans (congrArg some (by kernel_rfl))
  f318 := Tryd.func173.trans (congrArg some (by kernel_rfl))
  f319 := Tryd.func174.trans (congrArg some (by kernel_rfl))
  f320 := Tryd.func175.trans (congrArg some (by kernel_rfl))
  f337 := Tryd.func182.trans (congrArg some (by kernel_rfl))
  f338 := Tryd.func183.trans (congrArg some (by kernel_rfl))
  t0 := Tryd.underlying0
  a0 := Tryd.isAgg0
  z0 := Tryd.sizeOf0
  v0 := Tryd.zeroValue0
  t2 := Tryd.underlying2
  a2 := Tryd.isAgg2
  z2 := Tryd.sizeOf2
  v2 := Tryd.zeroValue2
  t3 := Tryd.underlying3
  a3 := Tryd.isAgg3
  z3 := Tryd.sizeOf3
  v3 := Tryd.zeroValue3
  t4 := Tryd.underlying4
  a4 := Tryd.isAgg4
  z4 := Tryd.sizeOf4
  v4 := Tryd.zeroValue4
  t5 := Tryd.underlying5
  a5 := Tryd.isAgg5
  z5 := Tryd.sizeOf5
  v5 := Tryd.zeroValue5
  t9 := Tryd.underlying9
  a9 := Tryd.isAgg9
  z9 := Tryd.sizeOf9
  v9 := Tryd.zeroValue9
  t20 := Tryd.underlying20
  a20 := Tryd.isAgg20
  z20 := Tryd.sizeOf20
  v20 := Tryd.zeroValue20
  t37 := Tryd.underlying57
  a37 := Tryd.isAgg57
  z37 := Tryd.sizeOf57
  v37 := Tryd.zeroValue57
  t46 := Tryd.underlying131
  a46 := Tryd.isAgg131
  z46 := Tryd.sizeOf131
  v46 := Tryd.zeroValue131
  t51 := Tryd.underlying155
  a51 := Tryd.isAgg155
  z51 := Tryd.sizeOf155
  v51 := Tryd.zeroValue155
  t53 := Tryd.underlying157
  a53 := Tryd.isAgg157
  z53 := Tryd.sizeOf157
  v53 := Tryd.zeroValue157
  t171 := Tryd.underlying160
  a171 := Tryd.isAgg160
  z171 := Tryd.sizeOf160
  v171 := Tryd.zeroValue160
  t173 := Tryd.underlying162
  a173 := Tryd.isAgg162
  z173 := Tryd.sizeOf162
  v173 := Tryd.zeroValue162
  t212 := Tryd.underlying183
  a212 := Tryd.isAgg183
  z212 := Tryd.sizeOf183
  v212 := Tryd.zeroValue183
  t213 := Tryd.underlying184
  a213 := Tryd.isAgg184
  z213 := Tryd.sizeOf184
  t232 := Tryd.underlying195
  a232 := Tryd.isAgg195
  z232 := Tryd.sizeOf195
  v232 := Tryd.zeroValue195
  t233 := Tryd.underlying196
  a233 := Tryd.isAgg196
  z233 := Tryd.sizeOf196
  v233 := Tryd.zeroValue196
  g17 := by kernel_rfl
  g18 := by kernel_rfl
  g19 := by kernel_rfl }
open Go.RowKit Go.Sort Go.Lib in
theorem Tryd.strconv_Itoa_small (i : Nat) (hi : i < 100) (w : World) :
    Calls Tryd.prog 81 #[.int .i64 i] w fun e w' => e = .returned (.string ⟨(Lib.decDigits i).toArray⟩) ∧ w' = w := Any.strconv_Itoa_small Tryd.lays171 i hi w
end Go.Proofs
namespace Go.Proofs.YtokmaehefenpmaaDoor
open Go.RowKit Go.Proofs.YtokmaehefenpmaaDoor.Nm
set_option linter.unusedSimpArgs false
theorem ownsRowF_below {w w' : World} {B : Nat} {e : TypeId} {size : Nat} {v : Value} {n : Nat} {xs : List Value} (h : w.ownsRowF B e size v n xs) (hb : Below w.heap.size w w') : w'.ownsRowF B e size v n xs :=
  h.kept (row := none) ⟨hb.os, hb.tape, hb.output, hb.size, fun k hk _ => hb.block k hk⟩ (by cases v.ownBlock <;> simp)
theorem BuilderAtF_below {w w' : World} {T e : TypeId} {B b : Nat} {p : Value} {bs : List Value} (h : Lib.BuilderAtF T e B b p bs w) (hb : Below w.heap.size w w') : Lib.BuilderAtF T e B b p bs w' := by
  obtain ⟨h1, v, h2, h3, h4⟩ := h
  exact ⟨h1, v, below_look hb h2, ownsRowF_below h3 hb, h4⟩
/-- A builder with the text so far. -/
def Bd (w : World) (B b : Nat) (l : List UInt8) : Prop := Lib.IsBuilderF 74 5 B b (Lib.byteCells l) w
theorem Bd.old {w w' : World} {B b : Nat} {l : List UInt8} (h : Bd w B b l) (hb : Below w.heap.size w w') : Bd w' B b l := h.imp (BuilderAtF_below · hb) (BuilderAtF_below · hb)
theorem Bd.lt {w : World} {B b : Nat} {l : List UInt8} (h : Bd w B b l) : B ≤ b ∧ b < w.heap.size := h.elim (fun h => ⟨h.1, h.lt⟩) (fun h => ⟨h.1, h.lt⟩)
/-- What a writing leaves alone. -/
structure Kb (B b : Nat) (w w' : World) : Prop where
  below : Below B w w'
  oth : Lib.OthersKept 5 (some b) w w'
theorem Kb.refl (B b : Nat) (w : World) : Kb B b w w := ⟨Below.refl _ _, Lib.OthersKept.refl _ _ _⟩
theorem Kb.trans {B b : Nat} {w w1 w2 : World} (h : Kb B b w w1) (k : Kb B b w1 w2) : Kb B b w w2 := ⟨h.below.trans k.below, h.oth.trans k.oth⟩
theorem Kb.of {B b : Nat} {w w' : World} (h : Below w.heap.size w w') (hB : B ≤ w.heap.size) : Kb B b w w' := ⟨h.mono hB, fun _ _ hk _ _ => below_look h hk⟩
theorem Kb.look {B b : Nat} {w w' : World} (h : Kb B b w w') {g : Nat} {cs : Array Value} {t : TypeId} {fr : Nat × Nat} (hg : w.heap[g]? = some (.cells cs t fr)) (hb : g ≠ b) (ht : t ≠ 5) : w'.heap[g]? = some (.cells cs t fr) :=
  h.oth g _ hg (by simpa using hb) (fun c fz e => by cases e; exact ht rfl)
theorem Kb.size {B b : Nat} {w w' : World} (h : Kb B b w w') : w.heap.size ≤ w'.heap.size := h.below.size
def WPost (B b : Nat) (out : List UInt8) (w : World) (e : Ending) (w' : World) : Prop := e = .returned (.tuple #[]) ∧ Bd w' B b out ∧ Kb B b w w'
theorem WriteS (B b : Nat) (l : List UInt8) (s : ByteArray) (w : World) (h : Bd w B b l) (hlen : l.length + s.size ≤ 1000000000) (hB : B ≤ w.heap.size) :
    Calls Tryd.prog 82 #[.pointer (some ⟨b, 0, none⟩), .string s] w fun e w' => e = .returned (.tuple #[.int .i64 s.size, .nilIface]) ∧ Bd w' B b (l ++ s.data.toList) ∧ Kb B b w w' := by
  refine (WriteString_any B b _ s w h (by rw [Lib.byteCells_length]; omega) hB).mono ?_
  rintro e w' ⟨rfl, h1, h2, h3⟩
  refine ⟨rfl, Or.inr ?_, h2, h3⟩
  have : Lib.byteCells (l ++ s.data.toList) = Lib.byteCells l ++ Lib.strCells s := by simp [Lib.byteCells, Lib.strCells]
  rw [this]; exact h1
theorem TyAt.kb {w w' : World} {B b : Nat} {D : Nat → Prop} {t : Ty} {row : Array Value} (h : TyAt w D t row) (hD : ∀ x, D x → x < B) (hk : Kb B b w w') : TyAt w' D t row := h.mono (fun _ h => h) fun x hx => hk.below.block x (hD x hx)
theorem TysAt.kb {w w' : World} {B b : Nat} {D : Nat → Prop} {ts : List Ty} {A : Option Addr} {l c : Nat} (h : TysAt w D ts A l c) (hD : ∀ x, D x → x < B) (hk : Kb B b w w') : TysAt w' D ts A l c := h.mono (fun _ h => h) fun x hx => hk.below.block x (hD x hx)
def cSep : ByteArray := ⟨#[44, 32]⟩
abbrev tv (b : Nat) : Value := .agg #[.pointer (some ⟨b, 0, none⟩)]
def TypC (txt : Ty → List UInt8) (t : Ty) : Prop := ∀ (w : World) (B b : Nat) (l : List UInt8) (D : Nat → Prop) (row : Array Value), Bd w B b l → B ≤ w.heap.size → l.length + (txt t).length ≤ 1000000000 → TyAt w D t row → (∀ x, D x → x < B) →
  Calls Tryd.prog 60 #[tv b, .agg row] w (WPost B b (l ++ txt t) w)
/-- The texts of some trees with commas between them, behind j of them. -/
def sepText (txt : Ty → List UInt8) : Bool → List Ty → List UInt8
  | _, [] => []
  | first, t :: l => (if first then [] else [44, 32]) ++ txt t ++ sepText txt false l
theorem run_box76 (b : Nat) (w : World) : (Instr.box 76 (tv b)).run Tryd.prog w = .ok (.pointer (some ⟨w.heap.size, 0, none⟩)) (w.alloc (.cells #[.pointer (some ⟨b, 0, none⟩)] 76)) := by kernel_rfl
theorem u76 : Tryd.prog.underlying 76 = some (.struct (Tryd.prog.fieldsOf 76)) := by kernel_rfl
theorem info76 : (Tryd.prog.info? 76).map (·.size) = some 1 := by kernel_rfl
theorem g76 {w : World} {p b : Nat} {t : TypeId} {fr : Nat × Nat} (h : w.heap[p]? = some (.cells #[.pointer (some ⟨b, 0, none⟩)] t fr)) : RowAt w 76 ⟨p, 0, none⟩ #[.pointer (some ⟨b, 0, none⟩)] := row_mid (n := 1) h (by rfl) u76 rfl rfl info76
theorem g72 {w : World} {p : Nat} {v : Value} {t : TypeId} {fr : Nat × Nat} (h : w.heap[p]? = some (.cells #[v] t fr)) : OneAt w 72 ⟨p, 0, none⟩ v := one_of u72 rfl (by rw [cell_of_row _ _ _ _ _ _ h]; rfl)
section
variable {ops : Array Oper} {rest : List Oper} {dst : Option Tmp} {ty' : TypeId} {x : Operand} {pos : String} {after : Array Edge} {a : Act} {w : World} {Q : Exit → Act → World → Prop}
theorem wl_box76 {b : Nat} (hx : a.eval x = tv b)
    (h : ∀ W p, Below w.heap.size w W → w.heap.size ≤ p → W.heap[p]? = some (.cells #[.pointer (some ⟨b, 0, none⟩)] 76 (0, 0)) → wpList Tryd.prog ops Q rest (a.put dst (.pointer (some ⟨p, 0, none⟩))) W) :
    wpList Tryd.prog ops Q (⟨dst, .box 76 x, ty', pos, after, none⟩ :: rest) a w :=
  wl_w rfl (by unfold execOp; simp [hx, run_box76 b w, Result.andThen]) (h _ _ ((Below.refl _ w).alloc (Nat.le_refl _) _) (Nat.le_refl _) (ha_new rfl))
end
/-- The text of the first j trees. -/
theorem sep_step (txt : Ty → List UInt8) : ∀ (f : Bool) (l : List Ty) (j : Nat) (t : Ty), l[j]? = some t → sepText txt f (l.take (j + 1)) = sepText txt f (l.take j) ++ ((if f && j == 0 then [] else [44, 32]) ++ txt t)
  | _, [], j, t, h => by simp at h
  | f, u :: l, 0, t, h => by
    simp at h; subst h
    cases f <;> simp [sepText]
  | f, u :: l, j + 1, t, h => by
    have := sep_step txt false l j t (by simpa using h)
    simp only [List.take_succ_cons, sepText, this]
    simp
theorem sep_take (txt : Ty → List UInt8) : ∀ (f : Bool) (l : List Ty) (j : Nat), (sepText txt f (l.take j)).length ≤ (sepText txt f l).length
  | _, [], j => by simp [sepText]
  | f, u :: l, 0 => by simp [sepText]
  | f, u :: l, j + 1 => by
    have := sep_take txt false l j
    simp only [List.take_succ_cons, sepText, List.length_append]; omega
end Go.Proofs.YtokmaehefenpmaaDoor
namespace Go.Proofs.YtokmaehefenpmaaDoor
open Go.RowKit Go.Proofs.YtokmaehefenpmaaDoor.Nm
set_option linter.unusedSimpArgs false
set_option maxHeartbeats 4000000 in
set_option maxRecDepth 100000 in
theorem list_any (txt : Ty → List UInt8) (ts : List Ty) (hC : ∀ t, t ∈ ts → TypC txt t) (w : World) (B b : Nat) (l0 : List UInt8) (D : Nat → Prop) (A : Option Addr) (l c : Nat) (hBd : Bd w B b l0) (hB : B ≤ w.heap.size) (hlen : l0.length + (sepText txt true ts).length ≤ 1000000000) (hT : TysAt w D ts A l c) (hD : ∀ x, D x → x < B) :
    Calls Tryd.prog 83 #[tv b, .slice A l c] w (WPost B b (l0 ++ sepText txt true ts) w) := by
  have hmf : ∀ (fn : Fn) (first cap : Array Value) (w : World), (Instr.makeFunc fn first cap).run Tryd.prog w = .ok (.func fn first cap) w := fun _ _ _ _ => rfl
  have HT := Lib.hid hT
  have HL := Lib.hid hT.len
  have hcm := hT.cap
  have hmx := hT.max
  unfold maxLen at hmx
  have HI := Lib.hid hC
  have HD := Lib.hid hD
  have HLN := Lib.hid hlen
  have hbl := hBd.lt
  have HB0 := Lib.hid hBd
  clear hT hC hD hlen hBd
  have hb := Below.refl w.heap.size w
  go_enter Tryd.func83, Tryd.ntmps83
  go_upto_region 0 with (fail)
  apply wp_region_lit
  (with_reducible refine wl_box76 rfl ?_); intro W p hbn hlp hp; replace hb := hb.trans (hbn.mono hb.size); clear hbn; simp only [put_lit, List.set_cons_zero, List.set_cons_succ]
  have hpb : p ≠ b := by omega
  have hK : Kb B b w W := Kb.of hb hB
  have HBd := Lib.hid (HB0.out.old hb)
  clear HB0 hb
  go_upto_region 1 with (fail)
  apply wp_region_lit
  ((with_reducible apply wl_rowG); exact rfl; exact rfl; exact g76 hp)
  simp only [put_lit, List.set_cons_zero, List.set_cons_succ]
  (with_reducible refine wl_k ?_ ?_); exact rfl; intro K hK; go_simp; refine hK _ ?_; clear hK K
  (with_reducible refine wl_k ?_ ?_); exact rfl; intro K hK; go_simp; refine hK _ ?_; clear hK K
  go_wp2_with fail
  go_loopw [11] (fun i wr => ∃ j : Nat, j ≤ l ∧ i = .int .i64 (j : Int) ∧ Hid (Bd wr B b (l0 ++ sepText txt true (ts.take j))) ∧ Kb B b w wr ∧ wr.heap[p]? = some (.cells #[.pointer (some ⟨b, 0, none⟩)] 76 (0, 0))) (fun i _ => l - (intOf i).toNat)
  case atStart => exact ⟨0, by omega, rfl, Lib.hid (by simpa [sepText] using HBd.out), hK, hp⟩
  case round =>
    clear HBd hK hp
    obtain ⟨j, hj, rfl, HBd, hK, hp⟩ := hrel
    by_cases hlt : j < l
    · have hltI : (j : Int) < (l : Int) := by omega
      obtain ⟨ba, off, t, row, rfl, -, ht, -⟩ := HT.out.get hlt
      obtain ⟨row, hrow, hta⟩ := (HT.out.kb HD.out hK).rowK ht
      obtain ⟨k3, s3, n3, A3, l3, c3, ts3, ht3, rfl, -⟩ := hta.parts
      have HTB := Lib.hid hta
      have HST := Lib.hid (sep_step txt true ts j t ht)
      have HM := Lib.hid (List.mem_of_getElem? ht)
      have hs1 := sep_take txt true ts j
      have hs2 := sep_take txt true ts (j + 1)
      rw [HST.out] at hs2
      have hs3 := HLN.out
      simp only [List.length_append] at hs2
      have HLL := Lib.hid (show (l0 ++ sepText txt true (ts.take j)).length + (if true && j == 0 then [] else [(44 : UInt8), 32]).length + (txt t).length ≤ 1000000000 by simp only [List.length_append]; omega)
      clear hta ht ht3 hs1 hs2 hs3
      have hz := Below.refl wr.heap.size wr
      have hwB := hK.size
      go_upto_region 4 with (fail)
      apply wp_region_lit
      (with_reducible refine wl_k ?_ ?_); exact rfl; intro K hK; go_simp; refine hK _ ?_; clear hK K
      (with_reducible refine wl_k ?_ ?_); exact rfl; intro K hK; go_simp; refine hK _ ?_; clear hK K
      (first | ((with_reducible apply wl_oneG); exact rfl; exact rfl; first | exact f0 (by with_reducible assumption) | exact f1 (by with_reducible assumption) | exact f2 (by with_reducible assumption) | exact f3 (by with_reducible assumption) | with_reducible assumption | exact g22 (by with_reducible assumption) | exact g25 (by with_reducible assumption)) | ((with_reducible apply wl_rowG); exact rfl; exact rfl; first | with_reducible assumption | exact RowK.now (by with_reducible assumption) | exact f4 (by with_reducible assumption)))
      have lthpq := heap_lt hp; (with_reducible refine wl_all ?_); intro X1 q hbn hlq hq; replace hp := below_look hbn hp; replace hz := hz.trans (hbn.mono hz.size); clear hbn; simp only [put_lit, List.set_cons_zero, List.set_cons_succ]
      (with_reducible refine wl_k ?_ ?_); exact rfl; intro K hK; go_simp; refine hK _ ?_; clear hK K
      (with_reducible refine wl_put rfl rfl hq ?_); rw [put_noneA]; intro X2 hbx hsz hkx hnx; replace hp := (hkx _ (by omega)).trans hp; replace hz := hbx _ _ (by omega) hz; clear hq; have hq := hnx; clear hnx
      clear hbx hkx hsz
      have hzs := hz.size
      have hqb : q ≠ b := by omega
      replace HBd := Lib.hid (HBd.out.old hz)
      replace hK := hK.trans (Kb.of (b := b) hz (by omega))
      replace HTB := Lib.hid (HTB.out.old hz)
      clear hrow hz
      by_cases hj0 : j = 0
      · have hj1 : ¬ (j : Int) > 0 := by omega
        have HEQ : Hid (sepText txt true (ts.take (j + 1)) = sepText txt true (ts.take j) ++ txt t) := Lib.hid (by rw [HST.out, hj0]; simp)
        have HC := Lib.hid (HI.out t HM.out X2 B b _ D _ HBd.out (by omega) (by have := HLL.out; omega) HTB.out HD.out)
        clear hj0 HST HLL
        go_upto_region 7 with (fail)
        apply wp_region_lit
        (with_reducible refine wl_k ?_ ?_); exact rfl; intro K hK; go_simp; refine hK _ ?_; clear hK K
        (first | ((with_reducible apply wl_oneG); exact rfl; exact rfl; first | exact f0 (by with_reducible assumption) | exact f1 (by with_reducible assumption) | exact f2 (by with_reducible assumption) | exact f3 (by with_reducible assumption) | with_reducible assumption | exact g22 (by with_reducible assumption) | exact g25 (by with_reducible assumption)) | ((with_reducible apply wl_rowG); exact rfl; exact rfl; first | with_reducible assumption | exact RowK.now (by with_reducible assumption) | exact f4 (by with_reducible assumption)))
        (with_reducible refine wl_ck ?_ ?_); exact rfl; intro K hK; go_simp; refine ⟨_, _, ⟨rfl, rfl⟩, hK _ _ ⟨_, HC.out, ?_⟩⟩; clear hK K; rintro e w7 ⟨rfl, hbd7, hk7⟩; refine ⟨_, rfl, ?_⟩; simp only [put_lit, List.set_cons_zero, List.set_cons_succ]
        rw [List.append_assoc, ← HEQ.out] at hbd7
        have HBd7 := Lib.hid hbd7
        replace hp := hk7.look hp hpb (by decide)
        replace hK := hK.trans hk7
        clear hbd7 hk7 hq
        clear HBd HTB HC HM HEQ
        go_wp2_with fail
        go_roundw
        case rel => exact ⟨j + 1, by omega, by go_num, HBd7, hK, hp⟩
        case measure => simp [intOf]; omega
      · have hj1 : (j : Int) > 0 := by omega
        have hj2 : 0 < j := by omega
        have HEQ : Hid (sepText txt true (ts.take (j + 1)) = sepText txt true (ts.take j) ++ [44, 32] ++ txt t) := Lib.hid (by
          rw [HST.out, show (j == 0) = false by simp [hj0]]; simp)
        have HLL2 := Lib.hid (show (l0 ++ sepText txt true (ts.take j)).length + 2 + (txt t).length ≤ 1000000000 by
          have := HLL.out; rw [show (j == 0) = false by simp [hj0]] at this; simpa using this)
        clear hj0 HST HLL
        have HW := Lib.hid (WriteS B b _ cSep X2 HBd.out (by have := HLL2.out; have hc : cSep.size = 2 := rfl; omega) (by omega))
        go_upto_region 6 with (fail)
        apply wp_region_lit
        (with_reducible refine wl_k ?_ ?_); exact rfl; intro K hK; go_simp; refine hK _ ?_; clear hK K
        (with_reducible apply wl_oneG); exact rfl; exact rfl; exact g72 hp
        (with_reducible refine wl_ck ?_ ?_); exact rfl; intro K hK; go_simp; refine ⟨_, _, ⟨rfl, rfl⟩, hK _ _ ⟨_, HW.out, ?_⟩⟩; clear hK K; rintro e w6 ⟨rfl, hbd6, hk6⟩; refine ⟨_, rfl, ?_⟩; simp only [put_lit, List.set_cons_zero, List.set_cons_succ]
        have hk6s := hk6.size
        replace HTB := Lib.hid (HTB.out.kb HD.out hk6)
        replace hp := hk6.look hp hpb (by decide)
        replace hq := hk6.look hq hqb (by decide)
        replace hK := hK.trans hk6
        have HBd6 := Lib.hid hbd6
        clear hk6 hbd6 HW HBd
        have HC := Lib.hid (HI.out t HM.out w6 B b _ D _ HBd6.out (by omega) (by have := HLL2.out; rw [List.length_append]; have hc : cSep.data.toList.length = 2 := rfl; omega) HTB.out HD.out)
        go_upto_region 7 with (fail)
        apply wp_region_lit
        (with_reducible refine wl_k ?_ ?_); exact rfl; intro K hK; go_simp; refine hK _ ?_; clear hK K
        (first | ((with_reducible apply wl_oneG); exact rfl; exact rfl; first | exact f0 (by with_reducible assumption) | exact f1 (by with_reducible assumption) | exact f2 (by with_reducible assumption) | exact f3 (by with_reducible assumption) | with_reducible assumption | exact g22 (by with_reducible assumption) | exact g25 (by with_reducible assumption)) | ((with_reducible apply wl_rowG); exact rfl; exact rfl; first | with_reducible assumption | exact RowK.now (by with_reducible assumption) | exact f4 (by with_reducible assumption)))
        (with_reducible refine wl_ck ?_ ?_); exact rfl; intro K hK; go_simp; refine ⟨_, _, ⟨rfl, rfl⟩, hK _ _ ⟨_, HC.out, ?_⟩⟩; clear hK K; rintro e w7 ⟨rfl, hbd7, hk7⟩; refine ⟨_, rfl, ?_⟩; simp only [put_lit, List.set_cons_zero, List.set_cons_succ]
        have HBd7 : Hid (Bd w7 B b (l0 ++ sepText txt true (ts.take (j + 1)))) := Lib.hid (by
          rw [HEQ.out]; simpa [cSep] using hbd7)
        replace hp := hk7.look hp hpb (by decide)
        replace hK := hK.trans hk7
        clear hbd7 hk7 hq
        clear HTB HC HM HEQ HBd6 HLL2
        go_wp2_with fail
        go_roundw
        case rel => exact ⟨j + 1, by omega, by go_num, HBd7, hK, hp⟩
        case measure => simp [intOf]; omega
    · have hltI : ¬ (j : Int) < (l : Int) := by omega
      replace HBd : Hid (Bd wr B b (l0 ++ sepText txt true ts)) := Lib.hid (by have := HBd.out; rwa [List.take_of_length_le (by rw [HL.out]; omega)] at this)
      go_wp2_with fail
      go_end0
      exact ⟨rfl, HBd.out, hK⟩
end Go.Proofs.YtokmaehefenpmaaDoor
