/- The document's numbers: the numbers of the variables of a tree. The document's Vars: the numbers of the variables of a tree (in order; here: which numbers they are). The document's Vars once more: its numbers stand in order. The document's numbers and Vars once more: each number once. The document's Params: the names of the parameters of a tree (in order; here: which names they are). -/
import Derived.Deep.DeepCutAuto
import Derived.Test.YtokmaehefenpmaaGreatDoorPA5
namespace Go.Proofs.YtokmaehefenpmaaGreatDoor
open Go.RowKit Go.Proofs.YtokmaehefenpmaaGreatDoor.Nm
set_option linter.unusedSimpArgs false
mutual
def Ty.nums : Ty → List Int
  | .node k _ n l => (if k = 12 then [n] else []) ++ numsL l
def numsL : List Ty → List Int
  | [] => []
  | t :: l => t.nums ++ numsL l
end
theorem numsL_take {ts : List Ty} {j : Nat} {t : Ty} (ht : ts[j]? = some t) : numsL (ts.take (j + 1)) = numsL (ts.take j) ++ t.nums := by
  have h : ∀ l m : List Ty, numsL (l ++ m) = numsL l ++ numsL m := by
    intro l m
    induction l with
    | nil => rfl
    | cons a l ih => simp [numsL, ih]
  rw [List.take_add_one, ht, h]
  simp [numsL]
theorem mem_next {ns : List Int} {j : Nat} {z n : Int} (h : ns[j]? = some z) (hn : decide (n ∈ ns.take j) = false) : decide (n ∈ ns.take (j + 1)) = (z == n) := by
  rw [List.take_add_one, h]
  simp at hn
  by_cases e : z = n
  · subst e; simp
  · have e2 : ¬ n = z := fun h => e h.symm
    simp [hn, e, e2]
end Go.Proofs.YtokmaehefenpmaaGreatDoor
namespace Go.Proofs.YtokmaehefenpmaaGreatDoor
open Go.RowKit Go.Proofs.YtokmaehefenpmaaGreatDoor.Nm
set_option linter.unusedSimpArgs false
theorem swap_permI {a b : Int} : ∀ {ns : List Int} {m : Nat}, ns[m]? = some a → ns[m + 1]? = some b → ((ns.set (m + 1) a).set m b).Perm ns
  | [], m, h, _ => by simp at h
  | [x], m, _, h => by simp at h
  | x :: y :: r, 0, h1, h2 => by
    simp at h1 h2; subst h1 h2
    exact List.Perm.swap _ _ _
  | x :: y :: r, m + 1, h1, h2 => by
    simp only [List.set_cons_succ]
    exact (swap_permI (ns := y :: r) (by simpa using h1) (by simpa using h2)).cons x
theorem OwnI.addr {w : World} {B : Nat} {A : Option Addr} {l c : Nat} {ns : List Int} (h : OwnI w B (.slice A l c) ns) (hl : 0 < ns.length) : ∃ g cur, A = some ⟨g, 0, none⟩ ∧ B ≤ g ∧ ns.length = l ∧ w.heap[g]? = some (.cells cur 3 (0, 0)) ∧ cur.size = c ∧ l ≤ c ∧ c ≤ maxLen ∧ cur.toList.take l = ns.map (.int .i64) := by
  rcases h.2 with ⟨e, hn⟩ | ⟨g, cap, cur, e, hB, hg, hc, hm, hs, hcur⟩
  · omega
  · cases e
    exact ⟨g, cur, rfl, hB, rfl, hg, by omega, hc, hm, by rw [← hcur, Nat.mul_one]⟩
theorem OwnI.one {w : World} {B : Nat} {g l c : Nat} {ns : List Int} (h : OwnI w B (.slice (some ⟨g, 0, none⟩) l c) ns) {i : Nat} {s : Int} (hi : ns[i]? = some s) : OneAt w 3 ⟨g, i, none⟩ (.int .i64 s) := by
  have hl := (List.getElem?_eq_some_iff.1 hi).1
  obtain ⟨g', cur, e, -, hn, hg, -, -, -, hcur⟩ := h.addr (by omega)
  cases e
  refine one_of u3 rfl ?_
  rw [cell_of_row _ _ _ _ _ _ hg]
  have h2 : (ns.map (Value.int .i64))[i]? = some (.int .i64 s) := by rw [List.getElem?_map, hi]; rfl
  rw [← hcur, List.getElem?_take_of_lt (by omega)] at h2
  simpa using h2
theorem OwnI.put {w : World} {B : Nat} {g l c : Nat} {ns : List Int} (h : OwnI w B (.slice (some ⟨g, 0, none⟩) l c) ns) {i : Nat} (hi : i < ns.length) (s : Int) : OwnI (w.setCell ⟨g, i, none⟩ (.int .i64 s)) B (.slice (some ⟨g, 0, none⟩) l c) (ns.set i s) := by
  obtain ⟨g', cur, e, hB, hn, hg, hsz, hc, hm, hcur⟩ := h.addr (by omega)
  cases e
  refine ⟨by simp, .inr ⟨g, c, cur.setIfInBounds i (.int .i64 s), by simp [hn], hB, hs_new hg, by simpa [hn] using hc, hm, by simp [hsz], ?_⟩⟩
  rw [Nat.mul_one, List.length_set, hn, Array.toList_setIfInBounds, List.take_set, hcur, List.map_set]
theorem OwnI.lies {w : World} {B : Nat} {g l c : Nat} {ns : List Int} (h : OwnI w B (.slice (some ⟨g, 0, none⟩) l c) ns) {i : Nat} (hi : i < ns.length) : (w.cell? ⟨g, i, none⟩).isSome = true ∧ w.frozen? ⟨g, i, none⟩ = false := by
  obtain ⟨g', cur, e, hB, hn, hg, hsz, hc, hm, hcur⟩ := h.addr (by omega)
  cases e
  refine ⟨?_, by unfold World.frozen?; rw [hg]; rfl⟩
  rw [cell_of_row _ _ _ _ _ _ hg, Array.getElem?_eq_getElem (by omega)]
  rfl
theorem info3s : (Tryz.prog.info? 3).map (·.size) = some 1 := by kernel_rfl
end Go.Proofs.YtokmaehefenpmaaGreatDoor
namespace Go.Proofs.YtokmaehefenpmaaGreatDoor
open Go.RowKit Go.Proofs.YtokmaehefenpmaaGreatDoor.Nm
set_option linter.unusedSimpArgs false
def Srt (j : Nat) (ns : List Int) : Prop := ∀ (i k : Nat) (a b : Int), i < k → k < j → ns[i]? = some a → ns[k]? = some b → a ≤ b
def SrtB (j m : Nat) (ns : List Int) : Prop := ∀ (i k : Nat) (a b : Int), i < k → k ≤ j → k ≠ m → ns[i]? = some a → ns[k]? = some b → a ≤ b
theorem Srt.start {j : Nat} {ns : List Int} (h : Srt j ns) : SrtB j j ns := fun i k a b h1 h2 h3 => h i k a b h1 (by omega)
theorem SrtB.zero {j : Nat} {ns : List Int} (h : SrtB j 0 ns) : Srt (j + 1) ns := fun i k a b h1 h2 => h i k a b h1 (by omega) (by omega)
theorem SrtB.stop {j m m1 : Nat} {ns : List Int} {a b : Int} (h : SrtB j m ns) (hm : m = m1 + 1) (hj : m ≤ j) (ha : ns[m1]? = some a) (hb : ns[m]? = some b) (hl : ¬ b < a) : Srt (j + 1) ns := fun i k x y h1 h2 hx hy => by
  by_cases e : k = m
  · subst e
    rw [hb] at hy
    cases hy
    by_cases e2 : i = m1
    · subst e2
      rw [ha] at hx
      cases hx
      omega
    · have := h i m1 x a (by omega) (by omega) (by omega) hx ha
      omega
  · exact h i k x y h1 (by omega) e hx hy
theorem set2 {ns : List Int} {m m1 i : Nat} {a b x : Int} (hm : m = m1 + 1) (hl : m < ns.length) (h : ((ns.set m a).set m1 b)[i]? = some x) : (i = m1 ∧ x = b) ∨ (i = m ∧ x = a) ∨ (i ≠ m1 ∧ i ≠ m ∧ ns[i]? = some x) := by
  by_cases e1 : i = m1
  · subst e1
    rw [List.getElem?_set_self (by rw [List.length_set]; omega)] at h
    cases h
    exact .inl ⟨rfl, rfl⟩
  · rw [List.getElem?_set_ne (fun e => e1 e.symm)] at h
    by_cases e2 : i = m
    · subst e2
      rw [List.getElem?_set_self hl] at h
      cases h
      exact .inr (.inl ⟨rfl, rfl⟩)
    · rw [List.getElem?_set_ne (fun e => e2 e.symm)] at h
      exact .inr (.inr ⟨e1, e2, h⟩)
theorem SrtB.swap {j m m1 : Nat} {ns : List Int} {a b : Int} (h : SrtB j m ns) (hm : m = m1 + 1) (hj : m ≤ j) (ha : ns[m1]? = some a) (hb : ns[m]? = some b) (hl : b < a) : SrtB j m1 ((ns.set m a).set m1 b) := fun i k x y h1 h2 h3 hx hy => by
  have hlen := (List.getElem?_eq_some_iff.1 hb).1
  rcases set2 hm hlen hx with ⟨rfl, rfl⟩ | ⟨rfl, rfl⟩ | ⟨e1, e2, hx9⟩
  · rcases set2 hm hlen hy with ⟨rfl, -⟩ | ⟨rfl, rfl⟩ | ⟨e3, e4, hy9⟩
    · omega
    · omega
    · exact h m k _ y (by omega) h2 e4 hb hy9
  · rcases set2 hm hlen hy with ⟨rfl, -⟩ | ⟨rfl, rfl⟩ | ⟨e3, e4, hy9⟩
    · omega
    · omega
    · exact h m1 k _ y (by omega) h2 e4 ha hy9
  · rcases set2 hm hlen hy with ⟨rfl, -⟩ | ⟨rfl, rfl⟩ | ⟨e3, e4, hy9⟩
    · exact absurd rfl h3
    · exact h i m1 x _ (by omega) (by omega) (by omega) hx9 ha
    · exact h i k x y h1 h2 e4 hx9 hy9
end Go.Proofs.YtokmaehefenpmaaGreatDoor
namespace Go.Proofs.YtokmaehefenpmaaGreatDoor
open Go.RowKit Go.Proofs.YtokmaehefenpmaaGreatDoor.Nm
set_option linter.unusedSimpArgs false
structure AddI (ns ns' l : List Int) : Prop where
  mem : ∀ x, x ∈ ns' ↔ x ∈ ns ∨ x ∈ l
  nod : ns.Nodup → ns'.Nodup
theorem AddI.nil (ns : List Int) : AddI ns ns [] := ⟨fun x => by simp, fun h => h⟩
theorem AddI.trans {ns n1 n2 l m : List Int} (h : AddI ns n1 l) (g : AddI n1 n2 m) : AddI ns n2 (l ++ m) := ⟨fun x => by rw [g.mem, h.mem]; simp [or_assoc], fun hn => g.nod (h.nod hn)⟩
theorem AddI.new {ns : List Int} {s : Int} (h : s ∉ ns) : AddI ns (ns ++ [s]) [s] := ⟨fun x => by simp, fun hn => by
  rw [List.nodup_append]
  refine ⟨hn, by simp, fun a ha b hb => ?_⟩
  simp at hb; subst hb
  exact fun e => h (e ▸ ha)⟩
theorem AddI.had {ns : List Int} {s : Int} (h : s ∈ ns) : AddI ns ns [s] := ⟨fun x => ⟨fun hx => .inl hx, fun hx => hx.elim id fun e => by simp at e; subst e; exact h⟩, fun h => h⟩
def NuPostN (w : World) (B : Nat) (v : Value) (ns l : List Int) (m : Nat) (e : Ending) (w' : World) : Prop :=
  ∃ A' l' c' ns', e = .returned (.slice A' l' c') ∧ OwnI w' B (.slice A' l' c') ns' ∧ Gro v w (.slice A' l' c') w' ∧ AddI ns ns' l ∧ ns'.length ≤ ns.length + m
def NumsN (t : Ty) : Prop := ∀ (w : World) (B : Nat) (A : Option Addr) (l c : Nat) (ns : List Int) (row : Array Value), OwnI w B (.slice A l c) ns → B ≤ w.heap.size → TyAt w (fun b => b < B) t row → ns.length + t.nodes ≤ 1000000 →
  Calls Tryz.prog 31 #[.agg row, .slice A l c] w (NuPostN w B (.slice A l c) ns t.nums t.nodes)
set_option maxHeartbeats 4000000 in
set_option maxRecDepth 100000 in
theorem numbersN_any : ∀ t : Ty, NumsN t := Ty.ind fun k s n ts ih w B A0 l0 c0 ns row hO hB h hnd => by
  obtain ⟨k1, s1, n1, A, l, c, ts1, e, rfl, hk, hn, hs, hT⟩ := h.parts
  cases e
  have HT := Lib.hid hT
  have HL := Lib.hid hT.len
  have hcm := hT.cap
  have hmx := hT.max
  unfold maxLen at hmx
  simp only [Ty.nodes] at hnd
  have HI := Lib.hid ih
  have HO := Lib.hid hO
  obtain ⟨A0', l0', c0', e0, htx⟩ := hO.ix
  cases e0
  have HTX := Lib.hid htx
  have HL0 := Lib.hid htx.1
  have hl0 : l0 ≤ 1000000 := by have := htx.1; omega
  clear h hk hn hs hT ih hO htx
  have hb := Below.refl w.heap.size w
  go_enter Tryz.func31, Tryz.ntmps31
  go_upto_region 0 with (fail)
  apply wp_region_lit
  (with_reducible refine wl_box rfl ?_); intro W p hbn hlp hp; replace hb := hb.trans (hbn.mono hb.size); clear hbn; simp only [put_lit, List.set_cons_zero, List.set_cons_succ]
  (with_reducible refine wl_k ?_ ?_); exact rfl; intro K hK; go_simp; refine hK _ ?_; clear hK K
  have HLT := Lib.hid HO.out.lt
  have HP0 : Hid ((Value.slice A0 l0 c0).ownBlock ≠ some p) := Lib.hid fun e => by have := (HLT.out p e).2; omega
  obtain ⟨b12, hb12⟩ : ∃ b : Bool, b = (k == 12) := ⟨_, rfl⟩
  have e12 : (k == 12) = b12 := hb12.symm
  have HK := Lib.hid hb12
  clear hb12
  go_upto_region 1 with (fail)
  apply wp_region_lit
  (with_reducible refine wl_k ?_ ?_); exact rfl; intro K hK; go_simp; refine hK _ ?_; clear hK K
  (first | ((with_reducible apply wl_oneG); exact rfl; exact rfl; first | exact f0 (by with_reducible assumption) | exact f1 (by with_reducible assumption) | exact f2 (by with_reducible assumption) | exact f3 (by with_reducible assumption) | with_reducible assumption | exact g22 (by with_reducible assumption) | exact g25 (by with_reducible assumption)) | ((with_reducible apply wl_rowG); exact rfl; exact rfl; first | with_reducible assumption | exact RowK.now (by with_reducible assumption) | exact f4 (by with_reducible assumption)))
  (with_reducible refine wl_k ?_ ?_); exact rfl; intro K hK; go_simp; refine hK _ ?_; clear hK K
  clear e12
  go_upto_if 10 with (fail)
  go_cut [1] (fun s1 wx => ∃ A1 l1 c1 ns1, s1 = .slice A1 l1 c1 ∧ Hid (OwnI wx B (.slice A1 l1 c1) ns1) ∧ Hid (Gro (.slice A0 l0 c0) w (.slice A1 l1 c1) wx) ∧ Hid ((Value.slice A1 l1 c1).ownBlock ≠ some p) ∧ Hid (AddI ns ns1 (if k = 12 then [n] else [])) ∧ ns1.length ≤ ns.length + 1 ∧ wx.heap[p]? = some (.cells (cell4 k s n A l c) 24 (0, 0)))
  case first =>
    cases b12 with
    | true =>
      have HK2 : Hid (k = 12) := Lib.hid (beq_iff_eq.1 HK.out.symm)
      go_upto_region 2 with (fail)
      apply wp_region_lit
      (with_reducible refine wl_k ?_ ?_); exact rfl; intro K hK; go_simp; refine hK _ ?_; clear hK K
      go_upto_region 3 with (fail)
      apply wp_region_lit
      (with_reducible refine wl_k ?_ ?_); exact rfl; intro K hK; go_simp; refine hK _ ?_; clear hK K
      go_wp2_with fail
      go_loopw [5, 6] (fun th i wr => ∃ (j : Nat) (b : Bool), j ≤ l0 ∧ i = .int .i64 (j : Int) ∧ th = .bool b ∧ Hid (b = decide (n ∈ ns.take j)) ∧ Below w.heap.size w wr ∧ wr.heap[p]? = some (.cells (cell4 k s n A l c) 24 (0, 0))) (fun _ i _ => l0 - (intOf i).toNat)
      case atStart => exact ⟨0, false, by omega, rfl, rfl, Lib.hid (by simp), hb, hp⟩
      case round =>
        clear hb hp
        obtain ⟨j, b, hj, rfl, rfl, HBD, hb, hp⟩ := hrel
        go_upto_region 4 with (fail)
        by_cases hlt : j < l0
        · have hltI : (j : Int) < (l0 : Int) := by omega
          apply wp_region_lit
          (with_reducible refine wl_k ?_ ?_); exact rfl; intro K hK; go_simp; refine hK _ ?_; clear hK K
          (with_reducible refine wl_k ?_ ?_); exact rfl; intro K hK; go_simp; refine hK _ ?_; clear hK K
          (with_reducible refine wl_k ?_ ?_); exact rfl; intro K hK; go_simp; refine hK _ ?_; clear hK K
          (with_reducible refine wl_k ?_ ?_); exact rfl; intro K hK; go_simp; refine hK _ ?_; clear hK K
          cases b with
          | true =>
            have HBN : Hid (true = decide (n ∈ ns.take (j + 1))) := Lib.hid (by
              have := HBD.out
              simp at this ⊢
              rw [List.take_add_one]
              exact List.mem_append.2 (.inl this))
            go_upto_region 6 with (fail)
            refine wp_region_belowAll mixed (by kernel_rfl) ?_
            (with_reducible refine wq_k ?_ ?_); exact rfl; intro K hK; go_simp; (with_reducible refine hK _ ?_); clear hK K
            (with_reducible refine wq_k ?_ ?_); exact rfl; intro K hK; go_simp; (with_reducible refine hK _ ?_); clear hK K
            (with_reducible refine wq_skip ?_ ?_); exact rfl; simp only [List.getElem_toArray, List.getElem_cons_succ, List.getElem_cons_zero, put_lit, List.set_cons_zero, List.set_cons_succ]
            (with_reducible refine wq_skip ?_ ?_); exact rfl; simp only [List.getElem_toArray, List.getElem_cons_succ, List.getElem_cons_zero, put_lit, List.set_cons_zero, List.set_cons_succ]
            (with_reducible refine wq_skip ?_ ?_); exact rfl; simp only [List.getElem_toArray, List.getElem_cons_succ, List.getElem_cons_zero, put_lit, List.set_cons_zero, List.set_cons_succ]
            (with_reducible refine wq_skip ?_ ?_); exact rfl; simp only [List.getElem_toArray, List.getElem_cons_succ, List.getElem_cons_zero, put_lit, List.set_cons_zero, List.set_cons_succ]
            (with_reducible refine wq_skip ?_ ?_); exact rfl; simp only [List.getElem_toArray, List.getElem_cons_succ, List.getElem_cons_zero, put_lit, List.set_cons_zero, List.set_cons_succ]
            (with_reducible refine wq_skip ?_ ?_); exact rfl; simp only [List.getElem_toArray, List.getElem_cons_succ, List.getElem_cons_zero, put_lit, List.set_cons_zero, List.set_cons_succ]
            (with_reducible refine wq_skip ?_ ?_); exact rfl; simp only [List.getElem_toArray, List.getElem_cons_succ, List.getElem_cons_zero, put_lit, List.set_cons_zero, List.set_cons_succ]
            (with_reducible refine wq_k ?_ ?_); exact rfl; intro K hK; go_simp; (with_reducible refine hK _ ?_); clear hK K
            (with_reducible refine wq_k ?_ ?_); exact rfl; intro K hK; go_simp; (with_reducible refine hK _ ?_); clear hK K
            intro w7 hb7
            replace hp := below_look hb7 hp; replace hb := hb.trans (hb7.mono hb.size); clear hb7
            go_wp2_with fail
            go_roundw
            case rel => exact ⟨j + 1, true, by omega, by go_num, rfl, HBN, hb, hp⟩
            case measure => simp [intOf]; omega
          | false =>
            obtain ⟨z, hz⟩ : ∃ z, ns[j]? = some z := ⟨_, List.getElem?_eq_getElem (by rw [HL0.out]; exact hlt)⟩
            obtain ⟨b7, o7, rfl, -⟩ := HTX.out.2.2.2 j z hz
            have hone : Hid (∀ w', Below wr.heap.size wr w' → OneAt w' 3 ⟨b7, o7 + j, none⟩ (.int .i64 z)) := Lib.hid fun w' hw' => by
              obtain ⟨b8, o8, e8, hc⟩ := ((HTX.out.old hb).old hw').2.2.2 j z hz
              cases e8
              exact int_at hc
            have HBN : Hid ((z == n) = decide (n ∈ ns.take (j + 1))) := Lib.hid (mem_next hz HBD.out.symm).symm
            clear hz
            go_upto_region 6 with (fail)
            refine wp_region_belowAll mixed (by kernel_rfl) ?_
            (with_reducible refine wq_k ?_ ?_); exact rfl; intro K hK; go_simp; (with_reducible refine hK _ ?_); clear hK K
            (with_reducible refine wq_k ?_ ?_); exact rfl; intro K hK; go_simp; (with_reducible refine hK _ ?_); clear hK K
            (with_reducible refine wq_k ?_ ?_); exact rfl; intro K hK; go_simp; (with_reducible refine hK _ ?_); clear hK K
            (with_reducible refine wq_k ?_ ?_); exact rfl; intro K hK; go_simp; (with_reducible refine hK _ ?_); clear hK K
            (with_reducible refine wq_k ?_ ?_); exact rfl; intro K hK; go_simp; (with_reducible refine hK _ ?_); clear hK K
            (with_reducible apply wq_one); exact rfl; exact rfl; exact hone.out
            try simp only [put_lit, List.set_cons_zero, List.set_cons_succ]
            (with_reducible refine wq_k ?_ ?_); exact rfl; intro K hK; go_simp; (with_reducible refine hK _ ?_); clear hK K
            (first | ((with_reducible apply wq_one); exact rfl; exact rfl; intro w' hw'; first | exact f0 (below_look hw' (by with_reducible assumption)) | exact f1 (below_look hw' (by with_reducible assumption)) | exact f2 (below_look hw' (by with_reducible assumption)) | exact f3 (below_look hw' (by with_reducible assumption)) ) | ((with_reducible apply wq_row); exact rfl; exact rfl; intro w' hw'; first | exact RowK.at (by with_reducible assumption) hw' | exact f4 (below_look hw' (by with_reducible assumption))))
            (with_reducible refine wq_k ?_ ?_); exact rfl; intro K hK; go_simp; (with_reducible refine hK _ ?_); clear hK K
            (with_reducible refine wq_k ?_ ?_); exact rfl; intro K hK; go_simp; (with_reducible refine hK _ ?_); clear hK K
            (with_reducible refine wq_k ?_ ?_); exact rfl; intro K hK; go_simp; (with_reducible refine hK _ ?_); clear hK K
            intro w7 hb7
            replace hp := below_look hb7 hp; replace hb := hb.trans (hb7.mono hb.size); clear hb7
            clear hone
            go_wp2_with fail
            go_roundw
            case rel => exact ⟨j + 1, _, by omega, by go_num, rfl, HBN, hb, hp⟩
            case measure => simp [intOf]; omega
        · have hltI : ¬ (j : Int) < (l0 : Int) := by omega
          apply wp_region_lit
          (with_reducible refine wl_k ?_ ?_); exact rfl; intro K hK; go_simp; refine hK _ ?_; clear hK K
          (with_reducible refine wl_k ?_ ?_); exact rfl; intro K hK; go_simp; refine hK _ ?_; clear hK K
          (with_reducible refine wl_k ?_ ?_); exact rfl; intro K hK; go_simp; refine hK _ ?_; clear hK K
          (with_reducible refine wl_k ?_ ?_); exact rfl; intro K hK; go_simp; refine hK _ ?_; clear hK K
          have HBE : Hid (b = decide (n ∈ ns)) := Lib.hid (by have := HBD.out; rwa [List.take_of_length_le (by rw [HL0.out]; omega)] at this)
          go_upto_region 7 with (fail)
          apply wp_region_lit
          (with_reducible refine wl_k ?_ ?_); exact rfl; intro K hK; go_simp; refine hK _ ?_; clear hK K
          (with_reducible refine wl_k ?_ ?_); exact rfl; intro K hK; go_simp; refine hK _ ?_; clear hK K
          cases b with
          | true =>
            go_wp2_with fail
            go_meet
            exact ⟨_, _, _, _, rfl, Lib.hid (HO.out.old hb), Lib.hid (Gro.of hb), HP0, Lib.hid (by rw [if_pos HK2.out]; exact AddI.had (by have := HBE.out; simpa using this)), by omega, hp⟩
          | false =>
            go_upto_region 8 with (fail)
            apply wp_region_lit
            (with_reducible refine wl_k ?_ ?_); exact rfl; intro K hK; go_simp; refine hK _ ?_; clear hK K
            (with_reducible refine wl_k ?_ ?_); exact rfl; intro K hK; go_simp; refine hK _ ?_; clear hK K
            (first | ((with_reducible apply wl_oneG); exact rfl; exact rfl; first | exact f0 (by with_reducible assumption) | exact f1 (by with_reducible assumption) | exact f2 (by with_reducible assumption) | exact f3 (by with_reducible assumption) | with_reducible assumption | exact g22 (by with_reducible assumption) | exact g25 (by with_reducible assumption)) | ((with_reducible apply wl_rowG); exact rfl; exact rfl; first | with_reducible assumption | exact RowK.now (by with_reducible assumption) | exact f4 (by with_reducible assumption)))
            (with_reducible refine wl_bsI rfl ?_)
            intro W3 q hbn hlq hq
            replace hp := below_look hbn hp; replace hb := hb.trans (hbn.mono hb.size); clear hbn
            simp only [put_lit, List.set_cons_zero, List.set_cons_succ]
            refine wl_pushI rfl _ _ rfl rfl rfl (HO.out.old hb) hq (by rw [HL0.out]; omega) (by have := hb.size; omega) ?_
            intro A9 l9 c9 w9 hown hgro
            simp only [put_lit, List.set_cons_zero, List.set_cons_succ]
            (with_reducible refine wl_k ?_ ?_); exact rfl; intro K hK; go_simp; refine hK _ ?_; clear hK K
            go_wp2_with fail
            go_meet
            exact ⟨_, _, _, _, rfl, Lib.hid hown, Lib.hid ((Gro.of hb).trans hgro), Lib.hid (fun e => by
              rcases hgro.own _ e with e | e
              · exact HP0.out e
              · have := heap_lt hp; omega), Lib.hid (by rw [if_pos HK2.out]; exact AddI.new (by have := HBE.out; simpa using this)), by simp, by rw [hgro.keep p (heap_lt hp) HP0.out]; exact hp⟩
    | false =>
      have HK2 : Hid (¬ k = 12) := Lib.hid (fun e => by have := HK.out; rw [e] at this; cases this)
      go_wp2_with fail
      go_meet
      exact ⟨_, _, _, _, rfl, Lib.hid (HO.out.old hb), Lib.hid (Gro.of hb), HP0, Lib.hid (by rw [if_neg HK2.out]; exact AddI.nil _), by omega, hp⟩
  case rest =>
    clear hb hp HO HP0 HTX
    obtain ⟨A1, l1, c1, ns1, rfl, HO, HG, HP, HA, hl1, hp⟩ := hcut
    have HA0 : Hid (AddI ns ns1 ((if k = 12 then [n] else []) ++ numsL (ts.take 0))) := Lib.hid (by simpa [numsL] using HA.out)
    clear HA
    go_upto_region 9 with (fail)
    apply wp_region_lit
    (with_reducible refine wl_k ?_ ?_); exact rfl; intro K hK; go_simp; refine hK _ ?_; clear hK K
    go_wp2_with fail
    go_loopw [1, 7] (fun v i wr => ∃ (j : Nat) (A1 : Option Addr) (l1 c1 : Nat) (ns1 : List Int), j ≤ l ∧ i = .int .i64 (j : Int) ∧ v = .slice A1 l1 c1 ∧ Hid (OwnI wr B (.slice A1 l1 c1) ns1) ∧ Hid (Gro (.slice A0 l0 c0) w (.slice A1 l1 c1) wr) ∧ Hid ((Value.slice A1 l1 c1).ownBlock ≠ some p) ∧ Hid (AddI ns ns1 ((if k = 12 then [n] else []) ++ numsL (ts.take j))) ∧ ns1.length ≤ ns.length + 1 + nodesL (ts.take j) ∧ wr.heap[p]? = some (.cells (cell4 k s n A l c) 24 (0, 0))) (fun _ i _ => l - (intOf i).toNat)
    case atStart => exact ⟨0, _, _, _, _, by omega, rfl, rfl, HO, HG, HP, HA0, by omega, hp⟩
    case round =>
      clear HO HG HP HA0 hl1 hp
      obtain ⟨j, A1, l1, c1, ns1, hj, rfl, rfl, HO, HG, HP, HA, hl1, hp⟩ := hrel
      by_cases hlt : j < l
      · have hltI : (j : Int) < (l : Int) := by omega
        have hbB := HG.out.bel B w (fun b e => (HLT.out b e).1) hB (Below.refl _ _)
        have HT2 := Lib.hid (HT.out.mono (D' := fun b => b < B) (fun _ h => h) (fun b h => hbB.block b h))
        obtain ⟨b, off, t, row, rfl, -, ht, -⟩ := HT2.out.get hlt
        obtain ⟨row, hrow, hta⟩ := HT2.out.rowK ht
        have hn1 := nodesL_take ht
        have hn2 := nodesL_le (ts := ts) (j := j + 1)
        have hsz := HG.out.size
        have HC := Lib.hid (HI.out t (List.mem_of_getElem? ht) wr B A1 l1 c1 ns1 row HO.out (by omega) hta (by omega))
        have HPT := Lib.hid (numsL_take ht)
        clear ht hta hbB HT2
        go_upto_region 10 with (fail)
        apply wp_region_lit
        (with_reducible refine wl_k ?_ ?_); exact rfl; intro K hK; go_simp; refine hK _ ?_; clear hK K
        (with_reducible refine wl_k ?_ ?_); exact rfl; intro K hK; go_simp; refine hK _ ?_; clear hK K
        (first | ((with_reducible apply wl_oneG); exact rfl; exact rfl; first | exact f0 (by with_reducible assumption) | exact f1 (by with_reducible assumption) | exact f2 (by with_reducible assumption) | exact f3 (by with_reducible assumption) | with_reducible assumption | exact g22 (by with_reducible assumption) | exact g25 (by with_reducible assumption)) | ((with_reducible apply wl_rowG); exact rfl; exact rfl; first | with_reducible assumption | exact RowK.now (by with_reducible assumption) | exact f4 (by with_reducible assumption)))
        (with_reducible refine wl_k ?_ ?_); exact rfl; intro K hK; go_simp; refine hK _ ?_; clear hK K
        (with_reducible refine wl_k ?_ ?_); exact rfl; intro K hK; go_simp; refine hK _ ?_; clear hK K
        go_upto_region 12 with (fail)
        apply wp_region_lit
        (with_reducible refine wl_k ?_ ?_); exact rfl; intro K hK; go_simp; refine hK _ ?_; clear hK K
        (first | ((with_reducible apply wl_oneG); exact rfl; exact rfl; first | exact f0 (by with_reducible assumption) | exact f1 (by with_reducible assumption) | exact f2 (by with_reducible assumption) | exact f3 (by with_reducible assumption) | with_reducible assumption | exact g22 (by with_reducible assumption) | exact g25 (by with_reducible assumption)) | ((with_reducible apply wl_rowG); exact rfl; exact rfl; first | with_reducible assumption | exact RowK.now (by with_reducible assumption) | exact f4 (by with_reducible assumption)))
        (with_reducible refine wl_k ?_ ?_); exact rfl; intro K hK; go_simp; refine hK _ ?_; clear hK K
        (with_reducible refine wl_k ?_ ?_); exact rfl; intro K hK; go_simp; refine hK _ ?_; clear hK K
        (first | ((with_reducible apply wl_oneG); exact rfl; exact rfl; first | exact f0 (by with_reducible assumption) | exact f1 (by with_reducible assumption) | exact f2 (by with_reducible assumption) | exact f3 (by with_reducible assumption) | with_reducible assumption | exact g22 (by with_reducible assumption) | exact g25 (by with_reducible assumption)) | ((with_reducible apply wl_rowG); exact rfl; exact rfl; first | with_reducible assumption | exact RowK.now (by with_reducible assumption) | exact f4 (by with_reducible assumption)))
        (with_reducible refine wl_k ?_ ?_); exact rfl; intro K hK; go_simp; refine hK _ ?_; clear hK K
        (with_reducible refine wl_ck ?_ ?_); exact rfl; intro K hK; go_simp; refine ⟨_, _, ⟨rfl, rfl⟩, hK _ _ ⟨_, HC.out, ?_⟩⟩; clear hK K; rintro e w7 ⟨A7, l7, c7, ns7, rfl, hown7, hgro7, hadd7, hln7⟩; refine ⟨_, rfl, ?_⟩; simp only [put_lit, List.set_cons_zero, List.set_cons_succ]
        (with_reducible refine wl_k ?_ ?_); exact rfl; intro K hK; go_simp; refine hK _ ?_; clear hK K
        have hpr := hp
        replace hp := (hgro7.keep p (heap_lt hpr) HP.out).trans hpr
        replace HO := Lib.hid hown7
        have HP7 : Hid ((Value.slice A7 l7 c7).ownBlock ≠ some p) := Lib.hid fun e => by
          rcases hgro7.own _ e with e | e
          · exact HP.out e
          · have := heap_lt hpr; omega
        replace HG := Lib.hid (HG.out.trans hgro7)
        have HA7 : Hid (AddI ns ns7 ((if k = 12 then [n] else []) ++ numsL (ts.take (j + 1)))) := Lib.hid (by rw [HPT.out, ← List.append_assoc]; exact HA.out.trans hadd7)
        clear HC hrow hown7 hgro7 hadd7 HA HP hpr HPT
        go_wp2_with fail
        go_roundw
        case rel => exact ⟨j + 1, _, _, _, _, by omega, by go_num, rfl, HO, HG, HP7, HA7, by omega, hp⟩
        case measure => simp [intOf]; omega
      · have hltI : ¬ (j : Int) < (l : Int) := by omega
        have HF : Hid (NuPostN w B (.slice A0 l0 c0) ns (Ty.node k s n ts).nums (Ty.node k s n ts).nodes (.returned (.slice A1 l1 c1)) wr) := Lib.hid (by
          have h1 := HA.out
          rw [List.take_of_length_le (by rw [HL.out]; omega)] at h1
          have h2 := nodesL_le (ts := ts) (j := j)
          exact ⟨_, _, _, ns1, rfl, HO.out, HG.out, h1, by simp only [Ty.nodes]; omega⟩)
        clear HA HO HG HP hl1
        go_upto_region 10 with (fail)
        apply wp_region_lit
        (with_reducible refine wl_k ?_ ?_); exact rfl; intro K hK; go_simp; refine hK _ ?_; clear hK K
        (with_reducible refine wl_k ?_ ?_); exact rfl; intro K hK; go_simp; refine hK _ ?_; clear hK K
        (first | ((with_reducible apply wl_oneG); exact rfl; exact rfl; first | exact f0 (by with_reducible assumption) | exact f1 (by with_reducible assumption) | exact f2 (by with_reducible assumption) | exact f3 (by with_reducible assumption) | with_reducible assumption | exact g22 (by with_reducible assumption) | exact g25 (by with_reducible assumption)) | ((with_reducible apply wl_rowG); exact rfl; exact rfl; first | with_reducible assumption | exact RowK.now (by with_reducible assumption) | exact f4 (by with_reducible assumption)))
        (with_reducible refine wl_k ?_ ?_); exact rfl; intro K hK; go_simp; refine hK _ ?_; clear hK K
        (with_reducible refine wl_k ?_ ?_); exact rfl; intro K hK; go_simp; refine hK _ ?_; clear hK K
        clear hp
        go_upto_region 13 with (fail)
        apply wp_region_lit
        (with_reducible refine wl_k ?_ ?_); exact rfl; intro K hK; go_simp; refine hK _ ?_; clear hK K
        (with_reducible refine wl_k ?_ ?_); exact rfl; intro K hK; go_simp; refine hK _ ?_; clear hK K
        go_wp2_with fail
        go_ret
        exact HF.out
def VsPostN (w : World) (t : Ty) (e : Ending) (w' : World) : Prop :=
  ∃ A l c ns, e = .returned (.slice A l c) ∧ OwnI w' w.heap.size (.slice A l c) ns ∧ (∀ x, x ∈ ns ↔ x ∈ t.nums) ∧ ns.length ≤ t.nodes ∧ Srt ns.length ns ∧ ns.Nodup ∧ Below w.heap.size w w'
set_option maxHeartbeats 4000000 in
set_option maxRecDepth 100000 in
theorem VarsN_any (t : Ty) (hnd : t.nodes ≤ 1000000) (w : World) (D : Nat → Prop) (row : Array Value) (h : TyAt w D t row) : Calls Tryz.prog 18 #[.agg row] w (VsPostN w t) := by
  obtain ⟨k, s, n, A0, l0, c0, ts1, e, rfl, -⟩ := h.parts
  have HT := Lib.hid h
  clear h e
  have hb := Below.refl w.heap.size w
  go_enter Tryz.func18, Tryz.ntmps18
  go_upto_region 0 with (fail)
  apply wp_region_lit
  (with_reducible refine wl_box rfl ?_); intro W p hbn hlp hp; replace hb := hb.trans (hbn.mono hb.size); clear hbn; simp only [put_lit, List.set_cons_zero, List.set_cons_succ]
  (with_reducible refine wl_k ?_ ?_); exact rfl; intro K hK; go_simp; refine hK _ ?_; clear hK K
  have HC := Lib.hid (numbersN_any t W W.heap.size none 0 0 [] _ (OwnI.nil _ _) (Nat.le_refl _) ((HT.out.old hb).low.weak fun _ h => h.2) (by simpa using hnd))
  go_upto_region 1 with (fail)
  apply wp_region_lit
  (first | ((with_reducible apply wl_oneG); exact rfl; exact rfl; first | exact f0 (by with_reducible assumption) | exact f1 (by with_reducible assumption) | exact f2 (by with_reducible assumption) | exact f3 (by with_reducible assumption) | with_reducible assumption | exact g22 (by with_reducible assumption) | exact g25 (by with_reducible assumption)) | ((with_reducible apply wl_rowG); exact rfl; exact rfl; first | with_reducible assumption | exact RowK.now (by with_reducible assumption) | exact f4 (by with_reducible assumption)))
  (with_reducible refine wl_ck ?_ ?_); exact rfl; intro K hK; go_simp; refine ⟨_, _, ⟨rfl, rfl⟩, hK _ _ ⟨_, HC.out, ?_⟩⟩; clear hK K; rintro e w1 ⟨A, l, c, ns0, rfl, hown, hgro, hadd, hln⟩; refine ⟨_, rfl, ?_⟩; simp only [put_lit, List.set_cons_zero, List.set_cons_succ]
  (with_reducible refine wl_k ?_ ?_); exact rfl; intro K hK; go_simp; refine hK _ ?_; clear hK K
  have hb1 := hgro.bel W.heap.size W (fun b e => by cases e) (Nat.le_refl _) (Below.refl _ _)
  have hB : w.heap.size ≤ W.heap.size := hb.size
  obtain ⟨B, hBd⟩ : ∃ B, B = W.heap.size := ⟨_, rfl⟩
  rw [← hBd] at hown hB
  replace hb := hb.trans (hb1.mono hb.size)
  have HM : Hid (∀ x, x ∈ ns0 ↔ x ∈ t.nums) := Lib.hid fun x => by rw [hadd.mem x]; simp
  have HND : Hid ns0.Nodup := Lib.hid (hadd.nod List.nodup_nil)
  have HLN : Hid (ns0.length ≤ t.nodes) := Lib.hid (by simpa using hln)
  have hlen : ns0.length = l := by
    obtain ⟨A', l', c', e, htx⟩ := hown.ix
    cases e; exact htx.1
  have hcl : l ≤ c ∧ c ≤ maxLen := by
    obtain ⟨A', l', c', e, htx⟩ := hown.ix
    cases e; exact ⟨htx.2.1, htx.2.2.1⟩
  obtain ⟨hcm, hmx⟩ := hcl
  unfold maxLen at hmx
  have hl6 : l ≤ 1000000 := by rw [← hlen]; simp at hln; omega
  have HO := Lib.hid hown
  clear hown hgro hadd hln hb1 hBd HC HT hp
  go_wp2_with fail
  go_loopw [4] (fun i wr => ∃ (j : Nat) (ns : List Int), j ≤ l ∧ i = .int .i64 (j : Int) ∧ Hid (OwnI wr B (.slice A l c) ns) ∧ Hid (Srt j ns) ∧ Hid (ns.Perm ns0) ∧ Below w.heap.size w wr) (fun i _ => l - (intOf i).toNat)
  case atStart => exact ⟨0, ns0, by omega, rfl, HO, Lib.hid (fun i k a b h1 h2 => by omega), Lib.hid (List.Perm.refl _), hb⟩
  case round =>
    clear hb HO
    obtain ⟨j, ns1, hj, rfl, HO, HSJ, HR, hb⟩ := hrel
    by_cases hlt : j < l
    · have hltI : (j : Int) < (l : Int) := by omega
      go_wp2_with fail
      go_loopw [5] (fun i wr => ∃ (m : Nat) (ns : List Int), m ≤ j ∧ i = .int .i64 (m : Int) ∧ Hid (OwnI wr B (.slice A l c) ns) ∧ Hid (SrtB j m ns) ∧ Hid (ns.Perm ns0) ∧ Below w.heap.size w wr) (fun i _ => (intOf i).toNat)
      case atStart => exact ⟨j, ns1, by omega, rfl, HO, Lib.hid HSJ.out.start, HR, hb⟩
      case round =>
        clear hb HO HR HSJ
        obtain ⟨m, ns, hm, rfl, HO, HSB, HR, hb⟩ := hrel
        by_cases h0 : m = 0
        · have e0 : ¬ 0 < m := by omega
          have HSZ : Hid (Srt (j + 1) ns) := Lib.hid (SrtB.zero (by rw [← h0]; exact HSB.out))
          clear h0
          go_upto_region 6 with (fail)
          refine wp_region_belowAll mixed (by kernel_rfl) ?_
          (with_reducible refine wq_k ?_ ?_); exact rfl; intro K hK; go_simp; (with_reducible refine hK _ ?_); clear hK K
          (with_reducible refine wq_k ?_ ?_); exact rfl; intro K hK; go_simp; (with_reducible refine hK _ ?_); clear hK K
          (with_reducible refine wq_k ?_ ?_); exact rfl; intro K hK; go_simp; (with_reducible refine hK _ ?_); clear hK K
          (with_reducible refine wq_skip ?_ ?_); exact rfl; simp only [List.getElem_toArray, List.getElem_cons_succ, List.getElem_cons_zero, put_lit, List.set_cons_zero, List.set_cons_succ]
          (with_reducible refine wq_skip ?_ ?_); exact rfl; simp only [List.getElem_toArray, List.getElem_cons_succ, List.getElem_cons_zero, put_lit, List.set_cons_zero, List.set_cons_succ]
          (with_reducible refine wq_skip ?_ ?_); exact rfl; simp only [List.getElem_toArray, List.getElem_cons_succ, List.getElem_cons_zero, put_lit, List.set_cons_zero, List.set_cons_succ]
          (with_reducible refine wq_skip ?_ ?_); exact rfl; simp only [List.getElem_toArray, List.getElem_cons_succ, List.getElem_cons_zero, put_lit, List.set_cons_zero, List.set_cons_succ]
          (with_reducible refine wq_skip ?_ ?_); exact rfl; simp only [List.getElem_toArray, List.getElem_cons_succ, List.getElem_cons_zero, put_lit, List.set_cons_zero, List.set_cons_succ]
          (with_reducible refine wq_skip ?_ ?_); exact rfl; simp only [List.getElem_toArray, List.getElem_cons_succ, List.getElem_cons_zero, put_lit, List.set_cons_zero, List.set_cons_succ]
          (with_reducible refine wq_skip ?_ ?_); exact rfl; simp only [List.getElem_toArray, List.getElem_cons_succ, List.getElem_cons_zero, put_lit, List.set_cons_zero, List.set_cons_succ]
          (with_reducible refine wq_skip ?_ ?_); exact rfl; simp only [List.getElem_toArray, List.getElem_cons_succ, List.getElem_cons_zero, put_lit, List.set_cons_zero, List.set_cons_succ]
          (with_reducible refine wq_skip ?_ ?_); exact rfl; simp only [List.getElem_toArray, List.getElem_cons_succ, List.getElem_cons_zero, put_lit, List.set_cons_zero, List.set_cons_succ]
          (with_reducible refine wq_skip ?_ ?_); exact rfl; simp only [List.getElem_toArray, List.getElem_cons_succ, List.getElem_cons_zero, put_lit, List.set_cons_zero, List.set_cons_succ]
          (with_reducible refine wq_k ?_ ?_); exact rfl; intro K hK; go_simp; (with_reducible refine hK _ ?_); clear hK K
          intro w7 hb7
          replace HO := Lib.hid (HO.out.old hb7)
          replace hb := hb.trans (hb7.mono hb.size)
          clear hb7
          go_wp2_with fail
          go_roundw
          case rel => exact ⟨j + 1, ns, by omega, by go_num, HO, HSZ, HR, hb⟩
          case measure => simp [intOf]; omega
        · have e0 : 0 < m := by omega
          have hnl : ns.length = l := by rw [HR.out.length_eq, hlen]
          obtain ⟨g, cur, rfl, -⟩ := HO.out.addr (by omega)
          obtain ⟨m1, hq1, hq2⟩ : ∃ m1, m1 + 1 ≤ m ∧ m ≤ m1 + 1 := ⟨m - 1, by omega, by omega⟩
          obtain ⟨a, ha⟩ : ∃ a, ns[m1]? = some a := ⟨_, List.getElem?_eq_getElem (by omega)⟩
          obtain ⟨b, hb'⟩ : ∃ b, ns[m]? = some b := ⟨_, List.getElem?_eq_getElem (by omega)⟩
          have hone1 : Hid (∀ w', Below wr.heap.size wr w' → OneAt w' 3 ⟨g, m, none⟩ (.int .i64 b)) := Lib.hid fun w' hw' => (HO.out.old hw').one hb'
          have hone2 : Hid (∀ w', Below wr.heap.size wr w' → OneAt w' 3 ⟨g, m1, none⟩ (.int .i64 a)) := Lib.hid fun w' hw' => (HO.out.old hw').one ha
          have HAB := Lib.hid (And.intro ha hb')
          have hi1 : (m : Int) - 1 = (m1 : Int) := by omega
          have hmI : (m : Int) < (l : Int) := by omega
          have hmJ : (m1 : Int) < (l : Int) := by omega
          have hwr : IntKind.i64.wrap (m1 : Int) = (m1 : Int) := IntWalk.i64_in _ (by omega)
          have hgB : w.heap.size ≤ g := by obtain ⟨g', cur', e, h3, -⟩ := HO.out.addr (by omega); cases e; omega
          have hm2 : m = m1 + 1 := by omega
          have HSS : Hid (b < a → SrtB j m1 ((ns.set m a).set m1 b)) := Lib.hid (fun hl => HSB.out.swap hm2 hm ha hb' hl)
          have HSX : Hid (¬ b < a → Srt (j + 1) ns) := Lib.hid (fun hl => HSB.out.stop hm2 hm ha hb' hl)
          have HSW : Hid (((ns.set m a).set m1 b).Perm ns0) := Lib.hid (by rw [hm2] at hb' ⊢; exact (swap_permI ha hb').trans HR.out)
          have HL2 : Hid (m1 < (ns.set m a).length ∧ m < ns.length) := Lib.hid (by rw [List.length_set]; omega)
          clear hm2
          clear h0 ha hb' hnl
          by_cases hlss : b < a
          · have HSW2 := Lib.hid (HSS.out hlss)
            go_upto_region 6 with (fail)
            refine wp_region_belowAll mixed (by kernel_rfl) ?_
            (with_reducible refine wq_k ?_ ?_); exact rfl; intro K hK; go_simp; (with_reducible refine hK _ ?_); clear hK K
            (with_reducible refine wq_k ?_ ?_); exact rfl; intro K hK; go_simp; (with_reducible refine hK _ ?_); clear hK K
            (with_reducible refine wq_k ?_ ?_); exact rfl; intro K hK; go_simp; (with_reducible refine hK _ ?_); clear hK K
            (with_reducible refine wq_k ?_ ?_); exact rfl; intro K hK; go_simp; (with_reducible refine hK _ ?_); clear hK K
            (with_reducible refine wq_k ?_ ?_); exact rfl; intro K hK; go_simp; (with_reducible refine hK _ ?_); clear hK K
            (with_reducible refine wq_k ?_ ?_); exact rfl; intro K hK; go_simp; (with_reducible refine hK _ ?_); clear hK K
            (with_reducible apply wq_one); exact rfl; exact rfl; exact hone1.out
            try simp only [put_lit, List.set_cons_zero, List.set_cons_succ]
            (with_reducible refine wq_k ?_ ?_); exact rfl; intro K hK; go_simp; (with_reducible refine hK _ ?_); clear hK K
            (with_reducible refine wq_k ?_ ?_); exact rfl; intro K hK; go_simp; (with_reducible refine hK _ ?_); clear hK K
            (with_reducible refine wq_k ?_ ?_); exact rfl; intro K hK; go_simp; (with_reducible refine hK _ ?_); clear hK K
            (with_reducible refine wq_k ?_ ?_); exact rfl; intro K hK; go_simp; (with_reducible refine hK _ ?_); clear hK K
            (with_reducible apply wq_one); exact rfl; exact rfl; exact hone2.out
            try simp only [put_lit, List.set_cons_zero, List.set_cons_succ]
            (with_reducible refine wq_k ?_ ?_); exact rfl; intro K hK; go_simp; (with_reducible refine hK _ ?_); clear hK K
            (with_reducible refine wq_k ?_ ?_); exact rfl; intro K hK; go_simp; (with_reducible refine hK _ ?_); clear hK K
            intro w7 hb7
            replace HO := Lib.hid (HO.out.old hb7)
            replace hb := hb.trans (hb7.mono hb.size)
            clear hb7 hone1 hone2
            have HOd : Hid (OwnI w7.drew B (.slice (some ⟨g, 0, none⟩) l c) ns) := Lib.hid HO.out
            have h1 := Lib.hid (HOd.out.one HAB.out.2)
            have h2 := Lib.hid (HOd.out.one HAB.out.1)
            clear HAB
            go_upto_region 8 with (fail)
            refine wp_region_held_drew (S := Below w.heap.size w) mixed hb.drew (fun hS => ?_)
            refine ha_k (i := 0) rfl (by kernel_rfl) (by kernel_rfl) (by kernel_rfl) (fun _ _ _ _ h => h) hS rfl (fun K hK => ?_); go_simp; refine hK _ ?_; clear hK K; try simp only [put_lit, List.set_cons_zero, List.set_cons_succ]
            refine ha_k (i := 1) rfl (by kernel_rfl) (by kernel_rfl) (by kernel_rfl) (fun _ _ _ _ h => h) hS rfl (fun K hK => ?_); go_simp; refine hK _ ?_; clear hK K; try simp only [put_lit, List.set_cons_zero, List.set_cons_succ]
            refine ha_k (i := 2) rfl (by kernel_rfl) (by kernel_rfl) (by kernel_rfl) (fun _ _ _ _ h => h) hS rfl (fun K hK => ?_); go_simp; refine hK _ ?_; clear hK K; try simp only [put_lit, List.set_cons_zero, List.set_cons_succ]
            refine ha_k (i := 3) rfl (by kernel_rfl) (by kernel_rfl) (by kernel_rfl) (fun _ _ _ _ h => h) hS rfl (fun K hK => ?_); go_simp; refine hK _ ?_; clear hK K; try simp only [put_lit, List.set_cons_zero, List.set_cons_succ]
            refine ha_k (i := 4) rfl (by kernel_rfl) (by kernel_rfl) (by kernel_rfl) (fun _ _ _ _ h => h) hS rfl (fun K hK => ?_); go_simp; refine hK _ ?_; clear hK K; try simp only [put_lit, List.set_cons_zero, List.set_cons_succ]
            refine ha_k (i := 5) rfl (by kernel_rfl) (by kernel_rfl) (by kernel_rfl) (fun _ _ _ _ h => h) hS rfl (fun K hK => ?_); go_simp; refine hK _ ?_; clear hK K; try simp only [put_lit, List.set_cons_zero, List.set_cons_succ]
            refine ha_k (i := 6) rfl (by kernel_rfl) (by kernel_rfl) (by kernel_rfl) (fun _ _ _ _ h => h) hS rfl (fun K hK => ?_); go_simp; refine hK _ ?_; clear hK K; try simp only [put_lit, List.set_cons_zero, List.set_cons_succ]
            refine ha_k (i := 7) rfl (by kernel_rfl) (by kernel_rfl) (by kernel_rfl) (fun _ _ _ _ h => h) hS rfl (fun K hK => ?_); go_simp; refine hK _ ?_; clear hK K; try simp only [put_lit, List.set_cons_zero, List.set_cons_succ]
            refine ha_k (i := 8) rfl (by kernel_rfl) (by kernel_rfl) (by kernel_rfl) (fun _ _ _ _ h => h) hS rfl (fun K hK => ?_); go_simp; refine hK _ ?_; clear hK K; try simp only [put_lit, List.set_cons_zero, List.set_cons_succ]
            refine ha_k (i := 10) rfl (by kernel_rfl) (by kernel_rfl) (by kernel_rfl) (fun _ _ _ _ h => h) hS rfl (fun K hK => ?_); go_simp; refine hK _ ?_; clear hK K; try simp only [put_lit, List.set_cons_zero, List.set_cons_succ]
            refine ha_k (i := 11) rfl (by kernel_rfl) (by kernel_rfl) (by kernel_rfl) (fun _ _ _ _ h => h) hS rfl (fun K hK => ?_); go_simp; refine hK _ ?_; clear hK K; try simp only [put_lit, List.set_cons_zero, List.set_cons_succ]
            refine ha_k (i := 12) rfl (by kernel_rfl) (by kernel_rfl) (by kernel_rfl) (fun _ _ _ _ h => h) hS rfl (fun K hK => ?_); go_simp; refine hK _ ?_; clear hK K; try simp only [put_lit, List.set_cons_zero, List.set_cons_succ]
            refine ha_two (i := 9) (j := 13) (by kernel_rfl) ?_ ?_
            · refine sh_val (i := 9) rfl rfl (ex_one rfl h2.out) hS ?_
              try simp only [put_lit, List.set_cons_zero, List.set_cons_succ]
              refine ha_do (i := 13) (by kernel_rfl) rfl rfl (ex_one rfl h1.out) hS ?_
              try simp only [put_lit, List.set_cons_zero, List.set_cons_succ]
              refine ha_k (i := 14) rfl (by kernel_rfl) (by kernel_rfl) (by kernel_rfl) (fun _ _ _ _ h => h) hS rfl (fun K hK => ?_); go_simp; refine hK _ ?_; clear hK K; try simp only [put_lit, List.set_cons_zero, List.set_cons_succ]
              refine ha_storeC (i := 15) (by kernel_rfl) rfl rfl 3 _ _ rfl g m (.int .i64 a) rfl rfl info3s rfl (HOd.out.lies HL2.out.2).1 (HOd.out.lies HL2.out.2).2 (hS.setCell hgB _) (fun hS => ?_)
              have HO2 := Lib.hid (HOd.out.put HL2.out.2 a)
              try simp only [put_lit, List.set_cons_zero, List.set_cons_succ]
              refine ha_k (i := 16) rfl (by kernel_rfl) (by kernel_rfl) (by kernel_rfl) (fun _ _ _ _ h => h) hS rfl (fun K hK => ?_); go_simp; refine hK _ ?_; clear hK K; try simp only [put_lit, List.set_cons_zero, List.set_cons_succ]
              refine ha_storeC (i := 17) (by kernel_rfl) rfl rfl 3 _ _ rfl g m1 (.int .i64 b) rfl rfl info3s rfl (HO2.out.lies HL2.out.1).1 (HO2.out.lies HL2.out.1).2 (hS.setCell hgB _) (fun hS => ?_)
              have HO3 := Lib.hid (HO2.out.put HL2.out.1 b)
              refine wpAnyH_done (by kernel_rfl) ?_ _
              clear HO2
              obtain ⟨X, hX⟩ : ∃ X, X = (w7.drew.setCell ⟨g, m, none⟩ (.int .i64 a)).setCell ⟨g, m1, none⟩ (.int .i64 b) := ⟨_, rfl⟩
              rw [← hX] at HO3 hS ⊢
              clear hX HOd h1 h2 HO hb
              go_wp2_with fail
              go_roundw
              case rel => exact ⟨m1, _, by omega, by go_num, HO3, HSW2, HSW, hS⟩
              case measure => simp [intOf]; omega
            · refine sh_val (i := 13) rfl rfl (ex_one rfl h1.out) hS ?_
              try simp only [put_lit, List.set_cons_zero, List.set_cons_succ]
              refine ha_do (i := 9) (by kernel_rfl) rfl rfl (ex_one rfl h2.out) hS ?_
              try simp only [put_lit, List.set_cons_zero, List.set_cons_succ]
              refine ha_k (i := 14) rfl (by kernel_rfl) (by kernel_rfl) (by kernel_rfl) (fun _ _ _ _ h => h) hS rfl (fun K hK => ?_); go_simp; refine hK _ ?_; clear hK K; try simp only [put_lit, List.set_cons_zero, List.set_cons_succ]
              refine ha_storeC (i := 15) (by kernel_rfl) rfl rfl 3 _ _ rfl g m (.int .i64 a) rfl rfl info3s rfl (HOd.out.lies HL2.out.2).1 (HOd.out.lies HL2.out.2).2 (hS.setCell hgB _) (fun hS => ?_)
              have HO2 := Lib.hid (HOd.out.put HL2.out.2 a)
              try simp only [put_lit, List.set_cons_zero, List.set_cons_succ]
              refine ha_k (i := 16) rfl (by kernel_rfl) (by kernel_rfl) (by kernel_rfl) (fun _ _ _ _ h => h) hS rfl (fun K hK => ?_); go_simp; refine hK _ ?_; clear hK K; try simp only [put_lit, List.set_cons_zero, List.set_cons_succ]
              refine ha_storeC (i := 17) (by kernel_rfl) rfl rfl 3 _ _ rfl g m1 (.int .i64 b) rfl rfl info3s rfl (HO2.out.lies HL2.out.1).1 (HO2.out.lies HL2.out.1).2 (hS.setCell hgB _) (fun hS => ?_)
              have HO3 := Lib.hid (HO2.out.put HL2.out.1 b)
              refine wpAnyH_done (by kernel_rfl) ?_ _
              clear HO2
              obtain ⟨X, hX⟩ : ∃ X, X = (w7.drew.setCell ⟨g, m, none⟩ (.int .i64 a)).setCell ⟨g, m1, none⟩ (.int .i64 b) := ⟨_, rfl⟩
              rw [← hX] at HO3 hS ⊢
              clear hX HOd h1 h2 HO hb
              go_wp2_with fail
              go_roundw
              case rel => exact ⟨m1, _, by omega, by go_num, HO3, HSW2, HSW, hS⟩
              case measure => simp [intOf]; omega
          · replace hlss : ¬ b < a := hlss
            have HST := Lib.hid (HSX.out hlss)
            go_upto_region 6 with (fail)
            refine wp_region_belowAll mixed (by kernel_rfl) ?_
            (with_reducible refine wq_k ?_ ?_); exact rfl; intro K hK; go_simp; (with_reducible refine hK _ ?_); clear hK K
            (with_reducible refine wq_k ?_ ?_); exact rfl; intro K hK; go_simp; (with_reducible refine hK _ ?_); clear hK K
            (with_reducible refine wq_k ?_ ?_); exact rfl; intro K hK; go_simp; (with_reducible refine hK _ ?_); clear hK K
            (with_reducible refine wq_k ?_ ?_); exact rfl; intro K hK; go_simp; (with_reducible refine hK _ ?_); clear hK K
            (with_reducible refine wq_k ?_ ?_); exact rfl; intro K hK; go_simp; (with_reducible refine hK _ ?_); clear hK K
            (with_reducible refine wq_k ?_ ?_); exact rfl; intro K hK; go_simp; (with_reducible refine hK _ ?_); clear hK K
            (with_reducible apply wq_one); exact rfl; exact rfl; exact hone1.out
            try simp only [put_lit, List.set_cons_zero, List.set_cons_succ]
            (with_reducible refine wq_k ?_ ?_); exact rfl; intro K hK; go_simp; (with_reducible refine hK _ ?_); clear hK K
            (with_reducible refine wq_k ?_ ?_); exact rfl; intro K hK; go_simp; (with_reducible refine hK _ ?_); clear hK K
            (with_reducible refine wq_k ?_ ?_); exact rfl; intro K hK; go_simp; (with_reducible refine hK _ ?_); clear hK K
            (with_reducible refine wq_k ?_ ?_); exact rfl; intro K hK; go_simp; (with_reducible refine hK _ ?_); clear hK K
            (with_reducible apply wq_one); exact rfl; exact rfl; exact hone2.out
            try simp only [put_lit, List.set_cons_zero, List.set_cons_succ]
            (with_reducible refine wq_k ?_ ?_); exact rfl; intro K hK; go_simp; (with_reducible refine hK _ ?_); clear hK K
            (with_reducible refine wq_k ?_ ?_); exact rfl; intro K hK; go_simp; (with_reducible refine hK _ ?_); clear hK K
            intro w7 hb7
            replace HO := Lib.hid (HO.out.old hb7)
            replace hb := hb.trans (hb7.mono hb.size)
            clear hb7 hone1 hone2 HAB
            go_wp2_with fail
            go_roundw
            case rel => exact ⟨j + 1, ns, by omega, by go_num, HO, HST, HR, hb⟩
            case measure => simp [intOf]; omega
    · have hltI : ¬ (j : Int) < (l : Int) := by omega
      have HF : Hid (VsPostN w t (.returned (.slice A l c)) wr) := Lib.hid (by
        refine ⟨_, _, _, ns1, rfl, ?_, fun x => by rw [HR.out.mem_iff]; exact HM.out x, by rw [HR.out.length_eq]; exact HLN.out, by have := HSJ.out; rw [HR.out.length_eq, hlen]; intro i k a b h1 h2; exact this i k a b h1 (by omega), HR.out.nodup_iff.2 HND.out, hb⟩
        have h1 := HO.out
        refine ⟨h1.1, h1.2.imp id ?_⟩
        rintro ⟨g, cap, cur, h2, h3, h4⟩
        exact ⟨g, cap, cur, h2, by omega, h4⟩)
      clear HO HR hb
      go_wp2_with fail
      go_ret
      exact HF.out
end Go.Proofs.YtokmaehefenpmaaGreatDoor
namespace Go.Proofs.YtokmaehefenpmaaGreatDoor
open Go.RowKit Go.Proofs.YtokmaehefenpmaaGreatDoor.Nm
set_option linter.unusedSimpArgs false
theorem swap_perm {a b : ByteArray} : ∀ {ns : List ByteArray} {m : Nat}, ns[m]? = some a → ns[m + 1]? = some b → ((ns.set (m + 1) a).set m b).Perm ns
  | [], m, h, _ => by simp at h
  | [x], m, _, h => by simp at h
  | x :: y :: r, 0, h1, h2 => by
    simp at h1 h2; subst h1 h2
    exact List.Perm.swap _ _ _
  | x :: y :: r, m + 1, h1, h2 => by
    simp only [List.set_cons_succ]
    exact (swap_perm (ns := y :: r) (by simpa using h1) (by simpa using h2)).cons x
theorem OwnS.addr {w : World} {B : Nat} {A : Option Addr} {l c : Nat} {ns : List ByteArray} (h : OwnS w B (.slice A l c) ns) (hl : 0 < ns.length) : ∃ g cur, A = some ⟨g, 0, none⟩ ∧ B ≤ g ∧ ns.length = l ∧ w.heap[g]? = some (.cells cur 9 (0, 0)) ∧ cur.size = c ∧ l ≤ c ∧ c ≤ maxLen ∧ cur.toList.take l = ns.map .string := by
  rcases h.2 with ⟨e, hn⟩ | ⟨g, cap, cur, e, hB, hg, hc, hm, hs, hcur⟩
  · omega
  · cases e
    exact ⟨g, cur, rfl, hB, rfl, hg, by omega, hc, hm, by rw [← hcur, Nat.mul_one]⟩
theorem OwnS.one {w : World} {B : Nat} {g l c : Nat} {ns : List ByteArray} (h : OwnS w B (.slice (some ⟨g, 0, none⟩) l c) ns) {i : Nat} {s : ByteArray} (hi : ns[i]? = some s) : OneAt w 9 ⟨g, i, none⟩ (.string s) := by
  have hl := (List.getElem?_eq_some_iff.1 hi).1
  obtain ⟨g', cur, e, -, hn, hg, -, -, -, hcur⟩ := h.addr (by omega)
  cases e
  refine one_of u9 rfl ?_
  rw [cell_of_row _ _ _ _ _ _ hg]
  have h2 : (ns.map Value.string)[i]? = some (.string s) := by rw [List.getElem?_map, hi]; rfl
  rw [← hcur, List.getElem?_take_of_lt (by omega)] at h2
  simpa using h2
theorem OwnS.put {w : World} {B : Nat} {g l c : Nat} {ns : List ByteArray} (h : OwnS w B (.slice (some ⟨g, 0, none⟩) l c) ns) {i : Nat} (hi : i < ns.length) (s : ByteArray) : OwnS (w.setCell ⟨g, i, none⟩ (.string s)) B (.slice (some ⟨g, 0, none⟩) l c) (ns.set i s) := by
  obtain ⟨g', cur, e, hB, hn, hg, hsz, hc, hm, hcur⟩ := h.addr (by omega)
  cases e
  refine ⟨by simp, .inr ⟨g, c, cur.setIfInBounds i (.string s), by simp [hn], hB, hs_new hg, by simpa [hn] using hc, hm, by simp [hsz], ?_⟩⟩
  rw [Nat.mul_one, List.length_set, hn, Array.toList_setIfInBounds, List.take_set, hcur, List.map_set]
theorem OwnS.lies {w : World} {B : Nat} {g l c : Nat} {ns : List ByteArray} (h : OwnS w B (.slice (some ⟨g, 0, none⟩) l c) ns) {i : Nat} (hi : i < ns.length) : (w.cell? ⟨g, i, none⟩).isSome = true ∧ w.frozen? ⟨g, i, none⟩ = false := by
  obtain ⟨g', cur, e, hB, hn, hg, hsz, hc, hm, hcur⟩ := h.addr (by omega)
  cases e
  refine ⟨?_, by unfold World.frozen?; rw [hg]; rfl⟩
  rw [cell_of_row _ _ _ _ _ _ hg, Array.getElem?_eq_getElem (by omega)]
  rfl
theorem info9 : (Tryz.prog.info? 9).map (·.size) = some 1 := by kernel_rfl
end Go.Proofs.YtokmaehefenpmaaGreatDoor
