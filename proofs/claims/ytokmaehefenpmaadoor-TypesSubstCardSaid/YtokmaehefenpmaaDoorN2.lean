/- The document's names: the names of the parameters of a tree. -/
import Derived.Test.YtokmaehefenpmaaDoorN1
import Derived.Deep.DeepCutAuto
namespace Go.Proofs.YtokmaehefenpmaaDoor
open Go.RowKit Go.Proofs.YtokmaehefenpmaaDoor.Nm
set_option linter.unusedSimpArgs false
def NmPost (w : World) (B : Nat) (v : Value) (ns l : List ByteArray) (m : Nat) (e : Ending) (w' : World) : Prop :=
  ∃ A' l' c' ns', e = .returned (.slice A' l' c') ∧ OwnS w' B (.slice A' l' c') ns' ∧ Gro v w (.slice A' l' c') w' ∧ Adds ns ns' l ∧ ns'.length ≤ ns.length + m
def NamesC (t : Ty) : Prop := ∀ (w : World) (B : Nat) (A : Option Addr) (l c : Nat) (ns : List ByteArray) (row : Array Value), OwnS w B (.slice A l c) ns → B ≤ w.heap.size → TyAt w (fun b => b < B) t row → ns.length + t.nodes ≤ 1000000 →
  Calls Tryd.prog 46 #[.agg row, .slice A l c] w (NmPost w B (.slice A l c) ns t.pars t.nodes)
theorem parsL_take {ts : List Ty} {j : Nat} {t : Ty} (ht : ts[j]? = some t) : parsL (ts.take (j + 1)) = parsL (ts.take j) ++ t.pars := by
  have h : ∀ l m : List Ty, parsL (l ++ m) = parsL l ++ parsL m := by
    intro l m
    induction l with
    | nil => rfl
    | cons a l ih => simp [parsL, ih]
  rw [List.take_add_one, ht, h]
  simp [parsL]
theorem nodesL_take {ts : List Ty} {j : Nat} {t : Ty} (ht : ts[j]? = some t) : nodesL (ts.take (j + 1)) = nodesL (ts.take j) + t.nodes := by
  have h : ∀ l m : List Ty, nodesL (l ++ m) = nodesL l + nodesL m := by
    intro l m
    induction l with
    | nil => simp [nodesL]
    | cons a l ih => simp [nodesL, ih]; omega
  rw [List.take_add_one, ht, h]
  simp [nodesL]
theorem nodesL_le {ts : List Ty} {j : Nat} : nodesL (ts.take j) ≤ nodesL ts := by
  have h : ∀ l m : List Ty, nodesL (l ++ m) = nodesL l + nodesL m := by
    intro l m
    induction l with
    | nil => simp [nodesL]
    | cons a l ih => simp [nodesL, ih]; omega
  conv => rhs; rw [← List.take_append_drop j ts]
  rw [h]; omega
set_option maxHeartbeats 4000000 in
set_option maxRecDepth 100000 in
theorem names_any : ∀ t : Ty, NamesC t := Ty.ind fun k s n ts ih w B A0 l0 c0 ns row hO hB h hnd => by
  obtain ⟨k1, s1, n1, A, l, c, ts1, e, rfl, hk, hn, hs, hT⟩ := h.parts
  cases e
  have HT := Lib.hid hT
  have HL := Lib.hid hT.len
  have hcm := hT.cap
  have hmx := hT.max
  unfold maxLen at hmx
  simp only [Ty.nodes] at hnd
  have HI := Lib.hid ih
  have HO := Lib.hid hO
  obtain ⟨A0', l0', c0', e0, htx⟩ := hO.tx
  cases e0
  have HTX := Lib.hid htx
  obtain ⟨need, hneed⟩ : ∃ b : Bool, b = decide (k = 7 ∧ idxI ns s < 0) := ⟨_, rfl⟩
  have HN := Lib.hid hneed
  clear h hk hn hs hT ih hO htx hneed
  have hb := Below.refl w.heap.size w
  go_enter Tryd.func46, Tryd.ntmps46
  go_upto_region 0 with (fail)
  apply wp_region_lit
  (with_reducible refine wl_box rfl ?_); intro W p hbn hlp hp; replace hb := hb.trans (hbn.mono hb.size); clear hbn; simp only [put_lit, List.set_cons_zero, List.set_cons_succ]
  (with_reducible refine wl_k ?_ ?_); exact rfl; intro K hK; go_simp; refine hK _ ?_; clear hK K
  go_upto_region 1 with (fail)
  go_cut [15] (fun s15 wx => s15 = .bool need ∧ Below w.heap.size w wx ∧ wx.heap[p]? = some (.cells (cell4 k s n A l c) 24 (0, 0)))
  case first =>
    by_cases h1 : k = 7
    · have e1 : (k == 7) = true := by simp [h1]
      have HC := Lib.hid (Has_any ns s A0 l0 c0 W (HTX.out.old hb))
      by_cases h2 : s ∈ ns
      · have e2 : ¬ idxI ns s < 0 := fun e => (idxI_neg ns s).1 e h2
        obtain rfl : need = false := by rw [HN.out]; simp [e2]
        clear h1 h2
        apply wp_region_lit
        (with_reducible refine wl_k ?_ ?_); exact rfl; intro K hK; go_simp; refine hK _ ?_; clear hK K
        (first | ((with_reducible apply wl_oneG); exact rfl; exact rfl; first | exact f0 (by with_reducible assumption) | exact f1 (by with_reducible assumption) | exact f2 (by with_reducible assumption) | exact f3 (by with_reducible assumption) | with_reducible assumption | exact g22 (by with_reducible assumption) | exact g25 (by with_reducible assumption)) | ((with_reducible apply wl_rowG); exact rfl; exact rfl; first | with_reducible assumption | exact RowK.now (by with_reducible assumption) | exact f4 (by with_reducible assumption)))
        (with_reducible refine wl_k ?_ ?_); exact rfl; intro K hK; go_simp; refine hK _ ?_; clear hK K
        (with_reducible refine wl_k ?_ ?_); exact rfl; intro K hK; go_simp; refine hK _ ?_; clear hK K
        (with_reducible refine wl_k ?_ ?_); exact rfl; intro K hK; go_simp; refine hK _ ?_; clear hK K
        (with_reducible refine wl_k ?_ ?_); exact rfl; intro K hK; go_simp; refine hK _ ?_; clear hK K
        (first | ((with_reducible apply wl_oneG); exact rfl; exact rfl; first | exact f0 (by with_reducible assumption) | exact f1 (by with_reducible assumption) | exact f2 (by with_reducible assumption) | exact f3 (by with_reducible assumption) | with_reducible assumption | exact g22 (by with_reducible assumption) | exact g25 (by with_reducible assumption)) | ((with_reducible apply wl_rowG); exact rfl; exact rfl; first | with_reducible assumption | exact RowK.now (by with_reducible assumption) | exact f4 (by with_reducible assumption)))
        (with_reducible refine wl_ck ?_ ?_); exact rfl; intro K hK; go_simp; refine ⟨_, _, ⟨rfl, rfl⟩, hK _ _ ⟨_, HC.out, ?_⟩⟩; clear hK K; rintro e w7 ⟨rfl, hb7⟩; refine ⟨_, rfl, ?_⟩; simp only [put_lit, List.set_cons_zero, List.set_cons_succ]
        replace hp := below_look hb7 hp; replace hb := hb.trans (hb7.mono hb.size); clear hb7
        (with_reducible refine wl_k ?_ ?_); exact rfl; intro K hK; go_simp; refine hK _ ?_; clear hK K
        (with_reducible refine wl_k ?_ ?_); exact rfl; intro K hK; go_simp; refine hK _ ?_; clear hK K
        clear HC
        go_wp2_with fail
        go_meet
        exact ⟨rfl, hb, hp⟩
      · have e2 : idxI ns s < 0 := (idxI_neg ns s).2 h2
        obtain rfl : need = true := by rw [HN.out]; simp [h1, e2]
        clear h1 h2
        apply wp_region_lit
        (with_reducible refine wl_k ?_ ?_); exact rfl; intro K hK; go_simp; refine hK _ ?_; clear hK K
        (first | ((with_reducible apply wl_oneG); exact rfl; exact rfl; first | exact f0 (by with_reducible assumption) | exact f1 (by with_reducible assumption) | exact f2 (by with_reducible assumption) | exact f3 (by with_reducible assumption) | with_reducible assumption | exact g22 (by with_reducible assumption) | exact g25 (by with_reducible assumption)) | ((with_reducible apply wl_rowG); exact rfl; exact rfl; first | with_reducible assumption | exact RowK.now (by with_reducible assumption) | exact f4 (by with_reducible assumption)))
        (with_reducible refine wl_k ?_ ?_); exact rfl; intro K hK; go_simp; refine hK _ ?_; clear hK K
        (with_reducible refine wl_k ?_ ?_); exact rfl; intro K hK; go_simp; refine hK _ ?_; clear hK K
        (with_reducible refine wl_k ?_ ?_); exact rfl; intro K hK; go_simp; refine hK _ ?_; clear hK K
        (with_reducible refine wl_k ?_ ?_); exact rfl; intro K hK; go_simp; refine hK _ ?_; clear hK K
        (first | ((with_reducible apply wl_oneG); exact rfl; exact rfl; first | exact f0 (by with_reducible assumption) | exact f1 (by with_reducible assumption) | exact f2 (by with_reducible assumption) | exact f3 (by with_reducible assumption) | with_reducible assumption | exact g22 (by with_reducible assumption) | exact g25 (by with_reducible assumption)) | ((with_reducible apply wl_rowG); exact rfl; exact rfl; first | with_reducible assumption | exact RowK.now (by with_reducible assumption) | exact f4 (by with_reducible assumption)))
        (with_reducible refine wl_ck ?_ ?_); exact rfl; intro K hK; go_simp; refine ⟨_, _, ⟨rfl, rfl⟩, hK _ _ ⟨_, HC.out, ?_⟩⟩; clear hK K; rintro e w7 ⟨rfl, hb7⟩; refine ⟨_, rfl, ?_⟩; simp only [put_lit, List.set_cons_zero, List.set_cons_succ]
        replace hp := below_look hb7 hp; replace hb := hb.trans (hb7.mono hb.size); clear hb7
        (with_reducible refine wl_k ?_ ?_); exact rfl; intro K hK; go_simp; refine hK _ ?_; clear hK K
        (with_reducible refine wl_k ?_ ?_); exact rfl; intro K hK; go_simp; refine hK _ ?_; clear hK K
        clear HC
        go_wp2_with fail
        go_meet
        exact ⟨rfl, hb, hp⟩
    · have e1 : (k == 7) = false := by simp [h1]
      obtain rfl : need = false := by rw [HN.out]; simp [h1]
      clear h1
      apply wp_region_lit
      (with_reducible refine wl_k ?_ ?_); exact rfl; intro K hK; go_simp; refine hK _ ?_; clear hK K
      (first | ((with_reducible apply wl_oneG); exact rfl; exact rfl; first | exact f0 (by with_reducible assumption) | exact f1 (by with_reducible assumption) | exact f2 (by with_reducible assumption) | exact f3 (by with_reducible assumption) | with_reducible assumption | exact g22 (by with_reducible assumption) | exact g25 (by with_reducible assumption)) | ((with_reducible apply wl_rowG); exact rfl; exact rfl; first | with_reducible assumption | exact RowK.now (by with_reducible assumption) | exact f4 (by with_reducible assumption)))
      (with_reducible refine wl_k ?_ ?_); exact rfl; intro K hK; go_simp; refine hK _ ?_; clear hK K
      (with_reducible refine wl_k ?_ ?_); exact rfl; intro K hK; go_simp; refine hK _ ?_; clear hK K
      (first | ((with_reducible refine wl_skipU ?_ ?_ ?_); exact rfl; exact rfl) | ((with_reducible refine wl_skip ?_ ?_); exact rfl; simp only [put_lit, List.set_cons_zero, List.set_cons_succ]))
      (first | ((with_reducible refine wl_skipU ?_ ?_ ?_); exact rfl; exact rfl) | ((with_reducible refine wl_skip ?_ ?_); exact rfl; simp only [put_lit, List.set_cons_zero, List.set_cons_succ]))
      (first | ((with_reducible refine wl_skipU ?_ ?_ ?_); exact rfl; exact rfl) | ((with_reducible refine wl_skip ?_ ?_); exact rfl; simp only [put_lit, List.set_cons_zero, List.set_cons_succ]))
      (first | ((with_reducible refine wl_skipU ?_ ?_ ?_); exact rfl; exact rfl) | ((with_reducible refine wl_skip ?_ ?_); exact rfl; simp only [put_lit, List.set_cons_zero, List.set_cons_succ]))
      (first | ((with_reducible refine wl_skipU ?_ ?_ ?_); exact rfl; exact rfl) | ((with_reducible refine wl_skip ?_ ?_); exact rfl; simp only [put_lit, List.set_cons_zero, List.set_cons_succ]))
      (with_reducible refine wl_k ?_ ?_); exact rfl; intro K hK; go_simp; refine hK _ ?_; clear hK K
      go_wp2_with fail
      go_meet
      exact ⟨rfl, hb, hp⟩
  case rest =>
    clear hb hp
    obtain ⟨rfl, hb, hp⟩ := hcut
    have HLT := Lib.hid HO.out.lt
    have HP0 : Hid ((Value.slice A0 l0 c0).ownBlock ≠ some p) := Lib.hid fun e => by have := (HLT.out p e).2; omega
    go_upto_if 15 with (fail)
    go_cut [1] (fun s1 wx => ∃ A1 l1 c1 ns1, s1 = .slice A1 l1 c1 ∧ Hid (OwnS wx B (.slice A1 l1 c1) ns1) ∧ Hid (Gro (.slice A0 l0 c0) w (.slice A1 l1 c1) wx) ∧ Hid ((Value.slice A1 l1 c1).ownBlock ≠ some p) ∧ Hid (Adds ns ns1 (if k = 7 then [s] else [])) ∧ ns1.length ≤ ns.length + 1 ∧ wx.heap[p]? = some (.cells (cell4 k s n A l c) 24 (0, 0)))
    case first =>
      cases need with
      | true =>
        have hq := of_decide_eq_true HN.out.symm
        have HA : Hid (Adds ns (ns ++ [s]) (if k = 7 then [s] else [])) := Lib.hid (by rw [if_pos hq.1]; exact Adds.new ((idxI_neg ns s).1 hq.2))
        clear hq
        go_upto_region 2 with (fail)
        apply wp_region_lit
        (with_reducible refine wl_k ?_ ?_); exact rfl; intro K hK; go_simp; refine hK _ ?_; clear hK K
        (with_reducible refine wl_k ?_ ?_); exact rfl; intro K hK; go_simp; refine hK _ ?_; clear hK K
        (first | ((with_reducible apply wl_oneG); exact rfl; exact rfl; first | exact f0 (by with_reducible assumption) | exact f1 (by with_reducible assumption) | exact f2 (by with_reducible assumption) | exact f3 (by with_reducible assumption) | with_reducible assumption | exact g22 (by with_reducible assumption) | exact g25 (by with_reducible assumption)) | ((with_reducible apply wl_rowG); exact rfl; exact rfl; first | with_reducible assumption | exact RowK.now (by with_reducible assumption) | exact f4 (by with_reducible assumption)))
        (with_reducible refine wl_bsS rfl ?_)
        intro W3 q hbn hlq hq
        replace hp := below_look hbn hp; replace hb := hb.trans (hbn.mono hb.size); clear hbn
        simp only [put_lit, List.set_cons_zero, List.set_cons_succ]
        refine wl_pushS rfl _ _ rfl rfl rfl (HO.out.old hb) hq (by omega) (by have := hb.size; omega) ?_
        intro A9 l9 c9 w9 hown hgro
        simp only [put_lit, List.set_cons_zero, List.set_cons_succ]
        (with_reducible refine wl_k ?_ ?_); exact rfl; intro K hK; go_simp; refine hK _ ?_; clear hK K
        go_wp2_with fail
        go_meet
        exact ⟨_, _, _, _, rfl, Lib.hid hown, Lib.hid ((Gro.of hb).trans hgro), Lib.hid (fun e => by
          rcases hgro.own _ e with e | e
          · exact HP0.out e
          · have := heap_lt hp; omega), HA, by simp, by rw [hgro.keep p (heap_lt hp) HP0.out]; exact hp⟩
      | false =>
        have HA : Hid (Adds ns ns (if k = 7 then [s] else [])) := Lib.hid (by
          have := HN.out
          by_cases h1 : k = 7
          · rw [if_pos h1]
            exact Adds.had (by
              apply Classical.byContradiction
              intro hh
              rw [decide_eq_true ⟨h1, (idxI_neg ns s).2 hh⟩] at this
              cases this)
          · rw [if_neg h1]; exact Adds.nil _)
        go_wp2_with fail
        go_meet
        exact ⟨_, _, _, _, rfl, Lib.hid (HO.out.old hb), Lib.hid (Gro.of hb), HP0, HA, by omega, hp⟩
    case rest =>
      clear hb hp HO HN HP0 HTX
      obtain ⟨A1, l1, c1, ns1, rfl, HO, HG, HP, HA, hl1, hp⟩ := hcut
      have HA0 : Hid (Adds ns ns1 ((if k = 7 then [s] else []) ++ parsL (ts.take 0))) := Lib.hid (by simpa [parsL] using HA.out)
      clear HA
      go_wp2_with fail
      go_loopw [1, 5] (fun v i wr => ∃ (j : Nat) (A1 : Option Addr) (l1 c1 : Nat) (ns1 : List ByteArray), j ≤ l ∧ i = .int .i64 (j : Int) ∧ v = .slice A1 l1 c1 ∧ Hid (OwnS wr B (.slice A1 l1 c1) ns1) ∧ Hid (Gro (.slice A0 l0 c0) w (.slice A1 l1 c1) wr) ∧ Hid ((Value.slice A1 l1 c1).ownBlock ≠ some p) ∧ Hid (Adds ns ns1 ((if k = 7 then [s] else []) ++ parsL (ts.take j))) ∧ ns1.length ≤ ns.length + 1 + nodesL (ts.take j) ∧ wr.heap[p]? = some (.cells (cell4 k s n A l c) 24 (0, 0))) (fun _ i _ => l - (intOf i).toNat)
      case atStart => exact ⟨0, _, _, _, _, by omega, rfl, rfl, HO, HG, HP, HA0, by omega, hp⟩
      case round =>
        clear HO HG HP HA0 hl1 hp
        obtain ⟨j, A1, l1, c1, ns1, hj, rfl, rfl, HO, HG, HP, HA, hl1, hp⟩ := hrel
        by_cases hlt : j < l
        · have hltI : (j : Int) < (l : Int) := by omega
          have hbB := HG.out.bel B w (fun b e => (HLT.out b e).1) hB (Below.refl _ _)
          have HT2 := Lib.hid (HT.out.mono (D' := fun b => b < B) (fun _ h => h) (fun b h => hbB.block b h))
          obtain ⟨b, off, t, row, rfl, -, ht, -⟩ := HT2.out.get hlt
          obtain ⟨row, hrow, hta⟩ := HT2.out.rowK ht
          have hn1 := nodesL_take ht
          have hn2 := nodesL_le (ts := ts) (j := j + 1)
          have hsz := HG.out.size
          have HC := Lib.hid (HI.out t (List.mem_of_getElem? ht) wr B A1 l1 c1 ns1 row HO.out (by omega) hta (by omega))
          have HPT := Lib.hid (parsL_take ht)
          clear ht hta hbB HT2
          go_upto_region 4 with (fail)
          apply wp_region_lit
          (with_reducible refine wl_k ?_ ?_); exact rfl; intro K hK; go_simp; refine hK _ ?_; clear hK K
          (with_reducible refine wl_k ?_ ?_); exact rfl; intro K hK; go_simp; refine hK _ ?_; clear hK K
          (first | ((with_reducible apply wl_oneG); exact rfl; exact rfl; first | exact f0 (by with_reducible assumption) | exact f1 (by with_reducible assumption) | exact f2 (by with_reducible assumption) | exact f3 (by with_reducible assumption) | with_reducible assumption | exact g22 (by with_reducible assumption) | exact g25 (by with_reducible assumption)) | ((with_reducible apply wl_rowG); exact rfl; exact rfl; first | with_reducible assumption | exact RowK.now (by with_reducible assumption) | exact f4 (by with_reducible assumption)))
          (with_reducible refine wl_k ?_ ?_); exact rfl; intro K hK; go_simp; refine hK _ ?_; clear hK K
          (with_reducible refine wl_k ?_ ?_); exact rfl; intro K hK; go_simp; refine hK _ ?_; clear hK K
          go_upto_region 6 with (fail)
          apply wp_region_lit
          (with_reducible refine wl_k ?_ ?_); exact rfl; intro K hK; go_simp; refine hK _ ?_; clear hK K
          (first | ((with_reducible apply wl_oneG); exact rfl; exact rfl; first | exact f0 (by with_reducible assumption) | exact f1 (by with_reducible assumption) | exact f2 (by with_reducible assumption) | exact f3 (by with_reducible assumption) | with_reducible assumption | exact g22 (by with_reducible assumption) | exact g25 (by with_reducible assumption)) | ((with_reducible apply wl_rowG); exact rfl; exact rfl; first | with_reducible assumption | exact RowK.now (by with_reducible assumption) | exact f4 (by with_reducible assumption)))
          (with_reducible refine wl_k ?_ ?_); exact rfl; intro K hK; go_simp; refine hK _ ?_; clear hK K
          (with_reducible refine wl_k ?_ ?_); exact rfl; intro K hK; go_simp; refine hK _ ?_; clear hK K
          (first | ((with_reducible apply wl_oneG); exact rfl; exact rfl; first | exact f0 (by with_reducible assumption) | exact f1 (by with_reducible assumption) | exact f2 (by with_reducible assumption) | exact f3 (by with_reducible assumption) | with_reducible assumption | exact g22 (by with_reducible assumption) | exact g25 (by with_reducible assumption)) | ((with_reducible apply wl_rowG); exact rfl; exact rfl; first | with_reducible assumption | exact RowK.now (by with_reducible assumption) | exact f4 (by with_reducible assumption)))
          (with_reducible refine wl_k ?_ ?_); exact rfl; intro K hK; go_simp; refine hK _ ?_; clear hK K
          (with_reducible refine wl_ck ?_ ?_); exact rfl; intro K hK; go_simp; refine ⟨_, _, ⟨rfl, rfl⟩, hK _ _ ⟨_, HC.out, ?_⟩⟩; clear hK K; rintro e w7 ⟨A7, l7, c7, ns7, rfl, hown7, hgro7, hadd7, hln7⟩; refine ⟨_, rfl, ?_⟩; simp only [put_lit, List.set_cons_zero, List.set_cons_succ]
          (with_reducible refine wl_k ?_ ?_); exact rfl; intro K hK; go_simp; refine hK _ ?_; clear hK K
          have hpr := hp
          replace hp := (hgro7.keep p (heap_lt hpr) HP.out).trans hpr
          replace HO := Lib.hid hown7
          have HP7 : Hid ((Value.slice A7 l7 c7).ownBlock ≠ some p) := Lib.hid fun e => by
            rcases hgro7.own _ e with e | e
            · exact HP.out e
            · have := heap_lt hpr; omega
          replace HG := Lib.hid (HG.out.trans hgro7)
          have HA7 : Hid (Adds ns ns7 ((if k = 7 then [s] else []) ++ parsL (ts.take (j + 1)))) := Lib.hid (by rw [HPT.out, ← List.append_assoc]; exact HA.out.trans hadd7)
          clear HC hrow hown7 hgro7 hadd7 HA HP hpr HPT
          go_wp2_with fail
          go_roundw
          case rel => exact ⟨j + 1, _, _, _, _, by omega, by go_num, rfl, HO, HG, HP7, HA7, by omega, hp⟩
          case measure => simp [intOf]; omega
        · have hltI : ¬ (j : Int) < (l : Int) := by omega
          have HF : Hid (NmPost w B (.slice A0 l0 c0) ns (Ty.node k s n ts).pars (Ty.node k s n ts).nodes (.returned (.slice A1 l1 c1)) wr) := Lib.hid (by
            have h1 := HA.out
            rw [List.take_of_length_le (by rw [HL.out]; omega)] at h1
            have h2 := nodesL_le (ts := ts) (j := j)
            exact ⟨_, _, _, ns1, rfl, HO.out, HG.out, h1, by simp only [Ty.nodes]; omega⟩)
          clear HA HO HG HP hl1
          go_upto_region 4 with (fail)
          apply wp_region_lit
          (with_reducible refine wl_k ?_ ?_); exact rfl; intro K hK; go_simp; refine hK _ ?_; clear hK K
          (with_reducible refine wl_k ?_ ?_); exact rfl; intro K hK; go_simp; refine hK _ ?_; clear hK K
          (first | ((with_reducible apply wl_oneG); exact rfl; exact rfl; first | exact f0 (by with_reducible assumption) | exact f1 (by with_reducible assumption) | exact f2 (by with_reducible assumption) | exact f3 (by with_reducible assumption) | with_reducible assumption | exact g22 (by with_reducible assumption) | exact g25 (by with_reducible assumption)) | ((with_reducible apply wl_rowG); exact rfl; exact rfl; first | with_reducible assumption | exact RowK.now (by with_reducible assumption) | exact f4 (by with_reducible assumption)))
          (with_reducible refine wl_k ?_ ?_); exact rfl; intro K hK; go_simp; refine hK _ ?_; clear hK K
          (with_reducible refine wl_k ?_ ?_); exact rfl; intro K hK; go_simp; refine hK _ ?_; clear hK K
          clear hp
          go_wp2_with fail
          go_ret
          exact HF.out
end Go.Proofs.YtokmaehefenpmaaDoor
