/- 'each' with a function value that says what it does only where its state allows it. Contracts of the shelf at this dump, in plain words (written by the kit's own tools; those that are wanted). Whether two trees are equal (EqType, EqTypes). Lists of names: the place of a name; short. Lists of names of a call's own; a name put behind. Names sorted, each one once (distinct); the names of a tree (Params). The program's Params: the names of a tree, sorted, each one once. The program's Size: how many nodes a tree has. Contracts of the shelf at this dump, in plain words (written by the kit's own tools; those that are wanted). Lists of numbers of a call's own; a number put behind; such lists sorted, each number once (distinct). The program's Vars: the numbers of a tree's variables, sorted, each one once. Which variables a tree has, by the program's Vars; Contains; the steps of the loop over the solver's map. The solver's binding: plain, and the steps of its walk. Names of types: the document's TypeName. -/
import Derived.Shelf.LaysM
import Derived.Shelf.Sort.Plain
import Derived.Shelf.Slices.CompactS
import Derived.Shelf.Slices.In.SortNone
import Derived.Test.YtokmaehefenpmaaGreatDoorProg
import Derived.Sort.OwnSorted
import Derived.Shelf.Slices.Turned
import Derived.Shelf.Slices.CompactI
import Derived.Sort.OwnSortedInts
import Derived.MapKept
import Derived.Maps.RangeRun
import Derived.Deep.DeepCutAuto
import Derived.Test.YtokmaehefenpmaaGreatDoorPA1
namespace Go.Proofs.YtokmaehefenpmaaGreatDoor
open Go.RowKit Go.Proofs.YtokmaehefenpmaaGreatDoor.Nm
set_option linter.unusedSimpArgs false
section
variable {σ : Type}
/-- What a function value does at a node, where Q holds of the node and the state. -/
structure VisC2 (Q : Ty → σ → Prop) (QL : List Ty → σ → Prop) (K : FuncId) (caps : Array Value) (g : Ty → σ → Bool × σ) (Inv : World → (Nat → Prop) → σ → Prop) : Prop where
  ent : Enters Tryz.prog K
  low : ∀ w C s, Inv w C s → ∀ b, C b → b < w.heap.size
  keep : ∀ w C s, Inv w C s → ∀ w', Below w.heap.size w w' → Inv w' C s
  sub : ∀ k s n l st, Q (.node k s n l) st → (g (.node k s n l) st).1 = true → QL l (g (.node k s n l) st).2
  one : ∀ t l st, QL (t :: l) st → Q t st
  next : ∀ t l st, QL (t :: l) st → (visit g t st).1 = true → QL l (visit g t st).2
  run : ∀ w C s, Inv w C s → ∀ t, Q t s → ∀ (D : Nat → Prop) (row : Array Value), TyAt w D t row → (∀ b, D b → ¬ C b) →
    Calls Tryz.prog K (#[.agg row] ++ caps) w fun e w' => e = .returned (.bool (g t s).1) ∧ ∃ C', ((g t s).1 = true → Inv w' C' (g t s).2) ∧ Keep C w w' ∧ ∀ b, C' b → C b ∨ w.heap.size ≤ b
end
section
variable {σ : Type} {Q : Ty → σ → Prop} {QL : List Ty → σ → Prop} {K : FuncId} {caps : Array Value} {g : Ty → σ → Bool × σ} {Inv : World → (Nat → Prop) → σ → Prop}
def EachC2 (Q : Ty → σ → Prop) (K : FuncId) (caps : Array Value) (g : Ty → σ → Bool × σ) (Inv : World → (Nat → Prop) → σ → Prop) (t : Ty) : Prop := ∀ (w : World) (C : Nat → Prop) (s : σ) (pf pw : Nat) (D : Nat → Prop) (row : Array Value), Q t s → Inv w C s → VisW w C pf pw (.func (.func K) #[] caps) → TyAt w D t row → (∀ b, D b → ¬ C b) →
  Calls Tryz.prog 36 #[.agg row, .pointer (some ⟨pf, 0, none⟩), .pointer (some ⟨pw, 0, none⟩)] w (VPost Inv C w (visit g t s))
set_option maxHeartbeats 4000000 in
set_option maxRecDepth 100000 in
theorem each1_any2 (hV : VisC2 Q QL K caps g Inv) : ∀ t : Ty, EachC2 Q K caps g Inv t := Ty.ind fun k s n ts ih w C st pf pw D0 row hq hI hW h0 hD0 => by
  obtain ⟨D, h, hD, hlow⟩ : ∃ D : Nat → Prop, TyAt w D (.node k s n ts) row ∧ (∀ b, D b → ¬ C b) ∧ ∀ b, D b → b < w.heap.size := ⟨fun b => D0 b ∧ b < w.heap.size, h0.low, fun b hb => hD0 b hb.1, fun b hb => hb.2⟩
  have HLW := Lib.hid hlow
  clear h0 hD0 hlow
  obtain ⟨k1, s1, n1, A, l, c, ts1, e, rfl, hk, hn, hs, hT⟩ := h.parts
  cases e
  have HT := Lib.hid hT
  have HTA := Lib.hid h
  have HL := Lib.hid hT.len
  have hcm := hT.cap
  have hmx := hT.max
  unfold maxLen at hmx
  have HQ := Lib.hid hq
  have HIH := Lib.hid ih
  have HV := Lib.hid hV
  have HE := Lib.hid hV.ent
  have HD := Lib.hid hD
  have HI := Lib.hid hI
  have HW := Lib.hid hW
  have hCl := Lib.hid (hV.low w C st hI)
  clear h hk hn hs hT ih hq hD hI hV hW
  have hb := Below.refl w.heap.size w
  go_enter Tryz.func36, Tryz.ntmps36
  go_upto_region 0 with (fail)
  apply wp_region_lit
  (with_reducible refine wl_box rfl ?_); intro W p hbn hlp hp; replace hb := hb.trans (hbn.mono hb.size); clear hbn; simp only [put_lit, List.set_cons_zero, List.set_cons_succ]
  (with_reducible refine wl_k ?_ ?_); exact rfl; intro K hK; go_simp; refine hK _ ?_; clear hK K
  have HC := Lib.hid (HV.out.run W C st (HV.out.keep w C st HI.out W hb) (.node k s n ts) HQ.out D _ (HTA.out.old hb) HD.out)
  have hfv := (HW.out.keep (C' := C) (Keep.of hb) (fun b h => Or.inl h)).f
  have hlp2 := heap_lt hp
  go_upto_region 1 with (fail)
  cases hg : g (.node k s n ts) st with
  | mk fb s1 =>
    rw [hg] at HC
    have HK := Lib.hid (Keep.of (C := C) hb)
    cases fb with
    | false =>
      have HR : Hid (visit g (.node k s n ts) st = (false, s1)) := Lib.hid (by rw [visit, hg])
      clear hg
      apply wp_region_lit
      (with_reducible apply wl_oneG); exact rfl; exact rfl; exact g51 hfv
      (first | ((with_reducible apply wl_oneG); exact rfl; exact rfl; first | exact f0 (by with_reducible assumption) | exact f1 (by with_reducible assumption) | exact f2 (by with_reducible assumption) | exact f3 (by with_reducible assumption) | with_reducible assumption | exact g22 (by with_reducible assumption) | exact g25 (by with_reducible assumption)) | ((with_reducible apply wl_rowG); exact rfl; exact rfl; first | with_reducible assumption | exact RowK.now (by with_reducible assumption) | exact f4 (by with_reducible assumption)))
      refine wl_fv rfl _ _ _ rfl rfl rfl HE.out HC.out ?_
      rintro e w7 ⟨rfl, C', hI7, hk7, hC7⟩
      refine ⟨_, rfl, ?_⟩
      simp only [put_lit, List.set_cons_zero, List.set_cons_succ]
      have HI7 := Lib.hid hI7
      have HK7 := Lib.hid (HK.out.trans (fun b hb => Or.inl hb) hk7)
      have HC7 := Lib.hid (show ∀ b, C' b → C b ∨ w.heap.size ≤ b from fun b h => (hC7 b h).imp id (fun h => by omega))
      clear hI7 hk7 hC7
      (with_reducible refine wl_k ?_ ?_); exact rfl; intro K hK; go_simp; refine hK _ ?_; clear hK K
      go_wp2_with fail
      go_ret
      exact ret_vis (by rw [HR.out]) (by rw [HR.out]; exact HI7.out) HK7.out HC7.out
    | true =>
      have HR : Hid (visit g (.node k s n ts) st = visits g ts s1) := Lib.hid (by rw [visit, hg])
      have HQL : Hid (QL (ts.drop 0) s1) := Lib.hid (by have := HV.out.sub k s n ts st HQ.out (by rw [hg]); rw [hg] at this; exact this)
      clear hg
      apply wp_region_lit
      (with_reducible apply wl_oneG); exact rfl; exact rfl; exact g51 hfv
      (first | ((with_reducible apply wl_oneG); exact rfl; exact rfl; first | exact f0 (by with_reducible assumption) | exact f1 (by with_reducible assumption) | exact f2 (by with_reducible assumption) | exact f3 (by with_reducible assumption) | with_reducible assumption | exact g22 (by with_reducible assumption) | exact g25 (by with_reducible assumption)) | ((with_reducible apply wl_rowG); exact rfl; exact rfl; first | with_reducible assumption | exact RowK.now (by with_reducible assumption) | exact f4 (by with_reducible assumption)))
      refine wl_fv rfl _ _ _ rfl rfl rfl HE.out HC.out ?_
      rintro e w7 ⟨rfl, C', hI7, hk7, hC7⟩
      refine ⟨_, rfl, ?_⟩
      simp only [put_lit, List.set_cons_zero, List.set_cons_succ]
      have HI7 := Lib.hid (hI7 rfl)
      have HK7 := Lib.hid (HK.out.trans (fun b hb => Or.inl hb) hk7)
      have HC7 := Lib.hid (show ∀ b, C' b → C b ∨ W.heap.size ≤ b from hC7)
      replace hp := hk7.look hp (fun hc => by have := hCl.out _ hc; omega)
      have hWS := hk7.size
      clear hI7 hk7 hC7
      (with_reducible refine wl_k ?_ ?_); exact rfl; intro K hK; go_simp; refine hK _ ?_; clear hK K
      clear HC HK hfv hb
      go_upto_region 3 with (fail)
      apply wp_region_lit
      (with_reducible refine wl_k ?_ ?_); exact rfl; intro K hK; go_simp; refine hK _ ?_; clear hK K
      (first | ((with_reducible apply wl_oneG); exact rfl; exact rfl; first | exact f0 (by with_reducible assumption) | exact f1 (by with_reducible assumption) | exact f2 (by with_reducible assumption) | exact f3 (by with_reducible assumption) | with_reducible assumption | exact g22 (by with_reducible assumption) | exact g25 (by with_reducible assumption)) | ((with_reducible apply wl_rowG); exact rfl; exact rfl; first | with_reducible assumption | exact RowK.now (by with_reducible assumption) | exact f4 (by with_reducible assumption)))
      (with_reducible refine wl_k ?_ ?_); exact rfl; intro K hK; go_simp; refine hK _ ?_; clear hK K
      (with_reducible refine wl_k ?_ ?_); exact rfl; intro K hK; go_simp; refine hK _ ?_; clear hK K
      go_wp2_with fail
      have HST : Hid (visit g (.node k s n ts) st = visits g (ts.drop 0) s1) := HR
      clear HR
      go_loopw [14] (fun i wr => ∃ (j : Nat) (C' : Nat → Prop) (s' : σ), j ≤ l ∧ i = .int .i64 (j : Int) ∧ Hid (visit g (.node k s n ts) st = visits g (ts.drop j) s') ∧ Hid (QL (ts.drop j) s') ∧ Hid (Inv wr C' s') ∧ Hid (Keep C w wr) ∧ Hid (∀ b, C' b → C b ∨ W.heap.size ≤ b) ∧ W.heap.size ≤ wr.heap.size ∧ wr.heap[p]? = some (.cells (cell4 k s n A l c) 24 (0, 0))) (fun i _ => l - (intOf i).toNat)
      case atStart => exact ⟨0, C', s1, by omega, rfl, HST, HQL, HI7, HK7, HC7, hWS, hp⟩
      case round =>
        clear HST HQL HI7 HK7 HC7 hp hWS
        obtain ⟨j, C2, s2, hj, rfl, HR, HQ2, HI2, HK2, HC2, hWS, hp⟩ := hrel
        by_cases hlt : j < l
        · have hltI : (j : Int) < (l : Int) := by omega
          obtain ⟨b, off, t, row, rfl, -, ht, -⟩ := HT.out.get hlt
          have HT2 := Lib.hid (HT.out.keep HK2.out HD.out)
          obtain ⟨row, hrow, hta⟩ := HT2.out.rowK ht
          obtain ⟨k3, s3, n3, A3, l3, c3, ts3, ht3, rfl, -⟩ := hta.parts
          have HTB := Lib.hid hta
          have HDR : Hid (ts.drop j = t :: ts.drop (j + 1)) := Lib.hid (by rw [List.drop_eq_getElem_cons (by rw [HL.out]; exact hlt)]; rw [List.getElem?_eq_getElem (by rw [HL.out]; exact hlt)] at ht; cases ht; rfl)
          have HM := Lib.hid (List.mem_of_getElem? ht)
          clear ht hta ht3 HT2
          have hz := Below.refl wr.heap.size wr
          go_upto_region 5 with (fail)
          apply wp_region_lit
          (with_reducible refine wl_k ?_ ?_); exact rfl; intro K hK; go_simp; refine hK _ ?_; clear hK K
          (first | ((with_reducible apply wl_oneG); exact rfl; exact rfl; first | exact f0 (by with_reducible assumption) | exact f1 (by with_reducible assumption) | exact f2 (by with_reducible assumption) | exact f3 (by with_reducible assumption) | with_reducible assumption | exact g22 (by with_reducible assumption) | exact g25 (by with_reducible assumption)) | ((with_reducible apply wl_rowG); exact rfl; exact rfl; first | with_reducible assumption | exact RowK.now (by with_reducible assumption) | exact f4 (by with_reducible assumption)))
          have lthpq := heap_lt hp; (with_reducible refine wl_all ?_); intro X1 q hbn hlq hq; replace hp := below_look hbn hp; replace hz := hz.trans (hbn.mono hz.size); clear hbn; simp only [put_lit, List.set_cons_zero, List.set_cons_succ]
          (with_reducible refine wl_put rfl rfl hq ?_); rw [put_noneA]; intro X2 hbx hsz hkx hnx; replace hp := (hkx _ (by omega)).trans hp; replace hz := hbx _ _ (by omega) hz; clear hq; have hq := hnx; clear hnx
          clear hbx hkx hsz
          have HK3 := Lib.hid (HK2.out.trans (C' := C) (fun b h => Or.inl h) (Keep.of hz))
          have HW3 := Lib.hid (HW.out.keep HK2.out (C' := C2) (fun b h => (HC2.out b h).imp id (fun h => by omega)))
          have HW4 := Lib.hid (HW3.out.keep (Keep.of hz) (C' := C2) (fun b h => Or.inl h))
          have HI3 := Lib.hid (HV.out.keep wr C2 s2 HI2.out X2 hz)
          have HQ3 : Hid (QL (t :: ts.drop (j + 1)) s2) := Lib.hid (by have := HQ2.out; rwa [HDR.out] at this)
          have hC := HIH.out t HM.out X2 C2 s2 pf pw D (cell4 k3 s3 n3 A3 l3 c3) (HV.out.one _ _ _ HQ3.out) HI3.out HW4.out (HTB.out.old hz) (fun b h hc => (HC2.out b hc).elim (HD.out b h) (fun h2 => by have := HLW.out b h; omega))
          have hpw := HW4.out.w
          have hzs := hz.size
          cases hg : visit g t s2 with
          | mk fb s3' =>
            rw [hg] at hC
            have HC := Lib.hid hC
            clear hC
            cases fb with
            | false =>
              have HF : Hid (visit g (.node k s n ts) st = (false, s3')) := Lib.hid (by rw [HR.out, HDR.out, visits, hg])
              clear hg
              go_upto_region 6 with (fail)
              apply wp_region_lit
              (with_reducible apply wl_oneG); exact rfl; exact rfl; exact g51 hpw
              (first | ((with_reducible apply wl_oneG); exact rfl; exact rfl; first | exact f0 (by with_reducible assumption) | exact f1 (by with_reducible assumption) | exact f2 (by with_reducible assumption) | exact f3 (by with_reducible assumption) | with_reducible assumption | exact g22 (by with_reducible assumption) | exact g25 (by with_reducible assumption)) | ((with_reducible apply wl_rowG); exact rfl; exact rfl; first | with_reducible assumption | exact RowK.now (by with_reducible assumption) | exact f4 (by with_reducible assumption)))
              (with_reducible refine wl_ck ?_ ?_); exact rfl; intro K hK; go_simp; refine ⟨_, _, ⟨rfl, rfl⟩, hK _ _ ⟨_, HC.out, ?_⟩⟩; clear hK K; rintro e w7 ⟨rfl, C7, hI7, hk7, hC7⟩; refine ⟨_, rfl, ?_⟩; simp only [put_lit, List.set_cons_zero, List.set_cons_succ]
              have HI7 := Lib.hid hI7
              have HK7 := Lib.hid (HK3.out.trans (C' := C2) (fun b h => (HC2.out b h).imp id (fun h => by omega)) hk7)
              have HC7 := Lib.hid (show ∀ b, C7 b → C b ∨ w.heap.size ≤ b from fun b h => (hC7 b h).elim (fun h => (HC2.out b h).imp id (fun h => by omega)) (fun h => Or.inr (by have := HK3.out.size; omega)))
              clear hI7 hk7 hC7
              (with_reducible refine wl_k ?_ ?_); exact rfl; intro K hK; go_simp; refine hK _ ?_; clear hK K
              go_wp2_with fail
              go_ret
              exact ret_vis (by rw [HF.out]) (by rw [HF.out]; exact HI7.out) HK7.out HC7.out
            | true =>
              have HF : Hid (visit g (.node k s n ts) st = visits g (ts.drop (j + 1)) s3') := Lib.hid (by rw [HR.out, HDR.out, visits, hg])
              have HQN : Hid (QL (ts.drop (j + 1)) s3') := Lib.hid (by have := HV.out.next _ _ _ HQ3.out (by rw [hg]); rwa [hg] at this)
              clear hg
              go_upto_region 6 with (fail)
              apply wp_region_lit
              (with_reducible apply wl_oneG); exact rfl; exact rfl; exact g51 hpw
              (first | ((with_reducible apply wl_oneG); exact rfl; exact rfl; first | exact f0 (by with_reducible assumption) | exact f1 (by with_reducible assumption) | exact f2 (by with_reducible assumption) | exact f3 (by with_reducible assumption) | with_reducible assumption | exact g22 (by with_reducible assumption) | exact g25 (by with_reducible assumption)) | ((with_reducible apply wl_rowG); exact rfl; exact rfl; first | with_reducible assumption | exact RowK.now (by with_reducible assumption) | exact f4 (by with_reducible assumption)))
              (with_reducible refine wl_ck ?_ ?_); exact rfl; intro K hK; go_simp; refine ⟨_, _, ⟨rfl, rfl⟩, hK _ _ ⟨_, HC.out, ?_⟩⟩; clear hK K; rintro e w7 ⟨rfl, C7, hI7, hk7, hC7⟩; refine ⟨_, rfl, ?_⟩; simp only [put_lit, List.set_cons_zero, List.set_cons_succ]
              have HI7 := Lib.hid (hI7 rfl)
              have HK7 := Lib.hid (HK3.out.trans (C' := C2) (fun b h => (HC2.out b h).imp id (fun h => by omega)) hk7)
              have HC7 := Lib.hid (show ∀ b, C7 b → C b ∨ W.heap.size ≤ b from fun b h => (hC7 b h).elim (fun h => HC2.out b h) (fun h => Or.inr (by omega)))
              have hWS7 := hk7.size
              replace hp := hk7.look hp (fun hc => (HC2.out _ hc).elim (fun h => by have := hCl.out _ h; omega) (fun h => by omega))
              clear hI7 hk7 hC7
              (with_reducible refine wl_k ?_ ?_); exact rfl; intro K hK; go_simp; refine hK _ ?_; clear hK K
              clear hrow hq hpw HC HR HDR HI2 HK2 HC2
              go_wp2_with fail
              go_roundw
              case rel => exact ⟨j + 1, C7, s3', by omega, by go_num, HF, HQN, HI7, HK7, HC7, by omega, hp⟩
              case measure => simp [intOf]; omega
        · have hltI : ¬ (j : Int) < (l : Int) := by omega
          have HF : Hid (visit g (.node k s n ts) st = (true, s2)) := Lib.hid (by rw [HR.out, List.drop_of_length_le (by rw [HL.out]; omega), visits])
          clear HR
          go_wp2_with fail
          go_ret
          exact ret_vis (by rw [HF.out]) (fun _ => by rw [HF.out]; exact HI2.out) HK2.out (fun b h => (HC2.out b h).imp id (fun h => by omega))
set_option maxHeartbeats 4000000 in
set_option maxRecDepth 100000 in
theorem each_any2 (hV : VisC2 Q QL K caps g Inv) (t : Ty) (w : World) (C : Nat → Prop) (st : σ) (hq : Q t st) (D : Nat → Prop) (row : Array Value) (hI : Inv w C st) (h : TyAt w D t row) (hD : ∀ b, D b → ¬ C b) :
    Calls Tryz.prog 23 #[.agg row, .func (.func K) #[] caps] w (VPost Inv C w (visit g t st)) := by
  have hmf : ∀ (fn : Fn) (first cap : Array Value) (w : World), (Instr.makeFunc fn first cap).run Tryz.prog w = .ok (.func fn first cap) w := fun _ _ _ _ => rfl
  obtain ⟨k, s, n, A, l, c, ts, he, rfl, -⟩ := h.parts
  have HT := Lib.hid h
  have HE := Lib.hid (each1_any2 hV t)
  have HV := Lib.hid hV
  have HI := Lib.hid hI
  have HQ := Lib.hid hq
  have HD := Lib.hid hD
  have hCl := Lib.hid (hV.low w C st hI)
  clear h hV hq hI hD he
  have hb := Below.refl w.heap.size w
  go_enter Tryz.func23, Tryz.ntmps23
  go_upto_region 0 with (fail)
  apply wp_region_lit
  (with_reducible refine wl_box rfl ?_); intro W p hbn hlp hp; replace hb := hb.trans (hbn.mono hb.size); clear hbn; simp only [put_lit, List.set_cons_zero, List.set_cons_succ]
  have lthppf := heap_lt hp; (with_reducible refine wl_box51 rfl ?_); intro W1 pf hbn hlpf hpf; replace hp := below_look hbn hp; replace hb := hb.trans (hbn.mono hb.size); clear hbn; simp only [put_lit, List.set_cons_zero, List.set_cons_succ]
  (with_reducible refine wl_k ?_ ?_); exact rfl; intro K hK; go_simp; refine hK _ ?_; clear hK K
  go_upto_region 1 with (fail)
  apply wp_region_lit
  have lthppw := heap_lt hp; have lthpfpw := heap_lt hpf; (with_reducible refine wl_all51 ?_); intro W2 pw hbn hlpw hpw; replace hp := below_look hbn hp; replace hpf := below_look hbn hpf; replace hb := hb.trans (hbn.mono hb.size); clear hbn; simp only [put_lit, List.set_cons_zero, List.set_cons_succ]
  go_upto_region 2 with (fail)
  apply wp_region_lit
  (with_reducible refine wl_k ?_ ?_); exact rfl; intro K hK; go_simp; refine hK _ ?_; clear hK K
  (with_reducible refine wl_put1 (v := .func (.func 36) #[] #[.pointer (some ⟨pf, 0, none⟩), .pointer (some ⟨pw, 0, none⟩)]) info51 ?_ ?_ ?_ hpw ?_); exact rfl; exact rfl; exact rfl; rw [put_noneA]; intro W3 hbx hsz hkx hnx; replace hp := (hkx _ (by omega)).trans hp; replace hpf := (hkx _ (by omega)).trans hpf; replace hb := hbx _ _ (by omega) hb; clear hpw; have hpw := hnx; clear hnx
  clear hbx hkx hsz
  have HC := Lib.hid (HE.out W3 C st pf pw D _ HQ.out (HV.out.keep w C st HI.out W3 hb) ⟨hpf, hpw, fun hc => by have := hCl.out _ hc; omega, fun hc => by have := hCl.out _ hc; omega⟩ (HT.out.old hb) HD.out)
  go_upto_region 3 with (fail)
  apply wp_region_lit
  (with_reducible apply wl_oneG); exact rfl; exact rfl; exact g51 hpw
  (first | ((with_reducible apply wl_oneG); exact rfl; exact rfl; first | exact f0 (by with_reducible assumption) | exact f1 (by with_reducible assumption) | exact f2 (by with_reducible assumption) | exact f3 (by with_reducible assumption) | with_reducible assumption | exact g22 (by with_reducible assumption) | exact g25 (by with_reducible assumption)) | ((with_reducible apply wl_rowG); exact rfl; exact rfl; first | with_reducible assumption | exact RowK.now (by with_reducible assumption) | exact f4 (by with_reducible assumption)))
  (with_reducible refine wl_ck ?_ ?_); exact rfl; intro K hK; go_simp; refine ⟨_, _, ⟨rfl, rfl⟩, hK _ _ ⟨_, HC.out, ?_⟩⟩; clear hK K; rintro e w7 ⟨rfl, C7, hI7, hk7, hC7⟩; refine ⟨_, rfl, ?_⟩; simp only [put_lit, List.set_cons_zero, List.set_cons_succ]
  have HI7 := Lib.hid hI7
  have HK7 := Lib.hid ((Keep.of hb).trans (fun b h => Or.inl h) hk7)
  have HC7 := Lib.hid (show ∀ b, C7 b → C b ∨ w.heap.size ≤ b from fun b h => (hC7 b h).imp id (fun h => by have := hb.size; omega))
  clear hI7 hk7 hC7 hp hpf hpw
  (with_reducible refine wl_k ?_ ?_); exact rfl; intro K hK; go_simp; refine hK _ ?_; clear hK K
  go_wp2_with fail
  go_ret
  exact ret_vis rfl HI7.out HK7.out HC7.out
end
end Go.Proofs.YtokmaehefenpmaaGreatDoor
namespace Go.Proofs
open Go.Shelf
def Tryz.lays190_ren : Go.Shelf.Ren := ⟨fun | 190 => 37 | 125 => 48 | 258 => 47 | 128 => 66 | 129 => 67 | 302 => 57 | 303 => 58 | 304 => 59 | 305 => 60 | 306 => 61 | 307 => 62 | 308 => 63 | 309 => 64 | 310 => 65 | 333 => 79 | 329 => 80 | 330 => 81 | 334 => 82 | 335 => 83 | 336 => 84 | 344 => 91 | n => n, fun | 31 => 29 | 9 => 9 | 3 => 3 | 46 => 60 | 0 => 0 | 51 => 81 | 53 => 83 | 4 => 4 | 183 => 73 | 182 => 72 | 131 => 78 | 5 => 5 | 218 => 90 | 222 => 94 | 228 => 102 | 229 => 103 | n => n, fun | n => n⟩
theorem Tryz.lays190 : Go.Proofs.Lays.n190 Tryz.prog Tryz.lays190_ren := {
  mixed := by kernel_rfl
  f125 := Tryz.func48.trans (congrArg some (by kernel_rfl))
  f128 := Tryz.func66.trans (congrArg some (by kernel_rfl))
  f129 := Tryz.func67.trans (congrArg some (by kernel_rfl))
  f190 := Tryz.func37.trans (congrArg some (by kernel_rfl))
  f258 := Tryz.func47.trans (congrArg some (by kernel_rfl))
  f302 := Tryz.func57.trans (congrArg some (by kernel_rfl))
  f303 := Tryz.func58.trans (congrArg some (by kernel_rfl))
  f304 := Tryz.func59.trans (congrArg some (by kernel_rfl))
  f305 := Tryz.func60.trans (congrArg some (by kernel_rfl))
  f306 := Tryz.func61.trans (congrArg some (by kernel_rfl))
  f307 := Tryz.func62.trans (congrArg some (by kernel_rfl))
  f308 := Tryz.func63.trans (congrArg some (by kernel_rfl))
  f309 := Tryz.func64.trans (congrArg some (by kernel_rfl))
  f310 := Tryz.func65.trans (congrArg some (by kernel_rfl))
  f329 := Tryz.func80.trans (congrArg some (by kernel_rfl))
  f330 := Tryz.func81.trans (congrArg some (by kernel_rfl))
  f333 := Tryz.func79.trans (congrArg some (by kernel_rfl))
  f334 := Tryz.func82.trans (congrArg some (by kernel_rfl))
  f335 := Tryz.func83.trans (congrArg some (by kernel_rfl))
  f336 := Tryz.func84.trans (congrArg some (by kernel_rfl))
  f344 := Tryz.func91.trans (congrArg some (by kernel_rfl))
  t0 := Tryz.underlying0
  a0 := Tryz.isAgg0
  z0 := Tryz.sizeOf0
  v0 := Tryz.zeroValue0
  t3 := Tryz.underlying3
  a3 := Tryz.isAgg3
  z3 := Tryz.sizeOf3
  v3 := Tryz.zeroValue3
  t4 := Tryz.underlying4
  a4 := Tryz.isAgg4
  z4 := Tryz.sizeOf4
  v4 := Tryz.zeroValue4
  t5 := Tryz.underlying5
  a5 := Tryz.isAgg5
  z5 := Tryz.sizeOf5
  v5 := Tryz.zeroValue5
  t9 := Tryz.underlying9
  a9 := Tryz.isAgg9
  z9 := Tryz.sizeOf9
  v9 := Tryz.zeroValue9
  t31 := Tryz.underlying29
  a31 := Tryz.isAgg29
  z31 := Tryz.sizeOf29
  v31 := Tryz.zeroValue29
  t46 := Tryz.underlying60
  a46 := Tryz.isAgg60
  z46 := Tryz.sizeOf60
  v46 := Tryz.zeroValue60
  t51 := Tryz.underlying81
  a51 := Tryz.isAgg81
  z51 := Tryz.sizeOf81
  v51 := Tryz.zeroValue81
  t53 := Tryz.underlying83
  a53 := Tryz.isAgg83
  z53 := Tryz.sizeOf83
  v53 := Tryz.zeroValue83
  t131 := Tryz.underlying78
  a131 := Tryz.isAgg78
  z131 := Tryz.sizeOf78
  v131 := Tryz.zeroValue78
  t182 := Tryz.underlying72
  a182 := Tryz.isAgg72
  z182 := Tryz.sizeOf72
  v182 := Tryz.zeroValue72
  t183 := Tryz.underlying73
  a183 := Tryz.isAgg73
  z183 := Tryz.sizeOf73
  v183 := Tryz.zeroValue73
  t218 := Tryz.underlying90
  a218 := Tryz.isAgg90
  z218 := Tryz.sizeOf90
  v218 := Tryz.zeroValue90
  t222 := Tryz.underlying94
  a222 := Tryz.isAgg94
  z222 := Tryz.sizeOf94
  v222 := Tryz.zeroValue94
  t228 := Tryz.underlying102
  a228 := Tryz.isAgg102
  z228 := Tryz.sizeOf102
  v228 := Tryz.zeroValue102
  t229 := Tryz.underlying103
  a229 := Tryz.isAgg103
  z229 := Tryz.sizeOf103
  v229 := Tryz.zeroValue103 }
open Go.Sort Go.RowKit in
theorem Tryz.slices_Sort_string (blk off cap : Nat) (ss : List (List UInt8)) (w : World) (hH : Holds encStr w blk off ss.toArray) (hblk : blk < w.heap.size) (hsz : ss.length < 4611686018427387904) :
    Calls Tryz.prog 37 #[.slice (some ⟨blk, off, none⟩) ss.length cap] w fun e w' =>
      e = .returned (.tuple #[]) ∧ ∃ n os, w' = grow (putRow encStr (Sort.ahead w n) blk off (ss.mergeSort fun x y => decide (x ≤ y)).toArray) os := Any.slices_Sort_string Tryz.lays190 blk off cap ss w hH hblk hsz
def Tryz.lays194_ren : Go.Shelf.Ren := ⟨fun | 194 => 38 | n => n, fun | 31 => 29 | 9 => 9 | 3 => 3 | 4 => 4 | 0 => 0 | n => n, fun | n => n⟩
theorem Tryz.lays194 : Go.Proofs.Lays.n194 Tryz.prog Tryz.lays194_ren := {
  mixed := by kernel_rfl
  f194 := Tryz.func38.trans (congrArg some (by kernel_rfl))
  t0 := Tryz.underlying0
  a0 := Tryz.isAgg0
  z0 := Tryz.sizeOf0
  v0 := Tryz.zeroValue0
  t3 := Tryz.underlying3
  a3 := Tryz.isAgg3
  z3 := Tryz.sizeOf3
  v3 := Tryz.zeroValue3
  t4 := Tryz.underlying4
  a4 := Tryz.isAgg4
  z4 := Tryz.sizeOf4
  v4 := Tryz.zeroValue4
  t9 := Tryz.underlying9
  a9 := Tryz.isAgg9
  z9 := Tryz.sizeOf9
  v9 := Tryz.zeroValue9
  t31 := Tryz.underlying29
  a31 := Tryz.isAgg29
  z31 := Tryz.sizeOf29
  v31 := Tryz.zeroValue29 }
open Go.RowKit Go.Lib Go.Sort in
theorem Tryz.slices_Compact_string (blk off cap : Nat) (zs : List (List UInt8)) (w : World) (hH : Holds encStr w blk off zs.toArray) (hsz : zs.length ≤ 9223372036854775807) (hcap : zs.length ≤ cap) :
    Calls Tryz.prog 38 #[.slice (some ⟨blk, off, none⟩) zs.length cap] w fun e w' => e = .returned (.slice (some ⟨blk, off, none⟩) (Lib.compact zs).length cap) ∧ ∃ q, w' = putRow encStr (Sort.ahead w q) blk off (Lib.compact zs ++ List.replicate (zs.length - (Lib.compact zs).length) []).toArray := Any.slices_Compact_string Tryz.lays194 blk off cap zs w hH hsz hcap
open Go.RowKit Go.Lib Go.Sort in
theorem Tryz.slices_Compact_string_empty (a : Option Addr) (cap : Nat) (w : World) :
    Calls Tryz.prog 38 #[.slice a 0 cap] w fun e w' => e = .returned (.slice a 0 cap) ∧ w' = w := Any.slices_Compact_string_empty Tryz.lays194 a cap w
theorem Tryz.slices_Sort_string_none (p : Option Addr) (cap : Nat) (w : World) : Calls Tryz.prog 37 #[.slice p 0 cap] w fun e w' => e = .returned (.tuple #[]) ∧ w' = w := Any.slices_Sort_string_none Tryz.lays190 p cap w
end Go.Proofs
namespace Go.Proofs.YtokmaehefenpmaaGreatDoor
open Go.RowKit Go.Proofs.YtokmaehefenpmaaGreatDoor.Nm
set_option linter.unusedSimpArgs false
theorem bytes_inj {s t : ByteArray} (h : s.toList = t.toList) : s = t := by
  rw [ByteArray.toList_eq, ByteArray.toList_eq] at h
  cases s; cases t
  exact congrArg _ (Array.toList_inj.1 h)
end Go.Proofs.YtokmaehefenpmaaGreatDoor
namespace Go.Proofs.YtokmaehefenpmaaGreatDoor
open Go.RowKit Go.Proofs.YtokmaehefenpmaaGreatDoor.Nm
set_option linter.unusedSimpArgs false
/-- A row of names at a slice. -/
structure TxAt (w : World) (ns : List ByteArray) (A : Option Addr) (l c : Nat) : Prop where
  len : ns.length = l
  cap : l ≤ c
  max : c ≤ maxLen
  el : ∀ (i : Nat) (s : ByteArray), ns[i]? = some s → ∃ b off, A = some ⟨b, off, none⟩ ∧ w.cell? ⟨b, off + i, none⟩ = some (.string s)
theorem cell_lt' {w : World} {a : Addr} {v : Value} (h : w.cell? a = some v) : a.block < w.heap.size := by
  apply Classical.byContradiction
  intro hn
  simp [World.cell?, Array.getElem?_eq_none (Nat.le_of_not_lt hn)] at h
theorem TxAt.old {w w' : World} {ns : List ByteArray} {A : Option Addr} {l c : Nat} (h : TxAt w ns A l c) (hb : Below w.heap.size w w') : TxAt w' ns A l c :=
  ⟨h.len, h.cap, h.max, fun i s hi => by
    obtain ⟨b, off, e, hc⟩ := h.el i s hi
    exact ⟨b, off, e, by rw [hb.cell (cell_lt' hc)]; exact hc⟩⟩
theorem TxAt.addr {w : World} {ns : List ByteArray} {A : Option Addr} {l c : Nat} (h : TxAt w ns A l c) {i : Nat} (hi : i < l) : ∃ b off s, A = some ⟨b, off, none⟩ ∧ ns[i]? = some s := by
  have hs : ns[i]? = some (ns[i]'(by rw [h.len]; exact hi)) := List.getElem?_eq_getElem _
  obtain ⟨b, off, e, _⟩ := h.el i _ hs
  exact ⟨b, off, _, e, hs⟩
theorem TxAt.one {w : World} {ns : List ByteArray} {b off : Nat} {l c : Nat} (h : TxAt w ns (some ⟨b, off, none⟩) l c) {i : Nat} {s : ByteArray} (hi : ns[i]? = some s) : OneAt w 9 ⟨b, off + i, none⟩ (.string s) := by
  obtain ⟨b', off', e, hc⟩ := h.el i s hi
  cases e
  exact one_of u9 rfl hc
def idxI (ns : List ByteArray) (s : ByteArray) : Int := match idx ns s with | some i => (i : Int) | none => -1
theorem idx_some {ns : List ByteArray} {s : ByteArray} {j : Nat} (h : ∀ i, i < j → ns[i]? ≠ some s) (hj : ns[j]? = some s) : idx ns s = some j := by
  unfold idx
  rw [List.findIdx?_eq_some_iff_getElem]
  have hl := (List.getElem?_eq_some_iff.1 hj).1
  refine ⟨hl, ?_, fun i hi => ?_⟩
  · rw [List.getElem?_eq_getElem hl] at hj; simpa using hj
  · have := h i hi
    rw [List.getElem?_eq_getElem (by omega)] at this
    simpa using this
theorem idx_none {ns : List ByteArray} {s : ByteArray} (h : ∀ i, i < ns.length → ns[i]? ≠ some s) : idx ns s = none := by
  unfold idx
  rw [List.findIdx?_eq_none_iff]
  intro x hx
  obtain ⟨i, hi⟩ := List.mem_iff_getElem?.1 hx
  have := h i (List.getElem?_eq_some_iff.1 hi).1
  rw [hi] at this
  simpa using this
set_option maxHeartbeats 2000000 in
set_option maxRecDepth 100000 in
theorem Has_any (ns : List ByteArray) (s : ByteArray) (A : Option Addr) (l c : Nat) (w : World) (h : TxAt w ns A l c) : Calls Tryz.prog 39 #[.slice A l c, .string s] w fun e w' => e = .returned (.int .i64 (idxI ns s)) ∧ Below w.heap.size w w' := by
  have HT := Lib.hid h
  have HL := Lib.hid h.len
  have hcm := h.cap
  have hmx := h.max
  unfold maxLen at hmx
  clear h
  have hb := Below.refl w.heap.size w
  go_enter Tryz.func39, Tryz.ntmps39
  go_wp2_with fail
  go_loopw [5] (fun i wr => ∃ j : Nat, j ≤ l ∧ i = .int .i64 (j : Int) ∧ Hid (∀ i, i < j → ns[i]? ≠ some s) ∧ Below w.heap.size w wr) (fun i _ => l - (intOf i).toNat)
  case atStart => exact ⟨0, by omega, rfl, Lib.hid (fun i hi => by omega), hb⟩
  case round =>
    clear hb
    obtain ⟨j, hj, rfl, HR, hb⟩ := hrel
    by_cases hlt : j < l
    · have hltI : (j : Int) < (l : Int) := by omega
      obtain ⟨b, off, x, rfl, hx⟩ := HT.out.addr hlt
      have hone := (HT.out.old hb).one hx
      by_cases he : x = s
      · have e1 : (x.toList == s.toList) = true := beq_iff_eq.2 (by rw [he])
        have HF : Hid (idxI ns s = (j : Int)) := Lib.hid (by unfold idxI; rw [idx_some HR.out (by rw [hx, he])])
        clear he hx HR
        go_upto_region 4 with (fail)
        apply wp_region_lit
        (with_reducible refine wl_k ?_ ?_); exact rfl; intro K hK; go_simp; refine hK _ ?_; clear hK K
        (with_reducible refine wl_k ?_ ?_); exact rfl; intro K hK; go_simp; refine hK _ ?_; clear hK K
        (with_reducible refine wl_k ?_ ?_); exact rfl; intro K hK; go_simp; refine hK _ ?_; clear hK K
        (first | ((with_reducible apply wl_oneG); exact rfl; exact rfl; first | exact f0 (by with_reducible assumption) | exact f1 (by with_reducible assumption) | exact f2 (by with_reducible assumption) | exact f3 (by with_reducible assumption) | with_reducible assumption | exact g22 (by with_reducible assumption) | exact g25 (by with_reducible assumption)) | ((with_reducible apply wl_rowG); exact rfl; exact rfl; first | with_reducible assumption | exact RowK.now (by with_reducible assumption) | exact f4 (by with_reducible assumption)))
        (with_reducible refine wl_k ?_ ?_); exact rfl; intro K hK; go_simp; refine hK _ ?_; clear hK K
        (with_reducible refine wl_k ?_ ?_); exact rfl; intro K hK; go_simp; refine hK _ ?_; clear hK K
        clear hone
        go_wp2_with fail
        go_ret
        exact ⟨ret_int HF.out.symm, hb⟩
      · have e1 : (x.toList == s.toList) = false := beq_eq_false_iff_ne.2 (fun e => he (bytes_inj e))
        have HR2 : Hid (∀ i, i < j + 1 → ns[i]? ≠ some s) := Lib.hid (fun i hi => by
          by_cases e : i = j
          · subst e; rw [hx]; simpa using he
          · exact HR.out i (by omega))
        clear he hx HR
        go_upto_region 4 with (fail)
        apply wp_region_lit
        (with_reducible refine wl_k ?_ ?_); exact rfl; intro K hK; go_simp; refine hK _ ?_; clear hK K
        (with_reducible refine wl_k ?_ ?_); exact rfl; intro K hK; go_simp; refine hK _ ?_; clear hK K
        (with_reducible refine wl_k ?_ ?_); exact rfl; intro K hK; go_simp; refine hK _ ?_; clear hK K
        (first | ((with_reducible apply wl_oneG); exact rfl; exact rfl; first | exact f0 (by with_reducible assumption) | exact f1 (by with_reducible assumption) | exact f2 (by with_reducible assumption) | exact f3 (by with_reducible assumption) | with_reducible assumption | exact g22 (by with_reducible assumption) | exact g25 (by with_reducible assumption)) | ((with_reducible apply wl_rowG); exact rfl; exact rfl; first | with_reducible assumption | exact RowK.now (by with_reducible assumption) | exact f4 (by with_reducible assumption)))
        (with_reducible refine wl_k ?_ ?_); exact rfl; intro K hK; go_simp; refine hK _ ?_; clear hK K
        (with_reducible refine wl_k ?_ ?_); exact rfl; intro K hK; go_simp; refine hK _ ?_; clear hK K
        clear hone
        go_wp2_with fail
        go_roundw
        case rel => exact ⟨j + 1, by omega, by go_num, HR2, hb⟩
        case measure => simp [intOf]; omega
    · have hltI : ¬ (j : Int) < (l : Int) := by omega
      have HF : Hid (idxI ns s = -1) := Lib.hid (by unfold idxI; rw [idx_none (fun i hi => HR.out i (by rw [HL.out] at hi; omega))])
      go_wp2_with fail
      go_ret
      exact ⟨ret_int HF.out.symm, hb⟩
set_option maxHeartbeats 2000000 in
set_option maxRecDepth 100000 in
theorem Index_any (ns : List ByteArray) (s : ByteArray) (A : Option Addr) (l c : Nat) (w : World) (h : TxAt w ns A l c) : Calls Tryz.prog 53 #[.slice A l c, .string s] w fun e w' => e = .returned (.int .i64 (idxI ns s)) ∧ Below w.heap.size w w' := by
  have HT := Lib.hid h
  have HL := Lib.hid h.len
  have hcm := h.cap
  have hmx := h.max
  unfold maxLen at hmx
  clear h
  have hb := Below.refl w.heap.size w
  go_enter Tryz.func53, Tryz.ntmps53
  go_wp2_with fail
  go_loopw [8] (fun i wr => ∃ j : Nat, j ≤ l ∧ i = .int .i64 (j : Int) ∧ Hid (∀ i, i < j → ns[i]? ≠ some s) ∧ Below w.heap.size w wr) (fun i _ => l - (intOf i).toNat)
  case atStart => exact ⟨0, by omega, rfl, Lib.hid (fun i hi => by omega), hb⟩
  case round =>
    clear hb
    obtain ⟨j, hj, rfl, HR, hb⟩ := hrel
    by_cases hlt : j < l
    · have hltI : (j : Int) < (l : Int) := by omega
      obtain ⟨b, off, x, rfl, hx⟩ := HT.out.addr hlt
      have hone := (HT.out.old hb).one hx
      by_cases he : s = x
      · have e1 : (s.toList == x.toList) = true := beq_iff_eq.2 (by rw [he])
        have HF : Hid (idxI ns s = (j : Int)) := Lib.hid (by unfold idxI; rw [idx_some HR.out (by rw [hx, he])])
        clear he hx HR
        go_upto_region 4 with (fail)
        apply wp_region_lit
        (with_reducible refine wl_k ?_ ?_); exact rfl; intro K hK; go_simp; refine hK _ ?_; clear hK K
        (with_reducible refine wl_k ?_ ?_); exact rfl; intro K hK; go_simp; refine hK _ ?_; clear hK K
        (with_reducible refine wl_k ?_ ?_); exact rfl; intro K hK; go_simp; refine hK _ ?_; clear hK K
        (with_reducible refine wl_k ?_ ?_); exact rfl; intro K hK; go_simp; refine hK _ ?_; clear hK K
        (first | ((with_reducible apply wl_oneG); exact rfl; exact rfl; first | exact f0 (by with_reducible assumption) | exact f1 (by with_reducible assumption) | exact f2 (by with_reducible assumption) | exact f3 (by with_reducible assumption) | with_reducible assumption | exact g22 (by with_reducible assumption) | exact g25 (by with_reducible assumption)) | ((with_reducible apply wl_rowG); exact rfl; exact rfl; first | with_reducible assumption | exact RowK.now (by with_reducible assumption) | exact f4 (by with_reducible assumption)))
        (with_reducible refine wl_k ?_ ?_); exact rfl; intro K hK; go_simp; refine hK _ ?_; clear hK K
        clear hone
        go_wp2_with fail
        go_ret
        exact ⟨ret_int HF.out.symm, hb⟩
      · have e1 : (s.toList == x.toList) = false := beq_eq_false_iff_ne.2 (fun e => he (bytes_inj e))
        have HR2 : Hid (∀ i, i < j + 1 → ns[i]? ≠ some s) := Lib.hid (fun i hi => by
          by_cases e : i = j
          · subst e; rw [hx]; simp; exact fun e => he e.symm
          · exact HR.out i (by omega))
        clear he hx HR
        go_upto_region 4 with (fail)
        apply wp_region_lit
        (with_reducible refine wl_k ?_ ?_); exact rfl; intro K hK; go_simp; refine hK _ ?_; clear hK K
        (with_reducible refine wl_k ?_ ?_); exact rfl; intro K hK; go_simp; refine hK _ ?_; clear hK K
        (with_reducible refine wl_k ?_ ?_); exact rfl; intro K hK; go_simp; refine hK _ ?_; clear hK K
        (with_reducible refine wl_k ?_ ?_); exact rfl; intro K hK; go_simp; refine hK _ ?_; clear hK K
        (first | ((with_reducible apply wl_oneG); exact rfl; exact rfl; first | exact f0 (by with_reducible assumption) | exact f1 (by with_reducible assumption) | exact f2 (by with_reducible assumption) | exact f3 (by with_reducible assumption) | with_reducible assumption | exact g22 (by with_reducible assumption) | exact g25 (by with_reducible assumption)) | ((with_reducible apply wl_rowG); exact rfl; exact rfl; first | with_reducible assumption | exact RowK.now (by with_reducible assumption) | exact f4 (by with_reducible assumption)))
        (with_reducible refine wl_k ?_ ?_); exact rfl; intro K hK; go_simp; refine hK _ ?_; clear hK K
        clear hone
        go_wp2_with fail
        go_roundw
        case rel => exact ⟨j + 1, by omega, by go_num, HR2, hb⟩
        case measure => simp [intOf]; omega
    · have hltI : ¬ (j : Int) < (l : Int) := by omega
      have HF : Hid (idxI ns s = -1) := Lib.hid (by unfold idxI; rw [idx_none (fun i hi => HR.out i (by rw [HL.out] at hi; omega))])
      go_wp2_with fail
      go_ret
      exact ⟨ret_int HF.out.symm, hb⟩
end Go.Proofs.YtokmaehefenpmaaGreatDoor
namespace Go.Proofs.YtokmaehefenpmaaGreatDoor
open Go.RowKit Go.Proofs.YtokmaehefenpmaaGreatDoor.Nm
set_option linter.unusedSimpArgs false
def OwnS (w : World) (B : Nat) (v : Value) (ns : List ByteArray) : Prop := w.ownsRow B 9 1 v ns.length (ns.map .string)
theorem OwnS.nil (w : World) (B : Nat) : OwnS w B (.slice none 0 0) [] := World.ownsRow_nil _ _ _ _
theorem OwnS.lt {w : World} {B : Nat} {v : Value} {ns : List ByteArray} (h : OwnS w B v ns) : ∀ b, v.ownBlock = some b → B ≤ b ∧ b < w.heap.size := World.ownsRow.lt h
theorem OwnS.old {w w' : World} {B : Nat} {v : Value} {ns : List ByteArray} (h : OwnS w B v ns) (hb : Below w.heap.size w w') : OwnS w' B v ns := own_same h fun q hq _ => hb.block q hq
theorem OwnS.tx {w : World} {B : Nat} {v : Value} {ns : List ByteArray} (h : OwnS w B v ns) : ∃ A l c, v = .slice A l c ∧ TxAt w ns A l c := by
  rcases h.2 with ⟨rfl, hn⟩ | ⟨g, cap, cur, rfl, hB, hg, hc, hm, hs, hcur⟩
  · have : ns = [] := by cases ns with | nil => rfl | cons => simp at hn
    subst this
    exact ⟨none, 0, 0, rfl, rfl, Nat.le_refl _, Nat.zero_le _, fun i s h => by simp at h⟩
  · refine ⟨_, _, _, rfl, rfl, hc, hm, fun i s hi => ⟨g, 0, rfl, ?_⟩⟩
    have hl : i < ns.length := (List.getElem?_eq_some_iff.1 hi).1
    rw [Nat.zero_add, cell_of_row _ _ _ _ _ _ hg]
    have h2 : (ns.map Value.string)[i]? = some (.string s) := by rw [List.getElem?_map, hi]; rfl
    rw [← hcur, List.getElem?_take_of_lt (by omega)] at h2
    simpa using h2
/-- What stands when a list of the call's own has grown. -/
structure Gro (v : Value) (w : World) (v' : Value) (w' : World) : Prop where
  keep : ∀ b, b < w.heap.size → v.ownBlock ≠ some b → w'.heap[b]? = w.heap[b]?
  own : ∀ b, v'.ownBlock = some b → v.ownBlock = some b ∨ w.heap.size ≤ b
  bel : ∀ B' w0, (∀ b, v.ownBlock = some b → B' ≤ b) → B' ≤ w.heap.size → Below B' w0 w → Below B' w0 w'
theorem Gro.size {v v' : Value} {w w' : World} (h : Gro v w v' w') : w.heap.size ≤ w'.heap.size := (h.bel 0 w (fun _ _ => Nat.zero_le _) (Nat.zero_le _) (Below.refl _ _)).size
theorem Gro.trans {v v1 v2 : Value} {w w1 w2 : World} (h : Gro v w v1 w1) (g : Gro v1 w1 v2 w2) : Gro v w v2 w2 where
  keep b hb hv := by
    have := h.size
    rw [g.keep b (by omega) (fun e => (h.own b e).elim hv (by omega)), h.keep b hb hv]
  own b e := by
    have := h.size
    rcases g.own b e with e | e
    · exact h.own b e
    · exact .inr (by omega)
  bel B' w0 h1 h2 h3 := by
    have := h.size
    exact g.bel B' w0 (fun b e => (h.own b e).elim (h1 b) (by omega)) (by omega) (h.bel B' w0 h1 h2 h3)
theorem Gro.of {v : Value} {w w' : World} (hb : Below w.heap.size w w') : Gro v w v w' := ⟨fun b h _ => hb.block b h, fun _ e => .inl e, fun _ _ _ h2 h3 => h3.trans (hb.mono h2)⟩
theorem info9b : (Tryz.prog.info? 9).map (fun i => (i.zero, i.size, i.bytes)) = some (some (.string ⟨#[]⟩), 1, 16) := by kernel_rfl
theorem run_pushS {w : World} {B : Nat} {v : Value} {ns : List ByteArray} {s : ByteArray} (oty : TypeId) (h : OwnS w B v ns) {q : Nat} {tq : TypeId} (hq : w.heap[q]? = some (.cells #[.string s] tq (0, 0))) (hn : ns.length ≤ 1000000) (hB : B ≤ w.heap.size) :
    ∃ A l c w', (Builtin.append_ #[29, 29] oty #[v, .slice (some ⟨q, 0, none⟩) 1 1]).run Tryz.prog w = .ok (.slice A l c) w' ∧ OwnS w' B (.slice A l c) (ns ++ [s]) ∧ Gro v w (.slice A l c) w' := by
  obtain ⟨i0, hi, hz0, hz1, hz2⟩ := info_parts info9b
  obtain ⟨v', w', hr, g2, g3, g4, g5⟩ := run_append_own_at (P := Tryz.prog) w B 29 oty 9 i0 _ 1 16 u25 hi hz0 hz1 hz2 rfl (by decide) v ns.length _ h ⟨q, 0, none⟩ 1 1 [.string s] rfl (fun j u hj => by
      rw [show (Addr.add ⟨q, 0, none⟩ j) = ⟨q, j, none⟩ by rw [Addr.add_mid]; simp, cell_of_row _ _ _ _ _ _ hq]
      simpa using hj) (fun u hu => by simp at hu; subst hu; rfl) (by unfold maxLen; omega) (by omega) hB
  have hO : OwnS w' B v' (ns ++ [s]) := by unfold OwnS; simpa using g2
  obtain ⟨A', l', c', rfl, -⟩ := hO.tx
  refine ⟨A', l', c', w', hr, hO, fun b hb hne => g3.block b hb (fun e => hne e.symm), fun b e => ?_, fun B' w0 hb1 hb2 hb => hb.grown g3 hb2 hb1⟩
  rcases g5 with e5 | e5
  · rw [e5] at e; exact .inl e
  · rw [e5] at e; simp at e; exact .inr (by omega)
theorem run_bsS (s : ByteArray) (w : World) : (Instr.buildSlice 29 1 #[(0, .string s)]).run Tryz.prog w = .ok (.slice (some ⟨w.heap.size, 0, none⟩) 1 1) (w.alloc (.cells #[.string s] 9)) := by kernel_rfl
section
variable {ops : Array Oper} {rest : List Oper} {o : Oper} {dst : Option Tmp} {ty' : TypeId} {x : Operand} {pos : String} {after : Array Edge} {a : Act} {w : World} {Q : Exit → Act → World → Prop}
theorem wl_bsS {s : ByteArray} (hx : a.eval x = .string s)
    (h : ∀ W p, Below w.heap.size w W → w.heap.size ≤ p → W.heap[p]? = some (.cells #[.string s] 9 (0, 0)) → wpList Tryz.prog ops Q rest (a.put dst (.slice (some ⟨p, 0, none⟩) 1 1)) W) :
    wpList Tryz.prog ops Q (⟨dst, .buildSlice 29 1 #[(0, x)], ty', pos, after, none⟩ :: rest) a w :=
  wl_w rfl (by unfold execOp; simp [hx, run_bsS s w, Result.andThen]) (h _ _ ((Below.refl _ w).alloc (Nat.le_refl _) _) (Nat.le_refl _) (ha_new rfl))
theorem wl_pushS (hg : o.guard = none) (s x : Operand) (ho : o.op = .call { callee := .builtin .append, args := #[s, x], argTypes := #[29, 29] }) {B : Nat} {v : Value} {ns : List ByteArray} {t : ByteArray} {q : Nat} {tq : TypeId}
    (hs : a.eval s = v) (hx : a.eval x = .slice (some ⟨q, 0, none⟩) 1 1) (h : OwnS w B v ns) (hq : w.heap[q]? = some (.cells #[.string t] tq (0, 0))) (hn : ns.length ≤ 1000000) (hB : B ≤ w.heap.size)
    (hK : ∀ A l c w', OwnS w' B (.slice A l c) (ns ++ [t]) → Gro v w (.slice A l c) w' → wpList Tryz.prog ops Q rest (a.put o.dst (.slice A l c)) w') : wpList Tryz.prog ops Q (o :: rest) a w := by
  obtain ⟨A, l, c, w', hr, h2, h3⟩ := run_pushS o.type h hq hn hB
  refine wl_w hg ?_ (hK A l c w' h2 h3)
  unfold execOp
  simp only [ho, resolve, invoke, builtin, Sem.run_bind, Sem.run_pure, Result.andThen_ok, List.map_toArray, List.map_cons, List.map_nil, hs, hx, hr]
end
/-- Names put in one after the other, none twice. -/
structure Adds (ns ns' l : List ByteArray) : Prop where
  mem : ∀ x, x ∈ ns' ↔ x ∈ ns ∨ x ∈ l
  nod : ns.Nodup → ns'.Nodup
theorem Adds.nil (ns : List ByteArray) : Adds ns ns [] := ⟨fun x => by simp, fun h => h⟩
theorem Adds.trans {ns n1 n2 l m : List ByteArray} (h : Adds ns n1 l) (g : Adds n1 n2 m) : Adds ns n2 (l ++ m) := ⟨fun x => by rw [g.mem, h.mem]; simp [or_assoc], fun hn => g.nod (h.nod hn)⟩
theorem Adds.new {ns : List ByteArray} {s : ByteArray} (h : s ∉ ns) : Adds ns (ns ++ [s]) [s] := ⟨fun x => by simp, fun hn => by
  rw [List.nodup_append]
  refine ⟨hn, by simp, fun a ha b hb => ?_⟩
  simp at hb; subst hb
  exact fun e => h (e ▸ ha)⟩
theorem Adds.had {ns : List ByteArray} {s : ByteArray} (h : s ∈ ns) : Adds ns ns [s] := ⟨fun x => ⟨fun hx => .inl hx, fun hx => hx.elim id fun e => by simp at e; subst e; exact h⟩, fun h => h⟩
theorem idxI_neg (ns : List ByteArray) (s : ByteArray) : idxI ns s < 0 ↔ s ∉ ns := by
  unfold idxI
  cases h : idx ns s with
  | none =>
    unfold idx at h
    rw [List.findIdx?_eq_none_iff] at h
    simp only [Int.reduceNeg, Int.reduceLT, true_iff]
    intro hm
    simpa using h s hm
  | some i =>
    unfold idx at h
    rw [List.findIdx?_eq_some_iff_getElem] at h
    obtain ⟨hl, he, -⟩ := h
    simp at he
    have : s ∈ ns := by rw [← he]; exact List.getElem_mem hl
    constructor
    · intro hh; exact absurd hh (by simp)
    · intro hh; exact absurd this hh
end Go.Proofs.YtokmaehefenpmaaGreatDoor
namespace Go.Proofs.YtokmaehefenpmaaGreatDoor
open Go.RowKit Go.Sort Go.Proofs.YtokmaehefenpmaaGreatDoor.Nm
set_option linter.unusedSimpArgs false
def bytesL (s : ByteArray) : List UInt8 := s.data.toList
def sortedL (ns : List ByteArray) : List (List UInt8) := (ns.map bytesL).mergeSort fun x y => decide (x ≤ y)
/-- The names sorted, each one once. -/
def distinctL (ns : List ByteArray) : List ByteArray := (Lib.compact (sortedL ns)).map fun l => ⟨l.toArray⟩
theorem enc_names (ns : List ByteArray) : (ns.map bytesL).map encStr = ns.map .string := by
  rw [List.map_map]
  apply List.map_congr_left
  intro s _
  cases s
  rfl
theorem enc_back (l : List (List UInt8)) : l.map encStr = (l.map fun l => (⟨l.toArray⟩ : ByteArray)).map .string := by rw [List.map_map]; rfl
theorem compact_le (zs : List (List UInt8)) : (Lib.compact zs).length ≤ zs.length := by
  unfold Lib.compact Lib.compactUpTo
  rw [List.length_map]
  exact Nat.le_trans (List.length_filter_le _ _) (by simp)
theorem distinct_le (ns : List ByteArray) : (distinctL ns).length ≤ ns.length := by
  unfold distinctL
  rw [List.length_map]
  refine Nat.le_trans (compact_le _) ?_
  simp [sortedL]
theorem distinct_nil : distinctL [] = [] := List.length_eq_zero_iff.1 (by have := distinct_le []; simpa using this)
/-- The first elements of a row of the call's own. -/
theorem ownsRow_cut {w : World} {B g n m cap : Nat} {e : TypeId} {xs : List Value} (h : w.ownsRow B e 1 (.slice (some ⟨g, 0, none⟩) n cap) n xs) (hm : m ≤ n) : w.ownsRow B e 1 (.slice (some ⟨g, 0, none⟩) m cap) m (xs.take m) := by
  obtain ⟨h1, h2⟩ := h
  rcases h2 with ⟨h2, -⟩ | ⟨g', cap', cur, e1, hB, hg, hc, hm2, hs, ht⟩
  · cases h2
  · cases e1
    refine ⟨by simp; omega, .inr ⟨g, cap, cur, rfl, hB, hg, by omega, hm2, hs, ?_⟩⟩
    rw [Nat.mul_one] at ht ⊢
    rw [← ht, List.take_take, Nat.min_eq_left hm]
theorem Keep.grown {C : Nat → Prop} {w w' : World} {row : Option Nat} (h : w.grownBy w' row) (hC : ∀ b, row = some b → C b) : Keep C w w' := ⟨h.os, h.tape, h.output, h.size, fun b hb hn => h.block b hb (fun e => hn (hC b e.symm))⟩
/-- What distinct hands back: its argument's row turned. -/
def DPost (B : Nat) (v : Value) (ns : List ByteArray) (w : World) (e : Ending) (w' : World) : Prop := ∃ v', e = .returned v' ∧ OwnS w' B v' (distinctL ns) ∧ w.grownBy w' v.ownBlock ∧ ∀ b, v'.ownBlock = some b → v.ownBlock = some b
theorem grownBy_refl (w : World) (r : Option Nat) : w.grownBy w r := ⟨rfl, rfl, rfl, Nat.le_refl _, fun _ _ _ => rfl⟩
theorem grownBy_trans {w w1 w2 : World} {r : Option Nat} (h : w.grownBy w1 r) (g : w1.grownBy w2 r) : w.grownBy w2 r := ⟨g.os.trans h.os, g.tape.trans h.tape, g.output.trans h.output, Nat.le_trans h.size g.size, fun k hk hn => (g.block k (Nat.lt_of_lt_of_le hk h.size) hn).trans (h.block k hk hn)⟩
set_option maxHeartbeats 2000000 in
set_option maxRecDepth 100000 in
theorem distinct_any (B : Nat) (A : Option Addr) (l c : Nat) (ns : List ByteArray) (w : World) (h : OwnS w B (.slice A l c) ns) (hn : ns.length ≤ 1000000) :
    Calls Tryz.prog 27 #[.slice A l c] w (DPost B (.slice A l c) ns w) := by
  rcases h.2 with ⟨hv, h0⟩ | ⟨g, cap, cur, hv, hB, hg, hc, hm, hs, ht⟩
  · cases hv
    obtain rfl : ns = [] := List.length_eq_zero_iff.1 h0
    have HS := Lib.hid (Tryz.slices_Sort_string_none none 0 w)
    have HC := Lib.hid (Tryz.slices_Compact_string_empty none 0 w)
    go_enter Tryz.func27, Tryz.ntmps27
    go_upto_region 1 with (fail)
    apply wp_region_lit
    (with_reducible refine wl_k ?_ ?_); exact rfl; intro K hK; go_simp; refine hK _ ?_; clear hK K
    (with_reducible refine wl_ck ?_ ?_); exact rfl; intro K hK; go_simp; refine ⟨_, _, ⟨rfl, rfl⟩, hK _ _ ⟨_, HS.out, ?_⟩⟩; clear hK K; rintro e w3 ⟨rfl, rfl⟩; refine ⟨_, rfl, ?_⟩; simp only [put_lit, List.set_cons_zero, List.set_cons_succ]
    go_upto_region 2 with (fail)
    apply wp_region_lit
    (with_reducible refine wl_k ?_ ?_); exact rfl; intro K hK; go_simp; refine hK _ ?_; clear hK K
    (with_reducible refine wl_ck ?_ ?_); exact rfl; intro K hK; go_simp; refine ⟨_, _, ⟨rfl, rfl⟩, hK _ _ ⟨_, HC.out, ?_⟩⟩; clear hK K; rintro e w4 ⟨rfl, rfl⟩; refine ⟨_, rfl, ?_⟩; simp only [put_lit, List.set_cons_zero, List.set_cons_succ]
    (with_reducible refine wl_k ?_ ?_); exact rfl; intro K hK; go_simp; refine hK _ ?_; clear hK K
    go_wp2_with fail
    go_ret
    exact ⟨_, rfl, by rw [distinct_nil]; exact OwnS.nil _ _, grownBy_refl _ _, fun b h => h⟩
  · cases hv
    obtain ⟨zs, hzs⟩ : ∃ zs, zs = sortedL ns := ⟨_, rfl⟩
    have hzl : zs.length = ns.length := by rw [hzs]; simp [sortedL]
    rw [Nat.mul_one] at ht hs
    have hH : Holds encStr w g 0 (ns.map bytesL).toArray := holds_of_block hg (by rw [List.length_map, ht, enc_names])
    have hS := Tryz.slices_Sort_string g 0 c (ns.map bytesL) w hH (heap_lt hg) (by rw [List.length_map]; omega)
    rw [List.length_map, show (ns.map bytesL).mergeSort (fun x y => decide (x ≤ y)) = zs by rw [hzs]; rfl] at hS
    have HS : Hid (Calls Tryz.prog 37 #[.slice (some ⟨g, 0, none⟩) ns.length c] w fun e w' => e = .returned (.tuple #[]) ∧ (∃ cur', w'.heap[g]? = some (.cells cur' 9 (0, 0)) ∧ cur'.size = c ∧ cur'.toList.take zs.length = zs.map encStr) ∧ w.grownBy w' (some g)) := Lib.hid (hS.mono fun e w' ⟨he, n, os, hw⟩ => by
      have h1 := ownsRow_sorted (base := B) (os := os) (n := n) (ss := ns.map bytesL) (ts := zs) (by rw [hzl, List.length_map]) hB hg (by rw [List.length_map]; exact hc) hm (by omega)
      have h2 := grownBy_sorted (w := w) (g := g) (n := n) (os := os) zs.toArray
      rw [← hw] at h1 h2
      refine ⟨he, ?_, h2⟩
      rcases h1.2 with ⟨h3, -⟩ | ⟨g', cap', cur', e1, -, hg', -, -, hs', ht'⟩
      · cases h3
      · cases e1
        refine ⟨cur', hg', by omega, ?_⟩
        rw [Nat.mul_one, List.length_map] at ht'
        rw [hzl]; exact ht')
    have hown : ∀ (w1 : World) (cur' : Array Value), w1.heap[g]? = some (.cells cur' 9 (0, 0)) → cur'.size = c → cur'.toList.take zs.length = zs.map encStr → Calls Tryz.prog 38 #[.slice (some ⟨g, 0, none⟩) ns.length c] w1 fun e w' => e = .returned (.slice (some ⟨g, 0, none⟩) (distinctL ns).length c) ∧ OwnS w' B (.slice (some ⟨g, 0, none⟩) (distinctL ns).length c) (distinctL ns) ∧ w1.grownBy w' (some g) := fun w1 cur' hg' hs' ht' => by
      have hK := Tryz.slices_Compact_string g 0 c zs w1 (holds_of_block hg' ht') (by omega) (by omega)
      rw [hzl] at hK
      have hdl : (distinctL ns).length = (Lib.compact zs).length := by rw [hzs]; simp [distinctL]
      refine hK.mono fun e w' ⟨he, q, hw⟩ => ?_
      have hcl := compact_le zs
      have h1 := ownsRow_sorted (w := w1) (base := B) (os := #[]) (n := q) (ss := zs) (ts := Lib.compact zs ++ List.replicate (zs.length - (Lib.compact zs).length) []) (by simp; omega) hB hg' (by omega) hm (by omega)
      have h2 := grownBy_sorted (w := w1) (g := g) (n := q) (os := #[]) (Lib.compact zs ++ List.replicate (zs.length - (Lib.compact zs).length) []).toArray
      rw [grow_empty] at h1 h2
      rw [hzl] at h1 h2
      rw [← hw] at h1 h2
      refine ⟨by rw [he, hdl], ?_, h2⟩
      have h3 := ownsRow_cut h1 (m := (Lib.compact zs).length) (by omega)
      have h4 : (distinctL ns).map Value.string = (Lib.compact zs).map encStr := by rw [enc_back, hzs]; rfl
      unfold OwnS
      rw [h4, hdl]
      rw [List.map_append, List.take_left' (by simp)] at h3
      exact h3
    have HW := Lib.hid hown
    clear hown hS hH hg ht hs hzs h hzl
    go_enter Tryz.func27, Tryz.ntmps27
    go_upto_region 1 with (fail)
    apply wp_region_lit
    (with_reducible refine wl_k ?_ ?_); exact rfl; intro K hK; go_simp; refine hK _ ?_; clear hK K
    (with_reducible refine wl_ck ?_ ?_); exact rfl; intro K hK; go_simp; refine ⟨_, _, ⟨rfl, rfl⟩, hK _ _ ⟨_, HS.out, ?_⟩⟩; clear hK K; rintro e w3 ⟨rfl, ⟨cur3, hg3, hs3, ht3⟩, hgr3⟩; refine ⟨_, rfl, ?_⟩; simp only [put_lit, List.set_cons_zero, List.set_cons_succ]
    have HC := Lib.hid (HW.out w3 cur3 hg3 hs3 ht3)
    have HG := Lib.hid hgr3
    clear hg3 hs3 ht3 hgr3
    clear HS HW
    go_upto_region 2 with (fail)
    apply wp_region_lit
    (with_reducible refine wl_k ?_ ?_); exact rfl; intro K hK; go_simp; refine hK _ ?_; clear hK K
    (with_reducible refine wl_ck ?_ ?_); exact rfl; intro K hK; go_simp; refine ⟨_, _, ⟨rfl, rfl⟩, hK _ _ ⟨_, HC.out, ?_⟩⟩; clear hK K; rintro e w4 ⟨rfl, hown4, hgr4⟩; refine ⟨_, rfl, ?_⟩; simp only [put_lit, List.set_cons_zero, List.set_cons_succ]
    have HO := Lib.hid hown4
    have HG2 := Lib.hid (grownBy_trans HG.out hgr4)
    clear hown4 hgr4
    (with_reducible refine wl_k ?_ ?_); exact rfl; intro K hK; go_simp; refine hK _ ?_; clear hK K
    clear HC HG
    go_wp2_with fail
    go_ret
    exact ⟨_, rfl, HO.out, HG2.out, fun b h => h⟩
end Go.Proofs.YtokmaehefenpmaaGreatDoor
namespace Go.Proofs.YtokmaehefenpmaaGreatDoor
open Go.RowKit Go.Proofs.YtokmaehefenpmaaGreatDoor.Nm
set_option linter.unusedSimpArgs false
theorem info25 : (Tryz.prog.info? 29).map (·.size) = some 1 := by kernel_rfl
theorem ex_alloc25 {o : Oper} (ho : o.op = .alloc 29) (ev : Operand → Value) (w : World) : (execOp ev o).run Tryz.prog w = .ok (.value (.pointer (some ⟨w.heap.size, 0, none⟩))) (w.alloc (.cells #[.slice none 0 0] 29)) := by
  unfold execOp
  simp only [ho]
  kernel_rfl
theorem ent67 : Enters Tryz.prog 26 := enters_of Tryz.func26 (by kernel_rfl) rfl
/-- What is collected at a node. -/
def stepP (t : Ty) (ns : List ByteArray) : Bool × List ByteArray := (true, if t.kind = 7 then ns ++ [t.name] else ns)
theorem Keep.gro {C : Nat → Prop} {v v' : Value} {w w' : World} (h : Gro v w v' w') (hC : ∀ b, v.ownBlock = some b → C b) : Keep C w w' :=
  have hb := h.bel 0 w (fun _ _ => Nat.zero_le _) (Nat.zero_le _) (Below.refl _ _)
  ⟨hb.os, hb.tape, hb.output, hb.size, fun b hlt hn => h.keep b hlt fun e => hn (hC b e)⟩
theorem Below.keep {C : Nat → Prop} {w w1 w2 : World} (h : Below w.heap.size w w1) (hk : Keep C w1 w2) (hC : ∀ b, C b → w.heap.size ≤ b) : Below w.heap.size w w2 :=
  ⟨hk.os.trans h.os, hk.tape.trans h.tape, hk.output.trans h.output, Nat.le_trans h.size hk.size, fun b hb => (hk.block b (Nat.lt_of_lt_of_le hb h.size) (fun hc => by have := hC b hc; omega)).trans (h.block b hb)⟩
set_option maxHeartbeats 2000000 in
set_option maxRecDepth 100000 in
theorem params1_any (z B : Nat) (t : Ty) (w : World) (A : Option Addr) (l c : Nat) (ns : List ByteArray) (C : Nat → Prop) (hz : w.heap[z]? = some (.cells #[.slice A l c] 29 (0, 0))) (ho : OwnS w B (.slice A l c) ns) (hzB : z < B) (hB : B ≤ w.heap.size) (hn : ns.length ≤ 1000) (hCz : C z) (hCo : ∀ b, (Value.slice A l c).ownBlock = some b → C b) (D : Nat → Prop) (row : Array Value) (h : TyAt w D t row) :
    Calls Tryz.prog 26 #[.agg row, .pointer (some ⟨z, 0, none⟩)] w fun e w' => e = .returned (.bool true) ∧ ∃ A' l' c', w'.heap[z]? = some (.cells #[.slice A' l' c'] 29 (0, 0)) ∧ OwnS w' B (.slice A' l' c') (stepP t ns).2 ∧ Keep C w w' ∧ ∀ b, (Value.slice A' l' c').ownBlock = some b → C b ∨ w.heap.size ≤ b := by
  obtain ⟨k, s, n, A1, l1, c1, ts, he, rfl, -⟩ := h.parts
  have HO := Lib.hid ho
  have HCO := Lib.hid hCo
  have HLT := Lib.hid ho.lt
  clear h ho hCo
  have hb := Below.refl w.heap.size w
  go_enter Tryz.func26, Tryz.ntmps26
  go_upto_region 0 with (fail)
  apply wp_region_lit
  have lthzp := heap_lt hz; (with_reducible refine wl_box rfl ?_); intro W p hbn hlp hp; replace hz := below_look hbn hz; replace hb := hb.trans (hbn.mono hb.size); clear hbn; simp only [put_lit, List.set_cons_zero, List.set_cons_succ]
  (with_reducible refine wl_k ?_ ?_); exact rfl; intro K hK; go_simp; refine hK _ ?_; clear hK K
  go_upto_region 1 with (fail)
  apply wp_region_lit
  (with_reducible refine wl_k ?_ ?_); exact rfl; intro K hK; go_simp; refine hK _ ?_; clear hK K
  (first | ((with_reducible apply wl_oneG); exact rfl; exact rfl; first | exact f0 (by with_reducible assumption) | exact f1 (by with_reducible assumption) | exact f2 (by with_reducible assumption) | exact f3 (by with_reducible assumption) | with_reducible assumption | exact g22 (by with_reducible assumption) | exact g25 (by with_reducible assumption)) | ((with_reducible apply wl_rowG); exact rfl; exact rfl; first | with_reducible assumption | exact RowK.now (by with_reducible assumption) | exact f4 (by with_reducible assumption)))
  (with_reducible refine wl_k ?_ ?_); exact rfl; intro K hK; go_simp; refine hK _ ?_; clear hK K
  by_cases hk7 : k = 7
  · have e1 : (k == 7) = true := by simp [hk7]
    have HST : Hid ((stepP t ns).2 = ns ++ [s]) := Lib.hid (by rw [he]; simp [stepP, Ty.kind, Ty.name, hk7])
    clear hk7
    go_upto_region 2 with (fail)
    have HOW := Lib.hid (HO.out.old hb)
    apply wp_region_lit
    ((with_reducible apply wl_oneG); exact rfl; exact rfl; exact g25 hz)
    (with_reducible refine wl_k ?_ ?_); exact rfl; intro K hK; go_simp; refine hK _ ?_; clear hK K
    (first | ((with_reducible apply wl_oneG); exact rfl; exact rfl; first | exact f0 (by with_reducible assumption) | exact f1 (by with_reducible assumption) | exact f2 (by with_reducible assumption) | exact f3 (by with_reducible assumption) | with_reducible assumption | exact g22 (by with_reducible assumption) | exact g25 (by with_reducible assumption)) | ((with_reducible apply wl_rowG); exact rfl; exact rfl; first | with_reducible assumption | exact RowK.now (by with_reducible assumption) | exact f4 (by with_reducible assumption)))
    have lthzq := heap_lt hz; have lthpq := heap_lt hp; (with_reducible refine wl_bsS rfl ?_); intro W1 q hbn hlq hq; replace hz := below_look hbn hz; replace hp := below_look hbn hp; replace hb := hb.trans (hbn.mono hb.size); clear hbn; simp only [put_lit, List.set_cons_zero, List.set_cons_succ]
    replace HOW := Lib.hid (HO.out.old hb)
    refine wl_pushS rfl _ _ rfl rfl rfl HOW.out hq (by omega) (by have := hb.size; omega) ?_
    intro A9 l9 c9 w9 hown hgro
    have hzn : (Value.slice A l c).ownBlock ≠ some z := fun e => by have := (HLT.out z e).1; omega
    have hzg := (hgro.keep z (heap_lt hz) hzn).trans hz
    have HK := Lib.hid ((Keep.of (C := C) hb).trans (C' := C) (fun b h => Or.inl h) (Keep.gro hgro HCO.out))
    have HG := Lib.hid (show ∀ b, (Value.slice A9 l9 c9).ownBlock = some b → C b ∨ w.heap.size ≤ b from fun b e => (hgro.own b e).imp (HCO.out b) (fun h => by have := hb.size; omega))
    have HN := Lib.hid hown
    have hzz : (Value.slice A9 l9 c9).ownBlock ≠ some z := fun e => by have := (hown.lt z e).1; omega
    clear hown hgro hz hp hq
    simp only [put_lit, List.set_cons_zero, List.set_cons_succ]
    (with_reducible refine wl_put1 (v := .slice A9 l9 c9) info25 ?_ ?_ ?_ hzg ?_); exact rfl; exact rfl; exact rfl; rw [put_noneA]; intro W3 hbx hsz hkx hnx; clear hzg; have hzg := hnx; clear hnx
    have HK3 := Lib.hid (HK.out.trans (C' := C) (fun b h => Or.inl h) (w2 := W3) ⟨(hbx 0 w9 (Nat.zero_le _) (Below.refl _ _)).os, (hbx 0 w9 (Nat.zero_le _) (Below.refl _ _)).tape, (hbx 0 w9 (Nat.zero_le _) (Below.refl _ _)).output, (hbx 0 w9 (Nat.zero_le _) (Below.refl _ _)).size, fun b _ hn => hkx b (fun e => hn (by rw [e]; exact hCz))⟩)
    have HN3 : Hid (OwnS W3 B (.slice A9 l9 c9) (ns ++ [s])) := Lib.hid (own_same HN.out fun q _ e => hkx q (fun e2 => hzz (by rw [← e2]; exact e)))
    have HZ := Lib.hid hzg
    clear hbx hkx hsz hzg HN HK HOW
    go_wp2_with fail
    go_ret
    exact ⟨rfl, _, _, _, HZ.out, by rw [HST.out]; exact HN3.out, HK3.out, HG.out⟩
  · have e1 : (k == 7) = false := by simp [hk7]
    have HST : Hid ((stepP t ns).2 = ns) := Lib.hid (by rw [he]; simp [stepP, Ty.kind, hk7])
    clear hk7
    have HZ := Lib.hid hz
    clear hz hp
    go_wp2_with fail
    go_ret
    exact ⟨rfl, _, _, _, HZ.out, by rw [HST.out]; exact HO.out.old hb, Keep.of hb, fun b e => .inl (HCO.out b e)⟩
/-- The collected names, their variable. -/
def InvP (z B : Nat) (w : World) (C : Nat → Prop) (ns : List ByteArray) : Prop :=
  ∃ A l c, w.heap[z]? = some (.cells #[.slice A l c] 29 (0, 0)) ∧ OwnS w B (.slice A l c) ns ∧ z < B ∧ B ≤ w.heap.size ∧ ∀ b, C b ↔ b = z ∨ (Value.slice A l c).ownBlock = some b
theorem visit_len : ∀ (t : Ty) (ns : List ByteArray), (visit stepP t ns).1 = true ∧ (visit stepP t ns).2.length ≤ ns.length + t.nodes := Ty.ind fun k s n l ih ns => by
  have hl : ∀ (l : List Ty), (∀ t, t ∈ l → ∀ ns, (visit stepP t ns).1 = true ∧ (visit stepP t ns).2.length ≤ ns.length + t.nodes) → ∀ ns, (visits stepP l ns).1 = true ∧ (visits stepP l ns).2.length ≤ ns.length + nodesL l := by
    intro l
    induction l with
    | nil => intro _ ns; simp [visits, nodesL]
    | cons t l ihl =>
      intro h ns
      obtain ⟨h1, h2⟩ := h t (by simp) ns
      simp only [visits, nodesL]
      cases hv : visit stepP t ns with
      | mk b x =>
        rw [hv] at h1 h2
        cases h1
        obtain ⟨g1, g2⟩ := ihl (fun t ht => h t (by simp [ht])) x
        exact ⟨g1, by simp only at h2 ⊢; omega⟩
  have hs : stepP (.node k s n l) ns = (true, (stepP (.node k s n l) ns).2) := rfl
  have hs2 : (stepP (.node k s n l) ns).2.length ≤ ns.length + 1 := by
    unfold stepP
    simp only
    split <;> simp
  simp only [visit]
  rw [hs]
  obtain ⟨g1, g2⟩ := hl l ih (stepP (.node k s n l) ns).2
  exact ⟨g1, by simp only [Ty.nodes]; omega⟩
theorem visC_params (z B : Nat) : VisC2 (fun t (s : List ByteArray) => s.length + t.nodes ≤ 1000) (fun l s => s.length + nodesL l ≤ 1000) 26 #[.pointer (some ⟨z, 0, none⟩)] stepP (InvP z B) where
  ent := ent67
  low := fun w C s hI b hb => by
    obtain ⟨A, l, c, h1, h2, h3, h4, h5⟩ := hI
    rcases (h5 b).1 hb with rfl | e
    · exact heap_lt h1
    · exact (h2.lt b e).2
  keep := fun w C s hI w' hb => by
    obtain ⟨A, l, c, h1, h2, h3, h4, h5⟩ := hI
    exact ⟨A, l, c, below_look hb h1, h2.old hb, h3, Nat.le_trans h4 hb.size, h5⟩
  sub := fun k s n l st h _ => by
    have : (stepP (.node k s n l) st).2.length ≤ st.length + 1 := by
      unfold stepP
      simp only
      split <;> simp
    simp only [Ty.nodes] at h
    show _ + _ ≤ _
    omega
  one := fun t l st h => by simp only [nodesL] at h; show _ + _ ≤ _; omega
  next := fun t l st h _ => by
    have := (visit_len t st).2
    simp only [nodesL] at h
    show _ + _ ≤ _
    omega
  run := fun w C s hI t hq D row h _ => by
    obtain ⟨A, l, c, h1, h2, h3, h4, h5⟩ := hI
    refine (params1_any z B t w A l c s C h1 h2 h3 h4 (by have : s.length + t.nodes ≤ 1000 := hq; omega) ((h5 z).2 (.inl rfl)) (fun b e => (h5 b).2 (.inr e)) D row h).mono ?_
    rintro e w' ⟨rfl, A', l', c', g1, g2, g3, g4⟩
    refine ⟨rfl, fun b => b = z ∨ (Value.slice A' l' c').ownBlock = some b, fun _ => ⟨A', l', c', g1, g2, h3, Nat.le_trans h4 g3.size, fun b => Iff.rfl⟩, g3, fun b hb => ?_⟩
    rcases hb with rfl | hb
    · exact .inl ((h5 b).2 (.inl rfl))
    · exact g4 b hb
/-- The names of a tree's parameters, in the order in which its nodes are seen. -/
def namesOf (t : Ty) : List ByteArray := (visit stepP t []).2
set_option maxHeartbeats 2000000 in
set_option maxRecDepth 100000 in
theorem Params_any (t : Ty) (hnd : t.nodes ≤ 900) (w : World) (D : Nat → Prop) (row : Array Value) (h : TyAt w D t row) :
    Calls Tryz.prog 14 #[.agg row] w fun e w' => ∃ A l c, e = .returned (.slice A l c) ∧ TxAt w' (distinctL (namesOf t)) A l c ∧ Below w.heap.size w w' := by
  have hmf : ∀ (fn : Fn) (first cap : Array Value) (w : World), (Instr.makeFunc fn first cap).run Tryz.prog w = .ok (.func fn first cap) w := fun _ _ _ _ => rfl
  have HT := Lib.hid h
  obtain ⟨k, s, n, A, l, c, ts, he, rfl, -⟩ := h.parts
  clear h he
  have hb := Below.refl w.heap.size w
  go_enter Tryz.func14, Tryz.ntmps14
  go_upto_region 0 with (fail)
  apply wp_region_lit
  (with_reducible refine wl_box rfl ?_); intro W p hbn hlp hp; replace hb := hb.trans (hbn.mono hb.size); clear hbn; simp only [put_lit, List.set_cons_zero, List.set_cons_succ]
  (with_reducible refine wl_k ?_ ?_); exact rfl; intro K hK; go_simp; refine hK _ ?_; clear hK K
  have hlW := hb.size
  go_upto_region 1 with (fail)
  apply wp_region_lit
  refine wl_new (z := #[.slice none 0 0]) (fun ev w => ex_alloc25 rfl ev w) ?_
  intro W2 z hbn hlz hz
  replace hp := below_look hbn hp; replace hb := hb.trans (hbn.mono hb.size); clear hbn
  simp only [put_lit, List.set_cons_zero, List.set_cons_succ]
  have hlt := heap_lt hz
  have hlw := hb.size
  have hlp' := heap_lt hp
  have HC := Lib.hid (each_any2 (visC_params z W2.heap.size) t W2 (fun b => b = z) [] (by show _ + _ ≤ _; simp; omega) (fun b => D b ∧ b < w.heap.size) (cell4 k s n A l c) ⟨none, 0, 0, hz, OwnS.nil _ _, hlt, Nat.le_refl _, fun b => by simp [Value.ownBlock]⟩ (HT.out.low.old hb) (fun b hD hc => by have := hD.2; omega))
  rw [show visit stepP t [] = (true, namesOf t) from Prod.ext (visit_len t []).1 rfl] at HC
  have HNL : Hid ((namesOf t).length ≤ 1000000) := Lib.hid (by have := (visit_len t []).2; unfold namesOf; simp at this; omega)
  go_upto_region 2 with (fail)
  apply wp_region_lit
  (first | ((with_reducible apply wl_oneG); exact rfl; exact rfl; first | exact f0 (by with_reducible assumption) | exact f1 (by with_reducible assumption) | exact f2 (by with_reducible assumption) | exact f3 (by with_reducible assumption) | with_reducible assumption | exact g22 (by with_reducible assumption) | exact g25 (by with_reducible assumption)) | ((with_reducible apply wl_rowG); exact rfl; exact rfl; first | with_reducible assumption | exact RowK.now (by with_reducible assumption) | exact f4 (by with_reducible assumption)))
  (with_reducible refine wl_k ?_ ?_); exact rfl; intro K hK; go_simp; refine hK _ ?_; clear hK K
  (with_reducible refine wl_ck ?_ ?_); exact rfl; intro K hK; go_simp; refine ⟨_, _, ⟨rfl, rfl⟩, hK _ _ ⟨_, HC.out, ?_⟩⟩; clear hK K; rintro e w7 ⟨rfl, C7, hI7, hk7, hC7⟩; refine ⟨_, rfl, ?_⟩; simp only [put_lit, List.set_cons_zero, List.set_cons_succ]
  obtain ⟨A7, l7, c7, hz7, ho7, -, -, -⟩ := hI7 rfl
  have HO7 := Lib.hid ho7
  have HB7 := Lib.hid (Below.keep hb hk7 (fun b (h : b = z) => by omega))
  clear hI7 hk7 hC7 ho7 hp hz
  clear HC
  have HC := Lib.hid (distinct_any W2.heap.size A7 l7 c7 (namesOf t) w7 HO7.out HNL.out)
  go_upto_region 3 with (fail)
  apply wp_region_lit
  ((with_reducible apply wl_oneG); exact rfl; exact rfl; exact g25 hz7)
  (with_reducible refine wl_ck ?_ ?_); exact rfl; intro K hK; go_simp; refine ⟨_, _, ⟨rfl, rfl⟩, hK _ _ ⟨_, HC.out, ?_⟩⟩; clear hK K; rintro e w8 ⟨v8, rfl, hown8, hgr8, -⟩; refine ⟨_, rfl, ?_⟩; simp only [put_lit, List.set_cons_zero, List.set_cons_succ]
  obtain ⟨A8, l8, c8, rfl, htx8⟩ := hown8.tx
  have HTX := Lib.hid htx8
  have HB8 := Lib.hid (Below.grown HB7.out hgr8 (by have := HB7.out.size; omega) (fun b e => by have := (HO7.out.lt b e).1; omega))
  clear hown8 hgr8 htx8 hz7
  (with_reducible refine wl_k ?_ ?_); exact rfl; intro K hK; go_simp; refine hK _ ?_; clear hK K
  clear HC
  go_wp2_with fail
  go_ret
  exact ⟨_, _, _, rfl, HTX.out, HB8.out⟩
end Go.Proofs.YtokmaehefenpmaaGreatDoor
namespace Go.Proofs.YtokmaehefenpmaaGreatDoor
open Go.RowKit Go.Proofs.YtokmaehefenpmaaGreatDoor.Nm
set_option linter.unusedSimpArgs false
theorem ent148 : Enters Tryz.prog 24 := enters_of Tryz.func24 (by kernel_rfl) rfl
def stepN (_ : Ty) (n : Nat) : Bool × Nat := (true, n + 1)
theorem visit_cnt : ∀ (t : Ty) (n : Nat), visit stepN t n = (true, n + t.nodes) := Ty.ind fun k s n l ih m => by
  have hl : ∀ (l : List Ty), (∀ t, t ∈ l → ∀ n, visit stepN t n = (true, n + t.nodes)) → ∀ n, visits stepN l n = (true, n + nodesL l) := by
    intro l
    induction l with
    | nil => intro _ n; simp [visits, nodesL]
    | cons t l ihl =>
      intro h n
      simp only [visits, nodesL]
      rw [h t (by simp) n]
      simp only
      rw [ihl (fun t ht => h t (by simp [ht]))]
      congr 1; omega
  simp only [visit]
  show visits stepN l (m + 1) = _
  rw [hl l ih, Ty.nodes]
  congr 1; omega
def InvN (z : Nat) (w : World) (C : Nat → Prop) (n : Nat) : Prop := w.heap[z]? = some (.cells #[.int .i64 (n : Int)] 3 (0, 0)) ∧ ∀ b, C b ↔ b = z
set_option maxHeartbeats 2000000 in
set_option maxRecDepth 100000 in
theorem size1_any (z n : Nat) (hn : n ≤ 1000000) (t : Ty) (w : World) (C : Nat → Prop) (hz : w.heap[z]? = some (.cells #[.int .i64 (n : Int)] 3 (0, 0))) (hC : C z) (D : Nat → Prop) (row : Array Value) (h : TyAt w D t row) :
    Calls Tryz.prog 24 #[.agg row, .pointer (some ⟨z, 0, none⟩)] w fun e w' => e = .returned (.bool true) ∧ w'.heap[z]? = some (.cells #[.int .i64 ((n + 1 : Nat) : Int)] 3 (0, 0)) ∧ Keep C w w' := by
  obtain ⟨k, s, m, A, l, c, ts, he, rfl, -⟩ := h.parts
  obtain ⟨n1, hn1⟩ : ∃ n1, n1 = n + 1 := ⟨_, rfl⟩
  rw [← hn1]
  have hnI : (n : Int) + 1 = (n1 : Int) := by omega
  have hnw : IntKind.i64.wrap (n1 : Int) = (n1 : Int) := IntWalk.i64_in _ (by omega)
  clear h he hn1
  have hb := Below.refl w.heap.size w
  go_enter Tryz.func24, Tryz.ntmps24
  go_upto_region 0 with (fail)
  apply wp_region_lit
  have lthzp := heap_lt hz; (with_reducible refine wl_box rfl ?_); intro W p hbn hlp hp; replace hz := below_look hbn hz; replace hb := hb.trans (hbn.mono hb.size); clear hbn; simp only [put_lit, List.set_cons_zero, List.set_cons_succ]
  (with_reducible refine wl_k ?_ ?_); exact rfl; intro K hK; go_simp; refine hK _ ?_; clear hK K
  have HKP := Lib.hid (Keep.of (C := C) hb)
  go_upto_region 1 with (fail)
  apply wp_region_lit
  ((with_reducible apply wl_oneG); exact rfl; exact rfl; exact g3 hz)
  simp only [put_lit, List.set_cons_zero, List.set_cons_succ]
  (with_reducible refine wl_k ?_ ?_); exact rfl; intro K hK; go_simp; refine hK _ ?_; clear hK K
  clear hnI hnw
  (with_reducible refine wl_put1 (v := .int .i64 (n1 : Int)) info3 ?_ ?_ ?_ hz ?_); exact rfl; exact rfl; exact rfl; rw [put_noneA]; intro W2 hbx hsz hkx hnx; clear hz; have hz := hnx; clear hnx
  replace HKP := Lib.hid (HKP.out.trans (C' := C) (fun b h => Or.inl h) (w2 := W2) ⟨(hbx 0 W (Nat.zero_le _) (Below.refl _ _)).os, (hbx 0 W (Nat.zero_le _) (Below.refl _ _)).tape, (hbx 0 W (Nat.zero_le _) (Below.refl _ _)).output, (hbx 0 W (Nat.zero_le _) (Below.refl _ _)).size, fun b _ hn => hkx b (fun e => hn (by rw [e]; exact hC))⟩)
  have HZ := Lib.hid hz
  clear hbx hkx hsz hb hz hp
  go_wp2_with fail
  go_ret
  exact ⟨rfl, HZ.out, HKP.out⟩
theorem visC_size (z : Nat) : VisC2 (fun t (n : Nat) => n + t.nodes ≤ 1000000) (fun l n => n + nodesL l ≤ 1000000) 24 #[.pointer (some ⟨z, 0, none⟩)] stepN (InvN z) where
  ent := ent148
  low := fun w C s hI b hb => by rw [(hI.2 b).1 hb]; exact heap_lt hI.1
  keep := fun w C s hI w' hb => ⟨below_look hb hI.1, hI.2⟩
  sub := fun k s n l st h _ => by
    simp only [Ty.nodes] at h
    show _ + _ ≤ _
    simp only [stepN]; omega
  one := fun t l st h => by simp only [nodesL] at h; show _ + _ ≤ _; omega
  next := fun t l st h _ => by
    rw [visit_cnt]
    simp only [nodesL] at h
    show _ + _ ≤ _
    simp only; omega
  run := fun w C s hI t hq D row h _ => by
    refine (size1_any z s (by have : s + t.nodes ≤ 1000000 := hq; omega) t w C hI.1 ((hI.2 z).2 rfl) D row h).mono ?_
    rintro e w' ⟨rfl, g1, g2⟩
    exact ⟨rfl, C, fun _ => ⟨g1, hI.2⟩, g2, fun b h => Or.inl h⟩
set_option maxHeartbeats 2000000 in
set_option maxRecDepth 100000 in
theorem Size_any (t : Ty) (hnd : t.nodes ≤ 1000000) (w : World) (D : Nat → Prop) (row : Array Value) (h : TyAt w D t row) :
    Calls Tryz.prog 9 #[.agg row] w fun e w' => e = .returned (.int .i64 (t.nodes : Int)) ∧ Below w.heap.size w w' := by
  have hmf : ∀ (fn : Fn) (first cap : Array Value) (w : World), (Instr.makeFunc fn first cap).run Tryz.prog w = .ok (.func fn first cap) w := fun _ _ _ _ => rfl
  have HT := Lib.hid h
  obtain ⟨k, s, n, A, l, c, ts, he, rfl, -⟩ := h.parts
  obtain ⟨N, hN⟩ : ∃ N, N = t.nodes := ⟨_, rfl⟩
  rw [← hN]
  have HN := Lib.hid hN
  clear h he hN
  have hb := Below.refl w.heap.size w
  go_enter Tryz.func9, Tryz.ntmps9
  go_upto_region 0 with (fail)
  apply wp_region_lit
  (with_reducible refine wl_box rfl ?_); intro W p hbn hlp hp; replace hb := hb.trans (hbn.mono hb.size); clear hbn; simp only [put_lit, List.set_cons_zero, List.set_cons_succ]
  (with_reducible refine wl_k ?_ ?_); exact rfl; intro K hK; go_simp; refine hK _ ?_; clear hK K
  have hlW := hb.size
  go_upto_region 1 with (fail)
  apply wp_region_lit
  have lthpz := heap_lt hp; (with_reducible refine wl_all3 ?_); intro W2 z hbn hlz hz; replace hp := below_look hbn hp; replace hb := hb.trans (hbn.mono hb.size); clear hbn; simp only [put_lit, List.set_cons_zero, List.set_cons_succ]
  (with_reducible refine wl_put1 (v := .int .i64 0) info3 ?_ ?_ ?_ hz ?_); exact rfl; exact rfl; exact rfl; rw [put_noneA]; intro W3 hbx hsz hkx hnx; replace hp := (hkx _ (by omega)).trans hp; replace hb := hbx _ _ (by omega) hb; clear hz; have hz := hnx; clear hnx
  clear hbx hkx hsz
  have hlt := heap_lt hz
  have hz0 : w.heap.size ≤ z := by omega
  have HC := Lib.hid (each_any2 (visC_size z) t W3 (fun b => b = z) 0 (by show _ + _ ≤ _; omega) (fun b => D b ∧ b < w.heap.size) (cell4 k s n A l c) ⟨hz, fun b => Iff.rfl⟩ (HT.out.low.old hb) (fun b hD hc => by have := hD.2; omega))
  rw [visit_cnt, Nat.zero_add, ← HN.out] at HC
  clear hnd
  go_upto_region 2 with (fail)
  apply wp_region_lit
  (first | ((with_reducible apply wl_oneG); exact rfl; exact rfl; first | exact f0 (by with_reducible assumption) | exact f1 (by with_reducible assumption) | exact f2 (by with_reducible assumption) | exact f3 (by with_reducible assumption) | with_reducible assumption | exact g22 (by with_reducible assumption) | exact g25 (by with_reducible assumption)) | ((with_reducible apply wl_rowG); exact rfl; exact rfl; first | with_reducible assumption | exact RowK.now (by with_reducible assumption) | exact f4 (by with_reducible assumption)))
  (with_reducible refine wl_k ?_ ?_); exact rfl; intro K hK; go_simp; refine hK _ ?_; clear hK K
  (with_reducible refine wl_ck ?_ ?_); exact rfl; intro K hK; go_simp; refine ⟨_, _, ⟨rfl, rfl⟩, hK _ _ ⟨_, HC.out, ?_⟩⟩; clear hK K; rintro e w7 ⟨rfl, C7, hI7, hk7, hC7⟩; refine ⟨_, rfl, ?_⟩; simp only [put_lit, List.set_cons_zero, List.set_cons_succ]
  have hz7 := (hI7 rfl).1
  have HB7 := Lib.hid (Below.keep hb hk7 (fun b (h : b = z) => by omega))
  clear hI7 hk7 hC7 hp hz
  clear HC
  go_upto_region 3 with (fail)
  apply wp_region_lit
  ((with_reducible apply wl_oneG); exact rfl; exact rfl; exact g3 hz7)
  (with_reducible refine wl_k ?_ ?_); exact rfl; intro K hK; go_simp; refine hK _ ?_; clear hK K
  clear hz7
  go_wp2_with fail
  go_ret
  exact ⟨rfl, HB7.out⟩
end Go.Proofs.YtokmaehefenpmaaGreatDoor
namespace Go.Proofs
open Go.Shelf
def Tryz.lays189_ren : Go.Shelf.Ren := ⟨fun | 189 => 40 | 125 => 48 | 257 => 49 | 128 => 66 | 129 => 67 | 294 => 68 | 295 => 69 | 296 => 70 | 297 => 71 | 298 => 72 | 299 => 73 | 216 => 74 | 300 => 75 | 301 => 76 | 328 => 85 | 329 => 80 | 330 => 81 | 331 => 86 | 332 => 87 | 215 => 88 | 343 => 92 | n => n, fun | 28 => 32 | 3 => 3 | 46 => 60 | 0 => 0 | 51 => 81 | 53 => 83 | 4 => 4 | 183 => 73 | 182 => 72 | 131 => 78 | 5 => 5 | 9 => 9 | 218 => 90 | 222 => 94 | 228 => 102 | 229 => 103 | n => n, fun | n => n⟩
theorem Tryz.lays189 : Go.Proofs.Lays.n189 Tryz.prog Tryz.lays189_ren := {
  mixed := by kernel_rfl
  f125 := Tryz.func48.trans (congrArg some (by kernel_rfl))
  f128 := Tryz.func66.trans (congrArg some (by kernel_rfl))
  f129 := Tryz.func67.trans (congrArg some (by kernel_rfl))
  f189 := Tryz.func40.trans (congrArg some (by kernel_rfl))
  f215 := Tryz.func88.trans (congrArg some (by kernel_rfl))
  f216 := Tryz.func74.trans (congrArg some (by kernel_rfl))
  f257 := Tryz.func49.trans (congrArg some (by kernel_rfl))
  f294 := Tryz.func68.trans (congrArg some (by kernel_rfl))
  f295 := Tryz.func69.trans (congrArg some (by kernel_rfl))
  f296 := Tryz.func70.trans (congrArg some (by kernel_rfl))
  f297 := Tryz.func71.trans (congrArg some (by kernel_rfl))
  f298 := Tryz.func72.trans (congrArg some (by kernel_rfl))
  f299 := Tryz.func73.trans (congrArg some (by kernel_rfl))
  f300 := Tryz.func75.trans (congrArg some (by kernel_rfl))
  f301 := Tryz.func76.trans (congrArg some (by kernel_rfl))
  f328 := Tryz.func85.trans (congrArg some (by kernel_rfl))
  f329 := Tryz.func80.trans (congrArg some (by kernel_rfl))
  f330 := Tryz.func81.trans (congrArg some (by kernel_rfl))
  f331 := Tryz.func86.trans (congrArg some (by kernel_rfl))
  f332 := Tryz.func87.trans (congrArg some (by kernel_rfl))
  f343 := Tryz.func92.trans (congrArg some (by kernel_rfl))
  t0 := Tryz.underlying0
  a0 := Tryz.isAgg0
  z0 := Tryz.sizeOf0
  v0 := Tryz.zeroValue0
  t3 := Tryz.underlying3
  a3 := Tryz.isAgg3
  z3 := Tryz.sizeOf3
  v3 := Tryz.zeroValue3
  t4 := Tryz.underlying4
  a4 := Tryz.isAgg4
  z4 := Tryz.sizeOf4
  v4 := Tryz.zeroValue4
  t5 := Tryz.underlying5
  a5 := Tryz.isAgg5
  z5 := Tryz.sizeOf5
  v5 := Tryz.zeroValue5
  t9 := Tryz.underlying9
  a9 := Tryz.isAgg9
  z9 := Tryz.sizeOf9
  v9 := Tryz.zeroValue9
  t28 := Tryz.underlying32
  a28 := Tryz.isAgg32
  z28 := Tryz.sizeOf32
  v28 := Tryz.zeroValue32
  t46 := Tryz.underlying60
  a46 := Tryz.isAgg60
  z46 := Tryz.sizeOf60
  v46 := Tryz.zeroValue60
  t51 := Tryz.underlying81
  a51 := Tryz.isAgg81
  z51 := Tryz.sizeOf81
  v51 := Tryz.zeroValue81
  t53 := Tryz.underlying83
  a53 := Tryz.isAgg83
  z53 := Tryz.sizeOf83
  v53 := Tryz.zeroValue83
  t131 := Tryz.underlying78
  a131 := Tryz.isAgg78
  z131 := Tryz.sizeOf78
  v131 := Tryz.zeroValue78
  t182 := Tryz.underlying72
  a182 := Tryz.isAgg72
  z182 := Tryz.sizeOf72
  v182 := Tryz.zeroValue72
  t183 := Tryz.underlying73
  a183 := Tryz.isAgg73
  z183 := Tryz.sizeOf73
  v183 := Tryz.zeroValue73
  t218 := Tryz.underlying90
  a218 := Tryz.isAgg90
  z218 := Tryz.sizeOf90
  v218 := Tryz.zeroValue90
  t222 := Tryz.underlying94
  a222 := Tryz.isAgg94
  z222 := Tryz.sizeOf94
  v222 := Tryz.zeroValue94
  t228 := Tryz.underlying102
  a228 := Tryz.isAgg102
  z228 := Tryz.sizeOf102
  v228 := Tryz.zeroValue102
  t229 := Tryz.underlying103
  a229 := Tryz.isAgg103
  z229 := Tryz.sizeOf103
  v229 := Tryz.zeroValue103 }
open Go.Sort Go.RowKit in
theorem Tryz.slices_Sort_int (blk off cap : Nat) (zs : List Int) (w : World) (hH : Holds (Value.int .i64) w blk off zs.toArray) (hblk : blk < w.heap.size) (hsz : zs.length < 4611686018427387904) :
    Calls Tryz.prog 40 #[.slice (some ⟨blk, off, none⟩) zs.length cap] w fun e w' =>
      e = .returned (.tuple #[]) ∧ ∃ n os, w' = grow (putRow (Value.int .i64) (Sort.ahead w n) blk off (zs.mergeSort fun x y => decide (x ≤ y)).toArray) os := Any.slices_Sort_int Tryz.lays189 blk off cap zs w hH hblk hsz
open Go.Lib in
open Go.Lib in
def Tryz.laysNm220_ren : Go.Shelf.Ren := ⟨fun | 20 => 41 | n => n, fun | 22 => 32 | 3 => 3 | 4 => 4 | 0 => 0 | n => n, fun | n => n⟩
theorem Tryz.laysNm220 : Go.Proofs.Lays2.n20 Tryz.prog Tryz.laysNm220_ren := {
  mixed := by kernel_rfl
  f20 := Tryz.func41.trans (congrArg some (by kernel_rfl))
  t0 := Tryz.underlying0
  a0 := Tryz.isAgg0
  z0 := Tryz.sizeOf0
  v0 := Tryz.zeroValue0
  t3 := Tryz.underlying3
  a3 := Tryz.isAgg3
  z3 := Tryz.sizeOf3
  v3 := Tryz.zeroValue3
  t4 := Tryz.underlying4
  a4 := Tryz.isAgg4
  z4 := Tryz.sizeOf4
  v4 := Tryz.zeroValue4
  t22 := Tryz.underlying32
  a22 := Tryz.isAgg32
  z22 := Tryz.sizeOf32
  v22 := Tryz.zeroValue32
  i3 := by kernel_rfl }
open Go.RowKit Go.Lib Go.Sort in
theorem Tryz.slices_Compact_int (blk off cap : Nat) (zs : List Int) (w : World) (hH : Holds (Value.int .i64) w blk off zs.toArray) (hsz : zs.length ≤ 9223372036854775807) (hcap : zs.length ≤ cap) :
    Calls Tryz.prog 41 #[.slice (some ⟨blk, off, none⟩) zs.length cap] w fun e w' => e = .returned (.slice (some ⟨blk, off, none⟩) (Lib.compact zs).length cap) ∧ ∃ q, w' = putRow (Value.int .i64) (Sort.ahead w q) blk off (Lib.compact zs ++ List.replicate (zs.length - (Lib.compact zs).length) 0).toArray := Any.slices_Compact_int Tryz.laysNm220 blk off cap zs w hH hsz hcap
open Go.RowKit Go.Lib Go.Sort in
theorem Tryz.slices_Compact_int_empty (a : Option Addr) (cap : Nat) (w : World) :
    Calls Tryz.prog 41 #[.slice a 0 cap] w fun e w' => e = .returned (.slice a 0 cap) ∧ w' = w := Any.slices_Compact_int_empty Tryz.laysNm220 a cap w
theorem Tryz.slices_Sort_int_none (p : Option Addr) (cap : Nat) (w : World) : Calls Tryz.prog 40 #[.slice p 0 cap] w fun e w' => e = .returned (.tuple #[]) ∧ w' = w := Any.slices_Sort_int_none Tryz.lays189 p cap w
end Go.Proofs
namespace Go.Proofs.YtokmaehefenpmaaGreatDoor
open Go.RowKit Go.Sort Go.Proofs.YtokmaehefenpmaaGreatDoor.Nm
set_option linter.unusedSimpArgs false
theorem u61 : Tryz.prog.underlying 32 = some (.slice 3) := by kernel_rfl
/-- A slice of numbers in memory. -/
def IxAt (w : World) (zs : List Int) (A : Option Addr) (l c : Nat) : Prop := zs.length = l ∧ l ≤ c ∧ c ≤ maxLen ∧ ∀ (i : Nat) (z : Int), zs[i]? = some z → ∃ b off, A = some ⟨b, off, none⟩ ∧ w.cell? ⟨b, off + i, none⟩ = some (.int .i64 z)
def OwnI (w : World) (B : Nat) (v : Value) (ns : List Int) : Prop := w.ownsRow B 3 1 v ns.length (ns.map (.int .i64))
theorem OwnI.nil (w : World) (B : Nat) : OwnI w B (.slice none 0 0) [] := World.ownsRow_nil _ _ _ _
theorem OwnI.lt {w : World} {B : Nat} {v : Value} {ns : List Int} (h : OwnI w B v ns) : ∀ b, v.ownBlock = some b → B ≤ b ∧ b < w.heap.size := World.ownsRow.lt h
theorem OwnI.old {w w' : World} {B : Nat} {v : Value} {ns : List Int} (h : OwnI w B v ns) (hb : Below w.heap.size w w') : OwnI w' B v ns := own_same h fun q hq _ => hb.block q hq
theorem OwnI.ix {w : World} {B : Nat} {v : Value} {ns : List Int} (h : OwnI w B v ns) : ∃ A l c, v = .slice A l c ∧ IxAt w ns A l c := by
  rcases h.2 with ⟨rfl, hn⟩ | ⟨g, cap, cur, rfl, hB, hg, hc, hm, hs, hcur⟩
  · have : ns = [] := by cases ns with | nil => rfl | cons => simp at hn
    subst this
    exact ⟨none, 0, 0, rfl, rfl, Nat.le_refl _, Nat.zero_le _, fun i s h => by simp at h⟩
  · refine ⟨_, _, _, rfl, rfl, hc, hm, fun i s hi => ⟨g, 0, rfl, ?_⟩⟩
    have hl : i < ns.length := (List.getElem?_eq_some_iff.1 hi).1
    rw [Nat.zero_add, cell_of_row _ _ _ _ _ _ hg]
    have h2 : (ns.map (Value.int .i64))[i]? = some (.int .i64 s) := by rw [List.getElem?_map, hi]; rfl
    rw [← hcur, List.getElem?_take_of_lt (by omega)] at h2
    simpa using h2
theorem info3b : (Tryz.prog.info? 3).map (fun i => (i.zero, i.size, i.bytes)) = some (some (.int .i64 0), 1, 8) := by kernel_rfl
theorem run_pushI {w : World} {B : Nat} {v : Value} {ns : List Int} {s : Int} (oty : TypeId) (h : OwnI w B v ns) {q : Nat} {tq : TypeId} (hq : w.heap[q]? = some (.cells #[.int .i64 s] tq (0, 0))) (hn : ns.length ≤ 1000000) (hB : B ≤ w.heap.size) :
    ∃ A l c w', (Builtin.append_ #[32, 32] oty #[v, .slice (some ⟨q, 0, none⟩) 1 1]).run Tryz.prog w = .ok (.slice A l c) w' ∧ OwnI w' B (.slice A l c) (ns ++ [s]) ∧ Gro v w (.slice A l c) w' := by
  obtain ⟨i0, hi, hz0, hz1, hz2⟩ := info_parts info3b
  obtain ⟨v', w', hr, g2, g3, g4, g5⟩ := run_append_own_at (P := Tryz.prog) w B 32 oty 3 i0 _ 1 8 u61 hi hz0 hz1 hz2 rfl (by decide) v ns.length _ h ⟨q, 0, none⟩ 1 1 [.int .i64 s] rfl (fun j u hj => by
      rw [show (Addr.add ⟨q, 0, none⟩ j) = ⟨q, j, none⟩ by rw [Addr.add_mid]; simp, cell_of_row _ _ _ _ _ _ hq]
      simpa using hj) (fun u hu => by simp at hu; subst hu; rfl) (by unfold maxLen; omega) (by omega) hB
  have hO : OwnI w' B v' (ns ++ [s]) := by unfold OwnI; simpa using g2
  obtain ⟨A', l', c', rfl, -⟩ := hO.ix
  refine ⟨A', l', c', w', hr, hO, fun b hb hne => g3.block b hb (fun e => hne e.symm), fun b e => ?_, fun B' w0 hb1 hb2 hb => hb.grown g3 hb2 hb1⟩
  rcases g5 with e5 | e5
  · rw [e5] at e; exact .inl e
  · rw [e5] at e; simp at e; exact .inr (by omega)
theorem run_bsI (s : Int) (w : World) : (Instr.buildSlice 32 1 #[(0, .int .i64 s)]).run Tryz.prog w = .ok (.slice (some ⟨w.heap.size, 0, none⟩) 1 1) (w.alloc (.cells #[.int .i64 s] 3)) := by kernel_rfl
section
variable {ops : Array Oper} {rest : List Oper} {o : Oper} {dst : Option Tmp} {ty' : TypeId} {x : Operand} {pos : String} {after : Array Edge} {a : Act} {w : World} {Q : Exit → Act → World → Prop}
theorem wl_bsI {s : Int} (hx : a.eval x = .int .i64 s)
    (h : ∀ W p, Below w.heap.size w W → w.heap.size ≤ p → W.heap[p]? = some (.cells #[.int .i64 s] 3 (0, 0)) → wpList Tryz.prog ops Q rest (a.put dst (.slice (some ⟨p, 0, none⟩) 1 1)) W) :
    wpList Tryz.prog ops Q (⟨dst, .buildSlice 32 1 #[(0, x)], ty', pos, after, none⟩ :: rest) a w :=
  wl_w rfl (by unfold execOp; simp [hx, run_bsI s w, Result.andThen]) (h _ _ ((Below.refl _ w).alloc (Nat.le_refl _) _) (Nat.le_refl _) (ha_new rfl))
theorem wl_pushI (hg : o.guard = none) (s x : Operand) (ho : o.op = .call { callee := .builtin .append, args := #[s, x], argTypes := #[32, 32] }) {B : Nat} {v : Value} {ns : List Int} {t : Int} {q : Nat} {tq : TypeId}
    (hs : a.eval s = v) (hx : a.eval x = .slice (some ⟨q, 0, none⟩) 1 1) (h : OwnI w B v ns) (hq : w.heap[q]? = some (.cells #[.int .i64 t] tq (0, 0))) (hn : ns.length ≤ 1000000) (hB : B ≤ w.heap.size)
    (hK : ∀ A l c w', OwnI w' B (.slice A l c) (ns ++ [t]) → Gro v w (.slice A l c) w' → wpList Tryz.prog ops Q rest (a.put o.dst (.slice A l c)) w') : wpList Tryz.prog ops Q (o :: rest) a w := by
  obtain ⟨A, l, c, w', hr, h2, h3⟩ := run_pushI o.type h hq hn hB
  refine wl_w hg ?_ (hK A l c w' h2 h3)
  unfold execOp
  simp only [ho, resolve, invoke, builtin, Sem.run_bind, Sem.run_pure, Result.andThen_ok, List.map_toArray, List.map_cons, List.map_nil, hs, hx, hr]
end
def sortedI (ns : List Int) : List Int := ns.mergeSort fun x y => decide (x ≤ y)
/-- The numbers sorted, each one once. -/
def distinctI (ns : List Int) : List Int := Lib.compact (sortedI ns)
theorem compactI_le (zs : List Int) : (Lib.compact zs).length ≤ zs.length := by
  unfold Lib.compact Lib.compactUpTo
  rw [List.length_map]
  exact Nat.le_trans (List.length_filter_le _ _) (by simp)
theorem distinctI_le (ns : List Int) : (distinctI ns).length ≤ ns.length := by
  unfold distinctI
  refine Nat.le_trans (compactI_le _) ?_
  simp [sortedI]
theorem distinctI_nil : distinctI [] = [] := List.length_eq_zero_iff.1 (by have := distinctI_le []; simpa using this)
/-- What distinct hands back: its argument's row turned. -/
def DPostI (B : Nat) (v : Value) (ns : List Int) (w : World) (e : Ending) (w' : World) : Prop := ∃ v', e = .returned v' ∧ OwnI w' B v' (distinctI ns) ∧ w.grownBy w' v.ownBlock ∧ ∀ b, v'.ownBlock = some b → v.ownBlock = some b
set_option maxHeartbeats 2000000 in
set_option maxRecDepth 100000 in
theorem distinctI_any (B : Nat) (A : Option Addr) (l c : Nat) (ns : List Int) (w : World) (h : OwnI w B (.slice A l c) ns) (hn : ns.length ≤ 1000000) :
    Calls Tryz.prog 30 #[.slice A l c] w (DPostI B (.slice A l c) ns w) := by
  rcases h.2 with ⟨hv, h0⟩ | ⟨g, cap, cur, hv, hB, hg, hc, hm, hs, ht⟩
  · cases hv
    obtain rfl : ns = [] := List.length_eq_zero_iff.1 h0
    have HS := Lib.hid (Tryz.slices_Sort_int_none none 0 w)
    have HC := Lib.hid (Tryz.slices_Compact_int_empty none 0 w)
    go_enter Tryz.func30, Tryz.ntmps30
    go_upto_region 1 with (fail)
    apply wp_region_lit
    (with_reducible refine wl_k ?_ ?_); exact rfl; intro K hK; go_simp; refine hK _ ?_; clear hK K
    (with_reducible refine wl_ck ?_ ?_); exact rfl; intro K hK; go_simp; refine ⟨_, _, ⟨rfl, rfl⟩, hK _ _ ⟨_, HS.out, ?_⟩⟩; clear hK K; rintro e w3 ⟨rfl, rfl⟩; refine ⟨_, rfl, ?_⟩; simp only [put_lit, List.set_cons_zero, List.set_cons_succ]
    go_upto_region 2 with (fail)
    apply wp_region_lit
    (with_reducible refine wl_k ?_ ?_); exact rfl; intro K hK; go_simp; refine hK _ ?_; clear hK K
    (with_reducible refine wl_ck ?_ ?_); exact rfl; intro K hK; go_simp; refine ⟨_, _, ⟨rfl, rfl⟩, hK _ _ ⟨_, HC.out, ?_⟩⟩; clear hK K; rintro e w4 ⟨rfl, rfl⟩; refine ⟨_, rfl, ?_⟩; simp only [put_lit, List.set_cons_zero, List.set_cons_succ]
    (with_reducible refine wl_k ?_ ?_); exact rfl; intro K hK; go_simp; refine hK _ ?_; clear hK K
    go_wp2_with fail
    go_ret
    exact ⟨_, rfl, by rw [distinctI_nil]; exact OwnI.nil _ _, grownBy_refl _ _, fun b h => h⟩
  · cases hv
    obtain ⟨zs, hzs⟩ : ∃ zs, zs = sortedI ns := ⟨_, rfl⟩
    have hzl : zs.length = ns.length := by rw [hzs]; simp [sortedI]
    rw [Nat.mul_one] at ht hs
    have hH : Holds (Value.int .i64) w g 0 ns.toArray := holds_of_blockI hg ht
    have hS := Tryz.slices_Sort_int g 0 c ns w hH (heap_lt hg) (by omega)
    rw [show ns.mergeSort (fun x y => decide (x ≤ y)) = zs by rw [hzs]; rfl] at hS
    have HS : Hid (Calls Tryz.prog 40 #[.slice (some ⟨g, 0, none⟩) ns.length c] w fun e w' => e = .returned (.tuple #[]) ∧ (∃ cur', w'.heap[g]? = some (.cells cur' 3 (0, 0)) ∧ cur'.size = c ∧ cur'.toList.take zs.length = zs.map (Value.int .i64)) ∧ w.grownBy w' (some g)) := Lib.hid (hS.mono fun e w' ⟨he, n, os, hw⟩ => by
      have h1 := ownsRow_sortedI (base := B) (os := os) (n := n) (ss := ns) (ts := zs) hzl hB hg hc hm (by omega)
      have h2 := grownBy_sortedI (w := w) (g := g) (n := n) (os := os) zs.toArray
      rw [← hw] at h1 h2
      refine ⟨he, ?_, h2⟩
      rcases h1.2 with ⟨h3, -⟩ | ⟨g', cap', cur', e1, -, hg', -, -, hs', ht'⟩
      · cases h3
      · cases e1
        refine ⟨cur', hg', by omega, ?_⟩
        rw [Nat.mul_one] at ht'
        rw [hzl]; exact ht')
    have hown : ∀ (w1 : World) (cur' : Array Value), w1.heap[g]? = some (.cells cur' 3 (0, 0)) → cur'.size = c → cur'.toList.take zs.length = zs.map (Value.int .i64) → Calls Tryz.prog 41 #[.slice (some ⟨g, 0, none⟩) ns.length c] w1 fun e w' => e = .returned (.slice (some ⟨g, 0, none⟩) (distinctI ns).length c) ∧ OwnI w' B (.slice (some ⟨g, 0, none⟩) (distinctI ns).length c) (distinctI ns) ∧ w1.grownBy w' (some g) := fun w1 cur' hg' hs' ht' => by
      have hK := Tryz.slices_Compact_int g 0 c zs w1 (holds_of_blockI hg' ht') (by omega) (by omega)
      rw [hzl] at hK
      have hdl : (distinctI ns).length = (Lib.compact zs).length := by rw [hzs]; rfl
      refine hK.mono fun e w' ⟨he, q, hw⟩ => ?_
      have hcl := compactI_le zs
      have h1 := ownsRow_sortedI (w := w1) (base := B) (os := #[]) (n := q) (ss := zs) (ts := Lib.compact zs ++ List.replicate (zs.length - (Lib.compact zs).length) 0) (by simp; omega) hB hg' (by omega) hm (by omega)
      have h2 := grownBy_sortedI (w := w1) (g := g) (n := q) (os := #[]) (Lib.compact zs ++ List.replicate (zs.length - (Lib.compact zs).length) 0).toArray
      rw [grow_empty] at h1 h2
      rw [hzl] at h1 h2
      rw [← hw] at h1 h2
      refine ⟨by rw [he, hdl], ?_, h2⟩
      have h3 := ownsRow_cut h1 (m := (Lib.compact zs).length) (by omega)
      have h4 : (distinctI ns).map (Value.int .i64) = (Lib.compact zs).map (Value.int .i64) := by rw [hzs]; rfl
      unfold OwnI
      rw [h4, hdl]
      rw [List.map_append, List.take_left' (by simp)] at h3
      exact h3
    have HW := Lib.hid hown
    clear hown hS hH hg ht hs hzs h hzl
    go_enter Tryz.func30, Tryz.ntmps30
    go_upto_region 1 with (fail)
    apply wp_region_lit
    (with_reducible refine wl_k ?_ ?_); exact rfl; intro K hK; go_simp; refine hK _ ?_; clear hK K
    (with_reducible refine wl_ck ?_ ?_); exact rfl; intro K hK; go_simp; refine ⟨_, _, ⟨rfl, rfl⟩, hK _ _ ⟨_, HS.out, ?_⟩⟩; clear hK K; rintro e w3 ⟨rfl, ⟨cur3, hg3, hs3, ht3⟩, hgr3⟩; refine ⟨_, rfl, ?_⟩; simp only [put_lit, List.set_cons_zero, List.set_cons_succ]
    have HC := Lib.hid (HW.out w3 cur3 hg3 hs3 ht3)
    have HG := Lib.hid hgr3
    clear hg3 hs3 ht3 hgr3
    clear HS HW
    go_upto_region 2 with (fail)
    apply wp_region_lit
    (with_reducible refine wl_k ?_ ?_); exact rfl; intro K hK; go_simp; refine hK _ ?_; clear hK K
    (with_reducible refine wl_ck ?_ ?_); exact rfl; intro K hK; go_simp; refine ⟨_, _, ⟨rfl, rfl⟩, hK _ _ ⟨_, HC.out, ?_⟩⟩; clear hK K; rintro e w4 ⟨rfl, hown4, hgr4⟩; refine ⟨_, rfl, ?_⟩; simp only [put_lit, List.set_cons_zero, List.set_cons_succ]
    have HO := Lib.hid hown4
    have HG2 := Lib.hid (grownBy_trans HG.out hgr4)
    clear hown4 hgr4
    (with_reducible refine wl_k ?_ ?_); exact rfl; intro K hK; go_simp; refine hK _ ?_; clear hK K
    clear HC HG
    go_wp2_with fail
    go_ret
    exact ⟨_, rfl, HO.out, HG2.out, fun b h => h⟩
end Go.Proofs.YtokmaehefenpmaaGreatDoor
namespace Go.Proofs.YtokmaehefenpmaaGreatDoor
open Go.RowKit Go.Proofs.YtokmaehefenpmaaGreatDoor.Nm
set_option linter.unusedSimpArgs false
theorem g61 {w : World} {p : Nat} {A : Option Addr} {l c : Nat} {t : TypeId} {fr : Nat × Nat} (h : w.heap[p]? = some (.cells #[.slice A l c] t fr)) : OneAt w 32 ⟨p, 0, none⟩ (.slice A l c) := one_of u61 rfl (by rw [cell_of_row _ _ _ _ _ _ h]; rfl)
theorem info61 : (Tryz.prog.info? 32).map (·.size) = some 1 := by kernel_rfl
theorem ex_alloc61 {o : Oper} (ho : o.op = .alloc 32) (ev : Operand → Value) (w : World) : (execOp ev o).run Tryz.prog w = .ok (.value (.pointer (some ⟨w.heap.size, 0, none⟩))) (w.alloc (.cells #[.slice none 0 0] 32)) := by
  unfold execOp
  simp only [ho]
  kernel_rfl
theorem ent98 : Enters Tryz.prog 29 := enters_of Tryz.func29 (by kernel_rfl) rfl
/-- What is collected at a node. -/
def stepV (t : Ty) (ns : List Int) : Bool × List Int := (true, if t.kind = 12 then ns ++ [t.num] else ns)
set_option maxHeartbeats 2000000 in
set_option maxRecDepth 100000 in
theorem vars1_any (z B : Nat) (t : Ty) (w : World) (A : Option Addr) (l c : Nat) (ns : List Int) (C : Nat → Prop) (hz : w.heap[z]? = some (.cells #[.slice A l c] 32 (0, 0))) (ho : OwnI w B (.slice A l c) ns) (hzB : z < B) (hB : B ≤ w.heap.size) (hn : ns.length ≤ 100000) (hCz : C z) (hCo : ∀ b, (Value.slice A l c).ownBlock = some b → C b) (D : Nat → Prop) (row : Array Value) (h : TyAt w D t row) :
    Calls Tryz.prog 29 #[.agg row, .pointer (some ⟨z, 0, none⟩)] w fun e w' => e = .returned (.bool true) ∧ ∃ A' l' c', w'.heap[z]? = some (.cells #[.slice A' l' c'] 32 (0, 0)) ∧ OwnI w' B (.slice A' l' c') (stepV t ns).2 ∧ Keep C w w' ∧ ∀ b, (Value.slice A' l' c').ownBlock = some b → C b ∨ w.heap.size ≤ b := by
  obtain ⟨k, s, n, A1, l1, c1, ts, he, rfl, -⟩ := h.parts
  have HO := Lib.hid ho
  have HCO := Lib.hid hCo
  have HLT := Lib.hid ho.lt
  clear h ho hCo
  have hb := Below.refl w.heap.size w
  go_enter Tryz.func29, Tryz.ntmps29
  go_upto_region 0 with (fail)
  apply wp_region_lit
  have lthzp := heap_lt hz; (with_reducible refine wl_box rfl ?_); intro W p hbn hlp hp; replace hz := below_look hbn hz; replace hb := hb.trans (hbn.mono hb.size); clear hbn; simp only [put_lit, List.set_cons_zero, List.set_cons_succ]
  (with_reducible refine wl_k ?_ ?_); exact rfl; intro K hK; go_simp; refine hK _ ?_; clear hK K
  go_upto_region 1 with (fail)
  apply wp_region_lit
  (with_reducible refine wl_k ?_ ?_); exact rfl; intro K hK; go_simp; refine hK _ ?_; clear hK K
  (first | ((with_reducible apply wl_oneG); exact rfl; exact rfl; first | exact f0 (by with_reducible assumption) | exact f1 (by with_reducible assumption) | exact f2 (by with_reducible assumption) | exact f3 (by with_reducible assumption) | with_reducible assumption | exact g22 (by with_reducible assumption) | exact g25 (by with_reducible assumption)) | ((with_reducible apply wl_rowG); exact rfl; exact rfl; first | with_reducible assumption | exact RowK.now (by with_reducible assumption) | exact f4 (by with_reducible assumption)))
  (with_reducible refine wl_k ?_ ?_); exact rfl; intro K hK; go_simp; refine hK _ ?_; clear hK K
  by_cases hk7 : k = 12
  · have e1 : (k == 12) = true := by simp [hk7]
    have HST : Hid ((stepV t ns).2 = ns ++ [n]) := Lib.hid (by rw [he]; simp [stepV, Ty.kind, Ty.num, hk7])
    clear hk7
    go_upto_region 2 with (fail)
    have HOW := Lib.hid (HO.out.old hb)
    apply wp_region_lit
    ((with_reducible apply wl_oneG); exact rfl; exact rfl; exact g61 hz)
    (with_reducible refine wl_k ?_ ?_); exact rfl; intro K hK; go_simp; refine hK _ ?_; clear hK K
    (first | ((with_reducible apply wl_oneG); exact rfl; exact rfl; first | exact f0 (by with_reducible assumption) | exact f1 (by with_reducible assumption) | exact f2 (by with_reducible assumption) | exact f3 (by with_reducible assumption) | with_reducible assumption | exact g22 (by with_reducible assumption) | exact g25 (by with_reducible assumption)) | ((with_reducible apply wl_rowG); exact rfl; exact rfl; first | with_reducible assumption | exact RowK.now (by with_reducible assumption) | exact f4 (by with_reducible assumption)))
    have lthzq := heap_lt hz; have lthpq := heap_lt hp; (with_reducible refine wl_bsI rfl ?_); intro W1 q hbn hlq hq; replace hz := below_look hbn hz; replace hp := below_look hbn hp; replace hb := hb.trans (hbn.mono hb.size); clear hbn; simp only [put_lit, List.set_cons_zero, List.set_cons_succ]
    replace HOW := Lib.hid (HO.out.old hb)
    refine wl_pushI rfl _ _ rfl rfl rfl HOW.out hq (by omega) (by have := hb.size; omega) ?_
    intro A9 l9 c9 w9 hown hgro
    have hzn : (Value.slice A l c).ownBlock ≠ some z := fun e => by have := (HLT.out z e).1; omega
    have hzg := (hgro.keep z (heap_lt hz) hzn).trans hz
    have HK := Lib.hid ((Keep.of (C := C) hb).trans (C' := C) (fun b h => Or.inl h) (Keep.gro hgro HCO.out))
    have HG := Lib.hid (show ∀ b, (Value.slice A9 l9 c9).ownBlock = some b → C b ∨ w.heap.size ≤ b from fun b e => (hgro.own b e).imp (HCO.out b) (fun h => by have := hb.size; omega))
    have HN := Lib.hid hown
    have hzz : (Value.slice A9 l9 c9).ownBlock ≠ some z := fun e => by have := (hown.lt z e).1; omega
    clear hown hgro hz hp hq
    simp only [put_lit, List.set_cons_zero, List.set_cons_succ]
    (with_reducible refine wl_put1 (v := .slice A9 l9 c9) info61 ?_ ?_ ?_ hzg ?_); exact rfl; exact rfl; exact rfl; rw [put_noneA]; intro W3 hbx hsz hkx hnx; clear hzg; have hzg := hnx; clear hnx
    have HK3 := Lib.hid (HK.out.trans (C' := C) (fun b h => Or.inl h) (w2 := W3) ⟨(hbx 0 w9 (Nat.zero_le _) (Below.refl _ _)).os, (hbx 0 w9 (Nat.zero_le _) (Below.refl _ _)).tape, (hbx 0 w9 (Nat.zero_le _) (Below.refl _ _)).output, (hbx 0 w9 (Nat.zero_le _) (Below.refl _ _)).size, fun b _ hn => hkx b (fun e => hn (by rw [e]; exact hCz))⟩)
    have HN3 : Hid (OwnI W3 B (.slice A9 l9 c9) (ns ++ [n])) := Lib.hid (own_same HN.out fun q _ e => hkx q (fun e2 => hzz (by rw [← e2]; exact e)))
    have HZ := Lib.hid hzg
    clear hbx hkx hsz hzg HN HK HOW
    go_wp2_with fail
    go_ret
    exact ⟨rfl, _, _, _, HZ.out, by rw [HST.out]; exact HN3.out, HK3.out, HG.out⟩
  · have e1 : (k == 12) = false := by simp [hk7]
    have HST : Hid ((stepV t ns).2 = ns) := Lib.hid (by rw [he]; simp [stepV, Ty.kind, hk7])
    clear hk7
    have HZ := Lib.hid hz
    clear hz hp
    go_wp2_with fail
    go_ret
    exact ⟨rfl, _, _, _, HZ.out, by rw [HST.out]; exact HO.out.old hb, Keep.of hb, fun b e => .inl (HCO.out b e)⟩
/-- The collected names, their variable. -/
def InvV (z B : Nat) (w : World) (C : Nat → Prop) (ns : List Int) : Prop :=
  ∃ A l c, w.heap[z]? = some (.cells #[.slice A l c] 32 (0, 0)) ∧ OwnI w B (.slice A l c) ns ∧ z < B ∧ B ≤ w.heap.size ∧ ∀ b, C b ↔ b = z ∨ (Value.slice A l c).ownBlock = some b
theorem visit_lenV : ∀ (t : Ty) (ns : List Int), (visit stepV t ns).1 = true ∧ (visit stepV t ns).2.length ≤ ns.length + t.nodes := Ty.ind fun k s n l ih ns => by
  have hl : ∀ (l : List Ty), (∀ t, t ∈ l → ∀ ns, (visit stepV t ns).1 = true ∧ (visit stepV t ns).2.length ≤ ns.length + t.nodes) → ∀ ns, (visits stepV l ns).1 = true ∧ (visits stepV l ns).2.length ≤ ns.length + nodesL l := by
    intro l
    induction l with
    | nil => intro _ ns; simp [visits, nodesL]
    | cons t l ihl =>
      intro h ns
      obtain ⟨h1, h2⟩ := h t (by simp) ns
      simp only [visits, nodesL]
      cases hv : visit stepV t ns with
      | mk b x =>
        rw [hv] at h1 h2
        cases h1
        obtain ⟨g1, g2⟩ := ihl (fun t ht => h t (by simp [ht])) x
        exact ⟨g1, by simp only at h2 ⊢; omega⟩
  have hs : stepV (.node k s n l) ns = (true, (stepV (.node k s n l) ns).2) := rfl
  have hs2 : (stepV (.node k s n l) ns).2.length ≤ ns.length + 1 := by
    unfold stepV
    simp only
    split <;> simp
  simp only [visit]
  rw [hs]
  obtain ⟨g1, g2⟩ := hl l ih (stepV (.node k s n l) ns).2
  exact ⟨g1, by simp only [Ty.nodes]; omega⟩
theorem visC_vars (z B : Nat) : VisC2 (fun t (s : List Int) => s.length + t.nodes ≤ 100000) (fun l s => s.length + nodesL l ≤ 100000) 29 #[.pointer (some ⟨z, 0, none⟩)] stepV (InvV z B) where
  ent := ent98
  low := fun w C s hI b hb => by
    obtain ⟨A, l, c, h1, h2, h3, h4, h5⟩ := hI
    rcases (h5 b).1 hb with rfl | e
    · exact heap_lt h1
    · exact (h2.lt b e).2
  keep := fun w C s hI w' hb => by
    obtain ⟨A, l, c, h1, h2, h3, h4, h5⟩ := hI
    exact ⟨A, l, c, below_look hb h1, h2.old hb, h3, Nat.le_trans h4 hb.size, h5⟩
  sub := fun k s n l st h _ => by
    have : (stepV (.node k s n l) st).2.length ≤ st.length + 1 := by
      unfold stepV
      simp only
      split <;> simp
    simp only [Ty.nodes] at h
    show _ + _ ≤ _
    omega
  one := fun t l st h => by simp only [nodesL] at h; show _ + _ ≤ _; omega
  next := fun t l st h _ => by
    have := (visit_lenV t st).2
    simp only [nodesL] at h
    show _ + _ ≤ _
    omega
  run := fun w C s hI t hq D row h _ => by
    obtain ⟨A, l, c, h1, h2, h3, h4, h5⟩ := hI
    refine (vars1_any z B t w A l c s C h1 h2 h3 h4 (by have : s.length + t.nodes ≤ 100000 := hq; omega) ((h5 z).2 (.inl rfl)) (fun b e => (h5 b).2 (.inr e)) D row h).mono ?_
    rintro e w' ⟨rfl, A', l', c', g1, g2, g3, g4⟩
    refine ⟨rfl, fun b => b = z ∨ (Value.slice A' l' c').ownBlock = some b, fun _ => ⟨A', l', c', g1, g2, h3, Nat.le_trans h4 g3.size, fun b => Iff.rfl⟩, g3, fun b hb => ?_⟩
    rcases hb with rfl | hb
    · exact .inl ((h5 b).2 (.inl rfl))
    · exact g4 b hb
/-- The names of a tree's parameters, in the order in which its nodes are seen. -/
def varsOf (t : Ty) : List Int := (visit stepV t []).2
set_option maxHeartbeats 2000000 in
set_option maxRecDepth 100000 in
theorem Vars_any (t : Ty) (hnd : t.nodes ≤ 90000) (w : World) (D : Nat → Prop) (row : Array Value) (h : TyAt w D t row) :
    Calls Tryz.prog 17 #[.agg row] w fun e w' => ∃ A l c, e = .returned (.slice A l c) ∧ IxAt w' (distinctI (varsOf t)) A l c ∧ Below w.heap.size w w' := by
  have hmf : ∀ (fn : Fn) (first cap : Array Value) (w : World), (Instr.makeFunc fn first cap).run Tryz.prog w = .ok (.func fn first cap) w := fun _ _ _ _ => rfl
  have HT := Lib.hid h
  obtain ⟨k, s, n, A, l, c, ts, he, rfl, -⟩ := h.parts
  clear h he
  have hb := Below.refl w.heap.size w
  go_enter Tryz.func17, Tryz.ntmps17
  go_upto_region 0 with (fail)
  apply wp_region_lit
  (with_reducible refine wl_box rfl ?_); intro W p hbn hlp hp; replace hb := hb.trans (hbn.mono hb.size); clear hbn; simp only [put_lit, List.set_cons_zero, List.set_cons_succ]
  (with_reducible refine wl_k ?_ ?_); exact rfl; intro K hK; go_simp; refine hK _ ?_; clear hK K
  have hlW := hb.size
  go_upto_region 1 with (fail)
  apply wp_region_lit
  refine wl_new (z := #[.slice none 0 0]) (fun ev w => ex_alloc61 rfl ev w) ?_
  intro W2 z hbn hlz hz
  replace hp := below_look hbn hp; replace hb := hb.trans (hbn.mono hb.size); clear hbn
  simp only [put_lit, List.set_cons_zero, List.set_cons_succ]
  have hlt := heap_lt hz
  have hlw := hb.size
  have hlp' := heap_lt hp
  have HC := Lib.hid (each_any2 (visC_vars z W2.heap.size) t W2 (fun b => b = z) [] (by show _ + _ ≤ _; simp; omega) (fun b => D b ∧ b < w.heap.size) (cell4 k s n A l c) ⟨none, 0, 0, hz, OwnI.nil _ _, hlt, Nat.le_refl _, fun b => by simp [Value.ownBlock]⟩ (HT.out.low.old hb) (fun b hD hc => by have := hD.2; omega))
  rw [show visit stepV t [] = (true, varsOf t) from Prod.ext (visit_lenV t []).1 rfl] at HC
  have HNL : Hid ((varsOf t).length ≤ 1000000) := Lib.hid (by have := (visit_lenV t []).2; unfold varsOf; simp at this; omega)
  go_upto_region 2 with (fail)
  apply wp_region_lit
  (first | ((with_reducible apply wl_oneG); exact rfl; exact rfl; first | exact f0 (by with_reducible assumption) | exact f1 (by with_reducible assumption) | exact f2 (by with_reducible assumption) | exact f3 (by with_reducible assumption) | with_reducible assumption | exact g22 (by with_reducible assumption) | exact g25 (by with_reducible assumption)) | ((with_reducible apply wl_rowG); exact rfl; exact rfl; first | with_reducible assumption | exact RowK.now (by with_reducible assumption) | exact f4 (by with_reducible assumption)))
  (with_reducible refine wl_k ?_ ?_); exact rfl; intro K hK; go_simp; refine hK _ ?_; clear hK K
  (with_reducible refine wl_ck ?_ ?_); exact rfl; intro K hK; go_simp; refine ⟨_, _, ⟨rfl, rfl⟩, hK _ _ ⟨_, HC.out, ?_⟩⟩; clear hK K; rintro e w7 ⟨rfl, C7, hI7, hk7, hC7⟩; refine ⟨_, rfl, ?_⟩; simp only [put_lit, List.set_cons_zero, List.set_cons_succ]
  obtain ⟨A7, l7, c7, hz7, ho7, -, -, -⟩ := hI7 rfl
  have HO7 := Lib.hid ho7
  have HB7 := Lib.hid (Below.keep hb hk7 (fun b (h : b = z) => by omega))
  clear hI7 hk7 hC7 ho7 hp hz
  clear HC
  have HC := Lib.hid (distinctI_any W2.heap.size A7 l7 c7 (varsOf t) w7 HO7.out HNL.out)
  go_upto_region 3 with (fail)
  apply wp_region_lit
  ((with_reducible apply wl_oneG); exact rfl; exact rfl; exact g61 hz7)
  (with_reducible refine wl_ck ?_ ?_); exact rfl; intro K hK; go_simp; refine ⟨_, _, ⟨rfl, rfl⟩, hK _ _ ⟨_, HC.out, ?_⟩⟩; clear hK K; rintro e w8 ⟨v8, rfl, hown8, hgr8, -⟩; refine ⟨_, rfl, ?_⟩; simp only [put_lit, List.set_cons_zero, List.set_cons_succ]
  obtain ⟨A8, l8, c8, rfl, htx8⟩ := hown8.ix
  have HTX := Lib.hid htx8
  have HB8 := Lib.hid (Below.grown HB7.out hgr8 (by have := HB7.out.size; omega) (fun b e => by have := (HO7.out.lt b e).1; omega))
  clear hown8 hgr8 htx8 hz7
  (with_reducible refine wl_k ?_ ?_); exact rfl; intro K hK; go_simp; refine hK _ ?_; clear hK K
  clear HC
  go_wp2_with fail
  go_ret
  exact ⟨_, _, _, rfl, HTX.out, HB8.out⟩
end Go.Proofs.YtokmaehefenpmaaGreatDoor
namespace Go.Proofs.YtokmaehefenpmaaGreatDoor
open Go.RowKit Go.ChangeMaps Go.Proofs.YtokmaehefenpmaaGreatDoor.Nm
set_option linter.unusedSimpArgs false
theorem mem_compactI {zs : List Int} {x : Int} : x ∈ Lib.compact zs ↔ x ∈ zs := by
  unfold Lib.compact Lib.compactUpTo
  simp only [List.mem_map, List.mem_filter, List.mem_range]
  constructor
  · rintro ⟨j, ⟨hj, -⟩, rfl⟩
    have : j < zs.toArray.size := by simpa using hj
    rw [getElem!_pos zs.toArray j this]
    simp
  · intro hx
    obtain ⟨j, hj⟩ := List.mem_iff_getElem?.1 hx
    have hjl := (List.getElem?_eq_some_iff.1 hj).1
    have key : ∀ j, j < zs.length → ∃ i, i < zs.length ∧ Lib.keeps zs.toArray i = true ∧ zs.toArray[i]! = zs.toArray[j]! := by
      intro j
      induction j with
      | zero => intro h; exact ⟨0, h, by simp [Lib.keeps], rfl⟩
      | succ j ih =>
        intro h
        cases hk : Lib.keeps zs.toArray (j + 1) with
        | true => exact ⟨j + 1, h, hk, rfl⟩
        | false =>
          obtain ⟨i, h1, h2, h3⟩ := ih (by omega)
          refine ⟨i, h1, h2, ?_⟩
          simp [Lib.keeps] at hk
          rw [h3]
          simp [hk]
    obtain ⟨i, h1, h2, h3⟩ := key j hjl
    refine ⟨i, ⟨h1, h2⟩, ?_⟩
    rw [h3]
    have : j < zs.toArray.size := by simpa using hjl
    rw [getElem!_pos zs.toArray j this]
    simpa using (List.getElem?_eq_some_iff.1 hj).2
theorem mem_distinctI {l : List Int} {x : Int} : x ∈ distinctI l ↔ x ∈ l := by
  unfold distinctI sortedI
  rw [mem_compactI, List.mem_mergeSort]
section
variable {ops : Array Oper} {rest : List Oper} {o : Oper} {a : Act} {w w' : World} {Q : Exit → Act → World → Prop}
end
section
variable {P : Program} {md : Region.Mode} {ops : Array Oper} {Q : Exit → Act → World → Prop} {S : World → Prop} {fuel : Nat} {listed : Array Bool} {a : Act} {w : World} {i : Nat} {oi : Oper}
end
end Go.Proofs.YtokmaehefenpmaaGreatDoor
namespace Go.Proofs.YtokmaehefenpmaaGreatDoor
open Go.RowKit Go.ChangeMaps Go.Proofs.YtokmaehefenpmaaGreatDoor.Nm
set_option linter.unusedSimpArgs false
theorem Keep.drew (C : Nat → Prop) (w : World) : Keep C w w.drew := Keep.of ((Below.refl w.heap.size w).drew)
theorem Four.cells {w : World} {D : Nat → Prop} {A : Option Addr} {i : Nat} {row : Array Value} (h : Four w D A i row) : Four w (fun b => D b ∧ ∃ Cs t fr, w.heap[b]? = some (.cells Cs t fr)) A i row := by
  obtain ⟨b, off, Cs, t, fr, h1, h2, h3, h4⟩ := h
  exact ⟨b, off, Cs, t, fr, h1, ⟨h2, _, _, _, h3⟩, h3, h4⟩
theorem TyAt.cells {w : World} {D : Nat → Prop} {t : Ty} {row : Array Value} (h : TyAt w D t row) : TyAt w (fun b => D b ∧ ∃ Cs t fr, w.heap[b]? = some (.cells Cs t fr)) t row := by
  induction h with
  | mk rows hk hn hs hl hc hm hf _ ih => exact .mk rows hk hn hs hl hc hm (fun i t hi => (hf i t hi).cells) ih
section
variable {ops : Array Oper} {rest : List Oper} {dst : Option Tmp} {ty' : TypeId} {x : Operand} {pos : String} {after : Array Edge} {a : Act} {w : World} {Q : Exit → Act → World → Prop}
end
section
variable {md : Region.Mode} {ops : Array Oper} {Q : Exit → Act → World → Prop} {S : World → Prop} {fuel : Nat} {listed : Array Bool} {a : Act} {w : World} {i : Nat} {oi : Oper}
end
end Go.Proofs.YtokmaehefenpmaaGreatDoor
namespace Go.Proofs.YtokmaehefenpmaaGreatDoor
open Go.RowKit Go.Proofs.YtokmaehefenpmaaGreatDoor.Nm
set_option linter.unusedSimpArgs false
def letterB (c : Int) : Bool := decide ((97 ≤ c ∧ c ≤ 122) ∨ (65 ≤ c ∧ c ≤ 90) ∨ c = 95)
def digitB (c : Int) : Bool := decide (48 ≤ c ∧ c ≤ 57)
def capB (c : Int) : Bool := decide (65 ≤ c ∧ c ≤ 90)
set_option maxHeartbeats 2000000 in
set_option maxRecDepth 100000 in
theorem Letter_any (c : Int) (w : World) : Calls Tryz.prog 55 #[.int .u8 c] w fun e w' => e = .returned (.bool (letterB c)) ∧ w = w' := by
  go_enter Tryz.func55, Tryz.ntmps55
  by_cases h5 : c = 95
  · subst h5
    go_wp2_with fail
    go_ret
    exact ⟨rfl, rfl⟩
  have e1 : (c == 95) = false := by simp [h5]
  have HH := Lib.hid h5
  clear h5
  by_cases h1 : c ≥ 97
  · skip
    by_cases h2 : c ≤ 122
    · skip
      go_wp2_with fail
      go_ret
      have := HH.out
      exact ⟨by rw [show letterB c = true from decide_eq_true (by omega)]; rfl, rfl⟩
    · skip
      by_cases h3 : c ≥ 65
      · skip
        by_cases h4 : c ≤ 90
        · skip
          go_wp2_with fail
          go_ret
          have := HH.out
          exact ⟨by rw [show letterB c = true from decide_eq_true (by omega)]; rfl, rfl⟩
        · skip
          go_wp2_with fail
          go_ret
          have := HH.out
          exact ⟨by rw [show letterB c = false from decide_eq_false (by omega)]; first | rfl | (rw [← e1]; rfl), rfl⟩
      · skip
        go_wp2_with fail
        go_ret
        have := HH.out
        exact ⟨by rw [show letterB c = false from decide_eq_false (by omega)]; first | rfl | (rw [← e1]; rfl), rfl⟩
  · skip
    by_cases h3 : c ≥ 65
    · skip
      by_cases h4 : c ≤ 90
      · skip
        go_wp2_with fail
        go_ret
        have := HH.out
        exact ⟨by rw [show letterB c = true from decide_eq_true (by omega)]; rfl, rfl⟩
      · skip
        go_wp2_with fail
        go_ret
        have := HH.out
        exact ⟨by rw [show letterB c = false from decide_eq_false (by omega)]; first | rfl | (rw [← e1]; rfl), rfl⟩
    · skip
      go_wp2_with fail
      go_ret
      have := HH.out
      exact ⟨by rw [show letterB c = false from decide_eq_false (by omega)]; first | rfl | (rw [← e1]; rfl), rfl⟩
set_option maxHeartbeats 2000000 in
set_option maxRecDepth 100000 in
theorem Digit_any (c : Int) (w : World) : Calls Tryz.prog 56 #[.int .u8 c] w fun e w' => e = .returned (.bool (digitB c)) ∧ w = w' := by
  go_enter Tryz.func56, Tryz.ntmps56
  by_cases h1 : c ≥ 48
  · skip
    by_cases h2 : c ≤ 57
    · skip
      go_wp2_with fail
      go_ret
      exact ⟨by rw [show digitB c = true from decide_eq_true (by omega)]; rfl, rfl⟩
    · skip
      go_wp2_with fail
      go_ret
      exact ⟨by rw [show digitB c = false from decide_eq_false (by omega)]; rfl, rfl⟩
  · skip
    go_wp2_with fail
    go_ret
    exact ⟨by rw [show digitB c = false from decide_eq_false (by omega)]; rfl, rfl⟩
set_option maxHeartbeats 2000000 in
set_option maxRecDepth 100000 in
theorem Capital_any (c : Int) (w : World) : Calls Tryz.prog 54 #[.int .u8 c] w fun e w' => e = .returned (.bool (capB c)) ∧ w = w' := by
  go_enter Tryz.func54, Tryz.ntmps54
  by_cases h1 : c ≥ 65
  · skip
    by_cases h2 : c ≤ 90
    · skip
      go_wp2_with fail
      go_ret
      exact ⟨by rw [show capB c = true from decide_eq_true (by omega)]; rfl, rfl⟩
    · skip
      go_wp2_with fail
      go_ret
      exact ⟨by rw [show capB c = false from decide_eq_false (by omega)]; rfl, rfl⟩
  · skip
    go_wp2_with fail
    go_ret
    exact ⟨by rw [show capB c = false from decide_eq_false (by omega)]; rfl, rfl⟩
/-- What a name of a type is. -/
def tnameB (s : ByteArray) : Bool := decide (s.size ≤ 24) && match s.data.toList with
  | [] => false
  | a :: l => capB (a.toNat : Int) && (a :: l).all fun c => letterB (c.toNat : Int) || digitB (c.toNat : Int)
theorem tname_empty {s : ByteArray} (h : s.toList.isEmpty = true) : tnameB s = false := by
  unfold tnameB
  rw [show s.data.toList = [] by rw [← ByteArray.toList_eq]; simpa using h]
  simp
theorem bytes_get {s : ByteArray} {j : Nat} (h : j < s.size) : s.data.toList[j]? = some s[j] := by
  rw [List.getElem?_eq_getElem (by simpa using h)]; rfl
theorem bytes_size (s : ByteArray) : s.data.toList.length = s.size := rfl
theorem tname_cons {s : ByteArray} (h : 0 < s.size) : tnameB s = (decide (s.size ≤ 24) && (capB (s[0].toNat : Int) && s.data.toList.all fun c => letterB (c.toNat : Int) || digitB (c.toNat : Int))) := by
  have h0 := bytes_get h
  unfold tnameB
  cases hl : s.data.toList with
  | nil => rw [hl] at h0; simp at h0
  | cons a l => rw [hl] at h0; simp at h0; subst h0; rfl
set_option maxHeartbeats 2000000 in
set_option maxRecDepth 100000 in
theorem TypeName_any (s : ByteArray) (hs : s.size ≤ maxLen) (w : World) : Calls Tryz.prog 46 #[.string s] w fun e w' => e = .returned (.bool (tnameB s)) ∧ w = w' := by
  unfold maxLen at hs
  go_enter Tryz.func46, Tryz.ntmps46
  go_upto_region 1 with (fail)
  apply wp_region_lit
  cases he : s.toList.isEmpty with
  | true =>
    have HT := Lib.hid (tname_empty he)
    (with_reducible refine wl_k ?_ ?_); exact rfl; intro K hK; go_simp; refine hK _ ?_; clear hK K
    (with_reducible refine wl_k ?_ ?_); exact rfl; intro K hK; go_simp; refine hK _ ?_; clear hK K
    (with_reducible refine wl_k ?_ ?_); exact rfl; intro K hK; go_simp; refine hK _ ?_; clear hK K
    (first | ((with_reducible refine wl_skipU ?_ ?_ ?_); exact rfl; exact rfl) | ((with_reducible refine wl_skip ?_ ?_); exact rfl; simp only [put_lit, List.set_cons_zero, List.set_cons_succ]))
    (first | ((with_reducible refine wl_skipU ?_ ?_ ?_); exact rfl; exact rfl) | ((with_reducible refine wl_skip ?_ ?_); exact rfl; simp only [put_lit, List.set_cons_zero, List.set_cons_succ]))
    (first | ((with_reducible refine wl_skipU ?_ ?_ ?_); exact rfl; exact rfl) | ((with_reducible refine wl_skip ?_ ?_); exact rfl; simp only [put_lit, List.set_cons_zero, List.set_cons_succ]))
    (with_reducible refine wl_k ?_ ?_); exact rfl; intro K hK; go_simp; refine hK _ ?_; clear hK K
    (with_reducible refine wl_k ?_ ?_); exact rfl; intro K hK; go_simp; refine hK _ ?_; clear hK K
    (first | ((with_reducible refine wl_skipU ?_ ?_ ?_); exact rfl; exact rfl) | ((with_reducible refine wl_skip ?_ ?_); exact rfl; simp only [put_lit, List.set_cons_zero, List.set_cons_succ]))
    (first | ((with_reducible refine wl_skipU ?_ ?_ ?_); exact rfl; exact rfl) | ((with_reducible refine wl_skip ?_ ?_); exact rfl; simp only [put_lit, List.set_cons_zero, List.set_cons_succ]))
    (first | ((with_reducible refine wl_skipU ?_ ?_ ?_); exact rfl; exact rfl) | ((with_reducible refine wl_skip ?_ ?_); exact rfl; simp only [put_lit, List.set_cons_zero, List.set_cons_succ]))
    (first | ((with_reducible refine wl_skipU ?_ ?_ ?_); exact rfl; exact rfl) | ((with_reducible refine wl_skip ?_ ?_); exact rfl; simp only [put_lit, List.set_cons_zero, List.set_cons_succ]))
    (with_reducible refine wl_k ?_ ?_); exact rfl; intro K hK; go_simp; refine hK _ ?_; clear hK K
    go_wp2_with fail
    go_ret
    exact ⟨by rw [HT.out]; rfl, rfl⟩
  | false =>
    have hix : 0 < s.size := by
      rcases Nat.eq_zero_or_pos s.size with h | h
      · have : s.toList = [] := by rw [ByteArray.toList_eq]; exact List.eq_nil_of_length_eq_zero h
        rw [this] at he; cases he
      · exact h
    have HTC := Lib.hid (tname_cons hix)
    by_cases h24 : (s.size : Int) > 24
    · have HT : Hid (tnameB s = false) := Lib.hid (by rw [HTC.out, decide_eq_false (by omega)]; rfl)
      (with_reducible refine wl_k ?_ ?_); exact rfl; intro K hK; go_simp; refine hK _ ?_; clear hK K
      (with_reducible refine wl_k ?_ ?_); exact rfl; intro K hK; go_simp; refine hK _ ?_; clear hK K
      (with_reducible refine wl_k ?_ ?_); exact rfl; intro K hK; go_simp; refine hK _ ?_; clear hK K
      (with_reducible refine wl_k ?_ ?_); exact rfl; intro K hK; go_simp; refine hK _ ?_; clear hK K
      (with_reducible refine wl_k ?_ ?_); exact rfl; intro K hK; go_simp; refine hK _ ?_; clear hK K
      (with_reducible refine wl_k ?_ ?_); exact rfl; intro K hK; go_simp; refine hK _ ?_; clear hK K
      (with_reducible refine wl_k ?_ ?_); exact rfl; intro K hK; go_simp; refine hK _ ?_; clear hK K
      (with_reducible refine wl_k ?_ ?_); exact rfl; intro K hK; go_simp; refine hK _ ?_; clear hK K
      (first | ((with_reducible refine wl_skipU ?_ ?_ ?_); exact rfl; exact rfl) | ((with_reducible refine wl_skip ?_ ?_); exact rfl; simp only [put_lit, List.set_cons_zero, List.set_cons_succ]))
      (first | ((with_reducible refine wl_skipU ?_ ?_ ?_); exact rfl; exact rfl) | ((with_reducible refine wl_skip ?_ ?_); exact rfl; simp only [put_lit, List.set_cons_zero, List.set_cons_succ]))
      (first | ((with_reducible refine wl_skipU ?_ ?_ ?_); exact rfl; exact rfl) | ((with_reducible refine wl_skip ?_ ?_); exact rfl; simp only [put_lit, List.set_cons_zero, List.set_cons_succ]))
      (first | ((with_reducible refine wl_skipU ?_ ?_ ?_); exact rfl; exact rfl) | ((with_reducible refine wl_skip ?_ ?_); exact rfl; simp only [put_lit, List.set_cons_zero, List.set_cons_succ]))
      (with_reducible refine wl_k ?_ ?_); exact rfl; intro K hK; go_simp; refine hK _ ?_; clear hK K
      go_wp2_with fail
      go_ret
      exact ⟨by rw [HT.out]; rfl, rfl⟩
    · have HC := Lib.hid (Capital_any (s[0].toNat : Int) w)
      obtain ⟨b1, hb1⟩ : ∃ b, b = capB (s[0].toNat : Int) := ⟨_, rfl⟩
      rw [← hb1] at HC
      rw [← hb1, decide_eq_true (by omega)] at HTC
      clear hb1
      (with_reducible refine wl_k ?_ ?_); exact rfl; intro K hK; go_simp; refine hK _ ?_; clear hK K
      (with_reducible refine wl_k ?_ ?_); exact rfl; intro K hK; go_simp; refine hK _ ?_; clear hK K
      (with_reducible refine wl_k ?_ ?_); exact rfl; intro K hK; go_simp; refine hK _ ?_; clear hK K
      (with_reducible refine wl_k ?_ ?_); exact rfl; intro K hK; go_simp; refine hK _ ?_; clear hK K
      (with_reducible refine wl_k ?_ ?_); exact rfl; intro K hK; go_simp; refine hK _ ?_; clear hK K
      (with_reducible refine wl_k ?_ ?_); exact rfl; intro K hK; go_simp; refine hK _ ?_; clear hK K
      (with_reducible refine wl_k ?_ ?_); exact rfl; intro K hK; go_simp; refine hK _ ?_; clear hK K
      (with_reducible refine wl_k ?_ ?_); exact rfl; intro K hK; go_simp; refine hK _ ?_; clear hK K
      (with_reducible refine wl_k ?_ ?_); exact rfl; intro K hK; go_simp; refine hK _ ?_; clear hK K
      (with_reducible refine wl_k ?_ ?_); exact rfl; intro K hK; go_simp; refine hK _ ?_; clear hK K
      (with_reducible refine wl_ck ?_ ?_); exact rfl; intro K hK; go_simp; refine ⟨_, _, ⟨rfl, rfl⟩, hK _ _ ⟨_, HC.out, ?_⟩⟩; clear hK K; rintro e w3 ⟨rfl, rfl⟩; refine ⟨_, rfl, ?_⟩; simp only [put_lit, List.set_cons_zero, List.set_cons_succ]
      clear HC
      cases b1 with
      | false =>
        have HT : Hid (tnameB s = false) := Lib.hid (by rw [HTC.out]; rfl)
        (with_reducible refine wl_k ?_ ?_); exact rfl; intro K hK; go_simp; refine hK _ ?_; clear hK K
        (with_reducible refine wl_k ?_ ?_); exact rfl; intro K hK; go_simp; refine hK _ ?_; clear hK K
        go_wp2_with fail
        go_ret
        exact ⟨by rw [HT.out]; rfl, rfl⟩
      | true =>
        have HT : Hid (tnameB s = s.data.toList.all fun c => letterB (c.toNat : Int) || digitB (c.toNat : Int)) := Lib.hid (by rw [HTC.out]; rfl)
        clear HTC
        (with_reducible refine wl_k ?_ ?_); exact rfl; intro K hK; go_simp; refine hK _ ?_; clear hK K
        (with_reducible refine wl_k ?_ ?_); exact rfl; intro K hK; go_simp; refine hK _ ?_; clear hK K
        go_wp2_with fail
        go_loopw [3] (fun i wr => ∃ j : Nat, j ≤ s.size ∧ i = .int .i64 (j : Int) ∧ Hid (∀ (i : Nat) (c : UInt8), i < j → s.data.toList[i]? = some c → (letterB (c.toNat : Int) || digitB (c.toNat : Int)) = true) ∧ w = wr) (fun i _ => s.size - (intOf i).toNat)
        case atStart => exact ⟨0, by omega, rfl, Lib.hid (fun i c hi => by omega), rfl⟩
        case round =>
          obtain ⟨j, hj, rfl, HR, rfl⟩ := hrel
          by_cases hlt : j < s.size
          · have hltI : (j : Int) < (s.size : Int) := by omega
            have HL := Lib.hid (Letter_any (s[j].toNat : Int) w)
            have HD := Lib.hid (Digit_any (s[j].toNat : Int) w)
            have HS := Lib.hid (bytes_get hlt)
            obtain ⟨b1, hb1⟩ : ∃ b, b = letterB (s[j].toNat : Int) := ⟨_, rfl⟩
            obtain ⟨b2, hb2⟩ : ∃ b, b = digitB (s[j].toNat : Int) := ⟨_, rfl⟩
            rw [← hb1] at HL
            rw [← hb2] at HD
            have H1 := Lib.hid hb1
            have H2 := Lib.hid hb2
            have HR2 : Hid ((b1 || b2) = true → ∀ (i : Nat) (c : UInt8), i < j + 1 → s.data.toList[i]? = some c → (letterB (c.toNat : Int) || digitB (c.toNat : Int)) = true) := Lib.hid fun h i c hi hc => by
              rcases Nat.lt_or_ge i j with h3 | h3
              · exact HR.out i c h3 hc
              · obtain rfl : i = j := by omega
                rw [HS.out] at hc; cases hc; rw [← H1.out, ← H2.out]; exact h
            have HF : Hid ((b1 || b2) = false → tnameB s = false) := Lib.hid fun h => by
              rw [HT.out, List.all_eq_false]
              exact ⟨s[j], List.mem_of_getElem? HS.out, by rw [← H1.out, ← H2.out, h]; simp⟩
            clear hb1 hb2 H1 H2 HS
            go_upto_region 6 with (fail)
            apply wp_region_lit
            (with_reducible refine wl_k ?_ ?_); exact rfl; intro K hK; go_simp; refine hK _ ?_; clear hK K
            (with_reducible refine wl_k ?_ ?_); exact rfl; intro K hK; go_simp; refine hK _ ?_; clear hK K
            (with_reducible refine wl_k ?_ ?_); exact rfl; intro K hK; go_simp; refine hK _ ?_; clear hK K
            (with_reducible refine wl_ck ?_ ?_); exact rfl; intro K hK; go_simp; refine ⟨_, _, ⟨rfl, rfl⟩, hK _ _ ⟨_, HL.out, ?_⟩⟩; clear hK K; rintro e w4 ⟨rfl, rfl⟩; refine ⟨_, rfl, ?_⟩; simp only [put_lit, List.set_cons_zero, List.set_cons_succ]
            cases b1 with
            | true =>
              have HR3 := Lib.hid (HR2.out rfl)
              clear HL HD HR2 HF
              (with_reducible refine wl_k ?_ ?_); exact rfl; intro K hK; go_simp; refine hK _ ?_; clear hK K
              (with_reducible refine wl_k ?_ ?_); exact rfl; intro K hK; go_simp; refine hK _ ?_; clear hK K
              (first | ((with_reducible refine wl_skipU ?_ ?_ ?_); exact rfl; exact rfl) | ((with_reducible refine wl_skip ?_ ?_); exact rfl; simp only [put_lit, List.set_cons_zero, List.set_cons_succ]))
              (first | ((with_reducible refine wl_skipU ?_ ?_ ?_); exact rfl; exact rfl) | ((with_reducible refine wl_skip ?_ ?_); exact rfl; simp only [put_lit, List.set_cons_zero, List.set_cons_succ]))
              (first | ((with_reducible refine wl_skipU ?_ ?_ ?_); exact rfl; exact rfl) | ((with_reducible refine wl_skip ?_ ?_); exact rfl; simp only [put_lit, List.set_cons_zero, List.set_cons_succ]))
              (first | ((with_reducible refine wl_skipU ?_ ?_ ?_); exact rfl; exact rfl) | ((with_reducible refine wl_skip ?_ ?_); exact rfl; simp only [put_lit, List.set_cons_zero, List.set_cons_succ]))
              (first | ((with_reducible refine wl_skipU ?_ ?_ ?_); exact rfl; exact rfl) | ((with_reducible refine wl_skip ?_ ?_); exact rfl; simp only [put_lit, List.set_cons_zero, List.set_cons_succ]))
              (with_reducible refine wl_k ?_ ?_); exact rfl; intro K hK; go_simp; refine hK _ ?_; clear hK K
              go_wp2_with fail
              go_roundw
              case rel => exact ⟨j + 1, by omega, by go_num, HR3, trivial⟩
              case measure => simp [intOf]; omega
            | false =>
              (with_reducible refine wl_k ?_ ?_); exact rfl; intro K hK; go_simp; refine hK _ ?_; clear hK K
              (with_reducible refine wl_k ?_ ?_); exact rfl; intro K hK; go_simp; refine hK _ ?_; clear hK K
              (with_reducible refine wl_k ?_ ?_); exact rfl; intro K hK; go_simp; refine hK _ ?_; clear hK K
              (with_reducible refine wl_k ?_ ?_); exact rfl; intro K hK; go_simp; refine hK _ ?_; clear hK K
              (with_reducible refine wl_k ?_ ?_); exact rfl; intro K hK; go_simp; refine hK _ ?_; clear hK K
              (with_reducible refine wl_ck ?_ ?_); exact rfl; intro K hK; go_simp; refine ⟨_, _, ⟨rfl, rfl⟩, hK _ _ ⟨_, HD.out, ?_⟩⟩; clear hK K; rintro e w4 ⟨rfl, rfl⟩; refine ⟨_, rfl, ?_⟩; simp only [put_lit, List.set_cons_zero, List.set_cons_succ]
              cases b2 with
              | true =>
                have HR3 := Lib.hid (HR2.out rfl)
                clear HL HD HR2 HF
                (with_reducible refine wl_k ?_ ?_); exact rfl; intro K hK; go_simp; refine hK _ ?_; clear hK K
                (with_reducible refine wl_k ?_ ?_); exact rfl; intro K hK; go_simp; refine hK _ ?_; clear hK K
                go_wp2_with fail
                go_roundw
                case rel => exact ⟨j + 1, by omega, by go_num, HR3, trivial⟩
                case measure => simp [intOf]; omega
              | false =>
                have HF2 := Lib.hid (HF.out rfl)
                clear HL HD HR2 HF
                (with_reducible refine wl_k ?_ ?_); exact rfl; intro K hK; go_simp; refine hK _ ?_; clear hK K
                (with_reducible refine wl_k ?_ ?_); exact rfl; intro K hK; go_simp; refine hK _ ?_; clear hK K
                go_wp2_with fail
                go_ret
                exact ⟨by rw [HF2.out]; rfl, rfl⟩
          · have hltI : ¬ (j : Int) < (s.size : Int) := by omega
            have HF : Hid (tnameB s = true) := Lib.hid (by
              rw [HT.out, List.all_eq_true]
              intro c hc
              obtain ⟨i, hi⟩ := List.mem_iff_getElem?.1 hc
              exact HR.out i c (by have := (List.getElem?_eq_some_iff.1 hi).1; rw [bytes_size] at this; omega) hi)
            go_wp2_with fail
            go_ret
            exact ⟨by rw [HF.out]; rfl, rfl⟩
end Go.Proofs.YtokmaehefenpmaaGreatDoor
