/- 'each': a function value called at the nodes of a tree until it says no. 'each', 'right', Open and Valid. 'each' with a function value that says what it does only where its state allows it. Lists of names of a call's own; a name put behind. Names sorted, each one once (distinct); the names of a tree (Params). The program's Params: the names of a tree, sorted, each one once. The program's Size: how many nodes a tree has. Contracts of the shelf at this dump, in plain words (written by the kit's own tools; those that are wanted). Lists of numbers of a call's own; a number put behind; such lists sorted, each number once (distinct). The program's Vars: the numbers of a tree's variables, sorted, each one once. The solver's map: an entry laid, an entry changed, a step through the entries; what binding does to what is known. Which variables a tree has, by the program's Vars; Contains; the steps of the loop over the solver's map. -/
import Derived.Test.YtokmaehefenpmaaDoorPE2
import Derived.Sort.OwnSorted
import Derived.Shelf.LaysM
import Derived.Shelf.Sort.Plain
import Derived.Shelf.Slices.CompactS
import Derived.Shelf.Slices.In.SortNone
import Derived.Test.YtokmaehefenpmaaDoorProg
import Derived.Shelf.Slices.Turned
import Derived.Shelf.Slices.CompactI
import Derived.Sort.OwnSortedInts
namespace Go.Proofs.YtokmaehefenpmaaDoor
open Go.RowKit Go.Proofs.YtokmaehefenpmaaDoor.Nm
set_option linter.unusedSimpArgs false
section
variable {σ : Type} (g : Ty → σ → Bool × σ)
mutual
def visit : Ty → σ → Bool × σ
  | .node k s n l, st => match g (.node k s n l) st with | (true, x) => visits l x | (false, x) => (false, x)
def visits : List Ty → σ → Bool × σ
  | [], st => (true, st)
  | t :: l, st => match visit t st with | (true, x) => visits l x | (false, x) => (false, x)
end
end
/-- All blocks stand but those of C. -/
structure Keep (C : Nat → Prop) (w w' : World) : Prop where
  os : w'.os = w.os
  tape : w'.tape = w.tape
  output : w'.output = w.output
  size : w.heap.size ≤ w'.heap.size
  block : ∀ b, b < w.heap.size → ¬ C b → w'.heap[b]? = w.heap[b]?
theorem Keep.of {C : Nat → Prop} {w w' : World} (h : Below w.heap.size w w') : Keep C w w' := ⟨h.os, h.tape, h.output, h.size, fun b hb _ => h.block b hb⟩
theorem Keep.refl (C : Nat → Prop) (w : World) : Keep C w w := Keep.of (Below.refl _ _)
/-- What may change behind a step was there to change ahead of it, or is new. -/
theorem Keep.trans {C C' : Nat → Prop} {w w1 w2 : World} (h : Keep C w w1) (hC : ∀ b, C' b → C b ∨ w.heap.size ≤ b) (h2 : Keep C' w1 w2) : Keep C w w2 :=
  ⟨h2.os.trans h.os, h2.tape.trans h.tape, h2.output.trans h.output, Nat.le_trans h.size h2.size, fun b hb hn => (h2.block b (Nat.lt_of_lt_of_le hb h.size) (fun hc => (hC b hc).elim hn (by omega))).trans (h.block b hb hn)⟩
theorem Keep.look {C : Nat → Prop} {w w' : World} (h : Keep C w w') {b : Nat} {o : Obj} (ho : w.heap[b]? = some o) (hn : ¬ C b) : w'.heap[b]? = some o := (h.block b (heap_lt ho) hn).trans ho
theorem TyAt.keep {C : Nat → Prop} {w w' : World} {D : Nat → Prop} {t : Ty} {row : Array Value} (h : TyAt w D t row) (hk : Keep C w w') (hD : ∀ b, D b → ¬ C b) : TyAt w' D t row :=
  (h.low.mono (fun _ h => h) (fun b h => hk.block b h.2 (hD b h.1))).weak fun _ h => h.1
theorem TysAt.keep {C : Nat → Prop} {w w' : World} {D : Nat → Prop} {ts : List Ty} {A : Option Addr} {l c : Nat} (h : TysAt w D ts A l c) (hk : Keep C w w') (hD : ∀ b, D b → ¬ C b) : TysAt w' D ts A l c := by
  obtain ⟨h1, h2, h3, rows, h4, h5⟩ := h
  exact ⟨h1, h2, h3, rows, fun i t hi => ((h4 i t hi).low.mono (fun _ h => h) (fun b h => hk.block b h.2 (hD b h.1))).mono (fun _ h => h.1) (fun _ _ => rfl), fun i t hi => (h5 i t hi).keep hk hD⟩
section
variable {σ : Type}
/-- What a function value does at a node: its state, the blocks that it may change. -/
structure VisC (Q : Ty → Prop) (K : FuncId) (caps : Array Value) (g : Ty → σ → Bool × σ) (Inv : World → (Nat → Prop) → σ → Prop) : Prop where
  ent : Enters Tryd.prog K
  low : ∀ w C s, Inv w C s → ∀ b, C b → b < w.heap.size
  keep : ∀ w C s, Inv w C s → ∀ w', Below w.heap.size w w' → Inv w' C s
  run : ∀ w C s, Inv w C s → ∀ t, Q t → ∀ (D : Nat → Prop) (row : Array Value), TyAt w D t row → (∀ b, D b → ¬ C b) →
    Calls Tryd.prog K (#[.agg row] ++ caps) w fun e w' => e = .returned (.bool (g t s).1) ∧ ∃ C', ((g t s).1 = true → Inv w' C' (g t s).2) ∧ Keep C w w' ∧ ∀ b, C' b → C b ∨ w.heap.size ≤ b
def VPost (Inv : World → (Nat → Prop) → σ → Prop) (C : Nat → Prop) (w : World) (r : Bool × σ) (e : Ending) (w' : World) : Prop := e = .returned (.bool r.1) ∧ ∃ C', (r.1 = true → Inv w' C' r.2) ∧ Keep C w w' ∧ ∀ b, C' b → C b ∨ w.heap.size ≤ b
end
theorem u51 : Tryd.prog.underlying 51 = some (.func #[24] #[4] false) := by kernel_rfl
theorem g51 {w : World} {p : Nat} {v : Value} {t : TypeId} {fr : Nat × Nat} (h : w.heap[p]? = some (.cells #[v] t fr)) : OneAt w 51 ⟨p, 0, none⟩ v := one_of u51 rfl (by rw [cell_of_row _ _ _ _ _ _ h]; rfl)
/-- Kept blocks: those of the walk itself. -/
structure VisW (w : World) (C : Nat → Prop) (pf pw : Nat) (fv : Value) : Prop where
  f : w.heap[pf]? = some (.cells #[fv] 51 (0, 0))
  w : w.heap[pw]? = some (.cells #[.func (.func 95) #[] #[.pointer (some ⟨pf, 0, none⟩), .pointer (some ⟨pw, 0, none⟩)]] 51 (0, 0))
  nf : ¬ C pf
  nw : ¬ C pw
theorem VisW.keep {w w' : World} {C C' : Nat → Prop} {pf pw : Nat} {fv : Value} (h : VisW w C pf pw fv) (hk : Keep C w w') (hC : ∀ b, C' b → C b ∨ w.heap.size ≤ b) : VisW w' C' pf pw fv :=
  ⟨hk.look h.f h.nf, hk.look h.w h.nw, fun hc => (hC _ hc).elim h.nf (fun e => by have := heap_lt h.f; omega), fun hc => (hC _ hc).elim h.nw (fun e => by have := heap_lt h.w; omega)⟩
section
variable {σ : Type} {Q : Ty → Prop} {K : FuncId} {caps : Array Value} {g : Ty → σ → Bool × σ} {Inv : World → (Nat → Prop) → σ → Prop}
def EachC (Q : Ty → Prop) (K : FuncId) (caps : Array Value) (g : Ty → σ → Bool × σ) (Inv : World → (Nat → Prop) → σ → Prop) (t : Ty) : Prop := Q t → ∀ (w : World) (C : Nat → Prop) (s : σ) (pf pw : Nat) (D : Nat → Prop) (row : Array Value), Inv w C s → VisW w C pf pw (.func (.func K) #[] caps) → TyAt w D t row → (∀ b, D b → ¬ C b) →
  Calls Tryd.prog 95 #[.agg row, .pointer (some ⟨pf, 0, none⟩), .pointer (some ⟨pw, 0, none⟩)] w (VPost Inv C w (visit g t s))
theorem ret_vis {Inv : World → (Nat → Prop) → σ → Prop} {C : Nat → Prop} {w w' : World} {r : Bool × σ} {b : Bool} (hr : r.1 = b) {C' : Nat → Prop} (hI : r.1 = true → Inv w' C' r.2) (hk : Keep C w w') (hC : ∀ b, C' b → C b ∨ w.heap.size ≤ b) : VPost Inv C w r (.returned (.bool b)) w' := ⟨by rw [hr], C', hI, hk, hC⟩
set_option maxHeartbeats 4000000 in
set_option maxRecDepth 100000 in
theorem each1_any (hV : VisC Q K caps g Inv) (hQ : ∀ k s n l, Q (.node k s n l) → ∀ u, u ∈ l → Q u) : ∀ t : Ty, EachC Q K caps g Inv t := Ty.ind fun k s n ts ih hq w C st pf pw D0 row hI hW h0 hD0 => by
  obtain ⟨D, h, hD, hlow⟩ : ∃ D : Nat → Prop, TyAt w D (.node k s n ts) row ∧ (∀ b, D b → ¬ C b) ∧ ∀ b, D b → b < w.heap.size := ⟨fun b => D0 b ∧ b < w.heap.size, h0.low, fun b hb => hD0 b hb.1, fun b hb => hb.2⟩
  have HLW := Lib.hid hlow
  clear h0 hD0 hlow
  obtain ⟨k1, s1, n1, A, l, c, ts1, e, rfl, hk, hn, hs, hT⟩ := h.parts
  cases e
  have HT := Lib.hid hT
  have HTA := Lib.hid h
  have HL := Lib.hid hT.len
  have hcm := hT.cap
  have hmx := hT.max
  unfold maxLen at hmx
  have HQ := Lib.hid hq
  have HIH := Lib.hid (fun t (ht : t ∈ ts) => ih t ht (hQ _ _ _ _ hq t ht))
  have HV := Lib.hid hV
  have HE := Lib.hid hV.ent
  have HD := Lib.hid hD
  have HI := Lib.hid hI
  have HW := Lib.hid hW
  have hCl := Lib.hid (hV.low w C st hI)
  clear h hk hn hs hT ih hq hD hI hV hQ hW
  have hb := Below.refl w.heap.size w
  go_enter Tryd.func95, Tryd.ntmps95
  go_upto_region 0 with (fail)
  apply wp_region_lit
  (with_reducible refine wl_box rfl ?_); intro W p hbn hlp hp; replace hb := hb.trans (hbn.mono hb.size); clear hbn; simp only [Zq]
  (with_reducible refine wl_k ?_ ?_); exact rfl; intro K hK; go_simp; refine hK _ ?_; clear hK K
  have HC := Lib.hid (HV.out.run W C st (HV.out.keep w C st HI.out W hb) (.node k s n ts) HQ.out D _ (HTA.out.old hb) HD.out)
  have hfv := (HW.out.keep (C' := C) (Keep.of hb) (fun b h => Or.inl h)).f
  have hlp2 := heap_lt hp
  go_upto_region 1 with (fail)
  cases hg : g (.node k s n ts) st with
  | mk fb s1 =>
    rw [hg] at HC
    have HK := Lib.hid (Keep.of (C := C) hb)
    cases fb with
    | false =>
      have HR : Hid (visit g (.node k s n ts) st = (false, s1)) := Lib.hid (by rw [visit, hg])
      clear hg
      apply wp_region_lit
      (with_reducible apply wl_oneG); exact rfl; exact rfl; exact g51 hfv
      (first | ((with_reducible apply wl_oneG); exact rfl; exact rfl; first | exact f0 (by with_reducible assumption) | exact f1 (by with_reducible assumption) | exact f2 (by with_reducible assumption) | exact f3 (by with_reducible assumption) | with_reducible assumption | exact g22 (by with_reducible assumption) | exact g25 (by with_reducible assumption)) | ((with_reducible apply wl_rowG); exact rfl; exact rfl; first | with_reducible assumption | exact RowK.now (by with_reducible assumption) | exact f4 (by with_reducible assumption)))
      refine wl_fv rfl _ _ _ rfl rfl rfl HE.out HC.out ?_
      rintro e w7 ⟨rfl, C', hI7, hk7, hC7⟩
      refine ⟨_, rfl, ?_⟩
      simp only [Zq]
      have HI7 := Lib.hid hI7
      have HK7 := Lib.hid (HK.out.trans (fun b hb => Or.inl hb) hk7)
      have HC7 := Lib.hid (show ∀ b, C' b → C b ∨ w.heap.size ≤ b from fun b h => (hC7 b h).imp id (fun h => by omega))
      clear hI7 hk7 hC7
      (with_reducible refine wl_k ?_ ?_); exact rfl; intro K hK; go_simp; refine hK _ ?_; clear hK K
      go_wp2_with fail
      go_ret
      exact ret_vis (by rw [HR.out]) (by rw [HR.out]; exact HI7.out) HK7.out HC7.out
    | true =>
      have HR : Hid (visit g (.node k s n ts) st = visits g ts s1) := Lib.hid (by rw [visit, hg])
      clear hg
      apply wp_region_lit
      (with_reducible apply wl_oneG); exact rfl; exact rfl; exact g51 hfv
      (first | ((with_reducible apply wl_oneG); exact rfl; exact rfl; first | exact f0 (by with_reducible assumption) | exact f1 (by with_reducible assumption) | exact f2 (by with_reducible assumption) | exact f3 (by with_reducible assumption) | with_reducible assumption | exact g22 (by with_reducible assumption) | exact g25 (by with_reducible assumption)) | ((with_reducible apply wl_rowG); exact rfl; exact rfl; first | with_reducible assumption | exact RowK.now (by with_reducible assumption) | exact f4 (by with_reducible assumption)))
      refine wl_fv rfl _ _ _ rfl rfl rfl HE.out HC.out ?_
      rintro e w7 ⟨rfl, C', hI7, hk7, hC7⟩
      refine ⟨_, rfl, ?_⟩
      simp only [Zq]
      have HI7 := Lib.hid (hI7 rfl)
      have HK7 := Lib.hid (HK.out.trans (fun b hb => Or.inl hb) hk7)
      have HC7 := Lib.hid (show ∀ b, C' b → C b ∨ W.heap.size ≤ b from hC7)
      replace hp := hk7.look hp (fun hc => by have := hCl.out _ hc; omega)
      have hWS := hk7.size
      clear hI7 hk7 hC7
      (with_reducible refine wl_k ?_ ?_); exact rfl; intro K hK; go_simp; refine hK _ ?_; clear hK K
      clear HC HK hfv hb
      go_upto_region 3 with (fail)
      apply wp_region_lit
      (with_reducible refine wl_k ?_ ?_); exact rfl; intro K hK; go_simp; refine hK _ ?_; clear hK K
      (first | ((with_reducible apply wl_oneG); exact rfl; exact rfl; first | exact f0 (by with_reducible assumption) | exact f1 (by with_reducible assumption) | exact f2 (by with_reducible assumption) | exact f3 (by with_reducible assumption) | with_reducible assumption | exact g22 (by with_reducible assumption) | exact g25 (by with_reducible assumption)) | ((with_reducible apply wl_rowG); exact rfl; exact rfl; first | with_reducible assumption | exact RowK.now (by with_reducible assumption) | exact f4 (by with_reducible assumption)))
      (with_reducible refine wl_k ?_ ?_); exact rfl; intro K hK; go_simp; refine hK _ ?_; clear hK K
      (with_reducible refine wl_k ?_ ?_); exact rfl; intro K hK; go_simp; refine hK _ ?_; clear hK K
      go_wp2_with fail
      have HST : Hid (visit g (.node k s n ts) st = visits g (ts.drop 0) s1) := HR
      clear HR
      go_loopw [14] (fun i wr => ∃ (j : Nat) (C' : Nat → Prop) (s' : σ), j ≤ l ∧ i = .int .i64 (j : Int) ∧ Hid (visit g (.node k s n ts) st = visits g (ts.drop j) s') ∧ Hid (Inv wr C' s') ∧ Hid (Keep C w wr) ∧ Hid (∀ b, C' b → C b ∨ W.heap.size ≤ b) ∧ W.heap.size ≤ wr.heap.size ∧ wr.heap[p]? = some (.cells (cell4 k s n A l c) 24 (0, 0))) (fun i _ => l - (intOf i).toNat)
      case atStart => exact ⟨0, C', s1, by omega, rfl, HST, HI7, HK7, HC7, hWS, hp⟩
      case round =>
        clear HST HI7 HK7 HC7 hp hWS
        obtain ⟨j, C2, s2, hj, rfl, HR, HI2, HK2, HC2, hWS, hp⟩ := hrel
        by_cases hlt : j < l
        · have hltI : (j : Int) < (l : Int) := by omega
          obtain ⟨b, off, t, row, rfl, -, ht, -⟩ := HT.out.get hlt
          have HT2 := Lib.hid (HT.out.keep HK2.out HD.out)
          obtain ⟨row, hrow, hta⟩ := HT2.out.rowK ht
          obtain ⟨k3, s3, n3, A3, l3, c3, ts3, ht3, rfl, -⟩ := hta.parts
          have HTB := Lib.hid hta
          have HDR : Hid (ts.drop j = t :: ts.drop (j + 1)) := Lib.hid (by rw [List.drop_eq_getElem_cons (by rw [HL.out]; exact hlt)]; rw [List.getElem?_eq_getElem (by rw [HL.out]; exact hlt)] at ht; cases ht; rfl)
          have HM := Lib.hid (List.mem_of_getElem? ht)
          clear ht hta ht3 HT2
          have hz := Below.refl wr.heap.size wr
          go_upto_region 5 with (fail)
          apply wp_region_lit
          (with_reducible refine wl_k ?_ ?_); exact rfl; intro K hK; go_simp; refine hK _ ?_; clear hK K
          (first | ((with_reducible apply wl_oneG); exact rfl; exact rfl; first | exact f0 (by with_reducible assumption) | exact f1 (by with_reducible assumption) | exact f2 (by with_reducible assumption) | exact f3 (by with_reducible assumption) | with_reducible assumption | exact g22 (by with_reducible assumption) | exact g25 (by with_reducible assumption)) | ((with_reducible apply wl_rowG); exact rfl; exact rfl; first | with_reducible assumption | exact RowK.now (by with_reducible assumption) | exact f4 (by with_reducible assumption)))
          have lthpq := heap_lt hp; (with_reducible refine wl_all ?_); intro X1 q hbn hlq hq; replace hp := below_look hbn hp; replace hz := hz.trans (hbn.mono hz.size); clear hbn; simp only [Zq]
          (with_reducible refine wl_put rfl rfl hq ?_); rw [put_noneA]; intro X2 hbx hsz hkx hnx; replace hp := (hkx _ (by omega)).trans hp; replace hz := hbx _ _ (by omega) hz; clear hq; have hq := hnx; clear hnx
          clear hbx hkx hsz
          have HK3 := Lib.hid (HK2.out.trans (C' := C) (fun b h => Or.inl h) (Keep.of hz))
          have HW3 := Lib.hid (HW.out.keep HK2.out (C' := C2) (fun b h => (HC2.out b h).imp id (fun h => by omega)))
          have HW4 := Lib.hid (HW3.out.keep (Keep.of hz) (C' := C2) (fun b h => Or.inl h))
          have HI3 := Lib.hid (HV.out.keep wr C2 s2 HI2.out X2 hz)
          have hC := HIH.out t HM.out X2 C2 s2 pf pw D (cell4 k3 s3 n3 A3 l3 c3) HI3.out HW4.out (HTB.out.old hz) (fun b h hc => (HC2.out b hc).elim (HD.out b h) (fun h2 => by have := HLW.out b h; omega))
          have hpw := HW4.out.w
          have hzs := hz.size
          cases hg : visit g t s2 with
          | mk fb s3' =>
            rw [hg] at hC
            have HC := Lib.hid hC
            clear hC
            cases fb with
            | false =>
              have HF : Hid (visit g (.node k s n ts) st = (false, s3')) := Lib.hid (by rw [HR.out, HDR.out, visits, hg])
              clear hg
              go_upto_region 6 with (fail)
              apply wp_region_lit
              (with_reducible apply wl_oneG); exact rfl; exact rfl; exact g51 hpw
              (first | ((with_reducible apply wl_oneG); exact rfl; exact rfl; first | exact f0 (by with_reducible assumption) | exact f1 (by with_reducible assumption) | exact f2 (by with_reducible assumption) | exact f3 (by with_reducible assumption) | with_reducible assumption | exact g22 (by with_reducible assumption) | exact g25 (by with_reducible assumption)) | ((with_reducible apply wl_rowG); exact rfl; exact rfl; first | with_reducible assumption | exact RowK.now (by with_reducible assumption) | exact f4 (by with_reducible assumption)))
              (with_reducible refine wl_ck ?_ ?_); exact rfl; intro K hK; go_simp; refine ⟨_, _, ⟨rfl, rfl⟩, hK _ _ ⟨_, HC.out, ?_⟩⟩; clear hK K; rintro e w7 ⟨rfl, C7, hI7, hk7, hC7⟩; refine ⟨_, rfl, ?_⟩; simp only [Zq]
              have HI7 := Lib.hid hI7
              have HK7 := Lib.hid (HK3.out.trans (C' := C2) (fun b h => (HC2.out b h).imp id (fun h => by omega)) hk7)
              have HC7 := Lib.hid (show ∀ b, C7 b → C b ∨ w.heap.size ≤ b from fun b h => (hC7 b h).elim (fun h => (HC2.out b h).imp id (fun h => by omega)) (fun h => Or.inr (by have := HK3.out.size; omega)))
              clear hI7 hk7 hC7
              (with_reducible refine wl_k ?_ ?_); exact rfl; intro K hK; go_simp; refine hK _ ?_; clear hK K
              go_wp2_with fail
              go_ret
              exact ret_vis (by rw [HF.out]) (by rw [HF.out]; exact HI7.out) HK7.out HC7.out
            | true =>
              have HF : Hid (visit g (.node k s n ts) st = visits g (ts.drop (j + 1)) s3') := Lib.hid (by rw [HR.out, HDR.out, visits, hg])
              clear hg
              go_upto_region 6 with (fail)
              apply wp_region_lit
              (with_reducible apply wl_oneG); exact rfl; exact rfl; exact g51 hpw
              (first | ((with_reducible apply wl_oneG); exact rfl; exact rfl; first | exact f0 (by with_reducible assumption) | exact f1 (by with_reducible assumption) | exact f2 (by with_reducible assumption) | exact f3 (by with_reducible assumption) | with_reducible assumption | exact g22 (by with_reducible assumption) | exact g25 (by with_reducible assumption)) | ((with_reducible apply wl_rowG); exact rfl; exact rfl; first | with_reducible assumption | exact RowK.now (by with_reducible assumption) | exact f4 (by with_reducible assumption)))
              (with_reducible refine wl_ck ?_ ?_); exact rfl; intro K hK; go_simp; refine ⟨_, _, ⟨rfl, rfl⟩, hK _ _ ⟨_, HC.out, ?_⟩⟩; clear hK K; rintro e w7 ⟨rfl, C7, hI7, hk7, hC7⟩; refine ⟨_, rfl, ?_⟩; simp only [Zq]
              have HI7 := Lib.hid (hI7 rfl)
              have HK7 := Lib.hid (HK3.out.trans (C' := C2) (fun b h => (HC2.out b h).imp id (fun h => by omega)) hk7)
              have HC7 := Lib.hid (show ∀ b, C7 b → C b ∨ W.heap.size ≤ b from fun b h => (hC7 b h).elim (fun h => HC2.out b h) (fun h => Or.inr (by omega)))
              have hWS7 := hk7.size
              replace hp := hk7.look hp (fun hc => (HC2.out _ hc).elim (fun h => by have := hCl.out _ h; omega) (fun h => by omega))
              clear hI7 hk7 hC7
              (with_reducible refine wl_k ?_ ?_); exact rfl; intro K hK; go_simp; refine hK _ ?_; clear hK K
              clear hrow hq hpw HC HR HDR HI2 HK2 HC2
              go_wp2_with fail
              go_roundw
              case rel => exact ⟨j + 1, C7, s3', by omega, by go_num, HF, HI7, HK7, HC7, by omega, hp⟩
              case measure => simp [intOf]; omega
        · have hltI : ¬ (j : Int) < (l : Int) := by omega
          have HF : Hid (visit g (.node k s n ts) st = (true, s2)) := Lib.hid (by rw [HR.out, List.drop_of_length_le (by rw [HL.out]; omega), visits])
          clear HR
          go_wp2_with fail
          go_ret
          exact ret_vis (by rw [HF.out]) (fun _ => by rw [HF.out]; exact HI2.out) HK2.out (fun b h => (HC2.out b h).imp id (fun h => by omega))
end
open Go.RowKit Go.Proofs.YtokmaehefenpmaaDoor.Nm
set_option linter.unusedSimpArgs false
theorem info51 : (Tryd.prog.info? 51).map (·.size) = some 1 := by kernel_rfl
theorem run_box51 (fn : Fn) (f c : Array Value) (w : World) : (Instr.box 51 (.func fn f c)).run Tryd.prog w = .ok (.pointer (some ⟨w.heap.size, 0, none⟩)) (w.alloc (.cells #[.func fn f c] 51)) := by kernel_rfl
theorem run_box4 (b : Bool) (w : World) : (Instr.box 4 (.bool b)).run Tryd.prog w = .ok (.pointer (some ⟨w.heap.size, 0, none⟩)) (w.alloc (.cells #[.bool b] 4)) := by kernel_rfl
theorem ex_alloc51 {o : Oper} (ho : o.op = .alloc 51) (ev : Operand → Value) (w : World) : (execOp ev o).run Tryd.prog w = .ok (.value (.pointer (some ⟨w.heap.size, 0, none⟩))) (w.alloc (.cells #[.nilFunc] 51)) := by
  unfold execOp
  simp only [ho]
  kernel_rfl
theorem ex_alloc3 {o : Oper} (ho : o.op = .alloc 3) (ev : Operand → Value) (w : World) : (execOp ev o).run Tryd.prog w = .ok (.value (.pointer (some ⟨w.heap.size, 0, none⟩))) (w.alloc (.cells #[.int .i64 0] 3)) := by
  unfold execOp
  simp only [ho]
  kernel_rfl
section
variable {ops : Array Oper} {rest : List Oper} {dst : Option Tmp} {ty ty' : TypeId} {x y : Operand} {pos : String} {after : Array Edge} {a : Act} {w : World} {Q : Exit → Act → World → Prop}
theorem wl_box51 {fn : Fn} {f c : Array Value} (hx : a.eval x = .func fn f c)
    (h : ∀ W p, Below w.heap.size w W → w.heap.size ≤ p → W.heap[p]? = some (.cells #[.func fn f c] 51 (0, 0)) → wpList Tryd.prog ops Q rest (a.put dst (.pointer (some ⟨p, 0, none⟩))) W) :
    wpList Tryd.prog ops Q (⟨dst, .box 51 x, ty', pos, after, none⟩ :: rest) a w :=
  wl_w rfl (by unfold execOp; simp [hx, run_box51 fn f c w, Result.andThen]) (h _ _ ((Below.refl _ w).alloc (Nat.le_refl _) _) (Nat.le_refl _) (ha_new rfl))
theorem wl_box4 {b : Bool} (hx : a.eval x = .bool b)
    (h : ∀ W p, Below w.heap.size w W → w.heap.size ≤ p → W.heap[p]? = some (.cells #[.bool b] 4 (0, 0)) → wpList Tryd.prog ops Q rest (a.put dst (.pointer (some ⟨p, 0, none⟩))) W) :
    wpList Tryd.prog ops Q (⟨dst, .box 4 x, ty', pos, after, none⟩ :: rest) a w :=
  wl_w rfl (by unfold execOp; simp [hx, run_box4 b w, Result.andThen]) (h _ _ ((Below.refl _ w).alloc (Nat.le_refl _) _) (Nat.le_refl _) (ha_new rfl))
theorem wl_all51 (h : ∀ W p, Below w.heap.size w W → w.heap.size ≤ p → W.heap[p]? = some (.cells #[.nilFunc] 51 (0, 0)) → wpList Tryd.prog ops Q rest (a.put dst (.pointer (some ⟨p, 0, none⟩))) W) :
    wpList Tryd.prog ops Q (⟨dst, .alloc 51, ty', pos, after, none⟩ :: rest) a w :=
  wl_w rfl (ex_alloc51 rfl _ w) (h _ _ ((Below.refl _ w).alloc (Nat.le_refl _) _) (Nat.le_refl _) (ha_new rfl))
theorem wl_all3 (h : ∀ W p, Below w.heap.size w W → w.heap.size ≤ p → W.heap[p]? = some (.cells #[.int .i64 0] 3 (0, 0)) → wpList Tryd.prog ops Q rest (a.put dst (.pointer (some ⟨p, 0, none⟩))) W) :
    wpList Tryd.prog ops Q (⟨dst, .alloc 3, ty', pos, after, none⟩ :: rest) a w :=
  wl_w rfl (ex_alloc3 rfl _ w) (h _ _ ((Below.refl _ w).alloc (Nat.le_refl _) _) (Nat.le_refl _) (ha_new rfl))
/-- One cell over a variable of one cell. -/
theorem wl_put1 {p : Nat} {v0 v : Value} {t : TypeId} (hi : (Tryd.prog.info? ty).map (·.size) = some 1) (h1 : v.oneCell' = true) (hx : a.eval x = .pointer (some ⟨p, 0, none⟩)) (hy : a.eval y = v) (hp : w.heap[p]? = some (.cells #[v0] t (0, 0)))
    (h : ∀ W, (∀ B w0, B ≤ p → Below B w0 w → Below B w0 W) → W.heap.size = w.heap.size → (∀ g, g ≠ p → W.heap[g]? = w.heap[g]?) → W.heap[p]? = some (.cells #[v] t (0, 0)) → wpList Tryd.prog ops Q rest (a.put none undef) W) :
    wpList Tryd.prog ops Q (⟨none, .store ty x y, ty', pos, after, none⟩ :: rest) a w := by
  refine wl_storeC rfl ty x y rfl p 0 _ hx hy hi h1 (by rw [cell_of_row _ _ _ _ _ _ hp]; rfl) (by unfold World.frozen?; rw [hp]; rfl) ?_
  exact h _ (fun B w0 hB hb => hb.setCell hB _) (by simp [World.setCell]) (fun g hg => heap_setCell_other _ _ _ _ hg) (by rw [hs_new hp]; rfl)
end
section
variable {σ : Type} {Q : Ty → Prop} {K : FuncId} {caps : Array Value} {g : Ty → σ → Bool × σ} {Inv : World → (Nat → Prop) → σ → Prop}
set_option maxHeartbeats 4000000 in
set_option maxRecDepth 100000 in
theorem each_any (hV : VisC Q K caps g Inv) (hQ : ∀ k s n l, Q (.node k s n l) → ∀ u, u ∈ l → Q u) (t : Ty) (hq : Q t) (w : World) (C : Nat → Prop) (st : σ) (D : Nat → Prop) (row : Array Value) (hI : Inv w C st) (h : TyAt w D t row) (hD : ∀ b, D b → ¬ C b) :
    Calls Tryd.prog 66 #[.agg row, .func (.func K) #[] caps] w (VPost Inv C w (visit g t st)) := by
  have hmf : ∀ (fn : Fn) (first cap : Array Value) (w : World), (Instr.makeFunc fn first cap).run Tryd.prog w = .ok (.func fn first cap) w := fun _ _ _ _ => rfl
  obtain ⟨k, s, n, A, l, c, ts, he, rfl, -⟩ := h.parts
  have HT := Lib.hid h
  have HE := Lib.hid (each1_any hV hQ t hq)
  have HV := Lib.hid hV
  have HI := Lib.hid hI
  have HD := Lib.hid hD
  have hCl := Lib.hid (hV.low w C st hI)
  clear h hV hq hI hD he hQ
  have hb := Below.refl w.heap.size w
  go_enter Tryd.func66, Tryd.ntmps66
  go_upto_region 0 with (fail)
  apply wp_region_lit
  (with_reducible refine wl_box rfl ?_); intro W p hbn hlp hp; replace hb := hb.trans (hbn.mono hb.size); clear hbn; simp only [Zq]
  have lthppf := heap_lt hp; (with_reducible refine wl_box51 rfl ?_); intro W1 pf hbn hlpf hpf; replace hp := below_look hbn hp; replace hb := hb.trans (hbn.mono hb.size); clear hbn; simp only [Zq]
  (with_reducible refine wl_k ?_ ?_); exact rfl; intro K hK; go_simp; refine hK _ ?_; clear hK K
  go_upto_region 1 with (fail)
  apply wp_region_lit
  have lthppw := heap_lt hp; have lthpfpw := heap_lt hpf; (with_reducible refine wl_all51 ?_); intro W2 pw hbn hlpw hpw; replace hp := below_look hbn hp; replace hpf := below_look hbn hpf; replace hb := hb.trans (hbn.mono hb.size); clear hbn; simp only [Zq]
  go_upto_region 2 with (fail)
  apply wp_region_lit
  (with_reducible refine wl_k ?_ ?_); exact rfl; intro K hK; go_simp; refine hK _ ?_; clear hK K
  (with_reducible refine wl_put1 (v := .func (.func 95) #[] #[.pointer (some ⟨pf, 0, none⟩), .pointer (some ⟨pw, 0, none⟩)]) info51 ?_ ?_ ?_ hpw ?_); exact rfl; exact rfl; exact rfl; rw [put_noneA]; intro W3 hbx hsz hkx hnx; replace hp := (hkx _ (by omega)).trans hp; replace hpf := (hkx _ (by omega)).trans hpf; replace hb := hbx _ _ (by omega) hb; clear hpw; have hpw := hnx; clear hnx
  clear hbx hkx hsz
  have HC := Lib.hid (HE.out W3 C st pf pw D _ (HV.out.keep w C st HI.out W3 hb) ⟨hpf, hpw, fun hc => by have := hCl.out _ hc; omega, fun hc => by have := hCl.out _ hc; omega⟩ (HT.out.old hb) HD.out)
  go_upto_region 3 with (fail)
  apply wp_region_lit
  (with_reducible apply wl_oneG); exact rfl; exact rfl; exact g51 hpw
  (first | ((with_reducible apply wl_oneG); exact rfl; exact rfl; first | exact f0 (by with_reducible assumption) | exact f1 (by with_reducible assumption) | exact f2 (by with_reducible assumption) | exact f3 (by with_reducible assumption) | with_reducible assumption | exact g22 (by with_reducible assumption) | exact g25 (by with_reducible assumption)) | ((with_reducible apply wl_rowG); exact rfl; exact rfl; first | with_reducible assumption | exact RowK.now (by with_reducible assumption) | exact f4 (by with_reducible assumption)))
  (with_reducible refine wl_ck ?_ ?_); exact rfl; intro K hK; go_simp; refine ⟨_, _, ⟨rfl, rfl⟩, hK _ _ ⟨_, HC.out, ?_⟩⟩; clear hK K; rintro e w7 ⟨rfl, C7, hI7, hk7, hC7⟩; refine ⟨_, rfl, ?_⟩; simp only [Zq]
  have HI7 := Lib.hid hI7
  have HK7 := Lib.hid ((Keep.of hb).trans (fun b h => Or.inl h) hk7)
  have HC7 := Lib.hid (show ∀ b, C7 b → C b ∨ w.heap.size ≤ b from fun b h => (hC7 b h).imp id (fun h => by have := hb.size; omega))
  clear hI7 hk7 hC7 hp hpf hpw
  (with_reducible refine wl_k ?_ ?_); exact rfl; intro K hK; go_simp; refine hK _ ?_; clear hK K
  go_wp2_with fail
  go_ret
  exact ret_vis rfl HI7.out HK7.out HC7.out
end
theorem g3 {w : World} {p : Nat} {v : Value} {t : TypeId} {fr : Nat × Nat} (h : w.heap[p]? = some (.cells #[v] t fr)) : OneAt w 3 ⟨p, 0, none⟩ v := one_of u3 rfl (by rw [cell_of_row _ _ _ _ _ _ h]; rfl)
theorem g4 {w : World} {p : Nat} {v : Value} {t : TypeId} {fr : Nat × Nat} (h : w.heap[p]? = some (.cells #[v] t fr)) : OneAt w 4 ⟨p, 0, none⟩ v := one_of u4 rfl (by rw [cell_of_row _ _ _ _ _ _ h]; rfl)
theorem ent103 : Enters Tryd.prog 103 := enters_of Tryd.func103 (by kernel_rfl) rfl
/-- What 'right' does at a node. -/
def stepR (f : Ty → Bool) (t : Ty) (left : Int) : Bool × Int := (if 0 ≤ left - 1 ∧ f t = true then true else false, left - 1)
/-- The counter of 'right', its variable and that of 'open'. -/
def InvR (op : Bool) (pl po : Nat) (w : World) (C : Nat → Prop) (left : Int) : Prop :=
  w.heap[pl]? = some (.cells #[.int .i64 left] 3 (0, 0)) ∧ w.heap[po]? = some (.cells #[.bool op] 4 (0, 0)) ∧ pl ≠ po ∧ (∀ b, C b ↔ b = pl) ∧ 0 ≤ left ∧ left ≤ 1000
def ShC (op : Bool) (f : Ty → Bool) (t : Ty) : Prop := ∀ (w : World) (D : Nat → Prop) (row : Array Value), TyAt w D t row → Calls Tryd.prog 104 #[.agg row, .bool op] w fun e w' => e = .returned (.bool (f t)) ∧ Below w.heap.size w w'
theorem stepR_eq (f : Ty → Bool) (k : Int) (s : ByteArray) (n : Int) (l : List Ty) (left : Int) : stepR f (.node k s n l) left = if 0 ≤ left - 1 ∧ f (.node k s n l) = true then (true, left - 1) else (false, left - 1) := by
  unfold stepR; split <;> rfl
theorem stepR_ok (f : Ty → Bool) (t : Ty) {left : Int} (h : 0 ≤ left - 1) : (stepR f t left).1 = f t := by
  unfold stepR
  cases hf : f t with
  | true => rw [if_pos ⟨h, rfl⟩]
  | false => rw [if_neg (fun hh => by cases hh.2)]
theorem visit_chk (f : Ty → Bool) : ∀ (t : Ty) (left : Int), visit (stepR f) t left = chk f t left := Ty.ind fun k s n l ih left => by
  have hl : ∀ (l : List Ty), (∀ t, t ∈ l → ∀ left, visit (stepR f) t left = chk f t left) → ∀ left, visits (stepR f) l left = chks f l left := by
    intro l
    induction l with
    | nil => intro _ left; rfl
    | cons t l ihl =>
      intro h left
      simp only [visits, chks, h t (by simp)]
      cases chk f t left with
      | mk b x => cases b with
        | false => rfl
        | true => exact ihl (fun t ht => h t (by simp [ht])) x
  simp only [visit, chk, stepR_eq]
  by_cases hc : 0 ≤ left - 1 ∧ f (.node k s n l) = true
  · rw [if_pos hc, if_pos hc]; exact hl l ih _
  · rw [if_neg hc, if_neg hc]
set_option maxHeartbeats 4000000 in
set_option maxRecDepth 100000 in
theorem right1_any (op : Bool) (f : Ty → Bool) (pl po : Nat) (left : Int) (hleft : -1000 ≤ left ∧ left ≤ 1000) (t : Ty) (hS : ShC op f t) (w : World) (C : Nat → Prop) (hl : w.heap[pl]? = some (.cells #[.int .i64 left] 3 (0, 0))) (ho : w.heap[po]? = some (.cells #[.bool op] 4 (0, 0))) (hne : pl ≠ po) (hCl : C pl) (D : Nat → Prop) (row : Array Value) (h : TyAt w D t row) (hD : ∀ b, D b → ¬ C b) :
    Calls Tryd.prog 103 #[.agg row, .pointer (some ⟨pl, 0, none⟩), .pointer (some ⟨po, 0, none⟩)] w fun e w' => e = .returned (.bool (stepR f t left).1) ∧ w'.heap[pl]? = some (.cells #[.int .i64 (left - 1)] 3 (0, 0)) ∧ w'.heap[po]? = some (.cells #[.bool op] 4 (0, 0)) ∧ Keep C w w' := by
  obtain ⟨k, s, n, A, l, c, ts, he, rfl, -⟩ := h.parts
  have HT := Lib.hid h
  have HS := Lib.hid hS
  have HD := Lib.hid hD
  obtain ⟨h1, h2⟩ := hleft
  clear h hS hD he
  have hb := Below.refl w.heap.size w
  go_enter Tryd.func103, Tryd.ntmps103
  go_upto_region 0 with (fail)
  apply wp_region_lit
  have lthlp := heap_lt hl; have lthop := heap_lt ho; (with_reducible refine wl_box rfl ?_); intro W p hbn hlp hp; replace hl := below_look hbn hl; replace ho := below_look hbn ho; replace hb := hb.trans (hbn.mono hb.size); clear hbn; simp only [Zq]
  (with_reducible refine wl_k ?_ ?_); exact rfl; intro K hK; go_simp; refine hK _ ?_; clear hK K
  have hTW := HT.out.old hb
  have HKP := Lib.hid (Keep.of (C := C) hb)
  go_upto_region 1 with (fail)
  apply wp_region_lit
  ((with_reducible apply wl_oneG); exact rfl; exact rfl; exact g3 hl)
  simp only [Zq]
  have hwr : IntKind.i64.wrap (left - 1) = left - 1 := IntWalk.i64_in _ (by omega)
  (with_reducible refine wl_k ?_ ?_); exact rfl; intro K hK; go_simp; refine hK _ ?_; clear hK K
  clear hwr
  (with_reducible refine wl_put1 (v := .int .i64 (left - 1)) info3 ?_ ?_ ?_ hl ?_); exact rfl; exact rfl; exact rfl; rw [put_noneA]; intro W2 hbx hsz hkx hnx; replace ho := (hkx _ (by omega)).trans ho; replace hp := (hkx _ (by omega)).trans hp; clear hl; have hl := hnx; clear hnx
  have HTW := Lib.hid ((hTW.low.mono (w' := W2) (fun _ h => h) (fun b hb => hkx b (fun e => HD.out b hb.1 (by rw [e]; exact hCl)))).weak (D' := D) fun b h => h.1)
  replace HKP := Lib.hid (HKP.out.trans (C' := C) (fun b h => Or.inl h) (w2 := W2) ⟨(hbx 0 W (Nat.zero_le _) (Below.refl _ _)).os, (hbx 0 W (Nat.zero_le _) (Below.refl _ _)).tape, (hbx 0 W (Nat.zero_le _) (Below.refl _ _)).output, (hbx 0 W (Nat.zero_le _) (Below.refl _ _)).size, fun b _ hn => hkx b (fun e => hn (by rw [e]; exact hCl))⟩)
  clear hbx hkx hsz hTW hb
  by_cases h3 : 0 ≤ left - 1
  · have e3 : (left - 1) ≥ 0 := h3
    have e4 : 1 ≤ left := by omega
    have hC := HS.out W2 D _ HTW.out
    have HR : Hid ((stepR f t left).1 = f t) := Lib.hid (stepR_ok f t h3)
    obtain ⟨fb, hfb⟩ : ∃ fb, fb = f t := ⟨_, rfl⟩
    rw [← hfb] at HR hC
    have HC := Lib.hid hC
    clear hC hfb
    go_upto_region 2 with (fail)
    apply wp_region_lit
    (with_reducible apply wl_oneG); exact rfl; exact rfl; exact g3 hl
    (with_reducible refine wl_k ?_ ?_); exact rfl; intro K hK; go_simp; refine hK _ ?_; clear hK K
    (with_reducible refine wl_k ?_ ?_); exact rfl; intro K hK; go_simp; refine hK _ ?_; clear hK K
    (first | ((with_reducible apply wl_oneG); exact rfl; exact rfl; first | exact f0 (by with_reducible assumption) | exact f1 (by with_reducible assumption) | exact f2 (by with_reducible assumption) | exact f3 (by with_reducible assumption) | with_reducible assumption | exact g22 (by with_reducible assumption) | exact g25 (by with_reducible assumption)) | ((with_reducible apply wl_rowG); exact rfl; exact rfl; first | with_reducible assumption | exact RowK.now (by with_reducible assumption) | exact f4 (by with_reducible assumption)))
    (with_reducible apply wl_oneG); exact rfl; exact rfl; exact g4 ho
    (with_reducible refine wl_ck ?_ ?_); exact rfl; intro K hK; go_simp; refine ⟨_, _, ⟨rfl, rfl⟩, hK _ _ ⟨_, HC.out, ?_⟩⟩; clear hK K; rintro e w7 ⟨rfl, hb7⟩; refine ⟨_, rfl, ?_⟩; simp only [Zq]
    (with_reducible refine wl_k ?_ ?_); exact rfl; intro K hK; go_simp; refine hK _ ?_; clear hK K
    (with_reducible refine wl_k ?_ ?_); exact rfl; intro K hK; go_simp; refine hK _ ?_; clear hK K
    replace HKP := Lib.hid (HKP.out.trans (C' := C) (fun b h => Or.inl h) (Keep.of hb7))
    replace hl := below_look hb7 hl; replace ho := below_look hb7 ho; clear hb7
    have HL := Lib.hid hl
    have HO := Lib.hid ho
    clear hl ho hp HC
    go_wp2_with fail
    go_ret
    exact ⟨by rw [HR.out]; rfl, HL.out, HO.out, HKP.out⟩
  · have e3 : ¬ (left - 1) ≥ 0 := h3
    have e4 : ¬ 1 ≤ left := by omega
    have e5 : left < 1 := by omega
    have HR : Hid ((stepR f t left).1 = false) := Lib.hid (by
      unfold stepR
      rw [if_neg (fun h => h3 h.1)])
    have HL := Lib.hid hl
    have HO := Lib.hid ho
    go_upto_region 2 with (fail)
    apply wp_region_lit
    (with_reducible apply wl_oneG); exact rfl; exact rfl; exact g3 hl
    (with_reducible refine wl_k ?_ ?_); exact rfl; intro K hK; go_simp; refine hK _ ?_; clear hK K
    (with_reducible refine wl_k ?_ ?_); exact rfl; intro K hK; go_simp; refine hK _ ?_; clear hK K
    (first | ((with_reducible refine wl_skipU ?_ ?_ ?_); exact rfl; exact rfl) | ((with_reducible refine wl_skip ?_ ?_); exact rfl; simp only [Zq]))
    (first | ((with_reducible refine wl_skipU ?_ ?_ ?_); exact rfl; exact rfl) | ((with_reducible refine wl_skip ?_ ?_); exact rfl; simp only [Zq]))
    (first | ((with_reducible refine wl_skipU ?_ ?_ ?_); exact rfl; exact rfl) | ((with_reducible refine wl_skip ?_ ?_); exact rfl; simp only [Zq]))
    (with_reducible refine wl_k ?_ ?_); exact rfl; intro K hK; go_simp; refine hK _ ?_; clear hK K
    (with_reducible refine wl_k ?_ ?_); exact rfl; intro K hK; go_simp; refine hK _ ?_; clear hK K
    clear hl ho hp
    go_wp2_with fail
    go_ret
    exact ⟨by rw [HR.out]; rfl, HL.out, HO.out, HKP.out⟩
theorem visC_right (op : Bool) (f : Ty → Bool) (Q : Ty → Prop) (hS : ∀ t, Q t → ShC op f t) (pl po : Nat) : VisC Q 103 #[.pointer (some ⟨pl, 0, none⟩), .pointer (some ⟨po, 0, none⟩)] (stepR f) (InvR op pl po) where
  ent := ent103
  low := fun w C s hI b hb => by rw [(hI.2.2.2.1 b).1 hb]; exact heap_lt hI.1
  keep := fun w C s hI w' hb => ⟨below_look hb hI.1, below_look hb hI.2.1, hI.2.2⟩
  run := fun w C s hI t hq D row h hD => by
    obtain ⟨h1, h2, h3, h4, h5, h6⟩ := hI
    refine (right1_any op f pl po s ⟨by omega, h6⟩ t (hS t hq) w C h1 h2 h3 ((h4 pl).2 rfl) D row h hD).mono ?_
    rintro e w' ⟨rfl, g1, g2, g3⟩
    refine ⟨rfl, C, fun hr => ⟨by simpa [stepR] using g1, g2, h3, h4, ?_, ?_⟩, g3, fun b h => Or.inl h⟩
    · unfold stepR at hr
      split at hr
      · rename_i hh; exact hh.1
      · cases hr
    · simp only [stepR]; omega
set_option maxHeartbeats 4000000 in
set_option maxRecDepth 100000 in
theorem right_any (op : Bool) (f : Ty → Bool) (Q : Ty → Prop) (hS : ∀ t, Q t → ShC op f t) (hQ : ∀ k s n l, Q (.node k s n l) → ∀ u, u ∈ l → Q u) (t : Ty) (hq : Q t) (w : World) (D : Nat → Prop) (row : Array Value) (h : TyAt w D t row) :
    Calls Tryd.prog 74 #[.agg row, .bool op] w fun e w' => e = .returned (.bool (chk f t 40).1) ∧ Below w.heap.size w w' := by
  have hmf : ∀ (fn : Fn) (first cap : Array Value) (w : World), (Instr.makeFunc fn first cap).run Tryd.prog w = .ok (.func fn first cap) w := fun _ _ _ _ => rfl
  obtain ⟨D0, h0, hlow⟩ : ∃ D : Nat → Prop, TyAt w D t row ∧ ∀ b, D b → b < w.heap.size := ⟨fun b => D b ∧ b < w.heap.size, h.low, fun b hb => hb.2⟩
  obtain ⟨k, s, n, A, l, c, ts, he, rfl, -⟩ := h.parts
  have HT := Lib.hid h0
  have HLW := Lib.hid hlow
  have HE := Lib.hid fun pl po w C z => each_any (visC_right op f Q hS pl po) hQ t hq w C z D0 (cell4 k s n A l c)
  clear h h0 hlow hq hS hQ he
  have hb := Below.refl w.heap.size w
  go_enter Tryd.func74, Tryd.ntmps74
  go_upto_region 0 with (fail)
  apply wp_region_lit
  (with_reducible refine wl_box rfl ?_); intro W p hbn hlp hp; replace hb := hb.trans (hbn.mono hb.size); clear hbn; simp only [Zq]
  have lthppo := heap_lt hp; (with_reducible refine wl_box4 rfl ?_); intro W1 po hbn hlpo hpo; replace hp := below_look hbn hp; replace hb := hb.trans (hbn.mono hb.size); clear hbn; simp only [Zq]
  (with_reducible refine wl_k ?_ ?_); exact rfl; intro K hK; go_simp; refine hK _ ?_; clear hK K
  go_upto_region 1 with (fail)
  apply wp_region_lit
  have lthppl := heap_lt hp; have lthpopl := heap_lt hpo; (with_reducible refine wl_all3 ?_); intro W2 pl hbn hlpl hpl; replace hp := below_look hbn hp; replace hpo := below_look hbn hpo; replace hb := hb.trans (hbn.mono hb.size); clear hbn; simp only [Zq]
  (with_reducible refine wl_put1 (v := .int .i64 40) info3 ?_ ?_ ?_ hpl ?_); exact rfl; exact rfl; exact rfl; rw [put_noneA]; intro W3 hbx hsz hkx hnx; replace hp := (hkx _ (by omega)).trans hp; replace hpo := (hkx _ (by omega)).trans hpo; replace hb := hbx _ _ (by omega) hb; clear hpl; have hpl := hnx; clear hnx
  clear hbx hkx hsz
  have hlt := heap_lt hpl
  have HC := Lib.hid (HE.out pl po W3 (fun b => b = pl) 40 ⟨hpl, hpo, by omega, fun b => Iff.rfl, by omega, by omega⟩ (HT.out.old hb) (fun b hb e => by have := HLW.out b hb; omega))
  go_upto_region 2 with (fail)
  apply wp_region_lit
  (first | ((with_reducible apply wl_oneG); exact rfl; exact rfl; first | exact f0 (by with_reducible assumption) | exact f1 (by with_reducible assumption) | exact f2 (by with_reducible assumption) | exact f3 (by with_reducible assumption) | with_reducible assumption | exact g22 (by with_reducible assumption) | exact g25 (by with_reducible assumption)) | ((with_reducible apply wl_rowG); exact rfl; exact rfl; first | with_reducible assumption | exact RowK.now (by with_reducible assumption) | exact f4 (by with_reducible assumption)))
  (with_reducible refine wl_k ?_ ?_); exact rfl; intro K hK; go_simp; refine hK _ ?_; clear hK K
  (with_reducible refine wl_ck ?_ ?_); exact rfl; intro K hK; go_simp; refine ⟨_, _, ⟨rfl, rfl⟩, hK _ _ ⟨_, HC.out, ?_⟩⟩; clear hK K; rintro e w7 ⟨rfl, C7, -, hk7, -⟩; refine ⟨_, rfl, ?_⟩; simp only [Zq]
  (with_reducible refine wl_k ?_ ?_); exact rfl; intro K hK; go_simp; refine hK _ ?_; clear hK K
  have hb7 : Below w.heap.size w w7 := hb.trans ⟨hk7.os, hk7.tape, hk7.output, hk7.size, fun b hlt2 => hk7.block b (by have := hb.size; omega) (by omega)⟩
  have HR : Hid ((visit (stepR f) t 40).1 = (chk f t 40).1) := Lib.hid (by rw [visit_chk])
  clear hk7 hp hpo hpl HC
  go_wp2_with fail
  go_ret
  exact ⟨by rw [← HR.out]; rfl, hb7⟩
/-- Open and Valid. -/
theorem Open_any (f : Ty → Bool) (Q : Ty → Prop) (hS : ∀ t, Q t → ShC true f t) (hQ : ∀ k s n l, Q (.node k s n l) → ∀ u, u ∈ l → Q u) (t : Ty) (hq : Q t) (w : World) (D : Nat → Prop) (row : Array Value) (h : TyAt w D t row) :
    Calls Tryd.prog 59 #[.agg row] w fun e w' => e = .returned (.bool (chk f t 40).1) ∧ Below w.heap.size w w' := by
  obtain ⟨k, s, n, A, l, c, ts, he, rfl, -⟩ := h.parts
  have HT := Lib.hid h
  have HE := Lib.hid fun w D => right_any true f Q hS hQ t hq w D (cell4 k s n A l c)
  clear h hS hQ hq he
  have hb := Below.refl w.heap.size w
  go_enter Tryd.func59, Tryd.ntmps59
  go_upto_region 0 with (fail)
  apply wp_region_lit
  (with_reducible refine wl_box rfl ?_); intro W p hbn hlp hp; replace hb := hb.trans (hbn.mono hb.size); clear hbn; simp only [Zq]
  (with_reducible refine wl_k ?_ ?_); exact rfl; intro K hK; go_simp; refine hK _ ?_; clear hK K
  have HC := Lib.hid (HE.out W D (HT.out.old hb))
  go_upto_region 1 with (fail)
  apply wp_region_lit
  (first | ((with_reducible apply wl_oneG); exact rfl; exact rfl; first | exact f0 (by with_reducible assumption) | exact f1 (by with_reducible assumption) | exact f2 (by with_reducible assumption) | exact f3 (by with_reducible assumption) | with_reducible assumption | exact g22 (by with_reducible assumption) | exact g25 (by with_reducible assumption)) | ((with_reducible apply wl_rowG); exact rfl; exact rfl; first | with_reducible assumption | exact RowK.now (by with_reducible assumption) | exact f4 (by with_reducible assumption)))
  (with_reducible refine wl_ck ?_ ?_); exact rfl; intro K hK; go_simp; refine ⟨_, _, ⟨rfl, rfl⟩, hK _ _ ⟨_, HC.out, ?_⟩⟩; clear hK K; rintro e w7 ⟨rfl, hb7⟩; refine ⟨_, rfl, ?_⟩; simp only [Zq]
  (with_reducible refine wl_k ?_ ?_); exact rfl; intro K hK; go_simp; refine hK _ ?_; clear hK K
  replace hb := hb.trans (hb7.mono hb.size); clear hb7
  clear hp HC
  go_wp2_with fail
  go_ret
  exact ⟨rfl, hb⟩
theorem Valid_any (f : Ty → Bool) (Q : Ty → Prop) (hS : ∀ t, Q t → ShC false f t) (hQ : ∀ k s n l, Q (.node k s n l) → ∀ u, u ∈ l → Q u) (t : Ty) (hq : Q t) (w : World) (D : Nat → Prop) (row : Array Value) (h : TyAt w D t row) :
    Calls Tryd.prog 47 #[.agg row] w fun e w' => e = .returned (.bool (chk f t 40).1) ∧ Below w.heap.size w w' := by
  obtain ⟨k, s, n, A, l, c, ts, he, rfl, -⟩ := h.parts
  have HT := Lib.hid h
  have HE := Lib.hid fun w D => right_any false f Q hS hQ t hq w D (cell4 k s n A l c)
  clear h hS hQ hq he
  have hb := Below.refl w.heap.size w
  go_enter Tryd.func47, Tryd.ntmps47
  go_upto_region 0 with (fail)
  apply wp_region_lit
  (with_reducible refine wl_box rfl ?_); intro W p hbn hlp hp; replace hb := hb.trans (hbn.mono hb.size); clear hbn; simp only [Zq]
  (with_reducible refine wl_k ?_ ?_); exact rfl; intro K hK; go_simp; refine hK _ ?_; clear hK K
  have HC := Lib.hid (HE.out W D (HT.out.old hb))
  go_upto_region 1 with (fail)
  apply wp_region_lit
  (first | ((with_reducible apply wl_oneG); exact rfl; exact rfl; first | exact f0 (by with_reducible assumption) | exact f1 (by with_reducible assumption) | exact f2 (by with_reducible assumption) | exact f3 (by with_reducible assumption) | with_reducible assumption | exact g22 (by with_reducible assumption) | exact g25 (by with_reducible assumption)) | ((with_reducible apply wl_rowG); exact rfl; exact rfl; first | with_reducible assumption | exact RowK.now (by with_reducible assumption) | exact f4 (by with_reducible assumption)))
  (with_reducible refine wl_ck ?_ ?_); exact rfl; intro K hK; go_simp; refine ⟨_, _, ⟨rfl, rfl⟩, hK _ _ ⟨_, HC.out, ?_⟩⟩; clear hK K; rintro e w7 ⟨rfl, hb7⟩; refine ⟨_, rfl, ?_⟩; simp only [Zq]
  (with_reducible refine wl_k ?_ ?_); exact rfl; intro K hK; go_simp; refine hK _ ?_; clear hK K
  replace hb := hb.trans (hb7.mono hb.size); clear hb7
  clear hp HC
  go_wp2_with fail
  go_ret
  exact ⟨rfl, hb⟩
open Go.RowKit Go.Proofs.YtokmaehefenpmaaDoor.Nm
set_option linter.unusedSimpArgs false
section
variable {σ : Type}
/-- What a function value does at a node, where Q holds of the node and the state. -/
structure VisC2 (Q : Ty → σ → Prop) (QL : List Ty → σ → Prop) (K : FuncId) (caps : Array Value) (g : Ty → σ → Bool × σ) (Inv : World → (Nat → Prop) → σ → Prop) : Prop where
  ent : Enters Tryd.prog K
  low : ∀ w C s, Inv w C s → ∀ b, C b → b < w.heap.size
  keep : ∀ w C s, Inv w C s → ∀ w', Below w.heap.size w w' → Inv w' C s
  sub : ∀ k s n l st, Q (.node k s n l) st → (g (.node k s n l) st).1 = true → QL l (g (.node k s n l) st).2
  one : ∀ t l st, QL (t :: l) st → Q t st
  next : ∀ t l st, QL (t :: l) st → (visit g t st).1 = true → QL l (visit g t st).2
  run : ∀ w C s, Inv w C s → ∀ t, Q t s → ∀ (D : Nat → Prop) (row : Array Value), TyAt w D t row → (∀ b, D b → ¬ C b) →
    Calls Tryd.prog K (#[.agg row] ++ caps) w fun e w' => e = .returned (.bool (g t s).1) ∧ ∃ C', ((g t s).1 = true → Inv w' C' (g t s).2) ∧ Keep C w w' ∧ ∀ b, C' b → C b ∨ w.heap.size ≤ b
end
section
variable {σ : Type} {Q : Ty → σ → Prop} {QL : List Ty → σ → Prop} {K : FuncId} {caps : Array Value} {g : Ty → σ → Bool × σ} {Inv : World → (Nat → Prop) → σ → Prop}
def EachC2 (Q : Ty → σ → Prop) (K : FuncId) (caps : Array Value) (g : Ty → σ → Bool × σ) (Inv : World → (Nat → Prop) → σ → Prop) (t : Ty) : Prop := ∀ (w : World) (C : Nat → Prop) (s : σ) (pf pw : Nat) (D : Nat → Prop) (row : Array Value), Q t s → Inv w C s → VisW w C pf pw (.func (.func K) #[] caps) → TyAt w D t row → (∀ b, D b → ¬ C b) →
  Calls Tryd.prog 95 #[.agg row, .pointer (some ⟨pf, 0, none⟩), .pointer (some ⟨pw, 0, none⟩)] w (VPost Inv C w (visit g t s))
set_option maxHeartbeats 4000000 in
set_option maxRecDepth 100000 in
theorem each1_any2 (hV : VisC2 Q QL K caps g Inv) : ∀ t : Ty, EachC2 Q K caps g Inv t := Ty.ind fun k s n ts ih w C st pf pw D0 row hq hI hW h0 hD0 => by
  obtain ⟨D, h, hD, hlow⟩ : ∃ D : Nat → Prop, TyAt w D (.node k s n ts) row ∧ (∀ b, D b → ¬ C b) ∧ ∀ b, D b → b < w.heap.size := ⟨fun b => D0 b ∧ b < w.heap.size, h0.low, fun b hb => hD0 b hb.1, fun b hb => hb.2⟩
  have HLW := Lib.hid hlow
  clear h0 hD0 hlow
  obtain ⟨k1, s1, n1, A, l, c, ts1, e, rfl, hk, hn, hs, hT⟩ := h.parts
  cases e
  have HT := Lib.hid hT
  have HTA := Lib.hid h
  have HL := Lib.hid hT.len
  have hcm := hT.cap
  have hmx := hT.max
  unfold maxLen at hmx
  have HQ := Lib.hid hq
  have HIH := Lib.hid ih
  have HV := Lib.hid hV
  have HE := Lib.hid hV.ent
  have HD := Lib.hid hD
  have HI := Lib.hid hI
  have HW := Lib.hid hW
  have hCl := Lib.hid (hV.low w C st hI)
  clear h hk hn hs hT ih hq hD hI hV hW
  have hb := Below.refl w.heap.size w
  go_enter Tryd.func95, Tryd.ntmps95
  go_upto_region 0 with (fail)
  apply wp_region_lit
  (with_reducible refine wl_box rfl ?_); intro W p hbn hlp hp; replace hb := hb.trans (hbn.mono hb.size); clear hbn; simp only [Zq]
  (with_reducible refine wl_k ?_ ?_); exact rfl; intro K hK; go_simp; refine hK _ ?_; clear hK K
  have HC := Lib.hid (HV.out.run W C st (HV.out.keep w C st HI.out W hb) (.node k s n ts) HQ.out D _ (HTA.out.old hb) HD.out)
  have hfv := (HW.out.keep (C' := C) (Keep.of hb) (fun b h => Or.inl h)).f
  have hlp2 := heap_lt hp
  go_upto_region 1 with (fail)
  cases hg : g (.node k s n ts) st with
  | mk fb s1 =>
    rw [hg] at HC
    have HK := Lib.hid (Keep.of (C := C) hb)
    cases fb with
    | false =>
      have HR : Hid (visit g (.node k s n ts) st = (false, s1)) := Lib.hid (by rw [visit, hg])
      clear hg
      apply wp_region_lit
      (with_reducible apply wl_oneG); exact rfl; exact rfl; exact g51 hfv
      (first | ((with_reducible apply wl_oneG); exact rfl; exact rfl; first | exact f0 (by with_reducible assumption) | exact f1 (by with_reducible assumption) | exact f2 (by with_reducible assumption) | exact f3 (by with_reducible assumption) | with_reducible assumption | exact g22 (by with_reducible assumption) | exact g25 (by with_reducible assumption)) | ((with_reducible apply wl_rowG); exact rfl; exact rfl; first | with_reducible assumption | exact RowK.now (by with_reducible assumption) | exact f4 (by with_reducible assumption)))
      refine wl_fv rfl _ _ _ rfl rfl rfl HE.out HC.out ?_
      rintro e w7 ⟨rfl, C', hI7, hk7, hC7⟩
      refine ⟨_, rfl, ?_⟩
      simp only [Zq]
      have HI7 := Lib.hid hI7
      have HK7 := Lib.hid (HK.out.trans (fun b hb => Or.inl hb) hk7)
      have HC7 := Lib.hid (show ∀ b, C' b → C b ∨ w.heap.size ≤ b from fun b h => (hC7 b h).imp id (fun h => by omega))
      clear hI7 hk7 hC7
      (with_reducible refine wl_k ?_ ?_); exact rfl; intro K hK; go_simp; refine hK _ ?_; clear hK K
      go_wp2_with fail
      go_ret
      exact ret_vis (by rw [HR.out]) (by rw [HR.out]; exact HI7.out) HK7.out HC7.out
    | true =>
      have HR : Hid (visit g (.node k s n ts) st = visits g ts s1) := Lib.hid (by rw [visit, hg])
      have HQL : Hid (QL (ts.drop 0) s1) := Lib.hid (by have := HV.out.sub k s n ts st HQ.out (by rw [hg]); rw [hg] at this; exact this)
      clear hg
      apply wp_region_lit
      (with_reducible apply wl_oneG); exact rfl; exact rfl; exact g51 hfv
      (first | ((with_reducible apply wl_oneG); exact rfl; exact rfl; first | exact f0 (by with_reducible assumption) | exact f1 (by with_reducible assumption) | exact f2 (by with_reducible assumption) | exact f3 (by with_reducible assumption) | with_reducible assumption | exact g22 (by with_reducible assumption) | exact g25 (by with_reducible assumption)) | ((with_reducible apply wl_rowG); exact rfl; exact rfl; first | with_reducible assumption | exact RowK.now (by with_reducible assumption) | exact f4 (by with_reducible assumption)))
      refine wl_fv rfl _ _ _ rfl rfl rfl HE.out HC.out ?_
      rintro e w7 ⟨rfl, C', hI7, hk7, hC7⟩
      refine ⟨_, rfl, ?_⟩
      simp only [Zq]
      have HI7 := Lib.hid (hI7 rfl)
      have HK7 := Lib.hid (HK.out.trans (fun b hb => Or.inl hb) hk7)
      have HC7 := Lib.hid (show ∀ b, C' b → C b ∨ W.heap.size ≤ b from hC7)
      replace hp := hk7.look hp (fun hc => by have := hCl.out _ hc; omega)
      have hWS := hk7.size
      clear hI7 hk7 hC7
      (with_reducible refine wl_k ?_ ?_); exact rfl; intro K hK; go_simp; refine hK _ ?_; clear hK K
      clear HC HK hfv hb
      go_upto_region 3 with (fail)
      apply wp_region_lit
      (with_reducible refine wl_k ?_ ?_); exact rfl; intro K hK; go_simp; refine hK _ ?_; clear hK K
      (first | ((with_reducible apply wl_oneG); exact rfl; exact rfl; first | exact f0 (by with_reducible assumption) | exact f1 (by with_reducible assumption) | exact f2 (by with_reducible assumption) | exact f3 (by with_reducible assumption) | with_reducible assumption | exact g22 (by with_reducible assumption) | exact g25 (by with_reducible assumption)) | ((with_reducible apply wl_rowG); exact rfl; exact rfl; first | with_reducible assumption | exact RowK.now (by with_reducible assumption) | exact f4 (by with_reducible assumption)))
      (with_reducible refine wl_k ?_ ?_); exact rfl; intro K hK; go_simp; refine hK _ ?_; clear hK K
      (with_reducible refine wl_k ?_ ?_); exact rfl; intro K hK; go_simp; refine hK _ ?_; clear hK K
      go_wp2_with fail
      have HST : Hid (visit g (.node k s n ts) st = visits g (ts.drop 0) s1) := HR
      clear HR
      go_loopw [14] (fun i wr => ∃ (j : Nat) (C' : Nat → Prop) (s' : σ), j ≤ l ∧ i = .int .i64 (j : Int) ∧ Hid (visit g (.node k s n ts) st = visits g (ts.drop j) s') ∧ Hid (QL (ts.drop j) s') ∧ Hid (Inv wr C' s') ∧ Hid (Keep C w wr) ∧ Hid (∀ b, C' b → C b ∨ W.heap.size ≤ b) ∧ W.heap.size ≤ wr.heap.size ∧ wr.heap[p]? = some (.cells (cell4 k s n A l c) 24 (0, 0))) (fun i _ => l - (intOf i).toNat)
      case atStart => exact ⟨0, C', s1, by omega, rfl, HST, HQL, HI7, HK7, HC7, hWS, hp⟩
      case round =>
        clear HST HQL HI7 HK7 HC7 hp hWS
        obtain ⟨j, C2, s2, hj, rfl, HR, HQ2, HI2, HK2, HC2, hWS, hp⟩ := hrel
        by_cases hlt : j < l
        · have hltI : (j : Int) < (l : Int) := by omega
          obtain ⟨b, off, t, row, rfl, -, ht, -⟩ := HT.out.get hlt
          have HT2 := Lib.hid (HT.out.keep HK2.out HD.out)
          obtain ⟨row, hrow, hta⟩ := HT2.out.rowK ht
          obtain ⟨k3, s3, n3, A3, l3, c3, ts3, ht3, rfl, -⟩ := hta.parts
          have HTB := Lib.hid hta
          have HDR : Hid (ts.drop j = t :: ts.drop (j + 1)) := Lib.hid (by rw [List.drop_eq_getElem_cons (by rw [HL.out]; exact hlt)]; rw [List.getElem?_eq_getElem (by rw [HL.out]; exact hlt)] at ht; cases ht; rfl)
          have HM := Lib.hid (List.mem_of_getElem? ht)
          clear ht hta ht3 HT2
          have hz := Below.refl wr.heap.size wr
          go_upto_region 5 with (fail)
          apply wp_region_lit
          (with_reducible refine wl_k ?_ ?_); exact rfl; intro K hK; go_simp; refine hK _ ?_; clear hK K
          (first | ((with_reducible apply wl_oneG); exact rfl; exact rfl; first | exact f0 (by with_reducible assumption) | exact f1 (by with_reducible assumption) | exact f2 (by with_reducible assumption) | exact f3 (by with_reducible assumption) | with_reducible assumption | exact g22 (by with_reducible assumption) | exact g25 (by with_reducible assumption)) | ((with_reducible apply wl_rowG); exact rfl; exact rfl; first | with_reducible assumption | exact RowK.now (by with_reducible assumption) | exact f4 (by with_reducible assumption)))
          have lthpq := heap_lt hp; (with_reducible refine wl_all ?_); intro X1 q hbn hlq hq; replace hp := below_look hbn hp; replace hz := hz.trans (hbn.mono hz.size); clear hbn; simp only [Zq]
          (with_reducible refine wl_put rfl rfl hq ?_); rw [put_noneA]; intro X2 hbx hsz hkx hnx; replace hp := (hkx _ (by omega)).trans hp; replace hz := hbx _ _ (by omega) hz; clear hq; have hq := hnx; clear hnx
          clear hbx hkx hsz
          have HK3 := Lib.hid (HK2.out.trans (C' := C) (fun b h => Or.inl h) (Keep.of hz))
          have HW3 := Lib.hid (HW.out.keep HK2.out (C' := C2) (fun b h => (HC2.out b h).imp id (fun h => by omega)))
          have HW4 := Lib.hid (HW3.out.keep (Keep.of hz) (C' := C2) (fun b h => Or.inl h))
          have HI3 := Lib.hid (HV.out.keep wr C2 s2 HI2.out X2 hz)
          have HQ3 : Hid (QL (t :: ts.drop (j + 1)) s2) := Lib.hid (by have := HQ2.out; rwa [HDR.out] at this)
          have hC := HIH.out t HM.out X2 C2 s2 pf pw D (cell4 k3 s3 n3 A3 l3 c3) (HV.out.one _ _ _ HQ3.out) HI3.out HW4.out (HTB.out.old hz) (fun b h hc => (HC2.out b hc).elim (HD.out b h) (fun h2 => by have := HLW.out b h; omega))
          have hpw := HW4.out.w
          have hzs := hz.size
          cases hg : visit g t s2 with
          | mk fb s3' =>
            rw [hg] at hC
            have HC := Lib.hid hC
            clear hC
            cases fb with
            | false =>
              have HF : Hid (visit g (.node k s n ts) st = (false, s3')) := Lib.hid (by rw [HR.out, HDR.out, visits, hg])
              clear hg
              go_upto_region 6 with (fail)
              apply wp_region_lit
              (with_reducible apply wl_oneG); exact rfl; exact rfl; exact g51 hpw
              (first | ((with_reducible apply wl_oneG); exact rfl; exact rfl; first | exact f0 (by with_reducible assumption) | exact f1 (by with_reducible assumption) | exact f2 (by with_reducible assumption) | exact f3 (by with_reducible assumption) | with_reducible assumption | exact g22 (by with_reducible assumption) | exact g25 (by with_reducible assumption)) | ((with_reducible apply wl_rowG); exact rfl; exact rfl; first | with_reducible assumption | exact RowK.now (by with_reducible assumption) | exact f4 (by with_reducible assumption)))
              (with_reducible refine wl_ck ?_ ?_); exact rfl; intro K hK; go_simp; refine ⟨_, _, ⟨rfl, rfl⟩, hK _ _ ⟨_, HC.out, ?_⟩⟩; clear hK K; rintro e w7 ⟨rfl, C7, hI7, hk7, hC7⟩; refine ⟨_, rfl, ?_⟩; simp only [Zq]
              have HI7 := Lib.hid hI7
              have HK7 := Lib.hid (HK3.out.trans (C' := C2) (fun b h => (HC2.out b h).imp id (fun h => by omega)) hk7)
              have HC7 := Lib.hid (show ∀ b, C7 b → C b ∨ w.heap.size ≤ b from fun b h => (hC7 b h).elim (fun h => (HC2.out b h).imp id (fun h => by omega)) (fun h => Or.inr (by have := HK3.out.size; omega)))
              clear hI7 hk7 hC7
              (with_reducible refine wl_k ?_ ?_); exact rfl; intro K hK; go_simp; refine hK _ ?_; clear hK K
              go_wp2_with fail
              go_ret
              exact ret_vis (by rw [HF.out]) (by rw [HF.out]; exact HI7.out) HK7.out HC7.out
            | true =>
              have HF : Hid (visit g (.node k s n ts) st = visits g (ts.drop (j + 1)) s3') := Lib.hid (by rw [HR.out, HDR.out, visits, hg])
              have HQN : Hid (QL (ts.drop (j + 1)) s3') := Lib.hid (by have := HV.out.next _ _ _ HQ3.out (by rw [hg]); rwa [hg] at this)
              clear hg
              go_upto_region 6 with (fail)
              apply wp_region_lit
              (with_reducible apply wl_oneG); exact rfl; exact rfl; exact g51 hpw
              (first | ((with_reducible apply wl_oneG); exact rfl; exact rfl; first | exact f0 (by with_reducible assumption) | exact f1 (by with_reducible assumption) | exact f2 (by with_reducible assumption) | exact f3 (by with_reducible assumption) | with_reducible assumption | exact g22 (by with_reducible assumption) | exact g25 (by with_reducible assumption)) | ((with_reducible apply wl_rowG); exact rfl; exact rfl; first | with_reducible assumption | exact RowK.now (by with_reducible assumption) | exact f4 (by with_reducible assumption)))
              (with_reducible refine wl_ck ?_ ?_); exact rfl; intro K hK; go_simp; refine ⟨_, _, ⟨rfl, rfl⟩, hK _ _ ⟨_, HC.out, ?_⟩⟩; clear hK K; rintro e w7 ⟨rfl, C7, hI7, hk7, hC7⟩; refine ⟨_, rfl, ?_⟩; simp only [Zq]
              have HI7 := Lib.hid (hI7 rfl)
              have HK7 := Lib.hid (HK3.out.trans (C' := C2) (fun b h => (HC2.out b h).imp id (fun h => by omega)) hk7)
              have HC7 := Lib.hid (show ∀ b, C7 b → C b ∨ W.heap.size ≤ b from fun b h => (hC7 b h).elim (fun h => HC2.out b h) (fun h => Or.inr (by omega)))
              have hWS7 := hk7.size
              replace hp := hk7.look hp (fun hc => (HC2.out _ hc).elim (fun h => by have := hCl.out _ h; omega) (fun h => by omega))
              clear hI7 hk7 hC7
              (with_reducible refine wl_k ?_ ?_); exact rfl; intro K hK; go_simp; refine hK _ ?_; clear hK K
              clear hrow hq hpw HC HR HDR HI2 HK2 HC2
              go_wp2_with fail
              go_roundw
              case rel => exact ⟨j + 1, C7, s3', by omega, by go_num, HF, HQN, HI7, HK7, HC7, by omega, hp⟩
              case measure => simp [intOf]; omega
        · have hltI : ¬ (j : Int) < (l : Int) := by omega
          have HF : Hid (visit g (.node k s n ts) st = (true, s2)) := Lib.hid (by rw [HR.out, List.drop_of_length_le (by rw [HL.out]; omega), visits])
          clear HR
          go_wp2_with fail
          go_ret
          exact ret_vis (by rw [HF.out]) (fun _ => by rw [HF.out]; exact HI2.out) HK2.out (fun b h => (HC2.out b h).imp id (fun h => by omega))
set_option maxHeartbeats 4000000 in
set_option maxRecDepth 100000 in
theorem each_any2 (hV : VisC2 Q QL K caps g Inv) (t : Ty) (w : World) (C : Nat → Prop) (st : σ) (hq : Q t st) (D : Nat → Prop) (row : Array Value) (hI : Inv w C st) (h : TyAt w D t row) (hD : ∀ b, D b → ¬ C b) :
    Calls Tryd.prog 66 #[.agg row, .func (.func K) #[] caps] w (VPost Inv C w (visit g t st)) := by
  have hmf : ∀ (fn : Fn) (first cap : Array Value) (w : World), (Instr.makeFunc fn first cap).run Tryd.prog w = .ok (.func fn first cap) w := fun _ _ _ _ => rfl
  obtain ⟨k, s, n, A, l, c, ts, he, rfl, -⟩ := h.parts
  have HT := Lib.hid h
  have HE := Lib.hid (each1_any2 hV t)
  have HV := Lib.hid hV
  have HI := Lib.hid hI
  have HQ := Lib.hid hq
  have HD := Lib.hid hD
  have hCl := Lib.hid (hV.low w C st hI)
  clear h hV hq hI hD he
  have hb := Below.refl w.heap.size w
  go_enter Tryd.func66, Tryd.ntmps66
  go_upto_region 0 with (fail)
  apply wp_region_lit
  (with_reducible refine wl_box rfl ?_); intro W p hbn hlp hp; replace hb := hb.trans (hbn.mono hb.size); clear hbn; simp only [Zq]
  have lthppf := heap_lt hp; (with_reducible refine wl_box51 rfl ?_); intro W1 pf hbn hlpf hpf; replace hp := below_look hbn hp; replace hb := hb.trans (hbn.mono hb.size); clear hbn; simp only [Zq]
  (with_reducible refine wl_k ?_ ?_); exact rfl; intro K hK; go_simp; refine hK _ ?_; clear hK K
  go_upto_region 1 with (fail)
  apply wp_region_lit
  have lthppw := heap_lt hp; have lthpfpw := heap_lt hpf; (with_reducible refine wl_all51 ?_); intro W2 pw hbn hlpw hpw; replace hp := below_look hbn hp; replace hpf := below_look hbn hpf; replace hb := hb.trans (hbn.mono hb.size); clear hbn; simp only [Zq]
  go_upto_region 2 with (fail)
  apply wp_region_lit
  (with_reducible refine wl_k ?_ ?_); exact rfl; intro K hK; go_simp; refine hK _ ?_; clear hK K
  (with_reducible refine wl_put1 (v := .func (.func 95) #[] #[.pointer (some ⟨pf, 0, none⟩), .pointer (some ⟨pw, 0, none⟩)]) info51 ?_ ?_ ?_ hpw ?_); exact rfl; exact rfl; exact rfl; rw [put_noneA]; intro W3 hbx hsz hkx hnx; replace hp := (hkx _ (by omega)).trans hp; replace hpf := (hkx _ (by omega)).trans hpf; replace hb := hbx _ _ (by omega) hb; clear hpw; have hpw := hnx; clear hnx
  clear hbx hkx hsz
  have HC := Lib.hid (HE.out W3 C st pf pw D _ HQ.out (HV.out.keep w C st HI.out W3 hb) ⟨hpf, hpw, fun hc => by have := hCl.out _ hc; omega, fun hc => by have := hCl.out _ hc; omega⟩ (HT.out.old hb) HD.out)
  go_upto_region 3 with (fail)
  apply wp_region_lit
  (with_reducible apply wl_oneG); exact rfl; exact rfl; exact g51 hpw
  (first | ((with_reducible apply wl_oneG); exact rfl; exact rfl; first | exact f0 (by with_reducible assumption) | exact f1 (by with_reducible assumption) | exact f2 (by with_reducible assumption) | exact f3 (by with_reducible assumption) | with_reducible assumption | exact g22 (by with_reducible assumption) | exact g25 (by with_reducible assumption)) | ((with_reducible apply wl_rowG); exact rfl; exact rfl; first | with_reducible assumption | exact RowK.now (by with_reducible assumption) | exact f4 (by with_reducible assumption)))
  (with_reducible refine wl_ck ?_ ?_); exact rfl; intro K hK; go_simp; refine ⟨_, _, ⟨rfl, rfl⟩, hK _ _ ⟨_, HC.out, ?_⟩⟩; clear hK K; rintro e w7 ⟨rfl, C7, hI7, hk7, hC7⟩; refine ⟨_, rfl, ?_⟩; simp only [Zq]
  have HI7 := Lib.hid hI7
  have HK7 := Lib.hid ((Keep.of hb).trans (fun b h => Or.inl h) hk7)
  have HC7 := Lib.hid (show ∀ b, C7 b → C b ∨ w.heap.size ≤ b from fun b h => (hC7 b h).imp id (fun h => by have := hb.size; omega))
  clear hI7 hk7 hC7 hp hpf hpw
  (with_reducible refine wl_k ?_ ?_); exact rfl; intro K hK; go_simp; refine hK _ ?_; clear hK K
  go_wp2_with fail
  go_ret
  exact ret_vis rfl HI7.out HK7.out HC7.out
end
open Go.RowKit Go.Proofs.YtokmaehefenpmaaDoor.Nm
set_option linter.unusedSimpArgs false
def OwnS (w : World) (B : Nat) (v : Value) (ns : List ByteArray) : Prop := w.ownsRow B 9 1 v ns.length (ns.map .string)
theorem OwnS.nil (w : World) (B : Nat) : OwnS w B (.slice none 0 0) [] := World.ownsRow_nil _ _ _ _
theorem OwnS.lt {w : World} {B : Nat} {v : Value} {ns : List ByteArray} (h : OwnS w B v ns) : ∀ b, v.ownBlock = some b → B ≤ b ∧ b < w.heap.size := World.ownsRow.lt h
theorem OwnS.old {w w' : World} {B : Nat} {v : Value} {ns : List ByteArray} (h : OwnS w B v ns) (hb : Below w.heap.size w w') : OwnS w' B v ns := own_same h fun q hq _ => hb.block q hq
theorem OwnS.tx {w : World} {B : Nat} {v : Value} {ns : List ByteArray} (h : OwnS w B v ns) : ∃ A l c, v = .slice A l c ∧ TxAt w ns A l c := by
  rcases h.2 with ⟨rfl, hn⟩ | ⟨g, cap, cur, rfl, hB, hg, hc, hm, hs, hcur⟩
  · have : ns = [] := by cases ns with | nil => rfl | cons => simp at hn
    subst this
    exact ⟨none, 0, 0, rfl, rfl, Nat.le_refl _, Nat.zero_le _, fun i s h => by simp at h⟩
  · refine ⟨_, _, _, rfl, rfl, hc, hm, fun i s hi => ⟨g, 0, rfl, ?_⟩⟩
    have hl : i < ns.length := (List.getElem?_eq_some_iff.1 hi).1
    rw [Nat.zero_add, cell_of_row _ _ _ _ _ _ hg]
    have h2 : (ns.map Value.string)[i]? = some (.string s) := by rw [List.getElem?_map, hi]; rfl
    rw [← hcur, List.getElem?_take_of_lt (by omega)] at h2
    simpa using h2
/-- What stands when a list of the call's own has grown. -/
structure Gro (v : Value) (w : World) (v' : Value) (w' : World) : Prop where
  keep : ∀ b, b < w.heap.size → v.ownBlock ≠ some b → w'.heap[b]? = w.heap[b]?
  own : ∀ b, v'.ownBlock = some b → v.ownBlock = some b ∨ w.heap.size ≤ b
  bel : ∀ B' w0, (∀ b, v.ownBlock = some b → B' ≤ b) → B' ≤ w.heap.size → Below B' w0 w → Below B' w0 w'
theorem Gro.size {v v' : Value} {w w' : World} (h : Gro v w v' w') : w.heap.size ≤ w'.heap.size := (h.bel 0 w (fun _ _ => Nat.zero_le _) (Nat.zero_le _) (Below.refl _ _)).size
theorem Gro.trans {v v1 v2 : Value} {w w1 w2 : World} (h : Gro v w v1 w1) (g : Gro v1 w1 v2 w2) : Gro v w v2 w2 where
  keep b hb hv := by
    have := h.size
    rw [g.keep b (by omega) (fun e => (h.own b e).elim hv (by omega)), h.keep b hb hv]
  own b e := by
    have := h.size
    rcases g.own b e with e | e
    · exact h.own b e
    · exact .inr (by omega)
  bel B' w0 h1 h2 h3 := by
    have := h.size
    exact g.bel B' w0 (fun b e => (h.own b e).elim (h1 b) (by omega)) (by omega) (h.bel B' w0 h1 h2 h3)
theorem Gro.of {v : Value} {w w' : World} (hb : Below w.heap.size w w') : Gro v w v w' := ⟨fun b h _ => hb.block b h, fun _ e => .inl e, fun _ _ _ h2 h3 => h3.trans (hb.mono h2)⟩
section
variable {ops : Array Oper} {rest : List Oper} {o : Oper} {dst : Option Tmp} {ty' : TypeId} {x : Operand} {pos : String} {after : Array Edge} {a : Act} {w : World} {Q : Exit → Act → World → Prop}
end
/-- Names put in one after the other, none twice. -/
structure Adds (ns ns' l : List ByteArray) : Prop where
  mem : ∀ x, x ∈ ns' ↔ x ∈ ns ∨ x ∈ l
  nod : ns.Nodup → ns'.Nodup
theorem Adds.nil (ns : List ByteArray) : Adds ns ns [] := ⟨fun x => by simp, fun h => h⟩
theorem Adds.trans {ns n1 n2 l m : List ByteArray} (h : Adds ns n1 l) (g : Adds n1 n2 m) : Adds ns n2 (l ++ m) := ⟨fun x => by rw [g.mem, h.mem]; simp [or_assoc], fun hn => g.nod (h.nod hn)⟩
theorem Adds.new {ns : List ByteArray} {s : ByteArray} (h : s ∉ ns) : Adds ns (ns ++ [s]) [s] := ⟨fun x => by simp, fun hn => by
  rw [List.nodup_append]
  refine ⟨hn, by simp, fun a ha b hb => ?_⟩
  simp at hb; subst hb
  exact fun e => h (e ▸ ha)⟩
open Go.RowKit Go.Sort Go.Proofs.YtokmaehefenpmaaDoor.Nm
set_option linter.unusedSimpArgs false
/-- The first elements of a row of the call's own. -/
theorem ownsRow_cut {w : World} {B g n m cap : Nat} {e : TypeId} {xs : List Value} (h : w.ownsRow B e 1 (.slice (some ⟨g, 0, none⟩) n cap) n xs) (hm : m ≤ n) : w.ownsRow B e 1 (.slice (some ⟨g, 0, none⟩) m cap) m (xs.take m) := by
  obtain ⟨h1, h2⟩ := h
  rcases h2 with ⟨h2, -⟩ | ⟨g', cap', cur, e1, hB, hg, hc, hm2, hs, ht⟩
  · cases h2
  · cases e1
    refine ⟨by simp; omega, .inr ⟨g, cap, cur, rfl, hB, hg, by omega, hm2, hs, ?_⟩⟩
    rw [Nat.mul_one] at ht ⊢
    rw [← ht, List.take_take, Nat.min_eq_left hm]
theorem Keep.grown {C : Nat → Prop} {w w' : World} {row : Option Nat} (h : w.grownBy w' row) (hC : ∀ b, row = some b → C b) : Keep C w w' := ⟨h.os, h.tape, h.output, h.size, fun b hb hn => h.block b hb (fun e => hn (hC b e.symm))⟩
theorem grownBy_refl (w : World) (r : Option Nat) : w.grownBy w r := ⟨rfl, rfl, rfl, Nat.le_refl _, fun _ _ _ => rfl⟩
theorem grownBy_trans {w w1 w2 : World} {r : Option Nat} (h : w.grownBy w1 r) (g : w1.grownBy w2 r) : w.grownBy w2 r := ⟨g.os.trans h.os, g.tape.trans h.tape, g.output.trans h.output, Nat.le_trans h.size g.size, fun k hk hn => (g.block k (Nat.lt_of_lt_of_le hk h.size) hn).trans (h.block k hk hn)⟩
open Go.RowKit Go.Proofs.YtokmaehefenpmaaDoor.Nm
theorem Keep.gro {C : Nat → Prop} {v v' : Value} {w w' : World} (h : Gro v w v' w') (hC : ∀ b, v.ownBlock = some b → C b) : Keep C w w' :=
  have hb := h.bel 0 w (fun _ _ => Nat.zero_le _) (Nat.zero_le _) (Below.refl _ _)
  ⟨hb.os, hb.tape, hb.output, hb.size, fun b hlt hn => h.keep b hlt fun e => hn (hC b e)⟩
theorem Below.keep {C : Nat → Prop} {w w1 w2 : World} (h : Below w.heap.size w w1) (hk : Keep C w1 w2) (hC : ∀ b, C b → w.heap.size ≤ b) : Below w.heap.size w w2 :=
  ⟨hk.os.trans h.os, hk.tape.trans h.tape, hk.output.trans h.output, Nat.le_trans h.size hk.size, fun b hb => (hk.block b (Nat.lt_of_lt_of_le hb h.size) (fun hc => by have := hC b hc; omega)).trans (h.block b hb)⟩
theorem ent148 : Enters Tryd.prog 148 := enters_of Tryd.func148 (by kernel_rfl) rfl
def stepN (_ : Ty) (n : Nat) : Bool × Nat := (true, n + 1)
theorem visit_cnt : ∀ (t : Ty) (n : Nat), visit stepN t n = (true, n + t.nodes) := Ty.ind fun k s n l ih m => by
  have hl : ∀ (l : List Ty), (∀ t, t ∈ l → ∀ n, visit stepN t n = (true, n + t.nodes)) → ∀ n, visits stepN l n = (true, n + nodesL l) := by
    intro l
    induction l with
    | nil => intro _ n; simp [visits, nodesL]
    | cons t l ihl =>
      intro h n
      simp only [visits, nodesL]
      rw [h t (by simp) n]
      simp only
      rw [ihl (fun t ht => h t (by simp [ht]))]
      congr 1; omega
  simp only [visit]
  show visits stepN l (m + 1) = _
  rw [hl l ih, Ty.nodes]
  congr 1; omega
def InvN (z : Nat) (w : World) (C : Nat → Prop) (n : Nat) : Prop := w.heap[z]? = some (.cells #[.int .i64 (n : Int)] 3 (0, 0)) ∧ ∀ b, C b ↔ b = z
set_option maxHeartbeats 2000000 in
set_option maxRecDepth 100000 in
theorem size1_any (z n : Nat) (hn : n ≤ 1000000) (t : Ty) (w : World) (C : Nat → Prop) (hz : w.heap[z]? = some (.cells #[.int .i64 (n : Int)] 3 (0, 0))) (hC : C z) (D : Nat → Prop) (row : Array Value) (h : TyAt w D t row) :
    Calls Tryd.prog 148 #[.agg row, .pointer (some ⟨z, 0, none⟩)] w fun e w' => e = .returned (.bool true) ∧ w'.heap[z]? = some (.cells #[.int .i64 ((n + 1 : Nat) : Int)] 3 (0, 0)) ∧ Keep C w w' := by
  obtain ⟨k, s, m, A, l, c, ts, he, rfl, -⟩ := h.parts
  obtain ⟨n1, hn1⟩ : ∃ n1, n1 = n + 1 := ⟨_, rfl⟩
  rw [← hn1]
  have hnI : (n : Int) + 1 = (n1 : Int) := by omega
  have hnw : IntKind.i64.wrap (n1 : Int) = (n1 : Int) := IntWalk.i64_in _ (by omega)
  clear h he hn1
  have hb := Below.refl w.heap.size w
  go_enter Tryd.func148, Tryd.ntmps148
  go_upto_region 0 with (fail)
  apply wp_region_lit
  have lthzp := heap_lt hz; (with_reducible refine wl_box rfl ?_); intro W p hbn hlp hp; replace hz := below_look hbn hz; replace hb := hb.trans (hbn.mono hb.size); clear hbn; simp only [Zq]
  (with_reducible refine wl_k ?_ ?_); exact rfl; intro K hK; go_simp; refine hK _ ?_; clear hK K
  have HKP := Lib.hid (Keep.of (C := C) hb)
  go_upto_region 1 with (fail)
  apply wp_region_lit
  ((with_reducible apply wl_oneG); exact rfl; exact rfl; exact g3 hz)
  simp only [Zq]
  (with_reducible refine wl_k ?_ ?_); exact rfl; intro K hK; go_simp; refine hK _ ?_; clear hK K
  clear hnI hnw
  (with_reducible refine wl_put1 (v := .int .i64 (n1 : Int)) info3 ?_ ?_ ?_ hz ?_); exact rfl; exact rfl; exact rfl; rw [put_noneA]; intro W2 hbx hsz hkx hnx; clear hz; have hz := hnx; clear hnx
  replace HKP := Lib.hid (HKP.out.trans (C' := C) (fun b h => Or.inl h) (w2 := W2) ⟨(hbx 0 W (Nat.zero_le _) (Below.refl _ _)).os, (hbx 0 W (Nat.zero_le _) (Below.refl _ _)).tape, (hbx 0 W (Nat.zero_le _) (Below.refl _ _)).output, (hbx 0 W (Nat.zero_le _) (Below.refl _ _)).size, fun b _ hn => hkx b (fun e => hn (by rw [e]; exact hC))⟩)
  have HZ := Lib.hid hz
  clear hbx hkx hsz hb hz hp
  go_wp2_with fail
  go_ret
  exact ⟨rfl, HZ.out, HKP.out⟩
theorem visC_size (z : Nat) : VisC2 (fun t (n : Nat) => n + t.nodes ≤ 1000000) (fun l n => n + nodesL l ≤ 1000000) 148 #[.pointer (some ⟨z, 0, none⟩)] stepN (InvN z) where
  ent := ent148
  low := fun w C s hI b hb => by rw [(hI.2 b).1 hb]; exact heap_lt hI.1
  keep := fun w C s hI w' hb => ⟨below_look hb hI.1, hI.2⟩
  sub := fun k s n l st h _ => by
    simp only [Ty.nodes] at h
    show _ + _ ≤ _
    simp only [stepN]; omega
  one := fun t l st h => by simp only [nodesL] at h; show _ + _ ≤ _; omega
  next := fun t l st h _ => by
    rw [visit_cnt]
    simp only [nodesL] at h
    show _ + _ ≤ _
    simp only; omega
  run := fun w C s hI t hq D row h _ => by
    refine (size1_any z s (by have : s + t.nodes ≤ 1000000 := hq; omega) t w C hI.1 ((hI.2 z).2 rfl) D row h).mono ?_
    rintro e w' ⟨rfl, g1, g2⟩
    exact ⟨rfl, C, fun _ => ⟨g1, hI.2⟩, g2, fun b h => Or.inl h⟩
set_option maxHeartbeats 2000000 in
set_option maxRecDepth 100000 in
theorem Size_any (t : Ty) (hnd : t.nodes ≤ 1000000) (w : World) (D : Nat → Prop) (row : Array Value) (h : TyAt w D t row) :
    Calls Tryd.prog 121 #[.agg row] w fun e w' => e = .returned (.int .i64 (t.nodes : Int)) ∧ Below w.heap.size w w' := by
  have hmf : ∀ (fn : Fn) (first cap : Array Value) (w : World), (Instr.makeFunc fn first cap).run Tryd.prog w = .ok (.func fn first cap) w := fun _ _ _ _ => rfl
  have HT := Lib.hid h
  obtain ⟨k, s, n, A, l, c, ts, he, rfl, -⟩ := h.parts
  obtain ⟨N, hN⟩ : ∃ N, N = t.nodes := ⟨_, rfl⟩
  rw [← hN]
  have HN := Lib.hid hN
  clear h he hN
  have hb := Below.refl w.heap.size w
  go_enter Tryd.func121, Tryd.ntmps121
  go_upto_region 0 with (fail)
  apply wp_region_lit
  (with_reducible refine wl_box rfl ?_); intro W p hbn hlp hp; replace hb := hb.trans (hbn.mono hb.size); clear hbn; simp only [Zq]
  (with_reducible refine wl_k ?_ ?_); exact rfl; intro K hK; go_simp; refine hK _ ?_; clear hK K
  have hlW := hb.size
  go_upto_region 1 with (fail)
  apply wp_region_lit
  have lthpz := heap_lt hp; (with_reducible refine wl_all3 ?_); intro W2 z hbn hlz hz; replace hp := below_look hbn hp; replace hb := hb.trans (hbn.mono hb.size); clear hbn; simp only [Zq]
  (with_reducible refine wl_put1 (v := .int .i64 0) info3 ?_ ?_ ?_ hz ?_); exact rfl; exact rfl; exact rfl; rw [put_noneA]; intro W3 hbx hsz hkx hnx; replace hp := (hkx _ (by omega)).trans hp; replace hb := hbx _ _ (by omega) hb; clear hz; have hz := hnx; clear hnx
  clear hbx hkx hsz
  have hlt := heap_lt hz
  have hz0 : w.heap.size ≤ z := by omega
  have HC := Lib.hid (each_any2 (visC_size z) t W3 (fun b => b = z) 0 (by show _ + _ ≤ _; omega) (fun b => D b ∧ b < w.heap.size) (cell4 k s n A l c) ⟨hz, fun b => Iff.rfl⟩ (HT.out.low.old hb) (fun b hD hc => by have := hD.2; omega))
  rw [visit_cnt, Nat.zero_add, ← HN.out] at HC
  clear hnd
  go_upto_region 2 with (fail)
  apply wp_region_lit
  (first | ((with_reducible apply wl_oneG); exact rfl; exact rfl; first | exact f0 (by with_reducible assumption) | exact f1 (by with_reducible assumption) | exact f2 (by with_reducible assumption) | exact f3 (by with_reducible assumption) | with_reducible assumption | exact g22 (by with_reducible assumption) | exact g25 (by with_reducible assumption)) | ((with_reducible apply wl_rowG); exact rfl; exact rfl; first | with_reducible assumption | exact RowK.now (by with_reducible assumption) | exact f4 (by with_reducible assumption)))
  (with_reducible refine wl_k ?_ ?_); exact rfl; intro K hK; go_simp; refine hK _ ?_; clear hK K
  (with_reducible refine wl_ck ?_ ?_); exact rfl; intro K hK; go_simp; refine ⟨_, _, ⟨rfl, rfl⟩, hK _ _ ⟨_, HC.out, ?_⟩⟩; clear hK K; rintro e w7 ⟨rfl, C7, hI7, hk7, hC7⟩; refine ⟨_, rfl, ?_⟩; simp only [Zq]
  have hz7 := (hI7 rfl).1
  have HB7 := Lib.hid (Below.keep hb hk7 (fun b (h : b = z) => by omega))
  clear hI7 hk7 hC7 hp hz
  clear HC
  go_upto_region 3 with (fail)
  apply wp_region_lit
  ((with_reducible apply wl_oneG); exact rfl; exact rfl; exact g3 hz7)
  (with_reducible refine wl_k ?_ ?_); exact rfl; intro K hK; go_simp; refine hK _ ?_; clear hK K
  clear hz7
  go_wp2_with fail
  go_ret
  exact ⟨rfl, HB7.out⟩
end Go.Proofs.YtokmaehefenpmaaDoor
namespace Go.Proofs
open Go.Shelf
def Tryd.lays189_ren : Go.Shelf.Ren := ⟨fun | 189 => 118 | 125 => 117 | 257 => 146 | 128 => 144 | 129 => 145 | 294 => 163 | 295 => 164 | 296 => 165 | 297 => 166 | 298 => 167 | 299 => 168 | 216 => 169 | 300 => 170 | 301 => 171 | 328 => 179 | 329 => 158 | 330 => 159 | 331 => 180 | 332 => 181 | 215 => 105 | 343 => 184 | n => n, fun | 28 => 61 | 3 => 3 | 46 => 131 | 0 => 0 | 51 => 155 | 53 => 157 | 4 => 4 | 183 => 148 | 182 => 147 | 131 => 114 | 5 => 5 | 9 => 9 | 218 => 170 | 222 => 174 | 228 => 189 | 229 => 190 | n => n, fun | n => n⟩
theorem Tryd.lays189 : Go.Proofs.Lays.n189 Tryd.prog Tryd.lays189_ren := {
  mixed := by kernel_rfl
  f125 := Tryd.func117.trans (congrArg some (by kernel_rfl))
  f128 := Tryd.func144.trans (congrArg some (by kernel_rfl))
  f129 := Tryd.func145.trans (congrArg some (by kernel_rfl))
  f189 := Tryd.func118.trans (congrArg some (by kernel_rfl))
  f215 := Tryd.func105.trans (congrArg some (by kernel_rfl))
  f216 := Tryd.func169.trans (congrArg some (by kernel_rfl))
  f257 := Tryd.func146.trans (congrArg some (by kernel_rfl))
  f294 := Tryd.func163.trans (congrArg some (by kernel_rfl))
  f295 := Tryd.func164.trans (congrArg some (by kernel_rfl))
  f296 := Tryd.func165.trans (congrArg some (by kernel_rfl))
  f297 := Tryd.func166.trans (congrArg some (by kernel_rfl))
  f298 := Tryd.func167.trans (congrArg some (by kernel_rfl))
  f299 := Tryd.func168.trans (congrArg some (by kernel_rfl))
  f300 := Tryd.func170.trans (congrArg some (by kernel_rfl))
  f301 := Tryd.func171.trans (congrArg some (by kernel_rfl))
  f328 := Tryd.func179.trans (congrArg some (by kernel_rfl))
  f329 := Tryd.func158.trans (congrArg some (by kernel_rfl))
  f330 := Tryd.func159.trans (congrArg some (by kernel_rfl))
  f331 := Tryd.func180.trans (congrArg some (by kernel_rfl))
  f332 := Tryd.func181.trans (congrArg some (by kernel_rfl))
  f343 := Tryd.func184.trans (congrArg some (by kernel_rfl))
  t0 := Tryd.underlying0
  a0 := Tryd.isAgg0
  z0 := Tryd.sizeOf0
  v0 := Tryd.zeroValue0
  t3 := Tryd.underlying3
  a3 := Tryd.isAgg3
  z3 := Tryd.sizeOf3
  v3 := Tryd.zeroValue3
  t4 := Tryd.underlying4
  a4 := Tryd.isAgg4
  z4 := Tryd.sizeOf4
  v4 := Tryd.zeroValue4
  t5 := Tryd.underlying5
  a5 := Tryd.isAgg5
  z5 := Tryd.sizeOf5
  v5 := Tryd.zeroValue5
  t9 := Tryd.underlying9
  a9 := Tryd.isAgg9
  z9 := Tryd.sizeOf9
  v9 := Tryd.zeroValue9
  t28 := Tryd.underlying61
  a28 := Tryd.isAgg61
  z28 := Tryd.sizeOf61
  v28 := Tryd.zeroValue61
  t46 := Tryd.underlying131
  a46 := Tryd.isAgg131
  z46 := Tryd.sizeOf131
  v46 := Tryd.zeroValue131
  t51 := Tryd.underlying155
  a51 := Tryd.isAgg155
  z51 := Tryd.sizeOf155
  v51 := Tryd.zeroValue155
  t53 := Tryd.underlying157
  a53 := Tryd.isAgg157
  z53 := Tryd.sizeOf157
  v53 := Tryd.zeroValue157
  t131 := Tryd.underlying114
  a131 := Tryd.isAgg114
  z131 := Tryd.sizeOf114
  v131 := Tryd.zeroValue114
  t182 := Tryd.underlying147
  a182 := Tryd.isAgg147
  z182 := Tryd.sizeOf147
  v182 := Tryd.zeroValue147
  t183 := Tryd.underlying148
  a183 := Tryd.isAgg148
  z183 := Tryd.sizeOf148
  v183 := Tryd.zeroValue148
  t218 := Tryd.underlying170
  a218 := Tryd.isAgg170
  z218 := Tryd.sizeOf170
  v218 := Tryd.zeroValue170
  t222 := Tryd.underlying174
  a222 := Tryd.isAgg174
  z222 := Tryd.sizeOf174
  v222 := Tryd.zeroValue174
  t228 := Tryd.underlying189
  a228 := Tryd.isAgg189
  z228 := Tryd.sizeOf189
  v228 := Tryd.zeroValue189
  t229 := Tryd.underlying190
  a229 := Tryd.isAgg190
  z229 := Tryd.sizeOf190
  v229 := Tryd.zeroValue190 }
open Go.Sort Go.RowKit in
theorem Tryd.slices_Sort_int (blk off cap : Nat) (zs : List Int) (w : World) (hH : Holds (Value.int .i64) w blk off zs.toArray) (hblk : blk < w.heap.size) (hsz : zs.length < 4611686018427387904) :
    Calls Tryd.prog 118 #[.slice (some ⟨blk, off, none⟩) zs.length cap] w fun e w' =>
      e = .returned (.tuple #[]) ∧ ∃ n os, w' = grow (putRow (Value.int .i64) (Sort.ahead w n) blk off (zs.mergeSort fun x y => decide (x ≤ y)).toArray) os := Any.slices_Sort_int Tryd.lays189 blk off cap zs w hH hblk hsz
def Tryd.lays107_ren : Go.Shelf.Ren := ⟨fun | 107 => 120 | 108 => 147 | n => n, fun | 28 => 61 | 3 => 3 | 4 => 4 | 0 => 0 | n => n, fun | n => n⟩
theorem Tryd.lays107 : Go.Proofs.Lays.n107 Tryd.prog Tryd.lays107_ren := {
  mixed := by kernel_rfl
  f107 := Tryd.func120.trans (congrArg some (by kernel_rfl))
  f108 := Tryd.func147.trans (congrArg some (by kernel_rfl))
  t0 := Tryd.underlying0
  a0 := Tryd.isAgg0
  z0 := Tryd.sizeOf0
  v0 := Tryd.zeroValue0
  t3 := Tryd.underlying3
  a3 := Tryd.isAgg3
  z3 := Tryd.sizeOf3
  v3 := Tryd.zeroValue3
  t4 := Tryd.underlying4
  a4 := Tryd.isAgg4
  z4 := Tryd.sizeOf4
  v4 := Tryd.zeroValue4
  t28 := Tryd.underlying61
  a28 := Tryd.isAgg61
  z28 := Tryd.sizeOf61
  v28 := Tryd.zeroValue61 }
open Go.Lib in
theorem Tryd.slices_Contains_int (b off n c : Nat) (zs : List Int) (x : Int) (w : World) (hz : n ≤ zs.length) (hbig : n ≤ 9223372036854775807) (hc : ∀ j, j < zs.length → w.cell? ⟨b, off + j, none⟩ = some (.int .i64 (zs.getD j 0))) :
    Calls Tryd.prog 120 #[.slice (some ⟨b, off, none⟩) n c, .int .i64 x] w fun e w' => e = .returned (.bool ((zs.take n).contains x)) ∧ w' = w := Any.slices_Contains_int Tryd.lays107 b off n c zs x w hz hbig hc
open Go.Lib in
theorem Tryd.slices_Contains_int_empty (a : Option Addr) (c : Nat) (x : Int) (w : World) :
    Calls Tryd.prog 120 #[.slice a 0 c, .int .i64 x] w fun e w' => e = .returned (.bool false) ∧ w' = w := Any.slices_Contains_int_empty Tryd.lays107 a c x w
def Tryd.laysNm220_ren : Go.Shelf.Ren := ⟨fun | 20 => 119 | n => n, fun | 22 => 61 | 3 => 3 | 4 => 4 | 0 => 0 | n => n, fun | n => n⟩
theorem Tryd.laysNm220 : Go.Proofs.Lays2.n20 Tryd.prog Tryd.laysNm220_ren := {
  mixed := by kernel_rfl
  f20 := Tryd.func119.trans (congrArg some (by kernel_rfl))
  t0 := Tryd.underlying0
  a0 := Tryd.isAgg0
  z0 := Tryd.sizeOf0
  v0 := Tryd.zeroValue0
  t3 := Tryd.underlying3
  a3 := Tryd.isAgg3
  z3 := Tryd.sizeOf3
  v3 := Tryd.zeroValue3
  t4 := Tryd.underlying4
  a4 := Tryd.isAgg4
  z4 := Tryd.sizeOf4
  v4 := Tryd.zeroValue4
  t22 := Tryd.underlying61
  a22 := Tryd.isAgg61
  z22 := Tryd.sizeOf61
  v22 := Tryd.zeroValue61
  i3 := by kernel_rfl }
open Go.RowKit Go.Lib Go.Sort in
theorem Tryd.slices_Compact_int (blk off cap : Nat) (zs : List Int) (w : World) (hH : Holds (Value.int .i64) w blk off zs.toArray) (hsz : zs.length ≤ 9223372036854775807) (hcap : zs.length ≤ cap) :
    Calls Tryd.prog 119 #[.slice (some ⟨blk, off, none⟩) zs.length cap] w fun e w' => e = .returned (.slice (some ⟨blk, off, none⟩) (Lib.compact zs).length cap) ∧ ∃ q, w' = putRow (Value.int .i64) (Sort.ahead w q) blk off (Lib.compact zs ++ List.replicate (zs.length - (Lib.compact zs).length) 0).toArray := Any.slices_Compact_int Tryd.laysNm220 blk off cap zs w hH hsz hcap
open Go.RowKit Go.Lib Go.Sort in
theorem Tryd.slices_Compact_int_empty (a : Option Addr) (cap : Nat) (w : World) :
    Calls Tryd.prog 119 #[.slice a 0 cap] w fun e w' => e = .returned (.slice a 0 cap) ∧ w' = w := Any.slices_Compact_int_empty Tryd.laysNm220 a cap w
theorem Tryd.slices_Sort_int_none (p : Option Addr) (cap : Nat) (w : World) : Calls Tryd.prog 118 #[.slice p 0 cap] w fun e w' => e = .returned (.tuple #[]) ∧ w' = w := Any.slices_Sort_int_none Tryd.lays189 p cap w
end Go.Proofs
namespace Go.Proofs.YtokmaehefenpmaaDoor
open Go.RowKit Go.Sort Go.Proofs.YtokmaehefenpmaaDoor.Nm
set_option linter.unusedSimpArgs false
theorem u61 : Tryd.prog.underlying 61 = some (.slice 3) := by kernel_rfl
/-- A slice of numbers in memory. -/
def IxAt (w : World) (zs : List Int) (A : Option Addr) (l c : Nat) : Prop := zs.length = l ∧ l ≤ c ∧ c ≤ maxLen ∧ ∀ (i : Nat) (z : Int), zs[i]? = some z → ∃ b off, A = some ⟨b, off, none⟩ ∧ w.cell? ⟨b, off + i, none⟩ = some (.int .i64 z)
def OwnI (w : World) (B : Nat) (v : Value) (ns : List Int) : Prop := w.ownsRow B 3 1 v ns.length (ns.map (.int .i64))
theorem OwnI.nil (w : World) (B : Nat) : OwnI w B (.slice none 0 0) [] := World.ownsRow_nil _ _ _ _
theorem OwnI.lt {w : World} {B : Nat} {v : Value} {ns : List Int} (h : OwnI w B v ns) : ∀ b, v.ownBlock = some b → B ≤ b ∧ b < w.heap.size := World.ownsRow.lt h
theorem OwnI.old {w w' : World} {B : Nat} {v : Value} {ns : List Int} (h : OwnI w B v ns) (hb : Below w.heap.size w w') : OwnI w' B v ns := own_same h fun q hq _ => hb.block q hq
theorem OwnI.ix {w : World} {B : Nat} {v : Value} {ns : List Int} (h : OwnI w B v ns) : ∃ A l c, v = .slice A l c ∧ IxAt w ns A l c := by
  rcases h.2 with ⟨rfl, hn⟩ | ⟨g, cap, cur, rfl, hB, hg, hc, hm, hs, hcur⟩
  · have : ns = [] := by cases ns with | nil => rfl | cons => simp at hn
    subst this
    exact ⟨none, 0, 0, rfl, rfl, Nat.le_refl _, Nat.zero_le _, fun i s h => by simp at h⟩
  · refine ⟨_, _, _, rfl, rfl, hc, hm, fun i s hi => ⟨g, 0, rfl, ?_⟩⟩
    have hl : i < ns.length := (List.getElem?_eq_some_iff.1 hi).1
    rw [Nat.zero_add, cell_of_row _ _ _ _ _ _ hg]
    have h2 : (ns.map (Value.int .i64))[i]? = some (.int .i64 s) := by rw [List.getElem?_map, hi]; rfl
    rw [← hcur, List.getElem?_take_of_lt (by omega)] at h2
    simpa using h2
theorem info3b : (Tryd.prog.info? 3).map (fun i => (i.zero, i.size, i.bytes)) = some (some (.int .i64 0), 1, 8) := by kernel_rfl
theorem run_pushI {w : World} {B : Nat} {v : Value} {ns : List Int} {s : Int} (oty : TypeId) (h : OwnI w B v ns) {q : Nat} {tq : TypeId} (hq : w.heap[q]? = some (.cells #[.int .i64 s] tq (0, 0))) (hn : ns.length ≤ 1000000) (hB : B ≤ w.heap.size) :
    ∃ A l c w', (Builtin.append_ #[61, 61] oty #[v, .slice (some ⟨q, 0, none⟩) 1 1]).run Tryd.prog w = .ok (.slice A l c) w' ∧ OwnI w' B (.slice A l c) (ns ++ [s]) ∧ Gro v w (.slice A l c) w' := by
  obtain ⟨i0, hi, hz0, hz1, hz2⟩ := info_parts info3b
  obtain ⟨v', w', hr, g2, g3, g4, g5⟩ := run_append_own_at (P := Tryd.prog) w B 61 oty 3 i0 _ 1 8 u61 hi hz0 hz1 hz2 rfl (by decide) v ns.length _ h ⟨q, 0, none⟩ 1 1 [.int .i64 s] rfl (fun j u hj => by
      rw [show (Addr.add ⟨q, 0, none⟩ j) = ⟨q, j, none⟩ by rw [Addr.add_mid]; simp, cell_of_row _ _ _ _ _ _ hq]
      simpa using hj) (fun u hu => by simp at hu; subst hu; rfl) (by unfold maxLen; omega) (by omega) hB
  have hO : OwnI w' B v' (ns ++ [s]) := by unfold OwnI; simpa using g2
  obtain ⟨A', l', c', rfl, -⟩ := hO.ix
  refine ⟨A', l', c', w', hr, hO, fun b hb hne => g3.block b hb (fun e => hne e.symm), fun b e => ?_, fun B' w0 hb1 hb2 hb => hb.grown g3 hb2 hb1⟩
  rcases g5 with e5 | e5
  · rw [e5] at e; exact .inl e
  · rw [e5] at e; simp at e; exact .inr (by omega)
theorem run_bsI (s : Int) (w : World) : (Instr.buildSlice 61 1 #[(0, .int .i64 s)]).run Tryd.prog w = .ok (.slice (some ⟨w.heap.size, 0, none⟩) 1 1) (w.alloc (.cells #[.int .i64 s] 3)) := by kernel_rfl
section
variable {ops : Array Oper} {rest : List Oper} {o : Oper} {dst : Option Tmp} {ty' : TypeId} {x : Operand} {pos : String} {after : Array Edge} {a : Act} {w : World} {Q : Exit → Act → World → Prop}
theorem wl_bsI {s : Int} (hx : a.eval x = .int .i64 s)
    (h : ∀ W p, Below w.heap.size w W → w.heap.size ≤ p → W.heap[p]? = some (.cells #[.int .i64 s] 3 (0, 0)) → wpList Tryd.prog ops Q rest (a.put dst (.slice (some ⟨p, 0, none⟩) 1 1)) W) :
    wpList Tryd.prog ops Q (⟨dst, .buildSlice 61 1 #[(0, x)], ty', pos, after, none⟩ :: rest) a w :=
  wl_w rfl (by unfold execOp; simp [hx, run_bsI s w, Result.andThen]) (h _ _ ((Below.refl _ w).alloc (Nat.le_refl _) _) (Nat.le_refl _) (ha_new rfl))
theorem wl_pushI (hg : o.guard = none) (s x : Operand) (ho : o.op = .call { callee := .builtin .append, args := #[s, x], argTypes := #[61, 61] }) {B : Nat} {v : Value} {ns : List Int} {t : Int} {q : Nat} {tq : TypeId}
    (hs : a.eval s = v) (hx : a.eval x = .slice (some ⟨q, 0, none⟩) 1 1) (h : OwnI w B v ns) (hq : w.heap[q]? = some (.cells #[.int .i64 t] tq (0, 0))) (hn : ns.length ≤ 1000000) (hB : B ≤ w.heap.size)
    (hK : ∀ A l c w', OwnI w' B (.slice A l c) (ns ++ [t]) → Gro v w (.slice A l c) w' → wpList Tryd.prog ops Q rest (a.put o.dst (.slice A l c)) w') : wpList Tryd.prog ops Q (o :: rest) a w := by
  obtain ⟨A, l, c, w', hr, h2, h3⟩ := run_pushI o.type h hq hn hB
  refine wl_w hg ?_ (hK A l c w' h2 h3)
  unfold execOp
  simp only [ho, resolve, invoke, builtin, Sem.run_bind, Sem.run_pure, Result.andThen_ok, List.map_toArray, List.map_cons, List.map_nil, hs, hx, hr]
end
def sortedI (ns : List Int) : List Int := ns.mergeSort fun x y => decide (x ≤ y)
/-- The numbers sorted, each one once. -/
def distinctI (ns : List Int) : List Int := Lib.compact (sortedI ns)
theorem compactI_le (zs : List Int) : (Lib.compact zs).length ≤ zs.length := by
  unfold Lib.compact Lib.compactUpTo
  rw [List.length_map]
  exact Nat.le_trans (List.length_filter_le _ _) (by simp)
theorem distinctI_le (ns : List Int) : (distinctI ns).length ≤ ns.length := by
  unfold distinctI
  refine Nat.le_trans (compactI_le _) ?_
  simp [sortedI]
theorem distinctI_nil : distinctI [] = [] := List.length_eq_zero_iff.1 (by have := distinctI_le []; simpa using this)
/-- What distinct hands back: its argument's row turned. -/
def DPostI (B : Nat) (v : Value) (ns : List Int) (w : World) (e : Ending) (w' : World) : Prop := ∃ v', e = .returned v' ∧ OwnI w' B v' (distinctI ns) ∧ w.grownBy w' v.ownBlock ∧ ∀ b, v'.ownBlock = some b → v.ownBlock = some b
set_option maxHeartbeats 2000000 in
set_option maxRecDepth 100000 in
theorem distinctI_any (B : Nat) (A : Option Addr) (l c : Nat) (ns : List Int) (w : World) (h : OwnI w B (.slice A l c) ns) (hn : ns.length ≤ 1000000) :
    Calls Tryd.prog 99 #[.slice A l c] w (DPostI B (.slice A l c) ns w) := by
  rcases h.2 with ⟨hv, h0⟩ | ⟨g, cap, cur, hv, hB, hg, hc, hm, hs, ht⟩
  · cases hv
    obtain rfl : ns = [] := List.length_eq_zero_iff.1 h0
    have HS := Lib.hid (Tryd.slices_Sort_int_none none 0 w)
    have HC := Lib.hid (Tryd.slices_Compact_int_empty none 0 w)
    go_enter Tryd.func99, Tryd.ntmps99
    go_upto_region 1 with (fail)
    apply wp_region_lit
    (with_reducible refine wl_k ?_ ?_); exact rfl; intro K hK; go_simp; refine hK _ ?_; clear hK K
    (with_reducible refine wl_ck ?_ ?_); exact rfl; intro K hK; go_simp; refine ⟨_, _, ⟨rfl, rfl⟩, hK _ _ ⟨_, HS.out, ?_⟩⟩; clear hK K; rintro e w3 ⟨rfl, rfl⟩; refine ⟨_, rfl, ?_⟩; simp only [Zq]
    go_upto_region 2 with (fail)
    apply wp_region_lit
    (with_reducible refine wl_k ?_ ?_); exact rfl; intro K hK; go_simp; refine hK _ ?_; clear hK K
    (with_reducible refine wl_ck ?_ ?_); exact rfl; intro K hK; go_simp; refine ⟨_, _, ⟨rfl, rfl⟩, hK _ _ ⟨_, HC.out, ?_⟩⟩; clear hK K; rintro e w4 ⟨rfl, rfl⟩; refine ⟨_, rfl, ?_⟩; simp only [Zq]
    (with_reducible refine wl_k ?_ ?_); exact rfl; intro K hK; go_simp; refine hK _ ?_; clear hK K
    go_wp2_with fail
    go_ret
    exact ⟨_, rfl, by rw [distinctI_nil]; exact OwnI.nil _ _, grownBy_refl _ _, fun b h => h⟩
  · cases hv
    obtain ⟨zs, hzs⟩ : ∃ zs, zs = sortedI ns := ⟨_, rfl⟩
    have hzl : zs.length = ns.length := by rw [hzs]; simp [sortedI]
    rw [Nat.mul_one] at ht hs
    have hH : Holds (Value.int .i64) w g 0 ns.toArray := holds_of_blockI hg ht
    have hS := Tryd.slices_Sort_int g 0 c ns w hH (heap_lt hg) (by omega)
    rw [show ns.mergeSort (fun x y => decide (x ≤ y)) = zs by rw [hzs]; rfl] at hS
    have HS : Hid (Calls Tryd.prog 118 #[.slice (some ⟨g, 0, none⟩) ns.length c] w fun e w' => e = .returned (.tuple #[]) ∧ (∃ cur', w'.heap[g]? = some (.cells cur' 3 (0, 0)) ∧ cur'.size = c ∧ cur'.toList.take zs.length = zs.map (Value.int .i64)) ∧ w.grownBy w' (some g)) := Lib.hid (hS.mono fun e w' ⟨he, n, os, hw⟩ => by
      have h1 := ownsRow_sortedI (base := B) (os := os) (n := n) (ss := ns) (ts := zs) hzl hB hg hc hm (by omega)
      have h2 := grownBy_sortedI (w := w) (g := g) (n := n) (os := os) zs.toArray
      rw [← hw] at h1 h2
      refine ⟨he, ?_, h2⟩
      rcases h1.2 with ⟨h3, -⟩ | ⟨g', cap', cur', e1, -, hg', -, -, hs', ht'⟩
      · cases h3
      · cases e1
        refine ⟨cur', hg', by omega, ?_⟩
        rw [Nat.mul_one] at ht'
        rw [hzl]; exact ht')
    have hown : ∀ (w1 : World) (cur' : Array Value), w1.heap[g]? = some (.cells cur' 3 (0, 0)) → cur'.size = c → cur'.toList.take zs.length = zs.map (Value.int .i64) → Calls Tryd.prog 119 #[.slice (some ⟨g, 0, none⟩) ns.length c] w1 fun e w' => e = .returned (.slice (some ⟨g, 0, none⟩) (distinctI ns).length c) ∧ OwnI w' B (.slice (some ⟨g, 0, none⟩) (distinctI ns).length c) (distinctI ns) ∧ w1.grownBy w' (some g) := fun w1 cur' hg' hs' ht' => by
      have hK := Tryd.slices_Compact_int g 0 c zs w1 (holds_of_blockI hg' ht') (by omega) (by omega)
      rw [hzl] at hK
      have hdl : (distinctI ns).length = (Lib.compact zs).length := by rw [hzs]; rfl
      refine hK.mono fun e w' ⟨he, q, hw⟩ => ?_
      have hcl := compactI_le zs
      have h1 := ownsRow_sortedI (w := w1) (base := B) (os := #[]) (n := q) (ss := zs) (ts := Lib.compact zs ++ List.replicate (zs.length - (Lib.compact zs).length) 0) (by simp; omega) hB hg' (by omega) hm (by omega)
      have h2 := grownBy_sortedI (w := w1) (g := g) (n := q) (os := #[]) (Lib.compact zs ++ List.replicate (zs.length - (Lib.compact zs).length) 0).toArray
      rw [grow_empty] at h1 h2
      rw [hzl] at h1 h2
      rw [← hw] at h1 h2
      refine ⟨by rw [he, hdl], ?_, h2⟩
      have h3 := ownsRow_cut h1 (m := (Lib.compact zs).length) (by omega)
      have h4 : (distinctI ns).map (Value.int .i64) = (Lib.compact zs).map (Value.int .i64) := by rw [hzs]; rfl
      unfold OwnI
      rw [h4, hdl]
      rw [List.map_append, List.take_left' (by simp)] at h3
      exact h3
    have HW := Lib.hid hown
    clear hown hS hH hg ht hs hzs h hzl
    go_enter Tryd.func99, Tryd.ntmps99
    go_upto_region 1 with (fail)
    apply wp_region_lit
    (with_reducible refine wl_k ?_ ?_); exact rfl; intro K hK; go_simp; refine hK _ ?_; clear hK K
    (with_reducible refine wl_ck ?_ ?_); exact rfl; intro K hK; go_simp; refine ⟨_, _, ⟨rfl, rfl⟩, hK _ _ ⟨_, HS.out, ?_⟩⟩; clear hK K; rintro e w3 ⟨rfl, ⟨cur3, hg3, hs3, ht3⟩, hgr3⟩; refine ⟨_, rfl, ?_⟩; simp only [Zq]
    have HC := Lib.hid (HW.out w3 cur3 hg3 hs3 ht3)
    have HG := Lib.hid hgr3
    clear hg3 hs3 ht3 hgr3
    clear HS HW
    go_upto_region 2 with (fail)
    apply wp_region_lit
    (with_reducible refine wl_k ?_ ?_); exact rfl; intro K hK; go_simp; refine hK _ ?_; clear hK K
    (with_reducible refine wl_ck ?_ ?_); exact rfl; intro K hK; go_simp; refine ⟨_, _, ⟨rfl, rfl⟩, hK _ _ ⟨_, HC.out, ?_⟩⟩; clear hK K; rintro e w4 ⟨rfl, hown4, hgr4⟩; refine ⟨_, rfl, ?_⟩; simp only [Zq]
    have HO := Lib.hid hown4
    have HG2 := Lib.hid (grownBy_trans HG.out hgr4)
    clear hown4 hgr4
    (with_reducible refine wl_k ?_ ?_); exact rfl; intro K hK; go_simp; refine hK _ ?_; clear hK K
    clear HC HG
    go_wp2_with fail
    go_ret
    exact ⟨_, rfl, HO.out, HG2.out, fun b h => h⟩
open Go.RowKit Go.Proofs.YtokmaehefenpmaaDoor.Nm
set_option linter.unusedSimpArgs false
theorem g61 {w : World} {p : Nat} {A : Option Addr} {l c : Nat} {t : TypeId} {fr : Nat × Nat} (h : w.heap[p]? = some (.cells #[.slice A l c] t fr)) : OneAt w 61 ⟨p, 0, none⟩ (.slice A l c) := one_of u61 rfl (by rw [cell_of_row _ _ _ _ _ _ h]; rfl)
theorem info61 : (Tryd.prog.info? 61).map (·.size) = some 1 := by kernel_rfl
theorem ex_alloc61 {o : Oper} (ho : o.op = .alloc 61) (ev : Operand → Value) (w : World) : (execOp ev o).run Tryd.prog w = .ok (.value (.pointer (some ⟨w.heap.size, 0, none⟩))) (w.alloc (.cells #[.slice none 0 0] 61)) := by
  unfold execOp
  simp only [ho]
  kernel_rfl
theorem ent98 : Enters Tryd.prog 98 := enters_of Tryd.func98 (by kernel_rfl) rfl
/-- What is collected at a node. -/
def stepV (t : Ty) (ns : List Int) : Bool × List Int := (true, if t.kind = 12 then ns ++ [t.num] else ns)
set_option maxHeartbeats 2000000 in
set_option maxRecDepth 100000 in
theorem vars1_any (z B : Nat) (t : Ty) (w : World) (A : Option Addr) (l c : Nat) (ns : List Int) (C : Nat → Prop) (hz : w.heap[z]? = some (.cells #[.slice A l c] 61 (0, 0))) (ho : OwnI w B (.slice A l c) ns) (hzB : z < B) (hB : B ≤ w.heap.size) (hn : ns.length ≤ 100000) (hCz : C z) (hCo : ∀ b, (Value.slice A l c).ownBlock = some b → C b) (D : Nat → Prop) (row : Array Value) (h : TyAt w D t row) :
    Calls Tryd.prog 98 #[.agg row, .pointer (some ⟨z, 0, none⟩)] w fun e w' => e = .returned (.bool true) ∧ ∃ A' l' c', w'.heap[z]? = some (.cells #[.slice A' l' c'] 61 (0, 0)) ∧ OwnI w' B (.slice A' l' c') (stepV t ns).2 ∧ Keep C w w' ∧ ∀ b, (Value.slice A' l' c').ownBlock = some b → C b ∨ w.heap.size ≤ b := by
  obtain ⟨k, s, n, A1, l1, c1, ts, he, rfl, -⟩ := h.parts
  have HO := Lib.hid ho
  have HCO := Lib.hid hCo
  have HLT := Lib.hid ho.lt
  clear h ho hCo
  have hb := Below.refl w.heap.size w
  go_enter Tryd.func98, Tryd.ntmps98
  go_upto_region 0 with (fail)
  apply wp_region_lit
  have lthzp := heap_lt hz; (with_reducible refine wl_box rfl ?_); intro W p hbn hlp hp; replace hz := below_look hbn hz; replace hb := hb.trans (hbn.mono hb.size); clear hbn; simp only [Zq]
  (with_reducible refine wl_k ?_ ?_); exact rfl; intro K hK; go_simp; refine hK _ ?_; clear hK K
  go_upto_region 1 with (fail)
  apply wp_region_lit
  (with_reducible refine wl_k ?_ ?_); exact rfl; intro K hK; go_simp; refine hK _ ?_; clear hK K
  (first | ((with_reducible apply wl_oneG); exact rfl; exact rfl; first | exact f0 (by with_reducible assumption) | exact f1 (by with_reducible assumption) | exact f2 (by with_reducible assumption) | exact f3 (by with_reducible assumption) | with_reducible assumption | exact g22 (by with_reducible assumption) | exact g25 (by with_reducible assumption)) | ((with_reducible apply wl_rowG); exact rfl; exact rfl; first | with_reducible assumption | exact RowK.now (by with_reducible assumption) | exact f4 (by with_reducible assumption)))
  (with_reducible refine wl_k ?_ ?_); exact rfl; intro K hK; go_simp; refine hK _ ?_; clear hK K
  by_cases hk7 : k = 12
  · have e1 : (k == 12) = true := by simp [hk7]
    have HST : Hid ((stepV t ns).2 = ns ++ [n]) := Lib.hid (by rw [he]; simp [stepV, Ty.kind, Ty.num, hk7])
    clear hk7
    go_upto_region 2 with (fail)
    have HOW := Lib.hid (HO.out.old hb)
    apply wp_region_lit
    ((with_reducible apply wl_oneG); exact rfl; exact rfl; exact g61 hz)
    (with_reducible refine wl_k ?_ ?_); exact rfl; intro K hK; go_simp; refine hK _ ?_; clear hK K
    (first | ((with_reducible apply wl_oneG); exact rfl; exact rfl; first | exact f0 (by with_reducible assumption) | exact f1 (by with_reducible assumption) | exact f2 (by with_reducible assumption) | exact f3 (by with_reducible assumption) | with_reducible assumption | exact g22 (by with_reducible assumption) | exact g25 (by with_reducible assumption)) | ((with_reducible apply wl_rowG); exact rfl; exact rfl; first | with_reducible assumption | exact RowK.now (by with_reducible assumption) | exact f4 (by with_reducible assumption)))
    have lthzq := heap_lt hz; have lthpq := heap_lt hp; (with_reducible refine wl_bsI rfl ?_); intro W1 q hbn hlq hq; replace hz := below_look hbn hz; replace hp := below_look hbn hp; replace hb := hb.trans (hbn.mono hb.size); clear hbn; simp only [Zq]
    replace HOW := Lib.hid (HO.out.old hb)
    refine wl_pushI rfl _ _ rfl rfl rfl HOW.out hq (by omega) (by have := hb.size; omega) ?_
    intro A9 l9 c9 w9 hown hgro
    have hzn : (Value.slice A l c).ownBlock ≠ some z := fun e => by have := (HLT.out z e).1; omega
    have hzg := (hgro.keep z (heap_lt hz) hzn).trans hz
    have HK := Lib.hid ((Keep.of (C := C) hb).trans (C' := C) (fun b h => Or.inl h) (Keep.gro hgro HCO.out))
    have HG := Lib.hid (show ∀ b, (Value.slice A9 l9 c9).ownBlock = some b → C b ∨ w.heap.size ≤ b from fun b e => (hgro.own b e).imp (HCO.out b) (fun h => by have := hb.size; omega))
    have HN := Lib.hid hown
    have hzz : (Value.slice A9 l9 c9).ownBlock ≠ some z := fun e => by have := (hown.lt z e).1; omega
    clear hown hgro hz hp hq
    simp only [Zq]
    (with_reducible refine wl_put1 (v := .slice A9 l9 c9) info61 ?_ ?_ ?_ hzg ?_); exact rfl; exact rfl; exact rfl; rw [put_noneA]; intro W3 hbx hsz hkx hnx; clear hzg; have hzg := hnx; clear hnx
    have HK3 := Lib.hid (HK.out.trans (C' := C) (fun b h => Or.inl h) (w2 := W3) ⟨(hbx 0 w9 (Nat.zero_le _) (Below.refl _ _)).os, (hbx 0 w9 (Nat.zero_le _) (Below.refl _ _)).tape, (hbx 0 w9 (Nat.zero_le _) (Below.refl _ _)).output, (hbx 0 w9 (Nat.zero_le _) (Below.refl _ _)).size, fun b _ hn => hkx b (fun e => hn (by rw [e]; exact hCz))⟩)
    have HN3 : Hid (OwnI W3 B (.slice A9 l9 c9) (ns ++ [n])) := Lib.hid (own_same HN.out fun q _ e => hkx q (fun e2 => hzz (by rw [← e2]; exact e)))
    have HZ := Lib.hid hzg
    clear hbx hkx hsz hzg HN HK HOW
    go_wp2_with fail
    go_ret
    exact ⟨rfl, _, _, _, HZ.out, by rw [HST.out]; exact HN3.out, HK3.out, HG.out⟩
  · have e1 : (k == 12) = false := by simp [hk7]
    have HST : Hid ((stepV t ns).2 = ns) := Lib.hid (by rw [he]; simp [stepV, Ty.kind, hk7])
    clear hk7
    have HZ := Lib.hid hz
    clear hz hp
    go_wp2_with fail
    go_ret
    exact ⟨rfl, _, _, _, HZ.out, by rw [HST.out]; exact HO.out.old hb, Keep.of hb, fun b e => .inl (HCO.out b e)⟩
/-- The collected names, their variable. -/
def InvV (z B : Nat) (w : World) (C : Nat → Prop) (ns : List Int) : Prop :=
  ∃ A l c, w.heap[z]? = some (.cells #[.slice A l c] 61 (0, 0)) ∧ OwnI w B (.slice A l c) ns ∧ z < B ∧ B ≤ w.heap.size ∧ ∀ b, C b ↔ b = z ∨ (Value.slice A l c).ownBlock = some b
theorem visit_lenV : ∀ (t : Ty) (ns : List Int), (visit stepV t ns).1 = true ∧ (visit stepV t ns).2.length ≤ ns.length + t.nodes := Ty.ind fun k s n l ih ns => by
  have hl : ∀ (l : List Ty), (∀ t, t ∈ l → ∀ ns, (visit stepV t ns).1 = true ∧ (visit stepV t ns).2.length ≤ ns.length + t.nodes) → ∀ ns, (visits stepV l ns).1 = true ∧ (visits stepV l ns).2.length ≤ ns.length + nodesL l := by
    intro l
    induction l with
    | nil => intro _ ns; simp [visits, nodesL]
    | cons t l ihl =>
      intro h ns
      obtain ⟨h1, h2⟩ := h t (by simp) ns
      simp only [visits, nodesL]
      cases hv : visit stepV t ns with
      | mk b x =>
        rw [hv] at h1 h2
        cases h1
        obtain ⟨g1, g2⟩ := ihl (fun t ht => h t (by simp [ht])) x
        exact ⟨g1, by simp only at h2 ⊢; omega⟩
  have hs : stepV (.node k s n l) ns = (true, (stepV (.node k s n l) ns).2) := rfl
  have hs2 : (stepV (.node k s n l) ns).2.length ≤ ns.length + 1 := by
    unfold stepV
    simp only
    split <;> simp
  simp only [visit]
  rw [hs]
  obtain ⟨g1, g2⟩ := hl l ih (stepV (.node k s n l) ns).2
  exact ⟨g1, by simp only [Ty.nodes]; omega⟩
theorem visC_vars (z B : Nat) : VisC2 (fun t (s : List Int) => s.length + t.nodes ≤ 100000) (fun l s => s.length + nodesL l ≤ 100000) 98 #[.pointer (some ⟨z, 0, none⟩)] stepV (InvV z B) where
  ent := ent98
  low := fun w C s hI b hb => by
    obtain ⟨A, l, c, h1, h2, h3, h4, h5⟩ := hI
    rcases (h5 b).1 hb with rfl | e
    · exact heap_lt h1
    · exact (h2.lt b e).2
  keep := fun w C s hI w' hb => by
    obtain ⟨A, l, c, h1, h2, h3, h4, h5⟩ := hI
    exact ⟨A, l, c, below_look hb h1, h2.old hb, h3, Nat.le_trans h4 hb.size, h5⟩
  sub := fun k s n l st h _ => by
    have : (stepV (.node k s n l) st).2.length ≤ st.length + 1 := by
      unfold stepV
      simp only
      split <;> simp
    simp only [Ty.nodes] at h
    show _ + _ ≤ _
    omega
  one := fun t l st h => by simp only [nodesL] at h; show _ + _ ≤ _; omega
  next := fun t l st h _ => by
    have := (visit_lenV t st).2
    simp only [nodesL] at h
    show _ + _ ≤ _
    omega
  run := fun w C s hI t hq D row h _ => by
    obtain ⟨A, l, c, h1, h2, h3, h4, h5⟩ := hI
    refine (vars1_any z B t w A l c s C h1 h2 h3 h4 (by have : s.length + t.nodes ≤ 100000 := hq; omega) ((h5 z).2 (.inl rfl)) (fun b e => (h5 b).2 (.inr e)) D row h).mono ?_
    rintro e w' ⟨rfl, A', l', c', g1, g2, g3, g4⟩
    refine ⟨rfl, fun b => b = z ∨ (Value.slice A' l' c').ownBlock = some b, fun _ => ⟨A', l', c', g1, g2, h3, Nat.le_trans h4 g3.size, fun b => Iff.rfl⟩, g3, fun b hb => ?_⟩
    rcases hb with rfl | hb
    · exact .inl ((h5 b).2 (.inl rfl))
    · exact g4 b hb
/-- The names of a tree's parameters, in the order in which its nodes are seen. -/
def varsOf (t : Ty) : List Int := (visit stepV t []).2
set_option maxHeartbeats 2000000 in
set_option maxRecDepth 100000 in
theorem Vars_any (t : Ty) (hnd : t.nodes ≤ 90000) (w : World) (D : Nat → Prop) (row : Array Value) (h : TyAt w D t row) :
    Calls Tryd.prog 69 #[.agg row] w fun e w' => ∃ A l c, e = .returned (.slice A l c) ∧ IxAt w' (distinctI (varsOf t)) A l c ∧ Below w.heap.size w w' := by
  have hmf : ∀ (fn : Fn) (first cap : Array Value) (w : World), (Instr.makeFunc fn first cap).run Tryd.prog w = .ok (.func fn first cap) w := fun _ _ _ _ => rfl
  have HT := Lib.hid h
  obtain ⟨k, s, n, A, l, c, ts, he, rfl, -⟩ := h.parts
  clear h he
  have hb := Below.refl w.heap.size w
  go_enter Tryd.func69, Tryd.ntmps69
  go_upto_region 0 with (fail)
  apply wp_region_lit
  (with_reducible refine wl_box rfl ?_); intro W p hbn hlp hp; replace hb := hb.trans (hbn.mono hb.size); clear hbn; simp only [Zq]
  (with_reducible refine wl_k ?_ ?_); exact rfl; intro K hK; go_simp; refine hK _ ?_; clear hK K
  have hlW := hb.size
  go_upto_region 1 with (fail)
  apply wp_region_lit
  refine wl_new (z := #[.slice none 0 0]) (fun ev w => ex_alloc61 rfl ev w) ?_
  intro W2 z hbn hlz hz
  replace hp := below_look hbn hp; replace hb := hb.trans (hbn.mono hb.size); clear hbn
  simp only [Zq]
  have hlt := heap_lt hz
  have hlw := hb.size
  have hlp' := heap_lt hp
  have HC := Lib.hid (each_any2 (visC_vars z W2.heap.size) t W2 (fun b => b = z) [] (by show _ + _ ≤ _; simp; omega) (fun b => D b ∧ b < w.heap.size) (cell4 k s n A l c) ⟨none, 0, 0, hz, OwnI.nil _ _, hlt, Nat.le_refl _, fun b => by simp [Value.ownBlock]⟩ (HT.out.low.old hb) (fun b hD hc => by have := hD.2; omega))
  rw [show visit stepV t [] = (true, varsOf t) from Prod.ext (visit_lenV t []).1 rfl] at HC
  have HNL : Hid ((varsOf t).length ≤ 1000000) := Lib.hid (by have := (visit_lenV t []).2; unfold varsOf; simp at this; omega)
  go_upto_region 2 with (fail)
  apply wp_region_lit
  (first | ((with_reducible apply wl_oneG); exact rfl; exact rfl; first | exact f0 (by with_reducible assumption) | exact f1 (by with_reducible assumption) | exact f2 (by with_reducible assumption) | exact f3 (by with_reducible assumption) | with_reducible assumption | exact g22 (by with_reducible assumption) | exact g25 (by with_reducible assumption)) | ((with_reducible apply wl_rowG); exact rfl; exact rfl; first | with_reducible assumption | exact RowK.now (by with_reducible assumption) | exact f4 (by with_reducible assumption)))
  (with_reducible refine wl_k ?_ ?_); exact rfl; intro K hK; go_simp; refine hK _ ?_; clear hK K
  (with_reducible refine wl_ck ?_ ?_); exact rfl; intro K hK; go_simp; refine ⟨_, _, ⟨rfl, rfl⟩, hK _ _ ⟨_, HC.out, ?_⟩⟩; clear hK K; rintro e w7 ⟨rfl, C7, hI7, hk7, hC7⟩; refine ⟨_, rfl, ?_⟩; simp only [Zq]
  obtain ⟨A7, l7, c7, hz7, ho7, -, -, -⟩ := hI7 rfl
  have HO7 := Lib.hid ho7
  have HB7 := Lib.hid (Below.keep hb hk7 (fun b (h : b = z) => by omega))
  clear hI7 hk7 hC7 ho7 hp hz
  clear HC
  have HC := Lib.hid (distinctI_any W2.heap.size A7 l7 c7 (varsOf t) w7 HO7.out HNL.out)
  go_upto_region 3 with (fail)
  apply wp_region_lit
  ((with_reducible apply wl_oneG); exact rfl; exact rfl; exact g61 hz7)
  (with_reducible refine wl_ck ?_ ?_); exact rfl; intro K hK; go_simp; refine ⟨_, _, ⟨rfl, rfl⟩, hK _ _ ⟨_, HC.out, ?_⟩⟩; clear hK K; rintro e w8 ⟨v8, rfl, hown8, hgr8, -⟩; refine ⟨_, rfl, ?_⟩; simp only [Zq]
  obtain ⟨A8, l8, c8, rfl, htx8⟩ := hown8.ix
  have HTX := Lib.hid htx8
  have HB8 := Lib.hid (Below.grown HB7.out hgr8 (by have := HB7.out.size; omega) (fun b e => by have := (HO7.out.lt b e).1; omega))
  clear hown8 hgr8 htx8 hz7
  (with_reducible refine wl_k ?_ ?_); exact rfl; intro K hK; go_simp; refine hK _ ?_; clear hK K
  clear HC
  go_wp2_with fail
  go_ret
  exact ⟨_, _, _, rfl, HTX.out, HB8.out⟩
open Go.RowKit Go.ChangeMaps Go.Proofs.YtokmaehefenpmaaDoor.Nm
theorem run_new90 {r : Nat} {es : Array MapEntry} {c : Nat} {k : Int} {v : Value} (w : World) (hb : w.heap[r]? = some (.map es c)) (hf : Instr.findNow (.int .i64) (.int .i64 k) es.toList 0 = some none) :
    (Instr.mapUpdate 90 (.map (some r)) (.int .i64 k) v).run Tryd.prog w = .ok () { w with heap := w.heap.setIfInBounds r (.map (es.push { key := .int .i64 k, val := v, born := c }) (c + 1)) } := by
  unfold Instr.mapUpdate
  simp only [Sem.run_bind, run_underlying u90, Result.andThen, MapKept.run_getObj_map hb, MapKept.run_checkKey u3 (k := .int .i64 k) (by simp [MapKept.IsKey]) false 9999, MapKept.run_findKey u3 hf, MapKept.run_setObj_map _ hb]
theorem run_upd90 {r : Nat} {es : Array MapEntry} {c : Nat} {k : Int} {v x : Value} {j : Nat} {e : MapEntry} (w : World) (hb : w.heap[r]? = some (.map es c)) (hf : Instr.findNow (.int .i64) (.int .i64 k) es.toList 0 = some (some (j, x))) (hj : es[j]? = some e) (hk : e.key = .int .i64 k) :
    (Instr.mapUpdate 90 (.map (some r)) (.int .i64 k) v).run Tryd.prog w = .ok () { w with heap := w.heap.setIfInBounds r (.map (es.modify j fun e => { e with key := .int .i64 k, val := v }) c) } := by
  unfold Instr.mapUpdate
  simp [Sem.run_bind, run_underlying u90, Result.andThen, MapKept.run_getObj_map hb, MapKept.run_checkKey u3 (k := .int .i64 k) (by simp [MapKept.IsKey]) false 9999, MapKept.run_findKey u3 hf, hj, hk, MapKept.run_keyThatStays (d := .int .i64) (k := .int .i64 k) (by simp [MapKept.IsKey]), MapKept.run_setObj_map _ hb]
def setMap (w : World) (q : Nat) (o : Obj) : World := { w with heap := w.heap.setIfInBounds q o }
theorem setMap_new {w : World} {q : Nat} {o o' : Obj} (hb : w.heap[q]? = some o) : (setMap w q o').heap[q]? = some o' := (MapKept.heap_set hb).1
theorem setMap_old {w : World} {q : Nat} {o o' : Obj} (hb : w.heap[q]? = some o) {p : Nat} (hp : p ≠ q) : (setMap w q o').heap[p]? = w.heap[p]? := (MapKept.heap_set hb).2 p hp
theorem setMap_size (w : World) (q : Nat) (o : Obj) : (setMap w q o).heap.size = w.heap.size := by simp [setMap]
theorem setMap_keep {w : World} {q : Nat} {o o' : Obj} (hb : w.heap[q]? = some o) : Keep (fun b => b = q) w (setMap w q o') := ⟨rfl, rfl, rfl, by rw [setMap_size]; omega, fun b _ hn => setMap_old hb hn⟩
theorem tree_keep {w w' : World} {q : Nat} {t : Ty} {row : Array Value} (h : TyAt w (fun b => b ≠ q) t row) (hk : Keep (fun b => b = q) w w') : TyAt w' (fun b => b ≠ q) t row := h.keep hk fun _ h e => h e
/-- A new entry. -/
theorem MapR.new {w : World} {q : Nat} {f : Nat → Option Ty} {es : Array MapEntry} {c : Nat} (h : MapR w q f es c) {v : Nat} (hv : f v = none) {t : Ty} {row : Array Value} (ht : TyAt w (fun b => b ≠ q) t row) :
    MapR (setMap w q (.map (es.push { key := .int .i64 (v : Int), val := .agg row, born := c }) (c + 1))) q (fun x => if x = v then some t else f x) (es.push { key := .int .i64 (v : Int), val := .agg row, born := c }) (c + 1) := by
  have hm := (h.miss (k := (v : Int)) (fun v' e => by
    have e2 : v = v' := by omega
    rw [← e2]; exact hv)).2
  refine ⟨setMap_new h.blk, MapKept.stamped_push h.st hm, fun x hx => ?_, fun x t' hx => ?_⟩
  · simp only [Array.toList_push, List.mem_append, List.mem_singleton] at hx
    rcases hx with hx | rfl
    · obtain ⟨v', row', t', h1, h2, h3, h4⟩ := h.ent x hx
      have hne : v' ≠ v := fun e => by rw [e, hv] at h3; cases h3
      exact ⟨v', row', t', h1, h2, by rw [if_neg hne]; exact h3, tree_keep h4 (setMap_keep h.blk)⟩
    · exact ⟨v, row, t, rfl, rfl, if_pos rfl, tree_keep ht (setMap_keep h.blk)⟩
  · by_cases e : x = v
    · subst e
      exact ⟨{ key := .int .i64 (x : Int), val := .agg row, born := c }, by simp, rfl⟩
    · simp only [if_neg e] at hx
      obtain ⟨y, hy, hk⟩ := h.has x t' hx
      exact ⟨y, by simp [hy], hk⟩
/-- An entry changed. -/
theorem MapR.upd {w : World} {q : Nat} {f : Nat → Option Ty} {es : Array MapEntry} {c : Nat} (h : MapR w q f es c) {v j : Nat} {e : MapEntry} (hj : es[j]? = some e) (hk : e.key = .int .i64 (v : Int)) {t : Ty} {row : Array Value} (ht : TyAt w (fun b => b ≠ q) t row) :
    MapR (setMap w q (.map (es.modify j fun e => { e with key := .int .i64 (v : Int), val := .agg row }) c)) q (fun x => if x = v then some t else f x) (es.modify j fun e => { e with key := .int .i64 (v : Int), val := .agg row }) c := by
  have hmem : ∀ x, x ∈ (es.modify j fun e => { e with key := .int .i64 (v : Int), val := .agg row }).toList → (∃ y, es[j]? = some y ∧ x = { y with key := .int .i64 (v : Int), val := .agg row }) ∨ ∃ i, i ≠ j ∧ es[i]? = some x := fun x hx => by
    obtain ⟨i, hi⟩ := List.mem_iff_getElem?.1 hx
    rw [Array.getElem?_toList, Array.getElem?_modify] at hi
    split at hi
    · rename_i e2
      subst e2
      rw [hj] at hi
      exact Or.inl ⟨e, hj, by simpa using hi.symm⟩
    · rename_i e2
      exact Or.inr ⟨i, fun h => e2 h.symm, hi⟩
  have hnd := h.st.2.2
  refine ⟨setMap_new h.blk, MapKept.stamped_modify h.st _ _ (fun _ _ => rfl) (fun e' _ he' => by rw [hj] at he'; cases he'; exact hk.symm), fun x hx => ?_, fun x t' hx => ?_⟩
  · rcases hmem x hx with ⟨y, hy, rfl⟩ | ⟨i, hi, hx⟩
    · exact ⟨v, row, t, rfl, rfl, if_pos rfl, tree_keep ht (setMap_keep h.blk)⟩
    · obtain ⟨v', row', t', h1, h2, h3, h4⟩ := h.ent x (List.mem_of_getElem? (by rw [Array.getElem?_toList]; exact hx))
      have hne : v' ≠ v := fun e2 => hi (by
        have g1 : (es.toList.map (·.key))[i]? = some (.int .i64 (v : Int)) := by rw [List.getElem?_map, Array.getElem?_toList, hx, ← e2]; simp [h1]
        have g2 : (es.toList.map (·.key))[j]? = some (.int .i64 (v : Int)) := by rw [List.getElem?_map, Array.getElem?_toList, hj]; simp [hk]
        exact (List.getElem?_inj (List.getElem?_eq_some_iff.1 g1).1 hnd).1 (g1.trans g2.symm))
      exact ⟨v', row', t', h1, h2, by rw [if_neg hne]; exact h3, tree_keep h4 (setMap_keep h.blk)⟩
  · by_cases e2 : x = v
    · subst e2
      refine ⟨{ e with key := .int .i64 (x : Int), val := .agg row }, List.mem_of_getElem? (i := j) (by rw [Array.getElem?_toList, Array.getElem?_modify, if_pos rfl, hj]; rfl), rfl⟩
    · simp only [if_neg e2] at hx
      obtain ⟨y, hy, hk2⟩ := h.has x t' hx
      obtain ⟨i, hi⟩ := List.mem_iff_getElem?.1 hy
      rw [Array.getElem?_toList] at hi
      have hij : j ≠ i := fun e3 => by
        subst e3
        rw [hj] at hi; cases hi
        rw [hk] at hk2
        injection hk2 with _ g
        omega
      exact ⟨y, List.mem_of_getElem? (i := i) (by rw [Array.getElem?_toList, Array.getElem?_modify, if_neg hij]; exact hi), hk2⟩
theorem born_modify {es : Array MapEntry} {j : Nat} {k : Value} {row : Array Value} : (es.modify j fun e => { e with key := k, val := .agg row }).toList.map (·.born) = es.toList.map (·.born) := by
  apply List.ext_getElem?
  intro i
  simp only [List.getElem?_map, Array.getElem?_toList, Array.getElem?_modify]
  split
  · rename_i e; subst e
    cases es[j]? <;> rfl
  · rfl
theorem left_modify {es : Array MapEntry} {j : Nat} {k : Value} {row : Array Value} {seen : Array Nat} : (leftOf (es.modify j fun e => { e with key := k, val := .agg row }) seen).size = (leftOf es seen).size := by
  have key : ∀ a : Array MapEntry, (leftOf a seen).size = ((a.toList.map (·.born)).filter fun b => !seen.contains b).length := fun a => by
    unfold leftOf
    rw [← Array.length_toList, Array.toList_filter, List.filter_map, List.length_map]
    rfl
  rw [key, key, born_modify]
theorem left_len (es : Array MapEntry) (seen : Array Nat) : (leftOf es seen).size = (es.toList.filter fun e => !seen.contains e.born).length := by
  unfold leftOf
  rw [← Array.length_toList, Array.toList_filter]
theorem left_mem {es : Array MapEntry} {seen : Array Nat} {e : MapEntry} : e ∈ (leftOf es seen).toList ↔ e ∈ es.toList ∧ seen.contains e.born = false := by
  unfold leftOf
  rw [Array.toList_filter, List.mem_filter]
  simp
theorem left_push {es : Array MapEntry} {seen : Array Nat} {e : MapEntry} (he : e ∈ (leftOf es seen).toList) : (leftOf es (seen.push e.born)).size < (leftOf es seen).size := by
  rw [left_len, left_len]
  have h1 := left_mem.1 he
  refine filter_lt (fun x _ hx => ?_) ⟨e, h1.1, by rw [h1.2]; rfl, by simp⟩
  simp at hx ⊢
  exact hx.1
/-- What is known behind binding a variable, where some entries have been gone through. -/
def goneF (f : Nat → Option Ty) (v : Nat) (t : Ty) (P : Nat → Bool) (x : Nat) : Option Ty := if x = v then some t else if P x then (f x).map (sub1 v t) else f x
structure KnownX (m : Nat) (sol : List Ty) (f : Nat → Option Ty) : Prop extends Known m sol f where
  free : ∀ v, f v ≠ some (varT v)
theorem KnownX.none {m : Nat} {sol : List Ty} {f : Nat → Option Ty} (h : KnownX m sol f) (hg : Good m sol) {w : Nat} (hw : applyTy sol (varT w) = varT w) : f w = none := by
  cases hf : f w with
  | none => rfl
  | some u =>
    obtain ⟨h1, h2⟩ := h.dom w u hf
    have := app_var h2 (hg.fine u (List.mem_of_getElem? h2)).kind
    rw [this] at hw
    rw [hw] at hf
    exact absurd hf (h.free w)
/-- What is put in while the entries are gone through. -/
theorem gone_put {m : Nat} {sol : List Ty} {f : Nat → Option Ty} (h : KnownX m sol f) (hg : Good m sol) {v : Nat} {t : Ty} (P : Nat → Bool) : ∀ x, FineV m x → applyTy sol x = x → repl (selK (goneF f v t P)) x = sub1 v t x := FineV.ind (fun w hw hfix => by
    rw [sub1_var]
    by_cases e : w = v
    · subst e
      rw [if_pos rfl]
      exact repl_some (by simp [selK, varT, Ty.kind, Ty.num, goneF])
    · rw [if_neg e]
      have hn := h.none hg hfix
      unfold varT
      rw [repl_none (by simp [selK, Ty.kind, Ty.num, goneF, e, hn])]
      rfl) fun k s n l h1 _ _ ih hfix => by
  rw [sub1_node h1, repl_none (by simp [selK, Ty.kind, h1])]
  congr 1
  have hl := map_fix h1 hfix
  refine List.map_congr_left fun u hu => ih u hu ?_
  obtain ⟨i, hi, rfl⟩ := List.mem_iff_getElem.1 hu
  have := congrArg (fun x => x[i]?) hl
  simp only [List.getElem?_map, List.getElem?_eq_getElem hi, Option.map_some, Option.some.injEq] at this
  exact this
/-- What is known when all entries have been gone through. -/
theorem gone_all {m : Nat} {sol : List Ty} {f : Nat → Option Ty} (h : KnownX m sol f) (hg : Good m sol) {v : Nat} (hv : v < m) {t : Ty} (ht : FineV m t) (hne : t ≠ varT v) (hfix : applyTy sol t = t) (hvar : applyTy sol (varT v) = varT v) (P : Nat → Bool) (hP : ∀ x u, f x = some u → x ≠ v → P x = true) :
    KnownX m (sol.map (sub1 v t)) (goneF f v t P) := by
  have hfv := h.none hg hvar
  have hsv : sol[v]? = some (varT v) := h.rest v hv hfv
  refine ⟨⟨fun x u hx => ?_, fun x hx hn => ?_⟩, fun x hx => ?_⟩
  · unfold goneF at hx
    split at hx
    · rename_i e; subst e; cases hx
      exact ⟨hv, by rw [List.getElem?_map, hsv, Option.map_some, sub1_var, if_pos rfl]⟩
    · rename_i e
      cases hf : f x with
      | none => rw [hf] at hx; split at hx <;> cases hx
      | some y =>
        rw [hf, if_pos (hP x y hf e)] at hx
        cases hx
        obtain ⟨g1, g2⟩ := h.dom x y hf
        exact ⟨g1, by rw [List.getElem?_map, g2]; rfl⟩
  · unfold goneF at hn
    split at hn
    · cases hn
    · rename_i e
      cases hf : f x with
      | none => rw [List.getElem?_map, h.rest x hx hf, Option.map_some, sub1_var, if_neg e]
      | some y => rw [hf, if_pos (hP x y hf e)] at hn; cases hn
  · unfold goneF at hx
    split at hx
    · rename_i e; subst e; cases hx; exact hne rfl
    · rename_i e
      cases hf : f x with
      | none => rw [hf] at hx; split at hx <;> cases hx
      | some y =>
        rw [hf, if_pos (hP x y hf e)] at hx
        obtain ⟨g1, g2⟩ := h.dom x y hf
        have fy := hg.fine y (List.mem_of_getElem? g2)
        have hx : sub1 v t y = varT x := by simpa using hx
        rcases fy.cases with ⟨z, hz, e1⟩ | ⟨k, s, n, l, e1, k1, k0, -⟩
        · rw [e1, sub1_var] at hx
          split at hx
          · rename_i e2
            rw [hx] at hfix
            exact absurd (h.none hg hfix) (by rw [hf]; simp)
          · rw [hx] at e1
            rw [e1] at hf
            exact h.free x hf
        · rw [e1, sub1_node k1] at hx
          unfold varT at hx
          injection hx with q
          exact k1 q
theorem mem_compactI {zs : List Int} {x : Int} : x ∈ Lib.compact zs ↔ x ∈ zs := by
  unfold Lib.compact Lib.compactUpTo
  simp only [List.mem_map, List.mem_filter, List.mem_range]
  constructor
  · rintro ⟨j, ⟨hj, -⟩, rfl⟩
    have : j < zs.toArray.size := by simpa using hj
    rw [getElem!_pos zs.toArray j this]
    simp
  · intro hx
    obtain ⟨j, hj⟩ := List.mem_iff_getElem?.1 hx
    have hjl := (List.getElem?_eq_some_iff.1 hj).1
    have key : ∀ j, j < zs.length → ∃ i, i < zs.length ∧ Lib.keeps zs.toArray i = true ∧ zs.toArray[i]! = zs.toArray[j]! := by
      intro j
      induction j with
      | zero => intro h; exact ⟨0, h, by simp [Lib.keeps], rfl⟩
      | succ j ih =>
        intro h
        cases hk : Lib.keeps zs.toArray (j + 1) with
        | true => exact ⟨j + 1, h, hk, rfl⟩
        | false =>
          obtain ⟨i, h1, h2, h3⟩ := ih (by omega)
          refine ⟨i, h1, h2, ?_⟩
          simp [Lib.keeps] at hk
          rw [h3]
          simp [hk]
    obtain ⟨i, h1, h2, h3⟩ := key j hjl
    refine ⟨i, ⟨h1, h2⟩, ?_⟩
    rw [h3]
    have : j < zs.toArray.size := by simpa using hjl
    rw [getElem!_pos zs.toArray j this]
    simpa using (List.getElem?_eq_some_iff.1 hj).2
theorem mem_distinctI {l : List Int} {x : Int} : x ∈ distinctI l ↔ x ∈ l := by
  unfold distinctI sortedI
  rw [mem_compactI, List.mem_mergeSort]
theorem vars_occ : ∀ (t : Ty) (ns : List Int) (v : Nat), (v : Int) ∈ (visit stepV t ns).2 ↔ (v : Int) ∈ ns ∨ t.occ v = true := Ty.ind fun k s n l ih ns v => by
  have hl : ∀ (l : List Ty), (∀ t, t ∈ l → ∀ (ns : List Int) (v : Nat), (v : Int) ∈ (visit stepV t ns).2 ↔ (v : Int) ∈ ns ∨ t.occ v = true) → ∀ ns : List Int, (v : Int) ∈ (visits stepV l ns).2 ↔ (v : Int) ∈ ns ∨ occs v l = true := by
    intro l
    induction l with
    | nil => intro _ ns; simp [visits, occs]
    | cons t l ihl =>
      intro h ns
      simp only [visits, occs]
      have h1 := (visit_lenV t ns).1
      have h2 := h t (by simp) ns v
      cases hv : visit stepV t ns with
      | mk b x =>
        rw [hv] at h1 h2
        cases h1
        simp only
        rw [ihl (fun t ht => h t (by simp [ht])) x, h2]
        simp [or_assoc]
  have hs : stepV (.node k s n l) ns = (true, (stepV (.node k s n l) ns).2) := rfl
  simp only [visit]
  rw [hs]
  simp only
  rw [hl l ih]
  simp only [Ty.occ, stepV, Ty.kind, Ty.num]
  by_cases hk : k = 12
  · simp only [hk, if_true, List.mem_append, List.mem_singleton]
    by_cases hn : n = (v : Int)
    · simp [hn]
    · have hn2 : ¬ (v : Int) = n := fun e => hn e.symm
      simp [hn, hn2]
  · simp [hk]
theorem vars_has (t : Ty) (v : Nat) : (distinctI (varsOf t)).contains (v : Int) = t.occ v := by
  rw [Bool.eq_iff_iff, List.contains_iff_mem, mem_distinctI]
  unfold varsOf
  rw [vars_occ]
  simp
theorem Contains_any (zs : List Int) (x : Int) (A : Option Addr) (l c : Nat) (w : World) (h : IxAt w zs A l c) : Calls Tryd.prog 120 #[.slice A l c, .int .i64 x] w fun e w' => e = .returned (.bool (zs.contains x)) ∧ w = w' := by
  obtain ⟨h1, h2, h3, h4⟩ := h
  unfold maxLen at h3
  cases zs with
  | nil =>
    obtain rfl : l = 0 := by simpa using h1.symm
    exact (Tryd.slices_Contains_int_empty A c x w).mono fun e w' ⟨he, hw⟩ => ⟨by rw [he]; simp, hw.symm⟩
  | cons z zs =>
    obtain ⟨b, off, rfl, -⟩ := h4 0 z rfl
    have := Tryd.slices_Contains_int b off l c (z :: zs) x w (by omega) (by omega) (fun j hj => by
      have hz : (z :: zs)[j]? = some ((z :: zs).getD j 0) := by rw [List.getD_eq_getElem?_getD, List.getElem?_eq_getElem hj]; rfl
      obtain ⟨b', off', e, hc⟩ := h4 j _ hz
      cases e
      exact hc)
    rw [List.take_of_length_le (by omega)] at this
    exact this.mono fun e w' ⟨he, hw⟩ => ⟨he, hw.symm⟩
theorem nodesL_times {f : Ty → Ty} {c : Nat} : ∀ {l : List Ty}, (∀ u, u ∈ l → (f u).nodes ≤ u.nodes * c) → nodesL (l.map f) ≤ nodesL l * c
  | [], _ => by simp [nodesL]
  | a :: l, h => by
    have h1 := h a (by simp)
    have h2 := nodesL_times (l := l) (f := f) (c := c) fun u hu => h u (by simp [hu])
    simp only [List.map_cons, nodesL]
    rw [Nat.add_mul]; omega
theorem nodes_sub1 {m v : Nat} {t : Ty} : ∀ x, FineV m x → (sub1 v t x).nodes ≤ x.nodes * t.nodes := FineV.ind (fun w _ => by
    have := nodes_pos t
    rw [sub1_var, nodes_var, Nat.one_mul]
    split
    · omega
    · rw [nodes_var]; omega) fun k s n l h1 _ _ ih => by
  have := nodes_pos t
  have h2 := nodesL_times (f := sub1 v t) (c := t.nodes) ih
  rw [sub1_node h1]
  simp only [Ty.nodes]
  rw [Nat.add_mul]; omega
section
variable {ops : Array Oper} {rest : List Oper} {o : Oper} {a : Act} {w w' : World} {Q : Exit → Act → World → Prop}
theorem ex_next {ev : Operand → Value} (x : Operand) (ho : o.op = .next x false) {p : Value} (hx : ev x = p) {v : Value} (h : (Instr.next p false o.type).run Tryd.prog w = .ok v w') : (execOp ev o).run Tryd.prog w = .ok (.value v) w' := by
  unfold execOp
  simp [ho, hx, h, Result.andThen]
theorem ex_entry {ev : Operand → Value} (x : Operand) (ho : o.op = .entry x) {p : Value} (hx : ev x = p) {v : Value} (h : (Instr.entry p).run Tryd.prog w = .ok v w') : (execOp ev o).run Tryd.prog w = .ok (.value v) w' := by
  unfold execOp
  simp [ho, hx, h, Result.andThen]
theorem ex_range {ev : Operand → Value} (x : Operand) (ho : o.op = .range 90 x) {q : Nat} (hx : ev x = .map (some q)) {es : Array MapEntry} {clock : Nat} (h : w.heap[q]? = some (.map es clock)) : (execOp ev o).run Tryd.prog w = .ok (.value (.pointer (some ⟨w.heap.size, 0, none⟩))) (w.alloc (.mapIter (some q) clock #[] clock)) := by
  unfold execOp
  simp [ho, hx, run_range_map w 90 3 24 q es clock u90 h, Result.andThen]
theorem ex_new90 {ev : Operand → Value} (m k x : Operand) (ho : o.op = .mapUpdate 90 m k x) {q : Nat} {n : Int} {v : Value} (hm : ev m = .map (some q)) (hk : ev k = .int .i64 n) (hx : ev x = v) {es : Array MapEntry} {c : Nat} (hb : w.heap[q]? = some (.map es c)) (hf : Instr.findNow (.int .i64) (.int .i64 n) es.toList 0 = some none) :
    (execOp ev o).run Tryd.prog w = .ok .skip (setMap w q (.map (es.push { key := .int .i64 n, val := v, born := c }) (c + 1))) := by
  unfold execOp
  simp [ho, hm, hk, hx, run_new90 w hb hf, Result.andThen, setMap]
theorem ex_upd90 {ev : Operand → Value} (m k x : Operand) (ho : o.op = .mapUpdate 90 m k x) {q : Nat} {n : Int} {v y : Value} (hm : ev m = .map (some q)) (hk : ev k = .int .i64 n) (hx : ev x = v) {es : Array MapEntry} {c j : Nat} {e : MapEntry} (hb : w.heap[q]? = some (.map es c)) (hf : Instr.findNow (.int .i64) (.int .i64 n) es.toList 0 = some (some (j, y))) (hj : es[j]? = some e) (he : e.key = .int .i64 n) :
    (execOp ev o).run Tryd.prog w = .ok .skip (setMap w q (.map (es.modify j fun e => { e with key := .int .i64 n, val := v }) c)) := by
  unfold execOp
  simp [ho, hm, hk, hx, run_upd90 w hb hf hj he, Result.andThen, setMap]
end
section
variable {P : Program} {md : Region.Mode} {ops : Array Oper} {Q : Exit → Act → World → Prop} {S : World → Prop} {fuel : Nat} {listed : Array Bool} {a : Act} {w : World} {i : Nat} {oi : Oper}
theorem ha_do0 {w2 : World} (hr : Region.ready md ops listed = [i]) (ho : ops[i]? = some oi) (hg : Region.wanted oi (yielded ops a.tmps) = true) (hx : (execOp a.eval oi).run P w = .ok .skip w2) (hS : S w2)
    (h : wpAnyH P md ops Q S fuel (listed.setIfInBounds i true) (a.put oi.dst undef) w2) : wpAnyH P md ops Q S (fuel + 1) listed a w := by
  refine wpAnyH_ready (rs := [i]) hr (by simp) (AllReadyH.cons ho (fun K hK => ?_) AllReadyH.nil)
  rw [if_pos hg]
  unfold Oper.wp
  rw [hx]
  exact hK.out _ _ hS (fun _ => h)
end
end Go.Proofs.YtokmaehefenpmaaDoor
