/- 'each': a function value called at the nodes of a tree until it says no. -/
import Derived.Test.YtokmaehefenpmaaDoorW4
import Derived.Test.YtokmaehefenpmaaDoorA3
namespace Go.Proofs.YtokmaehefenpmaaDoor
open Go.RowKit Go.Proofs.YtokmaehefenpmaaDoor.Nm
set_option linter.unusedSimpArgs false
section
variable {σ : Type} (g : Ty → σ → Bool × σ)
mutual
def visit : Ty → σ → Bool × σ
  | .node k s n l, st => match g (.node k s n l) st with | (true, x) => visits l x | (false, x) => (false, x)
def visits : List Ty → σ → Bool × σ
  | [], st => (true, st)
  | t :: l, st => match visit t st with | (true, x) => visits l x | (false, x) => (false, x)
end
end
/-- All blocks stand but those of C. -/
structure Keep (C : Nat → Prop) (w w' : World) : Prop where
  os : w'.os = w.os
  tape : w'.tape = w.tape
  output : w'.output = w.output
  size : w.heap.size ≤ w'.heap.size
  block : ∀ b, b < w.heap.size → ¬ C b → w'.heap[b]? = w.heap[b]?
theorem Keep.of {C : Nat → Prop} {w w' : World} (h : Below w.heap.size w w') : Keep C w w' := ⟨h.os, h.tape, h.output, h.size, fun b hb _ => h.block b hb⟩
theorem Keep.refl (C : Nat → Prop) (w : World) : Keep C w w := Keep.of (Below.refl _ _)
/-- What may change behind a step was there to change ahead of it, or is new. -/
theorem Keep.trans {C C' : Nat → Prop} {w w1 w2 : World} (h : Keep C w w1) (hC : ∀ b, C' b → C b ∨ w.heap.size ≤ b) (h2 : Keep C' w1 w2) : Keep C w w2 :=
  ⟨h2.os.trans h.os, h2.tape.trans h.tape, h2.output.trans h.output, Nat.le_trans h.size h2.size, fun b hb hn => (h2.block b (Nat.lt_of_lt_of_le hb h.size) (fun hc => (hC b hc).elim hn (by omega))).trans (h.block b hb hn)⟩
theorem Keep.look {C : Nat → Prop} {w w' : World} (h : Keep C w w') {b : Nat} {o : Obj} (ho : w.heap[b]? = some o) (hn : ¬ C b) : w'.heap[b]? = some o := (h.block b (heap_lt ho) hn).trans ho
theorem TyAt.keep {C : Nat → Prop} {w w' : World} {D : Nat → Prop} {t : Ty} {row : Array Value} (h : TyAt w D t row) (hk : Keep C w w') (hD : ∀ b, D b → ¬ C b) : TyAt w' D t row :=
  (h.low.mono (fun _ h => h) (fun b h => hk.block b h.2 (hD b h.1))).weak fun _ h => h.1
theorem TysAt.keep {C : Nat → Prop} {w w' : World} {D : Nat → Prop} {ts : List Ty} {A : Option Addr} {l c : Nat} (h : TysAt w D ts A l c) (hk : Keep C w w') (hD : ∀ b, D b → ¬ C b) : TysAt w' D ts A l c := by
  obtain ⟨h1, h2, h3, rows, h4, h5⟩ := h
  exact ⟨h1, h2, h3, rows, fun i t hi => ((h4 i t hi).low.mono (fun _ h => h) (fun b h => hk.block b h.2 (hD b h.1))).mono (fun _ h => h.1) (fun _ _ => rfl), fun i t hi => (h5 i t hi).keep hk hD⟩
section
variable {σ : Type}
/-- What a function value does at a node: its state, the blocks that it may change. -/
structure VisC (Q : Ty → Prop) (K : FuncId) (caps : Array Value) (g : Ty → σ → Bool × σ) (Inv : World → (Nat → Prop) → σ → Prop) : Prop where
  ent : Enters Tryd.prog K
  low : ∀ w C s, Inv w C s → ∀ b, C b → b < w.heap.size
  keep : ∀ w C s, Inv w C s → ∀ w', Below w.heap.size w w' → Inv w' C s
  run : ∀ w C s, Inv w C s → ∀ t, Q t → ∀ (D : Nat → Prop) (row : Array Value), TyAt w D t row → (∀ b, D b → ¬ C b) →
    Calls Tryd.prog K (#[.agg row] ++ caps) w fun e w' => e = .returned (.bool (g t s).1) ∧ ∃ C', ((g t s).1 = true → Inv w' C' (g t s).2) ∧ Keep C w w' ∧ ∀ b, C' b → C b ∨ w.heap.size ≤ b
def VPost (Inv : World → (Nat → Prop) → σ → Prop) (C : Nat → Prop) (w : World) (r : Bool × σ) (e : Ending) (w' : World) : Prop := e = .returned (.bool r.1) ∧ ∃ C', (r.1 = true → Inv w' C' r.2) ∧ Keep C w w' ∧ ∀ b, C' b → C b ∨ w.heap.size ≤ b
end
theorem u51 : Tryd.prog.underlying 51 = some (.func #[24] #[4] false) := by kernel_rfl
theorem g51 {w : World} {p : Nat} {v : Value} {t : TypeId} {fr : Nat × Nat} (h : w.heap[p]? = some (.cells #[v] t fr)) : OneAt w 51 ⟨p, 0, none⟩ v := one_of u51 rfl (by rw [cell_of_row _ _ _ _ _ _ h]; rfl)
theorem ent95 : Enters Tryd.prog 95 := enters_of Tryd.func95 (by kernel_rfl) rfl
/-- Kept blocks: those of the walk itself. -/
structure VisW (w : World) (C : Nat → Prop) (pf pw : Nat) (fv : Value) : Prop where
  f : w.heap[pf]? = some (.cells #[fv] 51 (0, 0))
  w : w.heap[pw]? = some (.cells #[.func (.func 95) #[] #[.pointer (some ⟨pf, 0, none⟩), .pointer (some ⟨pw, 0, none⟩)]] 51 (0, 0))
  nf : ¬ C pf
  nw : ¬ C pw
theorem VisW.keep {w w' : World} {C C' : Nat → Prop} {pf pw : Nat} {fv : Value} (h : VisW w C pf pw fv) (hk : Keep C w w') (hC : ∀ b, C' b → C b ∨ w.heap.size ≤ b) : VisW w' C' pf pw fv :=
  ⟨hk.look h.f h.nf, hk.look h.w h.nw, fun hc => (hC _ hc).elim h.nf (fun e => by have := heap_lt h.f; omega), fun hc => (hC _ hc).elim h.nw (fun e => by have := heap_lt h.w; omega)⟩
section
variable {σ : Type} {Q : Ty → Prop} {K : FuncId} {caps : Array Value} {g : Ty → σ → Bool × σ} {Inv : World → (Nat → Prop) → σ → Prop}
def EachC (Q : Ty → Prop) (K : FuncId) (caps : Array Value) (g : Ty → σ → Bool × σ) (Inv : World → (Nat → Prop) → σ → Prop) (t : Ty) : Prop := Q t → ∀ (w : World) (C : Nat → Prop) (s : σ) (pf pw : Nat) (D : Nat → Prop) (row : Array Value), Inv w C s → VisW w C pf pw (.func (.func K) #[] caps) → TyAt w D t row → (∀ b, D b → ¬ C b) →
  Calls Tryd.prog 95 #[.agg row, .pointer (some ⟨pf, 0, none⟩), .pointer (some ⟨pw, 0, none⟩)] w (VPost Inv C w (visit g t s))
theorem ret_vis {Inv : World → (Nat → Prop) → σ → Prop} {C : Nat → Prop} {w w' : World} {r : Bool × σ} {b : Bool} (hr : r.1 = b) {C' : Nat → Prop} (hI : r.1 = true → Inv w' C' r.2) (hk : Keep C w w') (hC : ∀ b, C' b → C b ∨ w.heap.size ≤ b) : VPost Inv C w r (.returned (.bool b)) w' := ⟨by rw [hr], C', hI, hk, hC⟩
set_option maxHeartbeats 4000000 in
set_option maxRecDepth 100000 in
theorem each1_any (hV : VisC Q K caps g Inv) (hQ : ∀ k s n l, Q (.node k s n l) → ∀ u, u ∈ l → Q u) : ∀ t : Ty, EachC Q K caps g Inv t := Ty.ind fun k s n ts ih hq w C st pf pw D0 row hI hW h0 hD0 => by
  obtain ⟨D, h, hD, hlow⟩ : ∃ D : Nat → Prop, TyAt w D (.node k s n ts) row ∧ (∀ b, D b → ¬ C b) ∧ ∀ b, D b → b < w.heap.size := ⟨fun b => D0 b ∧ b < w.heap.size, h0.low, fun b hb => hD0 b hb.1, fun b hb => hb.2⟩
  have HLW := Lib.hid hlow
  clear h0 hD0 hlow
  obtain ⟨k1, s1, n1, A, l, c, ts1, e, rfl, hk, hn, hs, hT⟩ := h.parts
  cases e
  have HT := Lib.hid hT
  have HTA := Lib.hid h
  have HL := Lib.hid hT.len
  have hcm := hT.cap
  have hmx := hT.max
  unfold maxLen at hmx
  have HQ := Lib.hid hq
  have HIH := Lib.hid (fun t (ht : t ∈ ts) => ih t ht (hQ _ _ _ _ hq t ht))
  have HV := Lib.hid hV
  have HE := Lib.hid hV.ent
  have HD := Lib.hid hD
  have HI := Lib.hid hI
  have HW := Lib.hid hW
  have hCl := Lib.hid (hV.low w C st hI)
  clear h hk hn hs hT ih hq hD hI hV hQ hW
  have hb := Below.refl w.heap.size w
  go_enter Tryd.func95, Tryd.ntmps95
  go_upto_region 0 with (fail)
  apply wp_region_lit
  (with_reducible refine wl_box rfl ?_); intro W p hbn hlp hp; replace hb := hb.trans (hbn.mono hb.size); clear hbn; simp only [put_lit, List.set_cons_zero, List.set_cons_succ]
  (with_reducible refine wl_k ?_ ?_); exact rfl; intro K hK; go_simp; refine hK _ ?_; clear hK K
  have HC := Lib.hid (HV.out.run W C st (HV.out.keep w C st HI.out W hb) (.node k s n ts) HQ.out D _ (HTA.out.old hb) HD.out)
  have hfv := (HW.out.keep (C' := C) (Keep.of hb) (fun b h => Or.inl h)).f
  have hlp2 := heap_lt hp
  go_upto_region 1 with (fail)
  cases hg : g (.node k s n ts) st with
  | mk fb s1 =>
    rw [hg] at HC
    have HK := Lib.hid (Keep.of (C := C) hb)
    cases fb with
    | false =>
      have HR : Hid (visit g (.node k s n ts) st = (false, s1)) := Lib.hid (by rw [visit, hg])
      clear hg
      apply wp_region_lit
      (with_reducible apply wl_oneG); exact rfl; exact rfl; exact g51 hfv
      (first | ((with_reducible apply wl_oneG); exact rfl; exact rfl; first | exact f0 (by with_reducible assumption) | exact f1 (by with_reducible assumption) | exact f2 (by with_reducible assumption) | exact f3 (by with_reducible assumption) | with_reducible assumption | exact g22 (by with_reducible assumption) | exact g25 (by with_reducible assumption)) | ((with_reducible apply wl_rowG); exact rfl; exact rfl; first | with_reducible assumption | exact RowK.now (by with_reducible assumption) | exact f4 (by with_reducible assumption)))
      refine wl_fv rfl _ _ _ rfl rfl rfl HE.out HC.out ?_
      rintro e w7 ⟨rfl, C', hI7, hk7, hC7⟩
      refine ⟨_, rfl, ?_⟩
      simp only [put_lit, List.set_cons_zero, List.set_cons_succ]
      have HI7 := Lib.hid hI7
      have HK7 := Lib.hid (HK.out.trans (fun b hb => Or.inl hb) hk7)
      have HC7 := Lib.hid (show ∀ b, C' b → C b ∨ w.heap.size ≤ b from fun b h => (hC7 b h).imp id (fun h => by omega))
      clear hI7 hk7 hC7
      (with_reducible refine wl_k ?_ ?_); exact rfl; intro K hK; go_simp; refine hK _ ?_; clear hK K
      go_wp2_with fail
      go_ret
      exact ret_vis (by rw [HR.out]) (by rw [HR.out]; exact HI7.out) HK7.out HC7.out
    | true =>
      have HR : Hid (visit g (.node k s n ts) st = visits g ts s1) := Lib.hid (by rw [visit, hg])
      clear hg
      apply wp_region_lit
      (with_reducible apply wl_oneG); exact rfl; exact rfl; exact g51 hfv
      (first | ((with_reducible apply wl_oneG); exact rfl; exact rfl; first | exact f0 (by with_reducible assumption) | exact f1 (by with_reducible assumption) | exact f2 (by with_reducible assumption) | exact f3 (by with_reducible assumption) | with_reducible assumption | exact g22 (by with_reducible assumption) | exact g25 (by with_reducible assumption)) | ((with_reducible apply wl_rowG); exact rfl; exact rfl; first | with_reducible assumption | exact RowK.now (by with_reducible assumption) | exact f4 (by with_reducible assumption)))
      refine wl_fv rfl _ _ _ rfl rfl rfl HE.out HC.out ?_
      rintro e w7 ⟨rfl, C', hI7, hk7, hC7⟩
      refine ⟨_, rfl, ?_⟩
      simp only [put_lit, List.set_cons_zero, List.set_cons_succ]
      have HI7 := Lib.hid (hI7 rfl)
      have HK7 := Lib.hid (HK.out.trans (fun b hb => Or.inl hb) hk7)
      have HC7 := Lib.hid (show ∀ b, C' b → C b ∨ W.heap.size ≤ b from hC7)
      replace hp := hk7.look hp (fun hc => by have := hCl.out _ hc; omega)
      have hWS := hk7.size
      clear hI7 hk7 hC7
      (with_reducible refine wl_k ?_ ?_); exact rfl; intro K hK; go_simp; refine hK _ ?_; clear hK K
      clear HC HK hfv hb
      go_upto_region 3 with (fail)
      apply wp_region_lit
      (with_reducible refine wl_k ?_ ?_); exact rfl; intro K hK; go_simp; refine hK _ ?_; clear hK K
      (first | ((with_reducible apply wl_oneG); exact rfl; exact rfl; first | exact f0 (by with_reducible assumption) | exact f1 (by with_reducible assumption) | exact f2 (by with_reducible assumption) | exact f3 (by with_reducible assumption) | with_reducible assumption | exact g22 (by with_reducible assumption) | exact g25 (by with_reducible assumption)) | ((with_reducible apply wl_rowG); exact rfl; exact rfl; first | with_reducible assumption | exact RowK.now (by with_reducible assumption) | exact f4 (by with_reducible assumption)))
      (with_reducible refine wl_k ?_ ?_); exact rfl; intro K hK; go_simp; refine hK _ ?_; clear hK K
      (with_reducible refine wl_k ?_ ?_); exact rfl; intro K hK; go_simp; refine hK _ ?_; clear hK K
      go_wp2_with fail
      have HST : Hid (visit g (.node k s n ts) st = visits g (ts.drop 0) s1) := HR
      clear HR
      go_loopw [14] (fun i wr => ∃ (j : Nat) (C' : Nat → Prop) (s' : σ), j ≤ l ∧ i = .int .i64 (j : Int) ∧ Hid (visit g (.node k s n ts) st = visits g (ts.drop j) s') ∧ Hid (Inv wr C' s') ∧ Hid (Keep C w wr) ∧ Hid (∀ b, C' b → C b ∨ W.heap.size ≤ b) ∧ W.heap.size ≤ wr.heap.size ∧ wr.heap[p]? = some (.cells (cell4 k s n A l c) 24 (0, 0))) (fun i _ => l - (intOf i).toNat)
      case atStart => exact ⟨0, C', s1, by omega, rfl, HST, HI7, HK7, HC7, hWS, hp⟩
      case round =>
        clear HST HI7 HK7 HC7 hp hWS
        obtain ⟨j, C2, s2, hj, rfl, HR, HI2, HK2, HC2, hWS, hp⟩ := hrel
        by_cases hlt : j < l
        · have hltI : (j : Int) < (l : Int) := by omega
          obtain ⟨b, off, t, row, rfl, -, ht, -⟩ := HT.out.get hlt
          have HT2 := Lib.hid (HT.out.keep HK2.out HD.out)
          obtain ⟨row, hrow, hta⟩ := HT2.out.rowK ht
          obtain ⟨k3, s3, n3, A3, l3, c3, ts3, ht3, rfl, -⟩ := hta.parts
          have HTB := Lib.hid hta
          have HDR : Hid (ts.drop j = t :: ts.drop (j + 1)) := Lib.hid (by rw [List.drop_eq_getElem_cons (by rw [HL.out]; exact hlt)]; rw [List.getElem?_eq_getElem (by rw [HL.out]; exact hlt)] at ht; cases ht; rfl)
          have HM := Lib.hid (List.mem_of_getElem? ht)
          clear ht hta ht3 HT2
          have hz := Below.refl wr.heap.size wr
          go_upto_region 5 with (fail)
          apply wp_region_lit
          (with_reducible refine wl_k ?_ ?_); exact rfl; intro K hK; go_simp; refine hK _ ?_; clear hK K
          (first | ((with_reducible apply wl_oneG); exact rfl; exact rfl; first | exact f0 (by with_reducible assumption) | exact f1 (by with_reducible assumption) | exact f2 (by with_reducible assumption) | exact f3 (by with_reducible assumption) | with_reducible assumption | exact g22 (by with_reducible assumption) | exact g25 (by with_reducible assumption)) | ((with_reducible apply wl_rowG); exact rfl; exact rfl; first | with_reducible assumption | exact RowK.now (by with_reducible assumption) | exact f4 (by with_reducible assumption)))
          have lthpq := heap_lt hp; (with_reducible refine wl_all ?_); intro X1 q hbn hlq hq; replace hp := below_look hbn hp; replace hz := hz.trans (hbn.mono hz.size); clear hbn; simp only [put_lit, List.set_cons_zero, List.set_cons_succ]
          (with_reducible refine wl_put rfl rfl hq ?_); rw [put_noneA]; intro X2 hbx hsz hkx hnx; replace hp := (hkx _ (by omega)).trans hp; replace hz := hbx _ _ (by omega) hz; clear hq; have hq := hnx; clear hnx
          clear hbx hkx hsz
          have HK3 := Lib.hid (HK2.out.trans (C' := C) (fun b h => Or.inl h) (Keep.of hz))
          have HW3 := Lib.hid (HW.out.keep HK2.out (C' := C2) (fun b h => (HC2.out b h).imp id (fun h => by omega)))
          have HW4 := Lib.hid (HW3.out.keep (Keep.of hz) (C' := C2) (fun b h => Or.inl h))
          have HI3 := Lib.hid (HV.out.keep wr C2 s2 HI2.out X2 hz)
          have hC := HIH.out t HM.out X2 C2 s2 pf pw D (cell4 k3 s3 n3 A3 l3 c3) HI3.out HW4.out (HTB.out.old hz) (fun b h hc => (HC2.out b hc).elim (HD.out b h) (fun h2 => by have := HLW.out b h; omega))
          have hpw := HW4.out.w
          have hzs := hz.size
          cases hg : visit g t s2 with
          | mk fb s3' =>
            rw [hg] at hC
            have HC := Lib.hid hC
            clear hC
            cases fb with
            | false =>
              have HF : Hid (visit g (.node k s n ts) st = (false, s3')) := Lib.hid (by rw [HR.out, HDR.out, visits, hg])
              clear hg
              go_upto_region 6 with (fail)
              apply wp_region_lit
              (with_reducible apply wl_oneG); exact rfl; exact rfl; exact g51 hpw
              (first | ((with_reducible apply wl_oneG); exact rfl; exact rfl; first | exact f0 (by with_reducible assumption) | exact f1 (by with_reducible assumption) | exact f2 (by with_reducible assumption) | exact f3 (by with_reducible assumption) | with_reducible assumption | exact g22 (by with_reducible assumption) | exact g25 (by with_reducible assumption)) | ((with_reducible apply wl_rowG); exact rfl; exact rfl; first | with_reducible assumption | exact RowK.now (by with_reducible assumption) | exact f4 (by with_reducible assumption)))
              (with_reducible refine wl_ck ?_ ?_); exact rfl; intro K hK; go_simp; refine ⟨_, _, ⟨rfl, rfl⟩, hK _ _ ⟨_, HC.out, ?_⟩⟩; clear hK K; rintro e w7 ⟨rfl, C7, hI7, hk7, hC7⟩; refine ⟨_, rfl, ?_⟩; simp only [put_lit, List.set_cons_zero, List.set_cons_succ]
              have HI7 := Lib.hid hI7
              have HK7 := Lib.hid (HK3.out.trans (C' := C2) (fun b h => (HC2.out b h).imp id (fun h => by omega)) hk7)
              have HC7 := Lib.hid (show ∀ b, C7 b → C b ∨ w.heap.size ≤ b from fun b h => (hC7 b h).elim (fun h => (HC2.out b h).imp id (fun h => by omega)) (fun h => Or.inr (by have := HK3.out.size; omega)))
              clear hI7 hk7 hC7
              (with_reducible refine wl_k ?_ ?_); exact rfl; intro K hK; go_simp; refine hK _ ?_; clear hK K
              go_wp2_with fail
              go_ret
              exact ret_vis (by rw [HF.out]) (by rw [HF.out]; exact HI7.out) HK7.out HC7.out
            | true =>
              have HF : Hid (visit g (.node k s n ts) st = visits g (ts.drop (j + 1)) s3') := Lib.hid (by rw [HR.out, HDR.out, visits, hg])
              clear hg
              go_upto_region 6 with (fail)
              apply wp_region_lit
              (with_reducible apply wl_oneG); exact rfl; exact rfl; exact g51 hpw
              (first | ((with_reducible apply wl_oneG); exact rfl; exact rfl; first | exact f0 (by with_reducible assumption) | exact f1 (by with_reducible assumption) | exact f2 (by with_reducible assumption) | exact f3 (by with_reducible assumption) | with_reducible assumption | exact g22 (by with_reducible assumption) | exact g25 (by with_reducible assumption)) | ((with_reducible apply wl_rowG); exact rfl; exact rfl; first | with_reducible assumption | exact RowK.now (by with_reducible assumption) | exact f4 (by with_reducible assumption)))
              (with_reducible refine wl_ck ?_ ?_); exact rfl; intro K hK; go_simp; refine ⟨_, _, ⟨rfl, rfl⟩, hK _ _ ⟨_, HC.out, ?_⟩⟩; clear hK K; rintro e w7 ⟨rfl, C7, hI7, hk7, hC7⟩; refine ⟨_, rfl, ?_⟩; simp only [put_lit, List.set_cons_zero, List.set_cons_succ]
              have HI7 := Lib.hid (hI7 rfl)
              have HK7 := Lib.hid (HK3.out.trans (C' := C2) (fun b h => (HC2.out b h).imp id (fun h => by omega)) hk7)
              have HC7 := Lib.hid (show ∀ b, C7 b → C b ∨ W.heap.size ≤ b from fun b h => (hC7 b h).elim (fun h => HC2.out b h) (fun h => Or.inr (by omega)))
              have hWS7 := hk7.size
              replace hp := hk7.look hp (fun hc => (HC2.out _ hc).elim (fun h => by have := hCl.out _ h; omega) (fun h => by omega))
              clear hI7 hk7 hC7
              (with_reducible refine wl_k ?_ ?_); exact rfl; intro K hK; go_simp; refine hK _ ?_; clear hK K
              clear hrow hq hpw HC HR HDR HI2 HK2 HC2
              go_wp2_with fail
              go_roundw
              case rel => exact ⟨j + 1, C7, s3', by omega, by go_num, HF, HI7, HK7, HC7, by omega, hp⟩
              case measure => simp [intOf]; omega
        · have hltI : ¬ (j : Int) < (l : Int) := by omega
          have HF : Hid (visit g (.node k s n ts) st = (true, s2)) := Lib.hid (by rw [HR.out, List.drop_of_length_le (by rw [HL.out]; omega), visits])
          clear HR
          go_wp2_with fail
          go_ret
          exact ret_vis (by rw [HF.out]) (fun _ => by rw [HF.out]; exact HI2.out) HK2.out (fun b h => (HC2.out b h).imp id (fun h => by omega))
end
end Go.Proofs.YtokmaehefenpmaaDoor
