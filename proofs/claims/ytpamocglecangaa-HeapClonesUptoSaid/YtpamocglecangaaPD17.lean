/- The program's Objects and Buffers: no two lists share a block. The document's Objects and Buffers: whose blocks. Objects and buffers that a copy has made, as a heap's own. The document's Clone. -/
import Derived.Test.YtpamocglecangaaPD16
import Derived.Test.YtpamocglecangaaPD15
import Derived.Test.YtpamocglecangaaPD14
set_option maxHeartbeats 16000000
set_option maxRecDepth 100000
namespace Go.Proofs.Ytpamocglecangaa
open Go.RowKit Go.Proofs.Ytpamocglecangaa.Nm
set_option linter.unusedSimpArgs false
def fldB (c : Nat) (row : Array Value) : Option Nat := match row[c]? with
 | some (.slice (some a) _ _) => some a.block
 | _ => none
theorem fldB_set {c : Nat} {row : Array Value} {A : Option Addr} {l n b : Nat} (h : fldB c (row.setIfInBounds c (.slice A l n)) = some b) : ∃ a, A = some a /\ a.block = b := by
 unfold fldB at h
 rw [Array.getElem?_setIfInBounds] at h
 split at h
 ·rename_i a l' n' e
  split at e
  ·split at e
   ·cases e; exact ⟨a, rfl, by simpa using h⟩
   ·cases e
  ·rename_i h9; exact absurd rfl h9
 ·cases h
structure Dist (c j N : Nat) (rows : List (Array Value)) : Prop where
 lt : ∀ (i : Nat) (r : Array Value) (b : Nat), i < j -> rows[i]? = some r -> fldB c r = some b -> b < N
 ne : ∀ (i1 i2 : Nat) (r1 r2 : Array Value) (b : Nat), i1 < i2 -> i2 < j -> rows[i1]? = some r1 -> rows[i2]? = some r2 -> fldB c r1 = some b -> fldB c r2 ≠ some b
theorem Dist.zero (c N : Nat) (rows : List (Array Value)) : Dist c 0 N rows := ⟨fun i r b h => absurd h (by omega), fun i1 i2 r1 r2 b _ h => absurd h (by omega)⟩
theorem Dist.step {c j N N' : Nat} {rows : List (Array Value)} {row : Array Value} (h : Dist c j N rows) (hj : j < rows.length) (hr : ∀ b, fldB c row = some b -> N <= b /\ b < N') (hN : N <= N') : Dist c (j + 1) N' (rows.set j row) where
 lt := fun i r b hi e1 e2 => by
  by_cases e : j = i
  ·subst e
   rw [List.getElem?_set_self hj] at e1
   cases e1; exact (hr b e2).2
  ·rw [List.getElem?_set_ne e] at e1
   exact Nat.lt_of_lt_of_le (h.lt i r b (by omega) e1 e2) hN
 ne := fun i1 i2 r1 r2 b h1 h2 e1 e2 e3 e4 => by
  have n1 : j ≠ i1 := by omega
  rw [List.getElem?_set_ne n1] at e1
  by_cases e : j = i2
  ·subst e
   rw [List.getElem?_set_self hj] at e2
   cases e2
   have := h.lt i1 r1 b h1 e1 e3
   have := (hr b e4).1
   omega
  ·rw [List.getElem?_set_ne e] at e2
   exact h.ne i1 i2 r1 r2 b h1 (by omega) e1 e2 e3 e4
theorem Dist.push {c N N' : Nat} {rows : List (Array Value)} {row : Array Value} (h : Dist c rows.length N rows) (hr : ∀ b, fldB c row = some b -> N <= b /\ b < N') (hN : N <= N') : Dist c (rows.length + 1) N' (rows ++ [row]) where
 lt := fun i r b hi e1 e2 => by
  by_cases e : i < rows.length
  ·rw [List.getElem?_append_left e] at e1
   exact Nat.lt_of_lt_of_le (h.lt i r b e e1 e2) hN
  ·have e0 : i = rows.length := by omega
   subst e0
   rw [List.getElem?_concat_length] at e1
   cases e1; exact (hr b e2).2
 ne := fun i1 i2 r1 r2 b h1 h2 e1 e2 e3 e4 => by
  rw [List.getElem?_append_left (by omega)] at e1
  by_cases e : i2 < rows.length
  ·rw [List.getElem?_append_left e] at e2
   exact h.ne i1 i2 r1 r2 b h1 e e1 e2 e3 e4
  ·have e0 : i2 = rows.length := by omega
   subst e0
   rw [List.getElem?_concat_length] at e2
   cases e2
   have := h.lt i1 r1 b h1 e1 e3
   have := (hr b e4).1
   omega
def ObsOutD (w : World) (G : Gh) (obs : List Ob) (e : Ending) (w' : World) : Prop := ∃ q c rows, e = .returned (.slice (some ⟨q, 0, none⟩) obs.length c) /\ OwnL w' 41 8 (some ⟨q, 0, none⟩) c rows /\ rows.length = obs.length /\ w.heap.size <= q /\ (∀ (i : Nat) (o : Ob) (row : Array Value), obs[i]? = some o -> rows[i]? = some row -> FinO w w' G q o row) /\ Below w.heap.size w w' /\ ∀ (i1 i2 : Nat) (r1 r2 : Array Value) (b : Nat), i1 < i2 -> rows[i1]? = some r1 -> rows[i2]? = some r2 -> fldB 7 r1 = some b -> fldB 7 r2 ≠ some b
def BusOutD (w : World) (G : Gh) (obs : List Bu) (e : Ending) (w' : World) : Prop := ∃ q c rows, e = .returned (.slice (some ⟨q, 0, none⟩) obs.length c) /\ OwnL w' 97 2 (some ⟨q, 0, none⟩) c rows /\ rows.length = obs.length /\ w.heap.size <= q /\ (∀ (i : Nat) (o : Bu) (row : Array Value), obs[i]? = some o -> rows[i]? = some row -> FinB w w' G q o row) /\ Below w.heap.size w w' /\ ∀ (i1 i2 : Nat) (r1 r2 : Array Value) (b : Nat), i1 < i2 -> rows[i1]? = some r1 -> rows[i2]? = some r2 -> fldB 1 r1 = some b -> fldB 1 r2 ≠ some b
theorem ObjectsD_any {G : Gh} {k p : Nat} {h : Hp} {w : World} (hh : HeapAt w G k p h) (hno : h.obs.length <= 1000000) (hfl : ∀ o, o ∈ h.obs -> o.fields.length <= 2000000) : Calls Try.prog 13 #[.pointer (some ⟨p, 0, none⟩)] w (ObsOutD w G h.obs) := by
 obtain ⟨oA, oc, bA, bc, m, lA, lc, hh⟩ := hh
 obtain ⟨rows0, ho0, hl0, hr0, hv0⟩ := hh.obs
 have hone : ∀ r, r ∈ rows0 -> r.all (·.oneCell') = true := fun r hr => by
  obtain ⟨j, hj⟩ := List.mem_iff_getElem?.1 hr
  have hjl := (List.getElem?_eq_some_iff.1 hj).1
  obtain ⟨tr, fA, fc, hx⟩ := hv0 j _ r (List.getElem?_eq_getElem (by omega)) hj
  obtain ⟨tk, ts, tn, tA, tl, tc, tt, -, e2, -⟩ := hx.ty.parts
  rw [hx.eq, e2]
  simp [cell8, cell4, Value.oneCell']
 have HO0 := Zi ho0
 have HL0 := Zi hl0
 have HV0 := Zi hv0
 have HON := Zi hone
 have HFL := Zi hfl
 have hp := hh.blk
 obtain ⟨n, hn⟩ : ∃ n, n = h.obs.length := ⟨_, rfl⟩
 rw [<- hn] at hp hno
 have HNN := Zi hn
 have hb := Below.refl w.heap.size w
 clear hh ho0 hl0 hr0 hv0 hone hfl hn
 go_enter Try.func13, Try.ntmps13
 go_upto_region 0 with fail
 apply Zl
 refine Zm ?_
 go_upto_region 1 with fail
 apply Zl
 iterate 2 refine Zm ?_
 go_upto_region 3 with fail
 apply Zl
 iterate 3 refine Zm ?_
 refine Zo rfl (h0 hp) ?_
 refine Zm ?_
 refine wl_makeL elt38 rfl _ _ rfl (n := n) (c := n) rfl rfl (Nat.le_refl _) (by omega) (by unfold maxLen; omega) ?_
 intro W q hbn hlq hlt hown
 simp only [Zq]
 have HOW := Zi hown
 replace hp := below_look hbn hp
 have hb1 := hb.trans (hbn.mono hb.size)
 clear hbn hown hb
 refine Zm ?_
 go_upto_region 4 with fail
 apply Zl
 iterate 4 refine Zm ?_
 refine Zo rfl (h0 hp) ?_
 refine wl_copyL elt38 rfl _ _ rfl rfl rfl HOW.out (by simp) rfl (HO0.out.old hb1) (by rw [HL0.out, HNN.out]) HON.out hlt ?_
 intro W2 hown2 hk2
 try simp only [Zq]
 have HO2 := Zi hown2
 have hb := Below.keep hb1 hk2 (fun b e => by omega)
 have hq2 : q < W2.heap.size := by have := hk2.size; omega
 have HB2 := Zi hb
 have H0 : Hid (∀ (i : Nat) (o : Ob) (row : Array Value), h.obs[i]? = some o -> rows0[i]? = some row -> (i < 0 -> FinO w W2 G q o row) /\ (0 <= i -> rows0[i]? = some row)) := Zi (fun i o row h1 h2 => ⟨fun h => absurd h (by omega), fun _ => h2⟩)
 have HRL : Hid (rows0.length = n) := Zi (by rw [HL0.out, HNN.out])
 clear HOW hp hb1 hown2 hk2 hlt hb
 go_upto_region 5 with fail
 apply Zl
 iterate 3 refine Zm ?_
 go_wp2_with fail
 go_loopw [21] (fun i wr => ∃ (j : Nat) (rows : List (Array Value)), j <= n /\ i = .int .i64 (j : Int) /\ Hid (OwnL wr 41 8 (some ⟨q, 0, none⟩) n rows) /\ Hid (rows.length = n) /\ Hid (∀ (i : Nat) (o : Ob) (row : Array Value), h.obs[i]? = some o -> rows[i]? = some row -> (i < j -> FinO w wr G q o row) /\ (j <= i -> rows0[i]? = some row)) /\ Hid (Below w.heap.size w wr) /\ q < wr.heap.size /\ Hid (Dist 7 j wr.heap.size rows)) (fun i _ => n - (intOf i).toNat)
 case atStart => exact ⟨0, rows0, by omega, rfl, HO2, HRL, H0, HB2, hq2, Zi (Dist.zero _ _ _)⟩
 case round =>
  clear HO2 HRL H0 HB2 hq2
  obtain ⟨j, rows, hj, rfl, HO, HRL, HF, HB, hq, HDI⟩ := hrel
  go_upto_region 6 with fail
  by_cases hlt : j < n
  ·have hltI : (j : Int) < (n : Int) := by omega
   have hojl : j < h.obs.length := by rw [<- HNN.out]; exact hlt
   have ho := List.getElem?_eq_getElem hojl
   obtain ⟨o, hoe⟩ : ∃ o, o = h.obs[j] := ⟨_, rfl⟩
   rw [<- hoe] at ho
   have hr1 : rows[j]? = some (rows[j]'(by rw [HRL.out]; exact hlt)) := List.getElem?_eq_getElem _
   obtain ⟨row, hrow⟩ : ∃ row, row = rows[j]'(by rw [HRL.out]; exact hlt) := ⟨_, rfl⟩
   rw [<- hrow] at hr1
   have hr0 := (HF.out j o row ho hr1).2 (Nat.le_refl _)
   obtain ⟨tr, fA, fc, hx⟩ := HV0.out j o row ho hr0
   obtain ⟨frows, hfo, hfl, hfr, hfv⟩ := hx.fld
   have h8 := cell8_at hx.size o.state o.count o.weak fA o.fields.length fc
   rw [<- hx.eq] at h8
   have HLD := Zi (one_of Go.Proofs.Ytpamocglecangaa.u33 rfl (HO.out.cell hr1 h8.2.2.2.2))
   have hcc := CloneR_any (hfo.old HB.out) (fun r hr => by
    obtain ⟨i, hi⟩ := List.mem_iff_getElem?.1 hr
    have hil := (List.getElem?_eq_some_iff.1 hi).1
    exact (hfv i _ r (List.getElem?_eq_getElem (by omega)) hi).one) (by have := HFL.out o (List.mem_of_getElem? ho); omega)
   rw [hfl] at hcc
   have HC := Zi hcc
   have HOO := Zi ho
   have HR1 := Zi hr1
   have HXX := Zi hx
   have HFV := Zi hfv
   have HFLN := Zi hfl
   clear hoe hrow hr0 hx hfo hfl hfr hfv h8 hcc ho hr1 hojl
   apply Zl
   refine Zm ?_
   go_upto_region 7 with fail
   apply Zl
   iterate 2 refine Zm ?_
   go_upto_region 8 with fail
   apply Zl
   iterate 6 refine Zm ?_
   refine Zo rfl (HLD.out) ?_
   refine Zn HC.out ?_; rintro e w7 ⟨A7, c7, rfl, hown7, hA7, hb7⟩; refine ⟨_, rfl, ?_⟩; simp only [Zq]
   rw [HFLN.out]
   try simp only [Zq]
   iterate 2 refine Zm ?_
   have hown8 := HO.out.old hb7
   obtain ⟨hs1, hs2⟩ := hown8.lies (j := 7) HR1.out (by omega)
   have hown9 := hown8.set (j := 7) HR1.out (by omega) (.slice A7 o.fields.length c7)
   have hk9 := Keep.cellOne w7 q (j * 8 + 7) (.slice A7 o.fields.length c7)
   have hA7q : ∀ g, A7 = some ⟨g, 0, none⟩ -> q < g := fun g e => by have := hA7 g e; omega
   have hwq : w.heap.size <= q := by have := HB.out.size; omega
   have HF9 : Hid (∀ (i : Nat) (o' : Ob) (row' : Array Value), h.obs[i]? = some o' -> (rows.set j (row.setIfInBounds 7 (.slice A7 o.fields.length c7)))[i]? = some row' -> (i < j + 1 -> FinO w (w7.setCell ⟨q, j * 8 + 7, none⟩ (.slice A7 o.fields.length c7)) G q o' row') /\ (j + 1 <= i -> rows0[i]? = some row')) := Zi (fun i o' row' e1 e2 => by
    by_cases e : j = i
    ·subst e
     rw [HOO.out] at e1
     cases e1
     rw [List.getElem?_set_self (by rw [HRL.out]; exact hlt)] at e2
     cases e2
     refine ⟨fun _ => ?_, fun h => absurd h (by omega)⟩
     have hb77 := HB.out.trans (hb7.mono HB.out.size)
     have hC : ∀ b, Lw w (Imm G) b -> ¬ b = q := fun b hb e => by have := hb.2; omega
     exact ⟨tr, A7, c7, frows, by rw [HXX.out.eq]; exact (cell8_set HXX.out.size _ _ _ _ _ _ 0 _ _ _).2.2.2, ((HXX.out.ty.low : TyAt w (Lw w (Imm G)) o.t tr).old hb77).keep hk9 hC, hown7.keep hk9 (fun g e hg => by have := hA7q g e; omega), HFLN.out, hA7q, fun j v r e1 e2 => (((HFV.out j v r e1 e2).low : VAt w (Lw w (Imm G)) v r).old hb77).keep hk9 hC⟩
    ·rw [List.getElem?_set_ne e] at e2
     obtain ⟨f1, f2⟩ := HF.out i o' row' e1 e2
     exact ⟨fun h => ((f1 (by omega)).old hb7).keep hwq hk9, fun h => f2 (by omega)⟩)
   have HO9 := Zi hown9
   have HB9 := Zi (Below.keep (HB.out.trans (hb7.mono HB.out.size)) hk9 (fun b e => by omega))
   have HRL9 : Hid ((rows.set j (row.setIfInBounds 7 (.slice A7 o.fields.length c7))).length = n) := Zi (by rw [List.length_set]; exact HRL.out)
   have hq9 : q < (w7.setCell ⟨q, j * 8 + 7, none⟩ (.slice A7 o.fields.length c7)).heap.size := by have := hb7.size; have := hk9.size; omega
   have HDI9 : Hid (Dist 7 (j + 1) (w7.setCell ⟨q, j * 8 + 7, none⟩ (.slice A7 o.fields.length c7)).heap.size (rows.set j (row.setIfInBounds 7 (.slice A7 o.fields.length c7)))) := Zi (HDI.out.step (by rw [HRL.out]; exact hlt) (fun b hb => by
    obtain ⟨a, e1, e2⟩ := fldB_set hb
    rcases hown7.el with ⟨e3, -, -⟩ | ⟨g, cur, e3, hg, -⟩
    ·rw [e3] at e1; cases e1
    ·rw [e3] at e1; cases e1
     have h1 := hA7 g e3
     have h2 := heap_lt hg
     have h3 := hk9.size
     subst e2
     exact ⟨h1, by show g < _; omega⟩) (by have := hb7.size; have := hk9.size; omega))
   clear hown8 hown9 hk9 hA7q hown7 hA7 HDI HF HO HB HC HLD HXX HFV HOO HR1 hb7
   refine wl_storeC rfl 33 _ _ rfl q (j * 8 + 7) (.slice A7 o.fields.length c7) rfl rfl info33 rfl hs1 hs2 ?_
   rw [put_noneA]
   clear hs1 hs2
   obtain ⟨W9, hW⟩ : ∃ W, W = w7.setCell ⟨q, j * 8 + 7, none⟩ (.slice A7 o.fields.length c7) := ⟨_, rfl⟩
   rw [<- hW] at HF9 HO9 HB9 hq9 HDI9 ⊢
   clear hW
   go_wp2_with fail
   go_roundw
   case rel => exact ⟨j + 1, _, by omega, by go_num, HO9, HRL9, HF9, HB9, hq9, HDI9⟩
   case measure => simp [intOf]; omega
  ·have hltI : ¬ (j : Int) < (n : Int) := by omega
   apply Zl
   refine Zm ?_
   go_upto_region 10 with fail
   apply Zl
   iterate 2 refine Zm ?_
   go_wp2_with fail
   go_ret
   refine ⟨q, n, rows, by rw [<- HNN.out]; rfl, HO.out, by rw [HRL.out, HNN.out], by have := HB.out.size; omega, fun i o row e1 e2 => (HF.out i o row e1 e2).1 ?_, HB.out, fun i1 i2 r1 r2 b a1 a2 a3 => HDI.out.2 i1 i2 r1 r2 b a1 (by have := (List.getElem?_eq_some_iff.1 a3).1; have := HRL.out; omega) a2 a3⟩
   have := (List.getElem?_eq_some_iff.1 e1).1
   rw [<- HNN.out] at this
   omega
theorem BuffersD_any {G : Gh} {k p : Nat} {h : Hp} {w : World} (hh : HeapAt w G k p h) (hno : h.bus.length <= 1000000) (hfl : ∀ o, o ∈ h.bus -> o.elems.length <= 2000000) : Calls Try.prog 38 #[.pointer (some ⟨p, 0, none⟩)] w (BusOutD w G h.bus) := by
 obtain ⟨oA, oc, bA, bc, m, lA, lc, hh⟩ := hh
 obtain ⟨rows0, ho0, hl0, hr0, hv0⟩ := hh.bus
 have hone : ∀ r, r ∈ rows0 -> r.all (·.oneCell') = true := fun r hr => by
  obtain ⟨j, hj⟩ := List.mem_iff_getElem?.1 hr
  have hjl := (List.getElem?_eq_some_iff.1 hj).1
  obtain ⟨fA, fc, hx⟩ := hv0 j _ r (List.getElem?_eq_getElem (by omega)) hj
  rw [hx.eq]
  simp [Value.oneCell']
 have HO0 := Zi ho0
 have HL0 := Zi hl0
 have HV0 := Zi hv0
 have HON := Zi hone
 have HFL := Zi hfl
 have hp := hh.blk
 obtain ⟨n, hn⟩ : ∃ n, n = h.bus.length := ⟨_, rfl⟩
 rw [<- hn] at hp hno
 have HNN := Zi hn
 have hb := Below.refl w.heap.size w
 clear hh ho0 hl0 hr0 hv0 hone hfl hn
 go_enter Try.func38, Try.ntmps38
 go_upto_region 0 with fail
 apply Zl
 refine Zm ?_
 go_upto_region 1 with fail
 apply Zl
 iterate 2 refine Zm ?_
 go_upto_region 3 with fail
 apply Zl
 iterate 3 refine Zm ?_
 refine Zo rfl (h1 hp) ?_
 refine Zm ?_
 refine wl_makeL elt78 rfl _ _ rfl (n := n) (c := n) rfl rfl (Nat.le_refl _) (by omega) (by unfold maxLen; omega) ?_
 intro W q hbn hlq hlt hown
 simp only [Zq]
 have HOW := Zi hown
 replace hp := below_look hbn hp
 have hb1 := hb.trans (hbn.mono hb.size)
 clear hbn hown hb
 refine Zm ?_
 go_upto_region 4 with fail
 apply Zl
 iterate 4 refine Zm ?_
 refine Zo rfl (h1 hp) ?_
 refine wl_copyL elt78 rfl _ _ rfl rfl rfl HOW.out (by simp) rfl (HO0.out.old hb1) (by rw [HL0.out, HNN.out]) HON.out hlt ?_
 intro W2 hown2 hk2
 try simp only [Zq]
 have HO2 := Zi hown2
 have hb := Below.keep hb1 hk2 (fun b e => by omega)
 have hq2 : q < W2.heap.size := by have := hk2.size; omega
 have HB2 := Zi hb
 have H0 : Hid (∀ (i : Nat) (o : Bu) (row : Array Value), h.bus[i]? = some o -> rows0[i]? = some row -> (i < 0 -> FinB w W2 G q o row) /\ (0 <= i -> rows0[i]? = some row)) := Zi (fun i o row h1 h2 => ⟨fun h => absurd h (by omega), fun _ => h2⟩)
 have HRL : Hid (rows0.length = n) := Zi (by rw [HL0.out, HNN.out])
 clear HOW hp hb1 hown2 hk2 hlt hb
 go_upto_region 5 with fail
 apply Zl
 iterate 3 refine Zm ?_
 go_wp2_with fail
 go_loopw [21] (fun i wr => ∃ (j : Nat) (rows : List (Array Value)), j <= n /\ i = .int .i64 (j : Int) /\ Hid (OwnL wr 97 2 (some ⟨q, 0, none⟩) n rows) /\ Hid (rows.length = n) /\ Hid (∀ (i : Nat) (o : Bu) (row : Array Value), h.bus[i]? = some o -> rows[i]? = some row -> (i < j -> FinB w wr G q o row) /\ (j <= i -> rows0[i]? = some row)) /\ Hid (Below w.heap.size w wr) /\ q < wr.heap.size /\ Hid (Dist 1 j wr.heap.size rows)) (fun i _ => n - (intOf i).toNat)
 case atStart => exact ⟨0, rows0, by omega, rfl, HO2, HRL, H0, HB2, hq2, Zi (Dist.zero _ _ _)⟩
 case round =>
  clear HO2 HRL H0 HB2 hq2
  obtain ⟨j, rows, hj, rfl, HO, HRL, HF, HB, hq, HDI⟩ := hrel
  go_upto_region 6 with fail
  by_cases hlt : j < n
  ·have hltI : (j : Int) < (n : Int) := by omega
   have hojl : j < h.bus.length := by rw [<- HNN.out]; exact hlt
   have ho := List.getElem?_eq_getElem hojl
   obtain ⟨o, hoe⟩ : ∃ o, o = h.bus[j] := ⟨_, rfl⟩
   rw [<- hoe] at ho
   have hr1 : rows[j]? = some (rows[j]'(by rw [HRL.out]; exact hlt)) := List.getElem?_eq_getElem _
   obtain ⟨row, hrow⟩ : ∃ row, row = rows[j]'(by rw [HRL.out]; exact hlt) := ⟨_, rfl⟩
   rw [<- hrow] at hr1
   have hr0 := (HF.out j o row ho hr1).2 (Nat.le_refl _)
   obtain ⟨fA, fc, hx⟩ := HV0.out j o row ho hr0
   obtain ⟨frows, hfo, hfl, hfr, hfv⟩ := hx.elm
   have h8 : row[1]? = some (.slice fA o.elems.length fc) := by rw [hx.eq]; rfl
   have HLD := Zi (one_of Go.Proofs.Ytpamocglecangaa.u33 rfl (HO.out.cell hr1 h8))
   have hcc := CloneR_any (hfo.old HB.out) (fun r hr => by
    obtain ⟨i, hi⟩ := List.mem_iff_getElem?.1 hr
    have hil := (List.getElem?_eq_some_iff.1 hi).1
    exact (hfv i _ r (List.getElem?_eq_getElem (by omega)) hi).one) (by have := HFL.out o (List.mem_of_getElem? ho); omega)
   rw [hfl] at hcc
   have HC := Zi hcc
   have HOO := Zi ho
   have HR1 := Zi hr1
   have HXX := Zi hx
   have HFV := Zi hfv
   have HFLN := Zi hfl
   clear hoe hrow hr0 hx hfo hfl hfr hfv h8 hcc ho hr1 hojl
   apply Zl
   refine Zm ?_
   go_upto_region 7 with fail
   apply Zl
   iterate 2 refine Zm ?_
   go_upto_region 8 with fail
   apply Zl
   iterate 6 refine Zm ?_
   refine Zo rfl (HLD.out) ?_
   refine Zn HC.out ?_; rintro e w7 ⟨A7, c7, rfl, hown7, hA7, hb7⟩; refine ⟨_, rfl, ?_⟩; simp only [Zq]
   rw [HFLN.out]
   try simp only [Zq]
   iterate 2 refine Zm ?_
   have hown8 := HO.out.old hb7
   obtain ⟨hs1, hs2⟩ := hown8.lies (j := 1) HR1.out (by omega)
   have hown9 := hown8.set (j := 1) HR1.out (by omega) (.slice A7 o.elems.length c7)
   have hk9 := Keep.cellOne w7 q (j * 2 + 1) (.slice A7 o.elems.length c7)
   have hA7q : ∀ g, A7 = some ⟨g, 0, none⟩ -> q < g := fun g e => by have := hA7 g e; omega
   have hwq : w.heap.size <= q := by have := HB.out.size; omega
   have HF9 : Hid (∀ (i : Nat) (o' : Bu) (row' : Array Value), h.bus[i]? = some o' -> (rows.set j (row.setIfInBounds 1 (.slice A7 o.elems.length c7)))[i]? = some row' -> (i < j + 1 -> FinB w (w7.setCell ⟨q, j * 2 + 1, none⟩ (.slice A7 o.elems.length c7)) G q o' row') /\ (j + 1 <= i -> rows0[i]? = some row')) := Zi (fun i o' row' e1 e2 => by
    by_cases e : j = i
    ·subst e
     rw [HOO.out] at e1
     cases e1
     rw [List.getElem?_set_self (by rw [HRL.out]; exact hlt)] at e2
     cases e2
     refine ⟨fun _ => ?_, fun h => absurd h (by omega)⟩
     have hb77 := HB.out.trans (hb7.mono HB.out.size)
     have hC : ∀ b, Lw w (Imm G) b -> ¬ b = q := fun b hb e => by have := hb.2; omega
     exact ⟨A7, c7, frows, by rw [HXX.out.eq]; rfl, hown7.keep hk9 (fun g e hg => by have := hA7q g e; omega), HFLN.out, hA7q, fun j v r e1 e2 => (((HFV.out j v r e1 e2).low : VAt w (Lw w (Imm G)) v r).old hb77).keep hk9 hC⟩
    ·rw [List.getElem?_set_ne e] at e2
     obtain ⟨f1, f2⟩ := HF.out i o' row' e1 e2
     exact ⟨fun h => ((f1 (by omega)).old hb7).keep hwq hk9, fun h => f2 (by omega)⟩)
   have HO9 := Zi hown9
   have HB9 := Zi (Below.keep (HB.out.trans (hb7.mono HB.out.size)) hk9 (fun b e => by omega))
   have HRL9 : Hid ((rows.set j (row.setIfInBounds 1 (.slice A7 o.elems.length c7))).length = n) := Zi (by rw [List.length_set]; exact HRL.out)
   have hq9 : q < (w7.setCell ⟨q, j * 2 + 1, none⟩ (.slice A7 o.elems.length c7)).heap.size := by have := hb7.size; have := hk9.size; omega
   have HDI9 : Hid (Dist 1 (j + 1) (w7.setCell ⟨q, j * 2 + 1, none⟩ (.slice A7 o.elems.length c7)).heap.size (rows.set j (row.setIfInBounds 1 (.slice A7 o.elems.length c7)))) := Zi (HDI.out.step (by rw [HRL.out]; exact hlt) (fun b hb => by
    obtain ⟨a, e1, e2⟩ := fldB_set hb
    rcases hown7.el with ⟨e3, -, -⟩ | ⟨g, cur, e3, hg, -⟩
    ·rw [e3] at e1; cases e1
    ·rw [e3] at e1; cases e1
     have h1 := hA7 g e3
     have h2 := heap_lt hg
     have h3 := hk9.size
     subst e2
     exact ⟨h1, by show g < _; omega⟩) (by have := hb7.size; have := hk9.size; omega))
   clear hown8 hown9 hk9 hA7q hown7 hA7 HDI HF HO HB HC HLD HXX HFV HOO HR1 hb7
   refine wl_storeC rfl 33 _ _ rfl q (j * 2 + 1) (.slice A7 o.elems.length c7) rfl rfl info33 rfl hs1 hs2 ?_
   rw [put_noneA]
   clear hs1 hs2
   obtain ⟨W9, hW⟩ : ∃ W, W = w7.setCell ⟨q, j * 2 + 1, none⟩ (.slice A7 o.elems.length c7) := ⟨_, rfl⟩
   rw [<- hW] at HF9 HO9 HB9 hq9 HDI9 ⊢
   clear hW
   go_wp2_with fail
   go_roundw
   case rel => exact ⟨j + 1, _, by omega, by go_num, HO9, HRL9, HF9, HB9, hq9, HDI9⟩
   case measure => simp [intOf]; omega
  ·have hltI : ¬ (j : Int) < (n : Int) := by omega
   apply Zl
   refine Zm ?_
   go_upto_region 10 with fail
   apply Zl
   iterate 2 refine Zm ?_
   go_wp2_with fail
   go_ret
   refine ⟨q, n, rows, by rw [<- HNN.out]; rfl, HO.out, by rw [HRL.out, HNN.out], by have := HB.out.size; omega, fun i o row e1 e2 => (HF.out i o row e1 e2).1 ?_, HB.out, fun i1 i2 r1 r2 b a1 a2 a3 => HDI.out.2 i1 i2 r1 r2 b a1 (by have := (List.getElem?_eq_some_iff.1 a3).1; have := HRL.out; omega) a2 a3⟩
   have := (List.getElem?_eq_some_iff.1 e1).1
   rw [<- HNN.out] at this
   omega
structure Grow (w : World) (G : Gh) (k : Nat) (w' : World) (G' : Gh) : Prop where
 fr : Fr w' G'
 old : ∀ b, b < w.heap.size -> G' b = G b
 new : ∀ b, w.heap.size <= b -> G' b = none ∨ ∃ r, G' b = some (k, r)
structure GObs (w : World) (G : Gh) (k : Nat) (wr : World) (l : List Ob) (A : Option Addr) (c : Nat) (rows : List (Array Value)) (Gj : Gh) : Prop where
 rws : OwnL wr 41 8 A c rows
 len : rows.length = l.length
 ge : ∀ g, A = some ⟨g, 0, none⟩ -> w.heap.size <= g
 role : RoleOf Gj A (k, .arr)
 all : ∀ (i : Nat) (o : Ob) (row : Array Value), l[i]? = some o -> rows[i]? = some row -> ∃ tr fA fc, ObAt wr Gj k i o row tr fA fc
 grow : Grow w G k wr Gj
theorem GObs.nil {w : World} {G : Gh} {k : Nat} (hf : Fr w G) : GObs w G k w [] none 0 [] G := ⟨OwnL.nil _ _ _, rfl, fun g e => (by cases e), fun g e => (by cases e), fun i o row h => (by simp at h), ⟨hf, fun _ _ => rfl, fun b hb => .inl (hf b hb)⟩⟩
theorem GObs.push {w wr W8 W9 : World} {G Gj : Gh} {k : Nat} {l : List Ob} {A A' : Option Addr} {c c' : Nat} {rows : List (Array Value)} (h : GObs w G k wr l A c rows Gj) (hz : Below wr.heap.size wr W8) (hw : w.heap.size <= wr.heap.size) {b : Ob} {tr : Array Value} {eA : Option Addr} {ec : Nat} {rows7 : List (Array Value)} (ht : TyAt W8 (fun x => wr.heap.size <= x /\ eA ≠ some ⟨x, 0, none⟩) b.t tr)
  (ho7 : OwnL W8 35 9 eA ec rows7) (hl7 : rows7.length = b.fields.length) (hA7 : ∀ g, eA = some ⟨g, 0, none⟩ -> wr.heap.size <= g) (hv7 : ∀ (j : Nat) (v : Va) (row : Array Value), b.fields[j]? = some v -> rows7[j]? = some row -> VAt W8 (fun x => wr.heap.size <= x /\ eA ≠ some ⟨x, 0, none⟩) v row)
  (hown : OwnL W9 41 8 A' c' (rows ++ [cell8 tr b.state b.count b.weak eA b.fields.length ec])) (hk : Keep (fun b => A = some ⟨b, 0, none⟩) W8 W9) (hA : A' = A ∨ ∃ g, A' = some ⟨g, 0, none⟩ /\ W8.heap.size <= g) : GObs w G k W9 (l ++ [b]) A' c' (rows ++ [cell8 tr b.state b.count b.weak eA b.fields.length ec]) (own (own Gj eA (k, .fld l.length)) A' (k, .arr)) := by
 have hsz := hz.size
 have hltA : ∀ g, A = some ⟨g, 0, none⟩ -> g < wr.heap.size := fun g e => h.rws.lt e
 have hlt7 : ∀ g, eA = some ⟨g, 0, none⟩ -> g < W8.heap.size := fun g e => ho7.lt e
 have g5 : ∀ x, x < wr.heap.size -> own Gj eA (k, .fld l.length) x = Gj x := own_old hA7
 have r5 : RoleOf (own Gj eA (k, .fld l.length)) A (k, .arr) := fun g e => (g5 g (hltA g e)).trans (h.role g e)
 have g6 : ∀ x, x < W8.heap.size -> own (own Gj eA (k, .fld l.length)) A' (k, .arr) x = own Gj eA (k, .fld l.length) x := own_again r5 hA
 have g0 : ∀ x, x < wr.heap.size -> own (own Gj eA (k, .fld l.length)) A' (k, .arr) x = Gj x := fun x hx => (g6 x (by omega)).trans (g5 x hx)
 have gn : ∀ x, (wr.heap.size <= x /\ eA ≠ some ⟨x, 0, none⟩) /\ x < W8.heap.size -> Imm (own (own Gj eA (k, .fld l.length)) A' (k, .arr)) x := fun x hx => by
  unfold Imm
  rw [g6 x hx.2]
  unfold own
  rw [if_neg hx.1.2]
  exact h.grow.fr x hx.1.1
 have wn : ∀ x, (wr.heap.size <= x /\ eA ≠ some ⟨x, 0, none⟩) /\ x < W8.heap.size -> W9.heap[x]? = W8.heap[x]? := fun x hx => hk.block x hx.2 fun e => by have := hltA x e; have := hx.1.1; omega
 have ro : ∀ x r, x < wr.heap.size -> Gj x = some (k, r) -> r ≠ .arr -> W9.heap[x]? = wr.heap[x]? := fun x r hx e hr => (hk.block x (by omega) fun e2 => by have := h.role x e2; rw [e] at this; cases this; exact hr rfl).trans (hz.block x hx)
 have rn : ∀ x, x < wr.heap.size -> Gj x = none -> W9.heap[x]? = wr.heap[x]? := fun x hx e => (hk.block x (by omega) fun e2 => by have := h.role x e2; rw [e] at this; cases this).trans (hz.block x hx)
 have hL7 : ListV W9 (own (own Gj eA (k, .fld l.length)) A' (k, .arr)) (k, .fld l.length) b.fields eA ec := ⟨rows7, ho7.keep hk (fun g e e2 => by have := hA7 g e; have := hltA g e2; omega), hl7, fun g e => (g6 g (hlt7 g e)).trans (own_role _ _ _ g e), fun j v row e1 e2 => (hv7 j v row e1 e2).low.mono gn fun x hx _ => wn x hx⟩
 refine ⟨hown, by simp [h.len], fun g e => ?_, own_role _ _ _, fun i o row e1 e2 => ?_, fun x hx => ?_, fun x hx => ?_, fun x hx => ?_⟩
 ·rcases hA with e2 | ⟨g', e2, e3⟩
  ·exact h.ge g (by rw [<- e2]; exact e)
  ·rw [e] at e2; cases e2; omega
 ·rcases Nat.lt_trichotomy i l.length with e | e | e
  ·rw [List.getElem?_append_left e] at e1
   rw [List.getElem?_append_left (by rw [h.len]; exact e)] at e2
   obtain ⟨tr0, fA, fc, h3⟩ := h.all i o row e1 e2
   have h4 : ObAt wr (own (own Gj eA (k, .fld l.length)) A' (k, .arr)) k i o row tr0 fA fc := ⟨h3.eq, h3.ty.regh g0, h3.fld.regh g0⟩
   exact ⟨tr0, fA, fc, h4.same (fun x hx e9 => ro x _ hx ((g0 x hx).symm.trans e9) (by simp)) (fun x hx e9 => rn x hx ((g0 x hx).symm.trans e9))⟩
  ·subst e
   rw [List.getElem?_concat_length] at e1
   rw [<- h.len, List.getElem?_concat_length] at e2
   cases e1; cases e2
   exact ⟨tr, eA, ec, rfl, (ht.low.mono (fun _ h => h) wn).weak gn, hL7⟩
  ·rw [List.getElem?_eq_none (by simp; omega)] at e1; cases e1
 ·have h1 : ¬ A' = some ⟨x, 0, none⟩ := fun e => by have := hown.lt e; omega
  have h2 : ¬ eA = some ⟨x, 0, none⟩ := fun e => by have := hlt7 x e; have := hk.size; omega
  show (if A' = some ⟨x, 0, none⟩ then some (k, .arr) else if eA = some ⟨x, 0, none⟩ then some (k, .fld l.length) else Gj x) = none
  rw [if_neg h1, if_neg h2]
  exact h.grow.fr x (by have := hk.size; omega)
 ·exact (g0 x (by omega)).trans (h.grow.old x hx)
 ·show (if A' = some ⟨x, 0, none⟩ then some (k, .arr) else if eA = some ⟨x, 0, none⟩ then some (k, .fld l.length) else Gj x) = none ∨ ∃ r, (if A' = some ⟨x, 0, none⟩ then some (k, .arr) else if eA = some ⟨x, 0, none⟩ then some (k, .fld l.length) else Gj x) = some (k, r)
  split
  ·exact .inr ⟨_, rfl⟩
  ·split
   ·exact .inr ⟨_, rfl⟩
   ·exact h.grow.new x hx
structure GBus (w : World) (G : Gh) (k : Nat) (wr : World) (l : List Bu) (A : Option Addr) (c : Nat) (rows : List (Array Value)) (Gj : Gh) : Prop where
 rws : OwnL wr 97 2 A c rows
 len : rows.length = l.length
 ge : ∀ g, A = some ⟨g, 0, none⟩ -> w.heap.size <= g
 role : RoleOf Gj A (k, .bar)
 all : ∀ (i : Nat) (o : Bu) (row : Array Value), l[i]? = some o -> rows[i]? = some row -> ∃ fA fc, BuAt wr Gj k i o row fA fc
 grow : Grow w G k wr Gj
theorem GBus.nil {w : World} {G : Gh} {k : Nat} (hf : Fr w G) : GBus w G k w [] none 0 [] G := ⟨OwnL.nil _ _ _, rfl, fun g e => (by cases e), fun g e => (by cases e), fun i o row h => (by simp at h), ⟨hf, fun _ _ => rfl, fun b hb => .inl (hf b hb)⟩⟩
theorem GBus.push {w wr W8 W9 : World} {G Gj : Gh} {k : Nat} {l : List Bu} {A A' : Option Addr} {c c' : Nat} {rows : List (Array Value)} (h : GBus w G k wr l A c rows Gj) (hz : Below wr.heap.size wr W8) (hw : w.heap.size <= wr.heap.size) {b : Bu} {eA : Option Addr} {ec : Nat} {rows7 : List (Array Value)} 
  (ho7 : OwnL W8 35 9 eA ec rows7) (hl7 : rows7.length = b.elems.length) (hA7 : ∀ g, eA = some ⟨g, 0, none⟩ -> wr.heap.size <= g) (hv7 : ∀ (j : Nat) (v : Va) (row : Array Value), b.elems[j]? = some v -> rows7[j]? = some row -> VAt W8 (fun x => wr.heap.size <= x /\ eA ≠ some ⟨x, 0, none⟩) v row)
  (hown : OwnL W9 97 2 A' c' (rows ++ [#[.int .i64 b.count, .slice eA b.elems.length ec]])) (hk : Keep (fun b => A = some ⟨b, 0, none⟩) W8 W9) (hA : A' = A ∨ ∃ g, A' = some ⟨g, 0, none⟩ /\ W8.heap.size <= g) : GBus w G k W9 (l ++ [b]) A' c' (rows ++ [#[.int .i64 b.count, .slice eA b.elems.length ec]]) (own (own Gj eA (k, .elm l.length)) A' (k, .bar)) := by
 have hsz := hz.size
 have hltA : ∀ g, A = some ⟨g, 0, none⟩ -> g < wr.heap.size := fun g e => h.rws.lt e
 have hlt7 : ∀ g, eA = some ⟨g, 0, none⟩ -> g < W8.heap.size := fun g e => ho7.lt e
 have g5 : ∀ x, x < wr.heap.size -> own Gj eA (k, .elm l.length) x = Gj x := own_old hA7
 have r5 : RoleOf (own Gj eA (k, .elm l.length)) A (k, .bar) := fun g e => (g5 g (hltA g e)).trans (h.role g e)
 have g6 : ∀ x, x < W8.heap.size -> own (own Gj eA (k, .elm l.length)) A' (k, .bar) x = own Gj eA (k, .elm l.length) x := own_again r5 hA
 have g0 : ∀ x, x < wr.heap.size -> own (own Gj eA (k, .elm l.length)) A' (k, .bar) x = Gj x := fun x hx => (g6 x (by omega)).trans (g5 x hx)
 have gn : ∀ x, (wr.heap.size <= x /\ eA ≠ some ⟨x, 0, none⟩) /\ x < W8.heap.size -> Imm (own (own Gj eA (k, .elm l.length)) A' (k, .bar)) x := fun x hx => by
  unfold Imm
  rw [g6 x hx.2]
  unfold own
  rw [if_neg hx.1.2]
  exact h.grow.fr x hx.1.1
 have wn : ∀ x, (wr.heap.size <= x /\ eA ≠ some ⟨x, 0, none⟩) /\ x < W8.heap.size -> W9.heap[x]? = W8.heap[x]? := fun x hx => hk.block x hx.2 fun e => by have := hltA x e; have := hx.1.1; omega
 have ro : ∀ x r, x < wr.heap.size -> Gj x = some (k, r) -> r ≠ .bar -> W9.heap[x]? = wr.heap[x]? := fun x r hx e hr => (hk.block x (by omega) fun e2 => by have := h.role x e2; rw [e] at this; cases this; exact hr rfl).trans (hz.block x hx)
 have rn : ∀ x, x < wr.heap.size -> Gj x = none -> W9.heap[x]? = wr.heap[x]? := fun x hx e => (hk.block x (by omega) fun e2 => by have := h.role x e2; rw [e] at this; cases this).trans (hz.block x hx)
 have hL7 : ListV W9 (own (own Gj eA (k, .elm l.length)) A' (k, .bar)) (k, .elm l.length) b.elems eA ec := ⟨rows7, ho7.keep hk (fun g e e2 => by have := hA7 g e; have := hltA g e2; omega), hl7, fun g e => (g6 g (hlt7 g e)).trans (own_role _ _ _ g e), fun j v row e1 e2 => (hv7 j v row e1 e2).low.mono gn fun x hx _ => wn x hx⟩
 refine ⟨hown, by simp [h.len], fun g e => ?_, own_role _ _ _, fun i o row e1 e2 => ?_, fun x hx => ?_, fun x hx => ?_, fun x hx => ?_⟩
 ·rcases hA with e2 | ⟨g', e2, e3⟩
  ·exact h.ge g (by rw [<- e2]; exact e)
  ·rw [e] at e2; cases e2; omega
 ·rcases Nat.lt_trichotomy i l.length with e | e | e
  ·rw [List.getElem?_append_left e] at e1
   rw [List.getElem?_append_left (by rw [h.len]; exact e)] at e2
   obtain ⟨fA, fc, h3⟩ := h.all i o row e1 e2
   have h4 : BuAt wr (own (own Gj eA (k, .elm l.length)) A' (k, .bar)) k i o row fA fc := ⟨h3.eq, h3.elm.regh g0⟩
   exact ⟨fA, fc, h4.same (fun x hx e9 => ro x _ hx ((g0 x hx).symm.trans e9) (by simp)) (fun x hx e9 => rn x hx ((g0 x hx).symm.trans e9))⟩
  ·subst e
   rw [List.getElem?_concat_length] at e1
   rw [<- h.len, List.getElem?_concat_length] at e2
   cases e1; cases e2
   exact ⟨eA, ec, rfl, hL7⟩
  ·rw [List.getElem?_eq_none (by simp; omega)] at e1; cases e1
 ·have h1 : ¬ A' = some ⟨x, 0, none⟩ := fun e => by have := hown.lt e; omega
  have h2 : ¬ eA = some ⟨x, 0, none⟩ := fun e => by have := hlt7 x e; have := hk.size; omega
  show (if A' = some ⟨x, 0, none⟩ then some (k, .bar) else if eA = some ⟨x, 0, none⟩ then some (k, .elm l.length) else Gj x) = none
  rw [if_neg h1, if_neg h2]
  exact h.grow.fr x (by have := hk.size; omega)
 ·exact (g0 x (by omega)).trans (h.grow.old x hx)
 ·show (if A' = some ⟨x, 0, none⟩ then some (k, .bar) else if eA = some ⟨x, 0, none⟩ then some (k, .elm l.length) else Gj x) = none ∨ ∃ r, (if A' = some ⟨x, 0, none⟩ then some (k, .bar) else if eA = some ⟨x, 0, none⟩ then some (k, .elm l.length) else Gj x) = some (k, r)
  split
  ·exact .inr ⟨_, rfl⟩
  ·split
   ·exact .inr ⟨_, rfl⟩
   ·exact h.grow.new x hx
theorem dObjectsG_any {G : Gh} {k p nr : Nat} {h : Hp} {w : World} (k2 : Nat) (hf : Fr w G) (hh : DHeapAt w G k p h nr) (hnb : h.obs.length <= 1000000) (hle : ∀ b, b ∈ h.obs -> b.t.nodes <= 1000000 /\ b.fields.length <= 1000000 /\ ∀ u, u ∈ b.fields -> nodesF u <= 1000000) :
  Calls Try.prog 55 #[.pointer (some ⟨p, 0, none⟩)] w fun e w' => ∃ A c rows G', e = .returned (.slice A h.obs.length c) /\ GObs w G k2 w' h.obs A c rows G' /\ Below w.heap.size w w' := by
 obtain ⟨dA, dc, oA, oc, bA, bc, lA, lc, rA, rc, hh⟩ := hh
 have HH := Zi hh
 have HLE := Zi hle
 have HF := Zi hf
 have HP := Zi hh.blk
 obtain ⟨n, hn⟩ : ∃ n, n = h.obs.length := ⟨_, rfl⟩
 have HN := Zi hn
 rw [<- hn] at HP hnb ⊢
 have hb := Below.refl w.heap.size w
 have hz8 : zrow8.size = 8 := rfl
 clear hh hle hn hf
 go_enter Try.func55, Try.ntmps55
 go_upto_region 0 with fail
 apply Zl
 refine Zm ?_
 go_upto_region 1 with fail
 apply Zl
 refine Zm ?_
 go_upto_region 2 with fail
 apply Zl
 refine Zm ?_
 go_wp2_with fail
 go_loopw [3, 4] (fun s i wr => ∃ (j : Nat) (A9 : Option Addr) (c9 : Nat) (rows : List (Array Value)) (Gj : Gh), j <= n /\ s = .slice A9 j c9 /\ i = .int .i64 (j : Int) /\ Hid (GObs w G k2 wr (h.obs.take j) A9 c9 rows Gj) /\ Below w.heap.size w wr) (fun _ i _ => n - (intOf i).toNat)
 case atStart => exact ⟨0, none, 0, [], G, by omega, rfl, rfl, Zi (GObs.nil HF.out), hb⟩
 case round =>
  clear hb
  obtain ⟨j, A9, c9, rows, Gj, hj, rfl, rfl, HR, hb⟩ := hrel
  have hp := below_look hb HP.out
  go_upto_region 3 with fail
  by_cases hlt : j < n
  ·have hltI : (j : Int) < (n : Int) := by omega
   have hjl : j < h.obs.length := by rw [<- HN.out]; exact hlt
   have ho := List.getElem?_eq_getElem hjl
   obtain ⟨o, hoe⟩ : ∃ o, o = h.obs[j] := ⟨_, rfl⟩
   rw [<- hoe] at ho
   obtain ⟨g, rows0, rfl, hR⟩ := HH.out.obs.rows ho
   have hr0 : rows0[j]? = some (rows0[j]'(by rw [hR.len]; exact hjl)) := List.getElem?_eq_getElem _
   obtain ⟨row, hrow⟩ : ∃ row, row = rows0[j]'(by rw [hR.len]; exact hjl) := ⟨_, rfl⟩
   rw [<- hrow] at hr0
   obtain ⟨tr, fA, fc, hx⟩ := hR.all j o row ho hr0
   have ht4 := hx.ty.size
   have ht1 := ty_one hx.ty
   have heq := hx.eq
   subst heq
   have h8 := (cell8_at ht4 o.state o.count o.weak fA o.fields.length fc).1
   have h81 := cell8_one ht1 (s := o.state) (c := o.count) (k := o.weak) (A := fA) (l := o.fields.length) (m := fc)
   obtain ⟨cur, hcur, -, -, hext, -⟩ := (hR.own.old hb).at hr0
   have HRW := Zi (row_mid (n := 8) hcur hext Go.Proofs.Ytpamocglecangaa.u41 rfl h8 info41)
   have hlo := HLE.out o (List.mem_of_getElem? ho)
   obtain ⟨rows5, hro, hrl, hrr, hva⟩ := hx.fld
   have HVS := Zi (hLVvs (D2 := fun _ => True) hro hrl hva (fun _ _ => trivial) (fun _ _ => trivial))
   have HTY := Zi hx.ty
   have HLO := Zi hlo
   have HTK : Hid (h.obs.take j ++ [o] = h.obs.take (j + 1)) := Zi (by rw [List.take_add_one, ho]; rfl)
   have HRL : Hid (rows.length = j) := Zi (by rw [HR.out.len, List.length_take, <- HN.out]; omega)
   have hzz := Below.refl wr.heap.size wr
   clear hcur hext hro hrl hrr hva hlo ho hoe hjl hr0 hrow hx hR
   apply Zl
   iterate 4 refine Zm ?_
   refine Zo rfl (dh1 hp) ?_
   iterate 2 refine Zm ?_
   go_upto_region 5 with fail
   apply Zl
   iterate 3 refine Zm ?_
   refine Zo rfl (dh1 hp) ?_
   iterate 2 refine Zm ?_
   refine Zw rfl (HRW.out) ?_
   refine wl_newv (fun q => .pointer (some ⟨q, 0, none⟩)) rfl (ex_all41 rfl _ _) ?_
   intro W5 q hbn hlq hq
   simp only [Zq]
   replace hzz := hzz.trans (hbn.mono hzz.size)
   clear hbn
   (with_reducible refine wl_putN info41 h8 h81 rfl rfl hq (by rw [h8, hz8]; omega) ?_); rw [put_noneA]; intro W6 hbx hsz hkx hnx
   replace hzz := hbx _ _ (by omega) hzz
   rw [putN_whole (by rw [h8, hz8])] at hnx
   clear hq hbx hsz hkx
   have hq := hnx
   clear hnx
   have HC1 := Zi (CopyType_any o.t HLO.out.1 W6 _ _ (HTY.out.old (hb.trans (hzz.mono hb.size))))
   go_upto_region 6 with fail
   apply Zl
   refine Zm ?_
   refine Zw rfl (row_mid (n := 4) hq (cell8_pre ht4) Go.Proofs.Ytpamocglecangaa.u24 rfl ht4 info24) ?_
   refine Zn HC1.out ?_; rintro e w7 ⟨row7, rfl, hty7, hb7⟩; refine ⟨_, rfl, ?_⟩; simp only [Zq]
   have hs7 := hty7.size
   have h17 := ty_one hty7
   have hlq7 := heap_lt hq
   have HT7 : Hid (TyAt w7 (fun b => wr.heap.size <= b /\ b ≠ q /\ b < w7.heap.size) o.t row7) := Zi (hty7.low.weak fun b (h9 : W6.heap.size <= b /\ b < w7.heap.size) => ⟨by have := hzz.size; omega, by omega, h9.2⟩)
   clear hty7 HC1
   replace hq := below_look hb7 hq; replace hzz := hzz.trans (hb7.mono hzz.size); clear hb7
   refine Zm ?_
   (with_reducible refine wl_putN info24 hs7 h17 rfl rfl hq (by rw [hs7, h8]; omega) ?_); rw [put_noneA]; intro W8 hbx hsz hkx hnx; replace hzz := hbx _ _ (by omega) hzz; clear hq; have hq := hnx; clear hnx
   rw [cell8_tyS ht4 hs7] at hq
   replace HT7 := Zi (HT7.out.mono (fun _ h => h) (fun b h9 => hkx b h9.2.1))
   have HSZ8 : Hid (w7.heap.size <= W8.heap.size) := Zi (by omega)
   have hqW8 := heap_lt hq
   clear hbx hsz hkx
   have HC2 := Zi (CopyValues_any o.fields HLO.out.2.1 HLO.out.2.2 fA o.fields.length fc W8 _ (HVS.out.old (hb.trans (hzz.mono hb.size))))
   have hA8 := cell8_at hs7 o.state o.count o.weak fA o.fields.length fc
   go_upto_region 7 with fail
   apply Zl
   refine Zm ?_
   refine Zo rfl (one_of Go.Proofs.Ytpamocglecangaa.u33 rfl (by rw [cell_of_row _ _ _ _ _ _ hq]; exact hA8.2.2.2.2)) ?_
   refine Zn HC2.out ?_; rintro e w9 ⟨A7, c7, rows7, rfl, ho7, hl7, hA7, hv7, hb9⟩; refine ⟨_, rfl, ?_⟩; simp only [Zq]
   have hlq9 := heap_lt hq
   have HO7 := Zi ho7
   have HL7 := Zi hl7
   have HA7 := Zi hA7
   have HV9 := Zi hv7
   replace HT7 := Zi (HT7.out.old hb9)
   clear ho7 hl7 hA7 hv7 HC2
   replace hq := below_look hb9 hq; replace hzz := hzz.trans (hb9.mono hzz.size); clear hb9
   refine Zm ?_
   (with_reducible refine wl_putC (v := .slice A7 o.fields.length c7) info33e rfl rfl rfl hq (by rw [hA8.1]; omega) ?_); rw [put_noneA]; intro W10 hbx hsz hkx hnx; replace hzz := hbx _ _ (by omega) hzz; clear hq; have hq := hnx; clear hnx
   rw [(cell8_set hs7 o.state o.count o.weak fA o.fields.length fc 0 A7 o.fields.length c7).2.2.2] at hq
   replace HT7 := Zi (HT7.out.mono (D' := fun b => wr.heap.size <= b /\ A7 ≠ some ⟨b, 0, none⟩) (fun b h9 => ⟨h9.1, fun e => by have := HA7.out b e; have := h9.2.2; have := HSZ8.out; omega⟩) (fun b h9 => hkx b h9.2.1))
   replace HO7 := Zi (HO7.out.same (w' := W10) (fun g e _ => hkx g (by have := HA7.out g e; omega)))
   replace HV9 := Zi (fun (j : Nat) (v : Va) (row : Array Value) (e1 : o.fields[j]? = some v) (e2 : rows7[j]? = some row) => ((HV9.out j v row e1 e2).mono (fun _ h => h) (fun b h9 _ => hkx b (by have := h9.1; omega)) : VAt W10 _ v row))
   have HGE : Hid (∀ g, A7 = some ⟨g, 0, none⟩ -> wr.heap.size <= g) := Zi (fun g e => by have := HA7.out g e; have := hzz.size; omega)
   have HW8 : Hid (wr.heap.size <= W8.heap.size) := Zi (by omega)
   clear hbx hsz hkx hA8
   have hB8 := (cell8_at hs7 o.state o.count o.weak A7 o.fields.length c7).1
   have hB1 := cell8_one h17 (s := o.state) (c := o.count) (k := o.weak) (A := A7) (l := o.fields.length) (m := c7)
   go_upto_region 8 with fail
   apply Zl
   refine Zm ?_
   refine Zw rfl (row_mid (n := 8) hq (by simp [<- hB8]) Go.Proofs.Ytpamocglecangaa.u41 rfl hB8 info41) ?_
   refine wl_newv (fun q => .slice (some ⟨q, 0, none⟩) 1 1) rfl (ex_bs38 _ rfl rfl hB8) ?_
   intro W11 q8 hbn hlq8 hq8
   simp only [Zq]
   have HZ := Zi (hzz.trans (hbn.mono hzz.size))
   have HO8 := Zi (HR.out.rws.old HZ.out)
   have HT8 := Zi (HT7.out.old hbn)
   have HO7b := Zi (HO7.out.old hbn)
   have HV8 := Zi (fun (j : Nat) (v : Va) (row : Array Value) (e1 : o.fields[j]? = some v) (e2 : rows7[j]? = some row) => (((HV9.out j v row e1 e2).old hbn).weak (D' := fun x => wr.heap.size <= x /\ A7 ≠ some ⟨x, 0, none⟩) (fun b h9 => ⟨by have := h9.1; have := HW8.out; omega, h9.2⟩) : VAt W11 _ v row))
   have hb8 := hb.trans (HZ.out.mono hb.size)
   clear hbn hq
   refine wl_pushL elt38 rfl _ _ rfl (show _ = Value.slice A9 rows.length c9 by rw [HRL.out]; rfl) rfl HO8.out hq8 hB8 hB1 (by have := HRL.out; omega) (by have := HRL.out; unfold maxLen; omega) ?_
   rw [HRL.out]
   intro A' c' W12 hown hk9 hA9
   have hb9 := Below.keep hb8 hk9 (fun b e => HR.out.ge b e)
   have hcr := HR.out.push HZ.out hb.size HT8.out HO7b.out HL7.out HGE.out HV8.out hown hk9 hA9
   rw [HTK.out] at hcr
   have HR9 := Zi hcr
   clear hown hk9 hA9 hcr HR HZ HO8 HT8 HV8 HT7 HV9 hb8 hq8 hb hp hzz
   simp only [Zq]
   refine Zm ?_
   go_wp2_with fail
   go_roundw
   case rel => exact ⟨j + 1, A', c', _, _, by omega, rfl, by go_num, HR9, hb9⟩
   case measure => simp [intOf]; omega
  ·have hltI : ¬ (j : Int) < (n : Int) := by omega
   have hjn : j = n := by omega
   subst hjn
   have HR2 : Hid (GObs w G k2 wr h.obs A9 c9 rows Gj) := Zi (by have := HR.out; rwa [List.take_of_length_le (by rw [HN.out]; exact Nat.le_refl _)] at this)
   apply Zl
   iterate 4 refine Zm ?_
   refine Zo rfl (dh1 hp) ?_
   iterate 2 refine Zm ?_
   go_upto_region 9 with fail
   apply Zl
   iterate 2 refine Zm ?_
   go_wp2_with fail
   go_ret
   exact ⟨A9, c9, rfl, ⟨rows, Gj, HR2.out⟩, hb⟩
theorem dBuffersG_any {G : Gh} {k p nr : Nat} {h : Hp} {w : World} (k2 : Nat) (hf : Fr w G) (hh : DHeapAt w G k p h nr) (hnb : h.bus.length <= 1000000) (hle : ∀ b, b ∈ h.bus -> b.elems.length <= 1000000 /\ ∀ u, u ∈ b.elems -> nodesF u <= 1000000) :
  Calls Try.prog 56 #[.pointer (some ⟨p, 0, none⟩)] w fun e w' => ∃ A c rows G', e = .returned (.slice A h.bus.length c) /\ GBus w G k2 w' h.bus A c rows G' /\ Below w.heap.size w w' := by
 obtain ⟨dA, dc, oA, oc, bA, bc, lA, lc, rA, rc, hh⟩ := hh
 have HH := Zi hh
 have HLE := Zi hle
 have HF := Zi hf
 have HP := Zi hh.blk
 obtain ⟨n, hn⟩ : ∃ n, n = h.bus.length := ⟨_, rfl⟩
 have HN := Zi hn
 rw [<- hn] at HP hnb ⊢
 have hb := Below.refl w.heap.size w
 clear hh hle hn hf
 go_enter Try.func56, Try.ntmps56
 go_upto_region 0 with fail
 apply Zl
 refine Zm ?_
 go_upto_region 1 with fail
 apply Zl
 refine Zm ?_
 go_upto_region 2 with fail
 apply Zl
 refine Zm ?_
 go_wp2_with fail
 go_loopw [3, 4] (fun s i wr => ∃ (j : Nat) (A9 : Option Addr) (c9 : Nat) (rows : List (Array Value)) (Gj : Gh), j <= n /\ s = .slice A9 j c9 /\ i = .int .i64 (j : Int) /\ Hid (GBus w G k2 wr (h.bus.take j) A9 c9 rows Gj) /\ Below w.heap.size w wr) (fun _ i _ => n - (intOf i).toNat)
 case atStart => exact ⟨0, none, 0, [], G, by omega, rfl, rfl, Zi (GBus.nil HF.out), hb⟩
 case round =>
  clear hb
  obtain ⟨j, A9, c9, rows, Gj, hj, rfl, rfl, HR, hb⟩ := hrel
  have hp := below_look hb HP.out
  go_upto_region 3 with fail
  by_cases hlt : j < n
  ·have hltI : (j : Int) < (n : Int) := by omega
   have hjl : j < h.bus.length := by rw [<- HN.out]; exact hlt
   have ho := List.getElem?_eq_getElem hjl
   obtain ⟨o, hoe⟩ : ∃ o, o = h.bus[j] := ⟨_, rfl⟩
   rw [<- hoe] at ho
   obtain ⟨g, fA, fc, rfl, hgr, hL, hLV, -⟩ := HH.out.buf ho
   have HL := Zi hL
   have hlo := HLE.out o (List.mem_of_getElem? ho)
   have hbz : Below wr.heap.size wr wr.drew := (Below.refl _ _).drew
   obtain ⟨rows5, hro, hrl, hrr, hva⟩ := hLV
   have hvsl := hLVvs (D2 := fun _ => True) hro hrl hva (fun _ _ => trivial) (fun _ _ => trivial)
   have HC := Zi (CopyValues_any o.elems hlo.1 hlo.2 fA o.elems.length fc wr.drew _ (hvsl.old (hb.trans (hbz.mono hb.size))))
   have HTK : Hid (h.bus.take j ++ [o] = h.bus.take (j + 1)) := Zi (by rw [List.take_add_one, ho]; rfl)
   have HRL : Hid (rows.length = j) := Zi (by rw [HR.out.len, List.length_take, <- HN.out]; omega)
   clear hgr hL hro hrl hrr hva hvsl hlo ho hoe hjl
   apply Zl
   iterate 4 refine Zm ?_
   refine Zo rfl (dh2 hp) ?_
   iterate 2 refine Zm ?_
   go_upto_region 5 with fail
   refine wp_region_Z (S := Below w.heap.size w) 21 mixed (hb.trans (hbz.mono hb.size)) (fun hS => ?_)
   refine zm 0 hS ?_; try simp only [Zq]
   refine zm 1 hS ?_; try simp only [Zq]
   refine zm 2 hS ?_; try simp only [Zq]
   refine zm 3 hS ?_; try simp only [Zq]
   refine zv4 (i := 4) rfl (by kernel_rfl) Zg hS rfl (fun w' hw' => ex_one rfl (dh2 (below_look hw' HP.out))) ?_; try simp only [Zq]
   refine zm 5 hS ?_; try simp only [Zq]
   refine zm 6 hS ?_; try simp only [Zq]
   refine zm 7 hS ?_; try simp only [Zq]
   refine zv4 (i := 8) rfl (by kernel_rfl) Zg hS rfl (fun w' hw' => ex_one rfl (HL.out w' hw').c) ?_; try simp only [Zq]
   refine zm 9 hS ?_; try simp only [Zq]
   refine zm 10 hS ?_; try simp only [Zq]
   refine zm 11 hS ?_; try simp only [Zq]
   refine zv4 (i := 12) rfl (by kernel_rfl) Zg hS rfl (fun w' hw' => ex_one rfl (dh2 (below_look hw' HP.out))) ?_; try simp only [Zq]
   refine zm 13 hS ?_; try simp only [Zq]
   refine zm 14 hS ?_; try simp only [Zq]
   refine zm 15 hS ?_; try simp only [Zq]
   refine zv4 (i := 16) rfl (by kernel_rfl) Zg hS rfl (fun w' hw' => ex_one rfl (HL.out w' hw').e) ?_; try simp only [Zq]
   refine za_call (i := 17) (by kernel_rfl) rfl rfl (fun K hK => ?_); go_simp; refine ⟨_, _, ⟨rfl, rfl⟩, hK _ _ ⟨_, HC.out, ?_⟩⟩; clear hK K; rintro e w7 ⟨A7, c7, rows7, rfl, ho7, hl7, hA7, hv7, hb7⟩
   have hb7' := hbz.trans (hb7.mono hbz.size)
   have hS7 := hb.trans (hb7'.mono hb.size)
   refine ⟨_, rfl, fun _ => hS7, ?_⟩
   clear hS
   have hS := hS7
   try simp only [Zq]
   have HO7 := Zi ho7
   have HL7 := Zi hl7
   have HGE : Hid (∀ g, A7 = some ⟨g, 0, none⟩ -> wr.heap.size <= g) := Zi (fun g e => by have := hA7 g e; have := hbz.size; omega)
   have HV7 := Zi (fun (j : Nat) (v : Va) (row : Array Value) (e1 : o.elems[j]? = some v) (e2 : rows7[j]? = some row) => ((hv7 j v row e1 e2).weak (D' := fun x => wr.heap.size <= x /\ A7 ≠ some ⟨x, 0, none⟩) (fun b (h9 : wr.drew.heap.size <= b /\ _) => ⟨by have := h9.1; have := hbz.size; omega, h9.2⟩) : VAt w7 _ v row))
   clear ho7 hl7 hA7 hv7 HC hb7 hS7
   refine zv4 (i := 18) rfl (by kernel_rfl) Zg hS rfl (fun w' hw' => ex_build97n _ _ rfl rfl rfl) ?_; try simp only [Zq]
   refine za_new (i := 19) (v := fun q => .slice (some ⟨q, 0, none⟩) 1 1) (by kernel_rfl) rfl rfl (ex_bs78 _ rfl rfl) (fun W hW => hS.trans (hW.mono hS.size)) ?_
   clear hS
   intro W8 q8 hbn hlq8 hq8 hS
   try simp only [Zq]
   have HZ := Zi (hb7'.trans (hbn.mono hb7'.size))
   have HO8 := Zi (HR.out.rws.old HZ.out)
   have HO7b := Zi (HO7.out.old hbn)
   have HV8 := Zi (fun (j : Nat) (v : Va) (row : Array Value) (e1 : o.elems[j]? = some v) (e2 : rows7[j]? = some row) => ((HV7.out j v row e1 e2).old hbn : VAt W8 _ v row))
   refine za_pushL (i := 20) elt78 (by kernel_rfl) rfl rfl _ _ rfl (show _ = Value.slice A9 rows.length c9 by rw [HRL.out]; rfl) rfl HO8.out hq8 rfl (by simp [Value.oneCell']) (by have := HRL.out; omega) (by have := HRL.out; unfold maxLen; omega) (fun w' hk => Below.keep hS hk (fun b e => HR.out.ge b e)) ?_
   clear hS
   intro A' c' W9 hown hk9 hA9 hS
   rw [HRL.out]
   try simp only [Zq]
   have hcr := HR.out.push HZ.out hb.size HO7b.out HL7.out HGE.out HV8.out hown hk9 hA9
   rw [HTK.out] at hcr
   have HR9 := Zi hcr
   have hb9 := hS
   clear hown hk9 hA9 hcr HR HZ HO8 HV8 HV7 hbn hb7' hbz hq8 hb hp
   refine zn 21 hS ?_; try simp only [Zq]
   clear hS
   refine za_done (by kernel_rfl) ?_ _
   go_wp2_with fail
   go_roundw
   case rel => exact ⟨j + 1, A', c', _, _, by omega, rfl, by go_num, HR9, hb9⟩
   case measure => simp [intOf]; omega
  ·have hltI : ¬ (j : Int) < (n : Int) := by omega
   have hjn : j = n := by omega
   subst hjn
   have HR2 : Hid (GBus w G k2 wr h.bus A9 c9 rows Gj) := Zi (by have := HR.out; rwa [List.take_of_length_le (by rw [HN.out]; exact Nat.le_refl _)] at this)
   apply Zl
   iterate 4 refine Zm ?_
   refine Zo rfl (dh2 hp) ?_
   iterate 2 refine Zm ?_
   go_upto_region 6 with fail
   apply Zl
   iterate 2 refine Zm ?_
   go_wp2_with fail
   go_ret
   exact ⟨A9, c9, rfl, ⟨rows, Gj, HR2.out⟩, hb⟩
open Classical in
theorem ghost_of {w w' : World} {G : Gh} {q ci : Nat} {rows : List (Array Value)} (hf : Fr w G) (k : Nat) (ar0 : Role) (fr : Nat -> Role) (hq : w.heap.size <= q) (hqs : q < w'.heap.size) (hlt : ∀ (i : Nat) (r : Array Value) (b : Nat), rows[i]? = some r -> fldB ci r = some b -> q < b /\ b < w'.heap.size) (hne : ∀ (i1 i2 : Nat) (r1 r2 : Array Value) (b : Nat), i1 < i2 -> rows[i1]? = some r1 -> rows[i2]? = some r2 -> fldB ci r1 = some b -> fldB ci r2 ≠ some b) :
  ∃ G', Grow w G k w' G' /\ G' q = some (k, ar0) /\ ∀ (i : Nat) (r : Array Value) (b : Nat), rows[i]? = some r -> fldB ci r = some b -> G' b = some (k, fr i) := by
 refine ⟨fun b => if b = q then some (k, ar0) else if h : ∃ i r, rows[i]? = some r /\ fldB ci r = some b then some (k, fr (Classical.choose h)) else G b, ⟨fun b hb => ?_, fun b hb => ?_, fun b hb => ?_⟩, if_pos rfl, fun i r b e1 e2 => ?_⟩
 ·rw [if_neg (by omega), dif_neg]
  ·exact hf b (by omega)
  ·rintro ⟨i, r, e1, e2⟩
   have := (hlt i r b e1 e2).2
   omega
 ·rw [if_neg (by omega), dif_neg]
  rintro ⟨i, r, e1, e2⟩
  have := (hlt i r b e1 e2).1
  omega
 ·split
  ·exact .inr ⟨_, rfl⟩
  ·split
   ·exact .inr ⟨_, rfl⟩
   ·exact .inl (hf b hb)
 ·have h1 := hlt i r b e1 e2
  have hx : ∃ i r, rows[i]? = some r /\ fldB ci r = some b := ⟨i, r, e1, e2⟩
  show (if b = q then some (k, ar0) else if h : ∃ i r, rows[i]? = some r /\ fldB ci r = some b then some (k, fr (Classical.choose h)) else G b) = some (k, fr i)
  rw [if_neg (by omega), dif_pos hx]
  obtain ⟨r', e3, e4⟩ := Classical.choose_spec hx
  rcases Nat.lt_trichotomy (Classical.choose hx) i with h2 | h2 | h2
  ·exact absurd e2 (hne _ _ r' r b h2 e3 e1 e4)
  ·rw [h2]
  ·exact absurd e4 (hne _ _ r r' b h2 e1 e3 e2)
theorem fldB_c8 {tr : Array Value} (ht : tr.size = 4) (s c k : Int) (g l m : Nat) : fldB 7 (cell8 tr s c k (some ⟨g, 0, none⟩) l m) = some g := by
 unfold fldB
 rw [(cell8_at ht s c k (some ⟨g, 0, none⟩) l m).2.2.2.2]
theorem obsAt_of {w w' : World} {G : Gh} {q c : Nat} {obs : List Ob} {rows : List (Array Value)} (hf : Fr w G) (k : Nat) (ho : OwnL w' 41 8 (some ⟨q, 0, none⟩) c rows) (hl : rows.length = obs.length) (hq : w.heap.size <= q) (hfin : ∀ (i : Nat) (o : Ob) (row : Array Value), obs[i]? = some o -> rows[i]? = some row -> FinO w w' G q o row) (hne : ∀ (i1 i2 : Nat) (r1 r2 : Array Value) (b : Nat), i1 < i2 -> rows[i1]? = some r1 -> rows[i2]? = some r2 -> fldB 7 r1 = some b -> fldB 7 r2 ≠ some b) :
  ∃ G', Grow w G k w' G' /\ ObsAt w' G' k obs (some ⟨q, 0, none⟩) c := by
 obtain ⟨G', g1, g2, g3⟩ := ghost_of (ci := 7) (rows := rows) hf k .arr .fld hq (ho.lt rfl) (fun i r b e1 e2 => by
  have hil := (List.getElem?_eq_some_iff.1 e1).1
  obtain ⟨tr, fA, fc, frows, e3, h2, h3, h4, h5, h6⟩ := hfin i _ r (List.getElem?_eq_getElem (show i < obs.length by omega)) e1
  rcases h3.el with ⟨e5, -, -⟩ | ⟨g, cur, e5, hg, -⟩
  ·rw [e3] at e2
   unfold fldB at e2
   rw [(cell8_at h2.size _ _ _ _ _ _).2.2.2.2, e5] at e2
   cases e2
  ·rw [e3, e5, fldB_c8 h2.size] at e2
   cases e2
   exact ⟨h5 _ e5, heap_lt hg⟩) hne
 refine ⟨G', g1, rows, ho, hl, fun g e => by cases e; exact g2, fun i o row e1 e2 => ?_⟩
 obtain ⟨tr, fA, fc, frows, e3, h2, h3, h4, h5, h6⟩ := hfin i o row e1 e2
 have hw : ∀ b, Lw w (Imm G) b -> Imm G' b := fun b hb => by have h9 := hb.1; unfold Imm at h9 ⊢; rw [g1.old b hb.2]; exact h9
 exact ⟨tr, fA, fc, e3, h2.weak hw, frows, h3, h4, fun g e => g3 i row g e2 (by rw [e3, e]; exact fldB_c8 h2.size _ _ _ _ _ _), fun j v r e4 e5 => (h6 j v r e4 e5).weak hw⟩
theorem busAt_of {w w' : World} {G : Gh} {q c : Nat} {bus : List Bu} {rows : List (Array Value)} (hf : Fr w G) (k : Nat) (ho : OwnL w' 97 2 (some ⟨q, 0, none⟩) c rows) (hl : rows.length = bus.length) (hq : w.heap.size <= q) (hfin : ∀ (i : Nat) (o : Bu) (row : Array Value), bus[i]? = some o -> rows[i]? = some row -> FinB w w' G q o row) (hne : ∀ (i1 i2 : Nat) (r1 r2 : Array Value) (b : Nat), i1 < i2 -> rows[i1]? = some r1 -> rows[i2]? = some r2 -> fldB 1 r1 = some b -> fldB 1 r2 ≠ some b) :
  ∃ G', Grow w G k w' G' /\ BusAt w' G' k bus (some ⟨q, 0, none⟩) c := by
 obtain ⟨G', g1, g2, g3⟩ := ghost_of (ci := 1) (rows := rows) hf k .bar .elm hq (ho.lt rfl) (fun i r b e1 e2 => by
  have hil := (List.getElem?_eq_some_iff.1 e1).1
  obtain ⟨fA, fc, frows, e3, h3, h4, h5, h6⟩ := hfin i _ r (List.getElem?_eq_getElem (show i < bus.length by omega)) e1
  rcases h3.el with ⟨e5, -, -⟩ | ⟨g, cur, e5, hg, -⟩
  ·rw [e3, e5] at e2; cases e2
  ·rw [e3, e5] at e2
   have e6 : some g = some b := e2
   cases e6
   exact ⟨h5 _ e5, heap_lt hg⟩) hne
 refine ⟨G', g1, rows, ho, hl, fun g e => by cases e; exact g2, fun i o row e1 e2 => ?_⟩
 obtain ⟨fA, fc, frows, e3, h3, h4, h5, h6⟩ := hfin i o row e1 e2
 have hw : ∀ b, Lw w (Imm G) b -> Imm G' b := fun b hb => by have h9 := hb.1; unfold Imm at h9 ⊢; rw [g1.old b hb.2]; exact h9
 exact ⟨fA, fc, e3, frows, h3, h4, fun g e => g3 i row g e2 (by rw [e3, e]; rfl), fun j v r e4 e5 => (h6 j v r e4 e5).weak hw⟩
theorem Grow.trans {w W w' : World} {G G1 G' : Gh} {k : Nat} (hs : w.heap.size <= W.heap.size) (a : Grow w G k W G1) (b : Grow W G1 k w' G') : Grow w G k w' G' where
 fr := b.fr
 old := fun x hx => (b.old x (by omega)).trans (a.old x hx)
 new := fun x hx => by
  by_cases e : x < W.heap.size
  ·rw [b.old x e]; exact a.new x hx
  ·exact b.new x (by omega)
theorem Grow.quiet {w W w' : World} {G G1 : Gh} {k : Nat} (a : Grow w G k W G1) (hb : Below W.heap.size W w') : Grow w G k w' G1 := ⟨a.fr.on hb.size, a.old, a.new⟩
theorem ObsAt.regh {w : World} {G G' : Gh} {k : Nat} {obs : List Ob} {A : Option Addr} {c : Nat} (h : ObsAt w G k obs A c) (hG : ∀ b, b < w.heap.size -> G' b = G b) : ObsAt w G' k obs A c := by
 obtain ⟨rows, ho, hl, hr, hv⟩ := h
 refine ⟨rows, ho, hl, hr.regh ho hG, fun i o row h1 h2 => ?_⟩
 obtain ⟨tr, fA, fc, g1, g2, g3⟩ := hv i o row h1 h2
 exact ⟨tr, fA, fc, g1, g2.regh hG, g3.regh hG⟩
theorem ObsAt.old {w w' : World} {G : Gh} {k : Nat} {obs : List Ob} {A : Option Addr} {c : Nat} (h : ObsAt w G k obs A c) (hb : Below w.heap.size w w') : ObsAt w' G k obs A c := h.same (fun b hl _ => hb.block b hl) fun b hl _ => hb.block b hl
theorem BusAt.regh {w : World} {G G' : Gh} {k : Nat} {bus : List Bu} {A : Option Addr} {c : Nat} (h : BusAt w G k bus A c) (hG : ∀ b, b < w.heap.size -> G' b = G b) : BusAt w G' k bus A c := by
 obtain ⟨rows, ho, hl, hr, hv⟩ := h
 refine ⟨rows, ho, hl, hr.regh ho hG, fun i o row h1 h2 => ?_⟩
 obtain ⟨eA, ec, g1, g2⟩ := hv i o row h1 h2
 exact ⟨eA, ec, g1, g2.regh hG⟩
theorem BusAt.old {w w' : World} {G : Gh} {k : Nat} {bus : List Bu} {A : Option Addr} {c : Nat} (h : BusAt w G k bus A c) (hb : Below w.heap.size w w') : BusAt w' G k bus A c := h.same (fun b hl _ => hb.block b hl) fun b hl _ => hb.block b hl
section
variable {w w' : World} {G G' : Gh} {k p nr : Nat} {h : Hp} {dA : Option Addr} {dc : Nat} {oA : Option Addr} {oc : Nat} {bA : Option Addr} {bc : Nat} {lA : Option Addr} {lc : Nat} {rA : Option Addr} {rc : Nat}
theorem DAt.putO (hh : DAt w G k p h nr dA dc oA oc bA bc lA lc rA rc) {obs : List Ob} {A : Option Addr} {c : Nat} (ho : ObsAt w G k obs A c) : DAt (w.setCell ⟨p, 1, none⟩ (.slice A obs.length c)) G k p { h with obs := obs } nr dA dc A c bA bc lA lc rA rc := by
 have hset := (dhdr_set (j := 1) (v := .slice A obs.length c) hh.blk).2.2
 have hs1 := (Keep.cellOne w p 1 (.slice A obs.length c)).block
 have hne : ∀ b r, G b = some (k, r) -> r ≠ .hdr -> b ≠ p := fun b r e hr e2 => by rw [e2, hh.rp] at e; cases e; exact hr rfl
 have hno : ∀ b, G b = none -> b ≠ p := fun b e e2 => by rw [e2, hh.rp] at e; cases e
 refine ⟨hset, hh.rp, ho.same (fun b hb e => by rcases e with e | ⟨i, e⟩ <;> exact hs1 b hb (hne b _ e (by simp))) (fun b hb e => hs1 b hb (hno b e)), hh.bus.same (fun b hb e => by rcases e with e | ⟨i, e⟩ <;> exact hs1 b hb (hne b _ e (by simp))) (fun b hb e => hs1 b hb (hno b e)), hh.lev.same (fun b hb e => hs1 b hb (hne b _ e (by simp))) (fun b hb e => hs1 b hb (hno b e)), hh.dei.same (fun b hb e => hs1 b hb (hno b e)), ?_⟩
 obtain ⟨rows2, ho3, hl2, hr2⟩ := hh.ord
 exact ⟨rows2, ho3.same fun b e hb => hs1 b hb (hne b _ (hr2 b e) (by simp)), hl2, hr2⟩
theorem DAt.putBs (hh : DAt w G k p h nr dA dc oA oc bA bc lA lc rA rc) {bus : List Bu} {A : Option Addr} {c : Nat} (ho : BusAt w G k bus A c) : DAt (w.setCell ⟨p, 2, none⟩ (.slice A bus.length c)) G k p { h with bus := bus } nr dA dc oA oc A c lA lc rA rc := by
 have hset := (dhdr_set (j := 2) (v := .slice A bus.length c) hh.blk).2.2
 have hs1 := (Keep.cellOne w p 2 (.slice A bus.length c)).block
 have hne : ∀ b r, G b = some (k, r) -> r ≠ .hdr -> b ≠ p := fun b r e hr e2 => by rw [e2, hh.rp] at e; cases e; exact hr rfl
 have hno : ∀ b, G b = none -> b ≠ p := fun b e e2 => by rw [e2, hh.rp] at e; cases e
 refine ⟨hset, hh.rp, hh.obs.same (fun b hb e => by rcases e with e | ⟨i, e⟩ <;> exact hs1 b hb (hne b _ e (by simp))) (fun b hb e => hs1 b hb (hno b e)), ho.same (fun b hb e => by rcases e with e | ⟨i, e⟩ <;> exact hs1 b hb (hne b _ e (by simp))) (fun b hb e => hs1 b hb (hno b e)), hh.lev.same (fun b hb e => hs1 b hb (hne b _ e (by simp))) (fun b hb e => hs1 b hb (hno b e)), hh.dei.same (fun b hb e => hs1 b hb (hno b e)), ?_⟩
 obtain ⟨rows2, ho3, hl2, hr2⟩ := hh.ord
 exact ⟨rows2, ho3.same fun b e hb => hs1 b hb (hne b _ (hr2 b e) (by simp)), hl2, hr2⟩
end
section
variable {md : Region.Mode} {ops : Array Oper} {Q : Exit -> Act -> World -> Prop} {S : World -> Prop} {c fuel : Nat} {listed : Array Bool} {a : Act} {w : World} {i : Nat} {oi : Oper}
theorem za_catT {G : Gh} (hf : Fr w G) {ts more : List Tk} {A M : Option Addr} {mc : Nat} (hr : Region.ready md ops listed = [i]) (ho : ops[i]? = some oi) (hg : Region.wanted oi (yielded ops a.tmps) = true) (s x : Operand) (hop : oi.op = .call { callee := .builtin .append, args := #[s, x], argTypes := #[102, 102] })
  (hs : a.eval s = .slice A ts.length ts.length) (hx : a.eval x = .slice M more.length mc) (h : DTks w (Imm G) ts A ts.length) (h2 : DTks w (Imm G) more M mc) (hlen : (ts.length + more.length) * 160 <= 140737488355328)
  (hS : ∀ W, Below w.heap.size w W -> S W)
  (hK : ∀ A' c' w', DTks w' (Imm G) (ts ++ more) A' c' -> Below w.heap.size w w' -> S w' -> wpAnyZ Try.prog md ops Q S c fuel (listed.setIfInBounds i true) (a.put oi.dst (.slice A' (ts ++ more).length c')) w') : wpAnyZ Try.prog md ops Q S c (fuel + 1) listed a w := by
 obtain ⟨A', c', w', hr2, h3, h4⟩ := run_catT hf h h2 hlen oi.type
 refine za_do hr ho hg (w2 := w') (v := .slice A' (ts ++ more).length c') ?_ (fun _ => hS w' h4) (hK A' c' w' h3 h4 (hS w' h4))
 unfold execOp
 simp only [hop, resolve, invoke, builtin, Sem.run_bind, Sem.run_pure, Result.andThen_ok, List.map_toArray, List.map_cons, List.map_nil, hs, hx, hr2]
end
def DCloned (w : World) (G : Gh) (k2 : Nat) (h : Hp) (e : Ending) (w' : World) : Prop := ∃ pc G', e = .returned (.pointer (some ⟨pc, 0, none⟩)) /\ DHeapAt w' G' k2 pc h 0 /\ Grow w G k2 w' G' /\ Below w.heap.size w w'
theorem dClone_any {G : Gh} {k k2 p nr : Nat} {h : Hp} {w : World} (hkk : k ≠ k2) (hno2 : ∀ b, ¬ Mine G k2 b) (hh : DHeapAt w G k p h nr) (hf : Fr w G) (hfit : DFit h) (hno : h.obs.length <= 1000000) (hnb : h.bus.length <= 1000000) (hnl : h.lev.length <= 1000000) (htk : ∀ ts, ts ∈ h.lev -> ts.length <= 800000000000) :
  Calls Try.prog 18 #[.pointer (some ⟨p, 0, none⟩)] w (DCloned w G k2 h) := by
 have HX := Zi hh
 have HF := Zi hf
 have HFT := Zi hfit
 have HKK := Zi hkk
 have HNO2 := Zi hno2
 have HTK := Zi htk
 have HNN := Zi (And.intro hno hnb)
 obtain ⟨dA, dc, oA, oc, bA, bc, lA, lc, rA, rc, hh0⟩ := hh
 have HP := Zi hh0.blk
 have HSS := Zi hh0.dei.ss
 have HH0 := Zi hh0
 obtain ⟨nl, hnle⟩ : ∃ n, n = h.lev.length := ⟨_, rfl⟩
 rw [<- hnle] at HP hnl
 have HNL := Zi hnle
 have hb := Below.refl w.heap.size w
 have HC := Zi (dNew_any k2 hf (c := dc) HSS.out hfit.dei)
 clear hh0 hf hfit hkk hno2 htk hno hnb hnle
 go_enter Try.func18, Try.ntmps18
 go_upto_region 0 with fail
 apply Zl
 refine Zm ?_
 have hp := HP.out
 go_upto_region 1 with fail
 apply Zl
 iterate 3 refine Zm ?_
 refine Zo rfl (dh0 hp) ?_
 refine Zn HC.out ?_; rintro e w1 ⟨pc, G1, rfl, hd1, hf1, hold1, hnew1, hb1⟩; refine ⟨_, rfl, ?_⟩; simp only [Zq]
 refine Zm ?_
 have HPC : Hid (w.heap.size <= pc) := Zi (by
  obtain ⟨_, _, _, _, _, _, _, _, _, _, hx⟩ := hd1
  rcases Nat.lt_or_ge pc w.heap.size with h1 | h1
  ·have h2 := hx.rp
   rw [hold1 pc h1] at h2
   exact absurd ⟨_, h2, by simp⟩ (HNO2.out pc)
  ·exact h1)
 have hg1 : Grow w G k2 w1 G1 := ⟨hf1, hold1, hnew1⟩
 have HG1 := Zi hg1
 have HD1 := Zi hd1
 replace hb := hb1
 clear hd1 hf1 hold1 hnew1 hb1 hg1 HC hp
 have HC := Zi (dObjectsG_any k2 HG1.out.fr ((HX.out.regh HG1.out.old).old hb) HNN.out.1 fun b hb => ⟨(HFT.out.all.fld b hb).1, HFT.out.fl b hb, (HFT.out.all.fld b hb).2⟩)
 go_upto_region 2 with fail
 apply Zl
 iterate 2 refine Zm ?_
 refine Zn HC.out ?_; rintro e w2 ⟨A2, c2, rows2, G2, rfl, hg2, hb2⟩; refine ⟨_, rfl, ?_⟩; simp only [Zq]
 obtain ⟨_, _, _, _, _, _, _, _, _, _, hx⟩ := (HD1.out.regh hg2.grow.old).old hb2
 have hput := hx.putO (obs := h.obs) ⟨rows2, hg2.rws, hg2.len, hg2.role, hg2.all⟩
 obtain ⟨hs1, hs2, -⟩ := dhdr_set (j := 1) (v := .slice A2 h.obs.length c2) hx.blk
 have hs1 := hs1 (by omega)
 have HG2 := Zi (HG1.out.trans hb.size hg2.grow)
 have hbb2 := (hb.trans (hb2.mono hb.size)).setCell (p := ⟨pc, 1, none⟩) HPC.out (.slice A2 h.obs.length c2)
 have HDA := Zi hput
 obtain ⟨no, hnoe⟩ : ∃ n, n = h.obs.length := ⟨_, rfl⟩
 rw [<- hnoe] at HDA hbb2 ⊢
 clear hx hput hg2 hb2 hb HC HD1 HG1 hnoe
 iterate 2 refine Zm ?_
 refine wl_storeC rfl 38 _ _ rfl pc 1 (.slice A2 no c2) rfl rfl info38 rfl hs1 hs2 ?_
 rw [put_noneA]
 obtain ⟨W2, hW⟩ : ∃ W, W = w2.setCell ⟨pc, 1, none⟩ (.slice A2 no c2) := ⟨_, rfl⟩
 have HG3 : Hid (Grow w G k2 W2 G2) := Zi ⟨HG2.out.fr.on (by rw [hW]; exact (Keep.cellOne w2 pc 1 (.slice A2 no c2)).size), HG2.out.old, HG2.out.new⟩
 rw [<- hW] at HDA hbb2 ⊢
 have hb := hbb2
 clear hW hs1 hs2 hbb2 HG2
 have HC := Zi (dBuffersG_any k2 HG3.out.fr ((HX.out.regh HG3.out.old).old hb) HNN.out.2 fun b hb => ⟨HFT.out.el b hb, HFT.out.all.elm b hb⟩)
 go_upto_region 3 with fail
 apply Zl
 iterate 2 refine Zm ?_
 refine Zn HC.out ?_; rintro e w3 ⟨A3, c3, rows3, G3, rfl, hg3, hb3⟩; refine ⟨_, rfl, ?_⟩; simp only [Zq]
 have hx := (HDA.out.regh hg3.grow.old).old hb3
 have hput := hx.putBs (bus := h.bus) ⟨rows3, hg3.rws, hg3.len, hg3.role, hg3.all⟩
 obtain ⟨hs1, hs2, -⟩ := dhdr_set (j := 2) (v := .slice A3 h.bus.length c3) hx.blk
 have hs1 := hs1 (by omega)
 have HG4 := Zi (HG3.out.trans hb.size hg3.grow)
 have hbb2 := (hb.trans (hb3.mono hb.size)).setCell (p := ⟨pc, 2, none⟩) HPC.out (.slice A3 h.bus.length c3)
 have HDB := Zi hput
 obtain ⟨nb, hnbe⟩ : ∃ n, n = h.bus.length := ⟨_, rfl⟩
 rw [<- hnbe] at HDB hbb2 ⊢
 clear hx hput hg3 hb3 hb HC HDA HG3 hnbe
 iterate 2 refine Zm ?_
 refine wl_storeC rfl 78 _ _ rfl pc 2 (.slice A3 nb c3) rfl rfl info78 rfl hs1 hs2 ?_
 rw [put_noneA]
 obtain ⟨W3, hW⟩ : ∃ W, W = w3.setCell ⟨pc, 2, none⟩ (.slice A3 nb c3) := ⟨_, rfl⟩
 have HG5 : Hid (Grow w G k2 W3 G3) := Zi ⟨HG4.out.fr.on (by rw [hW]; exact (Keep.cellOne w3 pc 2 (.slice A3 nb c3)).size), HG4.out.old, HG4.out.new⟩
 rw [<- hW] at HDB hbb2 ⊢
 have HB := Zi hbb2
 clear hW hs1 hs2 hbb2 HG4
 obtain ⟨cj, hcj⟩ : ∃ cj : Nat -> Hp, ∀ j, cj j = ⟨h.dei, h.obs, h.bus, h.lev.take j⟩ := ⟨fun j => ⟨h.dei, h.obs, h.bus, h.lev.take j⟩, fun _ => rfl⟩
 have HCJ := Zi hcj
 have HD0 : Hid (DDone W3 G3 k2 pc (cj 0) 0 W3 G3) := Zi (by
  rw [hcj 0]
  exact DDone.calm ⟨_, _, _, _, _, _, _, _, _, _, HDB.out⟩ HG5.out.fr (Below.refl _ _))
 have HMN : Hid (∀ b, Mine G3 k2 b -> w.heap.size <= b) := Zi (fun b hm => by
  rcases Nat.lt_or_ge b w.heap.size with h1 | h1
  ·obtain ⟨r, e, hr⟩ := hm
   rw [HG5.out.old b h1] at e
   exact absurd ⟨r, e, hr⟩ (HNO2.out b)
  ·exact h1)
 clear hcj HDB
 go_upto_region 4 with fail
 apply Zl
 refine Zm ?_
 go_wp2_with fail
 go_loopw [4] (fun i wr => ∃ (j : Nat) (Gj : Gh), j <= nl /\ i = .int .i64 (j : Int) /\ Hid (DDone W3 G3 k2 pc (cj j) 0 wr Gj)) (fun i _ => nl - (intOf i).toNat)
 case atStart => exact ⟨0, G3, by omega, rfl, HD0⟩
 case round =>
  clear HD0
  obtain ⟨j, Gj, hj, rfl, HD⟩ := hrel
  have hbr : Below w.heap.size w wr := Below.keep HB.out HD.out.keep HMN.out
  have hgo : ∀ b, b < w.heap.size -> Gj b = G b := fun b hlt => (HD.out.old b (by have := HB.out.size; omega)).trans (HG5.out.old b hlt)
  have hp := below_look hbr HP.out
  have HBR := Zi hbr
  have HGO := Zi hgo
  clear hbr hgo
  go_upto_region 5 with fail
  by_cases hlt : j < nl
  ·have hltI : (j : Int) < (nl : Int) := by omega
   apply Zl
   iterate 4 refine Zm ?_
   refine Zo rfl (dh3 hp) ?_
   iterate 2 refine Zm ?_
   have hjl : j < h.lev.length := by rw [<- HNL.out]; exact hlt
   obtain ⟨ts, hts⟩ : ∃ ts, h.lev[j]? = some ts := ⟨_, List.getElem?_eq_getElem hjl⟩
   have hh := (HH0.out.regh HGO.out).old HBR.out
   have HPG := Zi hh.rp
   obtain ⟨rowsH, hoH, hlH, hrH, hvH⟩ := hh.lev
   obtain ⟨gl, cur, rfl, -⟩ := hoH.addr (show j < rowsH.length by omega)
   obtain ⟨rowH, hrowH⟩ : ∃ row, rowsH[j]? = some row := ⟨_, List.getElem?_eq_getElem (show j < rowsH.length by omega)⟩
   obtain ⟨tA, tc, rfl, htks⟩ := hvH j ts rowH hts hrowH
   obtain ⟨cA, cc, coA, coc, cbA, cbc, clA, clc, crA, crc, hc⟩ := HD.out.heap
   obtain ⟨rows, ho, hlr, hor, hvr⟩ := hc.lev
   have hpcb := hc.blk
   have hcl : (cj j).lev.length = j := by rw [HCJ.out j]; show (h.lev.take j).length = j; rw [List.length_take]; omega
   rw [hcl] at hpcb hlr
   have hnA : ∀ b r, Gj b = some r -> r ≠ (k2, .lar) -> ¬ clA = some ⟨b, 0, none⟩ := fun b r e hr e2 => by have := hor b e2; rw [e] at this; cases this; exact hr rfl
   have HNP := Zi (hnA p _ hh.rp (by intro e; cases e))
   have HNPC := Zi (hnA pc _ hc.rp (by intro e; cases e))
   have HNGL := Zi (hnA gl _ (hrH gl rfl) (by intro e; cases e; exact HKK.out rfl))
   have HOH := Zi hoH
   have HRH := Zi hrowH
   have HTS := Zi hts
   have HO := Zi ho
   have HLR := Zi hlr
   have HOR := Zi hor
   have HVR := Zi hvr
   have HH := Zi hc
   have HT := Zi htks
   have hpc := hpcb
   have hlen : ts.length <= 800000000000 := HTK.out ts (List.mem_of_getElem? hts)
   obtain ⟨nt, hnt⟩ : ∃ n, n = ts.length := ⟨_, rfl⟩
   rw [<- hnt] at HRH
   have HNT := Zi hnt
   have hbz : Below wr.heap.size wr wr.drew := (Below.refl _ _).drew
   clear hh hoH hlH hrH hvH hrowH htks hc ho hlr hor hvr hcl hnA hts hnt hpcb hjl
   go_upto_region 7 with fail
   refine wp_region_Z (S := fun w' => Keep (fun b => clA = some ⟨b, 0, none⟩) wr w') 14 mixed (Keep.of hbz) (fun hS => ?_)
   refine zm 0 hS ?_; try simp only [Zq]
   refine zm 1 hS ?_; try simp only [Zq]
   refine zm 2 hS ?_; try simp only [Zq]
   refine zv4 (i := 3) rfl (by kernel_rfl) Zg hS rfl (fun w' hw' => ex_one rfl (dh3 (hw'.look hpc HNPC.out))) ?_; try simp only [Zq]
   refine zm 4 hS ?_; try simp only [Zq]
   refine zm 5 hS ?_; try simp only [Zq]
   refine zm 6 hS ?_; try simp only [Zq]
   refine zv4 (i := 7) rfl (by kernel_rfl) Zg hS rfl (fun w' hw' => ex_one rfl (dh3 (hw'.look hp HNP.out))) ?_; try simp only [Zq]
   refine zm 8 hS ?_; try simp only [Zq]
   refine zm 9 hS ?_; try simp only [Zq]
   refine zv4 (i := 10) rfl (by kernel_rfl) Zg hS rfl (fun w' hw' => ex_one rfl (one_of u102d rfl (by have h9 := (HOH.out.keep hw' (fun g e => by cases e; exact HNGL.out)).cell HRH.out (j := 0) (x := .slice tA nt tc) rfl; rwa [show j * 1 + 0 = j by omega] at h9))) ?_; try simp only [Zq]
   refine za_catT (i := 11) (ts := []) (more := ts) HD.out.fr (by kernel_rfl) rfl rfl _ _ rfl rfl (show _ = Value.slice tA ts.length tc by rw [<- HNT.out]; rfl) (DTks.nothing _ _) (HT.out.mono (fun _ h => h) (fun b _ hl => hbz.block b hl)) (by show (0 + ts.length) * 160 <= _; omega) (fun W hW => hS.trans (C' := fun _ => False) (fun b e => e.elim) (Keep.of hW)) ?_
   clear hS
   intro A8 c8 W8 ht8 hb8 hS
   rw [List.nil_append] at ht8
   obtain ⟨l8, hl8⟩ : ∃ l, l = ([] ++ ts).length := ⟨_, rfl⟩
   rw [<- hl8]
   have HL8 : Hid (l8 = ts.length) := Zi (by rw [hl8, List.nil_append])
   clear hl8
   try simp only [Zq]
   have hbz8 := hbz.trans (hb8.mono hbz.size)
   have HT8 := Zi ht8
   clear ht8 hb8
   refine za_new (i := 12) (v := fun q => .slice (some ⟨q, 0, none⟩) 1 1) (by kernel_rfl) rfl rfl (ex_bs90 _ rfl rfl) (fun W hW => hS.trans (C' := fun _ => False) (fun b e => e.elim) (Keep.of hW)) ?_
   clear hS
   intro W9 q9 hbn9 hlq9 hq9 hS
   try simp only [Zq]
   have hb10 := hbz8.trans (hbn9.mono hbz8.size)
   have HT9 := Zi (HT8.out.mono (D' := Imm Gj) (fun _ h => h) (fun b _ hl => hbn9.block b hl))
   have HHz := Zi (HH.out.old hb10)
   have HOz := Zi (HO.out.old hb10)
   have HVz := Zi (fun (i : Nat) (ts : List Tk) (row : Array Value) (e1 : (cj j).lev[i]? = some ts) (e2 : rows[i]? = some row) => by
    obtain ⟨tA, tc, e3, e4⟩ := HVR.out i ts row e1 e2
    exact (⟨tA, tc, e3, e4.mono (fun _ h => h) fun b _ hl => hb10.block b hl⟩ : ∃ tA tc, row = #[.slice tA ts.length tc] /\ DTks W9 (Imm Gj) ts tA tc))
   have hpc10 := below_look hb10 hpc
   have HDn := Zi (HD.out.quiet hb10)
   rw [HL8.out] at hq9
   clear hbn9 hb10 hbz8 hbz HH HO HVR HT8 HD
   refine za_pushL (i := 13) elt90 (by kernel_rfl) rfl rfl _ _ rfl (show _ = Value.slice clA rows.length clc by rw [HLR.out]; rfl) rfl HOz.out hq9 rfl (by simp [Value.oneCell']) (by have := HLR.out; omega) (by have := HLR.out; unfold maxLen; omega) (fun w' hk => hS.trans (C' := fun b => clA = some ⟨b, 0, none⟩) (fun b e => .inl e) hk) ?_
   clear hS
   intro A9 c9 W10 hown hk9 hA9 hS
   rw [HLR.out]
   try simp only [Zq]
   have hpc11 := hk9.look hpc10 HNPC.out
   have hlr2 : rows.length = (cj j).lev.length := by rw [HLR.out, HCJ.out j]; show j = (h.lev.take j).length; rw [List.length_take, <- HNL.out]; omega
   have hd10 := DDone.addL HHz.out HDn.out.fr hlr2 HVz.out hown hk9 HOR.out hA9 HT9.out
   rw [HLR.out] at hd10
   have hcs : ({ cj j with lev := (cj j).lev ++ [ts] } : Hp) = cj (j + 1) := by
    rw [HCJ.out j, HCJ.out (j + 1)]
    show (⟨h.dei, h.obs, h.bus, h.lev.take j ++ [ts]⟩ : Hp) = _
    rw [List.take_add_one, HTS.out]; rfl
   rw [hcs] at hd10
   obtain ⟨nb', hnb'⟩ : ∃ n, n = j + 1 := ⟨_, rfl⟩
   have HDN := Zi (HDn.out.trans hd10)
   obtain ⟨hs1, hs2, -⟩ := dhdr_set (j := 3) (v := .slice A9 (j + 1) c9) hpc11
   have hs1 := hs1 (by omega)
   clear hown hk9 hA9 hd10 HDn HHz HOz HVz HT9 hpc10 hpc11 hq9 hlr2 hcs hnb'
   refine zn 14 hS ?_; try simp only [Zq]
   clear hS
   refine za_done (by kernel_rfl) ?_ _
   clear hp hpc
   go_upto_region 8 with fail
   apply Zl
   iterate 4 refine Zm ?_
   refine wl_storeC rfl 90 _ _ rfl pc 3 (.slice A9 (j + 1) c9) rfl (by first | rfl | (simp; done)) info90 rfl hs1 hs2 ?_
   rw [put_noneA]
   obtain ⟨W12, hW⟩ : ∃ W, W = W10.setCell ⟨pc, 3, none⟩ (.slice A9 (j + 1) c9) := ⟨_, rfl⟩
   rw [<- hW] at HDN ⊢
   clear hs1 hs2 hW
   go_wp2_with fail
   go_roundw
   case rel => exact ⟨j + 1, _, by omega, by go_num, HDN⟩
   case measure => simp [intOf]; omega
  ·have hltI : ¬ (j : Int) < (nl : Int) := by omega
   apply Zl
   iterate 4 refine Zm ?_
   refine Zo rfl (dh3 hp) ?_
   iterate 2 refine Zm ?_
   go_upto_region 9 with fail
   apply Zl
   iterate 2 refine Zm ?_
   go_wp2_with fail
   go_ret
   have hje : cj j = h := by
    rw [HCJ.out j, List.take_of_length_le (by rw [<- HNL.out]; omega)]
   have hd := HD.out
   rw [hje] at hd
   refine ⟨pc, Gj, rfl, hd.heap, ⟨hd.fr, HGO.out, fun b hb => ?_⟩, HBR.out⟩
   by_cases e : b < W3.heap.size
   ·rw [hd.old b e]; exact HG5.out.new b hb
   ·exact hd.new b (by omega)
end Go.Proofs.Ytpamocglecangaa
