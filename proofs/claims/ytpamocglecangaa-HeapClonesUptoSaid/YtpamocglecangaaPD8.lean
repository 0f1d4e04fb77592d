/- The program's Elems. The document's Elems and Set. The document's Set. The document's Put. The document's Append. The document's heap that grows. The document's taken. The document's Make. The document's Array. -/
import Derived.Test.YtpamocglecangaaPD7
import Derived.Test.YtpamocglecangaaPD3
import Derived.Test.YtpamocglecangaaPD5
set_option maxHeartbeats 16000000
set_option maxRecDepth 100000
namespace Go.Proofs.Ytpamocglecangaa
open Go.RowKit Go.Proofs.Ytpamocglecangaa.Nm
set_option linter.unusedSimpArgs false
def elemsP (h : Hp) (v : Va) : Option (List Va) := if arrV h.bus.length v then (match h.bus[v.num.toNat]? with | some b => some b.elems | none => none) else none
def ElemsPost (w : World) (G : Gh) (k p : Nat) (h : Hp) (v : Va) (e : Ending) (w' : World) : Prop := Below w.heap.size w w' /\ ((elemsP h v = none /\ e = .returned (.tuple #[.slice none 0 0, .int .i64 4])) ∨
 ∃ l A c rows, elemsP h v = some l /\ e = .returned (.tuple #[.slice A l.length c, .int .i64 0]) /\ OwnL w' 35 9 A c rows /\ rows.length = l.length /\ (∀ g, A = some ⟨g, 0, none⟩ -> w.heap.size <= g) /\ ∀ (j : Nat) (u : Va) (r : Array Value), l[j]? = some u -> rows[j]? = some r -> VAt w' (Lw w (Imm G)) u r)
theorem Elems_any {G : Gh} {k p : Nat} {h : Hp} {w : World} (hh : HeapAt w G k p h) (hle : ∀ b, b ∈ h.bus -> b.elems.length <= 2000000) {v : Va} {row : Array Value} {D : Nat -> Prop} (hv : VAt w D v row) :
  Calls Try.prog 31 #[.pointer (some ⟨p, 0, none⟩), .agg row] w (ElemsPost w G k p h v) := by
 obtain ⟨oA, oc, bA, bc, m, lA, lc, hh⟩ := hh
 have HH := Zi hh
 have HV := Zi hv
 have HLE := Zi hle
 have hvs := hv.size
 have hp := hh.blk
 have hb := Below.refl w.heap.size w
 clear hh hv hle
 go_enter Try.func31, Try.ntmps31
 go_upto_region 0 with fail
 apply Zl
 have lthpq := heap_lt hp; (with_reducible refine wl_boxV rfl ?_); intro W q hbn hlq hq; replace hp := below_look hbn hp; replace hb := hb.trans (hbn.mono hb.size); clear hbn; simp only [Zq]
 iterate 2 refine Zm ?_
 obtain ⟨bb, hbb⟩ : ∃ b, b = arrV h.bus.length v := ⟨_, rfl⟩
 have hc := array_heap (HH.out.old hb) (HV.out.old hb)
 rw [<- hbb] at hc
 have HC := Zi hc
 have HB := Zi hbb
 clear hc hbb
 go_upto_region 1 with fail
 apply Zl
 refine Zm ?_
 refine Zw rfl (row35 hq hvs) ?_
 refine Zn HC.out ?_; rintro e w7 ⟨rfl, hb7⟩; refine ⟨_, rfl, ?_⟩; simp only [Zq]
 replace hp := below_look hb7 hp; replace hq := below_look hb7 hq; replace hb := hb.trans (hb7.mono hb.size); clear hb7
 refine Zm ?_
 clear HC
 cases bb with
 | false =>
  have HD : Hid (elemsP h v = none) := Zi (by unfold elemsP; rw [<- HB.out]; rfl)
  clear hp hq
  go_upto_region 2 with fail
  apply Zl
  iterate 2 refine Zm ?_
  go_wp2_with fail
  go_ret2
  exact ⟨hb, .inl ⟨HD.out, rfl⟩⟩
 | true =>
  obtain ⟨n, o, -, hn, hnl, ho⟩ := arrV.get HB.out.symm
  have hnlI : (n : Int) < (h.bus.length : Int) := by omega
  have HD : Hid (elemsP h v = some o.elems) := Zi (by unfold elemsP; rw [<- HB.out, if_pos rfl, hn, Int.toNat_natCast, ho])
  have HN := Zi hn
  obtain ⟨trv, A2v, l2v, c2v, A3v, l3v, c3v, hrv⟩ := HV.out.row
  have HRV := Zi hrv
  obtain ⟨g, fA, fc, rfl, hgr, hL, hLV, -⟩ := HH.out.buf ho
  obtain ⟨rows, hro, hrl, hrr, hva⟩ := hLV
  have HL := Zi hL
  have HRL := Zi hrl
  have HVA := Zi hva
  have HB7 := Zi hb
  have hbz : Below w7.heap.size w7 w7.drew := (Below.refl _ _).drew
  have hcc := CloneR_any (hro.old (hb.trans (hbz.mono hb.size))) (fun r hr => by
   obtain ⟨j, hj⟩ := List.mem_iff_getElem?.1 hr
   have hjl := (List.getElem?_eq_some_iff.1 hj).1
   exact (hva j _ r (List.getElem?_eq_getElem (by omega)) hj).one) (by have := HLE.out o (List.mem_of_getElem? ho); omega)
  rw [hrl] at hcc
  have HC := Zi hcc
  clear hn hrv hgr hL hro hrl hrr hva hcc ho
  go_upto_region 3 with fail
  refine wp_region_Z (S := Below w7.heap.size w7) 11 mixed hbz (fun hS => ?_)
  refine zm 0 hS ?_; try simp only [Zq]
  refine zm 1 hS ?_; try simp only [Zq]
  refine zm 2 hS ?_; try simp only [Zq]
  refine zv4 (i := 3) rfl (by kernel_rfl) Zg hS rfl (fun w' hw' => ex_one rfl (h1 (below_look hw' hp))) ?_; try simp only [Zq]
  refine zm 4 hS ?_; try simp only [Zq]
  refine zv4 (i := 5) rfl (by kernel_rfl) Zg hS rfl (fun w' hw' => ex_one rfl (vnN (below_look hw' hq) HRV HN)) ?_; try simp only [Zq]
  refine zm 6 hS ?_; try simp only [Zq]
  refine zm 7 hS ?_; try simp only [Zq]
  refine zv4 (i := 8) rfl (by kernel_rfl) Zg hS rfl (fun w' hw' => ex_one rfl (HL.out w' (HB7.out.trans (hw'.mono HB7.out.size))).e) ?_; try simp only [Zq]
  refine za_call (i := 9) (by kernel_rfl) rfl rfl (fun K hK => ?_); go_simp; refine ⟨_, _, ⟨rfl, rfl⟩, hK _ _ ⟨_, HC.out, ?_⟩⟩; clear hK K; rintro e w11 ⟨A7, c7, rfl, hown7, hA7, hb11⟩
  have hbb := hbz.trans (hb11.mono hbz.size)
  refine ⟨_, rfl, fun _ => hbb, ?_⟩
  rw [HRL.out]
  try simp only [Zq]
  have hS := hbb
  have HOW := Zi hown7
  have hbw := hb.trans (hbb.mono hb.size)
  have HBW := Zi hbw
  have HA7 : Hid (∀ g, A7 = some ⟨g, 0, none⟩ -> w.heap.size <= g) := Zi (fun g e => by have := hA7 g e; have := hb.size; have := hbz.size; omega)
  clear hown7 hA7 hb11 hbb hbw HC hbz
  refine zn 10 hS ?_; try simp only [Zq]
  refine zn 11 hS ?_; try simp only [Zq]
  clear hS hp hq
  refine za_done (by kernel_rfl) ?_ _
  go_wp2_with fail
  go_ret2
  exact ⟨HBW.out, .inr ⟨o.elems, A7, c7, rows, HD.out, rfl, HOW.out, HRL.out, HA7.out, fun j u r e1 e2 => ((HVA.out j u r e1 e2).low : VAt w (Lw w (Imm G)) u r).old HBW.out⟩⟩
theorem hLVvs {w : World} {D D2 : Nat -> Prop} {l : List Va} {A : Option Addr} {c : Nat} {rows : List (Array Value)} (ho : OwnL w 35 9 A c rows) (hl : rows.length = l.length) (hv : ∀ (j : Nat) (v : Va) (row : Array Value), l[j]? = some v -> rows[j]? = some row -> VAt w D v row) (h1 : ∀ b, D b -> D2 b) (h2 : ∀ g, A = some ⟨g, 0, none⟩ -> D2 g) : VsAt w D2 l A l.length c := by
 refine ⟨rfl, by rw [<- hl]; exact ho.cap, ho.max, fun i => rows.getD i #[], fun i v hi => ?_, fun i v hi => ?_⟩
 ·have hil := (List.getElem?_eq_some_iff.1 hi).1
  obtain ⟨g, cur, e, hg, hsz, hall⟩ := ho.addr (i := i) (by omega)
  have hri := List.getElem?_eq_getElem (show i < rows.length by omega)
  refine ⟨g, 0, cur, 35, (0, 0), e, h2 g e, hg, ?_⟩
  show cur.extract (0 + i * 9) (0 + i * 9 + 9) = rows.getD i #[]
  rw [List.getD_eq_getElem?_getD, hri]
  simp only [Option.getD_some, Nat.zero_add]
  exact hall i _ hri
 ·have hil := (List.getElem?_eq_some_iff.1 hi).1
  have hri := List.getElem?_eq_getElem (show i < rows.length by omega)
  show VAt w _ v (rows.getD i #[])
  rw [List.getD_eq_getElem?_getD, hri]
  exact (hv i v _ hi hri).weak h1
def DElemsPost (w : World) (h : Hp) (v : Va) (e : Ending) (w' : World) : Prop := Below w.heap.size w w' /\ ((elemsP h v = none /\ e = .returned (.tuple #[.slice none 0 0, .int .i64 4])) ∨
 ∃ l A c, elemsP h v = some l /\ e = .returned (.tuple #[.slice A l.length c, .int .i64 0]) /\ VsAt w' (fun b => w.heap.size <= b) l A l.length c)
theorem dElems_any {G : Gh} {k p nr : Nat} {h : Hp} {w : World} (hh : DHeapAt w G k p h nr) (hle : ∀ b, b ∈ h.bus -> b.elems.length <= 1000000 /\ ∀ u, u ∈ b.elems -> nodesF u <= 1000000) {v : Va} {row : Array Value} {D : Nat -> Prop} (hv : VAt w D v row) :
  Calls Try.prog 91 #[.pointer (some ⟨p, 0, none⟩), .agg row] w (DElemsPost w h v) := by
 obtain ⟨dA, dc, oA, oc, bA, bc, lA, lc, rA, rc, hh⟩ := hh
 obtain ⟨trv, A2v, l2v, c2v, A3v, l3v, c3v, hrv⟩ := hv.row
 have HRV := Zi hrv
 have HH := Zi hh
 have HV := Zi hv
 have HLE := Zi hle
 have hvs := hv.size
 have hh0 := hh.blk
 have hb := Below.refl w.heap.size w
 clear hh hv hle hrv
 have hp := hh0
 clear hh0
 go_enter Try.func91, Try.ntmps91
 go_upto_region 0 with fail
 apply Zl
 have lthpq := heap_lt hp; (with_reducible refine wl_boxV rfl ?_); intro W q hbn hlq hq; replace hp := below_look hbn hp; replace hb := hb.trans (hbn.mono hb.size); clear hbn; simp only [Zq]
 iterate 2 refine Zm ?_
 have hao := arrV_of (h := h) (v := v)
 obtain ⟨bo, hbo⟩ : ∃ b, b = ofV h.obs.length h.bus.length v := ⟨_, rfl⟩
 have hc := dof_heap (HH.out.old hb) (HV.out.old hb)
 rw [<- hbo] at hc hao
 have HC := Zi hc
 clear hc hbo
 cases bo with
 | false =>
  have HD : Hid (elemsP h v = none) := Zi (by unfold elemsP; rw [hao]; rfl)
  clear hao
  go_upto_region 1 with fail
  apply Zl
  refine Zm ?_
  refine Zw rfl (row35 hq hvs) ?_
  refine Zn HC.out ?_; rintro e w7 ⟨rfl, hb7⟩; refine ⟨_, rfl, ?_⟩; simp only [Zq]
  replace hp := below_look hb7 hp; replace hq := below_look hb7 hq; replace hb := hb.trans (hb7.mono hb.size); clear hb7
  iterate 2 refine Zm ?_
  iterate 3 ((first | ((with_reducible refine wl_skipU ?_ ?_ ?_); exact rfl; exact rfl) | ((with_reducible refine wl_skip ?_ ?_); exact rfl; simp only [Zq])))
  refine Zm ?_
  clear HC hp hq
  go_upto_region 2 with fail
  apply Zl
  iterate 2 refine Zm ?_
  go_wp2_with fail
  go_ret2
  exact ⟨hb, .inl ⟨HD.out, rfl⟩⟩
 | true =>
  by_cases h8 : v.kind = 8
  ·have e8 : (v.kind != 8) = false := by simp [h8]
   have ha : arrV h.bus.length v = true := by rw [hao, h8]; rfl
   obtain ⟨n, o, -, hn, hnl, ho⟩ := arrV.get ha
   have hnlI : (n : Int) < (h.bus.length : Int) := by omega
   have HD : Hid (elemsP h v = some o.elems) := Zi (by unfold elemsP; rw [ha, if_pos rfl, hn, Int.toNat_natCast, ho])
   have HN := Zi hn
   have HOO := Zi ho
   have hlo := HLE.out o (List.mem_of_getElem? ho)
   clear hao h8 ha hn ho
   go_upto_region 1 with fail
   apply Zl
   refine Zm ?_
   refine Zw rfl (row35 hq hvs) ?_
   refine Zn HC.out ?_; rintro e w7 ⟨rfl, hb7⟩; refine ⟨_, rfl, ?_⟩; simp only [Zq]
   replace hp := below_look hb7 hp; replace hq := below_look hb7 hq; replace hb := hb.trans (hb7.mono hb.size); clear hb7
   iterate 3 refine Zm ?_
   refine Zo rfl (vk (by assumption) (by assumption)) ?_
   iterate 2 refine Zm ?_
   clear HC
   obtain ⟨g, fA, fc, rfl, hgr, hL, hLV, -⟩ := (HH.out.old hb).buf HOO.out
   have HL := Zi hL
   have hbz : Below w7.heap.size w7 w7.drew := (Below.refl _ _).drew
   obtain ⟨rows, hro, hrl, hrr, hva⟩ := hLV
   have hvsl := hLVvs (D2 := fun _ => True) hro hrl hva (fun _ _ => trivial) (fun _ _ => trivial)
   have HC := Zi (CopyValues_any o.elems hlo.1 hlo.2 fA o.elems.length fc w7.drew _ (hvsl.old hbz))
   clear hgr hL hro hrl hrr hva hvsl hlo
   go_upto_region 3 with fail
   refine wp_region_Z (S := Below w7.heap.size w7) 11 mixed hbz (fun hS => ?_)
   refine zm 0 hS ?_; try simp only [Zq]
   refine zm 1 hS ?_; try simp only [Zq]
   refine zm 2 hS ?_; try simp only [Zq]
   refine zv4 (i := 3) rfl (by kernel_rfl) Zg hS rfl (fun w' hw' => ex_one rfl (dh2 (below_look hw' hp))) ?_; try simp only [Zq]
   refine zm 4 hS ?_; try simp only [Zq]
   refine zv4 (i := 5) rfl (by kernel_rfl) Zg hS rfl (fun w' hw' => ex_one rfl (vnN (below_look hw' hq) HRV HN)) ?_; try simp only [Zq]
   refine zm 6 hS ?_; try simp only [Zq]
   refine zm 7 hS ?_; try simp only [Zq]
   refine zv4 (i := 8) rfl (by kernel_rfl) Zg hS rfl (fun w' hw' => ex_one rfl (HL.out w' hw').e) ?_; try simp only [Zq]
   refine za_call (i := 9) (by kernel_rfl) rfl rfl (fun K hK => ?_); go_simp; refine ⟨_, _, ⟨rfl, rfl⟩, hK _ _ ⟨_, HC.out, ?_⟩⟩; clear hK K; rintro e w11 ⟨A7, c7, rows7, rfl, ho7, hl7, hA7, hv7, hb11⟩
   have hbb := hbz.trans (hb11.mono hbz.size)
   refine ⟨_, rfl, fun _ => hbb, ?_⟩
   try simp only [Zq]
   have hS := hbb
   have hvs7 := NewC.vs ho7 hl7 hA7 hv7
   have HVS := Zi (hvs7.weak (D' := fun b => w.heap.size <= b) fun b (h9 : w7.drew.heap.size <= b) => by have := hb.size; have := hbz.size; omega)
   have hbw := hb.trans (hbb.mono hb.size)
   have HBW := Zi hbw
   clear ho7 hl7 hA7 hv7 hvs7 hb11 hbb hbw HC hbz
   refine zn 10 hS ?_; try simp only [Zq]
   refine zn 11 hS ?_; try simp only [Zq]
   clear hS hp hq
   refine za_done (by kernel_rfl) ?_ _
   go_wp2_with fail
   go_ret2
   exact ⟨HBW.out, .inr ⟨o.elems, A7, c7, HD.out, rfl, HVS.out⟩⟩
  ·have e8 : (v.kind != 8) = true := by simp [h8]
   have HD : Hid (elemsP h v = none) := Zi (by unfold elemsP; rw [hao, show (v.kind == 8) = false by simp [h8]]; rfl)
   clear hao h8
   go_upto_region 1 with fail
   apply Zl
   refine Zm ?_
   refine Zw rfl (row35 hq hvs) ?_
   refine Zn HC.out ?_; rintro e w7 ⟨rfl, hb7⟩; refine ⟨_, rfl, ?_⟩; simp only [Zq]
   replace hp := below_look hb7 hp; replace hq := below_look hb7 hq; replace hb := hb.trans (hb7.mono hb.size); clear hb7
   iterate 3 refine Zm ?_
   refine Zo rfl (vk (by assumption) (by assumption)) ?_
   iterate 2 refine Zm ?_
   clear HC hp hq
   go_upto_region 2 with fail
   apply Zl
   iterate 2 refine Zm ?_
   go_wp2_with fail
   go_ret2
   exact ⟨hb, .inl ⟨HD.out, rfl⟩⟩
section
variable {md : Region.Mode} {ops : Array Oper} {Q : Exit -> Act -> World -> Prop} {S : World -> Prop} {c fuel : Nat} {listed : Array Bool} {a : Act} {w : World} {i : Nat} {oi : Oper}
theorem za_storeN (hr : Region.ready md ops listed = [i]) (ho : ops[i]? = some oi) (hgd : Region.wanted oi (yielded ops a.tmps) = true) (ty : TypeId) (x y : Operand) (hop : oi.op = .store ty x y) {g o n : Nat} {cs row : Array Value} {ty2 : TypeId} (hi : (Try.prog.info? ty).map (·.size) = some n)
  (hx : a.eval x = .pointer (some ⟨g, o, none⟩)) (hy : a.eval y = .agg row) (hrs : row.size = n) (h1 : row.all (·.oneCell') = true) (hg : w.heap[g]? = some (.cells cs ty2 (0, 0))) (hf : o + row.size <= cs.size) (hS : i ≠ c -> S (w.setRow g (putN cs o row)))
  (h : wpAnyZ Try.prog md ops Q S c fuel (listed.setIfInBounds i true) (a.put oi.dst undef) (w.setRow g (putN cs o row))) : wpAnyZ Try.prog md ops Q S c (fuel + 1) listed a w := by
 refine wpAnyZ_one hr ?_
 unfold wpOp
 simp only [ho]
 rw [if_pos hgd]
 exact .inl (wp_storeN ty x y hop hi hx hy hrs h1 hg hf ⟨hS, h⟩)
end
theorem DDone.row {w W : World} {G G1 : Gh} {k p nr : Nat} {h : Hp} (d : DDone w G k p h nr W G1) {dA : Option Addr} {dc : Nat} {oA : Option Addr} {oc : Nat} {bA : Option Addr} {bc : Nat} {lA : Option Addr} {lc : Nat} {rA : Option Addr} {rc g : Nat} {h' : Hp} {cs : Array Value} (hg : Mine G1 k g) (hh : DAt (W.setRow g cs) G1 k p h' nr dA dc oA oc bA bc lA lc rA rc) : DDone w G k p h' nr (W.setRow g cs) G1 :=
 d.trans ⟨⟨_, _, _, _, _, _, _, _, _, _, hh⟩, d.fr.on (by simp), fun b _ => rfl, fun b hb => .inl (d.fr b hb), (Keep.refl _ W).trans (C' := fun b => b = g) (fun b e => .inl (by rw [e]; exact hg)) (Keep.rowOne W g cs)⟩
theorem dSet_any {G : Gh} {k p nr : Nat} {h : Hp} {w : World} (hh : DHeapAt w G k p h nr) (hf : Fr w G) (x f : Int) (hx : (Lit.int .i64 x).wf = true) (hfw : (Lit.int .i64 f).wf = true) {v : Va} {row : Array Value} (hv : VAt w (Imm G) v row) (hnd : nodesF v <= 1000000) :
  Calls Try.prog 51 #[.pointer (some ⟨p, 0, none⟩), .int .i64 x, .int .i64 f, .agg row] w (DValErr w G k p nr (setP h x f v)) := by
 have HWF := Zi (And.intro hx hfw)
 have HND := Zi hnd
 clear hx hfw hnd
 have HX := Zi hh
 have HF := Zi hf
 have HV := Zi hv
 have hvs := hv.size
 have hv1 := hv.one
 have hzs : zrow.size = 9 := rfl
 have zone : zrow.all (·.oneCell') = true := (zero_va w (Imm G)).one
 have hb := Below.refl w.heap.size w
 clear hh hf hv
 go_enter Try.func51, Try.ntmps51
 go_upto_region 0 with fail
 apply Zl
 (with_reducible refine wl_boxV rfl ?_); intro W q hbn hlq hq; replace hb := hb.trans (hbn.mono hb.size); clear hbn; simp only [Zq]
 have lthqr := heap_lt hq; (with_reducible refine wl_allV ?_); intro W2 r hbn hlr hr; replace hq := below_look hbn hq; replace hb := hb.trans (hbn.mono hb.size); clear hbn; simp only [Zq]
 refine Zm ?_
 have hrl : w.heap.size <= r := by omega
 have hql := heap_lt hq
 have HRl := Zi hrl
 have hqG : G q = none := HF.out q (by omega)
 have HQ : Hid (¬ Mine (mark G k r) k q) := Zi (by rintro ⟨x, e, -⟩; unfold mark at e; rw [if_neg (by omega), hqG] at e; cases e)
 have HDn := Zi (DDone.marked HX.out HF.out hb hrl (heap_lt hr))
 have HM := Zi (mark_same G k r)
 have HNM := Zi (mark_not G k r)
 have hvv := HDn.out.va HV.out
 clear HV
 have HV := Zi hvv
 clear hvv HX HF hb hrl hql hqG
 obtain ⟨bb, hbb⟩ : ∃ b, b = ofV h.obs.length h.bus.length v := ⟨_, rfl⟩
 have hc := dof_done HDn.out.heap HV.out
 rw [<- hbb] at hc
 have HC := Zi hc
 have HB := Zi hbb
 clear hc hbb
 go_upto_region 1 with fail
 apply Zl
 refine Zm ?_
 refine Zw rfl (row35 hq hvs) ?_
 refine Zn HC.out ?_; rintro e w7 ⟨rfl, hb7⟩; refine ⟨_, rfl, ?_⟩; simp only [Zq]
 replace HDn := Zi (HDn.out.quiet hb7); replace HV := Zi (HV.out.old hb7); replace hq := below_look hb7 hq; replace hr := below_look hb7 hr; clear hb7
 refine Zm ?_
 clear HC
 cases bb with
 | false =>
  have HD : Hid (setP h x f v = (h, va0, 4)) := Zi (by unfold setP; rw [<- HB.out]; rfl)
  go_upto_region 2 with fail
  apply Zl
  refine wl_w rfl (build35 _ _ rfl _) ?_
  simp only [Zq]
  (with_reducible refine wl_putV rfl zone hzs rfl rfl hr ?_); rw [put_noneA]; intro W10 hbx hsz hkx hnx
  replace HDn := Zi (HDn.out.put HM.out HRl.out (Keep.of_put hbx hsz hkx))
  clear hr hbx hsz hkx
  have hr := hnx
  clear hnx
  refine Zm ?_
  go_wp2_with fail
  refine bodyPost_ret (res35t rfl _ _ r rfl rfl rfl hr) rfl ?_
  rw [HD.out]
  exact ⟨_, zrow, rfl, zero_va _ _, HDn.out⟩
 | true =>
  obtain ⟨pe, hpe⟩ : ∃ z, z = placeE h x f := ⟨_, rfl⟩
  have hc := dplace_done HDn.out.heap x f HWF.out.1 HWF.out.2
  rw [<- hpe] at hc
  have HC := Zi hc
  have HPE := Zi hpe
  clear hc hpe
  go_upto_region 3 with fail
  apply Zl
  iterate 3 refine Zm ?_
  refine Zn HC.out ?_; rintro e w8 ⟨rfl, hb8⟩; refine ⟨_, rfl, ?_⟩; simp only [Zq]
  replace HDn := Zi (HDn.out.quiet hb8); replace HV := Zi (HV.out.old hb8); replace hq := below_look hb8 hq; replace hr := below_look hb8 hr; clear hb8
  refine Zm ?_
  clear HC
  by_cases c0 : pe = 0
  ·subst c0
   obtain ⟨n, j, o, old, rfl, rfl, ho, hold, -⟩ := place0 HPE.out.symm
   have HD : Hid (setP h (n : Int) (j : Int) v = ({ h with obs := h.obs.set n { o with fields := o.fields.set j v } }, old, 0)) := Zi (by unfold setP; rw [<- HB.out, <- HPE.out]; simp [ho, hold])
   have hjl := (List.getElem?_eq_some_iff.1 hold).1
   have hnl := (List.getElem?_eq_some_iff.1 ho).1
   have hnlI : (n : Int) < (h.obs.length : Int) := by omega
   have hjlI : (j : Int) < (o.fields.length : Int) := by omega
   obtain ⟨dA, dc, oA, oc, bA, bc, lA, lc, rA, rc, hh⟩ := HDn.out.heap
   obtain ⟨g, tr0, fA, fc, rfl, hgr, hL, -, hLV, hun⟩ := hh.obj ho
   obtain ⟨fb, old', rowo, rfl, hfb, hold', hova, hrow⟩ := hLV.at hjl
   rw [hold] at hold'; cases hold'
   have HL := Zi hL
   have HOO := Zi ho
   have HH := Zi hh
   have HLV := Zi hLV
   have HFB := Zi hfb
   have HRO := Zi hrow
   have HOV := Zi hova
   have hos := hova.size
   have ho1 := hova.one
   have hp := hh.blk
   clear hL hLV hun hfb hrow hova hh ho hold
   have hzz := Below.refl w8.heap.size w8
   go_upto_region 6 with fail
   apply Zl
   iterate 3 refine Zm ?_
   refine Zo rfl (dh1 hp) ?_
   iterate 3 refine Zm ?_
   refine Zo rfl ((HL.out _ (Below.refl _ _)).f) ?_
   iterate 2 refine Zm ?_
   refine Zw rfl (HRO.out _ (Below.refl _ _)) ?_
   (with_reducible refine wl_allV ?_); intro W5 q5 hbn hlq5 hq5; replace hzz := hzz.trans (hbn.mono hzz.size); clear hbn; simp only [Zq]
   (with_reducible refine wl_putV hos ho1 rfl rfl rfl hq5 ?_); rw [put_noneA]; intro W6 hbx hsz hkx hnx; replace hzz := hbx _ _ (by omega) hzz; clear hq5; have hq5 := hnx; clear hnx
   clear hbx hkx hsz
   have HQ5 : Hid (¬ Mine (mark G k r) k q5) := Zi (fun hm => by obtain ⟨z, e, -⟩ := hm; rw [HDn.out.fr q5 (by omega)] at e; cases e)
   have HL9 := Zi (fun w' hw => HL.out w' (hzz.trans (Below.mono hw hzz.size)))
   replace HDn := Zi (HDn.out.quiet hzz)
   replace HV := Zi (HV.out.old hzz)
   replace HOV := Zi (HOV.out.old hzz)
   replace HH := Zi (HH.out.old hzz)
   replace HLV := Zi (HLV.out.moved (Keep.of (C := fun _ => False) hzz) (fun b e => e.elim) (fun _ _ => rfl))
   replace hp := below_look hzz hp; replace hq := below_look hzz hq; replace hr := below_look hzz hr
   clear HL HRO hzz
   have hbz : Below W6.heap.size W6 W6.drew := (Below.refl _ _).drew
   have HC := Zi (CopyValue_any v HND.out W6.drew _ _ (HV.out.old hbz))
   go_upto_region 7 with fail
   refine wp_region_Z (S := Below W6.heap.size W6) 12 mixed hbz (fun hS => ?_)
   refine zm 0 hS ?_; try simp only [Zq]
   refine zm 1 hS ?_; try simp only [Zq]
   refine zm 2 hS ?_; try simp only [Zq]
   refine zv4 (i := 3) rfl (by kernel_rfl) Zg hS rfl (fun w' hw' => ex_one rfl (dh1 (below_look hw' hp))) ?_; try simp only [Zq]
   refine zm 4 hS ?_; try simp only [Zq]
   refine zm 5 hS ?_; try simp only [Zq]
   refine zm 6 hS ?_; try simp only [Zq]
   refine zv4 (i := 7) rfl (by kernel_rfl) Zg hS rfl (fun w' hw' => ex_one rfl (HL9.out w' hw').f) ?_; try simp only [Zq]
   refine zm 8 hS ?_; try simp only [Zq]
   refine zv4 (i := 9) rfl (by kernel_rfl) Zg hS rfl (fun w' hw' => ex_row rfl (row35 (below_look hw' hq) hvs)) ?_; try simp only [Zq]
   refine za_call (i := 10) (by kernel_rfl) rfl rfl (fun K hK => ?_); go_simp; refine ⟨_, _, ⟨rfl, rfl⟩, hK _ _ ⟨_, HC.out, ?_⟩⟩; clear hK K; rintro e w10 ⟨row10, rfl, hv10, hb11⟩
   have hb10 := hbz.trans (hb11.mono hbz.size)
   refine ⟨_, rfl, fun _ => hb10, ?_⟩
   try simp only [Zq]
   have hS := hb10
   have hvs10 := hv10.size
   have hv110 := hv10.one
   have hvn : VAt w10 (Imm (mark G k r)) v row10 := hv10.weak fun b (h9 : W6.drew.heap.size <= b) => HDn.out.fr b (by have := hbz.size; omega)
   refine zn 11 hS ?_; try simp only [Zq]
   have hf1 := (HL9.out w10 hb10).f
   replace HDn := Zi (HDn.out.quiet hb10)
   replace HOV := Zi (HOV.out.old hb10)
   replace HH := Zi (HH.out.old hb10)
   replace HLV := Zi (HLV.out.moved (Keep.of (C := fun _ => False) hb10) (fun b e => e.elim) (fun _ _ => rfl))
   have hr10 := below_look hb10 hr
   have hq10 := below_look hb10 hq5
   obtain ⟨cur, hcur, hfit, hlp⟩ := HLV.out.put hjl hvn
   obtain ⟨g2, tr2, fA2, fc2, e2, -, hL2, -, -, hun2⟩ := HH.out.obj HOO.out
   cases e2
   have e3 := one_eq hf1 (hL2 w10 (Below.refl _ _)).f
   cases e3
   have hset := HH.out.setF (o' := { o with fields := o.fields.set j v }) HOO.out rfl (f := fb) (fc := fc) hun2 HFB.out (by simp) rfl hlp
   have HDN := Zi (HDn.out.row ⟨_, HFB.out, by simp⟩ hset)
   have hk := Keep.rowOne w10 fb (putN cur (j * 9) row10)
   have hrf : ¬ r = fb := fun e => by have h1 := HFB.out; rw [<- e, HM.out] at h1; cases h1
   have hqf : ¬ q5 = fb := fun e => HQ5.out ⟨.fld n, by rw [e]; exact HFB.out, by simp⟩
   have HOV2 := Zi (HOV.out.keep hk (fun b hb e => by unfold Imm at hb; rw [e, HFB.out] at hb; cases hb))
   have hr2 := hk.look hr10 hrf
   have hq2 := hk.look hq10 hqf
   clear hset hun2 hL2 hf1 hk hlp HDn HH HLV HOV HV HC hv10 hvn hb10 hb11 hbz
   refine za_storeN (i := 12) (by kernel_rfl) rfl rfl 35 _ _ rfl info35 rfl rfl hvs10 hv110 hcur hfit (fun h => absurd rfl h) ?_
   clear hS
   refine za_done (by kernel_rfl) ?_ _
   clear hr hq5 hq hp hr10 hq10
   have hr := hr2
   have hq5 := hq2
   clear hr2 hq2 hcur hfit hrf hqf
   obtain ⟨W12, hW⟩ : ∃ W, W = w10.setRow fb (putN cur (j * 9) row10) := ⟨_, rfl⟩
   rw [<- hW] at HDN HOV2 hr hq5 ⊢
   clear hW
   go_upto_region 8 with fail
   apply Zl
   refine Zw rfl (row35 hq5 hos) ?_
   (with_reducible refine wl_putV hos ho1 hzs rfl rfl hr ?_); rw [put_noneA]; intro W13 hbx hsz hkx hnx
   have HK12 := Zi (Keep.of_put hbx hsz hkx)
   clear hbx hsz hkx hr
   refine Zm ?_
   go_wp2_with fail
   refine bodyPost_ret (res35t rfl _ _ r rfl rfl hos hnx) rfl ?_
   rw [HD.out]
   exact ⟨_, _, rfl, HOV2.out.put HM.out HK12.out, HDN.out.put HM.out HRl.out HK12.out⟩
  ·have HD : Hid (setP h x f v = (h, va0, pe)) := Zi (by unfold setP; rw [<- HB.out, if_pos rfl, <- HPE.out, if_neg c0])
   have h0b : (pe != 0) = true := by simp [c0]
   clear c0
   go_upto_region 5 with fail
   apply Zl
   refine wl_w rfl (build35 _ _ rfl _) ?_
   simp only [Zq]
   refine Zm ?_
   (with_reducible refine wl_putV rfl zone hzs rfl rfl hr ?_); rw [put_noneA]; intro W10 hbx hsz hkx hnx
   replace HDn := Zi (HDn.out.put HM.out HRl.out (Keep.of_put hbx hsz hkx))
   clear hr hbx hsz hkx
   have hr := hnx
   clear hnx
   refine Zm ?_
   go_wp2_with fail
   refine bodyPost_ret (res35t rfl _ _ r rfl rfl rfl hr) rfl ?_
   rw [HD.out]
   exact ⟨_, zrow, rfl, zero_va _ _, HDn.out⟩
open Go.RowKit Go.Proofs.Ytpamocglecangaa.Nm
set_option linter.unusedSimpArgs false
theorem putN_whole {cs row : Array Value} (h : row.size = cs.size) : putN cs 0 row = row := by
 apply Array.ext_getElem?
 intro m
 by_cases hm : m < row.size
 ·have := putN_in (cs := cs) (row := row) (o := 0) (m := m) (by omega) hm
  rwa [Nat.zero_add] at this
 ·rw [Array.getElem?_eq_none (by rw [putN_size (by omega)]; omega), Array.getElem?_eq_none (by omega)]
theorem dchanged_done {w : World} {G : Gh} {k p nr : Nat} {h : Hp} (hh : DHeapAt w G k p h nr) {v x : Va} {D : Nat -> Prop} {row rowx : Array Value} (hv : VAt w D v row) (hx : VAt w D x rowx) : Calls Try.prog 110 #[.pointer (some ⟨p, 0, none⟩), .agg row, .agg rowx] w fun e w' => e = .returned (.int .i64 (aloneE h v x)) /\ Below w.heap.size w w' := by
 obtain ⟨dA, dc, oA, oc, bA, bc, lA, lc, rA, rc, hh⟩ := hh
 exact dchanged_any hh hv hx
theorem dPut_any {G : Gh} {k p nr : Nat} {h : Hp} {w : World} (hh : DHeapAt w G k p h nr) (hf : Fr w G) (f : Int) {v x : Va} {row rowx : Array Value} (hv : VAt w (Imm G) v row) (hx : VAt w (Imm G) x rowx) (hnd : nodesF x <= 1000000) :
  Calls Try.prog 93 #[.pointer (some ⟨p, 0, none⟩), .agg row, .int .i64 f, .agg rowx] w (DValErr w G k p nr (putP h v f x)) := by
 have HX := Zi hh
 have HF := Zi hf
 have HV := Zi hv
 have HW := Zi hx
 have HND := Zi hnd
 have hvs := hv.size
 have hv1 := hv.one
 have hxs := hx.size
 have hx1 := hx.one
 have hzs : zrow.size = 9 := rfl
 have zone : zrow.all (·.oneCell') = true := (zero_va w (Imm G)).one
 have hb := Below.refl w.heap.size w
 clear hh hf hv hx hnd
 go_enter Try.func93, Try.ntmps93
 go_upto_region 0 with fail
 apply Zl
 (with_reducible refine wl_boxV rfl ?_); intro W q hbn hlq hq; replace hb := hb.trans (hbn.mono hb.size); clear hbn; simp only [Zq]
 have lthqq2 := heap_lt hq; (with_reducible refine wl_boxV rfl ?_); intro W1 q2 hbn hlq2 hq2; replace hq := below_look hbn hq; replace hb := hb.trans (hbn.mono hb.size); clear hbn; simp only [Zq]
 have lthqr := heap_lt hq; have lthq2r := heap_lt hq2; (with_reducible refine wl_allV ?_); intro W2 r hbn hlr hr; replace hq := below_look hbn hq; replace hq2 := below_look hbn hq2; replace hb := hb.trans (hbn.mono hb.size); clear hbn; simp only [Zq]
 refine Zm ?_
 have hrl : w.heap.size <= r := by omega
 have HRl := Zi hrl
 have HDn := Zi (DDone.marked HX.out HF.out hb hrl (heap_lt hr))
 have HM := Zi (mark_same G k r)
 have hvv := HDn.out.va HV.out
 have hww := HDn.out.va HW.out
 clear HV HW
 have HV := Zi hvv
 have HW := Zi hww
 clear hvv hww HX HF hb hrl
 obtain ⟨pe, hpe⟩ : ∃ z, z = aloneE h v x := ⟨_, rfl⟩
 have hc := dchanged_done HDn.out.heap HV.out HW.out
 rw [<- hpe] at hc
 have HC := Zi hc
 have HPE := Zi hpe
 clear hc hpe
 go_upto_region 1 with fail
 apply Zl
 refine Zm ?_
 refine Zw rfl (row35 hq hvs) ?_
 refine Zw rfl (row35 hq2 hxs) ?_
 refine Zn HC.out ?_; rintro e w8 ⟨rfl, hb8⟩; refine ⟨_, rfl, ?_⟩; simp only [Zq]
 replace HW := Zi (HW.out.old hb8)
 replace HDn := Zi (HDn.out.quiet hb8); replace HV := Zi (HV.out.old hb8); replace hq := below_look hb8 hq; replace hq2 := below_look hb8 hq2; replace hr := below_look hb8 hr; clear hb8
 refine Zm ?_
 clear HC
 by_cases c0 : pe = 0
 ·subst c0
  obtain ⟨n, o, hn, ho, -⟩ := alone0 HPE.out.symm
  have HD : Hid (putP h v f x = (if 0 <= f /\ f < (o.elems.length : Int) then (match o.elems[f.toNat]? with | some old => ({ h with bus := h.bus.set n { o with elems := o.elems.set f.toNat x } }, old, (0 : Int)) | none => (h, va0, (1 : Int))) else (h, va0, (1 : Int)))) := Zi (by unfold putP; rw [<- HPE.out, if_pos rfl, hn, Int.toNat_natCast, ho]; rfl)
  have hnl := (List.getElem?_eq_some_iff.1 ho).1
  have hnlI : (n : Int) < (h.bus.length : Int) := by omega
  obtain ⟨dA, dc, oA, oc, bA, bc, lA, lc, rA, rc, hh⟩ := HDn.out.heap
  obtain ⟨g, fA, fc, rfl, hgr, hL, hLV, -⟩ := hh.buf ho
  have HL := Zi hL
  have HOO := Zi ho
  have HH := Zi hh
  have HLV := Zi hLV
  have HN := Zi hn
  have hp := hh.blk
  obtain ⟨trv, A2v, l2v, c2v, A3v, l3v, c3v, hrv⟩ := HV.out.row
  have HRV := Zi hrv
  clear hL hLV hh ho hrv hn
  go_upto_region 4 with fail
  by_cases c1 : 0 <= f /\ f < (o.elems.length : Int)
  ·obtain ⟨j, rfl⟩ : ∃ j : Nat, f = (j : Int) := ⟨f.toNat, by omega⟩
   have hjl : j < o.elems.length := by omega
   have hjlI : (j : Int) < (o.elems.length : Int) := by omega
   have c2 : ¬ (j : Int) < 0 := by omega
   have c3 : ¬ (j : Int) ≥ (o.elems.length : Int) := by omega
   obtain ⟨fb, old, rowo, rfl, hfb, hold, hova, hrow⟩ := HLV.out.at hjl
   have HD2 : Hid (putP h v (j : Int) x = ({ h with bus := h.bus.set n { o with elems := o.elems.set j x } }, old, 0)) := Zi (by rw [HD.out, if_pos c1]; simp [hold])
   have HFB := Zi hfb
   have HRO := Zi hrow
   have HOV := Zi hova
   have hos := hova.size
   have ho1 := hova.one
   clear HD c1 hfb hold hova hrow
   refine wp_region_belowAll mixed (by kernel_rfl) ?_
   iterate 7 refine Zt ?_
   refine Zv rfl (fun w' hw' => dh2 (below_look hw' (by assumption))) ?_
   refine Zt ?_
   refine Zv rfl (fun w' hw' => vnN (below_look hw' (by assumption)) (by assumption) (by assumption)) ?_
   iterate 2 refine Zt ?_
   refine Zv rfl (fun w' hw' => (HL.out w' hw').e) ?_
   iterate 3 refine Zt ?_
   intro w9 hb9
   have hbz : Below w9.heap.size w9 w9.drew := (Below.refl _ _).drew
   have hp9 := below_look hb9 hp
   have hq9 := below_look hb9 hq
   have hr9 := below_look hb9 hr
   have hq29 := below_look hb9 hq2
   go_upto_region 6 with fail
   refine wp_region_Z (S := Below w9.heap.size w9) 13 mixed hbz (fun hS => ?_)
   refine zm 0 hS ?_; try simp only [Zq]
   refine zm 1 hS ?_; try simp only [Zq]
   refine zm 2 hS ?_; try simp only [Zq]
   refine zv4 (i := 3) rfl (by kernel_rfl) Zg hS rfl (fun w' hw' => ex_one rfl (dh2 (below_look hw' hp9))) ?_; try simp only [Zq]
   refine zm 4 hS ?_; try simp only [Zq]
   refine zv4 (i := 5) rfl (by kernel_rfl) Zg hS rfl (fun w' hw' => ex_one rfl (vnN (below_look hw' hq9) HRV HN)) ?_; try simp only [Zq]
   refine zm 6 hS ?_; try simp only [Zq]
   refine zm 7 hS ?_; try simp only [Zq]
   refine zv4 (i := 8) rfl (by kernel_rfl) Zg hS rfl (fun w' hw' => ex_one rfl (HL.out w' (hb9.trans (hw'.mono hb9.size))).e) ?_; try simp only [Zq]
   refine zm 9 hS ?_; try simp only [Zq]
   refine zm 10 hS ?_; try simp only [Zq]
   refine zv4 (i := 11) rfl (by kernel_rfl) Zg hS rfl (fun w' hw' => ex_row rfl (HRO.out w' (hb9.trans (hw'.mono hb9.size)))) ?_; try simp only [Zq]
   refine za_new (i := 12) (v := fun q => .pointer (some ⟨q, 0, none⟩)) (by kernel_rfl) rfl rfl (ex_allV rfl _ _) (fun W hW => hS.trans (hW.mono hS.size)) ?_
   have hs9 := hS.size
   clear hS
   intro W5 q5 hbn hlq5 hq5 hS
   try simp only [Zq]
   refine za_storeN (i := 13) (by kernel_rfl) rfl rfl 35 _ _ rfl info35 rfl rfl hos ho1 hq5 (by rw [hos, hzs]; omega) (fun h => absurd rfl h) ?_
   refine za_done (by kernel_rfl) ?_ _
   rw [putN_whole (by rw [hos, hzs])]
   have hzz : Below w9.heap.size w9 (W5.setRow q5 rowo) := below_setRow hS (by omega) _
   have hq6 : (W5.setRow q5 rowo).heap[q5]? = some (.cells rowo 35 (0, 0)) := hr_new hq5
   obtain ⟨W6, hW6⟩ : ∃ W, W = W5.setRow q5 rowo := ⟨_, rfl⟩
   rw [<- hW6] at hzz hq6 ⊢
   clear hW6 hbn hq5 hS hbz
   have hq5 := hq6
   clear hq6
   have hzw := hb9.trans (hzz.mono hb9.size)
   have HQ5 : Hid (¬ Mine (mark G k r) k q5) := Zi (fun hm => by obtain ⟨z, e, -⟩ := hm; rw [HDn.out.fr q5 (by have := hb9.size; omega)] at e; cases e)
   have HL9 := Zi (fun w' hw => HL.out w' (hzw.trans (Below.mono hw hzw.size)))
   replace HDn := Zi (HDn.out.quiet hzw)
   replace HV := Zi (HV.out.old hzw)
   replace HW := Zi (HW.out.old hzw)
   replace HOV := Zi (HOV.out.old hzw)
   replace HH := Zi (HH.out.old hzw)
   replace HLV := Zi (HLV.out.moved (Keep.of (C := fun _ => False) hzw) (fun b e => e.elim) (fun _ _ => rfl))
   clear hp hq hr hq2
   have hp := below_look hzz hp9
   have hq := below_look hzz hq9
   have hr := below_look hzz hr9
   have hq2 := below_look hzz hq29
   clear hp9 hq9 hr9 hq29 HL HRO hzz hzw hb9
   have hbz : Below W6.heap.size W6 W6.drew := (Below.refl _ _).drew
   have HC := Zi (CopyValue_any x HND.out W6.drew _ _ (HW.out.old hbz))
   go_upto_region 7 with fail
   refine wp_region_Z (S := Below W6.heap.size W6) 13 mixed hbz (fun hS => ?_)
   refine zm 0 hS ?_; try simp only [Zq]
   refine zm 1 hS ?_; try simp only [Zq]
   refine zm 2 hS ?_; try simp only [Zq]
   refine zv4 (i := 3) rfl (by kernel_rfl) Zg hS rfl (fun w' hw' => ex_one rfl (dh2 (below_look hw' hp))) ?_; try simp only [Zq]
   refine zm 4 hS ?_; try simp only [Zq]
   refine zv4 (i := 5) rfl (by kernel_rfl) Zg hS rfl (fun w' hw' => ex_one rfl (vnN (below_look hw' hq) HRV HN)) ?_; try simp only [Zq]
   refine zm 6 hS ?_; try simp only [Zq]
   refine zm 7 hS ?_; try simp only [Zq]
   refine zv4 (i := 8) rfl (by kernel_rfl) Zg hS rfl (fun w' hw' => ex_one rfl (HL9.out w' hw').e) ?_; try simp only [Zq]
   refine zm 9 hS ?_; try simp only [Zq]
   refine zv4 (i := 10) rfl (by kernel_rfl) Zg hS rfl (fun w' hw' => ex_row rfl (row35 (below_look hw' hq2) hxs)) ?_; try simp only [Zq]
   refine za_call (i := 11) (by kernel_rfl) rfl rfl (fun K hK => ?_); go_simp; refine ⟨_, _, ⟨rfl, rfl⟩, hK _ _ ⟨_, HC.out, ?_⟩⟩; clear hK K; rintro e w10 ⟨row10, rfl, hv10, hb11⟩
   have hb10 := hbz.trans (hb11.mono hbz.size)
   refine ⟨_, rfl, fun _ => hb10, ?_⟩
   try simp only [Zq]
   have hS := hb10
   have hvs10 := hv10.size
   have hv110 := hv10.one
   have hvn : VAt w10 (Imm (mark G k r)) x row10 := hv10.weak fun b (h9 : W6.drew.heap.size <= b) => HDn.out.fr b (by have := hbz.size; omega)
   refine zn 12 hS ?_; try simp only [Zq]
   have hf1 := (HL9.out w10 hb10).e
   replace HDn := Zi (HDn.out.quiet hb10)
   replace HOV := Zi (HOV.out.old hb10)
   replace HH := Zi (HH.out.old hb10)
   replace HLV := Zi (HLV.out.moved (Keep.of (C := fun _ => False) hb10) (fun b e => e.elim) (fun _ _ => rfl))
   have hr10 := below_look hb10 hr
   have hq10 := below_look hb10 hq5
   obtain ⟨cur, hcur, hfit, hlp⟩ := HLV.out.put hjl hvn
   obtain ⟨g2, fA2, fc2, e2, -, hL2, -, hun2⟩ := HH.out.buf HOO.out
   cases e2
   have e3 := one_eq hf1 (hL2 w10 (Below.refl _ _)).e
   cases e3
   have hset := HH.out.setE (o' := { o with elems := o.elems.set j x }) HOO.out rfl (f := fb) (fc := fc) hun2 HFB.out (by simp) rfl hlp
   have HDN := Zi (HDn.out.row ⟨_, HFB.out, by simp⟩ hset)
   have hk := Keep.rowOne w10 fb (putN cur (j * 9) row10)
   have hrf : ¬ r = fb := fun e => by have h1 := HFB.out; rw [<- e, HM.out] at h1; cases h1
   have hqf : ¬ q5 = fb := fun e => HQ5.out ⟨.elm n, by rw [e]; exact HFB.out, by simp⟩
   have HOV2 := Zi (HOV.out.keep hk (fun b hb e => by unfold Imm at hb; rw [e, HFB.out] at hb; cases hb))
   have hr2 := hk.look hr10 hrf
   have hq3 := hk.look hq10 hqf
   clear hset hun2 hL2 hf1 hk hlp HDn HH HLV HOV HV HW HC hv10 hvn hb10 hb11 hbz
   refine za_storeN (i := 13) (by kernel_rfl) rfl rfl 35 _ _ rfl info35 rfl rfl hvs10 hv110 hcur hfit (fun h => absurd rfl h) ?_
   clear hS
   refine za_done (by kernel_rfl) ?_ _
   clear hr hq5 hq hp hr10 hq10 hq2
   have hr := hr2
   have hq5 := hq3
   clear hr2 hq3 hcur hfit hrf hqf
   obtain ⟨W12, hW⟩ : ∃ W, W = w10.setRow fb (putN cur (j * 9) row10) := ⟨_, rfl⟩
   rw [<- hW] at HDN HOV2 hr hq5 ⊢
   clear hW
   go_upto_region 8 with fail
   apply Zl
   refine Zw rfl (row35 hq5 hos) ?_
   (with_reducible refine wl_putV hos ho1 hzs rfl rfl hr ?_); rw [put_noneA]; intro W13 hbx hsz hkx hnx
   have HK12 := Zi (Keep.of_put hbx hsz hkx)
   clear hbx hsz hkx hr
   refine Zm ?_
   go_wp2_with fail
   refine bodyPost_ret (res35t rfl _ _ r rfl rfl hos hnx) rfl ?_
   rw [HD2.out]
   exact ⟨_, _, rfl, HOV2.out.put HM.out HK12.out, HDN.out.put HM.out HRl.out HK12.out⟩
  ·have HD2 : Hid (putP h v f x = (h, va0, 1)) := Zi (by rw [HD.out, if_neg c1])
   clear HD
   by_cases c2 : f < 0
   ·clear c1
    refine wp_region_belowAll mixed (by kernel_rfl) ?_
    iterate 3 refine Zt ?_
    iterate 12 ((with_reducible refine wq_skip ?_ ?_); exact rfl; simp only [Zy])
    refine Zt ?_
    intro w9 hb9
    replace HW := Zi (HW.out.old hb9)
    replace HDn := Zi (HDn.out.quiet hb9); replace HV := Zi (HV.out.old hb9); replace hq := below_look hb9 hq; replace hq2 := below_look hb9 hq2; replace hr := below_look hb9 hr; clear hb9
    go_upto_region 5 with fail
    apply Zl
    refine wl_w rfl (build35 _ _ rfl _) ?_
    simp only [Zq]
    (with_reducible refine wl_putV rfl zone hzs rfl rfl hr ?_); rw [put_noneA]; intro W10 hbx hsz hkx hnx
    replace HDn := Zi (HDn.out.put HM.out HRl.out (Keep.of_put hbx hsz hkx))
    clear hr hbx hsz hkx
    have hr := hnx
    clear hnx
    refine Zm ?_
    go_wp2_with fail
    refine bodyPost_ret (res35t rfl _ _ r rfl rfl rfl hr) rfl ?_
    rw [HD2.out]
    exact ⟨_, zrow, rfl, zero_va _ _, HDn.out⟩
   ·have c3 : f ≥ (o.elems.length : Int) := by omega
    clear c1
    refine wp_region_belowAll mixed (by kernel_rfl) ?_
    iterate 7 refine Zt ?_
    refine Zv rfl (fun w' hw' => dh2 (below_look hw' (by assumption))) ?_
    refine Zt ?_
    refine Zv rfl (fun w' hw' => vnN (below_look hw' (by assumption)) (by assumption) (by assumption)) ?_
    iterate 2 refine Zt ?_
    refine Zv rfl (fun w' hw' => (HL.out w' hw').e) ?_
    iterate 3 refine Zt ?_
    intro w9 hb9
    replace HW := Zi (HW.out.old hb9)
    replace HDn := Zi (HDn.out.quiet hb9); replace HV := Zi (HV.out.old hb9); replace hq := below_look hb9 hq; replace hq2 := below_look hb9 hq2; replace hr := below_look hb9 hr; clear hb9
    go_upto_region 5 with fail
    apply Zl
    refine wl_w rfl (build35 _ _ rfl _) ?_
    simp only [Zq]
    (with_reducible refine wl_putV rfl zone hzs rfl rfl hr ?_); rw [put_noneA]; intro W10 hbx hsz hkx hnx
    replace HDn := Zi (HDn.out.put HM.out HRl.out (Keep.of_put hbx hsz hkx))
    clear hr hbx hsz hkx
    have hr := hnx
    clear hnx
    refine Zm ?_
    go_wp2_with fail
    refine bodyPost_ret (res35t rfl _ _ r rfl rfl rfl hr) rfl ?_
    rw [HD2.out]
    exact ⟨_, zrow, rfl, zero_va _ _, HDn.out⟩
 ·have HD : Hid (putP h v f x = (h, va0, pe)) := Zi (by unfold putP; rw [<- HPE.out, if_neg c0])
  have h0b : (pe != 0) = true := by simp [c0]
  clear c0
  go_upto_region 3 with fail
  apply Zl
  refine wl_w rfl (build35 _ _ rfl _) ?_
  simp only [Zq]
  refine Zm ?_
  (with_reducible refine wl_putV rfl zone hzs rfl rfl hr ?_); rw [put_noneA]; intro W10 hbx hsz hkx hnx
  replace HDn := Zi (HDn.out.put HM.out HRl.out (Keep.of_put hbx hsz hkx))
  clear hr hbx hsz hkx
  have hr := hnx
  clear hnx
  refine Zm ?_
  go_wp2_with fail
  refine bodyPost_ret (res35t rfl _ _ r rfl rfl rfl hr) rfl ?_
  rw [HD.out]
  exact ⟨_, zrow, rfl, zero_va _ _, HDn.out⟩
def DErrOf (w : World) (G : Gh) (k p nr : Nat) (r : Hp × Int) (e : Ending) (w' : World) : Prop := ∃ G', e = .returned (.int .i64 r.2) /\ DDone w G k p r.1 nr w' G'
section
variable {w w' : World} {G : Gh} {k p : Nat} {h : Hp} {nr : Nat} {dA : Option Addr} {dc : Nat} {oA : Option Addr} {oc : Nat} {bA : Option Addr} {bc : Nat} {lA : Option Addr} {lc : Nat} {rA : Option Addr} {rc : Nat}
theorem DAt.growE {g i : Nat} (hh : DAt w G k p h nr dA dc oA oc (some ⟨g, 0, none⟩) bc lA lc rA rc) {b : Bu} (hi : h.bus[i]? = some b) {fA : Option Addr} {fc : Nat} {rows : List (Array Value)} (hrl : rows.length = b.elems.length) (hra : RoleOf G fA (k, .elm i)) (hrv : ∀ (j : Nat) (v : Va) (row : Array Value), b.elems[j]? = some v -> rows[j]? = some row -> VAt w (Imm G) v row)
  {A' : Option Addr} {c' : Nat} {x : Va} {row : Array Value} (ho : OwnL w' 35 9 A' c' (rows ++ [row])) (hk : Keep (fun b => fA = some ⟨b, 0, none⟩) w w') (hA : A' = fA ∨ ∃ g, A' = some ⟨g, 0, none⟩ /\ w.heap.size <= g) (hx : VAt w (Imm G) x row) :
  DAt (w'.setCell ⟨g, i * 2 + 1, none⟩ (.slice A' (rows.length + 1) c')) (own G A' (k, .elm i)) k p { h with bus := h.bus.set i { b with elems := b.elems ++ [x] } } nr dA dc oA oc (some ⟨g, 0, none⟩) bc lA lc rA rc := by
 obtain ⟨g', rowsB, e, hR⟩ := hh.bus.rows hi
 cases e
 obtain ⟨rowb, fA0, fc0, hrb, hxb⟩ := hR.get hi
 have hG := own_again hra hA
 have hgl := hR.lt
 have hgr : own G A' (k, .elm i) g = some (k, .bar) := (hG g hgl).trans hR.role
 have hk2 := Keep.cellOne w' g (i * 2 + 1) (.slice A' (rows.length + 1) c')
 have hne : ∀ b r, b < w.heap.size -> G b = some (k, r) -> r ≠ .elm i -> w'.heap[b]? = w.heap[b]? := fun b r hb e hr => hk.block b hb fun e2 => by have := hra b e2; rw [e] at this; cases this; exact hr rfl
 have hno : ∀ b, b < w.heap.size -> G b = none -> w'.heap[b]? = w.heap[b]? := fun b hb e => hk.block b hb fun e2 => by have := hra b e2; rw [e] at this; cases this
 have hs : ∀ b r, b < w.heap.size -> own G A' (k, .elm i) b = some (k, r) -> r ≠ .elm i -> r ≠ .bar -> (w'.setCell ⟨g, i * 2 + 1, none⟩ (.slice A' (rows.length + 1) c')).heap[b]? = w.heap[b]? := fun b r hb e h1 h2 => by
  rw [hk2.block b (by have := hk.size; omega) (fun e2 => by rw [e2, hgr] at e; cases e; exact h2 rfl)]
  exact hne b r hb ((hG b hb).symm.trans e) h1
 have hn : ∀ b, b < w.heap.size -> own G A' (k, .elm i) b = none -> (w'.setCell ⟨g, i * 2 + 1, none⟩ (.slice A' (rows.length + 1) c')).heap[b]? = w.heap[b]? := fun b hb e => by
  rw [hk2.block b (by have := hk.size; omega) (fun e2 => by rw [e2, hgr] at e; cases e)]
  exact hno b hb ((hG b hb).symm.trans e)
 have hg := hh.regh hG
 have hRg : BusR w (own G A' (k, .elm i)) k h.bus g bc rowsB := ⟨hR.own, hR.len, hgr, hgl, fun j o row h1 h2 => by
  obtain ⟨eA, ec, h3⟩ := hR.all j o row h1 h2
  exact ⟨eA, ec, h3.eq, h3.elm.regh hG⟩⟩
 have hown7 : OwnL w' 97 2 (some ⟨g, 0, none⟩) bc rowsB := hR.own.same fun b e hb => by cases e; exact hne g _ hb hR.role (by simp)
 refine hg.busC (by simp) (fun b hb e => ?_) hn ?_
 ·obtain ⟨r, e1, e2, e3⟩ := e
  exact hs b r hb e1 (e3 i) e2
 ·refine hRg.upd hi (row' := rowb.setIfInBounds 1 (.slice A' (rows.length + 1) c')) (eA' := A') (ec' := c') (fun j b hj hb e => hs b _ hb e (by simp [hj]) (by simp)) hn (hown7.set hrb (by omega) _) ⟨?_, rows ++ [row], ho.same (fun b e hb => hk2.block b hb fun e2 => ?_), by simp [hrl], own_role _ _ _, fun j v rw0 hj hr => ?_⟩
  ·rw [hxb.eq]
   show #[_, _] = #[_, Value.slice A' (b.elems ++ [x]).length c']
   rw [List.length_append, hrl]; rfl
  ·have := own_role G A' (k, .elm i) b e
   rw [e2, hgr] at this; cases this
  ·have mv : ∀ {v : Va} {rw0 : Array Value}, VAt w (Imm G) v rw0 -> VAt (w'.setCell ⟨g, i * 2 + 1, none⟩ (.slice A' (rows.length + 1) c')) (Imm (own G A' (k, .elm i))) v rw0 := fun hv => (hv.regh hG).mono (fun _ h => h) fun b hb hl => hn b hl hb
   rcases Nat.lt_trichotomy j b.elems.length with e | e | e
   ·rw [List.getElem?_append_left (by omega)] at hj hr
    exact mv (hrv j v rw0 hj hr)
   ·rw [e, List.getElem?_concat_length] at hj
    rw [e, <- hrl, List.getElem?_concat_length] at hr
    cases hj; cases hr
    exact mv hx
   ·rw [List.getElem?_eq_none (by simp; omega)] at hj; cases hj
theorem DDone.growE {W : World} {G1 : Gh} (d : DDone w G k p h nr W G1) {g i : Nat} (hh : DAt W G1 k p h nr dA dc oA oc (some ⟨g, 0, none⟩) bc lA lc rA rc) {b : Bu} (hi : h.bus[i]? = some b) {fA : Option Addr} {fc : Nat} {rows : List (Array Value)} (hrl : rows.length = b.elems.length) (hra : RoleOf G1 fA (k, .elm i)) (hrv : ∀ (j : Nat) (v : Va) (row : Array Value), b.elems[j]? = some v -> rows[j]? = some row -> VAt W (Imm G1) v row)
  {A' : Option Addr} {c' : Nat} {x : Va} {row : Array Value} (ho : OwnL w' 35 9 A' c' (rows ++ [row])) (hk : Keep (fun b => fA = some ⟨b, 0, none⟩) W w') (hA : A' = fA ∨ ∃ g, A' = some ⟨g, 0, none⟩ /\ W.heap.size <= g) (hx : VAt W (Imm G1) x row) (hg : G1 g = some (k, .bar)) :
  DDone w G k p { h with bus := h.bus.set i { b with elems := b.elems ++ [x] } } nr (w'.setCell ⟨g, i * 2 + 1, none⟩ (.slice A' (rows.length + 1) c')) (own G1 A' (k, .elm i)) :=
 d.trans ⟨⟨_, _, _, _, _, _, _, _, _, _, hh.growE hi hrl hra hrv ho hk hA hx (fc := fc)⟩, fun b hb => by
  have hb2 : w'.heap.size <= b := by simpa using hb
  unfold own
  split
  ·rename_i e
   rcases ho.el with ⟨e1, -⟩ | ⟨g', cur, e1, hg', -⟩
   ·rw [e1] at e; cases e
   ·rw [e1] at e; cases e; have := heap_lt hg'; omega
  ·exact d.fr b (by have := hk.size; omega), own_again hra hA, fun b hb => by
  unfold own
  split
  ·exact .inr ⟨_, rfl⟩
  ·exact .inl (d.fr b hb), ((Keep.refl _ W).trans (C' := fun b => fA = some ⟨b, 0, none⟩) (fun b e => .inl ⟨_, hra b e, by simp⟩) hk).trans (C' := fun b => b = g) (fun b e => .inl ⟨.bar, by rw [e]; exact hg, by simp⟩) (Keep.cellOne w' g (i * 2 + 1) _)⟩
end
theorem delm_load {w w' : World} {G : Gh} {k p : Nat} {h : Hp} {nr : Nat} {dA : Option Addr} {dc : Nat} {oA : Option Addr} {oc : Nat} {bc : Nat} {lA : Option Addr} {lc : Nat} {rA : Option Addr} {rc g n : Nat} (hh : DAt w G k p h nr dA dc oA oc (some ⟨g, 0, none⟩) bc lA lc rA rc) {b : Bu} (hi : h.bus[n]? = some b) {fA : Option Addr} {fc : Nat} (hL : BuL w g n b fA fc) {C : Nat -> Prop} (hk : Keep C w w') (hC : ¬ C g) : OneAt w' 33 ⟨g, n * 2 + 1, none⟩ (.slice fA b.elems.length fc) := by
 obtain ⟨g', rowsB, e, hR⟩ := hh.bus.rows hi
 cases e
 obtain ⟨rowb, fA0, fc0, hrb, hxb⟩ := hR.get hi
 have h1 := (hR.own.loadsB hrb hxb).e
 have h2 := one_eq h1 hL.e
 cases h2
 exact one_of u33 rfl ((hR.own.same (w' := w') fun b e hb => by cases e; exact hk.block g hb hC).cell hrb (j := 1) (by rw [hxb.eq]; rfl))
theorem dAppend_any {G : Gh} {k p nr : Nat} {h : Hp} {w : World} (hh : DHeapAt w G k p h nr) (hf : Fr w G) (hle : ∀ b, b ∈ h.bus -> b.elems.length <= 1000000) {v x : Va} {row rowx : Array Value} (hv : VAt w (Imm G) v row) (hx : VAt w (Imm G) x rowx) (hnd : nodesF x <= 1000000) :
  Calls Try.prog 94 #[.pointer (some ⟨p, 0, none⟩), .agg row, .agg rowx] w (DErrOf w G k p nr (appendP h v x)) := by
 have HND := Zi hnd
 clear hnd
 have HX := Zi hh
 have HF := Zi hf
 have HV := Zi hv
 have HW := Zi hx
 have HLE := Zi hle
 have hvs := hv.size
 have hv1 := hv.one
 have hxs := hx.size
 have hx1 := hx.one
 have hb := Below.refl w.heap.size w
 clear hh hf hv hx hle
 go_enter Try.func94, Try.ntmps94
 go_upto_region 0 with fail
 apply Zl
 (with_reducible refine wl_boxV rfl ?_); intro W q hbn hlq hq; replace hb := hb.trans (hbn.mono hb.size); clear hbn; simp only [Zq]
 have lthqq2 := heap_lt hq; (with_reducible refine wl_boxV rfl ?_); intro W1 q2 hbn hlq2 hq2; replace hq := below_look hbn hq; replace hb := hb.trans (hbn.mono hb.size); clear hbn; simp only [Zq]
 refine Zm ?_
 have HQG : Hid (G q = none) := Zi (HF.out q (by omega))
 have HQ2 : Hid (G q2 = none) := Zi (HF.out q2 (by omega))
 have HDn := Zi (DDone.calm HX.out HF.out hb)
 replace HV := Zi (HV.out.old hb)
 replace HW := Zi (HW.out.old hb)
 clear HX HF hb
 obtain ⟨pe, hpe⟩ : ∃ z, z = aloneE h v x := ⟨_, rfl⟩
 have hc := dchanged_done HDn.out.heap HV.out HW.out
 rw [<- hpe] at hc
 have HC := Zi hc
 have HPE := Zi hpe
 clear hc hpe
 go_upto_region 1 with fail
 apply Zl
 refine Zm ?_
 refine Zw rfl (row35 hq hvs) ?_
 refine Zw rfl (row35 hq2 hxs) ?_
 refine Zn HC.out ?_; rintro e w8 ⟨rfl, hb8⟩; refine ⟨_, rfl, ?_⟩; simp only [Zq]
 replace HW := Zi (HW.out.old hb8)
 replace HDn := Zi (HDn.out.quiet hb8); replace HV := Zi (HV.out.old hb8); replace hq := below_look hb8 hq; replace hq2 := below_look hb8 hq2; clear hb8
 refine Zm ?_
 clear HC
 by_cases c0 : pe = 0
 ·subst c0
  obtain ⟨n, o, hn, ho, -⟩ := alone0 HPE.out.symm
  have HD : Hid (appendP h v x = ({ h with bus := h.bus.set n { o with elems := o.elems ++ [x] } }, 0)) := Zi (by unfold appendP; rw [<- HPE.out, if_pos rfl, hn, Int.toNat_natCast, ho])
  have hnl := (List.getElem?_eq_some_iff.1 ho).1
  have hnlI : (n : Int) < (h.bus.length : Int) := by omega
  obtain ⟨dA, dc, oA, oc, bA, bc, lA, lc, rA, rc, hh⟩ := HDn.out.heap
  obtain ⟨g, fA, fc, rfl, hgr, hL, ⟨rows, ho5, hlr, hor, hvr⟩, -⟩ := hh.buf ho
  have hol := HLE.out o (List.mem_of_getElem? ho)
  have HL := Zi (hL w8 (Below.refl _ _))
  have HL2 := Zi hL
  have HGR := Zi hgr
  have HOO := Zi ho
  have HH := Zi hh
  have HO5 := Zi ho5
  have HLR := Zi hlr
  have HOR := Zi hor
  have HVR := Zi hvr
  have HN := Zi hn
  have hp := hh.blk
  have hpG := hh.rp
  obtain ⟨trv, A2v, l2v, c2v, A3v, l3v, c3v, hrv⟩ := HV.out.row
  have HRV := Zi hrv
  have hnf : ∀ b y, G b = y -> y ≠ some (k, .elm n) -> ¬ (fA = some ⟨b, 0, none⟩) := fun b y e hy e2 => by have := HOR.out b e2; rw [e] at this; exact hy this
  have HNP := Zi (hnf p _ hpG (by simp))
  have HNQ := Zi (hnf q _ HQG.out (by simp))
  have HNQ2 := Zi (hnf q2 _ HQ2.out (by simp))
  have HNG := Zi (hnf g _ hgr (by simp))
  have hglt : g < w8.heap.size := by
   obtain ⟨g', rowsB, e, hR⟩ := hh.bus.rows ho
   cases e; exact hR.lt
  have HGLT := Zi hglt
  clear hL hh ho hrv hn ho5 hlr hor hvr hnf hglt hgr
  go_upto_region 4 with fail
  refine wp_region_Z (S := fun w' => Keep (fun b => fA = some ⟨b, 0, none⟩) w8 w') 13 mixed (Keep.of ((Below.refl _ _).drew)) (fun hS => ?_)
  have hbz : Below w8.heap.size w8 w8.drew := (Below.refl _ _).drew
  have HC := Zi (CopyValue_any x HND.out w8.drew _ _ (HW.out.old hbz))
  refine zm 0 hS ?_; try simp only [Zq]
  refine zm 1 hS ?_; try simp only [Zq]
  refine zm 2 hS ?_; try simp only [Zq]
  refine zv4 (i := 3) rfl (by kernel_rfl) Zg hS rfl (fun w' hw' => ex_one rfl (dh2 (hw'.look hp HNP.out))) ?_; try simp only [Zq]
  refine zm 4 hS ?_; try simp only [Zq]
  refine zv4 (i := 5) rfl (by kernel_rfl) Zg hS rfl (fun w' hw' => ex_one rfl (vnN (hw'.look hq HNQ.out) HRV HN)) ?_; try simp only [Zq]
  refine zm 6 hS ?_; try simp only [Zq]
  refine zm 7 hS ?_; try simp only [Zq]
  refine zv4 (i := 8) rfl (by kernel_rfl) Zg hS rfl (fun w' hw' => ex_one rfl (delm_load HH.out HOO.out HL.out hw' HNG.out)) ?_; try simp only [Zq]
  refine zv4 (i := 9) rfl (by kernel_rfl) Zg hS rfl (fun w' hw' => ex_row rfl (row35 (hw'.look hq2 HNQ2.out) hxs)) ?_; try simp only [Zq]
  refine za_call (i := 10) (by kernel_rfl) rfl rfl (fun K hK => ?_); go_simp; refine ⟨_, _, ⟨rfl, rfl⟩, hK _ _ ⟨_, HC.out, ?_⟩⟩; clear hK K; rintro e w9 ⟨row9, rfl, hv9, hb9⟩
  have hbz9 := hbz.trans (hb9.mono hbz.size)
  have hS9 : Keep (fun b => fA = some ⟨b, 0, none⟩) w8 w9 := hS.trans (C' := fun _ => False) (fun b e => e.elim) (Keep.of hb9)
  refine ⟨_, rfl, fun _ => hS9, ?_⟩
  clear hS
  have hS := hS9
  clear hS9
  try simp only [Zq]
  have hxs9 := hv9.size
  have hx19 := hv9.one
  have HW9 := Zi (HDn.out.newva (hv9.weak (D' := fun b => w8.heap.size <= b) fun b (h9 : w8.drew.heap.size <= b) => by have := hbz.size; omega))
  refine za_new (i := 11) (v := fun q => .slice (some ⟨q, 0, none⟩) 1 1) (by kernel_rfl) rfl rfl (ex_bsV _ rfl rfl hxs9) (fun W hW => hS.trans (C' := fun _ => False) (fun b e => e.elim) (Keep.of hW)) ?_
  clear hS
  intro W8 q8 hbn0 hlq8 hq8 hS
  try simp only [Zq]
  have hbn := hbz9.trans (hbn0.mono hbz9.size)
  replace HDn := Zi (HDn.out.quiet hbn)
  replace HH := Zi (HH.out.old hbn)
  replace HO5 := Zi (HO5.out.old hbn)
  replace HVR := Zi (fun (j : Nat) (v : Va) (row : Array Value) (e1 : o.elems[j]? = some v) (e2 : rows[j]? = some row) => (HVR.out j v row e1 e2).old hbn)
  clear HW
  have HW := Zi (HW9.out.old hbn0)
  replace hp := below_look hbn hp; replace hq := below_look hbn hq
  clear HW9 hbn0 hbz9 hv9 hb9 HC
  clear hbn hbz HL HL2
  refine za_pushL (i := 12) elt33 (by kernel_rfl) rfl rfl _ _ rfl (show _ = Value.slice fA rows.length fc by rw [HLR.out]; rfl) rfl HO5.out hq8 hxs9 hx19 (by have := HLR.out; omega) (by have := HLR.out; unfold maxLen; omega) (fun w' hk => hS.trans (C' := fun b => fA = some ⟨b, 0, none⟩) (fun b e => .inl e) hk) ?_
  clear hS
  intro A9 c9 W9 hown hk9 hA9 hS
  replace hp := hk9.look hp HNP.out
  replace hq := hk9.look hq HNQ.out
  have HOW := Zi hown
  have HK9 := Zi hk9
  have HA9 := Zi hA9
  obtain ⟨nl, hnl2⟩ : ∃ z, z = rows.length + 1 := ⟨_, rfl⟩
  rw [<- hnl2]
  have HNL := Zi hnl2
  try simp only [Zq]
  clear hown hk9 hA9 hnl2
  refine zn 13 hS ?_; try simp only [Zq]
  clear hS
  refine za_done (by kernel_rfl) ?_ _
  go_upto_region 5 with fail
  refine wp_region_below 9 mixed (by kernel_rfl) ?_; simp only [List.take_succ_cons, List.take_zero, List.drop_succ_cons, List.drop_zero]
  iterate 3 refine Zt ?_
  refine Zv rfl (fun w' hw' => dh2 (below_look hw' (by assumption))) ?_
  refine Zt ?_
  refine Zv rfl (fun w' hw' => vnN (below_look hw' (by assumption)) (by assumption) (by assumption)) ?_
  iterate 3 refine Zt ?_
  intro w10 hb10
  replace HOW := Zi (HOW.out.old hb10)
  replace HK9 := Zi (HK9.out.trans (C' := fun _ => False) (fun b e => e.elim) (Keep.of hb10))
  clear hp hq
  have hd := DDone.growE HDn.out HH.out HOO.out HLR.out HOR.out HVR.out HOW.out HK9.out HA9.out HW.out HGR.out (fc := fc)
  rw [<- HNL.out] at hd
  have HDN := Zi hd
  obtain ⟨hs1, hs2⟩ : (w10.cell? ⟨g, n * 2 + 1, none⟩).isSome = true /\ w10.frozen? ⟨g, n * 2 + 1, none⟩ = false := by
   obtain ⟨g', rowsB, e, hR⟩ := HH.out.bus.rows HOO.out
   cases e
   obtain ⟨rowb, fA0, fc0, hrb, -⟩ := hR.get HOO.out
   exact (hR.own.same (w' := w10) fun b e hb => by cases e; exact HK9.out.block g hb HNG.out).lies hrb (by omega)
  clear hd hb10
  refine wl_storeC rfl 33 _ _ rfl g (n * 2 + 1) (.slice A9 nl c9) rfl rfl info33 rfl hs1 hs2 ?_
  rw [put_noneA]
  clear hs1 hs2
  go_upto_region 6 with fail
  apply Zl
  refine Zm ?_
  go_wp2_with fail
  go_ret
  rw [HD.out]
  exact ⟨_, rfl, HDN.out⟩
 ·have HD : Hid (appendP h v x = (h, pe)) := Zi (by unfold appendP; rw [<- HPE.out, if_neg c0])
  have h0b : (pe != 0) = true := by simp [c0]
  clear c0
  go_upto_region 3 with fail
  apply Zl
  iterate 2 refine Zm ?_
  go_wp2_with fail
  go_ret
  rw [HD.out]
  exact ⟨_, rfl, HDn.out⟩
open Go.RowKit Go.Proofs.Ytpamocglecangaa.Nm
section
variable {w w' : World} {G G' : Gh} {k p nr : Nat} {h : Hp} {dA : Option Addr} {dc : Nat} {oA : Option Addr} {oc : Nat} {bA : Option Addr} {bc : Nat} {lA : Option Addr} {lc : Nat} {rA : Option Addr} {rc : Nat}
theorem dhdr_set {dl ol bl ll rl j : Nat} {v : Value} (hp : w.heap[p]? = some (.cells (cellD dA dl dc oA ol oc bA bl bc lA ll lc rA rl rc) 92 (0, 0))) : (j < 5 -> (w.cell? ⟨p, j, none⟩).isSome = true) /\ w.frozen? ⟨p, j, none⟩ = false /\ (w.setCell ⟨p, j, none⟩ v).heap[p]? = some (.cells ((cellD dA dl dc oA ol oc bA bl bc lA ll lc rA rl rc).setIfInBounds j v) 92 (0, 0)) := by
 refine ⟨fun hj => ?_, by unfold World.frozen?; rw [hp]; rfl, hs_new hp⟩
 rw [cell_of_row _ _ _ _ _ _ hp]
 match j, hj with
 | 0, _ => rfl
 | 1, _ => rfl
 | 2, _ => rfl
 | 3, _ => rfl
 | 4, _ => rfl
theorem DAt.addO (hh : DAt w G k p h nr dA dc oA oc bA bc lA lc rA rc) {rows : List (Array Value)} {row tr : Array Value} {o : Ob} {fA : Option Addr} {fc : Nat} {A' : Option Addr} {c' : Nat}
  (hl : rows.length = h.obs.length) (hv : ∀ (i : Nat) (o : Ob) (row : Array Value), h.obs[i]? = some o -> rows[i]? = some row -> ∃ tr fA fc, ObAt w G k i o row tr fA fc)
  (ho : OwnL w' 41 8 A' c' (rows ++ [row])) (hk : Keep (fun b => oA = some ⟨b, 0, none⟩) w w') (hor : RoleOf G oA (k, .arr)) (hG : ∀ b, b < w.heap.size -> G' b = G b) (hA : RoleOf G' A' (k, .arr)) (hx : ObAt w' G' k h.obs.length o row tr fA fc) :
  DAt (w'.setCell ⟨p, 1, none⟩ (.slice A' (rows.length + 1) c')) G' k p { h with obs := h.obs ++ [o] } nr dA dc A' c' bA bc lA lc rA rc := by
 have hpl := heap_lt hh.blk
 have hne : ∀ b r, b < w.heap.size -> G b = some (k, r) -> r ≠ .arr -> w'.heap[b]? = w.heap[b]? := fun b r hb e hr => hk.block b hb fun e2 => by have := hor b e2; rw [e] at this; cases this; exact hr rfl
 have hno : ∀ b, b < w.heap.size -> G b = none -> w'.heap[b]? = w.heap[b]? := fun b hb e => hk.block b hb fun e2 => by have := hor b e2; rw [e] at this; cases this
 have hpn : G' p = some (k, .hdr) := (hG p hpl).trans hh.rp
 have hp7 : w'.heap[p]? = some (.cells (cellD dA h.dei.length dc oA h.obs.length oc bA h.bus.length bc lA h.lev.length lc rA nr rc) 92 (0, 0)) := (hne p _ hpl hh.rp (by simp)).trans hh.blk
 have hset := (dhdr_set (j := 1) (v := .slice A' (rows.length + 1) c') hp7).2.2
 have hso : ∀ b, b ≠ p -> (w'.setCell ⟨p, 1, none⟩ (.slice A' (rows.length + 1) c')).heap[b]? = w'.heap[b]? := fun b hb => heap_setCell_other _ _ _ _ hb
 have hsr : ∀ b r, G' b = some (k, r) -> r ≠ .hdr -> b ≠ p := fun b r e hr e2 => by rw [e2, hpn] at e; cases e; exact hr rfl
 have hsn : ∀ b, G' b = none -> b ≠ p := fun b e e2 => by rw [e2, hpn] at e; cases e
 have hg := hh.regh hG
 have hh7 : DAt w G' k p h nr dA dc oA oc bA bc lA lc rA rc := hg
 refine ⟨?_, hpn, ?_, ?_, ?_, ?_, ?_⟩
 ·rw [hset, hl]
  show _ = some (Obj.cells (cellD dA h.dei.length dc A' (h.obs ++ [o]).length c' bA h.bus.length bc lA h.lev.length lc rA nr rc) 92 (0, 0))
  rw [List.length_append]; rfl
 ·refine ⟨rows ++ [row], ho.same (fun g e _ => hso g (hsr g _ (hA g e) (by simp))), by simp [hl], hA, fun i x rw0 hi hri => ?_⟩
  rcases Nat.lt_trichotomy i h.obs.length with e | e | e
  ·rw [List.getElem?_append_left (by omega)] at hi hri
   obtain ⟨tr, fA, fc, h3⟩ := hv i x rw0 hi hri
   have h4 : ObAt w G' k i x rw0 tr fA fc := ⟨h3.eq, h3.ty.regh hG, h3.fld.regh hG⟩
   refine ⟨tr, fA, fc, h4.same (fun b hb e2 => ?_) (fun b hb e2 => ?_)⟩
   ·rw [hso b (hsr b _ e2 (by simp))]; exact hne b _ hb ((hG b hb).symm.trans e2) (by simp)
   ·rw [hso b (hsn b e2)]; exact hno b hb ((hG b hb).symm.trans e2)
  ·rw [e, List.getElem?_concat_length] at hi
   rw [e, <- hl, List.getElem?_concat_length] at hri
   cases hi; cases hri
   subst e
   exact ⟨tr, fA, fc, hx.same (fun b _ e2 => hso b (hsr b _ e2 (by simp))) (fun b _ e2 => hso b (hsn b e2))⟩
  ·rw [List.getElem?_eq_none (by simp; omega)] at hi; cases hi
 ·exact hg.bus.same (fun b hb e => by
   rcases e with e | ⟨i, e⟩ <;> (rw [hso b (hsr b _ e (by simp))]; exact hne b _ hb ((hG b hb).symm.trans e) (by simp))) fun b hb e => by
    rw [hso b (hsn b e)]; exact hno b hb ((hG b hb).symm.trans e)
 ·exact hg.lev.same (fun b hb e => by
   rw [hso b (hsr b _ e (by simp))]; exact hne b _ hb ((hG b hb).symm.trans e) (by simp)) fun b hb e => by
    rw [hso b (hsn b e)]; exact hno b hb ((hG b hb).symm.trans e)
 ·exact hg.dei.same fun b hb e => by rw [hso b (hsn b e)]; exact hno b hb ((hG b hb).symm.trans e)
 ·obtain ⟨rows2, ho2, hl2, hr2⟩ := hg.ord
  exact ⟨rows2, ho2.same fun b e hb => by
   have e9 := hr2 b e
   rw [hso b (hsr b _ e9 (by simp))]; exact hne b _ hb ((hG b hb).symm.trans e9) (by simp), hl2, hr2⟩
theorem DAt.addB (hh : DAt w G k p h nr dA dc oA oc bA bc lA lc rA rc) {rows : List (Array Value)} {row : Array Value} {o : Bu} {eA : Option Addr} {ec : Nat} {A' : Option Addr} {c' : Nat}
  (hl : rows.length = h.bus.length) (hv : ∀ (i : Nat) (o : Bu) (row : Array Value), h.bus[i]? = some o -> rows[i]? = some row -> ∃ eA ec, BuAt w G k i o row eA ec)
  (ho : OwnL w' 97 2 A' c' (rows ++ [row])) (hk : Keep (fun b => bA = some ⟨b, 0, none⟩) w w') (hor : RoleOf G bA (k, .bar)) (hG : ∀ b, b < w.heap.size -> G' b = G b) (hA : RoleOf G' A' (k, .bar)) (hx : BuAt w' G' k h.bus.length o row eA ec) :
  DAt (w'.setCell ⟨p, 2, none⟩ (.slice A' (rows.length + 1) c')) G' k p { h with bus := h.bus ++ [o] } nr dA dc oA oc A' c' lA lc rA rc := by
 have hpl := heap_lt hh.blk
 have hne : ∀ b r, b < w.heap.size -> G b = some (k, r) -> r ≠ .bar -> w'.heap[b]? = w.heap[b]? := fun b r hb e hr => hk.block b hb fun e2 => by have := hor b e2; rw [e] at this; cases this; exact hr rfl
 have hno : ∀ b, b < w.heap.size -> G b = none -> w'.heap[b]? = w.heap[b]? := fun b hb e => hk.block b hb fun e2 => by have := hor b e2; rw [e] at this; cases this
 have hpn : G' p = some (k, .hdr) := (hG p hpl).trans hh.rp
 have hp7 : w'.heap[p]? = some (.cells (cellD dA h.dei.length dc oA h.obs.length oc bA h.bus.length bc lA h.lev.length lc rA nr rc) 92 (0, 0)) := (hne p _ hpl hh.rp (by simp)).trans hh.blk
 have hset := (dhdr_set (j := 2) (v := .slice A' (rows.length + 1) c') hp7).2.2
 have hso : ∀ b, b ≠ p -> (w'.setCell ⟨p, 2, none⟩ (.slice A' (rows.length + 1) c')).heap[b]? = w'.heap[b]? := fun b hb => heap_setCell_other _ _ _ _ hb
 have hsr : ∀ b r, G' b = some (k, r) -> r ≠ .hdr -> b ≠ p := fun b r e hr e2 => by rw [e2, hpn] at e; cases e; exact hr rfl
 have hsn : ∀ b, G' b = none -> b ≠ p := fun b e e2 => by rw [e2, hpn] at e; cases e
 have hg := hh.regh hG
 refine ⟨?_, hpn, ?_, ?_, ?_, ?_, ?_⟩
 ·rw [hset, hl]
  show _ = some (Obj.cells (cellD dA h.dei.length dc oA h.obs.length oc A' (h.bus ++ [o]).length c' lA h.lev.length lc rA nr rc) 92 (0, 0))
  rw [List.length_append]; rfl
 ·exact hg.obs.same (fun b hb e => by
   rcases e with e | ⟨i, e⟩ <;> (rw [hso b (hsr b _ e (by simp))]; exact hne b _ hb ((hG b hb).symm.trans e) (by simp))) fun b hb e => by
    rw [hso b (hsn b e)]; exact hno b hb ((hG b hb).symm.trans e)
 ·refine ⟨rows ++ [row], ho.same (fun g e _ => hso g (hsr g _ (hA g e) (by simp))), by simp [hl], hA, fun i x rw0 hi hri => ?_⟩
  rcases Nat.lt_trichotomy i h.bus.length with e | e | e
  ·rw [List.getElem?_append_left (by omega)] at hi hri
   obtain ⟨fA, fc, h3⟩ := hv i x rw0 hi hri
   have h4 : BuAt w G' k i x rw0 fA fc := ⟨h3.eq, h3.elm.regh hG⟩
   refine ⟨fA, fc, h4.same (fun b hb e2 => ?_) (fun b hb e2 => ?_)⟩
   ·rw [hso b (hsr b _ e2 (by simp))]; exact hne b _ hb ((hG b hb).symm.trans e2) (by simp)
   ·rw [hso b (hsn b e2)]; exact hno b hb ((hG b hb).symm.trans e2)
  ·rw [e, List.getElem?_concat_length] at hi
   rw [e, <- hl, List.getElem?_concat_length] at hri
   cases hi; cases hri
   subst e
   exact ⟨eA, ec, hx.same (fun b _ e2 => hso b (hsr b _ e2 (by simp))) (fun b _ e2 => hso b (hsn b e2))⟩
  ·rw [List.getElem?_eq_none (by simp; omega)] at hi; cases hi
 ·exact hg.lev.same (fun b hb e => by
   rw [hso b (hsr b _ e (by simp))]; exact hne b _ hb ((hG b hb).symm.trans e) (by simp)) fun b hb e => by
    rw [hso b (hsn b e)]; exact hno b hb ((hG b hb).symm.trans e)
 ·exact hg.dei.same fun b hb e => by rw [hso b (hsn b e)]; exact hno b hb ((hG b hb).symm.trans e)
 ·obtain ⟨rows2, ho2, hl2, hr2⟩ := hg.ord
  exact ⟨rows2, ho2.same fun b e hb => by
   have e9 := hr2 b e
   rw [hso b (hsr b _ e9 (by simp))]; exact hne b _ hb ((hG b hb).symm.trans e9) (by simp), hl2, hr2⟩
theorem DDone.grow {rl : Role} (hrl : rl ≠ .tmp) {h' : Hp} {A A' : Option Addr} {j : Nat} {v : Value} {ty : TypeId} {sz cc : Nat} {rows : List (Array Value)} (hf : Fr w G) (hp : G p = some (k, .hdr)) (hpl : p < w.heap.size) (hor : RoleOf G A (k, rl)) (hk : Keep (fun b => A = some ⟨b, 0, none⟩) w w') (hA : A' = A ∨ ∃ g, A' = some ⟨g, 0, none⟩ /\ w.heap.size <= g) (ho : OwnL w' ty sz A' cc rows)
  (hh : DHeapAt (w'.setCell ⟨p, j, none⟩ v) (own G A' (k, rl)) k p h' nr) : DDone w G k p h' nr (w'.setCell ⟨p, j, none⟩ v) (own G A' (k, rl)) where
 heap := hh
 fr := fun b hb => by
  have hb2 : w'.heap.size <= b := by simpa using hb
  unfold own
  split
  ·rename_i e
   rcases ho.el with ⟨e1, -⟩ | ⟨g, cur, e1, hg, -⟩
   ·rw [e1] at e; cases e
   ·rw [e1] at e; cases e; have := heap_lt hg; omega
  ·exact hf b (by have := hk.size; omega)
 old := own_again hor hA
 new := fun b hb => by
  unfold own
  split
  ·exact .inr ⟨_, rfl⟩
  ·exact .inl (hf b hb)
 keep := by
  have h1 := Keep.cellOne w' p j v
  refine ((Keep.refl (Mine G k) w).trans (C' := fun b => A = some ⟨b, 0, none⟩) (fun b e => .inl ⟨_, hor b e, hrl⟩) hk).trans (C' := fun b => b = p) (fun b e => .inl ⟨.hdr, by rw [e]; exact hp, by simp⟩) h1
theorem DDone.addB (hh : DAt w G k p h nr dA dc oA oc bA bc lA lc rA rc) (hf : Fr w G) {rows : List (Array Value)} {l : List Va} {n : Int} {eA : Option Addr} {ec : Nat} {A' : Option Addr} {c' : Nat}
  (hl : rows.length = h.bus.length) (hv : ∀ (i : Nat) (o : Bu) (row : Array Value), h.bus[i]? = some o -> rows[i]? = some row -> ∃ eA ec, BuAt w G k i o row eA ec)
  (ho : OwnL w' 97 2 A' c' (rows ++ [#[.int .i64 n, .slice eA l.length ec]])) (hk : Keep (fun b => bA = some ⟨b, 0, none⟩) w w') (hor : RoleOf G bA (k, .bar)) (hA : A' = bA ∨ ∃ g, A' = some ⟨g, 0, none⟩ /\ w.heap.size <= g) (hx : ListV w G (k, .elm h.bus.length) l eA ec) :
  DDone w G k p { h with bus := h.bus ++ [⟨n, l⟩] } nr (w'.setCell ⟨p, 2, none⟩ (.slice A' (rows.length + 1) c')) (own G A' (k, .bar)) :=
 DDone.grow (by simp) hf hh.rp (heap_lt hh.blk) hor hk hA ho ⟨_, _, _, _, _, _, _, _, _, _, hh.addB hl hv ho hk hor (own_again hor hA) (own_role _ _ _) ⟨rfl, hx.moved hk (role_ne hor (by simp)) (own_again hor hA)⟩⟩
theorem DDone.addO (hh : DAt w G k p h nr dA dc oA oc bA bc lA lc rA rc) (hf : Fr w G) {rows : List (Array Value)} {tr : Array Value} {o : Ob} {fA : Option Addr} {fc : Nat} {A' : Option Addr} {c' : Nat}
  (hl : rows.length = h.obs.length) (hv : ∀ (i : Nat) (o : Ob) (row : Array Value), h.obs[i]? = some o -> rows[i]? = some row -> ∃ tr fA fc, ObAt w G k i o row tr fA fc)
  (ho : OwnL w' 41 8 A' c' (rows ++ [cell8 tr o.state o.count o.weak fA o.fields.length fc])) (hk : Keep (fun b => oA = some ⟨b, 0, none⟩) w w') (hor : RoleOf G oA (k, .arr)) (hA : A' = oA ∨ ∃ g, A' = some ⟨g, 0, none⟩ /\ w.heap.size <= g) (ht : TyAt w (Imm G) o.t tr) (hx : ListV w G (k, .fld h.obs.length) o.fields fA fc) :
  DDone w G k p { h with obs := h.obs ++ [o] } nr (w'.setCell ⟨p, 1, none⟩ (.slice A' (rows.length + 1) c')) (own G A' (k, .arr)) :=
 DDone.grow (by simp) hf hh.rp (heap_lt hh.blk) hor hk hA ho ⟨_, _, _, _, _, _, _, _, _, _, hh.addO hl hv ho hk hor (own_again hor hA) (own_role _ _ _) ⟨rfl, ht.moved hk (fun b e => (role_ne hor (y := (k, .hdr)) (by simp) b e).1) (own_again hor hA), hx.moved hk (role_ne hor (by simp)) (own_again hor hA)⟩⟩
theorem DDone.owned (hh : DHeapAt w G k p h nr) (hf : Fr w G) (hb : Below w.heap.size w w') {A : Option Addr} {r : Role} (hA : ∀ g, A = some ⟨g, 0, none⟩ -> w.heap.size <= g /\ g < w'.heap.size) : DDone w G k p h nr w' (own G A (k, r)) where
 heap := by
  obtain ⟨dA, dc, oA, oc, bA, bc, lA, lc, rA, rc, hh⟩ := hh
  exact ⟨_, _, _, _, _, _, _, _, _, _, (hh.regh (own_old fun g e => (hA g e).1)).old hb⟩
 fr := fun b hb2 => by
  unfold own
  rw [if_neg (fun e => by have := (hA b e).2; omega)]
  exact hf b (by have := hb.size; omega)
 old := own_old fun g e => (hA g e).1
 new := fun b hb2 => by
  unfold own
  split
  ·exact .inr ⟨_, rfl⟩
  ·exact .inl (hf b hb2)
 keep := Keep.of hb
end
open Go.RowKit Go.Proofs.Ytpamocglecangaa.Nm
set_option linter.unusedSimpArgs false
def CR (w wr : World) (l : List Va) (A : Option Addr) (c : Nat) (rows : List (Array Value)) : Prop := OwnL wr 35 9 A c rows /\ rows.length = l.length /\ (∀ g, A = some ⟨g, 0, none⟩ -> w.heap.size <= g) /\ ∀ (j : Nat) (v : Va) (row : Array Value), l[j]? = some v -> rows[j]? = some row -> VAt wr (fun b => w.heap.size <= b /\ A ≠ some ⟨b, 0, none⟩) v row
theorem CR.nil (w wr : World) : CR w wr [] none 0 [] := ⟨OwnL.nil _ _ _, rfl, fun g e => (by cases e), fun j v row _ h => (by simp at h)⟩
theorem CR.push {w wr W8 W9 : World} {l : List Va} {A A' : Option Addr} {c c' : Nat} {rows : List (Array Value)} (h : CR w wr l A c rows) (hz : Below wr.heap.size wr W8) (hw : w.heap.size <= wr.heap.size) {v : Va} {row7 : Array Value} (hv : VAt W8 (fun b => wr.heap.size <= b) v row7) (hown : OwnL W9 35 9 A' c' (rows ++ [row7])) (hk : Keep (fun b => A = some ⟨b, 0, none⟩) W8 W9) (hA : A' = A ∨ ∃ g, A' = some ⟨g, 0, none⟩ /\ W8.heap.size <= g) : CR w W9 (l ++ [v]) A' c' (rows ++ [row7]) := by
 obtain ⟨ho, hl, hge, hvs⟩ := h
 have hltA : ∀ g, A = some ⟨g, 0, none⟩ -> g < wr.heap.size := fun g e => by
  rcases ho.el with ⟨e1, -, -⟩ | ⟨g', cur, e1, e2, -⟩
  ·rw [e1] at e; cases e
  ·rw [e1] at e; cases e; exact heap_lt e2
 have hsz := hz.size
 refine ⟨hown, by simp [hl], fun g e => ?_, fun i u row hu hr => ?_⟩
 ·rcases hA with e2 | ⟨g', e2, e3⟩
  ·exact hge g (by rw [<- e2]; exact e)
  ·rw [e] at e2; cases e2; omega
 ·rcases Nat.lt_trichotomy i rows.length with e | e | e
  ·rw [List.getElem?_append_left e] at hr
   rw [List.getElem?_append_left (by omega)] at hu
   refine ((hvs i u row hu hr).low).mono (D' := fun b => w.heap.size <= b /\ A' ≠ some ⟨b, 0, none⟩) (fun b h9 => ⟨h9.1.1, fun e2 => ?_⟩) fun b h9 _ => (hk.block b (by have := h9.2; omega) fun e2 => h9.1.2 e2).trans (hz.block b h9.2)
   rcases hA with e3 | ⟨g', e3, e4⟩
   ·exact h9.1.2 (by rw [<- e3]; exact e2)
   ·rw [e2] at e3; cases e3; have := h9.2; omega
  ·have e0 : i = l.length := by omega
   rw [e] at hr
   rw [e0] at hu
   rw [List.getElem?_concat_length] at hr hu
   cases hr; cases hu
   refine hv.low.mono (D' := fun b => w.heap.size <= b /\ A' ≠ some ⟨b, 0, none⟩) (fun b h9 => ⟨by have := h9.1; omega, fun e2 => ?_⟩) fun b h9 _ => hk.block b h9.2 fun e2 => by have := hltA b e2; have := h9.1; omega
   rcases hA with e3 | ⟨g', e3, e4⟩
   ·have := hltA b (by rw [<- e3]; exact e2); have := h9.1; omega
   ·rw [e2] at e3; cases e3; have := h9.2; omega
  ·rw [List.getElem?_eq_none (by simp; omega)] at hr; cases hr
theorem HdrD.old {w w' : World} {p no nb : Nat} (h : HdrD w p no nb) (hb : Below w.heap.size w w') : HdrD w' p no nb := by
 obtain ⟨dA, dl, dc, oA, oc, bA, bc, lA, ll, lc, rA, rl, rc, h⟩ := h
 exact ⟨_, _, _, _, _, _, _, _, _, _, _, _, _, below_look hb h⟩
def tkV (no nb : Nat) (v : Va) : Va := if ofV no nb v then v else va0
theorem dtaken_any {p no nb : Nat} (hno : no <= maxLen) (hnb : nb <= maxLen) {l : List Va} {w : World} {D : Nat -> Prop} {A : Option Addr} {n c : Nat} (hv : VsAt w D l A n c) (hn : n <= 1000000) (hnd : ∀ v, v ∈ l -> nodesF v <= 1000000) (hh : HdrD w p no nb) :
  Calls Try.prog 84 #[.pointer (some ⟨p, 0, none⟩), .slice A n c] w (NewC w (l.map (tkV no nb))) := by
 have HT := Zi hv
 have HL := Zi hv.len
 have HND := Zi hnd
 have HH := Zi hh
 have HNO := Zi (And.intro hno hnb)
 have hzs : zrow.size = 9 := rfl
 have zone : zrow.all (·.oneCell') = true := (zero_va w D).one
 clear hv hh hnd hno hnb
 have hb := Below.refl w.heap.size w
 go_enter Try.func84, Try.ntmps84
 go_wp2_with fail
 go_loopw [5, 6] (fun v i wr => ∃ (j : Nat) (A9 : Option Addr) (c9 : Nat) (rows : List (Array Value)), j <= n /\ v = .slice A9 j c9 /\ i = .int .i64 (j : Int) /\ Hid (CR w wr ((l.map (tkV no nb)).take j) A9 c9 rows) /\ Below w.heap.size w wr) (fun _ i _ => n - (intOf i).toNat)
 case atStart => exact ⟨0, none, 0, [], by omega, rfl, rfl, Zi (CR.nil _ _), hb⟩
 case round =>
  clear hb
  obtain ⟨j, A9, c9, rows, hj, rfl, rfl, HCR, hb⟩ := hrel
  have HRL : Hid (rows.length = j) := Zi (by rw [HCR.out.2.1, List.length_take, List.length_map, HL.out]; omega)
  go_upto_region 3 with fail
  by_cases hlt : j < n
  ·have hltI : (j : Int) < (n : Int) := by omega
   obtain ⟨b2, off2, u, rowu, rfl, -, hu, hua, hrow⟩ := (HT.out.old hb).getB hlt
   have HTK : Hid ((l.map (tkV no nb)).take j ++ [tkV no nb u] = (l.map (tkV no nb)).take (j + 1)) := Zi (by rw [List.take_add_one, List.getElem?_map, hu]; rfl)
   have HNU := Zi (HND.out u (List.mem_of_getElem? hu))
   have HUA := Zi hua
   have HRU := Zi hrow
   have hzz := Below.refl wr.heap.size wr
   clear hu hua hrow
   apply Zl
   iterate 4 refine Zm ?_
   go_upto_region 5 with fail
   apply Zl
   refine wl_w rfl (build35 _ _ rfl _) ?_
   simp only [Zq]
   (with_reducible refine wl_allV ?_); intro W5 q hbn hlq hq; replace hzz := hzz.trans (hbn.mono hzz.size); clear hbn; simp only [Zq]
   (with_reducible refine wl_putV hzs zone hzs rfl rfl hq ?_); rw [put_noneA]; intro W6 hbx hsz hkx hnx
   replace hzz := hbx _ _ (by omega) hzz
   clear hq hbx hkx hsz
   have hq := hnx
   clear hnx
   obtain ⟨bb, hbb⟩ : ∃ b, b = ofV no nb u := ⟨_, rfl⟩
   have hc := dof_any p no nb HNO.out.1 HNO.out.2 u W6 _ _ (HUA.out.old hzz) (HH.out.old (hb.trans (hzz.mono hb.size)))
   rw [<- hbb] at hc
   have HC := Zi hc
   have HB := Zi hbb
   have HRV := Zi (HRU.out W6 hzz)
   have hlq0 := hlq
   clear hc hbb
   go_upto_region 6 with fail
   apply Zl
   iterate 4 refine Zm ?_
   refine Zw rfl (HRV.out) ?_
   refine Zn HC.out ?_; rintro e w7 ⟨rfl, hb7⟩; refine ⟨_, rfl, ?_⟩; simp only [Zq]
   replace hq := below_look hb7 hq; replace hzz := hzz.trans (hb7.mono hzz.size); clear hb7
   clear HC HRV
   cases bb with
   | false =>
    have HV : Hid (VAt w7 (fun b => wr.heap.size <= b) (tkV no nb u) zrow) := Zi (by unfold tkV; rw [<- HB.out]; exact zero_va _ _)
    go_upto_region 8 with fail
    apply Zl
    refine Zm ?_
    refine Zw rfl (row35 hq HV.out.size) ?_
    (with_reducible refine wl_bsV rfl HV.out.size ?_)
    intro W8 q8 hbn hlq8 hq8
    simp only [Zq]
    have HZ := Zi (hzz.trans (hbn.mono hzz.size))
    have HC8 := Zi (HCR.out.1.old HZ.out)
    have HV8 := Zi (HV.out.old hbn)
    have hb8 := hb.trans (HZ.out.mono hb.size)
    clear hbn hq
    refine wl_pushL elt33 rfl _ _ rfl (show _ = Value.slice A9 rows.length c9 by rw [HRL.out]; rfl) rfl HC8.out hq8 HV8.out.size HV8.out.one (by have := HRL.out; omega) (by have := HRL.out; unfold maxLen; omega) ?_
    rw [HRL.out]
    intro A' c' W9 hown hk9 hA9
    have hb9 := Below.keep hb8 hk9 (fun b e => HCR.out.2.2.1 b e)
    have hcr := HCR.out.push HZ.out hb.size HV8.out hown hk9 hA9
    rw [HTK.out] at hcr
    have HCR9 := Zi hcr
    clear hown hk9 hA9 hcr HCR HZ HC8 HV8 hb8 hq8 hb hzz
    simp only [Zq]
    refine Zm ?_
    go_wp2_with fail
    go_roundw
    case rel => exact ⟨j + 1, A', c', rows ++ [zrow], by omega, rfl, by go_num, HCR9, hb9⟩
    case measure => simp [intOf]; omega
   | true =>
    have HTU : Hid (tkV no nb u = u) := Zi (by unfold tkV; rw [<- HB.out]; rfl)
    have HC := Zi (CopyValue_any u HNU.out w7 _ _ (HUA.out.old hzz))
    have HRV := Zi (HRU.out w7 hzz)
    go_upto_region 7 with fail
    apply Zl
    iterate 3 refine Zm ?_
    refine Zw rfl (HRV.out) ?_
    refine Zn HC.out ?_; rintro e w8 ⟨row8, rfl, hv8, hb8⟩; refine ⟨_, rfl, ?_⟩; simp only [Zq]
    have hs8 := hv8.size
    have h18 := hv8.one
    have hlq8 := heap_lt hq
    have HVp : Hid (VAt w8 (fun b => wr.heap.size <= b /\ b ≠ q) u row8) := Zi (hv8.weak fun b (h9 : w7.heap.size <= b) => ⟨by have := hzz.size; omega, by omega⟩)
    clear hv8
    replace hq := below_look hb8 hq; replace hzz := hzz.trans (hb8.mono hzz.size); clear hb8
    (with_reducible refine wl_putV hs8 h18 hzs rfl rfl hq ?_); rw [put_noneA]; intro W10 hbx hsz hkx hnx; replace hzz := hbx _ _ (by omega) hzz; clear hq; have hq := hnx; clear hnx
    have HV : Hid (VAt W10 (fun b => wr.heap.size <= b) (tkV no nb u) row8) := Zi (by rw [HTU.out]; exact HVp.out.mono (fun _ h => h.1) (fun b h9 _ => hkx b h9.2))
    clear hbx hkx hsz HVp HC HRV
    go_upto_region 8 with fail
    apply Zl
    refine Zm ?_
    refine Zw rfl (row35 hq HV.out.size) ?_
    (with_reducible refine wl_bsV rfl HV.out.size ?_)
    intro W8 q8 hbn hlq8 hq8
    simp only [Zq]
    have HZ := Zi (hzz.trans (hbn.mono hzz.size))
    have HC8 := Zi (HCR.out.1.old HZ.out)
    have HV8 := Zi (HV.out.old hbn)
    have hb8 := hb.trans (HZ.out.mono hb.size)
    clear hbn hq
    refine wl_pushL elt33 rfl _ _ rfl (show _ = Value.slice A9 rows.length c9 by rw [HRL.out]; rfl) rfl HC8.out hq8 HV8.out.size HV8.out.one (by have := HRL.out; omega) (by have := HRL.out; unfold maxLen; omega) ?_
    rw [HRL.out]
    intro A' c' W9 hown hk9 hA9
    have hb9 := Below.keep hb8 hk9 (fun b e => HCR.out.2.2.1 b e)
    have hcr := HCR.out.push HZ.out hb.size HV8.out hown hk9 hA9
    rw [HTK.out] at hcr
    have HCR9 := Zi hcr
    clear hown hk9 hA9 hcr HCR HZ HC8 HV8 hb8 hq8 hb hzz
    simp only [Zq]
    refine Zm ?_
    go_wp2_with fail
    go_roundw
    case rel => exact ⟨j + 1, A', c', rows ++ [row8], by omega, rfl, by go_num, HCR9, hb9⟩
    case measure => simp [intOf]; omega
  ·have hltI : ¬ (j : Int) < (n : Int) := by omega
   have hjl : Hid (j = (l.map (tkV no nb)).length) := Zi (by rw [List.length_map, HL.out]; omega)
   have HE := Zi HCR.out
   apply Zl
   iterate 4 refine Zm ?_
   go_upto_region 9 with fail
   apply Zl
   iterate 2 refine Zm ?_
   go_wp2_with fail
   go_ret
   have hx := HE.out
   rw [List.take_of_length_le (by rw [<- hjl.out]; exact Nat.le_refl _)] at hx
   obtain ⟨g1, g2, g3, g4⟩ := hx
   exact ⟨A9, c9, rows, by rw [<- hjl.out]; rfl, g1, g2, g3, g4, hb⟩
theorem DDone.listC {w w' : World} {G : Gh} {k p nr : Nat} {h : Hp} (hh : DHeapAt w G k p h nr) (hf : Fr w G) {l : List Va} {A : Option Addr} {c : Nat} {rows : List (Array Value)} {r : Role} (ho : OwnL w' 35 9 A c rows) (hl : rows.length = l.length) (hA : ∀ g, A = some ⟨g, 0, none⟩ -> w.heap.size <= g) (hv : ∀ (j : Nat) (v : Va) (row : Array Value), l[j]? = some v -> rows[j]? = some row -> VAt w' (fun b => w.heap.size <= b /\ A ≠ some ⟨b, 0, none⟩) v row) (hb : Below w.heap.size w w') :
  DDone w G k p h nr w' (own G A (k, r)) /\ ListV w' (own G A (k, r)) (k, r) l A c := by
 refine ⟨DDone.owned hh hf hb fun g e => ⟨hA g e, ?_⟩, rows, ho, hl, own_role _ _ _, fun j v row h1 h2 => (hv j v row h1 h2).weak fun b hb2 => ?_⟩
 ·rcases ho.el with ⟨e1, -⟩ | ⟨g', cur, e1, hg, -⟩
  ·rw [e1] at e; cases e
  ·rw [e1] at e; cases e; exact heap_lt hg
 ·unfold Imm own
  rw [if_neg hb2.2]
  exact hf b hb2.1
theorem dtaken_done {w : World} {G : Gh} {k p nr : Nat} {h : Hp} (hh : DHeapAt w G k p h nr) {l : List Va} {D : Nat -> Prop} {A : Option Addr} {n c : Nat} (hv : VsAt w D l A n c) (hn : n <= 1000000) (hnd : ∀ v, v ∈ l -> nodesF v <= 1000000) :
  Calls Try.prog 84 #[.pointer (some ⟨p, 0, none⟩), .slice A n c] w (NewC w (takenV h l)) := by
 obtain ⟨dA, dc, oA, oc, bA, bc, lA, lc, rA, rc, hh⟩ := hh
 exact dtaken_any (Nat.le_trans hh.lens.1 hh.lens.2.1) (Nat.le_trans hh.lens.2.2.1 hh.lens.2.2.2.1) hv hn hnd hh.hdr
def DValOf (w : World) (G : Gh) (k p nr : Nat) (r : Hp × Va) (e : Ending) (w' : World) : Prop := ∃ G' row, e = .returned (.agg row) /\ VAt w' (Imm G') r.2 row /\ DDone w G k p r.1 nr w' G'
theorem dMake_any {G : Gh} {k p nr : Nat} {h : Hp} {w : World} (hh : DHeapAt w G k p h nr) (hf : Fr w G) (hnb : h.obs.length <= 1000000) {t : Ty} {tr : Array Value} (ht : TyAt w (Imm G) t tr) (hnt : t.nodes <= 1000000) {l : List Va} {A : Option Addr} {n c : Nat} (hv : VsAt w (Imm G) l A n c) (hn : n <= 1000000) (hnd : ∀ v, v ∈ l -> nodesF v <= 1000000) :
  Calls Try.prog 45 #[.pointer (some ⟨p, 0, none⟩), .agg tr, .slice A n c] w (DValOf w G k p nr (makeP h t l)) := by
 have HX := Zi hh
 have HF := Zi hf
 have HT := Zi ht
 have HV := Zi hv
 have HND := Zi hnd
 have HNT := Zi hnt
 have hzs : zrow.size = 9 := rfl
 have zone : zrow.all (·.oneCell') = true := (zero_va w (Imm G)).one
 have hb := Below.refl w.heap.size w
 obtain ⟨k0, s0, n0, A1, l1, c1, ts0, he, rfl, -⟩ := ht.parts
 clear hh hf ht hv he hnd hnt
 go_enter Try.func45, Try.ntmps45
 go_upto_region 0 with fail
 apply Zl
 (with_reducible refine wl_box rfl ?_); intro W q hbn hlq hq; replace hb := hb.trans (hbn.mono hb.size); clear hbn; simp only [Zq]
 have lthqr := heap_lt hq; (with_reducible refine wl_allV ?_); intro W2 r hbn hlr hr; replace hq := below_look hbn hq; replace hb := hb.trans (hbn.mono hb.size); clear hbn; simp only [Zq]
 have hrl : w.heap.size <= r := by omega
 have HRl := Zi hrl
 have hqG : G q = none := HF.out q (by omega)
 have HQ : Hid (mark G k r q = none) := Zi (by unfold mark; rw [if_neg (by have := heap_lt hq; omega)]; exact hqG)
 have HDn := Zi (DDone.marked HX.out HF.out hb hrl (heap_lt hr))
 have HM := Zi (mark_same G k r)
 have HTm : Hid (TyAt W2 (Imm (mark G k r)) t _) := Zi (HT.out.moved (Keep.of (C := fun _ => False) hb) (fun b e => e.elim) HDn.out.old)
 have HVm : Hid (VsAt W2 (Imm (mark G k r)) l A n c) := Zi ((HV.out.low.old hb).weak fun b hb2 => by
  have : mark G k r b = G b := if_neg (by have := hb2.2; omega)
  unfold Imm; rw [this]; exact hb2.1)
 clear HX HF HT HV hb hrl hqG
 obtain ⟨dA, dc, oA, oc, bA, bc, lA, lc, rA, rc, hh⟩ := HDn.out.heap
 have HH := Zi hh
 have hp := hh.blk
 have hor := hh.obs.choose_spec.2.2.1
 have hnp : ¬ (oA = some ⟨p, 0, none⟩) := fun e2 => by have := hor p e2; rw [hh.rp] at this; cases this
 have hnq : ¬ (oA = some ⟨q, 0, none⟩) := fun e2 => by have := hor q e2; rw [HQ.out] at this; cases this
 have hnr : ¬ (oA = some ⟨r, 0, none⟩) := fun e2 => by have := hor r e2; rw [HM.out] at this; cases this
 have HNP := Zi hnp
 have HNQ := Zi hnq
 have HNR := Zi hnr
 clear hnp hnq hnr hor hh
 have hbz : Below W2.heap.size W2 W2.drew := (Below.refl _ _).drew
 have HC1 := Zi (CopyType_any t HNT.out W2.drew _ _ (HTm.out.old hbz))
 go_upto_region 1 with fail
 refine wp_region_Z (S := fun w' => Keep (fun b => oA = some ⟨b, 0, none⟩) W2 w') 12 mixed (Keep.of hbz) (fun hS => ?_)
 refine zm 0 hS ?_; try simp only [Zq]
 refine zm 1 hS ?_; try simp only [Zq]
 refine zm 2 hS ?_; try simp only [Zq]
 refine zv4 (i := 3) rfl (by kernel_rfl) Zg hS rfl (fun w' hw' => ex_one rfl (dh1 (hw'.look hp HNP.out))) ?_; try simp only [Zq]
 refine zv4 (i := 4) rfl (by kernel_rfl) Zg hS rfl (fun w' hw' => ex_row rfl (f4 (hw'.look hq HNQ.out))) ?_; try simp only [Zq]
 refine zm 6 hS ?_; try simp only [Zq]
 refine zm 7 hS ?_; try simp only [Zq]
 refine za_call (i := 5) (by kernel_rfl) rfl rfl (fun K hK => ?_); go_simp; refine ⟨_, _, ⟨rfl, rfl⟩, hK _ _ ⟨_, HC1.out, ?_⟩⟩; clear hK K; rintro e w5 ⟨row5, rfl, hty5, hb5⟩
 have hb5' := hbz.trans (hb5.mono hbz.size)
 have hS5 : Keep (fun b => oA = some ⟨b, 0, none⟩) W2 w5 := Keep.of hb5'
 refine ⟨_, rfl, fun _ => hS5, ?_⟩
 clear hS
 have hS := hS5
 try simp only [Zq]
 have hs5 := hty5.size
 have h15 := ty_one hty5
 have HT5 : Hid (TyAt w5 (Imm (mark G k r)) t row5) := Zi (hty5.weak fun b (h9 : W2.drew.heap.size <= b) => HDn.out.fr b (by have := hbz.size; omega))
 replace HDn := Zi (HDn.out.quiet hb5')
 have HC2 := Zi (dtaken_done HDn.out.heap (HVm.out.old hb5') hn HND.out)
 clear hty5 HC1
 refine za_call (i := 8) (by kernel_rfl) rfl rfl (fun K hK => ?_); go_simp; refine ⟨_, _, ⟨rfl, rfl⟩, hK _ _ ⟨_, HC2.out, ?_⟩⟩; clear hK K; rintro e w7 ⟨A7, c7, rows7, rfl, hown7, hl7, hA7, hv7, hb7⟩
 have hb7' := hb5'.trans (hb7.mono hb5'.size)
 have hS7 : Keep (fun b => oA = some ⟨b, 0, none⟩) W2 w7 := Keep.of hb7'
 refine ⟨_, rfl, fun _ => hS7, ?_⟩
 clear hS hS5
 have hS := hS7
 try simp only [Zq]
 obtain ⟨hd7, hlv7⟩ := DDone.listC (r := .fld h.obs.length) HDn.out.heap HDn.out.fr hown7 hl7 hA7 hv7 hb7
 obtain ⟨G7, hG7⟩ : ∃ G7, G7 = own (mark G k r) A7 (k, .fld h.obs.length) := ⟨_, rfl⟩
 rw [<- hG7] at hd7 hlv7
 have hz5 := hb5'.size
 have HR7 : Hid (G7 r = some (k, .tmp)) := Zi ((hd7.old r (by have := heap_lt hr; omega)).trans HM.out)
 have HQ7 : Hid (G7 q = none) := Zi ((hd7.old q (by have := heap_lt hq; omega)).trans HQ.out)
 have HT7 : Hid (TyAt w7 (Imm G7) t row5) := Zi (HT5.out.moved (Keep.of (C := fun _ => False) hb7) (fun b e => e.elim) hd7.old)
 have HL7 := Zi hlv7
 have HH7 := Zi ((HH.out.regh fun b hb => hd7.old b (by omega)).old hb7')
 replace HDn := Zi (HDn.out.trans hd7)
 clear hG7 hd7 hlv7 hown7 hl7 hA7 hv7 hb7 HC2 HT5 HH HVm HTm hb5 hb5' hz5
 refine zv4 (i := 9) rfl (by kernel_rfl) Zg hS rfl (fun w' hw' => ex_build41 _ _ _ _ rfl hs5 rfl rfl rfl rfl) ?_; try simp only [Zq]
 have h8 := (cell8_at hs5 1 1 0 A7 (takenV h l).length c7).1
 refine za_new (i := 10) (v := fun q => .slice (some ⟨q, 0, none⟩) 1 1) (by kernel_rfl) rfl rfl (ex_bs38 _ rfl rfl h8) (fun W hW => hS.trans (C' := fun _ => False) (fun b e => e.elim) (Keep.of hW)) ?_
 clear hS hS7
 intro W8 q8 hbn hlq8 hq8 hS
 try simp only [Zq]
 replace HDn := Zi (HDn.out.quiet hbn)
 have HH := Zi (HH7.out.old hbn)
 replace HL7 := Zi (HL7.out.moved (Keep.of (C := fun _ => False) hbn) (fun b e => e.elim) (fun _ _ => rfl))
 replace HT7 := Zi (HT7.out.old hbn)
 have hb8 := hb7'.trans (hbn.mono hb7'.size)
 have hp8 := below_look hb8 hp
 have hr8 := below_look hb8 hr
 clear hbn hb7' HH7 hb8 hbz
 obtain ⟨rows, ho, hlr, hor, hvr⟩ := HH.out.obs
 have HO := Zi ho
 have HV8 := Zi hvr
 have HOR := Zi hor
 have HLR := Zi hlr
 have hlen : rows.length <= 1000000 := by omega
 have hrl8 := heap_lt hr8
 have hpl8 := heap_lt hp8
 clear ho hvr hor
 have hr41 : (cell8 row5 1 1 0 A7 (takenV h l).length c7).all (·.oneCell') = true := by
  unfold cell8
  rw [Array.all_append, h15]
  simp [Value.oneCell']
 refine za_pushL (i := 11) elt38 (by kernel_rfl) rfl rfl _ _ rfl (show _ = Value.slice oA rows.length oc by rw [HLR.out]; rfl) rfl HO.out hq8 h8 hr41 (by omega) (by unfold maxLen; omega) (fun w' hk => hS.trans (C' := fun b => oA = some ⟨b, 0, none⟩) (fun b e => .inl e) hk) ?_
 clear hS
 intro A9 c9 W9 hown hk9 hA9 hS
 rw [HLR.out]
 try simp only [Zq]
 replace hp8 := hk9.look hp8 HNP.out
 replace hr8 := hk9.look hr8 HNR.out
 have hd10 := DDone.addO (o := ⟨t, 1, 1, 0, takenV h l⟩) HH.out HDn.out.fr HLR.out HV8.out hown hk9 HOR.out hA9 HT7.out HL7.out
 rw [HLR.out] at hd10
 have hHR := (own_again (G := G7) HOR.out hA9 r hrl8).trans HR7.out
 obtain ⟨nb, hnb⟩ : ∃ n, n = h.obs.length + 1 := ⟨_, rfl⟩
 rw [<- hnb] at hd10 ⊢
 have HNB := Zi hnb
 clear hnb
 have HDN := Zi (HDn.out.trans hd10)
 have HHR := Zi hHR
 obtain ⟨hs1, hs2, hs3⟩ := dhdr_set (j := 1) (v := .slice A9 nb c9) hp8
 have hs1 := hs1 (by omega)
 have hrp : r ≠ p := fun e => by have := HR7.out; rw [e, HH.out.rp] at this; cases this
 replace hr8 := (heap_setCell_other W9 ⟨p, 1, none⟩ r (.slice A9 nb c9) hrp).trans hr8
 clear hown hk9 hA9 hd10 hHR HDn HT7 HR7 HH HL7 HO HV8 HOR HQ7 hp8 hq8
 refine zn 12 hS ?_; try simp only [Zq]
 clear hS
 refine za_done (by kernel_rfl) ?_ _
 clear hp hq hr
 go_upto_region 2 with fail
 apply Zl
 iterate 4 refine Zm ?_
 refine wl_storeC rfl 38 _ _ rfl p 1 (.slice A9 nb c9) rfl rfl info38 rfl hs1 hs2 ?_
 rw [put_noneA]
 obtain ⟨W10, hW⟩ : ∃ W, W = W9.setCell ⟨p, 1, none⟩ (.slice A9 nb c9) := ⟨_, rfl⟩
 rw [<- hW] at HDN hs3 hr8 ⊢
 have hr := hr8
 have hnI : (nb : Int) - 1 = (h.obs.length : Int) := by have := HNB.out; omega
 have hnw : IntKind.i64.wrap (h.obs.length : Int) = (h.obs.length : Int) := IntWalk.i64_in _ (by omega)
 have hnwf : (Lit.int .i64 (h.obs.length : Int)).wf = true := wf64 (by omega)
 clear hs1 hs2 hs3 hW hlen hrl8 hpl8 hrp hr8
 go_upto_region 3 with fail
 apply Zl
 iterate 3 refine Zm ?_
 refine wl_w rfl (ex_build35n _ _ rfl rfl rfl) ?_
 simp only [Zq]
 have HV11 := Zi (nrow_at W10 (Imm (own G7 A9 (k, .arr))) (k := 7) (n := (h.obs.length : Int)) (by rfl) hnwf)
 (with_reducible refine wl_putV rfl HV11.out.one hzs rfl rfl hr ?_); rw [put_noneA]; intro W12 hbx hsz hkx hnx
 have HK12 := Zi (Keep.of_put hbx hsz hkx)
 clear hbx hsz hkx hr
 go_wp2_with fail
 refine bodyPost_ret (res35 rfl _ _ r rfl rfl hnx) rfl ?_
 exact ⟨_, _, rfl, HV11.out.put HHR.out HK12.out, HDN.out.put HHR.out HRl.out HK12.out⟩
theorem DDone.newty {w W w2 : World} {G G1 : Gh} {k p n : Nat} {h : Hp} (d : DDone w G k p h n W G1) {t : Ty} {row : Array Value} (hv : TyAt w2 (fun b => W.heap.size <= b) t row) : TyAt w2 (Imm G1) t row := hv.weak fun b hb => d.fr b hb
theorem dArray_any {G : Gh} {k p nr : Nat} {h : Hp} {w : World} (hh : DHeapAt w G k p h nr) (hf : Fr w G) (hnb : h.bus.length <= 1000000) {t : Ty} {tr : Array Value} (ht : TyAt w (Imm G) t tr) (hnt : t.nodes <= 1000000) {l : List Va} {A : Option Addr} {n c : Nat} (hv : VsAt w (Imm G) l A n c) (hn : n <= 1000000) (hnd : ∀ v, v ∈ l -> nodesF v <= 1000000) :
  Calls Try.prog 46 #[.pointer (some ⟨p, 0, none⟩), .agg tr, .slice A n c] w (DValOf w G k p nr (arrayP h t l)) := by
 have HX := Zi hh
 have HF := Zi hf
 have HT := Zi ht
 have HV := Zi hv
 have HND := Zi hnd
 have HNT := Zi hnt
 have hzs : zrow.size = 9 := rfl
 have zone : zrow.all (·.oneCell') = true := (zero_va w (Imm G)).one
 have hb := Below.refl w.heap.size w
 obtain ⟨k0, s0, n0, A1, l1, c1, ts0, he, rfl, -⟩ := ht.parts
 clear hh hf ht hv he hnd hnt
 go_enter Try.func46, Try.ntmps46
 go_upto_region 0 with fail
 apply Zl
 (with_reducible refine wl_box rfl ?_); intro W q hbn hlq hq; replace hb := hb.trans (hbn.mono hb.size); clear hbn; simp only [Zq]
 have lthqr := heap_lt hq; (with_reducible refine wl_allV ?_); intro W2 r hbn hlr hr; replace hq := below_look hbn hq; replace hb := hb.trans (hbn.mono hb.size); clear hbn; simp only [Zq]
 have hrl : w.heap.size <= r := by omega
 have HRl := Zi hrl
 have hqG : G q = none := HF.out q (by omega)
 have HQ : Hid (mark G k r q = none) := Zi (by unfold mark; rw [if_neg (by have := heap_lt hq; omega)]; exact hqG)
 have HDn := Zi (DDone.marked HX.out HF.out hb hrl (heap_lt hr))
 have HM := Zi (mark_same G k r)
 have HTm : Hid (TyAt W2 (Imm (mark G k r)) t _) := Zi (HT.out.moved (Keep.of (C := fun _ => False) hb) (fun b e => e.elim) HDn.out.old)
 have HVm : Hid (VsAt W2 (Imm (mark G k r)) l A n c) := Zi ((HV.out.low.old hb).weak fun b hb2 => by
  have : mark G k r b = G b := if_neg (by have := hb2.2; omega)
  unfold Imm; rw [this]; exact hb2.1)
 clear HX HF HT HV hb hrl hqG
 obtain ⟨dA, dc, oA, oc, bA, bc, lA, lc, rA, rc, hh⟩ := HDn.out.heap
 have HH := Zi hh
 have hp := hh.blk
 have hor := hh.bus.choose_spec.2.2.1
 have hnp : ¬ (bA = some ⟨p, 0, none⟩) := fun e2 => by have := hor p e2; rw [hh.rp] at this; cases this
 have hnq : ¬ (bA = some ⟨q, 0, none⟩) := fun e2 => by have := hor q e2; rw [HQ.out] at this; cases this
 have hnr : ¬ (bA = some ⟨r, 0, none⟩) := fun e2 => by have := hor r e2; rw [HM.out] at this; cases this
 have HNP := Zi hnp
 have HNQ := Zi hnq
 have HNR := Zi hnr
 clear hnp hnq hnr hor hh
 have hbz : Below W2.heap.size W2 W2.drew := (Below.refl _ _).drew
 have HC2 := Zi (dtaken_done (HDn.out.quiet hbz).heap (HVm.out.old hbz) hn HND.out)
 go_upto_region 1 with fail
 refine wp_region_Z (S := fun w' => Keep (fun b => bA = some ⟨b, 0, none⟩) W2 w') 10 mixed (Keep.of hbz) (fun hS => ?_)
 refine zm 0 hS ?_; try simp only [Zq]
 refine zm 1 hS ?_; try simp only [Zq]
 refine zm 2 hS ?_; try simp only [Zq]
 refine zv4 (i := 3) rfl (by kernel_rfl) Zg hS rfl (fun w' hw' => ex_one rfl (dh2 (hw'.look hp HNP.out))) ?_; try simp only [Zq]
 refine zm 4 hS ?_; try simp only [Zq]
 refine zm 5 hS ?_; try simp only [Zq]
 refine za_call (i := 6) (by kernel_rfl) rfl rfl (fun K hK => ?_); go_simp; refine ⟨_, _, ⟨rfl, rfl⟩, hK _ _ ⟨_, HC2.out, ?_⟩⟩; clear hK K; rintro e w7 ⟨A7, c7, rows7, rfl, hown7, hl7, hA7, hv7, hb7⟩
 have hb7' := hbz.trans (hb7.mono hbz.size)
 have hS7 : Keep (fun b => bA = some ⟨b, 0, none⟩) W2 w7 := Keep.of hb7'
 refine ⟨_, rfl, fun _ => hS7, ?_⟩
 clear hS
 have hS := hS7
 try simp only [Zq]
 replace HDn := Zi (HDn.out.quiet hbz)
 obtain ⟨hd7, hlv7⟩ := DDone.listC (r := .elm h.bus.length) HDn.out.heap HDn.out.fr hown7 hl7 hA7 hv7 hb7
 obtain ⟨G7, hG7⟩ : ∃ G7, G7 = own (mark G k r) A7 (k, .elm h.bus.length) := ⟨_, rfl⟩
 rw [<- hG7] at hd7 hlv7
 have hz5 := hbz.size
 have HR7 : Hid (G7 r = some (k, .tmp)) := Zi ((hd7.old r (by have := heap_lt hr; omega)).trans HM.out)
 have HQ7 : Hid (G7 q = none) := Zi ((hd7.old q (by have := heap_lt hq; omega)).trans HQ.out)
 have HT7 : Hid (TyAt w7 (Imm G7) t (cell4 k0 s0 n0 A1 l1 c1)) := Zi ((HTm.out.old hbz).moved (Keep.of (C := fun _ => False) hb7) (fun b e => e.elim) hd7.old)
 have HL7 := Zi hlv7
 have HH7 := Zi ((HH.out.regh fun b hb => hd7.old b (by omega)).old hb7')
 replace HDn := Zi (HDn.out.trans hd7)
 clear hG7 hd7 hlv7 hown7 hl7 hA7 hv7 hb7 HC2 HH HVm HTm hz5
 refine zv4 (i := 7) rfl (by kernel_rfl) Zg hS rfl (fun w' hw' => ex_build97 _ _ rfl rfl rfl) ?_; try simp only [Zq]
 refine za_new (i := 8) (v := fun q => .slice (some ⟨q, 0, none⟩) 1 1) (by kernel_rfl) rfl rfl (ex_bs78 _ rfl rfl) (fun W hW => hS.trans (C' := fun _ => False) (fun b e => e.elim) (Keep.of hW)) ?_
 clear hS hS7
 intro W8 q8 hbn hlq8 hq8 hS
 try simp only [Zq]
 replace HDn := Zi (HDn.out.quiet hbn)
 have HH := Zi (HH7.out.old hbn)
 replace HL7 := Zi (HL7.out.moved (Keep.of (C := fun _ => False) hbn) (fun b e => e.elim) (fun _ _ => rfl))
 replace HT7 := Zi (HT7.out.old hbn)
 have hb8 := hb7'.trans (hbn.mono hb7'.size)
 have hp8 := below_look hb8 hp
 have hr8 := below_look hb8 hr
 have hq8' := below_look hb8 hq
 clear hbn hb7' HH7 hb8 hbz
 obtain ⟨rows, ho, hlr, hor, hvr⟩ := HH.out.bus
 have HO := Zi ho
 have HV8 := Zi hvr
 have HOR := Zi hor
 have HLR := Zi hlr
 have hlen : rows.length <= 1000000 := by omega
 have hrl8 := heap_lt hr8
 have hpl8 := heap_lt hp8
 clear ho hvr hor
 refine za_pushL (i := 9) elt78 (by kernel_rfl) rfl rfl _ _ rfl (show _ = Value.slice bA rows.length bc by rw [HLR.out]; rfl) rfl HO.out hq8 rfl (by simp [Value.oneCell']) (by omega) (by unfold maxLen; omega) (fun w' hk => hS.trans (C' := fun b => bA = some ⟨b, 0, none⟩) (fun b e => .inl e) hk) ?_
 clear hS
 intro A9 c9 W9 hown hk9 hA9 hS
 rw [HLR.out]
 try simp only [Zq]
 replace hp8 := hk9.look hp8 HNP.out
 replace hr8 := hk9.look hr8 HNR.out
 replace hq8' := hk9.look hq8' HNQ.out
 have hd10 := DDone.addB (n := 1) (l := takenV h l) HH.out HDn.out.fr HLR.out HV8.out (by simpa using hown) hk9 HOR.out hA9 HL7.out
 rw [HLR.out] at hd10
 have hHT : TyAt W9 (Imm (own _ A9 (k, .bar))) t _ := HT7.out.moved hk9 (fun b e => (role_ne HOR.out (y := (k, .hdr)) (by simp) b e).1) (own_again HOR.out hA9)
 have hpG := HH.out.rp
 have HT9 := Zi (hHT.keep (Keep.cellOne W9 p 2 (.slice A9 (h.bus.length + 1) c9)) (fun b hb e => by
  unfold Imm at hb
  rw [e] at hb
  rw [own_again HOR.out hA9 p (heap_lt HH.out.blk), hpG] at hb; cases hb))
 have hHR := (own_again (G := G7) HOR.out hA9 r hrl8).trans HR7.out
 obtain ⟨nb, hnb⟩ : ∃ n, n = h.bus.length + 1 := ⟨_, rfl⟩
 rw [<- hnb] at hd10 HT9 ⊢
 have HNB := Zi hnb
 clear hnb
 have HDN := Zi (HDn.out.trans hd10)
 have HHR := Zi hHR
 obtain ⟨hs1, hs2, hs3⟩ := dhdr_set (j := 2) (v := .slice A9 nb c9) hp8
 have hs1 := hs1 (by omega)
 have hrp : r ≠ p := fun e => by have := HR7.out; rw [e, HH.out.rp] at this; cases this
 have hqp : q ≠ p := fun e => by have := HQ7.out; rw [e, hpG] at this; cases this
 replace hq8' := (heap_setCell_other W9 ⟨p, 2, none⟩ q (.slice A9 nb c9) hqp).trans hq8'
 replace hr8 := (heap_setCell_other W9 ⟨p, 2, none⟩ r (.slice A9 nb c9) hrp).trans hr8
 clear hown hk9 hA9 hd10 hHR hHT hpG HDn HT7 HR7 HH HL7 HO HV8 HOR HQ7 hp8 hq8
 refine zn 10 hS ?_; try simp only [Zq]
 clear hS
 refine za_done (by kernel_rfl) ?_ _
 clear hp hq hr
 go_upto_region 2 with fail
 apply Zl
 iterate 4 refine Zm ?_
 refine wl_storeC rfl 78 _ _ rfl p 2 (.slice A9 nb c9) rfl rfl info78 rfl hs1 hs2 ?_
 rw [put_noneA]
 obtain ⟨W10, hW⟩ : ∃ W, W = W9.setCell ⟨p, 2, none⟩ (.slice A9 nb c9) := ⟨_, rfl⟩
 rw [<- hW] at HDN HT9 hs3 hr8 hq8' ⊢
 have hr := hr8
 have hq := hq8'
 have hnI : (nb : Int) - 1 = (h.bus.length : Int) := by have := HNB.out; omega
 have hnw : IntKind.i64.wrap (h.bus.length : Int) = (h.bus.length : Int) := IntWalk.i64_in _ (by omega)
 have hnwf : (Lit.int .i64 (h.bus.length : Int)).wf = true := wf64 (by omega)
 clear hs1 hs2 hs3 hW hlen hrl8 hpl8 hrp hr8 hqp hq8'
 have HC1 := Zi (CopyType_any t HNT.out W10 _ _ HT9.out)
 go_upto_region 3 with fail
 apply Zl
 iterate 3 refine Zm ?_
 refine Zw rfl (f4 hq) ?_
 refine Zn HC1.out ?_; rintro e w11 ⟨row11, rfl, hty, hb11⟩; refine ⟨_, rfl, ?_⟩; simp only [Zq]
 have hs11 := hty.size
 have hvt := HDN.out.newty hty
 have hb11' := hb11
 replace hr := below_look hb11 hr; clear hb11
 replace HDN := Zi (HDN.out.quiet hb11')
 refine wl_w rfl (ex_build35t _ _ _ rfl hs11 rfl rfl rfl) ?_
 simp only [Zq]
 have HV11 := Zi (trow_at (k := 8) (n := (h.bus.length : Int)) (by rfl) hnwf hvt)
 clear hty hvt hb11'
 (with_reducible refine wl_putV HV11.out.size HV11.out.one hzs rfl rfl hr ?_); rw [put_noneA]; intro W12 hbx hsz hkx hnx
 have HK12 := Zi (Keep.of_put hbx hsz hkx)
 clear hbx hsz hkx hr
 go_wp2_with fail
 refine bodyPost_ret (res35 rfl _ _ r rfl HV11.out.size hnx) rfl ?_
 exact ⟨_, _, rfl, HV11.out.put HHR.out HK12.out, HDN.out.put HHR.out HRl.out HK12.out⟩
end Go.Proofs.Ytpamocglecangaa
