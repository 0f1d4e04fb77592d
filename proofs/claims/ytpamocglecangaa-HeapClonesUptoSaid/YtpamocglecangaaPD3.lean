/- Steps that append to rows of one's own, make them, and build their elements. The program's taken: copies of values. The program's dead: ContainsFunc of a method value. The program's count: a value counted in or out. The program's Copy. Regions that draw their order and whose last operation writes what others have read: the condition on the world need not hold behind that one. A heap that grows by an object, a buffer or a level. A heap that grows, with its ghost. The program's Array and Make. -/
import Derived.Laws.MakeOwn
import Derived.Test.YtpamocglecangaaPD1
import Derived.Test.YtpamocglecangaaPD2
set_option maxHeartbeats 16000000
set_option maxRecDepth 100000
namespace Go.Proofs.Ytpamocglecangaa
open Go.RowKit Go.Proofs.Ytpamocglecangaa.Nm
set_option linter.unusedSimpArgs false
def zrow8 : Array Value := cell8 (cell4 0 ⟨#[]⟩ 0 none 0 0) 0 0 0 none 0 0
def zrow12 : Array Value := zrow ++ #[.int .i64 0, .int .i64 0, .int .i64 0]
def Elt (sty ty : TypeId) (sz by0 : Nat) (z : Array Value) : Prop := Try.prog.underlying sty = some (.slice ty) /\ 0 < sz /\ z.size = sz /\ ∃ i0 z0, Try.prog.info? ty = some i0 /\ i0.zero = some z0 /\ i0.size = sz /\ i0.bytes = by0 /\ z0.cells = z
theorem info35b : (Try.prog.info? 35).map (fun i => (i.zero, i.size, i.bytes)) = some (some (.agg zrow), 9, 136) := by kernel_rfl
theorem info41b : (Try.prog.info? 41).map (fun i => (i.zero, i.size, i.bytes)) = some (some (.agg zrow8), 8, 104) := by kernel_rfl
theorem info97b : (Try.prog.info? 97).map (fun i => (i.zero, i.size, i.bytes)) = some (some (.agg #[.int .i64 0, .slice none 0 0]), 2, 32) := by kernel_rfl
theorem info98b : (Try.prog.info? 98).map (fun i => (i.zero, i.size, i.bytes)) = some (some (.slice none 0 0), 1, 24) := by kernel_rfl
theorem info101b : (Try.prog.info? 101).map (fun i => (i.zero, i.size, i.bytes)) = some (some (.agg zrow12), 12, 160) := by kernel_rfl
theorem elt33 : Elt 33 35 9 136 zrow := by obtain ⟨i, a, b, c, d⟩ := info_parts info35b; exact ⟨u33, by decide, rfl, i, _, a, b, c, d, rfl⟩
theorem elt38 : Elt 38 41 8 104 zrow8 := by obtain ⟨i, a, b, c, d⟩ := info_parts info41b; exact ⟨u38, by decide, rfl, i, _, a, b, c, d, rfl⟩
theorem elt78 : Elt 78 97 2 32 #[.int .i64 0, .slice none 0 0] := by obtain ⟨i, a, b, c, d⟩ := info_parts info97b; exact ⟨u78, by decide, rfl, i, _, a, b, c, d, rfl⟩
theorem elt85 : Elt 85 98 1 24 #[.slice none 0 0] := by obtain ⟨i, a, b, c, d⟩ := info_parts info98b; exact ⟨u85, by decide, rfl, i, _, a, b, c, d, rfl⟩
theorem elt98 : Elt 98 101 12 160 zrow12 := by obtain ⟨i, a, b, c, d⟩ := info_parts info101b; exact ⟨u98, by decide, rfl, i, _, a, b, c, d, rfl⟩
theorem madeL_get {z : Array Value} {sz n m : Nat} (hz : z.size = sz) (h0 : 0 < sz) (h : m < n * sz) : (madeCells z (n * sz))[m]? = z[m % sz]? := by
 unfold madeCells
 rw [Array.getElem?_map, Array.getElem?_range, if_pos h]
 have : m % sz < z.size := by rw [hz]; exact Nat.mod_lt _ h0
 simp only [Option.map_some, hz]
 rw [Array.getElem?_eq_getElem this]
 simp [getElem!_pos, this]
theorem madeL {z : Array Value} {sz n i : Nat} (hz : z.size = sz) (h0 : 0 < sz) (hi : i < n) : (madeCells z (n * sz)).extract (i * sz) (i * sz + sz) = z := by
 have hf : i * sz + sz <= n * sz := by
  calc i * sz + sz = (i + 1) * sz := by rw [Nat.succ_mul]
   _ <= n * sz := Nat.mul_le_mul_right _ (by omega)
 apply Array.ext_getElem?
 intro m
 rw [Array.getElem?_extract, size_madeCells]
 by_cases hm : m < sz
 ·rw [if_pos (by omega), madeL_get hz h0 (by omega), Nat.mul_comm, Nat.mul_add_mod, Nat.mod_eq_of_lt hm]
 ·rw [if_neg (by omega), Array.getElem?_eq_none (by omega)]
theorem run_makeL {sty ty : TypeId} {sz by0 : Nat} {z : Array Value} (he : Elt sty ty sz by0 z) (w : World) (n c : Nat) (hn : n <= c) (hc : c * by0 <= 140737488355328) (hm : c <= maxLen) :
  ∃ w', (Instr.makeSlice sty (.int .i64 (n : Int)) (.int .i64 (c : Int))).run Try.prog w = .ok (.slice (some ⟨w.heap.size, 0, none⟩) n c) w' /\ Below w.heap.size w w' /\ OwnL w' ty sz (some ⟨w.heap.size, 0, none⟩) c (List.replicate n z) /\ w.heap.size < w'.heap.size := by
 obtain ⟨hu, h0, hz, i0, z0, hi, hz0, hz1, hz2, hzl⟩ := he
 have hr := run_make (P := Try.prog) w sty ty i0 z0 hu hi hz0 .i64 .i64 (n : Int) (c : Int) (by omega) (by omega) (by
  rw [hz2]
  have : ((by0 * c : Nat) : Int) <= 281474976710656 := by rw [Nat.mul_comm]; omega
  rwa [Int.natCast_mul] at this) (by unfold maxLen at hm; omega)
 simp only [Int.toNat_natCast] at hr
 rw [hzl, hz1] at hr
 refine ⟨_, hr, (Below.refl _ w).alloc (Nat.le_refl _) _, ⟨fun r hr => by rw [(List.mem_replicate.1 hr).2]; exact hz, by rw [List.length_replicate]; exact hn, hm, .inr ⟨_, _, rfl, ha_new rfl, size_madeCells _ _, fun i r hr => ?_⟩⟩, heap_lt (ha_new rfl)⟩
 rw [List.getElem?_replicate] at hr
 split at hr
 ·rename_i hlt
  cases hr
  exact madeL hz h0 (by omega)
 ·cases hr
section
variable {w : World} {ty sty : TypeId} {sz by0 : Nat} {A : Option Addr} {c : Nat} {rows : List (Array Value)} {z : Array Value}
theorem run_pushL (he : Elt sty ty sz by0 z) (oty : TypeId) (h : OwnL w ty sz A c rows) {row : Array Value} {q : Nat} {tq : TypeId} {fr : Nat × Nat} (hq : w.heap[q]? = some (.cells row tq fr)) (hsz : row.size = sz) (h1 : row.all (·.oneCell') = true) (hlen : (rows.length + 1) * by0 <= 140737488355328) (hm : rows.length + 1 <= maxLen) :
  ∃ A' c' w', (Builtin.append_ #[sty, sty] oty #[.slice A rows.length c, .slice (some ⟨q, 0, none⟩) 1 1]).run Try.prog w = .ok (.slice A' (rows.length + 1) c') w' /\ OwnL w' ty sz A' c' (rows ++ [row]) /\ Keep (fun b => A = some ⟨b, 0, none⟩) w w' /\ (A' = A ∨ ∃ g, A' = some ⟨g, 0, none⟩ /\ w.heap.size <= g) := by
 obtain ⟨hu, h0, hz, i0, z0, hi, hz0, hz1, hz2, hzl⟩ := he
 obtain ⟨A', c', w', a1, a2, a3, a4⟩ := run_catL (oty := oty) hu hi hz0 hz1 hz2 (by rw [hzl]; exact hz) h0 h (news := [row]) (fun r hr => by simp at hr; rw [hr]; exact hsz) (fun r hr u hu => by
  simp at hr; rw [hr] at hu
  rw [Array.all_eq_true] at h1
  obtain ⟨i, hi, rfl⟩ := List.mem_iff_getElem.1 hu
  have := h1 i (by simpa using hi)
  simpa using this) (a := ⟨q, 0, none⟩) (cn := 1) (fun j u hj => by
   rw [show (Addr.add ⟨q, 0, none⟩ j) = ⟨q, j, none⟩ by rw [Addr.add_mid]; simp, cell_of_row _ _ _ _ _ _ hq]
   simpa using hj) (by simpa using hm) (by simpa using hlen)
 refine ⟨A', c', w', ?_, a2, a3, a4⟩
 simpa using a1
end
section
variable {ops : Array Oper} {rest : List Oper} {o : Oper} {a : Act} {w : World} {Q : Exit -> Act -> World -> Prop} {ty sty : TypeId} {sz by0 : Nat} {A : Option Addr} {c : Nat} {rows : List (Array Value)} {z : Array Value}
theorem wl_pushL (he : Elt sty ty sz by0 z) (hg : o.guard = none) (s x : Operand) (ho : o.op = .call { callee := .builtin .append, args := #[s, x], argTypes := #[sty, sty] }) {row : Array Value} {q : Nat} {tq : TypeId} {fr : Nat × Nat}
  (hs : a.eval s = .slice A rows.length c) (hx : a.eval x = .slice (some ⟨q, 0, none⟩) 1 1) (h : OwnL w ty sz A c rows) (hq : w.heap[q]? = some (.cells row tq fr)) (hsz : row.size = sz) (h1 : row.all (·.oneCell') = true) (hlen : (rows.length + 1) * by0 <= 140737488355328) (hm : rows.length + 1 <= maxLen)
  (hK : ∀ A' c' w', OwnL w' ty sz A' c' (rows ++ [row]) -> Keep (fun b => A = some ⟨b, 0, none⟩) w w' -> (A' = A ∨ ∃ g, A' = some ⟨g, 0, none⟩ /\ w.heap.size <= g) -> wpList Try.prog ops Q rest (a.put o.dst (.slice A' (rows.length + 1) c')) w') : wpList Try.prog ops Q (o :: rest) a w := by
 obtain ⟨A', c', w', hr, h2, h3, h4⟩ := run_pushL he o.type h hq hsz h1 hlen hm
 refine wl_w hg ?_ (hK A' c' w' h2 h3 h4)
 unfold execOp
 simp only [ho, resolve, invoke, builtin, Sem.run_bind, Sem.run_pure, Result.andThen_ok, List.map_toArray, List.map_cons, List.map_nil, hs, hx, hr]
theorem wl_makeL (he : Elt sty ty sz by0 z) (hg : o.guard = none) (x y : Operand) (ho : o.op = .makeSlice sty x y) {n c : Nat} (hx : a.eval x = .int .i64 (n : Int)) (hy : a.eval y = .int .i64 (c : Int)) (hn : n <= c) (hc : c * by0 <= 140737488355328) (hm : c <= maxLen)
  (hK : ∀ W p, Below w.heap.size w W -> w.heap.size <= p -> p < W.heap.size -> OwnL W ty sz (some ⟨p, 0, none⟩) c (List.replicate n z) -> wpList Try.prog ops Q rest (a.put o.dst (.slice (some ⟨p, 0, none⟩) n c)) W) : wpList Try.prog ops Q (o :: rest) a w := by
 obtain ⟨w', hr, h2, h3, h4⟩ := run_makeL he w n c hn hc hm
 refine wl_w hg ?_ (hK w' _ h2 (Nat.le_refl _) h4 h3)
 unfold execOp
 simp only [ho, Sem.run_bind, Sem.run_pure, Result.andThen_ok, hx, hy, hr]
end
section
variable {md : Region.Mode} {ops : Array Oper} {Q : Exit -> Act -> World -> Prop} {S : World -> Prop} {fuel : Nat} {listed : Array Bool} {a : Act} {w : World} {i : Nat} {oi : Oper} {ty sty : TypeId} {sz by0 : Nat} {A : Option Addr} {c : Nat} {rows : List (Array Value)} {z : Array Value}
end
open Go.RowKit Go.Proofs.Ytpamocglecangaa.Nm
set_option linter.unusedSimpArgs false
def Lw (w : World) (D : Nat -> Prop) (b : Nat) : Prop := D b /\ b < w.heap.size
def NewL (w : World) (D : Nat -> Prop) (l : List Va) (e : Ending) (w' : World) : Prop := ∃ A c rows, e = .returned (.slice A l.length c) /\ OwnL w' 35 9 A c rows /\ rows.length = l.length /\ (∀ g, A = some ⟨g, 0, none⟩ -> w.heap.size <= g) /\ (∀ (j : Nat) (v : Va) (row : Array Value), l[j]? = some v -> rows[j]? = some row -> VAt w' D v row) /\ Below w.heap.size w w'
theorem build35 (ev : Operand -> Value) (o : Oper) (ho : o.op = .build 35 #[]) (w : World) : (execOp ev o).run Try.prog w = .ok (.value (.agg zrow)) w := by
 unfold execOp
 simp only [ho]
 kernel_rfl
theorem taken_any {G : Gh} {k p : Nat} {h : Hp} {w : World} {oA : Option Addr} {oc : Nat} {bA : Option Addr} {bc m : Nat} {lA : Option Addr} {lc : Nat} (hh : HAt w G k p h oA oc bA bc m lA lc) {l : List Va} {D : Nat -> Prop} {A0 : Option Addr} {n c0 : Nat} (hv : VsAt w D l A0 n c0) (hn : n <= 1000000) :
  Calls Try.prog 81 #[.pointer (some ⟨p, 0, none⟩), .slice A0 n c0] w (NewL w D (takenV h l)) := by
 have HR : Hid (VsAt w (Lw w D) l A0 n c0) := Zi hv.low
 have HH := Zi hh
 have HL := Zi hv.len
 have hb := Below.refl w.heap.size w
 clear hv hh
 go_enter Try.func81, Try.ntmps81
 go_upto_region 0 with fail
 apply Zl
 refine Zm ?_
 go_upto_region 1 with fail
 apply Zl
 iterate 2 refine Zm ?_
 refine wl_makeL elt33 rfl _ _ rfl (n := 0) (c := n) rfl rfl (Nat.zero_le _) (by omega) (by unfold maxLen; omega) ?_
 intro W q hbn hlq hlt hown
 have HO : Hid (OwnL W 35 9 (some ⟨q, 0, none⟩) n []) := Zi (by simpa using hown)
 simp only [Zq]
 replace hb := hb.trans (hbn.mono hb.size)
 clear hbn hown
 refine Zm ?_
 go_upto_region 2 with fail
 apply Zl
 iterate 3 refine Zm ?_
 go_wp2_with fail
 go_loopw [5, 13] (fun s i wr => ∃ (j : Nat) (A : Option Addr) (c : Nat) (rows : List (Array Value)), j <= n /\ s = .slice A j c /\ i = .int .i64 (j : Int) /\ Hid (rows.length = j) /\ Hid (OwnL wr 35 9 A c rows) /\ Hid (∀ g, A = some ⟨g, 0, none⟩ -> w.heap.size <= g) /\ Hid (∀ (j : Nat) (v : Va) (row : Array Value), (takenV h l)[j]? = some v -> rows[j]? = some row -> VAt wr (Lw w D) v row) /\ Below w.heap.size w wr) (fun _ i _ => n - (intOf i).toNat)
 case atStart => exact ⟨0, _, _, [], by omega, rfl, rfl, Zi rfl, HO, Zi (fun g e => by cases e; omega), Zi (fun j v row _ hr => by simp at hr), hb⟩
 case round =>
  clear hb HO hlq hlt
  obtain ⟨j, A, c, rows, hj, rfl, rfl, HRL, HO, HAl, HVs, hb⟩ := hrel
  go_upto_region 3 with fail
  by_cases hlt : j < n
  ·have hltI : (j : Int) < (n : Int) := by omega
   obtain ⟨b2, off2, u, rowu, rfl, -, hu, hua, hrow⟩ := (HR.out.old hb).getB hlt
   have HRU := Zi (hrow wr (Below.refl _ _))
   have HUA := Zi hua
   have HST : Hid ((takenV h l)[j]? = some (if ofV h.obs.length h.bus.length u then u else va0)) := Zi (by unfold takenV; rw [List.getElem?_map, hu]; rfl)
   have hus : rowu.size = 9 := hua.size
   have hu1 : rowu.all (·.oneCell') = true := hua.one
   have hzz := Below.refl wr.heap.size wr
   clear hu hua hrow
   apply Zl
   refine Zm ?_
   go_upto_region 4 with fail
   apply Zl
   refine Zm ?_
   refine Zw rfl (HRU.out) ?_
   (with_reducible refine wl_allV ?_); intro W5 q5 hbn hlq5 hq5; replace hzz := hzz.trans (hbn.mono hzz.size); clear hbn; simp only [Zq]
   (with_reducible refine wl_putV hus hu1 rfl rfl rfl hq5 ?_); rw [put_noneA]; intro W6 hbx hsz hkx hnx; replace hzz := hbx _ _ (by omega) hzz; clear hq5; have hq5 := hnx; clear hnx
   clear hbx hkx hsz
   have hz2 := hzz.size
   obtain ⟨bb, hbb⟩ : ∃ b, b = ofV h.obs.length h.bus.length u := ⟨_, rfl⟩
   have hc := of_heap (HH.out.old (hb.trans (hzz.mono hb.size))) (HUA.out.old hzz)
   rw [<- hbb] at hc HST
   have HC := Zi hc
   clear hc hbb
   go_upto_region 5 with fail
   apply Zl
   refine Zm ?_
   refine Zw rfl (row35 hq5 hus) ?_
   refine Zn HC.out ?_; rintro e w7 ⟨rfl, hb7⟩; refine ⟨_, rfl, ?_⟩; simp only [Zq]
   replace hq5 := below_look hb7 hq5; replace hzz := hzz.trans (hb7.mono hzz.size); clear hb7
   refine Zm ?_
   clear HC
   cases bb with
   | true =>
    have HU2 := Zi (HUA.out.old hzz)
    clear HUA HRU
    go_upto_region 7 with fail
    apply Zl
    refine Zm ?_
    refine Zw rfl (row35 hq5 HU2.out.size) ?_
    (with_reducible refine wl_bsV rfl HU2.out.size ?_)
    intro W8 q8 hbn hlq8 hq8
    simp only [Zq]
    replace HO := Zi (HO.out.old (hzz.trans (hbn.mono hzz.size)))
    replace HU2 := Zi (HU2.out.old hbn)
    replace hb := hb.trans ((hzz.trans (hbn.mono hzz.size)).mono hb.size)
    have hbz := hzz.trans (hbn.mono hzz.size)
    clear hbn hq5
    refine wl_pushL elt33 rfl _ _ rfl (show _ = Value.slice A rows.length c by rw [HRL.out]; rfl) rfl HO.out hq8 HU2.out.size HU2.out.one (by have := HRL.out; omega) (by have := HRL.out; unfold maxLen; omega) ?_
    rw [HRL.out]
    intro A9 c9 W9 hown hk9 hA9
    have hsz8 := hb.size
    have hbb := Below.keep hb hk9 (fun b e => HAl.out b e)
    have HA9 : Hid (∀ g, A9 = some ⟨g, 0, none⟩ -> w.heap.size <= g) := Zi (fun g e => by
     rcases hA9 with e2 | ⟨g', e2, e3⟩
     ·exact HAl.out g (by rw [<- e2]; exact e)
     ·rw [e] at e2; cases e2; omega)
    have HV9 : Hid (∀ (i : Nat) (v : Va) (row : Array Value), (takenV h l)[i]? = some v -> (rows ++ [rowu])[i]? = some row -> VAt W9 (Lw w D) v row) := Zi (fun i v row hv hr => by
     have hrl := HRL.out
     rcases Nat.lt_trichotomy i rows.length with e | e | e
     ·rw [List.getElem?_append_left e] at hr
      exact ((HVs.out i v row hv hr).old hbz).keep hk9 (fun b hb1 hb2 => by have := HAl.out b hb2; have := hb1.2; omega)
     ·rw [e] at hv hr
      rw [List.getElem?_concat_length] at hr
      cases hr
      rw [hrl, HST.out] at hv
      cases hv
      exact HU2.out.keep hk9 (fun b hb1 hb2 => by have := HAl.out b hb2; have := hb1.2; omega)
     ·rw [List.getElem?_eq_none (by simp; omega)] at hr; cases hr)
    have HO9 := Zi hown
    have HRL9 : Hid ((rows ++ [rowu]).length = j + 1) := Zi (by rw [List.length_append, HRL.out]; rfl)
    clear hown hk9 hA9 HO HVs HAl hb hq8 hbz hzz
    simp only [Zq]
    refine Zm ?_
    go_wp2_with fail
    go_roundw
    case rel => exact ⟨j + 1, A9, c9, rows ++ [rowu], by omega, rfl, by go_num, HRL9, HO9, HA9, HV9, hbb⟩
    case measure => simp [intOf]; omega
   | false =>
    have HU2 := Zi (zero_va W6 (Lw w D))
    clear HUA HRU
    go_upto_region 6 with fail
    apply Zl
    refine wl_w rfl (build35 _ _ rfl _) ?_
    simp only [Zq]
    (with_reducible refine wl_putV rfl (zero_va w D).one hus rfl rfl hq5 ?_); rw [put_noneA]; intro W10 hbx hsz hkx hnx; replace hzz := hbx _ _ (by omega) hzz; clear hq5; have hq5 := hnx; clear hnx
    replace HU2 := Zi (zero_va W10 (Lw w D))
    clear hbx hsz hkx
    go_upto_region 7 with fail
    apply Zl
    refine Zm ?_
    refine Zw rfl (row35 hq5 HU2.out.size) ?_
    (with_reducible refine wl_bsV rfl HU2.out.size ?_)
    intro W8 q8 hbn hlq8 hq8
    simp only [Zq]
    replace HO := Zi (HO.out.old (hzz.trans (hbn.mono hzz.size)))
    replace HU2 := Zi (HU2.out.old hbn)
    replace hb := hb.trans ((hzz.trans (hbn.mono hzz.size)).mono hb.size)
    have hbz := hzz.trans (hbn.mono hzz.size)
    clear hbn hq5
    refine wl_pushL elt33 rfl _ _ rfl (show _ = Value.slice A rows.length c by rw [HRL.out]; rfl) rfl HO.out hq8 HU2.out.size HU2.out.one (by have := HRL.out; omega) (by have := HRL.out; unfold maxLen; omega) ?_
    rw [HRL.out]
    intro A9 c9 W9 hown hk9 hA9
    have hsz8 := hb.size
    have hbb := Below.keep hb hk9 (fun b e => HAl.out b e)
    have HA9 : Hid (∀ g, A9 = some ⟨g, 0, none⟩ -> w.heap.size <= g) := Zi (fun g e => by
     rcases hA9 with e2 | ⟨g', e2, e3⟩
     ·exact HAl.out g (by rw [<- e2]; exact e)
     ·rw [e] at e2; cases e2; omega)
    have HV9 : Hid (∀ (i : Nat) (v : Va) (row : Array Value), (takenV h l)[i]? = some v -> (rows ++ [zrow])[i]? = some row -> VAt W9 (Lw w D) v row) := Zi (fun i v row hv hr => by
     have hrl := HRL.out
     rcases Nat.lt_trichotomy i rows.length with e | e | e
     ·rw [List.getElem?_append_left e] at hr
      exact ((HVs.out i v row hv hr).old hbz).keep hk9 (fun b hb1 hb2 => by have := HAl.out b hb2; have := hb1.2; omega)
     ·rw [e] at hv hr
      rw [List.getElem?_concat_length] at hr
      cases hr
      rw [hrl, HST.out] at hv
      cases hv
      exact HU2.out.keep hk9 (fun b hb1 hb2 => by have := HAl.out b hb2; have := hb1.2; omega)
     ·rw [List.getElem?_eq_none (by simp; omega)] at hr; cases hr)
    have HO9 := Zi hown
    have HRL9 : Hid ((rows ++ [zrow]).length = j + 1) := Zi (by rw [List.length_append, HRL.out]; rfl)
    clear hown hk9 hA9 HO HVs HAl hb hq8 hbz hzz
    simp only [Zq]
    refine Zm ?_
    go_wp2_with fail
    go_roundw
    case rel => exact ⟨j + 1, A9, c9, rows ++ [zrow], by omega, rfl, by go_num, HRL9, HO9, HA9, HV9, hbb⟩
    case measure => simp [intOf]; omega
  ·have hltI : ¬ (j : Int) < (n : Int) := by omega
   apply Zl
   refine Zm ?_
   go_upto_region 9 with fail
   apply Zl
   iterate 2 refine Zm ?_
   go_wp2_with fail
   go_ret
   have e1 : j = (takenV h l).length := by unfold takenV; rw [List.length_map, HL.out]; omega
   exact ⟨A, c, rows, by rw [<- e1]; rfl, HO.out, HRL.out.trans e1, HAl.out, fun j v row h1 h2 => (HVs.out j v row h1 h2).weak fun b hb => hb.1, hb⟩
theorem IndexF_any (F : FuncId) (x : Value) (q : Va -> Bool) (l : List Va) (w : World) (D : Nat -> Prop) (A : Option Addr) (n c : Nat) (h : VsAt w D l A n c) (hcf : ∀ v W, (callFunc F #[x, v]).run Try.prog W = .ok (.enter F #[x, v]) W) (hq : ∀ u rowu W, u ∈ l -> VAt W D u rowu -> Below w.heap.size w W -> Calls Try.prog F #[x, .agg rowu] W fun e w' => e = .returned (.bool (q u)) /\ Below W.heap.size W w') :
  Calls Try.prog 130 #[.slice A n c, .func (Fn.func F) #[x] #[]] w fun e w' => (∃ r : Int, e = .returned (.int .i64 r) /\ decide (r ≥ 0) = l.any q) /\ Below w.heap.size w w' := by
 have HR := Zi h
 have HQ := Zi hq
 have HCF := Zi hcf
 have hcm := h.cap
 have hmx := h.max
 unfold maxLen at hmx
 have HL := Zi h.len
 clear h hq hcf
 have hb := Below.refl w.heap.size w
 have HF : Hid (l.any q = (l.drop 0).any q) := Zi rfl
 go_enter Try.func130, Try.ntmps130
 go_upto_region 0 with fail
 apply Zl
 refine Zm ?_
 go_upto_region 1 with fail
 apply Zl
 iterate 3 refine Zm ?_
 go_wp2_with fail
 go_loopw [8] (fun i wr => ∃ j : Nat, j <= n /\ i = .int .i64 (j : Int) /\ Hid (l.any q = (l.drop j).any q) /\ Below w.heap.size w wr) (fun i _ => n - (intOf i).toNat)
 case atStart => exact ⟨0, by omega, rfl, HF, hb⟩
 case round =>
  clear hb HF
  obtain ⟨j, hj, rfl, HF, hb⟩ := hrel
  go_upto_region 2 with fail
  by_cases hlt : j < n
  ·have hltI : (j : Int) < (n : Int) := by omega
   obtain ⟨b2, off2, u, rowu, rfl, -, hu, hua, hrow⟩ := (HR.out.old hb).getB hlt
   have HST : Hid ((l.drop j).any q = (q u || (l.drop (j + 1)).any q)) := Zi (by
    obtain ⟨h1, e1⟩ := List.getElem?_eq_some_iff.1 hu
    rw [List.drop_eq_getElem_cons h1, e1, List.any_cons])
   have HRU := Zi (hrow wr (Below.refl _ _))
   obtain ⟨bb, hbb⟩ : ∃ b, b = q u := ⟨_, rfl⟩
   have hc := HQ.out u rowu wr (List.mem_of_getElem? hu) hua hb
   rw [<- hbb] at hc HST
   have HC := Zi hc
   clear hu hua hrow hc hbb
   apply Zl
   refine Zm ?_
   go_upto_region 3 with fail
   apply Zl
   iterate 2 refine Zm ?_
   go_upto_region 4 with fail
   apply Zl
   iterate 4 refine Zm ?_
   refine Zw rfl (HRU.out) ?_
   (with_reducible refine wl_ck ?_ ?_); exact rfl; intro K hK; go_simp; refine ⟨_, _, HCF.out _ _, hK _ _ ⟨_, HC.out, ?_⟩⟩; clear hK K; rintro e w7 ⟨rfl, hb7⟩; refine ⟨_, rfl, ?_⟩; simp only [Zq]
   replace hb := hb.trans (hb7.mono hb.size)
   clear HC hb7
   cases bb with
   | true =>
    have HF2 : Hid (true = l.any q) := Zi (by rw [HF.out, HST.out]; rfl)
    clear HF HST
    go_upto_region 5 with fail
    apply Zl
    iterate 2 refine Zm ?_
    go_wp2_with fail
    go_ret
    exact ⟨⟨_, rfl, by rw [<- HF2.out]; exact decide_eq_true (by omega)⟩, hb⟩
   | false =>
    have HF2 : Hid (l.any q = (l.drop (j + 1)).any q) := Zi (by rw [HF.out, HST.out]; rfl)
    clear HF HST
    go_wp2_with fail
    go_roundw
    case rel => exact ⟨j + 1, by omega, by go_num, HF2, hb⟩
    case measure => simp [intOf]; omega
  ·have hltI : ¬ (j : Int) < (n : Int) := by omega
   have HF2 : Hid (false = l.any q) := Zi (by rw [HF.out, List.drop_of_length_le (by rw [HL.out]; omega)]; rfl)
   apply Zl
   refine Zm ?_
   clear HF
   go_upto_region 7 with fail
   apply Zl
   refine Zm ?_
   go_wp2_with fail
   go_ret
   exact ⟨⟨_, rfl, by rw [<- HF2.out]; rfl⟩, hb⟩
theorem ContainsF_any (F : FuncId) (x : Value) (q : Va -> Bool) (l : List Va) (w : World) (D : Nat -> Prop) (A : Option Addr) (n c : Nat) (h : VsAt w D l A n c) (hcf : ∀ v W, (callFunc F #[x, v]).run Try.prog W = .ok (.enter F #[x, v]) W) (hq : ∀ u rowu W, u ∈ l -> VAt W D u rowu -> Below w.heap.size w W -> Calls Try.prog F #[x, .agg rowu] W fun e w' => e = .returned (.bool (q u)) /\ Below W.heap.size W w') :
  Calls Try.prog 103 #[.slice A n c, .func (Fn.func F) #[x] #[]] w fun e w' => e = .returned (.bool (l.any q)) /\ Below w.heap.size w w' := by
 have HC := Zi (IndexF_any F x q l w D A n c h hcf hq)
 clear h hq hcf
 have hb := Below.refl w.heap.size w
 go_enter Try.func103, Try.ntmps103
 go_upto_region 0 with fail
 apply Zl
 refine Zm ?_
 go_upto_region 1 with fail
 apply Zl
 iterate 2 refine Zm ?_
 refine Zn HC.out ?_; rintro e w7 ⟨⟨r, rfl, hr⟩, hb7⟩; refine ⟨_, rfl, ?_⟩; simp only [Zq]
 have HRR := Zi hr
 clear hr
 iterate 2 refine Zm ?_
 clear HC hb
 go_wp2_with fail
 go_ret
 exact ⟨by rw [<- HRR.out]; rfl, hb7⟩
theorem cf74 (x v : Value) (W : World) : (callFunc 74 #[x, v]).run Try.prog W = .ok (.enter 74 #[x, v]) W := by kernel_rfl
def DeadC (G : Gh) (k : Nat) (p : Nat) (h : Hp) (v : Va) : Prop := ∀ (w : World) (D : Nat -> Prop) (row : Array Value) (oA : Option Addr) (oc : Nat) (bA : Option Addr) (bc m : Nat) (lA : Option Addr) (lc : Nat), VAt w D v row -> HAt w G k p h oA oc bA bc m lA lc -> ofV h.obs.length h.bus.length v = true ->
 Calls Try.prog 74 #[.pointer (some ⟨p, 0, none⟩), .agg row] w fun e w' => e = .returned (.bool (deadV h v)) /\ Below w.heap.size w w'
theorem deadVs_any {h : Hp} : ∀ {l : List Va}, deadVs h l = l.any (deadV h)
 | [] => rfl
 | v :: l => by rw [deadVs, List.any_cons, deadVs_any]
theorem dead_any (G : Gh) (k : Nat) (p : Nat) (h : Hp) : ∀ v : Va, DeadC G k p h v := Va.ind fun v ih w D row oA oc bA bc m lA lc hv hh ho => by
 obtain ⟨tr, A2, l2, c2, A3, l3, c3, hr⟩ := hv.row
 have HR := Zi hr
 have HI := Zi ih
 have HH := Zi hh
 have HO := Zi ho
 have hh0 := hh.blk
 clear hv hr ih ho hh
 have hh := hh0
 clear hh0
 have hb := Below.refl w.heap.size w
 go_enter Try.func74, Try.ntmps74
 go_upto_region 0 with fail
 apply Zl
 have lthhq := heap_lt hh; (with_reducible refine wl_boxV rfl ?_); intro W q hbn hlq hq; replace hh := below_look hbn hh; replace hb := hb.trans (hbn.mono hb.size); clear hbn; simp only [Zq]
 refine Zm ?_
 have hp := hq
 clear hq
 go_upto_region 1 with fail
 apply Zl
 refine Zm ?_
 refine Zo rfl (vk (by assumption) (by assumption)) ?_
 by_cases h7 : v.kind = 7
 ·have e7 : (v.kind == 7) = true := by simp [h7]
  have h1 : 0 <= v.num /\ v.num < (h.obs.length : Int) := by
   have := HO.out
   rw [ofV_eq, if_pos (.inl h7)] at this
   exact of_decide_eq_true this
  obtain ⟨n, hn⟩ : ∃ n : Nat, v.num = (n : Int) := ⟨v.num.toNat, by omega⟩
  have hnl : n < h.obs.length := by omega
  have hnlI : (n : Int) < (h.obs.length : Int) := by omega
  have ho := List.getElem?_eq_getElem hnl
  obtain ⟨o, hoe⟩ : ∃ o, o = h.obs[n] := ⟨_, rfl⟩
  rw [<- hoe] at ho
  obtain ⟨g, rows, rfl, hR⟩ := (HH.out.old hb).obs.rows ho
  obtain ⟨tr0, fA, fc, hL, -, -⟩ := hR.loads ho
  have HL := Zi hL
  have HD : Hid ((o.state == 3) = deadV h v) := Zi (by rw [deadV_eq, if_pos h7, hn, Bool.eq_iff_iff]; simp [ho])
  have HN := Zi hn
  clear h7 h1 hn hoe hR hL HI HO ho
  go_upto_region 3 with fail
  refine wp_region_belowAll mixed (by kernel_rfl) ?_
  iterate 3 refine Zt ?_
  refine Zv rfl (fun w' hw' => h0 (below_look hw' (by assumption))) ?_
  refine Zt ?_
  refine Zv rfl (fun w' hw' => vnN (below_look hw' (by assumption)) (by assumption) (by assumption)) ?_
  iterate 2 refine Zt ?_
  refine Zv rfl (fun w' hw' => (HL.out w' hw').s) ?_
  iterate 2 refine Zt ?_
  intro w7 hb7
  replace hb := hb.trans (hb7.mono hb.size)
  clear hb7 hp hh HL
  go_wp2_with fail
  go_ret
  exact ⟨by rw [<- HD.out]; rfl, hb⟩
 ·have e7 : (v.kind == 7) = false := by simp [h7]
  by_cases h8 : v.kind = 8
  ·have e8 : (v.kind == 8) = true := by simp [h8]
   have h1 : 0 <= v.num /\ v.num < (h.bus.length : Int) := by
    have := HO.out
    rw [ofV_eq, if_neg (by omega), if_pos h8] at this
    exact of_decide_eq_true this
   obtain ⟨n, hn⟩ : ∃ n : Nat, v.num = (n : Int) := ⟨v.num.toNat, by omega⟩
   have hnl : n < h.bus.length := by omega
   have hnlI : (n : Int) < (h.bus.length : Int) := by omega
   have ho := List.getElem?_eq_getElem hnl
   obtain ⟨o, hoe⟩ : ∃ o, o = h.bus[n] := ⟨_, rfl⟩
   rw [<- hoe] at ho
   obtain ⟨g, rows, rfl, hR⟩ := (HH.out.old hb).bus.rows ho
   obtain ⟨fA, fc, hL, -⟩ := hR.loads ho
   have HL := Zi hL
   have HD : Hid ((o.count == 0) = deadV h v) := Zi (by rw [deadV_eq, if_neg h7, if_pos h8, hn, Bool.eq_iff_iff]; simp [ho])
   have HN := Zi hn
   clear h7 h8 h1 hn hoe hR hL HI HO ho
   go_upto_region 5 with fail
   refine wp_region_belowAll mixed (by kernel_rfl) ?_
   iterate 3 refine Zt ?_
   refine Zv rfl (fun w' hw' => h1 (below_look hw' (by assumption))) ?_
   refine Zt ?_
   refine Zv rfl (fun w' hw' => vnN (below_look hw' (by assumption)) (by assumption) (by assumption)) ?_
   iterate 2 refine Zt ?_
   refine Zv rfl (fun w' hw' => (HL.out w' hw').c) ?_
   iterate 2 refine Zt ?_
   intro w7 hb7
   replace hb := hb.trans (hb7.mono hb.size)
   clear hb7 hp hh HL
   go_wp2_with fail
   go_ret
   exact ⟨by rw [<- HD.out]; rfl, hb⟩
  ·have e8 : (v.kind == 8) = false := by simp [h8]
   have HE : Hid (deadV h v = if hasK v.kind then deadVs h v.parts else false) := Zi (by rw [deadV_eq]; simp [h7, h8])
   have HO2 : Hid (hasK v.kind = true -> ∀ u, u ∈ v.parts -> ofV h.obs.length h.bus.length u = true) := Zi fun hk => by
    have := HO.out
    rw [ofV_eq, if_neg (by rintro (h | h); exact h7 h; rw [h] at hk; cases hk), if_neg h8, if_pos hk] at this
    exact ofVs_iff.1 this
   clear h7 h8 HO
   obtain ⟨f5, hf5⟩ : ∃ b : Bool, b = (v.kind == 5) := ⟨_, rfl⟩
   obtain ⟨f6, hf6⟩ : ∃ b : Bool, b = (v.kind == 6) := ⟨_, rfl⟩
   obtain ⟨f9, hf9⟩ : ∃ b : Bool, b = (v.kind == 9) := ⟨_, rfl⟩
   obtain ⟨f10, hf10⟩ : ∃ b : Bool, b = (v.kind == 10) := ⟨_, rfl⟩
   have d5 := hf5.symm
   have d6 := hf6.symm
   have d9 := hf9.symm
   have d10 := hf10.symm
   obtain ⟨q46, hq46⟩ : ∃ b : Bool, b = (f5 || (f6 || (f9 || f10))) := ⟨_, rfl⟩
   have HQ := Zi hq46
   have HK : Hid (q46 = hasK v.kind) := Zi (by rw [hq46, hasK_eq, hf5, hf6, hf9, hf10])
   clear hf5 hf6 hf9 hf10 hq46
   go_upto_if 31 with fail
   go_cut [31] (fun s46 wx => s46 = .bool q46 /\ W = wx)
   case first =>
    cases f5 <;> cases f6 <;> cases f9 <;> cases f10
    all_goals
     go_wp2_with fail
     go_meet
     exact ⟨by rw [HQ.out]; rfl, rfl⟩
   case rest =>
    obtain ⟨rfl, rfl⟩ := hcut
    clear d5 d6 d9 d10 HQ
    cases q46 with
    | false =>
     have HF : Hid (deadV h v = false) := Zi (by rw [HE.out, <- HK.out, if_neg (by simp)])
     clear hp hh
     go_upto_region 11 with fail
     apply Zl
     refine Zm ?_
     go_wp2_with fail
     go_ret
     exact ⟨by rw [HF.out]; rfl, hb⟩
    | true =>
     have HF : Hid (deadV h v = v.parts.any (deadV h)) := Zi (by rw [HE.out, <- HK.out, if_pos rfl, deadVs_any])
     have HC := Zi (ContainsF_any 74 (.pointer (some ⟨p, 0, none⟩)) (deadV h) v.parts _ D A3 l3 c3 (HR.out.vs.old hb) (cf74 _) (fun u rowu W2 hu hua hbw => HI.out u hu W2 D rowu _ _ _ _ _ _ _ hua ((HH.out.old hb).old hbw) (HO2.out HK.out.symm u hu)))
     have hmf : ∀ (fn : Fn) (first cap : Array Value) (w : World), (Instr.makeFunc fn first cap).run Try.prog w = .ok (.func fn first cap) w := fun _ _ _ _ => rfl
     clear HE HO2 HI
     go_upto_region 10 with fail
     apply Zl
     refine Zm ?_
     refine Zo rfl (vl (by assumption) (by assumption)) ?_
     iterate 2 refine Zm ?_
     refine Zn HC.out ?_; rintro e w7 ⟨rfl, hb7⟩; refine ⟨_, rfl, ?_⟩; simp only [Zq]
     refine Zm ?_
     replace hb := hb.trans (hb7.mono hb.size)
     clear HC hb7
     go_wp2_with fail
     go_ret
     exact ⟨by rw [HF.out]; rfl, hb⟩
theorem cntV_same (x : Int) : ∀ (v : Va) (h : Hp), (cntV x v h).obs.length = h.obs.length /\ (cntV x v h).bus.length = h.bus.length /\ (cntV x v h).lev = h.lev /\ (cntV x v h).dei = h.dei := Va.ind fun v ih h => by
 have hl : ∀ (l : List Va), (∀ u, u ∈ l -> u ∈ v.parts) -> ∀ h, (cntVs x l h).obs.length = h.obs.length /\ (cntVs x l h).bus.length = h.bus.length /\ (cntVs x l h).lev = h.lev /\ (cntVs x l h).dei = h.dei := by
  intro l
  induction l with
  | nil => intro _ h; rw [cntVs]; exact ⟨rfl, rfl, rfl, rfl⟩
  | cons u l ihl =>
   intro hm h
   rw [cntVs]
   have h1 := ih u (hm u (by simp)) h
   have h2 := ihl (fun u hu => hm u (by simp [hu])) (cntV x u h)
   exact ⟨h2.1.trans h1.1, h2.2.1.trans h1.2.1, h2.2.2.1.trans h1.2.2.1, h2.2.2.2.trans h1.2.2.2⟩
 rw [cntV_eq]
 split
 ·simp
 ·split
  ·simp
  ·split
   ·simp
   ·split
    ·exact hl v.parts (fun _ h => h) h
    ·exact ⟨rfl, rfl, rfl, rfl⟩
theorem cntVs_same (x : Int) : ∀ (l : List Va) (h : Hp), (cntVs x l h).obs.length = h.obs.length /\ (cntVs x l h).bus.length = h.bus.length /\ (cntVs x l h).lev = h.lev /\ (cntVs x l h).dei = h.dei
 | [], h => by rw [cntVs]; exact ⟨rfl, rfl, rfl, rfl⟩
 | u :: l, h => by
  rw [cntVs]
  have h1 := cntV_same x u h
  have h2 := cntVs_same x l (cntV x u h)
  exact ⟨h2.1.trans h1.1, h2.2.1.trans h1.2.1, h2.2.2.1.trans h1.2.2.1, h2.2.2.2.trans h1.2.2.2⟩
def Cnt (G : Gh) (k : Nat) (b : Nat) : Prop := G b = some (k, .arr) ∨ G b = some (k, .bar)
theorem Cnt.mine {G : Gh} {k b : Nat} (h : Cnt G k b) : Mine G k b := by rcases h with h | h <;> exact ⟨_, h, by simp⟩
theorem Cnt.imm {G : Gh} {k b : Nat} (h : Imm G b) : ¬ Cnt G k b := by rintro (h2 | h2) <;> (unfold Imm at h; rw [h] at h2; cases h2)
def Fr (w : World) (G : Gh) : Prop := ∀ b, w.heap.size <= b -> G b = none
theorem Fr.on {w w' : World} {G : Gh} (h : Fr w G) (hs : w.heap.size <= w'.heap.size) : Fr w' G := fun b hb => h b (by omega)
def CountC (G : Gh) (k p : Nat) (x : Int) (v : Va) : Prop := ∀ (h : Hp) (w : World) (row : Array Value) (oA : Option Addr) (oc : Nat) (bA : Option Addr) (bc m : Nat) (lA : Option Addr) (lc : Nat), VAt w (Imm G) v row -> HAt w G k p h oA oc bA bc m lA lc -> Fr w G -> ofV h.obs.length h.bus.length v = true ->
 Calls Try.prog 75 #[.pointer (some ⟨p, 0, none⟩), .agg row, .int .i64 x] w fun e w' => e = .returned (.tuple #[]) /\ HAt w' G k p (cntV x v h) oA oc bA bc m lA lc /\ Keep (Cnt G k) w w'
theorem count_any (G : Gh) (k p : Nat) (x : Int) (hx : (Lit.int .i64 x).wf = true) : ∀ v : Va, CountC G k p x v := Va.ind fun v ih h w row oA oc bA bc m lA lc hv hh hf ho => by
 obtain ⟨tr, A2, l2, c2, A3, l3, c3, hr⟩ := hv.row
 have hcm3 := hr.vs.cap
 have hmx3 := hr.vs.max
 unfold maxLen at hmx3
 have HL3 := Zi hr.vs.len
 have HR := Zi hr
 have HI := Zi ih
 have HH := Zi hh
 have HO := Zi ho
 have HFr := Zi hf
 have hh0 := hh.blk
 clear hv hr ih ho hh hf
 have hh := hh0
 clear hh0
 have hb := Below.refl w.heap.size w
 go_enter Try.func75, Try.ntmps75
 go_upto_region 0 with fail
 apply Zl
 have lthhq := heap_lt hh; (with_reducible refine wl_boxV rfl ?_); intro W q hbn hlq hq; replace hh := below_look hbn hh; replace hb := hb.trans (hbn.mono hb.size); clear hbn; simp only [Zq]
 have hp := hq
 clear hq
 go_upto_region 1 with fail
 apply Zl
 refine Zm ?_
 refine Zo rfl (vk (by assumption) (by assumption)) ?_
 by_cases h7 : v.kind = 7
 ·have e7 : (v.kind == 7) = true := by simp [h7]
  have h1 : 0 <= v.num /\ v.num < (h.obs.length : Int) := by
   have := HO.out
   rw [ofV_eq, if_pos (by omega)] at this
   exact of_decide_eq_true this
  obtain ⟨n, hn⟩ : ∃ n : Nat, v.num = (n : Int) := ⟨v.num.toNat, by omega⟩
  have hnl : n < h.obs.length := by omega
  have hnlI : (n : Int) < (h.obs.length : Int) := by omega
  have ho := List.getElem?_eq_getElem hnl
  obtain ⟨o, hoe⟩ : ∃ o, o = h.obs[n] := ⟨_, rfl⟩
  rw [<- hoe] at ho
  obtain ⟨g, rows, rfl, hR⟩ := (HH.out.old hb).obs.rows ho
  obtain ⟨tr0, fA, fc, hL, -, -⟩ := hR.loads ho
  have HL := Zi hL
  have HOO := Zi ho
  have HD : Hid (cntV x v h = { h with obs := h.obs.set n (addC x o) }) := Zi (by rw [cntV_eq, if_pos h7, hn]; show (_ : Hp) = _; rw [Int.toNat_natCast, modify_eq _ ho])
  have HN := Zi hn
  clear h1 hn hoe hR hL HI HO ho
  go_upto_region 3 with fail
  refine wp_region_below 13 mixed (by kernel_rfl) ?_; simp only [List.take_succ_cons, List.take_zero, List.drop_succ_cons, List.drop_zero]
  iterate 3 refine Zt ?_
  refine Zv rfl (fun w' hw' => h0 (below_look hw' (by assumption))) ?_
  refine Zt ?_
  refine Zv rfl (fun w' hw' => vnN (below_look hw' (by assumption)) (by assumption) (by assumption)) ?_
  iterate 2 refine Zt ?_
  refine Zv rfl (fun w' hw' => (HL.out w' hw').c) ?_
  iterate 4 refine Zt ?_
  intro w7 hb7
  have hb0 := hb.trans (hb7.mono hb.size)
  have HH7 := Zi (HH.out.old hb0)
  clear hp hh HL hb7 hb
  obtain ⟨hs1, hs2, hrl, hset⟩ := HH7.out.stO HOO.out 5 (by omega)
  have HS := Zi hset
  clear hset
  refine wl_storeC rfl 3 _ _ rfl g _ _ rfl rfl info3 rfl hs1 hs2 ?_
  rw [put_noneA]
  go_wp2_with fail
  go_end0
  refine ⟨rfl, by rw [HD.out]; exact HS.out _ _ rfl rfl (by simp [addC, w64]), (Keep.of hb0).trans (C' := fun b => b = g) (fun b hb => ?_) (Keep.cellOne _ _ _ _)⟩
  subst hb; exact .inl (.inl hrl)
 ·have e7 : (v.kind == 7) = false := by simp [h7]
  by_cases h11 : v.kind = 11
  ·have e11 : (v.kind == 11) = true := by simp [h11]
   have h1 : 0 <= v.num /\ v.num < (h.obs.length : Int) := by
    have := HO.out
    rw [ofV_eq, if_pos (by omega)] at this
    exact of_decide_eq_true this
   obtain ⟨n, hn⟩ : ∃ n : Nat, v.num = (n : Int) := ⟨v.num.toNat, by omega⟩
   have hnl : n < h.obs.length := by omega
   have hnlI : (n : Int) < (h.obs.length : Int) := by omega
   have ho := List.getElem?_eq_getElem hnl
   obtain ⟨o, hoe⟩ : ∃ o, o = h.obs[n] := ⟨_, rfl⟩
   rw [<- hoe] at ho
   obtain ⟨g, rows, rfl, hR⟩ := (HH.out.old hb).obs.rows ho
   obtain ⟨tr0, fA, fc, hL, -, -⟩ := hR.loads ho
   have HL := Zi hL
   have HOO := Zi ho
   have HD : Hid (cntV x v h = { h with obs := h.obs.set n (addW x o) }) := Zi (by rw [cntV_eq, if_neg h7, if_pos h11, hn]; show (_ : Hp) = _; rw [Int.toNat_natCast, modify_eq _ ho])
   have HN := Zi hn
   clear h1 hn hoe hR hL HI HO ho
   go_upto_region 5 with fail
   refine wp_region_below 13 mixed (by kernel_rfl) ?_; simp only [List.take_succ_cons, List.take_zero, List.drop_succ_cons, List.drop_zero]
   iterate 3 refine Zt ?_
   refine Zv rfl (fun w' hw' => h0 (below_look hw' (by assumption))) ?_
   refine Zt ?_
   refine Zv rfl (fun w' hw' => vnN (below_look hw' (by assumption)) (by assumption) (by assumption)) ?_
   iterate 2 refine Zt ?_
   refine Zv rfl (fun w' hw' => (HL.out w' hw').k) ?_
   iterate 4 refine Zt ?_
   intro w7 hb7
   have hb0 := hb.trans (hb7.mono hb.size)
   have HH7 := Zi (HH.out.old hb0)
   clear hp hh HL hb7 hb
   obtain ⟨hs1, hs2, hrl, hset⟩ := HH7.out.stO HOO.out 6 (by omega)
   have HS := Zi hset
   clear hset
   refine wl_storeC rfl 3 _ _ rfl g _ _ rfl rfl info3 rfl hs1 hs2 ?_
   rw [put_noneA]
   go_wp2_with fail
   go_end0
   refine ⟨rfl, by rw [HD.out]; exact HS.out _ _ rfl rfl (by simp [addW, w64]), (Keep.of hb0).trans (C' := fun b => b = g) (fun b hb => ?_) (Keep.cellOne _ _ _ _)⟩
   subst hb; exact .inl (.inl hrl)
  ·have e11 : (v.kind == 11) = false := by simp [h11]
   by_cases h8 : v.kind = 8
   ·have e8 : (v.kind == 8) = true := by simp [h8]
    have h1 : 0 <= v.num /\ v.num < (h.bus.length : Int) := by
     have := HO.out
     rw [ofV_eq, if_neg (by omega), if_pos h8] at this
     exact of_decide_eq_true this
    obtain ⟨n, hn⟩ : ∃ n : Nat, v.num = (n : Int) := ⟨v.num.toNat, by omega⟩
    have hnl : n < h.bus.length := by omega
    have hnlI : (n : Int) < (h.bus.length : Int) := by omega
    have ho := List.getElem?_eq_getElem hnl
    obtain ⟨o, hoe⟩ : ∃ o, o = h.bus[n] := ⟨_, rfl⟩
    rw [<- hoe] at ho
    obtain ⟨g, rows, rfl, hR⟩ := (HH.out.old hb).bus.rows ho
    obtain ⟨fA, fc, hL, -⟩ := hR.loads ho
    have HL := Zi hL
    have HOO := Zi ho
    have HD : Hid (cntV x v h = { h with bus := h.bus.set n (addB x o) }) := Zi (by rw [cntV_eq, if_neg h7, if_neg h11, if_pos h8, hn]; show (_ : Hp) = _; rw [Int.toNat_natCast, modify_eq _ ho])
    have HN := Zi hn
    clear h1 hn hoe hR hL HI HO ho
    go_upto_region 7 with fail
    refine wp_region_below 13 mixed (by kernel_rfl) ?_; simp only [List.take_succ_cons, List.take_zero, List.drop_succ_cons, List.drop_zero]
    iterate 3 refine Zt ?_
    refine Zv rfl (fun w' hw' => h1 (below_look hw' (by assumption))) ?_
    refine Zt ?_
    refine Zv rfl (fun w' hw' => vnN (below_look hw' (by assumption)) (by assumption) (by assumption)) ?_
    iterate 2 refine Zt ?_
    refine Zv rfl (fun w' hw' => (HL.out w' hw').c) ?_
    iterate 4 refine Zt ?_
    intro w7 hb7
    have hb0 := hb.trans (hb7.mono hb.size)
    have HH7 := Zi (HH.out.old hb0)
    clear hp hh HL hb7 hb
    obtain ⟨hs1, hs2, hrl, hset⟩ := HH7.out.stB HOO.out
    have HS := Zi hset
    clear hset
    refine wl_storeC rfl 3 _ _ rfl g _ _ rfl rfl info3 rfl hs1 hs2 ?_
    rw [put_noneA]
    go_wp2_with fail
    go_end0
    refine ⟨rfl, by rw [HD.out]; exact HS.out _ _ rfl rfl, (Keep.of hb0).trans (C' := fun b => b = g) (fun b hb => ?_) (Keep.cellOne _ _ _ _)⟩
    subst hb; exact .inl (.inr hrl)
   ·have e8 : (v.kind == 8) = false := by simp [h8]
    have HE : Hid (cntV x v h = if hasK v.kind then cntVs x v.parts h else h) := Zi (by rw [cntV_eq]; simp [h7, h8, h11])
    have HO2 : Hid (hasK v.kind = true -> ∀ u, u ∈ v.parts -> ofV h.obs.length h.bus.length u = true) := Zi fun hk => by
     have := HO.out
     rw [ofV_eq, if_neg (by omega), if_neg h8, if_pos hk] at this
     exact ofVs_iff.1 this
    clear h7 h8 h11 HO
    obtain ⟨f5, hf5⟩ : ∃ b : Bool, b = (v.kind == 5) := ⟨_, rfl⟩
    obtain ⟨f6, hf6⟩ : ∃ b : Bool, b = (v.kind == 6) := ⟨_, rfl⟩
    obtain ⟨f9, hf9⟩ : ∃ b : Bool, b = (v.kind == 9) := ⟨_, rfl⟩
    obtain ⟨f10, hf10⟩ : ∃ b : Bool, b = (v.kind == 10) := ⟨_, rfl⟩
    have d5 := hf5.symm
    have d6 := hf6.symm
    have d9 := hf9.symm
    have d10 := hf10.symm
    obtain ⟨q46, hq46⟩ : ∃ b : Bool, b = (f5 || (f6 || (f9 || f10))) := ⟨_, rfl⟩
    have HQ := Zi hq46
    have HK : Hid (q46 = hasK v.kind) := Zi (by rw [hq46, hasK_eq, hf5, hf6, hf9, hf10])
    clear hf5 hf6 hf9 hf10 hq46
    go_upto_if 55 with fail
    go_cut [55] (fun s46 wx => s46 = .bool q46 /\ W = wx)
    case first =>
     cases f5 <;> cases f6 <;> cases f9 <;> cases f10
     all_goals
      go_wp2_with fail
      go_meet
      exact ⟨by rw [HQ.out]; rfl, rfl⟩
    case rest =>
     obtain ⟨rfl, rfl⟩ := hcut
     clear d5 d6 d9 d10 HQ
     have HH1 := Zi (HH.out.old hb)
     have HK1 := Zi (Keep.of (C := Cnt G k) hb)
     cases q46 with
     | false =>
      have HF : Hid (cntV x v h = h) := Zi (by rw [HE.out, <- HK.out, if_neg (by simp)])
      go_wp2_with fail
      go_end0
      exact ⟨rfl, by rw [HF.out]; exact HH1.out, HK1.out⟩
     | true =>
      have HF : Hid (cntV x v h = cntVs x v.parts h) := Zi (by rw [HE.out, <- HK.out, if_pos rfl])
      have HOf := Zi (HO2.out HK.out.symm)
      have H0 : Hid (HAt _ G k p (cntVs x (v.parts.take 0) h) oA oc bA bc m lA lc) := Zi (by rw [List.take_zero, cntVs]; exact HH1.out)
      have hsz := hb.size
      clear HE HO2 HH1
      go_upto_region 12 with fail
      apply Zl
      refine Zm ?_
      refine Zo rfl (vl (by assumption) (by assumption)) ?_
      iterate 2 refine Zm ?_
      clear hh hp hb hlq HH
      go_wp2_with fail
      go_loopw [63] (fun i wr => ∃ j : Nat, j <= l3 /\ i = .int .i64 (j : Int) /\ Hid (HAt wr G k p (cntVs x (v.parts.take j) h) oA oc bA bc m lA lc) /\ Hid (Keep (Cnt G k) w wr)) (fun i _ => l3 - (intOf i).toNat)
      case atStart => exact ⟨0, by omega, rfl, H0, HK1⟩
      case round =>
       clear H0 HK1 hsz
       obtain ⟨j, hj, rfl, HA, HKe⟩ := hrel
       have hsz := HKe.out.size
       go_upto_region 13 with fail
       by_cases hlt : j < l3
       ·have hltI : (j : Int) < (l3 : Int) := by omega
        obtain ⟨b2, off2, u, rowu, rfl, -, hu, hua, hrow⟩ := (HR.out.vs.keep HKe.out (fun b hb => Cnt.imm hb)).getB hlt
        have HST := Zi (cntVs_take (by_ := x) hu h)
        have HIU := Zi (HI.out u (List.mem_of_getElem? hu))
        have HOU := Zi (HOf.out u (List.mem_of_getElem? hu))
        have HUA := Zi hua
        have HRU := Zi (hrow wr (Below.refl _ _))
        have hus : rowu.size = 9 := hua.size
        have hu1 : rowu.all (·.oneCell') = true := hua.one
        have hzz := Below.refl wr.heap.size wr
        clear hu hua hrow
        apply Zl
        refine Zm ?_
        go_upto_region 14 with fail
        apply Zl
        refine Zm ?_
        refine Zw rfl (HRU.out) ?_
        (with_reducible refine wl_allV ?_); intro W5 q5 hbn hlq5 hq5; replace hzz := hzz.trans (hbn.mono hzz.size); clear hbn; simp only [Zq]
        (with_reducible refine wl_putV hus hu1 rfl rfl rfl hq5 ?_); rw [put_noneA]; intro W6 hbx hsz hkx hnx; replace hzz := hbx _ _ (by omega) hzz; clear hq5; have hq5 := hnx; clear hnx
        have hz2 := hzz.size
        clear hbx hkx hsz hus hu1
        obtain ⟨e1, e2, -, -⟩ := cntVs_same x (v.parts.take j) h
        have HC := Zi (HIU.out (cntVs x (v.parts.take j) h) W6 _ _ _ _ _ _ _ _ (HUA.out.old hzz) (HA.out.old hzz) (HFr.out.on (by omega)) (by rw [e1, e2]; exact HOU.out))
        obtain ⟨tr5, A5, l5, c5, A6, l6, c6, hru⟩ := HUA.out.row
        have HRV := Zi hru
        clear hru
        go_upto_region 15 with fail
        apply Zl
        refine Zm ?_
        refine Zw rfl (vrow (by assumption) (by assumption)) ?_
        refine Zm ?_
        refine Zn HC.out ?_; rintro e w7 ⟨rfl, ha7, hk7⟩; refine ⟨_, rfl, ?_⟩; simp only [Zq]
        have HA7 := Zi ha7
        have HK7 := Zi ((HKe.out.trans (C' := Cnt G k) (fun b h => .inl h) (Keep.of hzz)).trans (C' := Cnt G k) (fun b h => .inl h) hk7)
        clear ha7 hk7
        rw [<- HST.out] at HA7
        clear HC HRV HST HA HKe hq5 hzz
        go_wp2_with fail
        go_roundw
        case rel => exact ⟨j + 1, by omega, by go_num, HA7, HK7⟩
        case measure => simp [intOf]; omega
       ·have hltI : ¬ (j : Int) < (l3 : Int) := by omega
        have HF2 : Hid (cntVs x (v.parts.take j) h = cntV x v h) := Zi (by rw [HF.out, List.take_of_length_le (by rw [HL3.out]; omega)])
        apply Zl
        refine Zm ?_
        go_wp2_with fail
        go_end0
        exact ⟨rfl, by rw [<- HF2.out]; exact HA.out, HKe.out⟩
def HeapAt (w : World) (G : Gh) (k p : Nat) (h : Hp) : Prop := ∃ oA oc bA bc m lA lc, HAt w G k p h oA oc bA bc m lA lc
structure Done (w : World) (G : Gh) (k p : Nat) (h' : Hp) (w' : World) (G' : Gh) : Prop where
 heap : HeapAt w' G' k p h'
 fr : Fr w' G'
 old : ∀ b, b < w.heap.size -> G' b = G b
 new : ∀ b, w.heap.size <= b -> G' b = none ∨ ∃ r, G' b = some (k, r)
 keep : Keep (Mine G k) w w'
theorem Done.calm {w : World} {G : Gh} {k p : Nat} {h : Hp} (hh : HeapAt w G k p h) (hf : Fr w G) {w' : World} (hb : Below w.heap.size w w') : Done w G k p h w' G := by
 obtain ⟨oA, oc, bA, bc, m, lA, lc, hh⟩ := hh
 exact ⟨⟨_, _, _, _, _, _, _, hh.old hb⟩, hf.on hb.size, fun b _ => rfl, fun b hb => .inl (hf b hb), Keep.of hb⟩
section
variable {w w' : World} {G G' : Gh} {k p : Nat} {h h' : Hp}
theorem Done.trans {W : World} {G1 : Gh} (d : Done w G k p h W G1) (d2 : Done W G1 k p h' w' G') : Done w G k p h' w' G' where
 heap := d2.heap
 fr := d2.fr
 old := fun b hb => (d2.old b (by have := d.keep.size; omega)).trans (d.old b hb)
 new := fun b hb => by
  by_cases e : b < W.heap.size
  ·rw [d2.old b e]; exact d.new b hb
  ·exact d2.new b (by omega)
 keep := d.keep.trans (C' := Mine G1 k) (fun b hm => by
  by_cases e : b < w.heap.size
  ·unfold Mine at hm; rw [d.old b e] at hm; exact .inl hm
  ·exact .inr (by omega)) d2.keep
theorem Done.va (d : Done w G k p h' w' G') {v : Va} {row : Array Value} (hv : VAt w (Imm G) v row) : VAt w' (Imm G') v row :=
 (hv.low.mono (fun _ h => h) fun b hb hl => d.keep.block b hl (fun hm => by obtain ⟨_, e, _⟩ := hm; have := hb.1; unfold Imm at this; rw [this] at e; cases e)).weak fun b hb => by
  unfold Imm; rw [d.old b hb.2]; exact hb.1
theorem Done.look (d : Done w G k p h' w' G') {b : Nat} {o : Obj} (ho : w.heap[b]? = some o) (hn : ¬ Mine G k b) : w'.heap[b]? = some o := d.keep.look ho hn
def mark (G : Gh) (k r : Nat) : Gh := fun b => if b = r then some (k, .tmp) else G b
theorem mark_same (G : Gh) (k r : Nat) : mark G k r r = some (k, .tmp) := if_pos rfl
theorem mark_not (G : Gh) (k r : Nat) : ¬ Mine (mark G k r) k r := by rintro ⟨x, e, h⟩; rw [mark_same] at e; cases e; exact h rfl
theorem Done.marked (hh : HeapAt w G k p h) (hf : Fr w G) (hb : Below w.heap.size w w') {r : Nat} (hr : w.heap.size <= r) (hr2 : r < w'.heap.size) : Done w G k p h w' (mark G k r) where
 heap := by
  obtain ⟨oA, oc, bA, bc, m, lA, lc, hh⟩ := hh
  exact ⟨_, _, _, _, _, _, _, (hh.regh fun b hb => if_neg (by omega)).old hb⟩
 fr := fun b hb2 => by
  unfold mark
  rw [if_neg (by omega)]
  exact hf b (by have := hb.size; omega)
 old := fun b hb => if_neg (by omega)
 new := fun b hb2 => by
  unfold mark
  split
  ·exact .inr ⟨_, rfl⟩
  ·exact .inl (hf b hb2)
 keep := Keep.of hb
theorem Done.put {W : World} {G1 : Gh} (d : Done w G k p h W G1) {r : Nat} (hr : G1 r = some (k, .tmp)) (hr2 : w.heap.size <= r) (hk : Keep (fun b => b = r) W w') : Done w G k p h w' G1 where
 heap := by
  obtain ⟨oA, oc, bA, bc, m, lA, lc, hh⟩ := d.heap
  exact ⟨_, _, _, _, _, _, _, hh.same (fun b hb hm => hk.block b hb fun e => by obtain ⟨x, e2, h3⟩ := hm; rw [e, hr] at e2; cases e2; exact h3 rfl) fun b hb hn => hk.block b hb fun e => by rw [e, hr] at hn; cases hn⟩
 fr := d.fr.on hk.size
 old := d.old
 new := d.new
 keep := d.keep.trans (C' := fun b => b = r) (fun b e => .inr (by omega)) hk
theorem VAt.put {v : Va} {row : Array Value} {r : Nat} (hv : VAt w (Imm G) v row) (hr : G r = some (k, .tmp)) (hk : Keep (fun b => b = r) w w') : VAt w' (Imm G) v row := hv.keep hk fun b hb e => by unfold Imm at hb; rw [e, hr] at hb; cases hb
theorem Keep.of_put {r : Nat} (hbx : ∀ B w0, B <= r -> Below B w0 w -> Below B w0 w') (hsz : w'.heap.size = w.heap.size) (hkx : ∀ g, g ≠ r -> w'.heap[g]? = w.heap[g]?) : Keep (fun b => b = r) w w' :=
 have h0 := hbx 0 w (Nat.zero_le _) (Below.refl 0 w)
 ⟨h0.os, h0.tape, h0.output, by omega, fun b _ hn => hkx b hn⟩
theorem Done.quiet (d : Done w G k p h w' G') {w2 : World} (hb : Below w'.heap.size w' w2) : Done w G k p h w2 G' := d.trans (Done.calm d.heap d.fr hb)
theorem count_done (hh : HeapAt w G k p h) (hf : Fr w G) {v : Va} {row : Array Value} (hv : VAt w (Imm G) v row) (x : Int) (hx : (Lit.int .i64 x).wf = true) (ho : ofV h.obs.length h.bus.length v = true) :
  Calls Try.prog 75 #[.pointer (some ⟨p, 0, none⟩), .agg row, .int .i64 x] w fun e w' => e = .returned (.tuple #[]) /\ Done w G k p (cntV x v h) w' G := by
 obtain ⟨oA, oc, bA, bc, m, lA, lc, hh⟩ := hh
 refine (count_any G k p x hx v h w row _ _ _ _ _ _ _ hv hh hf ho).mono ?_
 rintro e w' ⟨h1, h2, h3⟩
 exact ⟨h1, ⟨_, _, _, _, _, _, _, h2⟩, hf.on h3.size, fun b _ => rfl, fun b hb => .inl (hf b hb), (Keep.refl _ w).trans (fun b hb => .inl hb.mine) h3⟩
theorem of_done (hh : HeapAt w G k p h) {D : Nat -> Prop} {v : Va} {row : Array Value} (hv : VAt w D v row) : Calls Try.prog 73 #[.pointer (some ⟨p, 0, none⟩), .agg row] w fun e w' => e = .returned (.bool (ofV h.obs.length h.bus.length v)) /\ Below w.heap.size w w' := by
 obtain ⟨oA, oc, bA, bc, m, lA, lc, hh⟩ := hh
 exact of_heap hh hv
theorem dead_done (hh : HeapAt w G k p h) {D : Nat -> Prop} {v : Va} {row : Array Value} (hv : VAt w D v row) (ho : ofV h.obs.length h.bus.length v = true) : Calls Try.prog 74 #[.pointer (some ⟨p, 0, none⟩), .agg row] w fun e w' => e = .returned (.bool (deadV h v)) /\ Below w.heap.size w w' := by
 obtain ⟨oA, oc, bA, bc, m, lA, lc, hh⟩ := hh
 exact dead_any G k p h v w D row _ _ _ _ _ _ _ hv hh ho
end
def ValErr (w : World) (G : Gh) (k p : Nat) (r : Hp × Va × Int) (e : Ending) (w' : World) : Prop := ∃ G' row, e = .returned (.tuple #[.agg row, .int .i64 r.2.2]) /\ VAt w' (Imm G') r.2.1 row /\ Done w G k p r.1 w' G'
def copyP (h : Hp) (v : Va) : Hp × Va × Int := if ofV h.obs.length h.bus.length v then (if deadV h v then (h, va0, 140) else (cntV 1 v h, v, 0)) else (h, va0, 4)
/- zret(R;;r): the zero value into the result's variable. -/
/- vput(r): a value stored into the result's variable. -/
theorem Copy_any {G : Gh} {k p : Nat} {h : Hp} {w : World} (hh : HeapAt w G k p h) (hf : Fr w G) {v : Va} {row : Array Value} (hv : VAt w (Imm G) v row) :
  Calls Try.prog 24 #[.pointer (some ⟨p, 0, none⟩), .agg row] w (ValErr w G k p (copyP h v)) := by
 have HX := Zi hh
 have HF := Zi hf
 have HV := Zi hv
 have hvs := hv.size
 have hv1 := hv.one
 have hzs : zrow.size = 9 := rfl
 have zone : zrow.all (·.oneCell') = true := (zero_va w (Imm G)).one
 have hb := Below.refl w.heap.size w
 clear hh hf hv
 go_enter Try.func24, Try.ntmps24
 go_upto_region 0 with fail
 apply Zl
 (with_reducible refine wl_boxV rfl ?_); intro W q hbn hlq hq; replace hb := hb.trans (hbn.mono hb.size); clear hbn; simp only [Zq]
 have lthqr := heap_lt hq; (with_reducible refine wl_allV ?_); intro W2 r hbn hlr hr; replace hq := below_look hbn hq; replace hb := hb.trans (hbn.mono hb.size); clear hbn; simp only [Zq]
 refine Zm ?_
 have hrl : w.heap.size <= r := by omega
 have hql := heap_lt hq
 have HRl := Zi hrl
 have hqG : G q = none := HF.out q (by omega)
 have HQ : Hid (¬ Mine (mark G k r) k q) := Zi (by rintro ⟨x, e, -⟩; unfold mark at e; rw [if_neg (by omega), hqG] at e; cases e)
 have HDn := Zi (Done.marked HX.out HF.out hb hrl (heap_lt hr))
 have HM := Zi (mark_same G k r)
 have HNM := Zi (mark_not G k r)
 have hvv := HDn.out.va HV.out
 clear HV
 have HV := Zi hvv
 clear hvv HX HF hb hrl hql hqG
 obtain ⟨bb, hbb⟩ : ∃ b, b = ofV h.obs.length h.bus.length v := ⟨_, rfl⟩
 have hc := of_done HDn.out.heap HV.out
 rw [<- hbb] at hc
 have HC := Zi hc
 have HB := Zi hbb
 clear hc hbb
 go_upto_region 1 with fail
 apply Zl
 iterate 4 refine Zm ?_
 refine Zw rfl (row35 hq hvs) ?_
 refine Zn HC.out ?_; rintro e w7 ⟨rfl, hb7⟩; refine ⟨_, rfl, ?_⟩; simp only [Zq]
 replace HDn := Zi (HDn.out.quiet hb7); replace HV := Zi (HV.out.old hb7); replace hq := below_look hb7 hq; replace hr := below_look hb7 hr; clear hb7
 iterate 3 refine Zm ?_
 clear HC
 cases bb with
 | false =>
  have HD : Hid (copyP h v = (h, va0, 4)) := Zi (by unfold copyP; rw [<- HB.out]; rfl)
  go_upto_region 2 with fail
  apply Zl
  refine wl_w rfl (build35 _ _ rfl _) ?_
  simp only [Zq]
  (with_reducible refine wl_putV rfl zone hzs rfl rfl hr ?_); rw [put_noneA]; intro W10 hbx hsz hkx hnx
  replace HDn := Zi (HDn.out.put HM.out HRl.out (Keep.of_put hbx hsz hkx))
  clear hr hbx hsz hkx
  have hr := hnx
  clear hnx
  refine Zm ?_
  go_wp2_with fail
  refine bodyPost_ret (res35t rfl _ _ r rfl rfl rfl hr) rfl ?_
  rw [HD.out]
  exact ⟨_, zrow, rfl, zero_va _ _, HDn.out⟩
 | true =>
  obtain ⟨bd, hbd⟩ : ∃ b, b = deadV h v := ⟨_, rfl⟩
  have hc := dead_done HDn.out.heap HV.out HB.out.symm
  rw [<- hbd] at hc
  have HC := Zi hc
  have HBD := Zi hbd
  clear hc hbd
  go_upto_region 3 with fail
  apply Zl
  refine Zm ?_
  refine Zw rfl (row35 hq hvs) ?_
  refine Zn HC.out ?_; rintro e w7 ⟨rfl, hb7⟩; refine ⟨_, rfl, ?_⟩; simp only [Zq]
  replace HDn := Zi (HDn.out.quiet hb7); replace HV := Zi (HV.out.old hb7); replace hq := below_look hb7 hq; replace hr := below_look hb7 hr; clear hb7
  refine Zm ?_
  clear HC
  cases bd with
  | true =>
   have HD : Hid (copyP h v = (h, va0, 140)) := Zi (by unfold copyP; rw [<- HB.out, <- HBD.out]; rfl)
   go_upto_region 4 with fail
   apply Zl
   refine wl_w rfl (build35 _ _ rfl _) ?_
   simp only [Zq]
   (with_reducible refine wl_putV rfl zone hzs rfl rfl hr ?_); rw [put_noneA]; intro W10 hbx hsz hkx hnx
   replace HDn := Zi (HDn.out.put HM.out HRl.out (Keep.of_put hbx hsz hkx))
   clear hr hbx hsz hkx
   have hr := hnx
   clear hnx
   refine Zm ?_
   go_wp2_with fail
   refine bodyPost_ret (res35t rfl _ _ r rfl rfl rfl hr) rfl ?_
   rw [HD.out]
   exact ⟨_, zrow, rfl, zero_va _ _, HDn.out⟩
  | false =>
   have HD : Hid (copyP h v = (cntV 1 v h, v, 0)) := Zi (by unfold copyP; rw [<- HB.out, <- HBD.out]; rfl)
   have HC := Zi (count_done HDn.out.heap HDn.out.fr HV.out 1 (by rfl) HB.out.symm)
   go_upto_region 5 with fail
   apply Zl
   refine Zm ?_
   refine Zw rfl (row35 hq hvs) ?_
   refine Zn HC.out ?_; rintro e w8 ⟨rfl, hd8⟩; refine ⟨_, rfl, ?_⟩; simp only [Zq]
   replace HV := Zi (hd8.va HV.out); replace HDn := Zi (HDn.out.trans hd8); replace hq := hd8.look hq HQ.out; replace hr := hd8.look hr HNM.out; clear hd8
   clear HC
   go_upto_region 6 with fail
   apply Zl
   refine Zw rfl (row35 hq hvs) ?_
   (with_reducible refine wl_putV hvs hv1 hzs rfl rfl hr ?_); rw [put_noneA]; intro W10 hbx hsz hkx hnx
   have HK10 := Zi (Keep.of_put hbx hsz hkx)
   replace HDn := Zi (HDn.out.put HM.out HRl.out HK10.out)
   replace HV := Zi (HV.out.put HM.out HK10.out)
   clear hr hbx hsz hkx
   have hr := hnx
   clear hnx
   refine Zm ?_
   go_wp2_with fail
   refine bodyPost_ret (res35t rfl _ _ r rfl rfl hvs hr) rfl ?_
   rw [HD.out]
   exact ⟨_, row, rfl, HV.out, HDn.out⟩
end Go.Proofs.Ytpamocglecangaa
namespace Go.Proofs.Ytpamocglecangaa.Nm
open Go.RowKit
set_option linter.unusedSimpArgs false
section
variable {P : Program} {ops : Array Oper} {Q : Exit -> Act -> World -> Prop} {md : Region.Mode} {S : World -> Prop} {c : Nat}
def wpAnyZ (P : Program) (md : Region.Mode) (ops : Array Oper) (Q : Exit -> Act -> World -> Prop) (S : World -> Prop) (c : Nat) : Nat -> Array Bool -> Act -> World -> Prop
 | 0, listed, a, w => Region.ready md ops listed = [] /\ Q .normal a w
 | fuel + 1, listed, a, w =>
  (Region.ready md ops listed = [] -> Q .normal a w) /\
  ∀ i ∈ Region.ready md ops listed, wpOp P ops Q i (fun a' w' => (i ≠ c -> S w') /\ wpAnyZ P md ops Q S c fuel (listed.setIfInBounds i true) a' w') a w
theorem wpAny_of_Z : ∀ (fuel : Nat) (listed : Array Bool) (a : Act) (w : World), wpAnyZ P md ops Q S c fuel listed a w -> wpAny P md ops Q fuel listed a w
 | 0, _, _, _, h => h
 | fuel + 1, _, _, _, h => ⟨h.1, fun i hi => wpOp_mono (fun a' w' h' => wpAny_of_Z fuel _ a' w' h'.2) (h.2 i hi)⟩
theorem wpAnyZ_first {i : Nat} {oi oc : Oper} {v : Value} (hi : ops[i]? = some oi) (hsel : ∀ (j : Nat) (o : Oper) cs b, ops[j]? = some o -> o.op ≠ .select cs b)
  (hQ : ∀ c a w, Q (.panic c) (a.put oi.dst v) w -> Q (.panic c) a w) (hoc : ops[c]? = some oc) (hci : ∃ e ∈ oc.after, Region.binds md e = true /\ e.on = i) :
  ∀ (fuel : Nat) (listed : Array Bool) (a : Act) (w : World),
   (∀ j oj, ops[j]? = some oj -> j ≠ i -> listed.getD j true = false -> (∀ e ∈ oj.after, Region.binds md e = true -> e.on ≠ i) -> oi.apart ops oj = true) ->
   i ∈ Region.ready md ops listed -> YieldsIf P ops S oi v a -> S w ->
   wpAnyZ P md ops Q S c fuel (listed.setIfInBounds i true) (a.put oi.dst v) w -> wpAnyZ P md ops Q S c (fuel + 1) listed a w := by
 intro fuel
 induction fuel with
 | zero =>
  intro listed a w _ hr hy hS H
  refine ⟨fun h => (by rw [h] at hr; cases hr), fun j hj => ?_⟩
  by_cases hji : j = i
  ·subst hji; exact hy.wpOp hi hS ⟨fun _ => hS, H⟩
  ·have := ready_mono hj hji
   rw [H.1] at this
   cases this
 | succ fuel ih =>
  intro listed a w hfree hr hy hS H
  refine ⟨fun h => (by rw [h] at hr; cases hr), fun j hj => ?_⟩
  by_cases hji : j = i
  ·subst hji; exact hy.wpOp hi hS ⟨fun _ => hS, H⟩
  ·have h1 := H.2 j (ready_mono hj hji)
   obtain ⟨hjun, oj, hoj, hall⟩ := mem_ready.1 hj
   have hnot : ∀ e ∈ oj.after, Region.binds md e = true -> e.on ≠ i := fun e he hb heq => by
    have h1 := hall e he hb
    have h0 := (mem_ready.1 hr).1
    rw [heq] at h1
    rcases Nat.lt_or_ge i listed.size with h' | h'
    ·simp [h'] at h0 h1; rw [h0] at h1; cases h1
    ·simp [Array.getElem?_eq_none h'] at h1
   have hjc : j ≠ c := fun e => by
    subst e
    rw [hoc] at hoj
    cases hoj
    obtain ⟨e, he, hb, heq⟩ := hci
    exact hnot e he hb heq
   have h2 := wpOp_putIf hoj (hfree j oj hoj hji hjun hnot) (fun cs b => hsel i oi cs b hi) (fun cs b => hsel j oj cs b hoj) hQ hy h1
   have hfree' : ∀ k ok, ops[k]? = some ok -> k ≠ i -> (listed.setIfInBounds j true).getD k true = false ->
     (∀ e ∈ ok.after, Region.binds md e = true -> e.on ≠ i) -> oi.apart ops ok = true := fun k ok hk hki hun hno => by
    refine hfree k ok hk hki ?_ hno
    by_cases hjk : j = k
    ·subst hjk; exact hjun
    ·rw [getD_set_ne true hjk] at hun; exact hun
   refine wpOp_mono (fun a' w' h3 => ⟨h3.2.1, ih (listed.setIfInBounds j true) a' w' hfree' (ready_mono hr (Ne.symm hji)) h3.1 (h3.2.1 hjc) ?_⟩) h2
   rw [Array.setIfInBounds_comm _ _ hji]
   exact h3.2.2
def waits (md : Region.Mode) (ops : Array Oper) (c i : Nat) : Bool := match ops[c]? with | some oc => oc.after.toList.any fun e => Region.binds md e && (e.on == i) | none => false
theorem waits_spec {i : Nat} (h : waits md ops c i = true) : ∃ oc, ops[c]? = some oc /\ ∃ e ∈ oc.after, Region.binds md e = true /\ e.on = i := by
 unfold waits at h
 split at h
 ·rename_i oc hoc
  rw [List.any_eq_true] at h
  obtain ⟨e, he, h2⟩ := h
  rw [Bool.and_eq_true] at h2
  exact ⟨oc, hoc, e, Array.mem_toList_iff.1 he, h2.1, by simpa using h2.2⟩
 ·cases h
variable {i : Nat} {oi : Oper} {fuel : Nat} {listed : Array Bool} {a : Act} {w : World}
theorem za_val {v : Value} (hi : ops[i]? = some oi) (hs : Region.noSelect ops = true) (hf : Region.free md ops listed i = true) (hr : (Region.ready md ops listed).contains i = true) (hw : waits md ops c i = true)
  (hQ : ∀ c a w, Q (.panic c) (a.put oi.dst v) w -> Q (.panic c) a w) (hS : S w) (hg : Region.wanted oi (yielded ops a.tmps) = true) (hv : ∀ w, S w -> (execOp a.eval oi).run P w = .ok (.value v) w)
  (h : wpAnyZ P md ops Q S c fuel (listed.setIfInBounds i true) (a.put oi.dst v) w) : wpAnyZ P md ops Q S c (fuel + 1) listed a w := by
 obtain ⟨oc, hoc, hci⟩ := waits_spec hw
 exact wpAnyZ_first hi (Region.noSelect_spec hs) hQ hoc hci fuel listed a w (Region.free_spec hi hf) (by simpa using hr) (.inl ⟨hg, hv⟩) hS h
theorem za_k (hi : ops[i]? = some oi) (hs : Region.noSelect ops = true) (hf : Region.free md ops listed i = true) (hr : (Region.ready md ops listed).contains i = true) (hw : waits md ops c i = true)
  (hQ : ∀ v c a w, Q (.panic c) (a.put oi.dst v) w -> Q (.panic c) a w) (hS : S w) (hg : Region.wanted oi (yielded ops a.tmps) = true)
  (h : ∀ K : Act -> Prop, (∀ a', wpAnyZ P md ops Q S c fuel (listed.setIfInBounds i true) a' w -> K a') -> ∃ v, (∀ w, (execOp a.eval oi).run P w = .ok (.value v) w) /\ K (a.put oi.dst v)) : wpAnyZ P md ops Q S c (fuel + 1) listed a w := by
 obtain ⟨v, hv, hk⟩ := h _ (fun _ h => h)
 exact za_val hi hs hf hr hw (hQ v) hS hg (fun w _ => hv w) hk
theorem zk4 (hi : ops[i]? = some oi) (hb : (Region.noSelect ops && (Region.free md ops listed i && ((Region.ready md ops listed).contains i && waits md ops c i))) = true)
  (hQ : ∀ v c a w, Q (.panic c) (a.put oi.dst v) w -> Q (.panic c) a w) (hS : S w) (hg : Region.wanted oi (yielded ops a.tmps) = true)
  (h : ∀ K : Act -> Prop, (∀ a', wpAnyZ P md ops Q S c fuel (listed.setIfInBounds i true) a' w -> K a') -> ∃ v, (∀ w, (execOp a.eval oi).run P w = .ok (.value v) w) /\ K (a.put oi.dst v)) : wpAnyZ P md ops Q S c (fuel + 1) listed a w := by
 simp only [Bool.and_eq_true] at hb
 exact za_k hi hb.1 hb.2.1 hb.2.2.1 hb.2.2.2 hQ hS hg h
theorem zv4 {v : Value} (hi : ops[i]? = some oi) (hb : (Region.noSelect ops && (Region.free md ops listed i && ((Region.ready md ops listed).contains i && waits md ops c i))) = true)
  (hQ : ∀ c a w, Q (.panic c) (a.put oi.dst v) w -> Q (.panic c) a w) (hS : S w) (hg : Region.wanted oi (yielded ops a.tmps) = true) (hv : ∀ w, S w -> (execOp a.eval oi).run P w = .ok (.value v) w)
  (h : wpAnyZ P md ops Q S c fuel (listed.setIfInBounds i true) (a.put oi.dst v) w) : wpAnyZ P md ops Q S c (fuel + 1) listed a w := by
 simp only [Bool.and_eq_true] at hb
 exact za_val hi hb.1 hb.2.1 hb.2.2.1 hb.2.2.2 hQ hS hg hv h
theorem zm (i : Nat) {oi : Oper} {b : Act} (hS : S w) (h : wpAnyZ P md ops Q S c fuel (listed.setIfInBounds i true) b w) (hi : ops[i]? = some oi := by rfl) (hb : (Region.noSelect ops && (Region.free md ops listed i && ((Region.ready md ops listed).contains i && waits md ops c i))) = true := by kernel_rfl)
    (hQ : ∀ v c a w, Q (.panic c) (a.put oi.dst v) w -> Q (.panic c) a w := by exact Zh) (hg : Region.wanted oi (yielded ops a.tmps) = true := by rfl)
    (e : ∀ K : Act -> Prop, K b -> ∃ v, (∀ w, (execOp a.eval oi).run P w = .ok (.value v) w) /\ K (a.put oi.dst v) := by intro K hK; go_simp; exact hK) : wpAnyZ P md ops Q S c (fuel + 1) listed a w := by
 obtain ⟨v, e1, e2⟩ := e (fun b => wpAnyZ P md ops Q S c fuel (listed.setIfInBounds i true) b w) h
 exact zk4 hi hb hQ hS hg fun K hK => ⟨v, e1, hK _ e2⟩
theorem wpAnyZ_one (hr : Region.ready md ops listed = [i]) (h : wpOp P ops Q i (fun a' w' => (i ≠ c -> S w') /\ wpAnyZ P md ops Q S c fuel (listed.setIfInBounds i true) a' w') a w) : wpAnyZ P md ops Q S c (fuel + 1) listed a w :=
 ⟨fun h0 => (by rw [hr] at h0; cases h0), fun j hj => by
  rw [hr] at hj
  rcases List.mem_cons.1 hj with rfl | hj
  ·exact h
  ·cases hj⟩
theorem za_do {v : Value} {w2 : World} (hr : Region.ready md ops listed = [i]) (ho : ops[i]? = some oi) (hg : Region.wanted oi (yielded ops a.tmps) = true) (hx : (execOp a.eval oi).run P w = .ok (.value v) w2) (hS : i ≠ c -> S w2)
  (h : wpAnyZ P md ops Q S c fuel (listed.setIfInBounds i true) (a.put oi.dst v) w2) : wpAnyZ P md ops Q S c (fuel + 1) listed a w := by
 refine wpAnyZ_one hr ?_
 unfold wpOp
 simp only [ho]
 rw [if_pos hg]
 refine .inl ?_
 unfold Oper.wp
 rw [hx]
 exact ⟨hS, h⟩
theorem za_1 (hr : Region.ready md ops listed = [i]) (ho : ops[i]? = some oi) (hg : Region.wanted oi (yielded ops a.tmps) = true) (hS : S w)
  (h : ∀ K : Act -> Prop, (∀ a', wpAnyZ P md ops Q S c fuel (listed.setIfInBounds i true) a' w -> K a') -> ∃ v, (∀ w, (execOp a.eval oi).run P w = .ok (.value v) w) /\ K (a.put oi.dst v)) : wpAnyZ P md ops Q S c (fuel + 1) listed a w := by
 obtain ⟨v, hv, hk⟩ := h _ (fun _ h => h)
 exact za_do hr ho hg (hv w) (fun _ => hS) hk
theorem zn (i : Nat) {oi : Oper} {b : Act} (hS : S w) (h : wpAnyZ P md ops Q S c fuel (listed.setIfInBounds i true) b w) (hr : Region.ready md ops listed = [i] := by kernel_rfl) (ho : ops[i]? = some oi := by rfl) (hg : Region.wanted oi (yielded ops a.tmps) = true := by rfl)
    (e : ∀ K : Act -> Prop, K b -> ∃ v, (∀ w, (execOp a.eval oi).run P w = .ok (.value v) w) /\ K (a.put oi.dst v) := by intro K hK; go_simp; exact hK) : wpAnyZ P md ops Q S c (fuel + 1) listed a w := by
 obtain ⟨v, e1, e2⟩ := e (fun b => wpAnyZ P md ops Q S c fuel (listed.setIfInBounds i true) b w) h
 exact za_1 hr ho hg hS fun K hK => ⟨v, e1, hK _ e2⟩
theorem za_call (hr : Region.ready md ops listed = [i]) (ho : ops[i]? = some oi) (hg : Region.wanted oi (yielded ops a.tmps) = true)
  (h : ∀ K : FuncId -> Array Value -> Prop, (∀ f args, (∃ F, Calls P f args w F /\ ∀ e w', F e w' -> ∃ v, e = .returned v /\ (i ≠ c -> S w') /\ wpAnyZ P md ops Q S c fuel (listed.setIfInBounds i true) (a.put oi.dst v) w') -> K f args) -> ∃ f args, (∀ w, (execOp a.eval oi).run P w = .ok (.enter f args) w) /\ K f args) :
  wpAnyZ P md ops Q S c (fuel + 1) listed a w := by
 obtain ⟨f, args, hv, F, hc, hk⟩ := h _ (fun _ _ h => h)
 refine wpAnyZ_one hr ?_
 unfold wpOp
 simp only [ho]
 rw [if_pos hg]
 refine .inl ?_
 unfold Oper.wp
 rw [hv w]
 simp only [Oper.upon]
 refine hc.mono fun e w' hF => ?_
 obtain ⟨v, rfl, hSv, hw⟩ := hk e w' hF
 exact ⟨hSv, hw⟩
theorem za_done (hr : Region.ready md ops listed = []) (h : Q .normal a w) : ∀ fuel, wpAnyZ P md ops Q S c fuel listed a w
 | 0 => ⟨hr, h⟩
 | _ + 1 => ⟨fun _ => h, by rw [hr]; simp⟩
theorem wp_region_Z {id : Nat} (c : Nat) (hm : P.follows .mixedOrders = true) (hS : S w.drew)
  (h : S w.drew -> wpAnyZ P .any ops Q S c ops.size (Array.replicate ops.size false) a w.drew) : (Code.region id ops true).wp P Q a w :=
 wp_region_any hm (wpAny_of_Z _ _ _ _ (h hS))
end
end Go.Proofs.Ytpamocglecangaa.Nm
namespace Go.Proofs.Ytpamocglecangaa
open Go.RowKit Go.Proofs.Ytpamocglecangaa.Nm
section
variable {md : Region.Mode} {ops : Array Oper} {Q : Exit -> Act -> World -> Prop} {S : World -> Prop} {c fuel : Nat} {listed : Array Bool} {a : Act} {w : World} {i : Nat} {oi : Oper}
theorem za_storeC (hr : Region.ready md ops listed = [i]) (ho : ops[i]? = some oi) (hg : Region.wanted oi (yielded ops a.tmps) = true) (ty : TypeId) (x y : Operand) (hop : oi.op = .store ty x y) (b o : Nat) (v : Value)
  (hx : a.eval x = .pointer (some ⟨b, o, none⟩)) (hy : a.eval y = v) (hi : (Try.prog.info? ty).map (·.size) = some 1) (h1 : v.oneCell' = true) (hc : (w.cell? ⟨b, o, none⟩).isSome = true) (hf : w.frozen? ⟨b, o, none⟩ = false) (hS : i ≠ c -> S (w.setCell ⟨b, o, none⟩ v))
  (h : wpAnyZ Try.prog md ops Q S c fuel (listed.setIfInBounds i true) (a.put oi.dst undef) (w.setCell ⟨b, o, none⟩ v)) : wpAnyZ Try.prog md ops Q S c (fuel + 1) listed a w := by
 refine wpAnyZ_one hr ?_
 unfold wpOp
 simp only [ho]
 rw [if_pos hg]
 exact .inl (wp_storeC ty x y hop b o v hx hy hi h1 hc hf ⟨hS, h⟩)
theorem za_pushL {ty sty : TypeId} {sz by0 : Nat} {A : Option Addr} {cc : Nat} {rows : List (Array Value)} {z : Array Value} (he : Elt sty ty sz by0 z) (hr : Region.ready md ops listed = [i]) (ho : ops[i]? = some oi) (hg : Region.wanted oi (yielded ops a.tmps) = true) (s x : Operand) (hop : oi.op = .call { callee := .builtin .append, args := #[s, x], argTypes := #[sty, sty] }) {row : Array Value} {q : Nat} {tq : TypeId} {fr : Nat × Nat}
  (hs : a.eval s = .slice A rows.length cc) (hx : a.eval x = .slice (some ⟨q, 0, none⟩) 1 1) (h : OwnL w ty sz A cc rows) (hq : w.heap[q]? = some (.cells row tq fr)) (hsz : row.size = sz) (h1 : row.all (·.oneCell') = true) (hlen : (rows.length + 1) * by0 <= 140737488355328) (hm : rows.length + 1 <= maxLen)
  (hS : ∀ w', Keep (fun b => A = some ⟨b, 0, none⟩) w w' -> S w')
  (hK : ∀ A' c' w', OwnL w' ty sz A' c' (rows ++ [row]) -> Keep (fun b => A = some ⟨b, 0, none⟩) w w' -> (A' = A ∨ ∃ g, A' = some ⟨g, 0, none⟩ /\ w.heap.size <= g) -> S w' -> wpAnyZ Try.prog md ops Q S c fuel (listed.setIfInBounds i true) (a.put oi.dst (.slice A' (rows.length + 1) c')) w') : wpAnyZ Try.prog md ops Q S c (fuel + 1) listed a w := by
 obtain ⟨A', c', w', hx2, h2, h3, h4⟩ := run_pushL he oi.type h hq hsz h1 hlen hm
 refine za_do hr ho hg (w2 := w') (v := .slice A' (rows.length + 1) c') ?_ (fun _ => hS w' h3) (hK A' c' w' h2 h3 h4 (hS w' h3))
 unfold execOp
 simp only [hop, resolve, invoke, builtin, Sem.run_bind, Sem.run_pure, Result.andThen_ok, List.map_toArray, List.map_cons, List.map_nil, hs, hx, hx2]
theorem za_new {cs : Array Value} {ty : TypeId} {v : Nat -> Value} (hr : Region.ready md ops listed = [i]) (ho : ops[i]? = some oi) (hg : Region.wanted oi (yielded ops a.tmps) = true) (hx : (execOp a.eval oi).run Try.prog w = .ok (.value (v w.heap.size)) (w.alloc (.cells cs ty))) (hS : ∀ W, Below w.heap.size w W -> S W)
  (h : ∀ W p, Below w.heap.size w W -> w.heap.size <= p -> W.heap[p]? = some (.cells cs ty (0, 0)) -> S W -> wpAnyZ Try.prog md ops Q S c fuel (listed.setIfInBounds i true) (a.put oi.dst (v p)) W) : wpAnyZ Try.prog md ops Q S c (fuel + 1) listed a w :=
 have hb := (Below.refl _ w).alloc (Nat.le_refl _) (.cells cs ty)
 za_do hr ho hg hx (fun _ => hS _ hb) (h _ _ hb (Nat.le_refl _) (ha_new rfl) (hS _ hb))
end
open Go.RowKit Go.Proofs.Ytpamocglecangaa.Nm
theorem built41 (a0 a1 a2 a3 : Value) (A : Option Addr) (l c : Nat) : Try.prog.built 41 [(0, .agg #[a0, a1, a2, a3]), (1, .int .i64 1), (2, .int .i64 1), (4, .slice A l c)] = some (cell8 #[a0, a1, a2, a3] 1 1 0 A l c) := by kernel_rfl
theorem ex_build41 {ev : Operand -> Value} {o : Oper} {w : World} (x c1 c2 y : Operand) (ho : o.op = .build 41 #[(0, x), (1, c1), (2, c2), (4, y)]) {tr : Array Value} {A : Option Addr} {l c : Nat} (ht : tr.size = 4) (hx : ev x = .agg tr) (h1 : ev c1 = .int .i64 1) (h2 : ev c2 = .int .i64 1) (hy : ev y = .slice A l c) :
  (execOp ev o).run Try.prog w = .ok (.value (.agg (cell8 tr 1 1 0 A l c))) w := by
 obtain ⟨l0⟩ := tr
 match l0, ht with
 | [a0, a1, a2, a3], _ => exact ex_build 41 _ ho (by simp only [List.map_cons, List.map_nil, hx, h1, h2, hy]) (built41 a0 a1 a2 a3 A l c)
theorem built97 (A : Option Addr) (l c : Nat) : Try.prog.built 97 [(0, .int .i64 1), (1, .slice A l c)] = some #[.int .i64 1, .slice A l c] := by kernel_rfl
theorem ex_build97 {ev : Operand -> Value} {o : Oper} {w : World} (c1 y : Operand) (ho : o.op = .build 97 #[(0, c1), (1, y)]) {A : Option Addr} {l c : Nat} (h1 : ev c1 = .int .i64 1) (hy : ev y = .slice A l c) :
  (execOp ev o).run Try.prog w = .ok (.value (.agg #[.int .i64 1, .slice A l c])) w := ex_build 97 _ ho (by simp only [List.map_cons, List.map_nil, h1, hy]) (built97 A l c)
def nrow (k n : Int) : Array Value := cell9 k n ⟨#[]⟩ (cell4 0 ⟨#[]⟩ 0 none 0 0) none 0 0 none 0 0
theorem built35n (k n : Int) : Try.prog.built 35 [(0, .int .i64 k), (1, .int .i64 n)] = some (nrow k n) := by kernel_rfl
theorem ex_build35n {ev : Operand -> Value} {o : Oper} {w : World} (x y : Operand) (ho : o.op = .build 35 #[(0, x), (1, y)]) {k n : Int} (hx : ev x = .int .i64 k) (hy : ev y = .int .i64 n) :
  (execOp ev o).run Try.prog w = .ok (.value (.agg (nrow k n))) w := ex_build 35 _ ho (by simp only [List.map_cons, List.map_nil, hx, hy]) (built35n k n)
theorem built35t (k n : Int) (a0 a1 a2 a3 : Value) : Try.prog.built 35 [(0, .int .i64 k), (1, .int .i64 n), (3, .agg #[a0, a1, a2, a3])] = some (cell9 k n ⟨#[]⟩ #[a0, a1, a2, a3] none 0 0 none 0 0) := by kernel_rfl
theorem ex_build35t {ev : Operand -> Value} {o : Oper} {w : World} (x y z : Operand) (ho : o.op = .build 35 #[(0, x), (1, y), (3, z)]) {k n : Int} {tr : Array Value} (ht : tr.size = 4) (hx : ev x = .int .i64 k) (hy : ev y = .int .i64 n) (hz : ev z = .agg tr) :
  (execOp ev o).run Try.prog w = .ok (.value (.agg (cell9 k n ⟨#[]⟩ tr none 0 0 none 0 0))) w := by
 obtain ⟨l0⟩ := tr
 match l0, ht with
 | [a0, a1, a2, a3], _ => exact ex_build 35 _ ho (by simp only [List.map_cons, List.map_nil, hx, hy, hz]) (built35t k n a0 a1 a2 a3)
theorem nrow_at (w : World) (D : Nat -> Prop) {k n : Int} (hk : (Lit.int .i64 k).wf = true) (hn : (Lit.int .i64 n).wf = true) : VAt w D (.node k n ⟨#[]⟩ zeroTy [] []) (nrow k n) := VAt.of hk hn (Nat.zero_le _) (zero_ty w D) (TysAt.nil w D) (VsAt.nil w D)
theorem trow_at {w : World} {D : Nat -> Prop} {k n : Int} {t : Ty} {tr : Array Value} (hk : (Lit.int .i64 k).wf = true) (hn : (Lit.int .i64 n).wf = true) (ht : TyAt w D t tr) : VAt w D (.node k n ⟨#[]⟩ t [] []) (cell9 k n ⟨#[]⟩ tr none 0 0 none 0 0) := VAt.of hk hn (Nat.zero_le _) ht (TysAt.nil w D) (VsAt.nil w D)
theorem run_bs41' (a0 a1 a2 a3 a4 a5 a6 a7 : Value) (w : World) : (Instr.buildSlice 38 1 #[(0, .agg #[a0, a1, a2, a3, a4, a5, a6, a7])]).run Try.prog w = .ok (.slice (some ⟨w.heap.size, 0, none⟩) 1 1) (w.alloc (.cells #[a0, a1, a2, a3, a4, a5, a6, a7] 41)) := by kernel_rfl
theorem ex_bs38 {ev : Operand -> Value} {o : Oper} {w : World} (x : Operand) (ho : o.op = .buildSlice 38 1 #[(0, x)]) {row : Array Value} (hx : ev x = .agg row) (h : row.size = 8) :
  (execOp ev o).run Try.prog w = .ok (.value (.slice (some ⟨w.heap.size, 0, none⟩) 1 1)) (w.alloc (.cells row 41)) := by
 obtain ⟨l⟩ := row
 match l, h with
 | [a0, a1, a2, a3, a4, a5, a6, a7], _ =>
  unfold execOp
  have := run_bs41' a0 a1 a2 a3 a4 a5 a6 a7 w
  simp [ho, hx, this, Result.andThen]
theorem run_bs97' (a0 a1 : Value) (w : World) : (Instr.buildSlice 78 1 #[(0, .agg #[a0, a1])]).run Try.prog w = .ok (.slice (some ⟨w.heap.size, 0, none⟩) 1 1) (w.alloc (.cells #[a0, a1] 97)) := by kernel_rfl
theorem ex_bs78 {ev : Operand -> Value} {o : Oper} {w : World} (x : Operand) (ho : o.op = .buildSlice 78 1 #[(0, x)]) {a0 a1 : Value} (hx : ev x = .agg #[a0, a1]) :
  (execOp ev o).run Try.prog w = .ok (.value (.slice (some ⟨w.heap.size, 0, none⟩) 1 1)) (w.alloc (.cells #[a0, a1] 97)) := by
 unfold execOp
 have := run_bs97' a0 a1 w
 simp [ho, hx, this, Result.andThen]
theorem info38 : (Try.prog.info? 38).map (·.size) = some 1 := by kernel_rfl
theorem info78 : (Try.prog.info? 78).map (·.size) = some 1 := by kernel_rfl
theorem info85 : (Try.prog.info? 85).map (·.size) = some 1 := by kernel_rfl
def own (G : Gh) (A : Option Addr) (x : Nat × Role) : Gh := fun b => if A = some ⟨b, 0, none⟩ then some x else G b
theorem own_role (G : Gh) (A : Option Addr) (x : Nat × Role) : RoleOf (own G A x) A x := fun g e => if_pos e
section
variable {w w' : World} {G G' : Gh} {k p : Nat} {h : Hp} {oA : Option Addr} {oc : Nat} {bA : Option Addr} {bc m : Nat} {lA : Option Addr} {lc : Nat}
theorem own_old {A : Option Addr} {x : Nat × Role} {n : Nat} (hA : ∀ g, A = some ⟨g, 0, none⟩ -> n <= g) : ∀ b, b < n -> own G A x b = G b := fun b hb => if_neg (fun e => by have := hA b e; omega)
theorem Done.owned (hh : HeapAt w G k p h) (hf : Fr w G) (hb : Below w.heap.size w w') {A : Option Addr} {r : Role} (hA : ∀ g, A = some ⟨g, 0, none⟩ -> w.heap.size <= g /\ g < w'.heap.size) : Done w G k p h w' (own G A (k, r)) where
 heap := by
  obtain ⟨oA, oc, bA, bc, m, lA, lc, hh⟩ := hh
  exact ⟨_, _, _, _, _, _, _, (hh.regh (own_old fun g e => (hA g e).1)).old hb⟩
 fr := fun b hb2 => by
  unfold own
  rw [if_neg (fun e => by have := (hA b e).2; omega)]
  exact hf b (by have := hb.size; omega)
 old := own_old fun g e => (hA g e).1
 new := fun b hb2 => by
  unfold own
  split
  ·exact .inr ⟨_, rfl⟩
  ·exact .inl (hf b hb2)
 keep := Keep.of hb
theorem hdr_set {j : Nat} {v : Value} {ol bl ll : Nat} (hp : w.heap[p]? = some (.cells (cellH oA ol oc bA bl bc m lA ll lc) 87 (0, 0))) : (j < 4 -> (w.cell? ⟨p, j, none⟩).isSome = true) /\ w.frozen? ⟨p, j, none⟩ = false /\ (w.setCell ⟨p, j, none⟩ v).heap[p]? = some (.cells ((cellH oA ol oc bA bl bc m lA ll lc).setIfInBounds j v) 87 (0, 0)) := by
 refine ⟨fun hj => ?_, by unfold World.frozen?; rw [hp]; rfl, hs_new hp⟩
 rw [cell_of_row _ _ _ _ _ _ hp]
 match j, hj with
 | 0, _ => rfl
 | 1, _ => rfl
 | 2, _ => rfl
 | 3, _ => rfl
theorem HAt.addO (hh : HAt w G k p h oA oc bA bc m lA lc) {rows : List (Array Value)} {row tr : Array Value} {o : Ob} {fA : Option Addr} {fc : Nat} {A' : Option Addr} {c' : Nat}
  (hl : rows.length = h.obs.length) (hv : ∀ (i : Nat) (o : Ob) (row : Array Value), h.obs[i]? = some o -> rows[i]? = some row -> ∃ tr fA fc, ObAt w G k i o row tr fA fc)
  (ho : OwnL w' 41 8 A' c' (rows ++ [row])) (hk : Keep (fun b => oA = some ⟨b, 0, none⟩) w w') (hor : RoleOf G oA (k, .arr)) (hG : ∀ b, b < w.heap.size -> G' b = G b) (hA : RoleOf G' A' (k, .arr)) (hx : ObAt w' G' k h.obs.length o row tr fA fc) :
  HAt (w'.setCell ⟨p, 0, none⟩ (.slice A' (rows.length + 1) c')) G' k p { h with obs := h.obs ++ [o] } A' c' bA bc m lA lc := by
 have hpl := heap_lt hh.blk
 have hne : ∀ b r, b < w.heap.size -> G b = some (k, r) -> r ≠ .arr -> w'.heap[b]? = w.heap[b]? := fun b r hb e hr => hk.block b hb fun e2 => by have := hor b e2; rw [e] at this; cases this; exact hr rfl
 have hno : ∀ b, b < w.heap.size -> G b = none -> w'.heap[b]? = w.heap[b]? := fun b hb e => hk.block b hb fun e2 => by have := hor b e2; rw [e] at this; cases this
 have hpn : G' p = some (k, .hdr) := (hG p hpl).trans hh.rp
 have hp7 : w'.heap[p]? = some (.cells (cellH oA h.obs.length oc bA h.bus.length bc m lA h.lev.length lc) 87 (0, 0)) := (hne p _ hpl hh.rp (by simp)).trans hh.blk
 have hset := (hdr_set (j := 0) (v := .slice A' (rows.length + 1) c') hp7).2.2
 have hso : ∀ b, b ≠ p -> (w'.setCell ⟨p, 0, none⟩ (.slice A' (rows.length + 1) c')).heap[b]? = w'.heap[b]? := fun b hb => heap_setCell_other _ _ _ _ hb
 have hsr : ∀ b r, G' b = some (k, r) -> r ≠ .hdr -> b ≠ p := fun b r e hr e2 => by rw [e2, hpn] at e; cases e; exact hr rfl
 have hsn : ∀ b, G' b = none -> b ≠ p := fun b e e2 => by rw [e2, hpn] at e; cases e
 have hg := hh.regh hG
 have hh7 : HAt w G' k p h oA oc bA bc m lA lc := hg
 refine ⟨?_, hpn, hg.rm, ?_, ?_, ?_, ?_⟩
 ·rw [hset, hl]
  show _ = some (Obj.cells (cellH A' (h.obs ++ [o]).length c' bA h.bus.length bc m lA h.lev.length lc) 87 (0, 0))
  rw [List.length_append]; rfl
 ·refine ⟨rows ++ [row], ho.same (fun g e _ => hso g (hsr g _ (hA g e) (by simp))), by simp [hl], hA, fun i x rw0 hi hri => ?_⟩
  rcases Nat.lt_trichotomy i h.obs.length with e | e | e
  ·rw [List.getElem?_append_left (by omega)] at hi hri
   obtain ⟨tr, fA, fc, h3⟩ := hv i x rw0 hi hri
   have h4 : ObAt w G' k i x rw0 tr fA fc := ⟨h3.eq, h3.ty.regh hG, h3.fld.regh hG⟩
   refine ⟨tr, fA, fc, h4.same (fun b hb e2 => ?_) (fun b hb e2 => ?_)⟩
   ·rw [hso b (hsr b _ e2 (by simp))]; exact hne b _ hb ((hG b hb).symm.trans e2) (by simp)
   ·rw [hso b (hsn b e2)]; exact hno b hb ((hG b hb).symm.trans e2)
  ·rw [e, List.getElem?_concat_length] at hi
   rw [e, <- hl, List.getElem?_concat_length] at hri
   cases hi; cases hri
   subst e
   exact ⟨tr, fA, fc, hx.same (fun b _ e2 => hso b (hsr b _ e2 (by simp))) (fun b _ e2 => hso b (hsn b e2))⟩
  ·rw [List.getElem?_eq_none (by simp; omega)] at hi; cases hi
 ·exact hg.bus.same (fun b hb e => by
   rcases e with e | ⟨i, e⟩ <;> (rw [hso b (hsr b _ e (by simp))]; exact hne b _ hb ((hG b hb).symm.trans e) (by simp))) fun b hb e => by
    rw [hso b (hsn b e)]; exact hno b hb ((hG b hb).symm.trans e)
 ·exact hg.lev.same (fun b hb e => by
   rcases e with e | ⟨i, e⟩ <;> (rw [hso b (hsr b _ e (by simp))]; exact hne b _ hb ((hG b hb).symm.trans e) (by simp))) fun b hb e => by
    rw [hso b (hsn b e)]; exact hno b hb ((hG b hb).symm.trans e)
 ·exact hg.map.same fun hb => by rw [hso m (hsr m _ hg.rm (by simp))]; exact hne m _ hb hh.rm (by simp)
theorem HAt.addB (hh : HAt w G k p h oA oc bA bc m lA lc) {rows : List (Array Value)} {row : Array Value} {o : Bu} {eA : Option Addr} {ec : Nat} {A' : Option Addr} {c' : Nat}
  (hl : rows.length = h.bus.length) (hv : ∀ (i : Nat) (o : Bu) (row : Array Value), h.bus[i]? = some o -> rows[i]? = some row -> ∃ eA ec, BuAt w G k i o row eA ec)
  (ho : OwnL w' 97 2 A' c' (rows ++ [row])) (hk : Keep (fun b => bA = some ⟨b, 0, none⟩) w w') (hor : RoleOf G bA (k, .bar)) (hG : ∀ b, b < w.heap.size -> G' b = G b) (hA : RoleOf G' A' (k, .bar)) (hx : BuAt w' G' k h.bus.length o row eA ec) :
  HAt (w'.setCell ⟨p, 1, none⟩ (.slice A' (rows.length + 1) c')) G' k p { h with bus := h.bus ++ [o] } oA oc A' c' m lA lc := by
 have hpl := heap_lt hh.blk
 have hne : ∀ b r, b < w.heap.size -> G b = some (k, r) -> r ≠ .bar -> w'.heap[b]? = w.heap[b]? := fun b r hb e hr => hk.block b hb fun e2 => by have := hor b e2; rw [e] at this; cases this; exact hr rfl
 have hno : ∀ b, b < w.heap.size -> G b = none -> w'.heap[b]? = w.heap[b]? := fun b hb e => hk.block b hb fun e2 => by have := hor b e2; rw [e] at this; cases this
 have hpn : G' p = some (k, .hdr) := (hG p hpl).trans hh.rp
 have hp7 : w'.heap[p]? = some (.cells (cellH oA h.obs.length oc bA h.bus.length bc m lA h.lev.length lc) 87 (0, 0)) := (hne p _ hpl hh.rp (by simp)).trans hh.blk
 have hset := (hdr_set (j := 1) (v := .slice A' (rows.length + 1) c') hp7).2.2
 have hso : ∀ b, b ≠ p -> (w'.setCell ⟨p, 1, none⟩ (.slice A' (rows.length + 1) c')).heap[b]? = w'.heap[b]? := fun b hb => heap_setCell_other _ _ _ _ hb
 have hsr : ∀ b r, G' b = some (k, r) -> r ≠ .hdr -> b ≠ p := fun b r e hr e2 => by rw [e2, hpn] at e; cases e; exact hr rfl
 have hsn : ∀ b, G' b = none -> b ≠ p := fun b e e2 => by rw [e2, hpn] at e; cases e
 have hg := hh.regh hG
 refine ⟨?_, hpn, hg.rm, ?_, ?_, ?_, ?_⟩
 ·rw [hset, hl]
  show _ = some (Obj.cells (cellH oA h.obs.length oc A' (h.bus ++ [o]).length c' m lA h.lev.length lc) 87 (0, 0))
  rw [List.length_append]; rfl
 ·exact hg.obs.same (fun b hb e => by
   rcases e with e | ⟨i, e⟩ <;> (rw [hso b (hsr b _ e (by simp))]; exact hne b _ hb ((hG b hb).symm.trans e) (by simp))) fun b hb e => by
    rw [hso b (hsn b e)]; exact hno b hb ((hG b hb).symm.trans e)
 ·refine ⟨rows ++ [row], ho.same (fun g e _ => hso g (hsr g _ (hA g e) (by simp))), by simp [hl], hA, fun i x rw0 hi hri => ?_⟩
  rcases Nat.lt_trichotomy i h.bus.length with e | e | e
  ·rw [List.getElem?_append_left (by omega)] at hi hri
   obtain ⟨fA, fc, h3⟩ := hv i x rw0 hi hri
   have h4 : BuAt w G' k i x rw0 fA fc := ⟨h3.eq, h3.elm.regh hG⟩
   refine ⟨fA, fc, h4.same (fun b hb e2 => ?_) (fun b hb e2 => ?_)⟩
   ·rw [hso b (hsr b _ e2 (by simp))]; exact hne b _ hb ((hG b hb).symm.trans e2) (by simp)
   ·rw [hso b (hsn b e2)]; exact hno b hb ((hG b hb).symm.trans e2)
  ·rw [e, List.getElem?_concat_length] at hi
   rw [e, <- hl, List.getElem?_concat_length] at hri
   cases hi; cases hri
   subst e
   exact ⟨eA, ec, hx.same (fun b _ e2 => hso b (hsr b _ e2 (by simp))) (fun b _ e2 => hso b (hsn b e2))⟩
  ·rw [List.getElem?_eq_none (by simp; omega)] at hi; cases hi
 ·exact hg.lev.same (fun b hb e => by
   rcases e with e | ⟨i, e⟩ <;> (rw [hso b (hsr b _ e (by simp))]; exact hne b _ hb ((hG b hb).symm.trans e) (by simp))) fun b hb e => by
    rw [hso b (hsn b e)]; exact hno b hb ((hG b hb).symm.trans e)
 ·exact hg.map.same fun hb => by rw [hso m (hsr m _ hg.rm (by simp))]; exact hne m _ hb hh.rm (by simp)
theorem HAt.addL (hh : HAt w G k p h oA oc bA bc m lA lc) {rows : List (Array Value)} {ts : List Tk} {tA : Option Addr} {tc : Nat} {A' : Option Addr} {c' : Nat}
  (hl : rows.length = h.lev.length) (hv : ∀ (i : Nat) (ts : List Tk) (row : Array Value), h.lev[i]? = some ts -> rows[i]? = some row -> ∃ tA tc, row = #[.slice tA ts.length tc] /\ TksAt w G (k, .lvl i) ts tA tc)
  (ho : OwnL w' 98 1 A' c' (rows ++ [#[.slice tA ts.length tc]])) (hk : Keep (fun b => lA = some ⟨b, 0, none⟩) w w') (hor : RoleOf G lA (k, .lar)) (hG : ∀ b, b < w.heap.size -> G' b = G b) (hA : RoleOf G' A' (k, .lar)) (hx : TksAt w' G' (k, .lvl h.lev.length) ts tA tc) :
  HAt (w'.setCell ⟨p, 3, none⟩ (.slice A' (rows.length + 1) c')) G' k p { h with lev := h.lev ++ [ts] } oA oc bA bc m A' c' := by
 have hpl := heap_lt hh.blk
 have hne : ∀ b r, b < w.heap.size -> G b = some (k, r) -> r ≠ .lar -> w'.heap[b]? = w.heap[b]? := fun b r hb e hr => hk.block b hb fun e2 => by have := hor b e2; rw [e] at this; cases this; exact hr rfl
 have hno : ∀ b, b < w.heap.size -> G b = none -> w'.heap[b]? = w.heap[b]? := fun b hb e => hk.block b hb fun e2 => by have := hor b e2; rw [e] at this; cases this
 have hpn : G' p = some (k, .hdr) := (hG p hpl).trans hh.rp
 have hp7 : w'.heap[p]? = some (.cells (cellH oA h.obs.length oc bA h.bus.length bc m lA h.lev.length lc) 87 (0, 0)) := (hne p _ hpl hh.rp (by simp)).trans hh.blk
 have hset := (hdr_set (j := 3) (v := .slice A' (rows.length + 1) c') hp7).2.2
 have hso : ∀ b, b ≠ p -> (w'.setCell ⟨p, 3, none⟩ (.slice A' (rows.length + 1) c')).heap[b]? = w'.heap[b]? := fun b hb => heap_setCell_other _ _ _ _ hb
 have hsr : ∀ b r, G' b = some (k, r) -> r ≠ .hdr -> b ≠ p := fun b r e hr e2 => by rw [e2, hpn] at e; cases e; exact hr rfl
 have hsn : ∀ b, G' b = none -> b ≠ p := fun b e e2 => by rw [e2, hpn] at e; cases e
 have hg := hh.regh hG
 refine ⟨?_, hpn, hg.rm, ?_, ?_, ?_, ?_⟩
 ·rw [hset, hl]
  show _ = some (Obj.cells (cellH oA h.obs.length oc bA h.bus.length bc m A' (h.lev ++ [ts]).length c') 87 (0, 0))
  rw [List.length_append]; rfl
 ·exact hg.obs.same (fun b hb e => by
   rcases e with e | ⟨i, e⟩ <;> (rw [hso b (hsr b _ e (by simp))]; exact hne b _ hb ((hG b hb).symm.trans e) (by simp))) fun b hb e => by
    rw [hso b (hsn b e)]; exact hno b hb ((hG b hb).symm.trans e)
 ·exact hg.bus.same (fun b hb e => by
   rcases e with e | ⟨i, e⟩ <;> (rw [hso b (hsr b _ e (by simp))]; exact hne b _ hb ((hG b hb).symm.trans e) (by simp))) fun b hb e => by
    rw [hso b (hsn b e)]; exact hno b hb ((hG b hb).symm.trans e)
 ·refine ⟨rows ++ [#[.slice tA ts.length tc]], ho.same (fun g e _ => hso g (hsr g _ (hA g e) (by simp))), by simp [hl], hA, fun i x rw0 hi hri => ?_⟩
  rcases Nat.lt_trichotomy i h.lev.length with e | e | e
  ·rw [List.getElem?_append_left (by omega)] at hi hri
   obtain ⟨tA, tc, h3, rows2, ho2, hl2, hr2, hv2⟩ := hv i x rw0 hi hri
   have h4 : TksAt w G' (k, .lvl i) x tA tc := ⟨rows2, ho2, hl2, hr2.regh ho2 hG, fun j t row h5 h6 => (hv2 j t row h5 h6).regh hG⟩
   refine ⟨tA, tc, h3, h4.same (fun b hb e2 => ?_) (fun b hb e2 => ?_)⟩
   ·rw [hso b (hsr b _ e2 (by simp))]; exact hne b _ hb ((hG b hb).symm.trans e2) (by simp)
   ·rw [hso b (hsn b e2)]; exact hno b hb ((hG b hb).symm.trans e2)
  ·rw [e, List.getElem?_concat_length] at hi
   rw [e, <- hl, List.getElem?_concat_length] at hri
   cases hi; cases hri
   subst e
   exact ⟨tA, tc, rfl, hx.same (fun b _ e2 => hso b (hsr b _ e2 (by simp))) (fun b _ e2 => hso b (hsn b e2))⟩
  ·rw [List.getElem?_eq_none (by simp; omega)] at hi; cases hi
 ·exact hg.map.same fun hb => by rw [hso m (hsr m _ hg.rm (by simp))]; exact hne m _ hb hh.rm (by simp)
end
open Go.RowKit Go.Proofs.Ytpamocglecangaa.Nm
section
variable {w w' : World} {G G' : Gh} {k p : Nat} {h : Hp} {oA : Option Addr} {oc : Nat} {bA : Option Addr} {bc m : Nat} {lA : Option Addr} {lc : Nat}
theorem own_again {A A' : Option Addr} {x : Nat × Role} (hr : RoleOf G A x) {n : Nat} (hA : A' = A ∨ ∃ g, A' = some ⟨g, 0, none⟩ /\ n <= g) : ∀ b, b < n -> own G A' x b = G b := fun b hb => by
 unfold own
 split
 ·rename_i e
  rcases hA with e2 | ⟨g, e2, e3⟩
  ·exact (hr b (by rw [<- e2]; exact e)).symm
  ·rw [e2] at e; cases e; omega
 ·rfl
theorem Done.grow {rl : Role} (hrl : rl ≠ .tmp) {h' : Hp} {A A' : Option Addr} {j : Nat} {v : Value} {ty : TypeId} {sz cc : Nat} {rows : List (Array Value)} (hf : Fr w G) (hp : G p = some (k, .hdr)) (hpl : p < w.heap.size) (hor : RoleOf G A (k, rl)) (hk : Keep (fun b => A = some ⟨b, 0, none⟩) w w') (hA : A' = A ∨ ∃ g, A' = some ⟨g, 0, none⟩ /\ w.heap.size <= g) (ho : OwnL w' ty sz A' cc rows)
  (hh : HeapAt (w'.setCell ⟨p, j, none⟩ v) (own G A' (k, rl)) k p h') : Done w G k p h' (w'.setCell ⟨p, j, none⟩ v) (own G A' (k, rl)) where
 heap := hh
 fr := fun b hb => by
  have hb2 : w'.heap.size <= b := by simpa using hb
  unfold own
  split
  ·rename_i e
   rcases ho.el with ⟨e1, -⟩ | ⟨g, cur, e1, hg, -⟩
   ·rw [e1] at e; cases e
   ·rw [e1] at e; cases e; have := heap_lt hg; omega
  ·exact hf b (by have := hk.size; omega)
 old := own_again hor hA
 new := fun b hb => by
  unfold own
  split
  ·exact .inr ⟨_, rfl⟩
  ·exact .inl (hf b hb)
 keep := by
  have h1 := Keep.cellOne w' p j v
  refine ((Keep.refl (Mine G k) w).trans (C' := fun b => A = some ⟨b, 0, none⟩) (fun b e => .inl ⟨_, hor b e, hrl⟩) hk).trans (C' := fun b => b = p) (fun b e => .inl ⟨.hdr, by rw [e]; exact hp, by simp⟩) h1
theorem ListV.moved {r : Nat × Role} {l : List Va} {A : Option Addr} {c : Nat} (h : ListV w G r l A c) {C : Nat -> Prop} (hk : Keep C w w') (hC : ∀ b, C b -> G b ≠ none /\ G b ≠ some r) (hG : ∀ b, b < w.heap.size -> G' b = G b) : ListV w' G' r l A c :=
 (h.regh hG).same (fun b hb e => hk.block b hb fun hc => (hC b hc).2 ((hG b hb).symm.trans e)) fun b hb e => hk.block b hb fun hc => (hC b hc).1 ((hG b hb).symm.trans e)
theorem VAt.moved {v : Va} {row : Array Value} (h : VAt w (Imm G) v row) {C : Nat -> Prop} (hk : Keep C w w') (hC : ∀ b, C b -> G b ≠ none) (hG : ∀ b, b < w.heap.size -> G' b = G b) : VAt w' (Imm G') v row :=
 (h.low.keep hk fun b hb hc => hC b hc hb.1).weak fun b hb => by unfold Imm; rw [hG b hb.2]; exact hb.1
theorem TyAt.moved {t : Ty} {row : Array Value} (h : TyAt w (Imm G) t row) {C : Nat -> Prop} (hk : Keep C w w') (hC : ∀ b, C b -> G b ≠ none) (hG : ∀ b, b < w.heap.size -> G' b = G b) : TyAt w' (Imm G') t row :=
 (h.low.keep hk fun b hb hc => hC b hc hb.1).weak fun b hb => by unfold Imm; rw [hG b hb.2]; exact hb.1
theorem TksAt.moved {r : Nat × Role} {l : List Tk} {A : Option Addr} {c : Nat} (h : TksAt w G r l A c) {C : Nat -> Prop} (hk : Keep C w w') (hC : ∀ b, C b -> G b ≠ none /\ G b ≠ some r) (hG : ∀ b, b < w.heap.size -> G' b = G b) : TksAt w' G' r l A c := by
 obtain ⟨rows, ho, hl, hr, hv⟩ := h
 have h2 : TksAt w G' r l A c := ⟨rows, ho, hl, hr.regh ho hG, fun j t row h1 h2 => (hv j t row h1 h2).regh hG⟩
 exact h2.same (fun b hb e => hk.block b hb fun hc => (hC b hc).2 ((hG b hb).symm.trans e)) fun b hb e => hk.block b hb fun hc => (hC b hc).1 ((hG b hb).symm.trans e)
theorem role_ne {A : Option Addr} {x y : Nat × Role} (hr : RoleOf G A x) (hxy : x ≠ y) : ∀ b, A = some ⟨b, 0, none⟩ -> G b ≠ none /\ G b ≠ some y := fun b e => by
 rw [hr b e]
 exact ⟨by simp, fun e2 => hxy (by cases e2; rfl)⟩
theorem Done.addB (hh : HAt w G k p h oA oc bA bc m lA lc) (hf : Fr w G) {rows : List (Array Value)} {l : List Va} {n : Int} {eA : Option Addr} {ec : Nat} {A' : Option Addr} {c' : Nat}
  (hl : rows.length = h.bus.length) (hv : ∀ (i : Nat) (o : Bu) (row : Array Value), h.bus[i]? = some o -> rows[i]? = some row -> ∃ eA ec, BuAt w G k i o row eA ec)
  (ho : OwnL w' 97 2 A' c' (rows ++ [#[.int .i64 n, .slice eA l.length ec]])) (hk : Keep (fun b => bA = some ⟨b, 0, none⟩) w w') (hor : RoleOf G bA (k, .bar)) (hA : A' = bA ∨ ∃ g, A' = some ⟨g, 0, none⟩ /\ w.heap.size <= g) (hx : ListV w G (k, .elm h.bus.length) l eA ec) :
  Done w G k p { h with bus := h.bus ++ [⟨n, l⟩] } (w'.setCell ⟨p, 1, none⟩ (.slice A' (rows.length + 1) c')) (own G A' (k, .bar)) :=
 Done.grow (by simp) hf hh.rp (heap_lt hh.blk) hor hk hA ho ⟨_, _, _, _, _, _, _, hh.addB hl hv ho hk hor (own_again hor hA) (own_role _ _ _) ⟨rfl, hx.moved hk (role_ne hor (by simp)) (own_again hor hA)⟩⟩
theorem Done.addO (hh : HAt w G k p h oA oc bA bc m lA lc) (hf : Fr w G) {rows : List (Array Value)} {tr : Array Value} {o : Ob} {fA : Option Addr} {fc : Nat} {A' : Option Addr} {c' : Nat}
  (hl : rows.length = h.obs.length) (hv : ∀ (i : Nat) (o : Ob) (row : Array Value), h.obs[i]? = some o -> rows[i]? = some row -> ∃ tr fA fc, ObAt w G k i o row tr fA fc)
  (ho : OwnL w' 41 8 A' c' (rows ++ [cell8 tr o.state o.count o.weak fA o.fields.length fc])) (hk : Keep (fun b => oA = some ⟨b, 0, none⟩) w w') (hor : RoleOf G oA (k, .arr)) (hA : A' = oA ∨ ∃ g, A' = some ⟨g, 0, none⟩ /\ w.heap.size <= g) (ht : TyAt w (Imm G) o.t tr) (hx : ListV w G (k, .fld h.obs.length) o.fields fA fc) :
  Done w G k p { h with obs := h.obs ++ [o] } (w'.setCell ⟨p, 0, none⟩ (.slice A' (rows.length + 1) c')) (own G A' (k, .arr)) :=
 Done.grow (by simp) hf hh.rp (heap_lt hh.blk) hor hk hA ho ⟨_, _, _, _, _, _, _, hh.addO hl hv ho hk hor (own_again hor hA) (own_role _ _ _) ⟨rfl, ht.moved hk (fun b e => (role_ne hor (y := (k, .hdr)) (by simp) b e).1) (own_again hor hA), hx.moved hk (role_ne hor (by simp)) (own_again hor hA)⟩⟩
theorem Done.addL (hh : HAt w G k p h oA oc bA bc m lA lc) (hf : Fr w G) {rows : List (Array Value)} {ts : List Tk} {tA : Option Addr} {tc : Nat} {A' : Option Addr} {c' : Nat}
  (hl : rows.length = h.lev.length) (hv : ∀ (i : Nat) (ts : List Tk) (row : Array Value), h.lev[i]? = some ts -> rows[i]? = some row -> ∃ tA tc, row = #[.slice tA ts.length tc] /\ TksAt w G (k, .lvl i) ts tA tc)
  (ho : OwnL w' 98 1 A' c' (rows ++ [#[.slice tA ts.length tc]])) (hk : Keep (fun b => lA = some ⟨b, 0, none⟩) w w') (hor : RoleOf G lA (k, .lar)) (hA : A' = lA ∨ ∃ g, A' = some ⟨g, 0, none⟩ /\ w.heap.size <= g) (hx : TksAt w G (k, .lvl h.lev.length) ts tA tc) :
  Done w G k p { h with lev := h.lev ++ [ts] } (w'.setCell ⟨p, 3, none⟩ (.slice A' (rows.length + 1) c')) (own G A' (k, .lar)) :=
 Done.grow (by simp) hf hh.rp (heap_lt hh.blk) hor hk hA ho ⟨_, _, _, _, _, _, _, hh.addL hl hv ho hk hor (own_again hor hA) (own_role _ _ _) (hx.moved hk (role_ne hor (by simp)) (own_again hor hA))⟩
theorem Done.list (hh : HeapAt w G k p h) (hf : Fr w G) {l : List Va} {A : Option Addr} {c : Nat} {rows : List (Array Value)} {r : Role} (ho : OwnL w' 35 9 A c rows) (hl : rows.length = l.length) (hA : ∀ g, A = some ⟨g, 0, none⟩ -> w.heap.size <= g) (hv : ∀ (j : Nat) (v : Va) (row : Array Value), l[j]? = some v -> rows[j]? = some row -> VAt w' (Lw w (Imm G)) v row) (hb : Below w.heap.size w w') :
  Done w G k p h w' (own G A (k, r)) /\ ListV w' (own G A (k, r)) (k, r) l A c := by
 refine ⟨Done.owned hh hf hb fun g e => ⟨hA g e, ?_⟩, rows, ho, hl, own_role _ _ _, fun j v row h1 h2 => (hv j v row h1 h2).weak fun b hb2 => ?_⟩
 ·rcases ho.el with ⟨e1, -⟩ | ⟨g', cur, e1, hg, -⟩
  ·rw [e1] at e; cases e
  ·rw [e1] at e; cases e; exact heap_lt hg
 ·unfold Imm
  rw [own_old hA b hb2.2]
  exact hb2.1
end
open Go.RowKit Go.Proofs.Ytpamocglecangaa.Nm
set_option linter.unusedSimpArgs false
def ValOf (w : World) (G : Gh) (k p : Nat) (r : Hp × Va) (e : Ending) (w' : World) : Prop := ∃ G' row, e = .returned (.agg row) /\ VAt w' (Imm G') r.2 row /\ Done w G k p r.1 w' G'
def arrayP (h : Hp) (t : Ty) (l : List Va) : Hp × Va := ({ h with bus := h.bus ++ [⟨1, takenV h l⟩] }, .node 8 (h.bus.length : Int) ⟨#[]⟩ t [] [])
def makeP (h : Hp) (t : Ty) (l : List Va) : Hp × Va := ({ h with obs := h.obs ++ [⟨t, 1, 1, 0, takenV h l⟩] }, .node 7 (h.obs.length : Int) ⟨#[]⟩ zeroTy [] [])
theorem taken_done {w : World} {G : Gh} {k p : Nat} {h : Hp} (hh : HeapAt w G k p h) {l : List Va} {D : Nat -> Prop} {A0 : Option Addr} {n c0 : Nat} (hv : VsAt w D l A0 n c0) (hn : n <= 1000000) :
  Calls Try.prog 81 #[.pointer (some ⟨p, 0, none⟩), .slice A0 n c0] w (NewL w D (takenV h l)) := by
 obtain ⟨oA, oc, bA, bc, m, lA, lc, hh⟩ := hh
 exact taken_any hh hv hn
theorem wf64 {n : Nat} (h : n <= 2000000) : (Lit.int .i64 (n : Int)).wf = true := by
 unfold Lit.wf
 simp [IntKind.min, IntKind.max, IntKind.bits, IntKind.signed]
 omega
theorem wl_newv {ops : Array Oper} {rest : List Oper} {o : Oper} {a : Act} {w : World} {Q : Exit -> Act -> World -> Prop} {cs : Array Value} {ty : TypeId} (v : Nat -> Value) (hg : o.guard = none) (hx : (execOp a.eval o).run Try.prog w = .ok (.value (v w.heap.size)) (w.alloc (.cells cs ty)))
  (h : ∀ W p, Below w.heap.size w W -> w.heap.size <= p -> W.heap[p]? = some (.cells cs ty (0, 0)) -> wpList Try.prog ops Q rest (a.put o.dst (v p)) W) : wpList Try.prog ops Q (o :: rest) a w :=
 wl_w hg hx (h _ _ ((Below.refl _ w).alloc (Nat.le_refl _) _) (Nat.le_refl _) (ha_new rfl))
/- what stands ahead of Array and Make -/
theorem Array_any {G : Gh} {k p : Nat} {h : Hp} {w : World} (hh : HeapAt w G k p h) (hf : Fr w G) (hnb : h.bus.length <= 1000000) {t : Ty} {tr : Array Value} (ht : TyAt w (Imm G) t tr) {l : List Va} {A : Option Addr} {n c : Nat} (hv : VsAt w (Imm G) l A n c) (hn : n <= 1000000) :
  Calls Try.prog 37 #[.pointer (some ⟨p, 0, none⟩), .agg tr, .slice A n c] w (ValOf w G k p (arrayP h t l)) := by
 have HX := Zi hh
 have HF := Zi hf
 have HT := Zi ht
 have HV := Zi hv
 have hzs : zrow.size = 9 := rfl
 have zone : zrow.all (·.oneCell') = true := (zero_va w (Imm G)).one
 have hb := Below.refl w.heap.size w
 obtain ⟨k0, s0, n0, A1, l1, c1, ts0, he, rfl, -⟩ := ht.parts
 clear hh hf ht hv he
 go_enter Try.func37, Try.ntmps37
 go_upto_region 0 with fail
 apply Zl
 (with_reducible refine wl_box rfl ?_); intro W q hbn hlq hq; replace hb := hb.trans (hbn.mono hb.size); clear hbn; simp only [Zq]
 have lthqr := heap_lt hq; (with_reducible refine wl_allV ?_); intro W2 r hbn hlr hr; replace hq := below_look hbn hq; replace hb := hb.trans (hbn.mono hb.size); clear hbn; simp only [Zq]
 have hrl : w.heap.size <= r := by omega
 have hql : q < W2.heap.size := heap_lt hq
 have HRW := Zi (heap_lt hr)
 have HRl := Zi hrl
 have hqG : G q = none := HF.out q (by omega)
 have HQ : Hid (mark G k r q = none) := Zi (by unfold mark; rw [if_neg (by omega)]; exact hqG)
 have HQW := Zi hql
 have HDn := Zi (Done.marked HX.out HF.out hb hrl (heap_lt hr))
 have HM := Zi (mark_same G k r)
 have HNM := Zi (mark_not G k r)
 have htt : TyAt W2 (Imm (mark G k r)) t _ := HT.out.moved (Keep.of (C := fun _ => False) hb) (fun b e => e.elim) HDn.out.old
 have hvv : VsAt W2 (Lw W2 (Imm (mark G k r))) l A n c := (((HV.out.low.old hb).weak fun b hb2 => (by
  have : mark G k r b = G b := if_neg (by have := hb2.2; omega)
  unfold Imm; rw [this]; exact hb2.1) : VsAt W2 (Imm (mark G k r)) l A n c)).low
 clear HT HV
 have HT := Zi htt
 have HV := Zi hvv
 clear htt hvv HX HF hb hrl hql hqG
 go_upto_region 1 with fail
 apply Zl
 iterate 2 refine Zm ?_
 go_upto_region 3 with fail
 have HC := Zi (taken_done HDn.out.heap HV.out hn)
 apply Zl
 iterate 2 refine Zm ?_
 refine Zn HC.out ?_; rintro e w7 ⟨A7, c7, rows7, rfl, hown7, hl7, hA7, hv7, hb7⟩; refine ⟨_, rfl, ?_⟩; simp only [Zq]
 have hl := Done.list (r := .elm h.bus.length) HDn.out.heap HDn.out.fr hown7 hl7 hA7 hv7 hb7
 obtain ⟨hd7, hli⟩ := hl
 have HL7 := Zi hli
 replace HT := Zi (HT.out.moved (Keep.of (C := fun _ => False) hb7) (fun b e => e.elim) hd7.old)
 replace hq := below_look hb7 hq; replace hr := below_look hb7 hr
 have HR7 : Hid (own (mark G k r) A7 (k, .elm h.bus.length) r = some (k, .tmp)) := Zi ((hd7.old r HRW.out).trans HM.out)
 have HQ7 : Hid (own (mark G k r) A7 (k, .elm h.bus.length) q = none) := Zi ((hd7.old q HQW.out).trans HQ.out)
 replace HDn := Zi (HDn.out.trans hd7)
 obtain ⟨G7, hG7⟩ : ∃ G7, G7 = own (mark G k r) A7 (k, .elm h.bus.length) := ⟨_, rfl⟩
 rw [<- hG7] at HL7 HR7 HQ7 HDn HT
 clear hd7 hli hown7 hl7 hA7 hv7 hb7 hG7
 refine Zm ?_
 clear HC HV HM HNM HQ HRW HQW
 obtain ⟨oA, oc, bA, bc, m, lA, lc, hh⟩ := HDn.out.heap
 have HH := Zi hh
 have hp := hh.blk
 clear hh
 go_upto_region 4 with fail
 apply Zl
 iterate 4 refine Zm ?_
 refine Zo rfl (h1 hp) ?_
 refine Zm ?_
 refine wl_w rfl (ex_build97 _ _ rfl rfl rfl) ?_
 simp only [Zq]
 refine wl_newv (fun q => .slice (some ⟨q, 0, none⟩) 1 1) rfl (ex_bs78 _ rfl rfl) ?_
 intro W8 q8 hbn hlq8 hq8
 simp only [Zq]
 replace HDn := Zi (HDn.out.quiet hbn)
 replace HH := Zi (HH.out.old hbn)
 replace HL7 := Zi (HL7.out.moved (Keep.of (C := fun _ => False) hbn) (fun b e => e.elim) (fun _ _ => rfl))
 replace HT := Zi (HT.out.old hbn)
 replace hp := below_look hbn hp; replace hq := below_look hbn hq; replace hr := below_look hbn hr
 clear hbn
 obtain ⟨rows, ho, hlr, hor, hvr⟩ := HH.out.bus
 have HO := Zi ho
 have HV8 := Zi hvr
 have HOR := Zi hor
 have HLR := Zi hlr
 have hlen : rows.length <= 1000000 := by omega
 have hrl8 := heap_lt hr
 clear ho hvr hor
 refine wl_pushL elt78 rfl _ _ rfl (show _ = Value.slice bA rows.length bc by rw [HLR.out]; rfl) rfl HO.out hq8 rfl (by simp [Value.oneCell']) (by omega) (by unfold maxLen; omega) ?_
 intro A9 c9 W9 hown hk9 hA9
 rw [HLR.out]
 simp only [Zq]
 have hpG := HH.out.rp
 have hnp : ¬ (bA = some ⟨p, 0, none⟩) := fun e => by have := HOR.out p e; rw [hpG] at this; cases this
 have hnr : ¬ (bA = some ⟨r, 0, none⟩) := fun e => by have := HOR.out r e; rw [HR7.out] at this; cases this
 replace hp := hk9.look hp hnp
 replace hr := hk9.look hr hnr
 have hd10 := Done.addB (n := 1) (l := takenV h l) HH.out HDn.out.fr HLR.out HV8.out (by simpa using hown) hk9 HOR.out hA9 HL7.out
 rw [HLR.out] at hd10
 have hHT : TyAt W9 (Imm (own _ A9 (k, .bar))) t _ := HT.out.moved hk9 (fun b e => (role_ne HOR.out (y := (k, .hdr)) (by simp) b e).1) (own_again HOR.out hA9)
 have hHR := (own_again (G := G7) HOR.out hA9 r hrl8).trans HR7.out
 obtain ⟨nb, hnb⟩ : ∃ n, n = h.bus.length + 1 := ⟨_, rfl⟩
 rw [<- hnb] at hd10 ⊢
 have HNB := Zi hnb
 clear hnb
 have HDN := Zi (HDn.out.trans hd10)
 have HT9 := Zi (hHT.keep (Keep.cellOne W9 p 1 (.slice A9 nb c9)) (fun b hb e => by
  unfold Imm at hb
  rw [e] at hb
  rw [own_again HOR.out hA9 p (heap_lt HH.out.blk), hpG] at hb; cases hb))
 have HHR := Zi hHR
 obtain ⟨hs1, hs2, hs3⟩ := hdr_set (j := 1) (v := .slice A9 nb c9) hp
 have hs1 := hs1 (by omega)
 replace hq := hk9.look hq (fun e => by have := HOR.out q e; rw [HQ7.out] at this; cases this)
 have hqp : q ≠ p := fun e => by have := HQ7.out; rw [e, hpG] at this; cases this
 have hrp : r ≠ p := fun e => by have := HR7.out; rw [e, hpG] at this; cases this
 replace hq := (heap_setCell_other W9 ⟨p, 1, none⟩ q (.slice A9 nb c9) hqp).trans hq
 replace hr := (heap_setCell_other W9 ⟨p, 1, none⟩ r (.slice A9 nb c9) hrp).trans hr
 clear hown hk9 hA9 hd10 hHT hHR HDn HT HR7 HH HL7 HO HV8 HOR HQ7 hp
 iterate 2 refine Zm ?_
 refine wl_storeC rfl 78 _ _ rfl p 1 (.slice A9 nb c9) rfl rfl info78 rfl hs1 hs2 ?_
 rw [put_noneA]
 obtain ⟨W10, hW⟩ : ∃ W, W = W9.setCell ⟨p, 1, none⟩ (.slice A9 nb c9) := ⟨_, rfl⟩
 rw [<- hW] at HDN HT9 hs3 hq hr ⊢
 have hp : W10.heap[p]? = some (.cells (cellH oA h.obs.length oc A9 nb c9 m lA h.lev.length lc) 87 (0, 0)) := hs3
 have hnI : (nb : Int) - 1 = (h.bus.length : Int) := by have := HNB.out; omega
 have hnw : IntKind.i64.wrap (h.bus.length : Int) = (h.bus.length : Int) := IntWalk.i64_in _ (by omega)
 have hnwf : (Lit.int .i64 (h.bus.length : Int)).wf = true := wf64 (by omega)
 clear hs1 hs2 hs3 hW hlen hrl8 hnp hnr hqp hrp
 go_upto_region 5 with fail
 refine wp_region_below 8 mixed (by kernel_rfl) ?_; simp only [List.take_succ_cons, List.take_zero, List.drop_succ_cons, List.drop_zero]
 iterate 3 refine Zt ?_
 refine Zv rfl (fun w' hw' => h1 (below_look hw' hp)) ?_
 iterate 2 refine Zt ?_
 ((with_reducible apply wq_row); exact rfl; exact rfl; intro w' hw'; exact f4 (below_look hw' hq))
 refine wq_val rfl (fun w' _ => ex_build35t _ _ _ rfl rfl rfl rfl rfl) ?_; simp only [Zq]
 intro w11 hb11
 replace HT9 := Zi (HT9.out.old hb11)
 replace HDN := Zi (HDN.out.quiet hb11)
 replace hr := below_look hb11 hr
 have HV11 := Zi (trow_at (k := 8) (n := (h.bus.length : Int)) (by rfl) hnwf HT9.out)
 clear hb11 hp hq
 (with_reducible refine wl_putV rfl HV11.out.one hzs rfl rfl hr ?_); rw [put_noneA]; intro W12 hbx hsz hkx hnx
 have HK12 := Zi (Keep.of_put hbx hsz hkx)
 clear hbx hsz hkx hr
 have HHR2 := Zi HHR.out
 go_wp2_with fail
 refine bodyPost_ret (res35 rfl _ _ r rfl rfl hnx) rfl ?_
 exact ⟨_, _, rfl, HV11.out.put HHR.out HK12.out, HDN.out.put HHR.out HRl.out HK12.out⟩
theorem Make_any {G : Gh} {k p : Nat} {h : Hp} {w : World} (hh : HeapAt w G k p h) (hf : Fr w G) (hnb : h.obs.length <= 1000000) {t : Ty} {tr : Array Value} (ht : TyAt w (Imm G) t tr) {l : List Va} {A : Option Addr} {n c : Nat} (hv : VsAt w (Imm G) l A n c) (hn : n <= 1000000) :
  Calls Try.prog 36 #[.pointer (some ⟨p, 0, none⟩), .agg tr, .slice A n c] w (ValOf w G k p (makeP h t l)) := by
 have HX := Zi hh
 have HF := Zi hf
 have HT := Zi ht
 have HV := Zi hv
 have hzs : zrow.size = 9 := rfl
 have zone : zrow.all (·.oneCell') = true := (zero_va w (Imm G)).one
 have hb := Below.refl w.heap.size w
 obtain ⟨k0, s0, n0, A1, l1, c1, ts0, he, rfl, -⟩ := ht.parts
 clear hh hf ht hv he
 go_enter Try.func36, Try.ntmps36
 go_upto_region 0 with fail
 apply Zl
 (with_reducible refine wl_box rfl ?_); intro W q hbn hlq hq; replace hb := hb.trans (hbn.mono hb.size); clear hbn; simp only [Zq]
 have lthqr := heap_lt hq; (with_reducible refine wl_allV ?_); intro W2 r hbn hlr hr; replace hq := below_look hbn hq; replace hb := hb.trans (hbn.mono hb.size); clear hbn; simp only [Zq]
 have hrl : w.heap.size <= r := by omega
 have hql : q < W2.heap.size := heap_lt hq
 have HRW := Zi (heap_lt hr)
 have HRl := Zi hrl
 have hqG : G q = none := HF.out q (by omega)
 have HQ : Hid (mark G k r q = none) := Zi (by unfold mark; rw [if_neg (by omega)]; exact hqG)
 have HQW := Zi hql
 have HDn := Zi (Done.marked HX.out HF.out hb hrl (heap_lt hr))
 have HM := Zi (mark_same G k r)
 have HNM := Zi (mark_not G k r)
 have htt : TyAt W2 (Imm (mark G k r)) t _ := HT.out.moved (Keep.of (C := fun _ => False) hb) (fun b e => e.elim) HDn.out.old
 have hvv : VsAt W2 (Lw W2 (Imm (mark G k r))) l A n c := (((HV.out.low.old hb).weak fun b hb2 => (by
  have : mark G k r b = G b := if_neg (by have := hb2.2; omega)
  unfold Imm; rw [this]; exact hb2.1) : VsAt W2 (Imm (mark G k r)) l A n c)).low
 clear HT HV
 have HT := Zi htt
 have HV := Zi hvv
 clear htt hvv HX HF hb hrl hql hqG
 go_upto_region 1 with fail
 apply Zl
 iterate 2 refine Zm ?_
 go_upto_region 3 with fail
 have HC := Zi (taken_done HDn.out.heap HV.out hn)
 apply Zl
 iterate 2 refine Zm ?_
 refine Zn HC.out ?_; rintro e w7 ⟨A7, c7, rows7, rfl, hown7, hl7, hA7, hv7, hb7⟩; refine ⟨_, rfl, ?_⟩; simp only [Zq]
 have hl := Done.list (r := .fld h.obs.length) HDn.out.heap HDn.out.fr hown7 hl7 hA7 hv7 hb7
 obtain ⟨hd7, hli⟩ := hl
 have HL7 := Zi hli
 replace HT := Zi (HT.out.moved (Keep.of (C := fun _ => False) hb7) (fun b e => e.elim) hd7.old)
 replace hq := below_look hb7 hq; replace hr := below_look hb7 hr
 have HR7 : Hid (own (mark G k r) A7 (k, .fld h.obs.length) r = some (k, .tmp)) := Zi ((hd7.old r HRW.out).trans HM.out)
 have HQ7 : Hid (own (mark G k r) A7 (k, .fld h.obs.length) q = none) := Zi ((hd7.old q HQW.out).trans HQ.out)
 replace HDn := Zi (HDn.out.trans hd7)
 obtain ⟨G7, hG7⟩ : ∃ G7, G7 = own (mark G k r) A7 (k, .fld h.obs.length) := ⟨_, rfl⟩
 rw [<- hG7] at HL7 HR7 HQ7 HDn HT
 clear hd7 hli hown7 hl7 hA7 hv7 hb7 hG7
 refine Zm ?_
 clear HC HV HM HNM HQ HRW HQW
 obtain ⟨oA, oc, bA, bc, m, lA, lc, hh⟩ := HDn.out.heap
 have HH := Zi hh
 have hp := hh.blk
 clear hh
 have hpG := HH.out.rp
 have hnp : ∀ b, b = p -> ¬ (oA = some ⟨b, 0, none⟩) := fun b e e2 => by
  obtain ⟨-, -, -, hor, -⟩ := HH.out.obs
  have := hor b e2; rw [e, hpG] at this; cases this
 have hnq : ¬ (oA = some ⟨q, 0, none⟩) := fun e2 => by
  obtain ⟨-, -, -, hor, -⟩ := HH.out.obs
  have := hor q e2; rw [HQ7.out] at this; cases this
 have HNP := Zi hnp
 have HNQ := Zi hnq
 clear hnp hnq
 go_upto_region 4 with fail
 refine wp_region_Z (S := fun w' => Keep (fun b => oA = some ⟨b, 0, none⟩) w7 w') 12 mixed (Keep.of ((Below.refl _ _).drew)) (fun hS => ?_)
 have hbz : Below w7.heap.size w7 w7.drew := (Below.refl _ _).drew
 refine zm 0 hS ?_; try simp only [Zq]
 refine zm 1 hS ?_; try simp only [Zq]
 refine zm 2 hS ?_; try simp only [Zq]
 refine zm 3 hS ?_; try simp only [Zq]
 refine zv4 (i := 4) rfl (by kernel_rfl) Zg hS rfl (fun w' hw' => ex_one rfl (h0 (hw'.look hp (HNP.out _ rfl)))) ?_; try simp only [Zq]
 refine zv4 (i := 5) rfl (by kernel_rfl) Zg hS rfl (fun w' hw' => ex_row rfl (f4 (hw'.look hq HNQ.out))) ?_; try simp only [Zq]
 refine zm 6 hS ?_; try simp only [Zq]
 refine zv4 (i := 7) rfl (by kernel_rfl) Zg hS rfl (fun w' hw' => ex_build41 _ _ _ _ rfl rfl rfl rfl rfl rfl) ?_; try simp only [Zq]
 refine za_new (i := 8) (v := fun q => .slice (some ⟨q, 0, none⟩) 1 1) (by kernel_rfl) rfl rfl (ex_bs38 _ rfl rfl rfl) (fun W hW => hS.trans (C' := fun _ => False) (fun b e => e.elim) (Keep.of hW)) ?_
 clear hS
 intro W8 q8 hbn hlq8 hq8 hS
 try simp only [Zq]
 replace hbn := hbz.trans (hbn.mono hbz.size)
 replace HDn := Zi (HDn.out.quiet hbn)
 replace HH := Zi (HH.out.old hbn)
 replace HL7 := Zi (HL7.out.moved (Keep.of (C := fun _ => False) hbn) (fun b e => e.elim) (fun _ _ => rfl))
 replace HT := Zi (HT.out.old hbn)
 have hp8 := below_look hbn hp
 have hq' := below_look hbn hq
 have hr8 := below_look hbn hr
 clear hbn hbz
 obtain ⟨rows, ho, hlr, hor, hvr⟩ := HH.out.obs
 have HO := Zi ho
 have HV8 := Zi hvr
 have HOR := Zi hor
 have HLR := Zi hlr
 have hlen : rows.length <= 1000000 := by omega
 have hrl8 := heap_lt hr8
 clear ho hvr hor
 have hr41 : (cell8 (cell4 k0 s0 n0 A1 l1 c1) 1 1 0 A7 (takenV h l).length c7).all (·.oneCell') = true := by simp [cell8, cell4, Value.oneCell']
 refine za_pushL (i := 9) elt38 (by kernel_rfl) rfl rfl _ _ rfl (show _ = Value.slice oA rows.length oc by rw [HLR.out]; rfl) rfl HO.out hq8 rfl hr41 (by omega) (by unfold maxLen; omega) (fun w' hk => hS.trans (C' := fun b => oA = some ⟨b, 0, none⟩) (fun b e => .inl e) hk) ?_
 clear hS
 intro A9 c9 W9 hown hk9 hA9 hS
 rw [HLR.out]
 try simp only [Zq]
 have hnr : ¬ (oA = some ⟨r, 0, none⟩) := fun e => by have := HOR.out r e; rw [HR7.out] at this; cases this
 replace hp8 := hk9.look hp8 (HNP.out _ rfl)
 replace hr8 := hk9.look hr8 hnr
 have hd10 := Done.addO (o := ⟨t, 1, 1, 0, takenV h l⟩) HH.out HDn.out.fr HLR.out HV8.out hown hk9 HOR.out hA9 HT.out HL7.out
 rw [HLR.out] at hd10
 have hHR := (own_again (G := G7) HOR.out hA9 r hrl8).trans HR7.out
 obtain ⟨nb, hnb⟩ : ∃ n, n = h.obs.length + 1 := ⟨_, rfl⟩
 rw [<- hnb] at hd10 ⊢
 have HNB := Zi hnb
 clear hnb
 have HDN := Zi (HDn.out.trans hd10)
 have HHR := Zi hHR
 obtain ⟨hs1, hs2, hs3⟩ := hdr_set (j := 0) (v := .slice A9 nb c9) hp8
 have hs1 := hs1 (by omega)
 have hrp : r ≠ p := fun e => by have := HR7.out; rw [e, hpG] at this; cases this
 replace hr8 := (heap_setCell_other W9 ⟨p, 0, none⟩ r (.slice A9 nb c9) hrp).trans hr8
 clear hown hk9 hA9 hd10 hHR HDn HT HR7 HH HL7 HO HV8 HOR HQ7 hp8
 refine zn 10 hS ?_; try simp only [Zq]
 refine zn 11 hS ?_; try simp only [Zq]
 refine za_storeC (i := 12) (by kernel_rfl) rfl rfl 38 _ _ rfl p 0 (.slice A9 nb c9) rfl rfl info38 rfl hs1 hs2 (fun h => absurd rfl h) ?_
 clear hS
 refine za_done (by kernel_rfl) ?_ _

 obtain ⟨W10, hW⟩ : ∃ W, W = W9.setCell ⟨p, 0, none⟩ (.slice A9 nb c9) := ⟨_, rfl⟩
 rw [<- hW] at HDN hs3 hr8 ⊢
 clear hp hq hr
 have hp : W10.heap[p]? = some (.cells (cellH A9 nb c9 bA h.bus.length bc m lA h.lev.length lc) 87 (0, 0)) := hs3
 have hr := hr8
 have hnI : (nb : Int) - 1 = (h.obs.length : Int) := by have := HNB.out; omega
 have hnw : IntKind.i64.wrap (h.obs.length : Int) = (h.obs.length : Int) := IntWalk.i64_in _ (by omega)
 have hnwf : (Lit.int .i64 (h.obs.length : Int)).wf = true := wf64 (by omega)
 clear hs1 hs2 hs3 hW hlen hrl8 hnr hrp hr8
 go_upto_region 5 with fail
 apply Zl
 iterate 3 refine Zm ?_
 refine Zo rfl (h0 hp) ?_
 iterate 2 refine Zm ?_
 refine wl_w rfl (ex_build35n _ _ rfl rfl rfl) ?_
 simp only [Zq]
 have HV11 := Zi (nrow_at W10 (Imm (own G7 A9 (k, .arr))) (k := 7) (n := (h.obs.length : Int)) (by rfl) hnwf)
 (with_reducible refine wl_putV rfl HV11.out.one hzs rfl rfl hr ?_); rw [put_noneA]; intro W12 hbx hsz hkx hnx
 have HK12 := Zi (Keep.of_put hbx hsz hkx)
 clear hbx hsz hkx hr
 go_wp2_with fail
 refine bodyPost_ret (res35 rfl _ _ r rfl rfl hnx) rfl ?_
 exact ⟨_, _, rfl, HV11.out.put HHR.out HK12.out, HDN.out.put HHR.out HRl.out HK12.out⟩
end Go.Proofs.Ytpamocglecangaa
