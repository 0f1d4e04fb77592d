/- The program's Clone: slices.Clone of tasks, and steps of a range over a map. The law HeapClones. -/
import Derived.Maps.RangeRun
import Derived.Test.YtpamocglecangaaPD17
import Derived.Test.YtpamocglecangaaPD10
import Derived.Test.YtpamocglecangaaPD15
set_option maxHeartbeats 16000000
set_option maxRecDepth 100000
namespace Go.Proofs.Ytpamocglecangaa
open Go.RowKit Go.Proofs.Ytpamocglecangaa.Nm
set_option linter.unusedSimpArgs false
theorem run_es98 (w : World) : (Instr.buildSlice 98 0 #[]).run Try.prog w = .ok (.slice (some ⟨w.heap.size, 0, none⟩) 0 0) (w.alloc (.cells #[] 101)) := by kernel_rfl
theorem ex_es98 {ev : Operand -> Value} {o : Oper} {w : World} (ho : o.op = .buildSlice 98 0 #[]) : (execOp ev o).run Try.prog w = .ok (.value (.slice (some ⟨w.heap.size, 0, none⟩) 0 0)) (w.alloc (.cells #[] 101)) := by
 unfold execOp
 have := run_es98 w
 simp [ho, this, Result.andThen]
theorem OwnL.empty12 {w : World} {q : Nat} (hq : w.heap[q]? = some (.cells #[] 101 (0, 0))) : OwnL w 101 12 (some ⟨q, 0, none⟩) 0 [] := ⟨fun r h => (by cases h), Nat.le_refl _, Nat.zero_le _, .inr ⟨q, #[], rfl, hq, rfl, fun i r h => by simp at h⟩⟩
theorem eq98a (w : World) : (binOp BinOp.eql 98 (.slice none 0 0) (.slice none 0 0)).run Try.prog w = .ok (.bool true) w := by kernel_rfl
theorem eq98b (g n c : Nat) (w : World) : (binOp BinOp.eql 98 (.slice (some ⟨g, 0, none⟩) n c) (.slice none 0 0)).run Try.prog w = .ok (.bool false) w := by kernel_rfl
def NewT (w : World) (rows : List (Array Value)) (e : Ending) (w' : World) : Prop := ∃ A c, e = .returned (.slice A rows.length c) /\ OwnL w' 101 12 A c rows /\ (∀ g, A = some ⟨g, 0, none⟩ -> w.heap.size <= g) /\ Below w.heap.size w w'
theorem CloneT_any {w : World} {A : Option Addr} {c : Nat} {rows : List (Array Value)} (h : OwnL w 101 12 A c rows) (h1 : ∀ r, r ∈ rows -> r.all (·.oneCell') = true) (hn : rows.length <= 800000000000) :
  Calls Try.prog 60 #[.slice A rows.length c] w (NewT w rows) := by
 have HO := Zi h
 have H1 := Zi h1
 have hb := Below.refl w.heap.size w
 rcases h.el with ⟨rfl, rfl, rfl⟩ | ⟨g, cur, rfl, hg, -⟩
 ·clear h h1
  have hnil := eq98a
  go_enter Try.func60, Try.ntmps60
  go_upto_region 0 with fail
  apply Zl
  refine Zm ?_
  go_upto_region 1 with fail
  apply Zl
  iterate 2 refine Zm ?_
  go_upto_region 2 with fail
  apply Zl
  refine Zm ?_
  go_wp2_with fail
  go_ret
  exact ⟨none, 0, rfl, OwnL.nil _ _ _, fun g e => (by cases e), hb⟩
 ·have hgl := heap_lt hg
  obtain ⟨n, hnn⟩ : ∃ n, n = rows.length := ⟨_, rfl⟩
  rw [<- hnn]
  have HN := Zi hnn
  clear h h1 hg hnn
  have hnil := eq98b g n c
  go_enter Try.func60, Try.ntmps60
  go_upto_region 0 with fail
  apply Zl
  refine Zm ?_
  go_upto_region 1 with fail
  apply Zl
  iterate 2 refine Zm ?_
  go_upto_region 3 with fail
  apply Zl
  refine wl_newv (fun q => .slice (some ⟨q, 0, none⟩) 0 0) rfl (ex_es98 rfl) ?_
  intro W q hbn hlq hq
  simp only [Zq]
  replace HO := Zi (HO.out.old hbn)
  replace hb := hb.trans (hbn.mono hb.size)
  clear hbn
  refine Zm ?_
  refine wl_catL elt98 rfl _ _ rfl (A := some ⟨q, 0, none⟩) (rows := []) (c := 0) rfl (show _ = Value.slice (some ⟨g, 0, none⟩) rows.length c by rw [<- HN.out]; rfl) (OwnL.empty12 hq) HO.out H1.out (by simp; omega) (by unfold maxLen; simp; omega) ?_
  intro A9 c9 W9 hown hk9 hA9
  rw [List.nil_append] at hown ⊢
  rw [<- HN.out]
  simp only [Zq]
  have hbb := Below.keep hb hk9 (fun b e => by cases e; exact hlq)
  have HOW := Zi hown
  have HA9 : Hid (∀ g, A9 = some ⟨g, 0, none⟩ -> w.heap.size <= g) := Zi (fun g e => by
   rcases hA9 with e2 | ⟨g', e2, e3⟩
   ·rw [e] at e2; cases e2; exact hlq
   ·rw [e] at e2; cases e2; have := hb.size; omega)
  clear hown hk9 hA9 hb hq
  refine Zm ?_
  go_wp2_with fail
  go_ret
  exact ⟨A9, c9, by rw [<- HN.out]; rfl, HOW.out, HA9.out, hbb⟩
theorem TkAt.one {w : World} {G : Gh} {t : Tk} {row : Array Value} (h : TkAt w G t row) : row.all (·.oneCell') = true := by
 cases t with
 | val v =>
  obtain ⟨rv, h3, rfl⟩ := h
  exact trow_one h3.one
 | flds o i =>
  obtain ⟨rv, v, h3, rfl⟩ := h
  exact trow_one h3.one
theorem built87f (A : Option Addr) (l c : Nat) (B : Option Addr) (l2 c2 m : Nat) : Try.prog.built 87 [(0, .slice A l c), (1, .slice B l2 c2), (2, .map (some m))] = some (cellH A l c B l2 c2 m none 0 0) := by kernel_rfl
theorem run_box87f (A : Option Addr) (l c : Nat) (B : Option Addr) (l2 c2 m : Nat) (w : World) : (Instr.box 87 (.agg (cellH A l c B l2 c2 m none 0 0))).run Try.prog w = .ok (.pointer (some ⟨w.heap.size, 0, none⟩)) (w.alloc (.cells (cellH A l c B l2 c2 m none 0 0) 87)) := by kernel_rfl
theorem HAt.made {w : World} {G : Gh} {k p m : Nat} {h : Hp} {oA : Option Addr} {oc : Nat} {bA : Option Addr} {bc : Nat} (hp : w.heap[p]? = some (.cells (cellH oA h.obs.length oc bA h.bus.length bc m none 0 0) 87 (0, 0))) (hl : h.lev = []) (hm : DeiAt w m h.dei) (h1 : G p = some (k, .hdr)) (h2 : G m = some (k, .dei)) (ho : ObsAt w G k h.obs oA oc) (hb : BusAt w G k h.bus bA bc) : HAt w G k p h oA oc bA bc m none 0 where
 blk := by rw [hl]; exact hp
 rp := h1
 rm := h2
 obs := ho
 bus := hb
 lev := by rw [hl]; exact ⟨[], OwnL.nil _ _ _, rfl, fun g e => (by cases e), fun i o row h _ => (by simp at h)⟩
 map := hm
theorem DeiAt.mem {w : World} {m : Nat} {d d' : List ByteArray} (h : DeiAt w m d) (e : ∀ s, s ∈ d ↔ s ∈ d') : DeiAt w m d' := by
 obtain ⟨es, c, h1, h2, h3, h4⟩ := h
 exact ⟨es, c, h1, h2, fun x hx => by obtain ⟨s, a, b, c⟩ := h3 x hx; exact ⟨s, a, b, (e s).1 c⟩, fun s hs => h4 s ((e s).2 hs)⟩
theorem filterLt {α : Type} {p q : α -> Bool} : ∀ {l : List α}, (∀ x, x ∈ l -> q x = true -> p x = true) -> (∃ x, x ∈ l /\ p x = true /\ q x = false) -> (l.filter q).length < (l.filter p).length
 | [], _, ⟨x, hx, _⟩ => by cases hx
 | y :: l, h, ⟨x, hx, h1, h2⟩ => by
  have hle : (l.filter q).length <= (l.filter p).length := by
   have : l.filter q = (l.filter p).filter q := by
    rw [List.filter_filter]
    refine List.filter_congr fun z hz => ?_
    cases hq : q z with
    | true => rw [h z (by simp [hz]) hq]; rfl
    | false => simp
   rw [this]; exact List.length_filter_le _ _
  rcases List.mem_cons.1 hx with rfl | hx
  ·rw [List.filter_cons_of_neg (by simp [h2]), List.filter_cons_of_pos h1]
   exact Nat.lt_succ_of_le hle
  ·have ih := filterLt (l := l) (fun z hz => h z (by simp [hz])) ⟨x, hx, h1, h2⟩
   cases hq : q y with
   | true => rw [List.filter_cons_of_pos hq, List.filter_cons_of_pos (h y (by simp) hq)]; simpa using ih
   | false =>
    rw [List.filter_cons_of_neg (by simp [hq])]
    cases hp : p y with
    | true => rw [List.filter_cons_of_pos hp]; exact Nat.lt_succ_of_lt ih
    | false => rw [List.filter_cons_of_neg (by simp [hp])]; exact ih
theorem left_mem {es : Array MapEntry} {seen : Array Nat} {e : MapEntry} : e ∈ (leftOf es seen).toList ↔ e ∈ es.toList /\ seen.contains e.born = false := by
 unfold leftOf
 rw [Array.toList_filter, List.mem_filter]
 simp
theorem left_push {es : Array MapEntry} {seen : Array Nat} {e : MapEntry} (he : e ∈ (leftOf es seen).toList) : (leftOf es (seen.push e.born)).size < (leftOf es seen).size := by
 have left_len : ∀ (es : Array MapEntry) (seen : Array Nat), (leftOf es seen).size = (es.toList.filter fun e => !seen.contains e.born).length := fun es seen => by
  unfold leftOf
  rw [<- Array.length_toList, Array.toList_filter]
 rw [left_len, left_len]
 have h1 := left_mem.1 he
 refine filterLt (fun x _ hx => ?_) ⟨e, h1.1, by rw [h1.2]; rfl, by simp⟩
 simp at hx ⊢
 exact hx.1
theorem setBlock_keep {w : World} {r : Nat} {o : Obj} (hr : r < w.heap.size) : Keep (fun b => b = r) w (ChangeMaps.setBlock w r o) /\ (ChangeMaps.setBlock w r o).heap[r]? = some o /\ (ChangeMaps.setBlock w r o).heap.size = w.heap.size := by
 refine ⟨⟨rfl, rfl, rfl, by simp [ChangeMaps.setBlock], fun b _ hn => ?_⟩, by simp [ChangeMaps.setBlock, hr], by simp [ChangeMaps.setBlock]⟩
 have : r ≠ b := fun e => hn e.symm
 simp [ChangeMaps.setBlock, Array.getElem?_setIfInBounds, this]
section
variable {ops : Array Oper} {rest : List Oper} {dst : Option Tmp} {ty' : TypeId} {x : Operand} {pos : String} {after : Array Edge} {o : Oper} {a : Act} {w w' : World} {Q : Exit -> Act -> World -> Prop}
theorem ex_next {ev : Operand -> Value} (x : Operand) (ho : o.op = .next x false) {p : Value} (hx : ev x = p) {v : Value} (h : (Instr.next p false o.type).run Try.prog w = .ok v w') : (execOp ev o).run Try.prog w = .ok (.value v) w' := by
 unfold execOp
 simp [ho, hx, h, Result.andThen]
theorem ex_entry {ev : Operand -> Value} (x : Operand) (ho : o.op = .entry x) {p : Value} (hx : ev x = p) {v : Value} (h : (Instr.entry p).run Try.prog w = .ok v w') : (execOp ev o).run Try.prog w = .ok (.value v) w' := by
 unfold execOp
 simp [ho, hx, h, Result.andThen]
theorem ex_range {ev : Operand -> Value} (x : Operand) (ho : o.op = .range 84 x) {q : Nat} (hx : ev x = .map (some q)) {es : Array MapEntry} {clock : Nat} (h : w.heap[q]? = some (.map es clock)) : (execOp ev o).run Try.prog w = .ok (.value (.pointer (some ⟨w.heap.size, 0, none⟩))) (w.alloc (.mapIter (some q) clock #[] clock)) := by
 unfold execOp
 simp [ho, hx, run_range_map w 84 9 4 q es clock u84 h, Result.andThen]
theorem wl_range84 {q : Nat} {es : Array MapEntry} {clock : Nat} (hm : w.heap[q]? = some (.map es clock)) (hx : a.eval x = .map (some q))
  (h : ∀ W r, Below w.heap.size w W -> w.heap.size <= r -> W.heap[r]? = some (.mapIter (some q) clock #[] clock) -> wpList Try.prog ops Q rest (a.put dst (.pointer (some ⟨r, 0, none⟩))) W) :
  wpList Try.prog ops Q (⟨dst, .range 84 x, ty', pos, after, none⟩ :: rest) a w :=
 wl_w rfl (ex_range x rfl hx hm) (h _ _ ((Below.refl _ w).alloc (Nat.le_refl _) _) (Nat.le_refl _) (ha_new rfl))
theorem wl_next84 {r q since c0 clock : Nat} {seen : Array Nat} {es : Array MapEntry} (hx : a.eval x = .pointer (some ⟨r, 0, none⟩)) (hr : w.heap[r]? = some (.mapIter (some q) since seen c0)) (hb : w.heap[q]? = some (.map es clock)) (hold : ∀ x ∈ es.toList, x.born < since) (hsc : since <= c0)
  (h0 : (leftOf es seen).size = 0 -> wpList Try.prog ops Q rest (a.put dst (.tuple #[.bool false])) w)
  (h1 : ∀ e W, e ∈ (leftOf es seen).toList -> Keep (fun b => b = r) w W -> W.heap[r]? = some (.mapIter (some q) since (seen.push e.born) clock) -> W.heap.size = w.heap.size -> wpList Try.prog ops Q rest (a.put dst (.tuple #[.bool true, e.key, e.val])) W) :
  wpList Try.prog ops Q (⟨dst, .next x false, ty', pos, after, none⟩ :: rest) a w := by
 rcases run_next_at (P := Try.prog) w ty' r q since c0 seen es clock hr hb hold hsc with ⟨g1, g2⟩ | ⟨e, he, w1, hw1, g2⟩
 ·exact wl_w rfl (ex_next x rfl hx g2) (h0 g1)
 ·have hlt := heap_lt hr
  have hs1 : w1.heap = w.heap := by rcases hw1 with rfl | rfl <;> rfl
  have hk1 : Keep (fun b => b = r) w w1 := by
   rcases hw1 with rfl | rfl
   ·exact Keep.refl _ _
   ·exact Keep.of ((Below.refl w.heap.size w).drew)
  obtain ⟨k1, k2, k3⟩ := setBlock_keep (w := w1) (r := r) (o := .mapIter (some q) since (seen.push e.born) clock) (by rw [hs1]; exact hlt)
  exact wl_w rfl (ex_next x rfl hx g2) (h1 e _ he (hk1.trans (fun b h => Or.inl h) k1) k2 (by rw [k3, hs1]))
theorem wl_entry84 {r q since clock : Nat} {seen : Array Nat} {es : Array MapEntry} {e : MapEntry} (hx : a.eval x = .pointer (some ⟨r, 0, none⟩)) (hr : w.heap[r]? = some (.mapIter (some q) since (seen.push e.born) clock)) (hb : w.heap[q]? = some (.map es clock)) (he : e ∈ es.toList) (hn : (es.toList.map (·.born)).Nodup) {k v : Value} (hk : e.key = k) (hv : e.val = v)
  (h : wpList Try.prog ops Q rest (a.put dst (.tuple #[k, v])) w) :
  wpList Try.prog ops Q (⟨dst, .entry x, ty', pos, after, none⟩ :: rest) a w := by
 subst hk hv
 exact wl_w rfl (ex_entry x rfl hx (run_entry_at w r q since seen es clock e hr hb he hn)) h
end
structure MInv (W : World) (G : Gh) (k2 pc m r m0 : Nat) (h : Hp) (oA : Option Addr) (oc : Nat) (bA : Option Addr) (bc : Nat) (es : Array MapEntry) (clock : Nat) (wr : World) (ds : List ByteArray) (seen : Array Nat) (c0 : Nat) : Prop where
 heap : HAt wr G k2 pc ⟨ds, h.obs, h.bus, []⟩ oA oc bA bc m none 0
 it : wr.heap[r]? = some (.mapIter (some m0) clock seen c0)
 cl : clock <= c0
 has : ∀ x s, x ∈ es.toList -> x.key = .string s -> seen.contains x.born = true -> s ∈ ds
 sub : ∀ s, s ∈ ds -> s ∈ h.dei
 keep : Keep (fun b => b = m ∨ b = r) W wr
theorem MInv.step {W wr W2 W3 : World} {G : Gh} {k2 pc m r m0 : Nat} {h : Hp} {oA : Option Addr} {oc : Nat} {bA : Option Addr} {bc : Nat} {es : Array MapEntry} {clock : Nat} {ds : List ByteArray} {seen : Array Nat} {c0 : Nat} (hi : MInv W G k2 pc m r m0 h oA oc bA bc es clock wr ds seen c0) (hrG : G r = some (k2, .tmp)) (hrm : r ≠ m) {e : MapEntry} {s : ByteArray} (hk : e.key = .string s) (hsd : s ∈ h.dei) (hn : (es.toList.map (·.born)).Nodup) (hem : e ∈ es.toList)
  (hw : Keep (fun b => b = r) wr W2) (hr : W2.heap[r]? = some (.mapIter (some m0) clock (seen.push e.born) clock)) (hd : DeiAt W3 m (ds ++ [s])) (hw3 : Keep (fun b => b = m) W2 W3) :
  MInv W G k2 pc m r m0 h oA oc bA bc es clock W3 (ds ++ [s]) (seen.push e.born) clock := by
 have hpm : pc ≠ m := fun e => by have h1 := hi.heap.rp; have h2 := hi.heap.rm; rw [e, h2] at h1; cases h1
 have h2 := hi.heap.keep hw (fun b e => by subst e; exact ⟨by rintro ⟨x, e, h9⟩; rw [hrG] at e; cases e; exact h9 rfl, by rw [hrG]; simp⟩)
 have hob : ∀ b, b < W2.heap.size -> b ≠ m -> W3.heap[b]? = W2.heap[b]? := fun b hb hne => hw3.block b hb hne
 have hnm : ∀ b x, G b = some x -> x ≠ (k2, .dei) -> b ≠ m := fun b x e hx e2 => by rw [e2, h2.rm] at e; cases e; exact hx rfl
 have hno : ∀ b, G b = none -> b ≠ m := fun b e e2 => by rw [e2, h2.rm] at e; cases e
 refine ⟨HAt.made (hw3.look h2.blk hpm) rfl hd h2.rp h2.rm (h2.obs.same (fun b hb e => hob b hb (by rcases e with e | ⟨i, e⟩ <;> exact hnm b _ e (by simp))) (fun b hb e => hob b hb (hno b e))) (h2.bus.same (fun b hb e => hob b hb (by rcases e with e | ⟨i, e⟩ <;> exact hnm b _ e (by simp))) (fun b hb e => hob b hb (hno b e))), hw3.look hr hrm, Nat.le_refl _, fun x s' hx hxk hxs => ?_, fun s' hs' => ?_, ?_⟩
 ·rw [Array.contains_push] at hxs
  rcases Bool.or_eq_true _ _ ▸ hxs with h3 | h3
  ·exact List.mem_append_left _ (hi.has x s' hx hxk h3)
  ·have hb : x.born = e.born := by simpa using h3
   obtain ⟨i1, hi1⟩ := List.mem_iff_getElem?.1 hx
   obtain ⟨i2, hi2⟩ := List.mem_iff_getElem?.1 hem
   have g1 : (es.toList.map (·.born))[i1]? = some e.born := by rw [List.getElem?_map, hi1]; simp [hb]
   have g2 : (es.toList.map (·.born))[i2]? = some e.born := by rw [List.getElem?_map, hi2]; simp
   have := (List.getElem?_inj (List.getElem?_eq_some_iff.1 g1).1 hn).1 (g1.trans g2.symm)
   subst this
   rw [hi1] at hi2
   cases hi2
   rw [hk] at hxk
   cases hxk
   simp
 ·rcases List.mem_append.1 hs' with h3 | h3
  ·exact hi.sub s' h3
  ·rw [List.mem_singleton.1 h3]; exact hsd
 ·exact (hi.keep.trans (C' := fun b => b = r) (fun b h => .inl (.inr h)) hw).trans (C' := fun b => b = m) (fun b h => .inl (.inl h)) hw3
def Cloned (w : World) (G : Gh) (k2 : Nat) (h : Hp) (e : Ending) (w' : World) : Prop := ∃ pc G', e = .returned (.pointer (some ⟨pc, 0, none⟩)) /\ HeapAt w' G' k2 pc h /\ Grow w G k2 w' G' /\ Below w.heap.size w w'
theorem Clone_any {G : Gh} {k k2 p : Nat} {h : Hp} {w : World} (hkk : k ≠ k2) (hh : HeapAt w G k p h) (hf : Fr w G) (hno : h.obs.length <= 1000000) (hfl : ∀ o, o ∈ h.obs -> o.fields.length <= 2000000) (hnb : h.bus.length <= 1000000) (hel : ∀ o, o ∈ h.bus -> o.elems.length <= 2000000) (hnl : h.lev.length <= 1000000) (hno2 : ∀ b, ¬ Mine G k2 b) (htk : ∀ ts, ts ∈ h.lev -> ts.length <= 800000000000) :
  Calls Try.prog 17 #[.pointer (some ⟨p, 0, none⟩)] w (Cloned w G k2 h) := by
 have HC1 := Zi (ObjectsD_any hh hno hfl)
 have HF := Zi hf
 have HKK := Zi hkk
 have HNO2 := Zi hno2
 have HTK := Zi htk
 have HBU := Zi (And.intro hnb hel)
 obtain ⟨oA, oc, bA, bc, m0, lA, lc, hh0⟩ := hh
 have HP := Zi hh0.blk
 have HH0 := Zi hh0
 obtain ⟨nl, hnle⟩ : ∃ n, n = h.lev.length := ⟨_, rfl⟩
 rw [<- hnle] at HP hnl
 have HNL := Zi hnle
 obtain ⟨es, clock, hmb, hst, hke, hha⟩ := hh0.map
 have HMB := Zi hmb
 have HST := Zi hst
 have HKE := Zi hke
 have HHA := Zi hha
 clear hh0 hf hkk hno2 htk hno hfl hnb hel hnle hmb hst hke hha
 go_enter Try.func17, Try.ntmps17
 go_upto_region 0 with fail
 apply Zl
 refine Zm ?_
 go_upto_region 1 with fail
 apply Zl
 iterate 2 refine Zm ?_
 go_upto_region 3 with fail
 apply Zl
 refine Zm ?_
 refine Zn HC1.out ?_; rintro e w1 ⟨q1, c1, rows1, rfl, ho1, hl1, hq1, hfin1, hb1, hne1⟩; refine ⟨_, rfl, ?_⟩; simp only [Zq]
 obtain ⟨G1, hg1, hoa⟩ := obsAt_of HF.out k2 ho1 hl1 hq1 hfin1 hne1
 have HOA := Zi hoa
 have HG1 := Zi hg1
 have HC2 := Zi (BuffersD_any (k := k) (h := h) (w := w1) (G := G1) (p := p) ⟨_, _, _, _, _, _, _, (HH0.out.regh hg1.old).old hb1⟩ HBU.out.1 HBU.out.2)
 have HB1 := Zi hb1
 obtain ⟨no, hnoe⟩ : ∃ n, n = h.obs.length := ⟨_, rfl⟩
 rw [<- hnoe]
 have HNO := Zi hnoe
 clear ho1 hl1 hq1 hfin1 hb1 hne1 hg1 hoa hnoe HC1
 refine Zm ?_
 refine Zn HC2.out ?_; rintro e w2 ⟨q2, c2, rows2, rfl, ho2, hl2, hq2, hfin2, hb2, hne2⟩; refine ⟨_, rfl, ?_⟩; simp only [Zq]
 obtain ⟨G2, hg2, hba⟩ := busAt_of HG1.out.fr k2 ho2 hl2 hq2 hfin2 hne2
 have HBA := Zi hba
 have HOA2 := Zi ((HOA.out.regh hg2.old).old hb2)
 have HG2 := Zi (HG1.out.trans HB1.out.size hg2)
 have HB2 := Zi (HB1.out.trans (hb2.mono HB1.out.size))
 obtain ⟨nb, hnbe⟩ : ∃ n, n = h.bus.length := ⟨_, rfl⟩
 rw [<- hnbe]
 have HNB := Zi hnbe
 clear ho2 hl2 hq2 hfin2 hb2 hne2 hg2 hba hnbe HC2 HOA HG1 HB1
 refine wl_w rfl (w2 := w2.alloc (.map #[] 0)) (v := .map (some w2.heap.size)) (by unfold execOp; simp [run_mm84 w2, Result.andThen]) ?_
 simp only [Zq]
 obtain ⟨m, hm⟩ : ∃ m, m = w2.heap.size := ⟨_, rfl⟩
 rw [<- hm]
 obtain ⟨W3, hW3⟩ : ∃ W, W = w2.alloc (.map #[] 0) := ⟨_, rfl⟩
 have hm1 : W3.heap[m]? = some (.map #[] 0) := by rw [hW3]; exact ha_new hm
 have hb3 : Below w2.heap.size w2 W3 := by rw [hW3]; exact (Below.refl _ _).alloc (Nat.le_refl _) _
 rw [<- hW3]
 have HM := Zi hm
 clear hW3 hm
 refine wl_w rfl (ex_build 87 _ rfl (by simp only [List.map_cons, List.map_nil]; rfl) (built87f (some ⟨q1, 0, none⟩) no c1 (some ⟨q2, 0, none⟩) nb c2 m)) ?_
 simp only [Zq]
 refine wl_newv (fun q => .pointer (some ⟨q, 0, none⟩)) rfl (cs := cellH (some ⟨q1, 0, none⟩) no c1 (some ⟨q2, 0, none⟩) nb c2 m none 0 0) (ty := 87) (by
  unfold execOp
  have := run_box87f (some ⟨q1, 0, none⟩) no c1 (some ⟨q2, 0, none⟩) nb c2 m W3
  simp [Act.eval, this, Result.andThen]) ?_
 intro W4 pc hbn hlp hpc
 simp only [Zq]
 have HM1 := Zi (below_look hbn hm1)
 have hb4 := hb3.trans (hbn.mono hb3.size)
 have HPM : Hid (pc ≠ m) := Zi (by have := heap_lt hm1; omega)
 have HPC : Hid (w2.heap.size <= pc) := Zi (by have := hb3.size; omega)
 have HB4 := Zi hb4
 have HPB := Zi hpc
 clear hm1 hb3 hbn hlp hpc hb4
 refine Zm ?_
 have hpc := HPB.out
 have hp0 := below_look (HB2.out.trans (HB4.out.mono HB2.out.size)) HP.out
 have hm0 := below_look (HB2.out.trans (HB4.out.mono HB2.out.size)) HMB.out
 go_upto_region 4 with fail
 apply Zl
 iterate 3 refine Zm ?_
 refine Zo rfl (h2 hp0) ?_
 refine wl_range84 hm0 rfl ?_
 intro W5 r hbn hlr hr
 simp only [Zq]
 have HB5 := Zi (HB2.out.trans ((HB4.out.trans (hbn.mono HB4.out.size)).mono HB2.out.size))
 obtain ⟨G4, hG4⟩ : ∃ G4, G4 = mark (newG G2 k2 pc m) k2 r := ⟨_, rfl⟩
 have HRM : Hid (r ≠ m) := Zi (by have := heap_lt HM1.out; omega)
 have HRP : Hid (r ≠ pc) := Zi (by have := heap_lt hpc; omega)
 have HRS : Hid (w2.heap.size <= r) := Zi (by have := HB4.out.size; omega)
 have HGR : Hid (G4 r = some (k2, .tmp)) := Zi (by rw [hG4]; exact mark_same _ _ _)
 have HG4 : Hid (∀ b, b < w2.heap.size -> G4 b = G2 b) := Zi (fun b hb => by
  rw [hG4]
  unfold mark newG
  rw [if_neg (by have := HRS.out; omega), if_neg (by have := HPC.out; omega), if_neg (by have := HM.out; omega)])
 have HGW : Hid (Grow w G k2 W5 G4) := Zi ⟨fun b hb => by
   have h1 := heap_lt hr
   have h2 := heap_lt (below_look hbn hpc)
   have h3 := heap_lt (below_look hbn HM1.out)
   rw [hG4]
   unfold mark newG
   rw [if_neg (by omega), if_neg (by omega), if_neg (by omega)]
   exact HG2.out.fr b (by have := HM.out; omega), fun b hb => (HG4.out b (by have := HB2.out.size; omega)).trans (HG2.out.old b hb), fun b hb => by
   by_cases e : b < w2.heap.size
   ·rw [HG4.out b e]; exact HG2.out.new b hb
   ·rw [hG4]
    unfold mark newG
    split
    ·exact .inr ⟨_, rfl⟩
    ·split
     ·exact .inr ⟨_, rfl⟩
     ·split
      ·exact .inr ⟨_, rfl⟩
      ·exact .inl (HG2.out.fr b (by omega))⟩
 have HI : Hid (MInv W5 G4 k2 pc m r m0 h (some ⟨q1, 0, none⟩) c1 (some ⟨q2, 0, none⟩) c2 es clock W5 [] #[] clock) := Zi (by
  have hbz := HB4.out.trans (hbn.mono HB4.out.size)
  refine ⟨HAt.made (by rw [<- HNO.out, <- HNB.out]; exact below_look hbn hpc) rfl ⟨#[], 0, below_look hbn HM1.out, MapKept.stamped_empty 0, fun x hx => by simp at hx, fun s hs => by simp at hs⟩ ?_ ?_ ((HOA2.out.regh HG4.out).old hbz) ((HBA.out.regh HG4.out).old hbz), hr, Nat.le_refl _, fun x s _ _ h => by simp at h, fun s h => by simp at h, Keep.refl _ _⟩
  ·rw [hG4]; unfold mark newG; rw [if_neg (fun e => HRP.out e.symm), if_pos rfl]
  ·rw [hG4]; unfold mark newG; rw [if_neg (fun e => HRM.out e.symm), if_neg (fun e => HPM.out e.symm), if_pos rfl])
 have HRN : Hid (w.heap.size <= r /\ w.heap.size <= m) := Zi (by have := HB2.out.size; have := HRS.out; have := HM.out; omega)
 clear hG4 hbn hlr hr hpc hp0 hm0 HM1 HPB HOA2 HBA HB4 HNO HNB HG2 HB2 HRS HPC HM HG4
 go_wp2_with fail
 go_loopw [] (fun wr => ∃ ds seen c0, Hid (MInv W5 G4 k2 pc m r m0 h (some ⟨q1, 0, none⟩) c1 (some ⟨q2, 0, none⟩) c2 es clock wr ds seen c0)) (fun wr => wr.rangeLeft m0 r)
 case atStart => exact ⟨_, _, _, HI⟩
 case round =>
  clear HI
  obtain ⟨ds, seen, c0, HI⟩ := hrel
  have HB : Hid (Below w.heap.size w wr) := Zi (Below.keep HB5.out HI.out.keep (fun b e => by have := HRN.out; rcases e with e | e <;> omega))
  have hr := HI.out.it
  have hmb := below_look HB.out HMB.out
  go_upto_region 5 with fail
  apply Zl
  refine wl_next84 rfl hr hmb HST.out.1 HI.out.cl (fun hz => ?_) (fun e W2 he hkW hrW hszW => ?_)
  ·have HDM : Hid (∀ s, s ∈ ds ↔ s ∈ h.dei) := Zi (fun s => ⟨HI.out.sub s, fun hs => by
    obtain ⟨x, hx, hxk⟩ := HHA.out s hs
    refine HI.out.has x s hx hxk ?_
    cases hc : seen.contains x.born with
    | true => rfl
    | false =>
     have h1 := left_mem.2 ⟨hx, hc⟩
     have : (leftOf es seen).toList = [] := List.length_eq_zero_iff.1 (by rw [Array.length_toList]; exact hz)
     rw [this] at h1
     cases h1⟩)
   clear hz hr hmb
   simp only [Zq]
   refine Zm ?_
   obtain ⟨W7, hW7⟩ : ∃ W, W = wr := ⟨_, rfl⟩
   rw [<- hW7] at HI HB ⊢
   clear hW7
   have hHd : HAt W7 G4 k2 pc ⟨h.dei, h.obs, h.bus, []⟩ (some ⟨q1, 0, none⟩) c1 (some ⟨q2, 0, none⟩) c2 m none 0 := by
    have hx := HI.out.heap
    exact HAt.made hx.blk rfl (hx.map.mem HDM.out) hx.rp hx.rm hx.obs hx.bus
   have HG5 : Hid (Grow w G k2 W7 G4) := Zi ⟨HGW.out.fr.on HI.out.keep.size, HGW.out.old, HGW.out.new⟩
   obtain ⟨cj, hcj⟩ : ∃ cj : Nat -> Hp, ∀ j, cj j = ⟨h.dei, h.obs, h.bus, h.lev.take j⟩ := ⟨fun j => ⟨h.dei, h.obs, h.bus, h.lev.take j⟩, fun _ => rfl⟩
   have HCJ := Zi hcj
   have HD0 : Hid (Done W7 G4 k2 pc (cj 0) W7 G4) := Zi (by
    rw [hcj 0]
    exact Done.calm ⟨_, _, _, _, _, _, _, hHd⟩ HG5.out.fr (Below.refl _ _))
   have HMN : Hid (∀ b, Mine G4 k2 b -> w.heap.size <= b) := Zi (fun b hm => by
    rcases Nat.lt_or_ge b w.heap.size with h1 | h1
    ·obtain ⟨r, e, hr⟩ := hm
     rw [HG5.out.old b h1] at e
     exact absurd ⟨r, e, hr⟩ (HNO2.out b)
    ·exact h1)
   clear hcj hHd HI HDM
   have hp := below_look HB.out HP.out
   go_upto_region 8 with fail
   apply Zl
   iterate 3 refine Zm ?_
   refine Zo rfl (h3 hp) ?_
   iterate 2 refine Zm ?_
   clear hp
   go_wp2_with fail
   go_loopw [35] (fun i wr => ∃ (j : Nat) (Gj : Gh), j <= nl /\ i = .int .i64 (j : Int) /\ Hid (Done W7 G4 k2 pc (cj j) wr Gj)) (fun i _ => nl - (intOf i).toNat)
   case atStart => exact ⟨0, G4, by omega, rfl, HD0⟩
   case round =>
    clear HD0
    obtain ⟨j, Gj, hj, rfl, HD⟩ := hrel
    have hbr : Below w.heap.size w wr := Below.keep HB.out HD.out.keep HMN.out
    have hgo : ∀ b, b < w.heap.size -> Gj b = G b := fun b hlt => (HD.out.old b (by have := HB.out.size; omega)).trans (HG5.out.old b hlt)
    have HBR := Zi hbr
    have HGO := Zi hgo
    clear hbr hgo
    go_upto_region 9 with fail
    by_cases hlt : j < nl
    ·have hltI : (j : Int) < (nl : Int) := by omega
     apply Zl
     refine Zm ?_
     have hjl : j < h.lev.length := by rw [<- HNL.out]; exact hlt
     obtain ⟨ts, hts⟩ : ∃ ts, h.lev[j]? = some ts := ⟨_, List.getElem?_eq_getElem hjl⟩
     have hh := (HH0.out.regh HGO.out).old HBR.out
     obtain ⟨rowsH, hoH, hlH, hrH, hvH⟩ := hh.lev
     obtain ⟨gl, cur, rfl, -⟩ := hoH.addr (show j < rowsH.length by omega)
     obtain ⟨rowH, hrowH⟩ : ∃ row, rowsH[j]? = some row := ⟨_, List.getElem?_eq_getElem (show j < rowsH.length by omega)⟩
     obtain ⟨tA, tc, rfl, rowsT, hoT, hlT, hrT, hvT⟩ := hvH j ts rowH hts hrowH
     have HLD := Zi (one_of u98 rfl (by have h9 := hoH.cell hrowH (j := 0) (x := .slice tA ts.length tc) rfl; rwa [show j * 1 + 0 = j by omega] at h9))
     obtain ⟨nt, hnt⟩ : ∃ n, n = ts.length := ⟨_, rfl⟩
     rw [<- hnt] at HLD
     have HNT := Zi hnt
     have hlen : nt <= 800000000000 := by rw [hnt]; exact HTK.out ts (List.mem_of_getElem? hts)
     have hbz : Below wr.heap.size wr wr.drew := (Below.refl _ _).drew
     have hcc := CloneT_any (hoT.old hbz) (fun r hr => by
      obtain ⟨i, hi⟩ := List.mem_iff_getElem?.1 hr
      have hil := (List.getElem?_eq_some_iff.1 hi).1
      exact (hvT i _ r (List.getElem?_eq_getElem (by omega)) hi).one) (by omega)
     rw [show rowsT.length = nt by rw [hlT, hnt]] at hcc
     have HC := Zi hcc
     have HLT := Zi (show rowsT.length = nt by rw [hlT, hnt])
     have HVT := Zi hvT
     have HTS := Zi hts
     obtain ⟨cA, cc, cB, cbc, cm, clA, clc, hc⟩ := HD.out.heap
     have hpc := hc.blk
     have hnA : ∀ b r, Gj b = some r -> r ≠ (k2, .lar) -> ¬ clA = some ⟨b, 0, none⟩ := fun b r e hr e2 => by
      obtain ⟨-, -, -, hor, -⟩ := hc.lev
      have := hor b e2; rw [e] at this; cases this; exact hr rfl
     have HNPC := Zi (hnA pc _ hc.rp (by intro e; cases e))
     have HCL : Hid ((cj j).lev.length = j) := Zi (by rw [HCJ.out j]; show (h.lev.take j).length = j; rw [List.length_take]; omega)
     rw [HCL.out] at hpc
     have HH := Zi hc
     clear hts hh hoH hlH hrH hvH hrowH hoT hlT hrT hvT hnt hcc hc hnA hjl
     go_upto_region 10 with fail
     apply Zl
     refine Zm ?_
     refine Zo rfl (HLD.out) ?_
     refine Zm ?_
     clear HLD
     go_upto_region 11 with fail
     refine wp_region_Z (S := fun w' => Keep (fun b => clA = some ⟨b, 0, none⟩) wr w') 11 mixed (Keep.of hbz) (fun hS => ?_)
     refine zm 0 hS ?_; try simp only [Zq]
     refine zm 1 hS ?_; try simp only [Zq]
     refine zm 2 hS ?_; try simp only [Zq]
     refine zm 3 hS ?_; try simp only [Zq]
     refine zv4 (i := 4) rfl (by kernel_rfl) Zg hS rfl (fun w' hw' => ex_one rfl (h3 (hw'.look hpc HNPC.out))) ?_; try simp only [Zq]
     refine zm 5 hS ?_; try simp only [Zq]
     refine za_call (i := 6) (by kernel_rfl) rfl rfl (fun K hK => ?_); go_simp; refine ⟨_, _, ⟨rfl, rfl⟩, hK _ _ ⟨_, HC.out, ?_⟩⟩; clear hK K; rintro e w8 ⟨A8, c8, rfl, ho8, hA8, hb8⟩
     have hbn := hbz.trans (hb8.mono hbz.size)
     refine ⟨_, rfl, fun _ => hS.trans (C' := fun _ => False) (fun b e => e.elim) (Keep.of hb8), ?_⟩
     have hS := hS.trans (C' := fun _ => False) (fun b e => e.elim) (Keep.of hb8)
     rw [HLT.out]
     try simp only [Zq]
     have hA8 : ∀ g, A8 = some ⟨g, 0, none⟩ -> wr.heap.size <= g := fun g e => hA8 g e
     have hd7 := Done.owned (A := A8) (r := .lvl (cj j).lev.length) HD.out.heap HD.out.fr hbn (fun g e => ⟨hA8 g e, ho8.lt e⟩)
     obtain ⟨G7, hG7⟩ : ∃ G7, G7 = own Gj A8 (k2, .lvl (cj j).lev.length) := ⟨_, rfl⟩
     have hTK : TksAt w8 G7 (k2, .lvl (cj j).lev.length) ts A8 c8 := ⟨rowsT, ho8, by rw [HLT.out, HNT.out], by rw [hG7]; exact own_role _ _ _, fun jj t row e1 e2 => ((HVT.out jj t row e1 e2).regh (by rw [hG7]; exact own_old hA8)).same (fun b hb _ => hbn.block b hb)⟩
     have HTK8 := Zi hTK
     rw [<- hG7] at hd7
     have HH8 := Zi ((HH.out.regh hd7.old).old hbn)
     have HDn := Zi (HD.out.trans hd7)
     have hpc8 := below_look hbn hpc
     clear hd7 hG7 hTK ho8 hA8 hb8 hbn HC HVT HH HD hpc
     refine za_new (i := 7) (v := fun q => .slice (some ⟨q, 0, none⟩) 1 1) (by kernel_rfl) rfl rfl (ex_bs85 _ rfl rfl) (fun W hW => hS.trans (C' := fun _ => False) (fun b e => e.elim) (Keep.of hW)) ?_
     clear hS
     intro W8 q8 hbn hlq8 hq8 hS
     try simp only [Zq]
     have HDm := Zi (HDn.out.quiet hbn)
     have HH9 := Zi (HH8.out.old hbn)
     have HTK9 := Zi (HTK8.out.same (fun b hb _ => hbn.block b hb) (fun b hb _ => hbn.block b hb))
     have hpc9 := below_look hbn hpc8
     clear hbn hpc8 HDn HH8 HTK8 hlq8
     obtain ⟨rows, ho, hlr, hor, hvr⟩ := HH9.out.lev
     have HO := Zi ho
     have HV8 := Zi hvr
     have HOR := Zi hor
     have HLR := Zi (hlr.trans HCL.out)
     have HLE := Zi hlr
     rw [HNT.out] at hq8
     clear ho hvr hor hlr
     refine za_pushL (i := 8) elt85 (by kernel_rfl) rfl rfl _ _ rfl (show _ = Value.slice clA rows.length clc by rw [HLR.out]; rfl) rfl HO.out hq8 rfl (by simp [Value.oneCell']) (by have := HLR.out; omega) (by have := HLR.out; unfold maxLen; omega) (fun w' hk => hS.trans (C' := fun b => clA = some ⟨b, 0, none⟩) (fun b e => .inl e) hk) ?_
     clear hS
     intro A9 c9 W9 hown hk9 hA9 hS
     rw [HLR.out]
     try simp only [Zq]
     have hpc10 := hk9.look hpc9 HNPC.out
     have hd10 := Done.addL (ts := ts) HH9.out HDm.out.fr HLE.out HV8.out hown hk9 HOR.out hA9 HTK9.out
     rw [HLR.out] at hd10
     have hcs : ({ cj j with lev := (cj j).lev ++ [ts] } : Hp) = cj (j + 1) := by
      rw [HCJ.out j, HCJ.out (j + 1)]
      show (⟨h.dei, h.obs, h.bus, h.lev.take j ++ [ts]⟩ : Hp) = _
      rw [List.take_add_one, HTS.out]; rfl
     rw [hcs] at hd10
     have HDN := Zi (HDm.out.trans hd10)
     obtain ⟨hs1, hs2, -⟩ := hdr_set (j := 3) (v := .slice A9 (j + 1) c9) hpc10
     have hs1 := hs1 (by omega)
     clear hown hk9 hA9 hd10 HDm HH9 HO HV8 HOR HLR HLE hpc9 hpc10 hq8 hcs HTK9
     refine zn 9 hS ?_; try simp only [Zq]
     refine zn 10 hS ?_; try simp only [Zq]
     refine za_storeC (i := 11) (by kernel_rfl) rfl rfl 85 _ _ rfl pc 3 (.slice A9 (j + 1) c9) rfl (by first | rfl | (simp; done)) info85 rfl hs1 hs2 (fun h => absurd rfl h) ?_
     clear hS
     obtain ⟨W12, hW⟩ : ∃ W, W = W9.setCell ⟨pc, 3, none⟩ (.slice A9 (j + 1) c9) := ⟨_, rfl⟩
     rw [<- hW] at HDN ⊢
     clear hs1 hs2 hW hbz hlen
     refine za_done (by kernel_rfl) ?_ _
     have hwj : IntKind.i64.wrap ((j : Int) + 1) = (j : Int) + 1 := IntWalk.i64_in _ (by omega)
     go_upto_region 12 with fail
     apply Zl
     iterate 2 refine Zm ?_
     clear hwj
     go_wp2_with fail
     go_roundw
     case rel => exact ⟨j + 1, _, by omega, by go_num, HDN⟩
     case measure => simp [intOf]; omega
    ·have hltI : ¬ (j : Int) < (nl : Int) := by omega
     apply Zl
     refine Zm ?_
     go_upto_region 13 with fail
     apply Zl
     iterate 2 refine Zm ?_
     go_wp2_with fail
     go_ret
     have hje : cj j = h := by
      rw [HCJ.out j, List.take_of_length_le (by rw [<- HNL.out]; omega)]
     have hd := HD.out
     rw [hje] at hd
     refine ⟨pc, Gj, rfl, hd.heap, ⟨hd.fr, HGO.out, fun b hb => ?_⟩, HBR.out⟩
     by_cases e : b < W7.heap.size
     ·rw [hd.old b e]; exact HG5.out.new b hb
     ·exact hd.new b (by omega)
  ·obtain ⟨hem, hse⟩ := left_mem.1 he
   obtain ⟨s, hkey, hval, hsd⟩ := HKE.out e hem
   have HKY := Zi hkey
   have HVL := Zi hval
   have HEM := Zi hem
   have HSD := Zi hsd
   have HHE := Zi he
   have HKW := Zi hkW
   have HRW := Zi hrW
   have hmb2 : W2.heap[m0]? = some (.map es clock) := hkW.look hmb (fun e => by rw [e, hr] at hmb; cases hmb)
   have hA := HI.out.heap
   have hA2 := hA.keep hkW (fun b e => by subst e; exact ⟨by rintro ⟨x, e, h9⟩; rw [HGR.out] at e; cases e; exact h9 rfl, by rw [HGR.out]; simp⟩)
   obtain ⟨W7, hput, hdei, hkp⟩ := run_put84 (dei' := ds ++ [s]) hA2.map s (fun t => by simp)
   have hp := hA2.blk
   have HPU := Zi hput
   have HN := Zi (HI.out.step HGR.out HRM.out hkey hsd HST.out.2.1 hem hkW hrW hdei hkp)
   have HLT : Hid (W7.rangeLeft m0 r < wr.rangeLeft m0 r) := Zi (by
    have e1 : W7.heap[m0]? = some (.map es clock) := hkp.look hmb2 (fun e => by
     have h1 := HB5.out.size
     have h2 := heap_lt HMB.out
     have := HRN.out
     omega)
    unfold World.rangeLeft
    rw [e1, HN.out.it, hmb, hr]
    exact left_push he)
   have HM2 := Zi hmb2
   rw [hkey, hval]
   clear hem hse hkey hval hsd he hkW hrW hszW hmb2 hA hA2 hput hdei hkp hr hmb
   simp only [Zq]
   refine Zm ?_
   go_upto_region 6 with fail
   apply Zl
   refine wl_entry84 rfl HRW.out HM2.out HEM.out HST.out.2.1 HKY.out HVL.out ?_
   simp only [Zq]
   iterate 2 refine Zm ?_
   go_upto_region 7 with fail
   apply Zl
   iterate 3 refine Zm ?_
   refine Zo rfl (h2 hp) ?_
   refine Zm ?_
   refine wl_s (w2 := W7) rfl (by
    unfold execOp
    have := HPU.out
    simp [Act.eval, this, Result.andThen]) ?_
   rw [put_noneA]
   clear hp HPU
   go_wp2_with fail
   go_roundw
   case rel => exact ⟨_, _, _, HN⟩
   case measure => exact HLT.out
open Go.RowKit Go.Proofs.Ytpamocglecangaa.Nm
set_option linter.unusedSimpArgs false
section
variable {w w' : World} {G G' : Gh} {k k2 p p2 n : Nat} {h h2 : Hp}
theorem Two.other (t : Two w G k k2 p p2 h h2 n w' G') (hf : Fr w G) {k0 : Nat} (e1 : k0 ≠ k) (e2 : k0 ≠ k2) : ∀ b, (Mine G k b ∨ Mine G k2 b) -> ¬ Mine G' k0 b /\ G' b ≠ none := fun b hm => by
 have hl : b < w.heap.size := by rcases hm with hm | hm <;> exact mine_lt hf hm
 rcases hm with ⟨r, e, -⟩ | ⟨r, e, -⟩
 ·rw [<- t.old b hl] at e
  exact ⟨by rintro ⟨r2, e3, -⟩; rw [e] at e3; cases e3; exact e1 rfl, by rw [e]; simp⟩
 ·rw [<- t.old b hl] at e
  exact ⟨by rintro ⟨r2, e3, -⟩; rw [e] at e3; cases e3; exact e2 rfl, by rw [e]; simp⟩
theorem Two.keepP (t : Two w G k k2 p p2 h h2 n w' G') (hf : Fr w G) {k0 p0 : Nat} {hh0 : Hp} (hh : HeapAt w G k0 p0 hh0) (e1 : k0 ≠ k) (e2 : k0 ≠ k2) : HeapAt w' G' k0 p0 hh0 := by
 obtain ⟨oA, oc, bA, bc, m, lA, lc, hh⟩ := hh
 exact ⟨_, _, _, _, _, _, _, (hh.regh t.old).keep t.keep (t.other hf e1 e2)⟩
theorem Two.keepD (t : Two w G k k2 p p2 h h2 n w' G') (hf : Fr w G) {k0 p0 n0 : Nat} {hh0 : Hp} (hh : DHeapAt w G k0 p0 hh0 n0) (e1 : k0 ≠ k) (e2 : k0 ≠ k2) : DHeapAt w' G' k0 p0 hh0 n0 := by
 obtain ⟨dA, dc, oA, oc, bA, bc, lA, lc, rA, rc, hh⟩ := hh
 exact ⟨_, _, _, _, _, _, _, _, _, _, (hh.regh t.old).keep t.keep (t.other hf e1 e2)⟩
theorem Two.no (t : Two w G k k2 p p2 h h2 n w' G') (hg : ∀ b, G b = none ∨ ∃ r, G b = some (k, r) ∨ G b = some (k2, r)) {k0 : Nat} (e1 : k0 ≠ k) (e2 : k0 ≠ k2) : ∀ b, ¬ Mine G' k0 b := fun b => by
 rintro ⟨r, e, -⟩
 have : G' b = none ∨ ∃ r, G' b = some (k, r) ∨ G' b = some (k2, r) := by
  rcases Nat.lt_or_ge b w.heap.size with hl | hl
  ·rw [t.old b hl]; exact hg b
  ·exact t.new b hl
 rcases this with e3 | ⟨r2, e3 | e3⟩ <;> (rw [e] at e3; cases e3)
 ·exact e1 rfl
 ·exact e2 rfl
theorem Grow.no (t : Grow w G k w' G') {k0 : Nat} (e1 : k0 ≠ k) (hg : ∀ b, ¬ Mine G k0 b) : ∀ b, ¬ Mine G' k0 b := fun b => by
 rintro ⟨r, e, hr⟩
 rcases Nat.lt_or_ge b w.heap.size with hl | hl
 ·rw [t.old b hl] at e; exact hg b ⟨r, e, hr⟩
 ·rcases t.new b hl with e3 | ⟨r2, e3⟩ <;> (rw [e] at e3; cases e3)
  exact e1 rfl
end
theorem sum_len {α : Type} {f : α -> Nat} (hf : ∀ x, 1 <= f x) : ∀ l : List α, l.length <= sumN (l.map f)
 | [] => by simp
 | x :: l => by have := hf x; have := sum_len hf l; simp only [List.map_cons, sumN, List.length_cons]; omega
theorem Inv.tks {i S : Nat} {h : Hp} (hi : Inv i S h) {ts : List Tk} (hts : ts ∈ h.lev) : ts.length <= i * (200 * S) := by
 have h1 := hi.tot
 unfold Go.Proofs.Ytpamocglecangaa.tot at h1
 have h2 := sumN_memb (f := tsum h) hts
 have h3 : ts.length <= tsum h ts := sum_len (wT_pos h) ts
 omega
theorem clones_any {w : World} {D D2 : Nat -> Prop} {ns : List ByteArray} {A0 : Option Addr} {n0 c0 : Nat} {qs qs2 : List Cl} {A A2 : Option Addr} {l c l2 c2 S : Nat} (hS : S <= 2000000) (hs : SsAt w ns A0 n0) (hm0 : n0 <= maxLen) (hc : ClsAt w D qs A l c) (hcl2 : ClsAt w D2 qs2 A2 l2 c2) (hok : ∀ q, q ∈ qs ∨ q ∈ qs2 -> wVs q.l <= S /\ wV q.v <= S /\ wV q.x <= S) (hqf : ∀ q, q ∈ qs ∨ q ∈ qs2 -> ClFit q) :
  Calls Try.prog 5 #[.slice A0 n0 c0, .slice A l c, .slice A2 l2 c2] w fun e w' => e = .returned (.bool true) /\ Below w.heap.size w w' := by
 have HS := Zi hs
 have HT := Zi hc.low
 have HT2 := Zi hcl2.low
 have HL := Zi hc.len
 have HL2 := Zi hcl2.len
 have HNS := Zi hs.len
 have HCC2 := Zi hcl2
 have hcm := hc.cap
 have hmx := hc.max
 have hcm2 := hcl2.cap
 have hmx2 := hcl2.max
 unfold maxLen at hmx hmx2
 have HOK := Zi hok
 have HQF := Zi hqf
 have HBG := Zi (big_any A0 n0 c0 hm0 qs A l c w D hc)
 have hb := Below.refl w.heap.size w
 clear hs hc hcl2 hok hqf
 go_enter Try.func5, Try.ntmps5
 go_upto_region 0 with fail
 apply Zl
 refine Zm ?_
 go_upto_region 1 with fail
 apply Zl
 iterate 2 refine Zm ?_
 refine Zn HBG.out ?_; rintro e w1 ⟨⟨bb, rfl, HFB0⟩, hb1⟩; refine ⟨_, rfl, ?_⟩; simp only [Zq]
 have HBG2 := Zi (big_any A0 n0 c0 hm0 qs2 A2 l2 c2 w1 D2 (HCC2.out.old hb1))
 replace hb := hb.trans (hb1.mono hb.size)
 clear hb1 HCC2 HBG
 cases bb with
 | true =>
  clear HFB0 HBG2
  refine Zm ?_
  iterate 3 ((first | ((with_reducible refine wl_skipU ?_ ?_ ?_); exact rfl; exact rfl) | ((with_reducible refine wl_skip ?_ ?_); exact rfl; simp only [Zq])))
  refine Zm ?_
  go_upto_region 2 with fail
  apply Zl
  refine Zn awake_any ?_; rintro e w4 ⟨rfl, hb4⟩; refine ⟨_, rfl, ?_⟩; simp only [Zq]
  refine Zm ?_
  go_wp2_with fail
  go_ret
  exact ⟨rfl, hb.trans (hb4.mono hb.size)⟩
 | false =>
  have HFB := Zi (HFB0 rfl)
  clear HFB0
  iterate 3 refine Zm ?_
  refine Zn HBG2.out ?_; rintro e w2 ⟨⟨bb2, rfl, HFB2⟩, hb2⟩; refine ⟨_, rfl, ?_⟩; simp only [Zq]
  refine Zm ?_
  replace hb := hb.trans (hb2.mono hb.size)
  clear hb2 HBG2
  cases bb2 with
  | true =>
   clear HFB2
   go_upto_region 2 with fail
   apply Zl
   refine Zn awake_any ?_; rintro e w4 ⟨rfl, hb4⟩; refine ⟨_, rfl, ?_⟩; simp only [Zq]
   refine Zm ?_
   go_wp2_with fail
   go_ret
   exact ⟨rfl, hb.trans (hb4.mono hb.size)⟩
  | false =>
   have HFBB := Zi (HFB2 rfl)
   clear HFB2
   have HN := Zi (New_any (w := w2) (G := fun _ => none) 0 (fun b _ => rfl) (c := c0) (HS.out.below hb))
   go_upto_region 3 with fail
   apply Zl
   refine Zm ?_
   refine Zn HN.out ?_; rintro e W2 ⟨p, G1, rfl, hh2, hf2, hold2, hnew2, hb2⟩; refine ⟨_, rfl, ?_⟩; simp only [Zq]
   have hbw2 := hb.trans (hb2.mono hb.size)
   have HN2 := Zi (dNew_any 1 hf2 (c := c0) (HS.out.below hbw2) (by have := HFB.out.1; omega))
   refine Zm ?_
   refine Zn HN2.out ?_; rintro e W3 ⟨p2, G3, rfl, hd3, hf3, hold3, hnew3, hb3⟩; refine ⟨_, rfl, ?_⟩; simp only [Zq]
   have HB2 := Zi (hbw2.trans (hb3.mono hbw2.size))
   have HG1 : Hid (∀ b, b < w.heap.size -> G3 b = none) := Zi (fun b hlt => (hold3 b (by have := hbw2.size; omega)).trans (hold2 b (by have := hb.size; omega)))
   have HG3 : Hid (∀ b, G3 b = none ∨ ∃ r, G3 b = some (0, r) ∨ G3 b = some (1, r)) := Zi (fun b => by
    rcases Nat.lt_or_ge b W2.heap.size with e1 | e1
    ·rw [hold3 b e1]
     rcases Nat.lt_or_ge b w2.heap.size with e2 | e2
     ·exact .inl (hold2 b e2)
     ·exact (hnew2 b e2).imp id fun ⟨r, e⟩ => ⟨r, .inl e⟩
    ·exact (hnew3 b e1).imp id fun ⟨r, e⟩ => ⟨r, .inr e⟩)
   have HD0 : Hid (Two W3 G3 0 1 p p2 (hp0 ns) (hp0 ns) 0 W3 G3) := Zi (Two.calm ((hh2.regh hold3).old hb3) hd3 hf3 (Below.refl _ _))
   have hsz2 : w.heap.size <= W3.heap.size := HB2.out.size
   clear HN HN2 hh2 hf2 hold2 hnew2 hb2 hb hd3 hf3 hold3 hnew3 hb3 hbw2
   iterate 2 refine Zm ?_
   go_upto_region 4 with fail
   apply Zl
   iterate 2 refine Zm ?_
   go_upto_region 6 with fail
   apply Zl
   refine Zm ?_
   have HQL : Hid (l <= 60) := Zi (by have := HFB.out.2.1; rw [HL.out] at this; exact this)
   have HQL2 : Hid (l2 <= 60) := Zi (by have := HFBB.out.2.1; rw [HL2.out] at this; exact this)
   have HNL : Hid (ns.length <= 1000000) := Zi (by have := HFB.out.1; rw [HNS.out]; omega)
   have H0 : Hid (PI ns S 0 (hp0 ns)) := Zi (PI.zero ns S)
   have HSS : Hid (200 * S <= 400000000 /\ 120 * (200 * S) <= 48000000000) := Zi (by omega)
   clear hS
   go_wp2_with fail
   go_loopw [9] (fun i wr => ∃ (j : Nat) (hp : Hp) (Gj : Gh) (nr : Nat), j <= l /\ i = .int .i64 (j : Int) /\ Hid (Two W3 G3 0 1 p p2 hp hp nr wr Gj) /\ Hid (PI ns S j hp) /\ Hid (nr <= j * (120 * (200 * S)))) (fun i _ => l - (intOf i).toNat)
   case atStart => exact ⟨0, _, G3, 0, by omega, rfl, HD0, H0, Zi (Nat.zero_le _)⟩
   case round =>
    clear HD0 H0
    obtain ⟨j, hp, Gj, nr, hj, rfl, HD, HI, HNR⟩ := hrel
    go_upto_region 7 with fail
    by_cases hlt : j < l
    ·have hltI : (j : Int) < (l : Int) := by omega
     have hbo : Below w.heap.size w wr := Two.below HB2.out HG1.out HD.out
     have hgo1 : ∀ b, b < w.heap.size -> Gj b = none := fun b hlt => (HD.out.old b (by omega)).trans (HG1.out b hlt)
     obtain ⟨b, off, q, row, rv, rx, tr, A', l', c', rfl, hq, hcl, hrows⟩ := HT.out.get hlt (C := fun b => w.heap.size <= b) (fun b h1 h2 => by have := h1.2; omega)
     have HR := Zi (hrows wr (Keep.of hbo)).1
     have HCo : ClAt wr (Imm Gj) q row rv rx tr A' l' c' := hcl.mono (fun b hb => hgo1 b hb.2) fun b hb _ => hbo.block b hb.2
     have hqm := List.mem_of_getElem? hq
     have hj60 : j <= 59 := by have := HQL.out; omega
     have hSS := HSS.out
     have hjB : j * (120 * (200 * S)) <= 59 * 48000000000 := Nat.mul_le_mul hj60 hSS.2
     have hnr := HNR.out
     have hST := same_any (k := 0) (k2 := 1) (i := j) (S := S) (B := 120 * (200 * S)) (by decide) HD.out.hp HD.out.hd HD.out.fr HI.out.wf HI.out.inv (by omega) (HI.out.fit (by omega) HNL.out) (by omega) (by omega) (fun l' hl => Nat.le_trans (HI.out.inv.weight hl) (Nat.mul_le_mul_right _ (by omega))) HCo ⟨HFB.out.2.2 q hqm, HOK.out q (.inl hqm)⟩ (HQF.out q (.inl hqm))
     have HC := Zi hST
     obtain ⟨hp', hhp'⟩ : ∃ h', h' = stepP hp q := ⟨_, rfl⟩
     have hI' : PI ns S (j + 1) hp' := by rw [hhp']; exact HI.out.step (by omega) ⟨HFB.out.2.2 q hqm, HOK.out q (.inl hqm)⟩ (HQF.out q (.inl hqm))
     rw [<- hhp'] at HC
     have HI' := Zi hI'
     have HBN : Hid (nr + 120 * (200 * S) <= (j + 1) * (120 * (200 * S))) := Zi (by rw [Nat.succ_mul j (120 * (200 * S))]; omega)
     clear hbo hgo1 hrows HCo hqm hST hhp' hI' hcl hSS hjB hnr
     apply Zl
     iterate 4 refine Zm ?_
     go_upto_region 9 with fail
     apply Zl
     iterate 5 refine Zm ?_
     refine Zw rfl (HR.out) ?_
     refine Zn HC.out ?_; rintro e w5 ⟨rfl, G5, nr5, ht5, hn5⟩; refine ⟨_, rfl, ?_⟩; simp only [Zq]
     refine Zm ?_
     clear HC HR
     have HD5 := Zi (HD.out.trans ht5)
     have HN5 : Hid (nr5 <= (j + 1) * (120 * (200 * S))) := Zi (Nat.le_trans hn5 HBN.out)
     clear ht5 hn5 HD HBN
     go_upto_region 10 with fail
     apply Zl
     iterate 2 refine Zm ?_
     go_wp2_with fail
     go_roundw
     case rel => exact ⟨j + 1, hp', G5, nr5, by omega, by go_num, HD5, HI', HN5⟩
     case measure => simp [intOf]; omega
    ·have hltI : ¬ (j : Int) < (l : Int) := by omega
     apply Zl
     iterate 4 refine Zm ?_
     have HJ : Hid (j <= 60) := Zi (by have := HQL.out; omega)
     obtain ⟨W4, hW4⟩ : ∃ W, W = wr := ⟨_, rfl⟩
     rw [<- hW4] at HD ⊢
     clear hW4 hlt hltI hj HNR
     have hbo : Below w.heap.size w W4 := Two.below HB2.out HG1.out HD.out
     have hgo1 : ∀ b, b < w.heap.size -> Gj b = none := fun b hlt => (HD.out.old b (by omega)).trans (HG1.out b hlt)
     have hi := HI.out.inv
     have hj60 := HJ.out
     have htk : ∀ ts, ts ∈ hp.lev -> ts.length <= 800000000000 := fun ts hts => by
      have e1 := hi.tks hts
      have e2 : j * (200 * S) <= 60 * 400000000 := Nat.mul_le_mul hj60 HSS.out.1
      omega
     have HTK := Zi htk
     have HNO := Zi (HD.out.no HG3.out (k0 := 3) (by decide) (by decide))
     have HFI := Zi (HI.out.fit (by omega) HNL.out)
     have HLN : Hid (hp.obs.length <= 1000000 /\ hp.bus.length <= 1000000 /\ hp.lev.length <= 1000000) := Zi ⟨by have := hi.obs; omega, by have := hi.bus; omega, by have := hi.lev; omega⟩
     have HC1 := Zi (Clone_any (k := 0) (k2 := 2) (by decide) HD.out.hp HD.out.fr HLN.out.1 (fun o ho => Nat.le_trans (hi.fld o ho) (by decide)) HLN.out.2.1 (fun o ho => Nat.le_trans (hi.elm o ho).1 (by omega)) HLN.out.2.2 (HD.out.no HG3.out (by decide) (by decide)) htk)
     have HBO := Zi hbo
     have HGO := Zi hgo1
     clear hbo hgo1 hi hj60 htk
     go_upto_region 12 with fail
     apply Zl
     refine Zm ?_
     refine Zn HC1.out ?_; rintro e w5 ⟨pc, G5, rfl, hh5, hg5, hb5⟩; refine ⟨_, rfl, ?_⟩; simp only [Zq]
     have HC2 := Zi (dClone_any (k := 1) (k2 := 3) (by decide) (hg5.no (by decide) HNO.out) ((HD.out.hd.regh hg5.old).old hb5) hg5.fr HFI.out HLN.out.1 HLN.out.2.1 HLN.out.2.2 HTK.out)
     have HP5 := Zi ((HD.out.hp.regh hg5.old).old hb5)
     have HD5 := Zi ((HD.out.hd.regh hg5.old).old hb5)
     have HH5 := Zi hh5
     have HG5 : Hid (∀ b, b < w.heap.size -> G5 b = none) := Zi (fun b hlt => (hg5.old b (by have := HBO.out.size; omega)).trans (HGO.out b hlt))
     have HB5 := Zi (HBO.out.trans (hb5.mono HBO.out.size))
     clear hh5 hg5 hb5 HC1 HBO HGO HNO HD
     refine Zm ?_
     refine Zn HC2.out ?_; rintro e w6 ⟨pd, G6, rfl, hh6, hg6, hb6⟩; refine ⟨_, rfl, ?_⟩; simp only [Zq]
     have HA0 := Zi ((HP5.out.regh hg6.old).old hb6)
     have HB0 := Zi ((HD5.out.regh hg6.old).old hb6)
     have HF6 := Zi hg6.fr
     have HB6 := Zi (HB5.out.trans (hb6.mono HB5.out.size))
     have HG6 : Hid (∀ b, b < w.heap.size -> G6 b = none) := Zi (fun b hlt => (hg6.old b (by have := HB5.out.size; omega)).trans (HG5.out b hlt))
     have HD6 : Hid (Two w6 G6 2 3 pc pd hp hp 0 w6 G6) := Zi (Two.calm ((HH5.out.regh hg6.old).old hb6) hh6 hg6.fr (Below.refl _ _))
     have hsz6 : w.heap.size <= w6.heap.size := HB6.out.size
     clear hh6 hg6 hb6 HC2 HP5 HD5 HH5 HG5 HB5 HTK hsz2 HB2 HG1 HG3
     iterate 2 refine Zm ?_
     go_upto_region 13 with fail
     apply Zl
     iterate 2 refine Zm ?_
     go_upto_region 15 with fail
     apply Zl
     refine Zm ?_
     go_wp2_with fail
     go_loopw [13] (fun i wr => ∃ (jj : Nat) (hq : Hp) (Gj : Gh) (nr : Nat), jj <= l2 /\ i = .int .i64 (jj : Int) /\ Hid (Two w6 G6 2 3 pc pd hq hq nr wr Gj) /\ Hid (PI ns S (j + jj) hq) /\ Hid (nr <= jj * (120 * (200 * S)))) (fun i _ => l2 - (intOf i).toNat)
     case atStart => exact ⟨0, _, G6, 0, by omega, rfl, HD6, HI, Zi (Nat.zero_le _)⟩
     case round =>
      clear HD6 HI
      obtain ⟨jj, hq, Gk, nr2, hjj, rfl, HD, HI, HNR⟩ := hrel
      have hbo : Below w.heap.size w wr := Two.below HB6.out HG6.out HD.out
      go_upto_region 16 with fail
      by_cases hlt : jj < l2
      ·have hltI : (jj : Int) < (l2 : Int) := by omega
       have hgo1 : ∀ b, b < w.heap.size -> Gk b = none := fun b hlt => (HD.out.old b (by omega)).trans (HG6.out b hlt)
       obtain ⟨b, off, q, row, rv, rx, tr, A', l', c', rfl, hq2, hcl, hrows⟩ := HT2.out.get hlt (C := fun b => w.heap.size <= b) (fun b h1 h2 => by have := h1.2; omega)
       have HR := Zi (hrows wr (Keep.of hbo)).1
       have HCo : ClAt wr (Imm Gk) q row rv rx tr A' l' c' := hcl.mono (fun b hb => hgo1 b hb.2) fun b hb _ => hbo.block b hb.2
       have hqm := List.mem_of_getElem? hq2
       have hj60 : jj <= 59 := by have := HQL2.out; omega
       have hjj120 : j + jj <= 119 := by have := HJ.out; omega
       have hSS := HSS.out
       have hjB : jj * (120 * (200 * S)) <= 59 * 48000000000 := Nat.mul_le_mul hj60 hSS.2
       have hnr := HNR.out
       have hST := same_any (k := 2) (k2 := 3) (i := j + jj) (S := S) (B := 120 * (200 * S)) (by decide) HD.out.hp HD.out.hd HD.out.fr HI.out.wf HI.out.inv (by omega) (HI.out.fit (by omega) HNL.out) (by omega) (by omega) (fun l' hl => Nat.le_trans (HI.out.inv.weight hl) (Nat.mul_le_mul_right _ (by omega))) HCo ⟨HFBB.out.2.2 q hqm, HOK.out q (.inr hqm)⟩ (HQF.out q (.inr hqm))
       have HC := Zi hST
       obtain ⟨hp', hhp'⟩ : ∃ h', h' = stepP hq q := ⟨_, rfl⟩
       have hI' : PI ns S (j + (jj + 1)) hp' := by rw [hhp']; exact HI.out.step (by omega) ⟨HFBB.out.2.2 q hqm, HOK.out q (.inr hqm)⟩ (HQF.out q (.inr hqm))
       rw [<- hhp'] at HC
       have HI' := Zi hI'
       have HBN : Hid (nr2 + 120 * (200 * S) <= (jj + 1) * (120 * (200 * S))) := Zi (by rw [Nat.succ_mul jj (120 * (200 * S))]; omega)
       clear hbo hgo1 hrows HCo hqm hST hhp' hI' hcl hSS hjB hnr
       apply Zl
       iterate 4 refine Zm ?_
       go_upto_region 18 with fail
       apply Zl
       iterate 5 refine Zm ?_
       refine Zw rfl (HR.out) ?_
       refine Zn HC.out ?_; rintro e w7 ⟨rfl, G7, nr7, ht7, hn7⟩; refine ⟨_, rfl, ?_⟩; simp only [Zq]
       refine Zm ?_
       clear HC HR
       have HD5 := Zi (HD.out.trans ht7)
       have hob := HI'.out.inv.obs
       have hbu := HI'.out.inv.bus
       have HAL := Zi (alike_any HD5.out.hp HD5.out.hd (HI'.out.fit (by omega) HNL.out) (by omega) (by omega))
       have HN5 : Hid (nr7 <= (jj + 1) * (120 * (200 * S))) := Zi (Nat.le_trans hn7 HBN.out)
       clear ht7 hn7 HD HBN hob hbu
       go_upto_region 19 with fail
       apply Zl
       iterate 5 refine Zm ?_
       refine Zn HAL.out ?_; rintro e w8 ⟨rfl, hb8⟩; refine ⟨_, rfl, ?_⟩; simp only [Zq]
       iterate 2 refine Zm ?_
       have HD8 := Zi (HD5.out.quiet hb8)
       clear HAL hb8 HD5 hjj120
       go_wp2_with fail
       go_roundw
       case rel => exact ⟨jj + 1, hp', G7, nr7, by omega, by go_num, HD8, HI', HN5⟩
       case measure => simp [intOf]; omega
      ·have hltI : ¬ (jj : Int) < (l2 : Int) := by omega
       apply Zl
       iterate 4 refine Zm ?_
       have HAL := Zi (alike_any (HD.out.keepP HF6.out HA0.out (by decide) (by decide)) (HD.out.keepD HF6.out HB0.out (by decide) (by decide)) HFI.out HLN.out.1 HLN.out.2.1)
       go_upto_region 21 with fail
       apply Zl
       iterate 2 refine Zm ?_
       refine Zn HAL.out ?_; rintro e w9 ⟨rfl, hb9⟩; refine ⟨_, rfl, ?_⟩; simp only [Zq]
       refine Zm ?_
       refine Zn awake_any ?_; rintro e w4 ⟨rfl, hb4⟩; refine ⟨_, rfl, ?_⟩; simp only [Zq]
       iterate 2 refine Zm ?_
       have hbe := hbo.trans ((hb9.trans (hb4.mono hb9.size)).mono hbo.size)
       clear HAL hb9 hb4 hbo
       go_wp2_with fail
       go_ret
       exact ⟨rfl, hbe⟩
end Go.Proofs.Ytpamocglecangaa
