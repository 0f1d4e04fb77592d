/- The reader in memory: typ, whatever the text. -/
import Derived.Test.YtokmaehefenpmaaDoorPA10
namespace Go.Proofs.YtokmaehefenpmaaDoor
open Go.RowKit Go.Proofs.YtokmaehefenpmaaDoor.Nm
set_option linter.unusedSimpArgs false
section
variable {md : Region.Mode} {ops : Array Oper} {Q : Exit → Act → World → Prop} {S : World → Prop} {fuel : Nat} {listed : Array Bool} {a : Act} {w : World} {i : Nat} {oi : Oper}
theorem ha_putX (hr : Region.ready md ops listed = [i]) (ho : ops[i]? = some oi) (hg : Region.wanted oi (yielded ops a.tmps) = true) (x y : Operand) (hop : oi.op = .store 24 x y) {k : Int} {s : ByteArray} {n : Int} {A : Option Addr} {l c : Nat} {p : Nat} {k' : Int} {s' : ByteArray} {n' : Int} {A' : Option Addr} {l' c' : Nat} (hx : a.eval x = .pointer (some ⟨p, 0, none⟩)) (hy : a.eval y = .agg (cell4 k s n A l c)) (hp : w.heap[p]? = some (.cells (cell4 k' s' n' A' l' c') 24 (0, 0)))
    (hS : ∀ W, (∀ B w0, B ≤ p → Below B w0 w → Below B w0 W) → (∀ g, g ≠ p → W.heap[g]? = w.heap[g]?) → S W)
    (h : ∀ W, (∀ B w0, B ≤ p → Below B w0 w → Below B w0 W) → W.heap.size = w.heap.size → (∀ g, g ≠ p → W.heap[g]? = w.heap[g]?) → W.heap[p]? = some (.cells (cell4 k s n A l c) 24 (0, 0)) → S W → wpAnyH Tryd.prog md ops Q S fuel (listed.setIfInBounds i true) (a.put oi.dst undef) W) : wpAnyH Tryd.prog md ops Q S (fuel + 1) listed a w := by
  have hb : ∀ B w0, B ≤ p → Below B w0 w → Below B w0 (w.setRow p (cell4 k s n A l c)) := fun B w0 hB hb => below_setRow hb hB _
  exact ha_store hr ho hg 24 x y hop p (cell4 k s n A l c) hx hy 24 _ hp info24 rfl (cell4_one _ _ _ _ _ _) (hS _ hb (fun g hg => setRow_other w p g _ hg)) fun hS => h _ hb (by simp) (fun g hg => setRow_other w p g _ hg) (hr_new hp) hS
end
theorem one_in {w : World} {D : Nat → Prop} {t : Ty} {k : Int} {s : ByteArray} {n : Int} {A : Option Addr} {l c : Nat} (h : TyAt w D t (cell4 k s n A l c)) {p : Nat} (hD : D p) {tq : TypeId} {fr : Nat × Nat} (hp : w.heap[p]? = some (.cells (cell4 k s n A l c) tq fr)) : TysAt w D [t] (some ⟨p, 0, none⟩) 1 1 :=
  ⟨rfl, Nat.le_refl _, by unfold maxLen; omega, fun _ => cell4 k s n A l c, fun i u hu => by
    cases i with
    | zero => exact ⟨p, 0, _, tq, fr, rfl, hD, hp, by rfl⟩
    | succ i => simp at hu, fun i u hu => by
    cases i with
    | zero => simp at hu; subst hu; exact h
    | succ i => simp at hu⟩
theorem TyAt.fr {w w' : World} {r : Nat} {D : Nat → Prop} {t : Ty} {row : Array Value} (h : TyAt w D t row) (hD : ∀ b, D b → b ≠ r) (hf : Fr r r w w') : TyAt w' D t row :=
  (h.low.mono (fun _ h => h) (fun b hb => hf.keep b hb.2 (hD b hb.1) (hD b hb.1))).weak fun _ h => h.1
theorem four_hit1 : Instr.findNow .string (.string kInt) four.toList 0 = some (some (0, .int .i64 1)) := by kernel_rfl
theorem four_hit2 : Instr.findNow .string (.string kBool) four.toList 0 = some (some (1, .int .i64 2)) := by kernel_rfl
theorem four_hit3 : Instr.findNow .string (.string kText) four.toList 0 = some (some (2, .int .i64 3)) := by kernel_rfl
theorem four_hit4 : Instr.findNow .string (.string kUnit) four.toList 0 = some (some (3, .int .i64 4)) := by kernel_rfl
/-- What stands when a point may come. -/
def DotI (w : World) (r z z5 : Nat) (t : Ty) (l1 : List UInt8) (f : Bool) (wr : World) : Prop := ∃ (u : Ty) (s2 : List UInt8) (g : Bool) (k : Int) (s : ByteArray) (n : Int) (A : Option Addr) (lA cA : Nat), wr.heap[z]? = some (.cells (cell4 0 ⟨#[]⟩ 0 none 0 0) 24 (0, 0)) ∧ wr.heap[z5]? = some (.cells (cell4 k s n A lA cA) 24 (0, 0)) ∧ Hid (TyAt wr (fun b => w.heap.size ≤ b ∧ b ≠ z ∧ b ≠ z5) u (cell4 k s n A lA cA)) ∧ Rs wr r s2 g ∧ Hid (Fr r r w wr) ∧ Hid (s2.length ≤ 10000) ∧ Hid (g = true → u = t ∧ s2 = l1 ∧ true = f) ∧ Hid (g = false → ∃ m', s2.length < m' ∧ (dots m' u s2).1 = t ∧ (dots m' u s2).2 = l1 ∧ false = f)
theorem rdAtom_len {rd : List UInt8 → Option (Ty × List UInt8 × Bool)} (hr : LenOk rd) {s s1 : List UInt8} {t : Ty} {f : Bool} (h : rdAtom rd s = some (t, s1, f)) : s1.length ≤ s.length := by
  unfold rdAtom at h
  split at h
  · rename_i s2 h2
    have h2 := take_len h2
    have h3 := dw_len s2
    cases h; omega
  · split at h
    · rename_i s2 h2
      have h2 := take_len h2
      have h3 := dw_len s2
      cases h; omega
    · have h3 := dw_len s
      split at h
      · rename_i s2 h2
        have h2 := take_len h2
        split at h
        · rename_i h4
          have := rdArgs_len hr h4
          cases h; omega
        · cases h
      · cases h; omega
theorem rdList_cnt {rd : List UInt8 → Option (Ty × List UInt8 × Bool)} (hr : LenOk rd) (e : List UInt8) : ∀ (n : Nat) (l : List Ty) (s : List UInt8) (l' : List Ty) (s' : List UInt8) (f : Bool), rdList rd e n l s = some (l', s', f) → l'.length ≤ l.length + s.length + 1
  | 0, l, s, l', s', f, h => by simp [rdList] at h
  | n + 1, l, s, l', s', f, h => by
    simp only [rdList] at h
    split at h
    · cases h
    · rename_i t s1 f1 h1
      have h2 := hr _ _ _ _ h1
      split at h
      · rename_i s2 h3
        have h4 := take_len h3
        simp at h4
        split at h
        · cases h; simp <;> omega
        · have := rdList_cnt hr e n _ _ _ _ _ h
          simp at this; omega
      · split at h
        · cases h; simp <;> omega
        · cases h; simp <;> omega
theorem rdArgs_cnt {rd : List UInt8 → Option (Ty × List UInt8 × Bool)} (hr : LenOk rd) {e s : List UInt8} {l' : List Ty} {s' : List UInt8} {f : Bool} (h : rdArgs rd e s = some (l', s', f)) : l'.length ≤ s.length + 1 := by
  unfold rdArgs at h
  split at h
  · cases h; simp
  · have := rdList_cnt hr e _ _ _ _ _ _ h
    simp at this; omega
set_option maxHeartbeats 16000000 in
set_option maxRecDepth 100000 in
theorem typ_succ (left : Nat) (hle : left ≤ 1000) (hR : RdC left) : RdC (left + 1) := fun w r l hlen h hr2 hsn t l1 f hx => by
  obtain ⟨m, hm⟩ : ∃ m, m = left + 1 := ⟨_, rfl⟩
  rw [show ((left + 1 : Nat) : Int) = (m : Int) by rw [hm]]
  have hrw := h.lt
  have hs : Rs w r l false := h
  have e0 : ((m : Int) == 0) = false := beq_eq_false_iff_ne.2 (by omega)
  have HM := Lib.hid hm
  have hwr : IntKind.i64.wrap ((m : Int) - 1) = (left : Int) := by rw [IntWalk.i64_in _ (by omega)]; omega
  have HRD := Lib.hid hR
  have HR2 := Lib.hid hr2
  have HSN := Lib.hid hsn
  clear hr2 hsn
  have HX := Lib.hid hx
  clear h hm hR hx
  have hb := Below.refl w.heap.size w
  go_enter Tryd.func63, Tryd.ntmps63
  go_upto_region 0 with (fail)
  apply wp_region_lit
  have lthsz := heap_lt hs; (with_reducible refine wl_all ?_); intro W0 z hbn hlz hz; replace hs := below_look hbn hs; replace hb := hb.trans (hbn.mono hb.size); clear hbn; simp only [put_lit, List.set_cons_zero, List.set_cons_succ]
  go_upto_region 1 with (fail)
  apply wp_region_lit
  (with_reducible refine wl_k ?_ ?_); exact rfl; intro K hK; go_simp; refine hK _ ?_; clear hK K
  (with_reducible refine wl_k ?_ ?_); exact rfl; intro K hK; go_simp; refine hK _ ?_; clear hK K
  go_upto_region 3 with (fail)
  apply wp_region_lit
  (with_reducible refine wl_k ?_ ?_); exact rfl; intro K hK; go_simp; refine hK _ ?_; clear hK K
  (with_reducible refine wl_k ?_ ?_); exact rfl; intro K hK; go_simp; refine hK _ ?_; clear hK K
  (with_reducible refine wl_k ?_ ?_); exact rfl; intro K hK; go_simp; refine hK _ ?_; clear hK K
  ((with_reducible apply wl_oneG); exact rfl; exact rfl; exact r1 hs)
  clear e0
  go_upto_region 5 with (fail)
  apply wp_region_lit
  have lthsz5 := heap_lt hs; have lthzz5 := heap_lt hz; (with_reducible refine wl_all ?_); intro W1 z5 hbn hlz5 hz5; replace hs := below_look hbn hs; replace hz := below_look hbn hz; replace hb := hb.trans (hbn.mono hb.size); clear hbn; simp only [put_lit, List.set_cons_zero, List.set_cons_succ]
  have hzz := heap_lt hz
  have hzw : w.heap.size ≤ z ∧ w.heap.size ≤ z5 ∧ z < z5 := by omega
  obtain ⟨hzw1, hzw2, hzw3⟩ := hzw
  have HF := Lib.hid (Fr.of (g1 := r) (g2 := r) hb)
  clear hzz hlz hlz5
  have hsW : W1.heap.size = W1.heap.size := rfl
  have hzlt := heap_lt hz5
  clear hsW hb
  go_upto_block 0 with (fail)
  go_cut [] (fun wx => ∃ (u : Ty) (s2 : List UInt8) (g : Bool) (k : Int) (s : ByteArray) (n : Int) (A : Option Addr) (l' c' : Nat), Hid (rdAtom (rdTyp left) l = some (u, s2, g)) ∧ Hid (takeL [40] l = none ∧ takeL [97, 110, 121, 32] l = none) ∧ wx.heap[z]? = some (.cells (cell4 0 ⟨#[]⟩ 0 none 0 0) 24 (0, 0)) ∧ wx.heap[z5]? = some (.cells (cell4 k s n A l' c') 24 (0, 0)) ∧ Hid (TyAt wx (fun b => w.heap.size ≤ b ∧ b ≠ z ∧ b ≠ z5) u (cell4 k s n A l' c')) ∧ Rs wx r s2 g ∧ Hid (Fr r r w wx))
  case first =>
    cases ht1 : takeL [40] l with
    | some l2 =>
      have hl2 := take_len ht1
      have hx := HX.out
      simp only [rdTyp, ht1] at hx
      unfold rdFn at hx
      cases ha : rdArgs (rdTyp left) [41, 32, 45, 62, 32] l2 with
      | none => rw [ha] at hx; cases hx
      | some q =>
      obtain ⟨ts, s2, g⟩ := q
      have hal := rdArgs_len (rdTyp_len left) ha
      have HX2 : Hid (∃ u, t = .node 10 ⟨#[]⟩ 0 (ts ++ [u]) ∧ ∀ w', Rs w' r s2 g → Sent w' → Calls Tryd.prog 63 #[.pointer (some ⟨r, 0, none⟩), .int .i64 (left : Int)] w' (RPost r u l1 f w')) := Lib.hid (by
        rw [ha] at hx
        cases g with
        | true =>
          simp only [Option.some.injEq, Prod.mk.injEq] at hx
          obtain ⟨rfl, rfl, rfl⟩ := hx
          exact ⟨zeroTy, rfl, fun w' h _ => typ_fail left w' r s2 h⟩
        | false =>
          simp only at hx
          cases hr : rdTyp left s2 with
          | none => rw [hr] at hx; cases hx
          | some q =>
          obtain ⟨u, s3, f3⟩ := q
          rw [hr] at hx
          simp only [Option.some.injEq, Prod.mk.injEq] at hx
          obtain ⟨rfl, rfl, rfl⟩ := hx
          exact ⟨u, rfl, fun w' h hn => HRD.out w' r s2 (by simp at hl2; omega) h HR2.out hn u s3 f3 hr⟩)
      have HLS := Lib.hid fun w' h hn => list_rd left hle HRD.out ⟨#[41, 32, 45, 62, 32]⟩ r l2 (by simp at hl2; omega) w' h HR2.out hn ts s2 g ha
      have HLN : Hid (ts.length ≤ 1000000) := Lib.hid (by have := rdArgs_cnt (rdTyp_len left) ha; simp at hl2; omega)
      clear hx ha hal HX
      have HTK := Lib.hid (take_some r ⟨#[40]⟩ l l2 false W1 hs ht1)
      go_upto_region 19 with (fail)
      apply wp_region_lit
      (with_reducible refine wl_k ?_ ?_); exact rfl; intro K hK; go_simp; refine hK _ ?_; clear hK K
      (with_reducible refine wl_ck ?_ ?_); exact rfl; intro K hK; go_simp; refine ⟨_, _, ⟨rfl, rfl⟩, hK _ _ ⟨_, HTK.out, ?_⟩⟩; clear hK K; rintro e w19 ⟨rfl, hs2, hfr⟩; refine ⟨_, rfl, ?_⟩; simp only [put_lit, List.set_cons_zero, List.set_cons_succ]
      (with_reducible refine wl_k ?_ ?_); exact rfl; intro K hK; go_simp; refine hK _ ?_; clear hK K
      clear HTK hs
      have hs := hs2
      clear hs2
      have hz' := (hfr.keep z (heap_lt hz) (by omega) (by omega)).trans hz
      have hz5' := (hfr.keep z5 (heap_lt hz5) (by omega) (by omega)).trans hz5
      clear hz hz5
      have hz := hz'
      have hz5 := hz5'
      replace HF := Lib.hid (HF.out.trans hfr)
      clear hz' hz5' hfr
      clear ht1
      go_upto_region 20 with (fail)
      apply wp_region_lit
      (with_reducible refine wl_k ?_ ?_); exact rfl; intro K hK; go_simp; refine hK _ ?_; clear hK K
      (with_reducible refine wl_putK rfl rfl hz5 ?_); rw [put_noneA]; intro W20 hbx hsz hkx hnx; replace hz := (hkx _ (by omega)).trans hz; clear hz5; have hz5 := hnx; clear hnx
      replace HF := Lib.hid (HF.out.put (by omega) hrw hbx hkx)
      replace hs := Rs.put hs (by omega) hkx
      clear hbx hkx hsz
      have HL := Lib.hid (HLS.out W20 hs (HSN.out.fr HF.out HR2.out))
      have hB20 := heap_lt hz5
      clear HLS
      go_upto_region 21 with (fail)
      apply wp_region_lit
      (with_reducible refine wl_k ?_ ?_); exact rfl; intro K hK; go_simp; refine hK _ ?_; clear hK K
      (with_reducible refine wl_k ?_ ?_); exact rfl; intro K hK; go_simp; refine hK _ ?_; clear hK K
      (with_reducible refine wl_k ?_ ?_); exact rfl; intro K hK; go_simp; refine hK _ ?_; clear hK K
      (with_reducible refine wl_ck ?_ ?_); exact rfl; intro K hK; go_simp; refine ⟨_, _, ⟨rfl, rfl⟩, hK _ _ ⟨_, HL.out, ?_⟩⟩; clear hK K; rintro e w21 ⟨A7, n7, c7, rfl, hown, hs2, hfr⟩; refine ⟨_, rfl, ?_⟩; simp only [put_lit, List.set_cons_zero, List.set_cons_succ]
      clear hs
      have hs := hs2
      have HO := Lib.hid hown
      have hwr21 := hfr.size
      clear hs2 hown
      have hz' := (hfr.keep z (heap_lt hz) (by omega) (by omega)).trans hz
      have hz5' := (hfr.keep z5 (heap_lt hz5) (by omega) (by omega)).trans hz5
      clear hz hz5
      have hz := hz'
      have hz5 := hz5'
      replace HF := Lib.hid (HF.out.trans hfr)
      clear hz' hz5' hfr
      (with_reducible refine wl_k ?_ ?_); exact rfl; intro K hK; go_simp; refine hK _ ?_; clear hK K
      (with_reducible refine wl_put3 rfl rfl hz5 ?_); rw [put_noneA]; intro W21 hbx hsz hkx hnx; replace hz := (hkx _ (by omega)).trans hz; clear hz5; have hz5 := hnx; clear hnx
      replace HO := Lib.hid (HO.out.same fun q hq _ => hkx q (by omega))
      have hsz21 := hsz
      replace HF := Lib.hid (HF.out.put (by omega) hrw hbx hkx)
      replace hs := Rs.put hs (by omega) hkx
      clear hbx hkx hsz
      clear HL
      obtain ⟨u, hu, hT⟩ := HX2.out
      have HU := Lib.hid hu
      have HT := Lib.hid (hT W21 hs (HSN.out.fr HF.out HR2.out))
      clear hu hT HX2 hs
      go_upto_region 22 with (fail)
      apply wp_region_lit
      (with_reducible refine wl_k ?_ ?_); exact rfl; intro K hK; go_simp; refine hK _ ?_; clear hK K
      (with_reducible refine wl_k ?_ ?_); exact rfl; intro K hK; go_simp; refine hK _ ?_; clear hK K
      (with_reducible refine wl_k ?_ ?_); exact rfl; intro K hK; go_simp; refine hK _ ?_; clear hK K
      (with_reducible refine wl_ck ?_ ?_); exact rfl; intro K hK; go_simp; refine ⟨_, _, ⟨rfl, rfl⟩, hK _ _ ⟨_, HT.out, ?_⟩⟩; clear hK K; rintro e w22 ⟨row8, rfl, hta8, hs, hfr⟩; refine ⟨_, rfl, ?_⟩; simp only [put_lit, List.set_cons_zero, List.set_cons_succ]
      obtain ⟨k8, s8, n8, A8, l8, c8, ts8, hu8, rfl, -⟩ := hta8.parts
      have HA := Lib.hid (HO.out.apart (by omega) hta8)
      replace HO := Lib.hid (HO.out.fr (by omega) hfr)
      have hsz22 := hfr.size
      have hz' := (hfr.keep z (heap_lt hz) (by omega) (by omega)).trans hz
      have hz5' := (hfr.keep z5 (heap_lt hz5) (by omega) (by omega)).trans hz5
      clear hz hz5
      have hz := hz'
      have hz5 := hz5'
      replace HF := Lib.hid (HF.out.trans hfr)
      clear hz' hz5' hfr
      have hy := Below.refl w22.heap.size w22
      clear hta8 hu8 HT
      have lthzq := heap_lt hz; have lthz5q := heap_lt hz5; (with_reducible refine wl_all ?_); intro X1 q hbn hlq hq; replace hz := below_look hbn hz; replace hz5 := below_look hbn hz5; replace hy := hy.trans (hbn.mono hy.size); clear hbn; simp only [put_lit, List.set_cons_zero, List.set_cons_succ]
      (with_reducible refine wl_put rfl rfl hq ?_); rw [put_noneA]; intro X2 hbx hsz hkx hnx; replace hz := (hkx _ (by omega)).trans hz; replace hz5 := (hkx _ (by omega)).trans hz5; replace hy := hbx _ _ (by omega) hy; clear hq; have hq := hnx; clear hnx
      clear hbx hkx hsz
      have hrq : r < w22.heap.size := by omega
      have hzq : z5 < w22.heap.size := by omega
      go_upto_region 23 with (fail)
      apply wp_region_lit
      (with_reducible refine wl_k ?_ ?_); exact rfl; intro K hK; go_simp; refine hK _ ?_; clear hK K
      (first | ((with_reducible apply wl_oneG); exact rfl; exact rfl; first | exact f0 (by with_reducible assumption) | exact f1 (by with_reducible assumption) | exact f2 (by with_reducible assumption) | exact f3 (by with_reducible assumption) | with_reducible assumption | exact g22 (by with_reducible assumption) | exact g25 (by with_reducible assumption)) | ((with_reducible apply wl_rowG); exact rfl; exact rfl; first | with_reducible assumption | exact RowK.now (by with_reducible assumption) | exact f4 (by with_reducible assumption)))
      (first | ((with_reducible apply wl_oneG); exact rfl; exact rfl; first | exact f0 (by with_reducible assumption) | exact f1 (by with_reducible assumption) | exact f2 (by with_reducible assumption) | exact f3 (by with_reducible assumption) | with_reducible assumption | exact g22 (by with_reducible assumption) | exact g25 (by with_reducible assumption)) | ((with_reducible apply wl_rowG); exact rfl; exact rfl; first | with_reducible assumption | exact RowK.now (by with_reducible assumption) | exact f4 (by with_reducible assumption)))
      have lthzq3 := heap_lt hz; have lthz5q3 := heap_lt hz5; (with_reducible refine wl_bs rfl ?_); intro X5 q3 hbn hlq3 hq3; replace hz := below_look hbn hz; replace hz5 := below_look hbn hz5; replace hy := hy.trans (hbn.mono hy.size); clear hbn; simp only [put_lit, List.set_cons_zero, List.set_cons_succ]
      refine wl_push rfl _ _ rfl rfl rfl (HO.out.old hy) (HA.out.old hy) hq3 HLN.out (by have := hy.size; omega) ?_
      intro A9 l9 c9 w9 hown hk9 hbl
      have HLT := Lib.hid ((HO.out.old hy).lt)
      have hys := hy.size
      have hz9 := (hk9 z (heap_lt hz) (fun e => by have := (HLT.out z e).1; omega)).trans hz
      have hz59 := (hk9 z5 (heap_lt hz5) (fun e => by have := (HLT.out z5 e).1; omega)).trans hz5
      have HF9 : Hid (Fr r r w w9) := Lib.hid ⟨fun b hb h1 h2 => by
        have hb7 : b < w22.heap.size := by omega
        rw [hk9 b (by omega) (fun e => by have := (HLT.out b e).1; omega), hy.block b hb7, HF.out.keep b hb h1 h2], fun B' w0 h1 h2 h3 h4 => hbl B' w0 (fun b e => by have := (HLT.out b e).1; omega) (by omega) ((HF.out.bel B' w0 h1 h2 h3 h4).trans (hy.mono (by omega)))⟩
      have hs9 : Rs w9 r l1 f := by
        have := hs.old hy
        unfold Rs at this ⊢
        rw [hk9 r (by omega) (fun e => by have := (HLT.out r e).1; omega)]; exact this
      have HO9 := Lib.hid hown
      clear hown hk9 hbl HLT hq3 hq hz hz5 hs HF HO HA
      have hz := hz9
      have hz5 := hz59
      have hs := hs9
      have HF := HF9
      clear hz9 hz59 hs9 HF9
      (with_reducible refine wl_k ?_ ?_); exact rfl; intro K hK; go_simp; refine hK _ ?_; clear hK K
      (with_reducible refine wl_put3 rfl rfl hz5 ?_); rw [put_noneA]; intro W23 hbx hsz hkx hnx; replace hz := (hkx _ (by omega)).trans hz; clear hz5; have hz5 := hnx; clear hnx
      replace HO9 := Lib.hid (HO9.out.same fun q hq _ => hkx q (by omega))
      replace HF := Lib.hid (HF.out.put (by omega) hrw hbx hkx)
      replace hs := Rs.put hs (by omega) hkx
      clear hbx hkx hsz
      go_upto_region 24 with (fail)
      apply wp_region_lit
      (first | ((with_reducible apply wl_oneG); exact rfl; exact rfl; first | exact f0 (by with_reducible assumption) | exact f1 (by with_reducible assumption) | exact f2 (by with_reducible assumption) | exact f3 (by with_reducible assumption) | with_reducible assumption | exact g22 (by with_reducible assumption) | exact g25 (by with_reducible assumption)) | ((with_reducible apply wl_rowG); exact rfl; exact rfl; first | with_reducible assumption | exact RowK.now (by with_reducible assumption) | exact f4 (by with_reducible assumption)))
      (with_reducible refine wl_put rfl rfl hz ?_); rw [put_noneA]; intro W24 hbx hsz hkx hnx; replace hz5 := (hkx _ (by omega)).trans hz5; clear hz; have hz := hnx; clear hnx
      replace HO9 := Lib.hid (HO9.out.same fun q hq _ => hkx q (by omega))
      replace HF := Lib.hid (HF.out.put (by omega) hrw hbx hkx)
      replace hs := Rs.put hs (by omega) hkx
      clear hbx hkx hsz
      obtain ⟨A10, l10, c10, he, h9⟩ := HO9.out.at
      cases he
      have H9 := Lib.hid h9
      clear h9
      have HQ := Lib.hid hz
      have HS := Lib.hid hs
      clear hz hz5 hs
      go_wp2_with fail
      exact bodyPost_ret (res24 rfl _ _ z rfl HQ.out) rfl ⟨_, rfl, by rw [HU.out]; exact TyAt.of (by rfl) (by rfl) (Nat.zero_le _) (H9.out.mono (fun b (hb : _ ≤ b) => (by omega : w.heap.size ≤ b)) fun _ _ => rfl), HS.out, HF.out⟩
    | none =>
    cases ht2 : takeL [97, 110, 121, 32] l with
    | some l2 =>
      have hl2 := take_len ht2
      have HX2 : Hid (t = .node 9 (strOf (l2.takeWhile isW)) 0 [] ∧ l1 = l2.dropWhile isW ∧ f = false) := Lib.hid (by
        have hx := HX.out
        simp only [rdTyp, ht1, ht2, Option.some.injEq, Prod.mk.injEq] at hx
        exact ⟨hx.1.symm, hx.2.1.symm, hx.2.2.symm⟩)
      have HSZ : Hid ((strOf (l2.takeWhile isW)).size ≤ maxLen) := Lib.hid (by rw [strOf_size]; have := (List.takeWhile_sublist isW (l := l2)).length_le; unfold maxLen; simp at hl2; omega)
      have HWW := Lib.hid fun w' h => word_any r l2 false (by simp at hl2; omega) w' h
      clear HX
      have HTK19 := Lib.hid (take_none r ⟨#[40]⟩ l false W1 hs ht1)
      go_upto_region 19 with (fail)
      apply wp_region_lit
      (with_reducible refine wl_k ?_ ?_); exact rfl; intro K hK; go_simp; refine hK _ ?_; clear hK K
      (with_reducible refine wl_ck ?_ ?_); exact rfl; intro K hK; go_simp; refine ⟨_, _, ⟨rfl, rfl⟩, hK _ _ ⟨_, HTK19.out, ?_⟩⟩; clear hK K; rintro e w19 ⟨rfl, rfl⟩; refine ⟨_, rfl, ?_⟩; simp only [put_lit, List.set_cons_zero, List.set_cons_succ]
      (with_reducible refine wl_k ?_ ?_); exact rfl; intro K hK; go_simp; refine hK _ ?_; clear hK K
      clear HTK19
      have HTK := Lib.hid (take_some r ⟨#[97, 110, 121, 32]⟩ l l2 false W1 hs ht2)
      go_upto_region 25 with (fail)
      apply wp_region_lit
      (with_reducible refine wl_k ?_ ?_); exact rfl; intro K hK; go_simp; refine hK _ ?_; clear hK K
      (with_reducible refine wl_ck ?_ ?_); exact rfl; intro K hK; go_simp; refine ⟨_, _, ⟨rfl, rfl⟩, hK _ _ ⟨_, HTK.out, ?_⟩⟩; clear hK K; rintro e w25 ⟨rfl, hs2, hfr⟩; refine ⟨_, rfl, ?_⟩; simp only [put_lit, List.set_cons_zero, List.set_cons_succ]
      (with_reducible refine wl_k ?_ ?_); exact rfl; intro K hK; go_simp; refine hK _ ?_; clear hK K
      clear HTK hs
      have hs := hs2
      clear hs2
      have hz' := (hfr.keep z (heap_lt hz) (by omega) (by omega)).trans hz
      have hz5' := (hfr.keep z5 (heap_lt hz5) (by omega) (by omega)).trans hz5
      clear hz hz5
      have hz := hz'
      have hz5 := hz5'
      replace HF := Lib.hid (HF.out.trans hfr)
      clear hz' hz5' hfr
      clear ht1 ht2 hl2
      obtain ⟨tw, htw⟩ : ∃ tw, tw = strOf (l2.takeWhile isW) := ⟨_, rfl⟩
      rw [← htw] at HX2 HSZ HWW
      have HWD := Lib.hid (HWW.out _ hs)
      clear HWW htw
      go_upto_region 26 with (fail)
      apply wp_region_lit
      (with_reducible refine wl_k ?_ ?_); exact rfl; intro K hK; go_simp; refine hK _ ?_; clear hK K
      (with_reducible refine wl_ck ?_ ?_); exact rfl; intro K hK; go_simp; refine ⟨_, _, ⟨rfl, rfl⟩, hK _ _ ⟨_, HWD.out, ?_⟩⟩; clear hK K; rintro e wW ⟨rfl, hs2, hfr⟩; refine ⟨_, rfl, ?_⟩; simp only [put_lit, List.set_cons_zero, List.set_cons_succ]
      clear hs
      have hs := hs2
      clear hs2
      have hz' := (hfr.keep z (heap_lt hz) (by omega) (by omega)).trans hz
      have hz5' := (hfr.keep z5 (heap_lt hz5) (by omega) (by omega)).trans hz5
      clear hz hz5
      have hz := hz'
      have hz5 := hz5'
      replace HF := Lib.hid (HF.out.trans hfr)
      clear hz' hz5' hfr
      clear HWD
      refine wl_val rfl (ex_build 24 _ rfl (L := [(0, .int .i64 9), (1, .string tw)]) rfl (built24x 9 tw)) ?_
      simp only [put_lit, List.set_cons_zero, List.set_cons_succ]
      (with_reducible refine wl_put rfl rfl hz ?_); rw [put_noneA]; intro W26 hbx hsz hkx hnx; replace hz5 := (hkx _ (by omega)).trans hz5; clear hz; have hz := hnx; clear hnx
      replace HF := Lib.hid (HF.out.put (by omega) hrw hbx hkx)
      replace hs := Rs.put hs (by omega) hkx
      clear hbx hkx hsz
      have HQ := Lib.hid hz
      have HS := Lib.hid hs
      clear hz hz5 hs
      go_wp2_with fail
      obtain ⟨hx1, hx2, hx3⟩ := HX2.out
      exact bodyPost_ret (res24 rfl _ _ z rfl HQ.out) rfl ⟨_, rfl, by rw [hx1]; exact TyAt.of (by rfl) (by rfl) HSZ.out (TysAt.nil _ _), by rw [hx2, hx3]; exact HS.out, HF.out⟩
    | none =>
    have HNO : Hid (takeL [40] l = none ∧ takeL [97, 110, 121, 32] l = none) := Lib.hid ⟨ht1, ht2⟩
    cases ht3 : takeL [36] l with
    | some l2 =>
      have hl2 := take_len ht3
      have HRA : Hid (rdAtom (rdTyp left) l = some (.node 7 (strOf (l2.takeWhile isW)) 0 [], l2.dropWhile isW, false)) := Lib.hid (by unfold rdAtom; rw [ht3])
      have HSZ : Hid ((strOf (l2.takeWhile isW)).size ≤ maxLen) := Lib.hid (by rw [strOf_size]; have := (List.takeWhile_sublist isW (l := l2)).length_le; unfold maxLen; simp at hl2; omega)
      have HWW := Lib.hid fun w' h => word_any r l2 false (by simp at hl2; omega) w' h
      clear HX
      have HTK19 := Lib.hid (take_none r ⟨#[40]⟩ l false W1 hs ht1)
      go_upto_region 19 with (fail)
      apply wp_region_lit
      (with_reducible refine wl_k ?_ ?_); exact rfl; intro K hK; go_simp; refine hK _ ?_; clear hK K
      (with_reducible refine wl_ck ?_ ?_); exact rfl; intro K hK; go_simp; refine ⟨_, _, ⟨rfl, rfl⟩, hK _ _ ⟨_, HTK19.out, ?_⟩⟩; clear hK K; rintro e w19 ⟨rfl, rfl⟩; refine ⟨_, rfl, ?_⟩; simp only [put_lit, List.set_cons_zero, List.set_cons_succ]
      (with_reducible refine wl_k ?_ ?_); exact rfl; intro K hK; go_simp; refine hK _ ?_; clear hK K
      clear HTK19
      have HTK25 := Lib.hid (take_none r ⟨#[97, 110, 121, 32]⟩ l false W1 hs ht2)
      go_upto_region 25 with (fail)
      apply wp_region_lit
      (with_reducible refine wl_k ?_ ?_); exact rfl; intro K hK; go_simp; refine hK _ ?_; clear hK K
      (with_reducible refine wl_ck ?_ ?_); exact rfl; intro K hK; go_simp; refine ⟨_, _, ⟨rfl, rfl⟩, hK _ _ ⟨_, HTK25.out, ?_⟩⟩; clear hK K; rintro e w25 ⟨rfl, rfl⟩; refine ⟨_, rfl, ?_⟩; simp only [put_lit, List.set_cons_zero, List.set_cons_succ]
      (with_reducible refine wl_k ?_ ?_); exact rfl; intro K hK; go_simp; refine hK _ ?_; clear hK K
      clear HTK25
      have HTK := Lib.hid (take_some r ⟨#[36]⟩ l l2 false W1 hs ht3)
      go_upto_region 27 with (fail)
      apply wp_region_lit
      (with_reducible refine wl_k ?_ ?_); exact rfl; intro K hK; go_simp; refine hK _ ?_; clear hK K
      (with_reducible refine wl_ck ?_ ?_); exact rfl; intro K hK; go_simp; refine ⟨_, _, ⟨rfl, rfl⟩, hK _ _ ⟨_, HTK.out, ?_⟩⟩; clear hK K; rintro e w27 ⟨rfl, hs2, hfr⟩; refine ⟨_, rfl, ?_⟩; simp only [put_lit, List.set_cons_zero, List.set_cons_succ]
      (with_reducible refine wl_k ?_ ?_); exact rfl; intro K hK; go_simp; refine hK _ ?_; clear hK K
      clear HTK hs
      have hs := hs2
      clear hs2
      have hz' := (hfr.keep z (heap_lt hz) (by omega) (by omega)).trans hz
      have hz5' := (hfr.keep z5 (heap_lt hz5) (by omega) (by omega)).trans hz5
      clear hz hz5
      have hz := hz'
      have hz5 := hz5'
      replace HF := Lib.hid (HF.out.trans hfr)
      clear hz' hz5' hfr
      clear ht1 ht2 ht3 hl2
      obtain ⟨tw, htw⟩ : ∃ tw, tw = strOf (l2.takeWhile isW) := ⟨_, rfl⟩
      rw [← htw] at HRA HSZ HWW
      have HWD := Lib.hid (HWW.out _ hs)
      clear HWW htw
      go_upto_region 28 with (fail)
      apply wp_region_lit
      (with_reducible refine wl_k ?_ ?_); exact rfl; intro K hK; go_simp; refine hK _ ?_; clear hK K
      (with_reducible refine wl_ck ?_ ?_); exact rfl; intro K hK; go_simp; refine ⟨_, _, ⟨rfl, rfl⟩, hK _ _ ⟨_, HWD.out, ?_⟩⟩; clear hK K; rintro e wW ⟨rfl, hs2, hfr⟩; refine ⟨_, rfl, ?_⟩; simp only [put_lit, List.set_cons_zero, List.set_cons_succ]
      clear hs
      have hs := hs2
      clear hs2
      have hz' := (hfr.keep z (heap_lt hz) (by omega) (by omega)).trans hz
      have hz5' := (hfr.keep z5 (heap_lt hz5) (by omega) (by omega)).trans hz5
      clear hz hz5
      have hz := hz'
      have hz5 := hz5'
      replace HF := Lib.hid (HF.out.trans hfr)
      clear hz' hz5' hfr
      clear HWD
      refine wl_val rfl (ex_build 24 _ rfl (L := [(0, .int .i64 7), (1, .string tw)]) rfl (built24x 7 tw)) ?_
      simp only [put_lit, List.set_cons_zero, List.set_cons_succ]
      (with_reducible refine wl_put rfl rfl hz5 ?_); rw [put_noneA]; intro W28 hbx hsz hkx hnx; replace hz := (hkx _ (by omega)).trans hz; clear hz5; have hz5 := hnx; clear hnx
      replace HF := Lib.hid (HF.out.put (by omega) hrw hbx hkx)
      replace hs := Rs.put hs (by omega) hkx
      clear hbx hkx hsz
      have HTY : Hid (TyAt W28 (fun b => w.heap.size ≤ b ∧ b ≠ z ∧ b ≠ z5) (.node 7 tw 0 []) (cell4 7 tw 0 none 0 0)) := Lib.hid (TyAt.of (by rfl) (by rfl) HSZ.out (TysAt.nil _ _))
      go_wp2_with fail
      go_meet
      exact ⟨_, _, _, _, _, _, _, _, _, HRA, HNO, hz, hz5, HTY, hs, HF⟩
    | none =>
    cases ht4 : takeL [63] l with
    | some l2 =>
      have hl2 := take_len ht4
      obtain ⟨v, hv⟩ : ∃ v, v = (atoiP (l2.takeWhile isW)).1 := ⟨_, rfl⟩
      have HRA : Hid (rdAtom (rdTyp left) l = some (.node 12 ⟨#[]⟩ v [], l2.dropWhile isW, (atoiP (l2.takeWhile isW)).2)) := Lib.hid (by unfold rdAtom; rw [ht3, hv]; simp only [ht4])
      have HWF : Hid ((Lit.int .i64 v).wf = true) := Lib.hid (by rw [hv]; exact atoiP_wf _)
      have HAT := Lib.hid fun w' hs => Atoi_any (l2.takeWhile isW) (by have := (List.takeWhile_sublist isW (l := l2)).length_le; simp at hl2; omega) w' hs
      rw [← hv] at HAT
      have HWW := Lib.hid fun w' h => word_any r l2 false (by simp at hl2; omega) w' h
      clear HX hv
      cases hag : (atoiP (l2.takeWhile isW)).2 with
      | false =>
        rw [hag] at HRA
        have HAU : Hid (∀ w', Sent w' → Calls Tryd.prog 89 #[.string (strOf (l2.takeWhile isW))] w' fun e w2 => e = .returned (.tuple #[.int .i64 v, .nilIface]) ∧ Below w'.heap.size w' w2) := Lib.hid fun w' hs => (HAT.out w' hs).mono fun e w2 ⟨ev, h1, h2, h3, h4⟩ => (by rw [h2 hag] at h1; exact ⟨h1, h4⟩)
        clear hag HAT
        have HTK19 := Lib.hid (take_none r ⟨#[40]⟩ l false W1 hs ht1)
        go_upto_region 19 with (fail)
        apply wp_region_lit
        (with_reducible refine wl_k ?_ ?_); exact rfl; intro K hK; go_simp; refine hK _ ?_; clear hK K
        (with_reducible refine wl_ck ?_ ?_); exact rfl; intro K hK; go_simp; refine ⟨_, _, ⟨rfl, rfl⟩, hK _ _ ⟨_, HTK19.out, ?_⟩⟩; clear hK K; rintro e w19 ⟨rfl, rfl⟩; refine ⟨_, rfl, ?_⟩; simp only [put_lit, List.set_cons_zero, List.set_cons_succ]
        (with_reducible refine wl_k ?_ ?_); exact rfl; intro K hK; go_simp; refine hK _ ?_; clear hK K
        clear HTK19
        have HTK25 := Lib.hid (take_none r ⟨#[97, 110, 121, 32]⟩ l false W1 hs ht2)
        go_upto_region 25 with (fail)
        apply wp_region_lit
        (with_reducible refine wl_k ?_ ?_); exact rfl; intro K hK; go_simp; refine hK _ ?_; clear hK K
        (with_reducible refine wl_ck ?_ ?_); exact rfl; intro K hK; go_simp; refine ⟨_, _, ⟨rfl, rfl⟩, hK _ _ ⟨_, HTK25.out, ?_⟩⟩; clear hK K; rintro e w25 ⟨rfl, rfl⟩; refine ⟨_, rfl, ?_⟩; simp only [put_lit, List.set_cons_zero, List.set_cons_succ]
        (with_reducible refine wl_k ?_ ?_); exact rfl; intro K hK; go_simp; refine hK _ ?_; clear hK K
        clear HTK25
        have HTK27 := Lib.hid (take_none r ⟨#[36]⟩ l false W1 hs ht3)
        go_upto_region 27 with (fail)
        apply wp_region_lit
        (with_reducible refine wl_k ?_ ?_); exact rfl; intro K hK; go_simp; refine hK _ ?_; clear hK K
        (with_reducible refine wl_ck ?_ ?_); exact rfl; intro K hK; go_simp; refine ⟨_, _, ⟨rfl, rfl⟩, hK _ _ ⟨_, HTK27.out, ?_⟩⟩; clear hK K; rintro e w27 ⟨rfl, rfl⟩; refine ⟨_, rfl, ?_⟩; simp only [put_lit, List.set_cons_zero, List.set_cons_succ]
        (with_reducible refine wl_k ?_ ?_); exact rfl; intro K hK; go_simp; refine hK _ ?_; clear hK K
        clear HTK27
        have HTK := Lib.hid (take_some r ⟨#[63]⟩ l l2 false W1 hs ht4)
        go_upto_region 29 with (fail)
        apply wp_region_lit
        (with_reducible refine wl_k ?_ ?_); exact rfl; intro K hK; go_simp; refine hK _ ?_; clear hK K
        (with_reducible refine wl_ck ?_ ?_); exact rfl; intro K hK; go_simp; refine ⟨_, _, ⟨rfl, rfl⟩, hK _ _ ⟨_, HTK.out, ?_⟩⟩; clear hK K; rintro e w29 ⟨rfl, hs2, hfr⟩; refine ⟨_, rfl, ?_⟩; simp only [put_lit, List.set_cons_zero, List.set_cons_succ]
        (with_reducible refine wl_k ?_ ?_); exact rfl; intro K hK; go_simp; refine hK _ ?_; clear hK K
        clear HTK hs
        have hs := hs2
        clear hs2
        have hz' := (hfr.keep z (heap_lt hz) (by omega) (by omega)).trans hz
        have hz5' := (hfr.keep z5 (heap_lt hz5) (by omega) (by omega)).trans hz5
        clear hz hz5
        have hz := hz'
        have hz5 := hz5'
        replace HF := Lib.hid (HF.out.trans hfr)
        clear hz' hz5' hfr
        clear ht1 ht2 ht3 ht4 hl2
        have HWD := Lib.hid (HWW.out _ hs)
        clear HWW
        go_upto_region 30 with (fail)
        apply wp_region_lit
        (with_reducible refine wl_k ?_ ?_); exact rfl; intro K hK; go_simp; refine hK _ ?_; clear hK K
        (with_reducible refine wl_ck ?_ ?_); exact rfl; intro K hK; go_simp; refine ⟨_, _, ⟨rfl, rfl⟩, hK _ _ ⟨_, HWD.out, ?_⟩⟩; clear hK K; rintro e wW ⟨rfl, hs2, hfr⟩; refine ⟨_, rfl, ?_⟩; simp only [put_lit, List.set_cons_zero, List.set_cons_succ]
        clear hs
        have hs := hs2
        clear hs2
        have hz' := (hfr.keep z (heap_lt hz) (by omega) (by omega)).trans hz
        have hz5' := (hfr.keep z5 (heap_lt hz5) (by omega) (by omega)).trans hz5
        clear hz hz5
        have hz := hz'
        have hz5 := hz5'
        replace HF := Lib.hid (HF.out.trans hfr)
        clear hz' hz5' hfr
        clear HWD
        have HAQ := Lib.hid (HAU.out wW (HSN.out.fr HF.out HR2.out))
        (with_reducible refine wl_ck ?_ ?_); exact rfl; intro K hK; go_simp; refine ⟨_, _, ⟨rfl, rfl⟩, hK _ _ ⟨_, HAQ.out, ?_⟩⟩; clear hK K; rintro e wT ⟨rfl, hbt⟩; refine ⟨_, rfl, ?_⟩; simp only [put_lit, List.set_cons_zero, List.set_cons_succ]
        have hfr := Fr.of (g1 := r) (g2 := r) hbt
        replace hs := hs.old hbt
        have hz' := (hfr.keep z (heap_lt hz) (by omega) (by omega)).trans hz
        have hz5' := (hfr.keep z5 (heap_lt hz5) (by omega) (by omega)).trans hz5
        clear hz hz5
        have hz := hz'
        have hz5 := hz5'
        replace HF := Lib.hid (HF.out.trans hfr)
        clear hz' hz5' hfr
        clear hbt HAU HAQ
        (with_reducible refine wl_k ?_ ?_); exact rfl; intro K hK; go_simp; refine hK _ ?_; clear hK K
        (with_reducible refine wl_k ?_ ?_); exact rfl; intro K hK; go_simp; refine hK _ ?_; clear hK K
        (with_reducible refine wl_k ?_ ?_); exact rfl; intro K hK; go_simp; refine hK _ ?_; clear hK K
        (with_reducible refine wl_k ?_ ?_); exact rfl; intro K hK; go_simp; refine hK _ ?_; clear hK K
        (with_reducible refine wl_k ?_ ?_); exact rfl; intro K hK; go_simp; refine hK _ ?_; clear hK K
        go_upto_region 31 with (fail)
        apply wp_region_lit
        (with_reducible refine wl_k ?_ ?_); exact rfl; intro K hK; go_simp; refine hK _ ?_; clear hK K
        (with_reducible refine wl_k ?_ ?_); exact rfl; intro K hK; go_simp; refine hK _ ?_; clear hK K
        (with_reducible refine wl_k ?_ ?_); exact rfl; intro K hK; go_simp; refine hK _ ?_; clear hK K
        (with_reducible refine wl_k ?_ ?_); exact rfl; intro K hK; go_simp; refine hK _ ?_; clear hK K
        ((with_reducible apply wl_oneG); exact rfl; exact rfl; exact r1 hs)
        (with_reducible refine wl_k ?_ ?_); exact rfl; intro K hK; go_simp; refine hK _ ?_; clear hK K
        (with_reducible refine wl_k ?_ ?_); exact rfl; intro K hK; go_simp; refine hK _ ?_; clear hK K
        (with_reducible refine wl_k ?_ ?_); exact rfl; intro K hK; go_simp; refine hK _ ?_; clear hK K
        (with_reducible refine wl_k ?_ ?_); exact rfl; intro K hK; go_simp; refine hK _ ?_; clear hK K
        (with_reducible refine wl_k ?_ ?_); exact rfl; intro K hK; go_simp; refine hK _ ?_; clear hK K
        (with_reducible refine wl_k ?_ ?_); exact rfl; intro K hK; go_simp; refine hK _ ?_; clear hK K
        refine wl_putR1 rfl rfl hs ?_
        intro WR hfr hs2
        clear hs
        have hs := hs2
        clear hs2
        have hz' := (hfr.keep z (heap_lt hz) (by omega) (by omega)).trans hz
        have hz5' := (hfr.keep z5 (heap_lt hz5) (by omega) (by omega)).trans hz5
        clear hz hz5
        have hz := hz'
        have hz5 := hz5'
        replace HF := Lib.hid (HF.out.trans hfr)
        clear hz' hz5' hfr
        go_upto_region 32 with (fail)
        apply wp_region_lit
        (with_reducible refine wl_k ?_ ?_); exact rfl; intro K hK; go_simp; refine hK _ ?_; clear hK K
        refine wl_val rfl (ex_build 24 _ rfl (L := [(0, .int .i64 12), (2, .int .i64 v)]) rfl (built24v v)) ?_
        simp only [put_lit, List.set_cons_zero, List.set_cons_succ]
        (with_reducible refine wl_put rfl rfl hz5 ?_); rw [put_noneA]; intro W32 hbx hsz hkx hnx; replace hz := (hkx _ (by omega)).trans hz; clear hz5; have hz5 := hnx; clear hnx
        replace HF := Lib.hid (HF.out.put (by omega) hrw hbx hkx)
        replace hs := Rs.put hs (by omega) hkx
        clear hbx hkx hsz
        have HTY : Hid (TyAt W32 (fun b => w.heap.size ≤ b ∧ b ≠ z ∧ b ≠ z5) (.node 12 ⟨#[]⟩ v []) (cell4 12 ⟨#[]⟩ v none 0 0)) := Lib.hid (TyAt.of (by rfl) HWF.out (Nat.zero_le _) (TysAt.nil _ _))
        go_wp2_with fail
        go_meet
        exact ⟨_, _, _, _, _, _, _, _, _, HRA, HNO, hz, hz5, HTY, hs, HF⟩
      | true =>
        rw [hag] at HRA
        have HAU : Hid (∀ w', Sent w' → Calls Tryd.prog 89 #[.string (strOf (l2.takeWhile isW))] w' fun e w2 => ∃ N, e = .returned (.tuple #[.int .i64 v, .iface 143 (.pointer (some ⟨N, 0, none⟩))]) ∧ Below w'.heap.size w' w2) := Lib.hid fun w' hs => (HAT.out w' hs).mono fun e w2 ⟨ev, h1, h2, h3, h4⟩ => (by obtain ⟨N, rfl⟩ := h3 hag; exact ⟨N, h1, h4⟩)
        clear hag HAT
        have HTK19 := Lib.hid (take_none r ⟨#[40]⟩ l false W1 hs ht1)
        go_upto_region 19 with (fail)
        apply wp_region_lit
        (with_reducible refine wl_k ?_ ?_); exact rfl; intro K hK; go_simp; refine hK _ ?_; clear hK K
        (with_reducible refine wl_ck ?_ ?_); exact rfl; intro K hK; go_simp; refine ⟨_, _, ⟨rfl, rfl⟩, hK _ _ ⟨_, HTK19.out, ?_⟩⟩; clear hK K; rintro e w19 ⟨rfl, rfl⟩; refine ⟨_, rfl, ?_⟩; simp only [put_lit, List.set_cons_zero, List.set_cons_succ]
        (with_reducible refine wl_k ?_ ?_); exact rfl; intro K hK; go_simp; refine hK _ ?_; clear hK K
        clear HTK19
        have HTK25 := Lib.hid (take_none r ⟨#[97, 110, 121, 32]⟩ l false W1 hs ht2)
        go_upto_region 25 with (fail)
        apply wp_region_lit
        (with_reducible refine wl_k ?_ ?_); exact rfl; intro K hK; go_simp; refine hK _ ?_; clear hK K
        (with_reducible refine wl_ck ?_ ?_); exact rfl; intro K hK; go_simp; refine ⟨_, _, ⟨rfl, rfl⟩, hK _ _ ⟨_, HTK25.out, ?_⟩⟩; clear hK K; rintro e w25 ⟨rfl, rfl⟩; refine ⟨_, rfl, ?_⟩; simp only [put_lit, List.set_cons_zero, List.set_cons_succ]
        (with_reducible refine wl_k ?_ ?_); exact rfl; intro K hK; go_simp; refine hK _ ?_; clear hK K
        clear HTK25
        have HTK27 := Lib.hid (take_none r ⟨#[36]⟩ l false W1 hs ht3)
        go_upto_region 27 with (fail)
        apply wp_region_lit
        (with_reducible refine wl_k ?_ ?_); exact rfl; intro K hK; go_simp; refine hK _ ?_; clear hK K
        (with_reducible refine wl_ck ?_ ?_); exact rfl; intro K hK; go_simp; refine ⟨_, _, ⟨rfl, rfl⟩, hK _ _ ⟨_, HTK27.out, ?_⟩⟩; clear hK K; rintro e w27 ⟨rfl, rfl⟩; refine ⟨_, rfl, ?_⟩; simp only [put_lit, List.set_cons_zero, List.set_cons_succ]
        (with_reducible refine wl_k ?_ ?_); exact rfl; intro K hK; go_simp; refine hK _ ?_; clear hK K
        clear HTK27
        have HTK := Lib.hid (take_some r ⟨#[63]⟩ l l2 false W1 hs ht4)
        go_upto_region 29 with (fail)
        apply wp_region_lit
        (with_reducible refine wl_k ?_ ?_); exact rfl; intro K hK; go_simp; refine hK _ ?_; clear hK K
        (with_reducible refine wl_ck ?_ ?_); exact rfl; intro K hK; go_simp; refine ⟨_, _, ⟨rfl, rfl⟩, hK _ _ ⟨_, HTK.out, ?_⟩⟩; clear hK K; rintro e w29 ⟨rfl, hs2, hfr⟩; refine ⟨_, rfl, ?_⟩; simp only [put_lit, List.set_cons_zero, List.set_cons_succ]
        (with_reducible refine wl_k ?_ ?_); exact rfl; intro K hK; go_simp; refine hK _ ?_; clear hK K
        clear HTK hs
        have hs := hs2
        clear hs2
        have hz' := (hfr.keep z (heap_lt hz) (by omega) (by omega)).trans hz
        have hz5' := (hfr.keep z5 (heap_lt hz5) (by omega) (by omega)).trans hz5
        clear hz hz5
        have hz := hz'
        have hz5 := hz5'
        replace HF := Lib.hid (HF.out.trans hfr)
        clear hz' hz5' hfr
        clear ht1 ht2 ht3 ht4 hl2
        have HWD := Lib.hid (HWW.out _ hs)
        clear HWW
        go_upto_region 30 with (fail)
        apply wp_region_lit
        (with_reducible refine wl_k ?_ ?_); exact rfl; intro K hK; go_simp; refine hK _ ?_; clear hK K
        (with_reducible refine wl_ck ?_ ?_); exact rfl; intro K hK; go_simp; refine ⟨_, _, ⟨rfl, rfl⟩, hK _ _ ⟨_, HWD.out, ?_⟩⟩; clear hK K; rintro e wW ⟨rfl, hs2, hfr⟩; refine ⟨_, rfl, ?_⟩; simp only [put_lit, List.set_cons_zero, List.set_cons_succ]
        clear hs
        have hs := hs2
        clear hs2
        have hz' := (hfr.keep z (heap_lt hz) (by omega) (by omega)).trans hz
        have hz5' := (hfr.keep z5 (heap_lt hz5) (by omega) (by omega)).trans hz5
        clear hz hz5
        have hz := hz'
        have hz5 := hz5'
        replace HF := Lib.hid (HF.out.trans hfr)
        clear hz' hz5' hfr
        clear HWD
        have HAQ := Lib.hid (HAU.out wW (HSN.out.fr HF.out HR2.out))
        (with_reducible refine wl_ck ?_ ?_); exact rfl; intro K hK; go_simp; refine ⟨_, _, ⟨rfl, rfl⟩, hK _ _ ⟨_, HAQ.out, ?_⟩⟩; clear hK K; rintro e wT ⟨N4, rfl, hbt⟩; refine ⟨_, rfl, ?_⟩; simp only [put_lit, List.set_cons_zero, List.set_cons_succ]
        have hfr := Fr.of (g1 := r) (g2 := r) hbt
        replace hs := hs.old hbt
        have hz' := (hfr.keep z (heap_lt hz) (by omega) (by omega)).trans hz
        have hz5' := (hfr.keep z5 (heap_lt hz5) (by omega) (by omega)).trans hz5
        clear hz hz5
        have hz := hz'
        have hz5 := hz5'
        replace HF := Lib.hid (HF.out.trans hfr)
        clear hz' hz5' hfr
        clear hbt HAU HAQ
        (with_reducible refine wl_k ?_ ?_); exact rfl; intro K hK; go_simp; refine hK _ ?_; clear hK K
        (with_reducible refine wl_k ?_ ?_); exact rfl; intro K hK; go_simp; refine hK _ ?_; clear hK K
        (with_reducible refine wl_k ?_ ?_); exact rfl; intro K hK; go_simp; refine hK _ ?_; clear hK K
        (with_reducible refine wl_k ?_ ?_); exact rfl; intro K hK; go_simp; refine hK _ ?_; clear hK K
        (with_reducible refine wl_k ?_ ?_); exact rfl; intro K hK; go_simp; refine hK _ ?_; clear hK K
        go_upto_region 31 with (fail)
        apply wp_region_lit
        (with_reducible refine wl_k ?_ ?_); exact rfl; intro K hK; go_simp; refine hK _ ?_; clear hK K
        (with_reducible refine wl_k ?_ ?_); exact rfl; intro K hK; go_simp; refine hK _ ?_; clear hK K
        (with_reducible refine wl_k ?_ ?_); exact rfl; intro K hK; go_simp; refine hK _ ?_; clear hK K
        (with_reducible refine wl_k ?_ ?_); exact rfl; intro K hK; go_simp; refine hK _ ?_; clear hK K
        ((with_reducible apply wl_oneG); exact rfl; exact rfl; exact r1 hs)
        (with_reducible refine wl_k ?_ ?_); exact rfl; intro K hK; go_simp; refine hK _ ?_; clear hK K
        (with_reducible refine wl_k ?_ ?_); exact rfl; intro K hK; go_simp; refine hK _ ?_; clear hK K
        (with_reducible refine wl_k ?_ ?_); exact rfl; intro K hK; go_simp; refine hK _ ?_; clear hK K
        (with_reducible refine wl_k ?_ ?_); exact rfl; intro K hK; go_simp; refine hK _ ?_; clear hK K
        (with_reducible refine wl_k ?_ ?_); exact rfl; intro K hK; go_simp; refine hK _ ?_; clear hK K
        (with_reducible refine wl_k ?_ ?_); exact rfl; intro K hK; go_simp; refine hK _ ?_; clear hK K
        refine wl_putR1 rfl rfl hs ?_
        intro WR hfr hs2
        clear hs
        have hs := hs2
        clear hs2
        have hz' := (hfr.keep z (heap_lt hz) (by omega) (by omega)).trans hz
        have hz5' := (hfr.keep z5 (heap_lt hz5) (by omega) (by omega)).trans hz5
        clear hz hz5
        have hz := hz'
        have hz5 := hz5'
        replace HF := Lib.hid (HF.out.trans hfr)
        clear hz' hz5' hfr
        go_upto_region 32 with (fail)
        apply wp_region_lit
        (with_reducible refine wl_k ?_ ?_); exact rfl; intro K hK; go_simp; refine hK _ ?_; clear hK K
        refine wl_val rfl (ex_build 24 _ rfl (L := [(0, .int .i64 12), (2, .int .i64 v)]) rfl (built24v v)) ?_
        simp only [put_lit, List.set_cons_zero, List.set_cons_succ]
        (with_reducible refine wl_put rfl rfl hz5 ?_); rw [put_noneA]; intro W32 hbx hsz hkx hnx; replace hz := (hkx _ (by omega)).trans hz; clear hz5; have hz5 := hnx; clear hnx
        replace HF := Lib.hid (HF.out.put (by omega) hrw hbx hkx)
        replace hs := Rs.put hs (by omega) hkx
        clear hbx hkx hsz
        have HTY : Hid (TyAt W32 (fun b => w.heap.size ≤ b ∧ b ≠ z ∧ b ≠ z5) (.node 12 ⟨#[]⟩ v []) (cell4 12 ⟨#[]⟩ v none 0 0)) := Lib.hid (TyAt.of (by rfl) HWF.out (Nat.zero_le _) (TysAt.nil _ _))
        go_wp2_with fail
        go_meet
        exact ⟨_, _, _, _, _, _, _, _, _, HRA, HNO, hz, hz5, HTY, hs, HF⟩
    | none =>
      have HSZ0 : Hid ((strOf (l.takeWhile isW)).size ≤ maxLen) := Lib.hid (by rw [strOf_size]; have := (List.takeWhile_sublist isW (l := l)).length_le; unfold maxLen; omega)
      have HWW := Lib.hid fun w' h => word_any r l false (by omega) w' h
      have hdw := dw_len l
      have HAT2 : Hid (∀ l2, takeL [60] (l.dropWhile isW) = some l2 → ∃ ts s3 g, rdArgs (rdTyp left) [62] l2 = some (ts, s3, g) ∧ rdAtom (rdTyp left) l = some (nomT (l.takeWhile isW) ts, s3, g)) := Lib.hid fun l2 h2 => by
        have hx := HX.out
        simp only [rdTyp, ht1, ht2] at hx
        cases ha : rdArgs (rdTyp left) [62] l2 with
        | none =>
          exfalso
          unfold rdAtom at hx
          rw [ht3] at hx
          simp only [ht4, h2, ha] at hx
          cases hx
        | some q => exact ⟨q.1, q.2.1, q.2.2, rfl, by unfold rdAtom; rw [ht3]; simp only [ht4, h2, ha]⟩
      have HAT3 : Hid (takeL [60] (l.dropWhile isW) = none → rdAtom (rdTyp left) l = some (nomT (l.takeWhile isW) [], l.dropWhile isW, false)) := Lib.hid fun h2 => by
        unfold rdAtom; rw [ht3]; simp only [ht4, h2]
      clear HX
      have HTK19 := Lib.hid (take_none r ⟨#[40]⟩ l false W1 hs ht1)
      go_upto_region 19 with (fail)
      apply wp_region_lit
      (with_reducible refine wl_k ?_ ?_); exact rfl; intro K hK; go_simp; refine hK _ ?_; clear hK K
      (with_reducible refine wl_ck ?_ ?_); exact rfl; intro K hK; go_simp; refine ⟨_, _, ⟨rfl, rfl⟩, hK _ _ ⟨_, HTK19.out, ?_⟩⟩; clear hK K; rintro e w19 ⟨rfl, rfl⟩; refine ⟨_, rfl, ?_⟩; simp only [put_lit, List.set_cons_zero, List.set_cons_succ]
      (with_reducible refine wl_k ?_ ?_); exact rfl; intro K hK; go_simp; refine hK _ ?_; clear hK K
      clear HTK19
      have HTK25 := Lib.hid (take_none r ⟨#[97, 110, 121, 32]⟩ l false W1 hs ht2)
      go_upto_region 25 with (fail)
      apply wp_region_lit
      (with_reducible refine wl_k ?_ ?_); exact rfl; intro K hK; go_simp; refine hK _ ?_; clear hK K
      (with_reducible refine wl_ck ?_ ?_); exact rfl; intro K hK; go_simp; refine ⟨_, _, ⟨rfl, rfl⟩, hK _ _ ⟨_, HTK25.out, ?_⟩⟩; clear hK K; rintro e w25 ⟨rfl, rfl⟩; refine ⟨_, rfl, ?_⟩; simp only [put_lit, List.set_cons_zero, List.set_cons_succ]
      (with_reducible refine wl_k ?_ ?_); exact rfl; intro K hK; go_simp; refine hK _ ?_; clear hK K
      clear HTK25
      have HTK27 := Lib.hid (take_none r ⟨#[36]⟩ l false W1 hs ht3)
      go_upto_region 27 with (fail)
      apply wp_region_lit
      (with_reducible refine wl_k ?_ ?_); exact rfl; intro K hK; go_simp; refine hK _ ?_; clear hK K
      (with_reducible refine wl_ck ?_ ?_); exact rfl; intro K hK; go_simp; refine ⟨_, _, ⟨rfl, rfl⟩, hK _ _ ⟨_, HTK27.out, ?_⟩⟩; clear hK K; rintro e w27 ⟨rfl, rfl⟩; refine ⟨_, rfl, ?_⟩; simp only [put_lit, List.set_cons_zero, List.set_cons_succ]
      (with_reducible refine wl_k ?_ ?_); exact rfl; intro K hK; go_simp; refine hK _ ?_; clear hK K
      clear HTK27
      have HTK29 := Lib.hid (take_none r ⟨#[63]⟩ l false W1 hs ht4)
      go_upto_region 29 with (fail)
      apply wp_region_lit
      (with_reducible refine wl_k ?_ ?_); exact rfl; intro K hK; go_simp; refine hK _ ?_; clear hK K
      (with_reducible refine wl_ck ?_ ?_); exact rfl; intro K hK; go_simp; refine ⟨_, _, ⟨rfl, rfl⟩, hK _ _ ⟨_, HTK29.out, ?_⟩⟩; clear hK K; rintro e w29 ⟨rfl, rfl⟩; refine ⟨_, rfl, ?_⟩; simp only [put_lit, List.set_cons_zero, List.set_cons_succ]
      (with_reducible refine wl_k ?_ ?_); exact rfl; intro K hK; go_simp; refine hK _ ?_; clear hK K
      clear HTK29
      clear ht1 ht2 ht3 ht4
      obtain ⟨tw, htw⟩ : ∃ tw, tw = l.takeWhile isW := ⟨_, rfl⟩
      obtain ⟨l', hl'⟩ : ∃ l', l' = l.dropWhile isW := ⟨_, rfl⟩
      rw [← htw] at HAT2 HAT3 HSZ0 HWW
      rw [← hl'] at HAT2 HAT3 HWW hdw
      obtain ⟨nm, hnm⟩ : ∃ nm, nm = strOf tw := ⟨_, rfl⟩
      rw [← hnm] at HSZ0 HWW
      have HSZ := HSZ0
      have HNM := Lib.hid hnm.symm
      have HTW : Hid (nm.toList = tw) := Lib.hid (by rw [hnm, ByteArray.toList_eq]; simp [strOf])
      have HWD := Lib.hid (HWW.out _ hs)
      clear HWW htw hl' hnm HSZ0
      go_upto_region 6 with (fail)
      apply wp_region_lit
      (with_reducible refine wl_k ?_ ?_); exact rfl; intro K hK; go_simp; refine hK _ ?_; clear hK K
      (with_reducible refine wl_ck ?_ ?_); exact rfl; intro K hK; go_simp; refine ⟨_, _, ⟨rfl, rfl⟩, hK _ _ ⟨_, HWD.out, ?_⟩⟩; clear hK K; rintro e wW ⟨rfl, hs2, hfr⟩; refine ⟨_, rfl, ?_⟩; simp only [put_lit, List.set_cons_zero, List.set_cons_succ]
      clear hs
      have hs := hs2
      clear hs2
      have hz' := (hfr.keep z (heap_lt hz) (by omega) (by omega)).trans hz
      have hz5' := (hfr.keep z5 (heap_lt hz5) (by omega) (by omega)).trans hz5
      clear hz hz5
      have hz := hz'
      have hz5 := hz5'
      replace HF := Lib.hid (HF.out.trans hfr)
      clear hz' hz5' hfr
      clear HWD
      (with_reducible refine wl_k ?_ ?_); exact rfl; intro K hK; go_simp; refine hK _ ?_; clear hK K
      go_upto_region 7 with (fail)
      apply wp_region_lit
      (with_reducible refine wl_k ?_ ?_); exact rfl; intro K hK; go_simp; refine hK _ ?_; clear hK K
      refine wl_val rfl (ex_build 24 _ rfl (L := [(0, .int .i64 6), (1, .string nm)]) rfl (built24x 6 nm)) ?_
      simp only [put_lit, List.set_cons_zero, List.set_cons_succ]
      (with_reducible refine wl_put rfl rfl hz5 ?_); rw [put_noneA]; intro W7 hbx hsz hkx hnx; replace hz := (hkx _ (by omega)).trans hz; clear hz5; have hz5 := hnx; clear hnx
      replace HF := Lib.hid (HF.out.put (by omega) hrw hbx hkx)
      replace hs := Rs.put hs (by omega) hkx
      clear hbx hkx hsz
      go_upto_region 8 with (fail)
      go_cut [29] (fun s29 wx => ∃ (b : Bool) (l2 : List UInt8), s29 = .bool b ∧ Hid (takeL [60] l' = if b then some l2 else none) ∧ Hid (b = false → l2 = l') ∧ wx.heap[z]? = some (.cells (cell4 0 ⟨#[]⟩ 0 none 0 0) 24 (0, 0)) ∧ wx.heap[z5]? = some (.cells (cell4 6 nm 0 none 0 0) 24 (0, 0)) ∧ Rs wx r l2 false ∧ Hid (Fr r r w wx))
      case first =>
        cases ht5 : takeL [60] l' with
        | some l2 =>
          have HTK := Lib.hid (take_some r ⟨#[60]⟩ l' l2 false _ hs ht5)
          have HT5 := Lib.hid ht5
          clear ht5
          apply wp_region_lit
          (with_reducible refine wl_k ?_ ?_); exact rfl; intro K hK; go_simp; refine hK _ ?_; clear hK K
          (with_reducible refine wl_ck ?_ ?_); exact rfl; intro K hK; go_simp; refine ⟨_, _, ⟨rfl, rfl⟩, hK _ _ ⟨_, HTK.out, ?_⟩⟩; clear hK K; rintro e w8 ⟨rfl, hs2, hfr⟩; refine ⟨_, rfl, ?_⟩; simp only [put_lit, List.set_cons_zero, List.set_cons_succ]
          clear HTK hs
          have hz' := (hfr.keep z (heap_lt hz) (by omega) (by omega)).trans hz
          have hz5' := (hfr.keep z5 (heap_lt hz5) (by omega) (by omega)).trans hz5
          clear hz hz5
          have hz := hz'
          have hz5 := hz5'
          replace HF := Lib.hid (HF.out.trans hfr)
          clear hz' hz5' hfr
          go_wp2_with fail
          go_meet
          exact ⟨true, l2, rfl, Lib.hid (by rw [HT5.out]; rfl), Lib.hid (fun h => by cases h), hz, hz5, hs2, HF⟩
        | none =>
          have HTK := Lib.hid (take_none r ⟨#[60]⟩ l' false _ hs ht5)
          apply wp_region_lit
          (with_reducible refine wl_k ?_ ?_); exact rfl; intro K hK; go_simp; refine hK _ ?_; clear hK K
          (with_reducible refine wl_ck ?_ ?_); exact rfl; intro K hK; go_simp; refine ⟨_, _, ⟨rfl, rfl⟩, hK _ _ ⟨_, HTK.out, ?_⟩⟩; clear hK K; rintro e w8 ⟨rfl, rfl⟩; refine ⟨_, rfl, ?_⟩; simp only [put_lit, List.set_cons_zero, List.set_cons_succ]
          clear HTK
          go_wp2_with fail
          go_meet
          exact ⟨false, l', rfl, Lib.hid (by rw [ht5]; rfl), Lib.hid (fun _ => rfl), hz, hz5, hs, HF⟩
      case rest =>
      clear hz hz5 hs HF
      obtain ⟨b, l2, rfl, HTB, HLB, hz, hz5, hs, HF⟩ := hcut
      go_upto_if 29 with (fail)
      go_cut [29] (fun _ wx => ∃ (ts : List Ty) (s3 : List UInt8) (g : Bool) (A7 : Option Addr) (n7 c7 : Nat), Hid (rdAtom (rdTyp left) l = some (nomT tw ts, s3, g)) ∧ wx.heap[z]? = some (.cells (cell4 0 ⟨#[]⟩ 0 none 0 0) 24 (0, 0)) ∧ wx.heap[z5]? = some (.cells (cell4 6 nm 0 A7 n7 c7) 24 (0, 0)) ∧ Hid (TysAt wx (fun b => w.heap.size ≤ b ∧ b ≠ z ∧ b ≠ z5) ts A7 n7 c7) ∧ Rs wx r s3 g ∧ Hid (Fr r r w wx))
      case first =>
        cases b with
        | false =>
          have HRA := Lib.hid (HAT3.out (by have := HTB.out; simpa using this))
          obtain rfl := HLB.out rfl
          go_wp2_with fail
          go_meet
          exact ⟨[], _, false, none, 0, 0, HRA, hz, hz5, Lib.hid (TysAt.nil _ _), hs, HF⟩
        | true =>
          have ht5 : takeL [60] l' = some l2 := by have := HTB.out; simpa using this
          have hl2 := take_len ht5
          obtain ⟨ts, s3, g, ha, hra⟩ := HAT2.out l2 ht5
          have HRA := Lib.hid hra
          have HL := Lib.hid (list_rd left hle HRD.out ⟨#[62]⟩ r l2 (by simp at hl2; omega) _ hs HR2.out (HSN.out.fr HF.out HR2.out) ts s3 g ha)
          have hBc := heap_lt hz5
          clear ha hra ht5 hl2
          go_upto_region 9 with (fail)
          apply wp_region_lit
          (with_reducible refine wl_k ?_ ?_); exact rfl; intro K hK; go_simp; refine hK _ ?_; clear hK K
          (with_reducible refine wl_k ?_ ?_); exact rfl; intro K hK; go_simp; refine hK _ ?_; clear hK K
          (with_reducible refine wl_k ?_ ?_); exact rfl; intro K hK; go_simp; refine hK _ ?_; clear hK K
          (with_reducible refine wl_ck ?_ ?_); exact rfl; intro K hK; go_simp; refine ⟨_, _, ⟨rfl, rfl⟩, hK _ _ ⟨_, HL.out, ?_⟩⟩; clear hK K; rintro e w9 ⟨A7, n7, c7, rfl, hown, hs2, hfr⟩; refine ⟨_, rfl, ?_⟩; simp only [put_lit, List.set_cons_zero, List.set_cons_succ]
          clear hs
          have hs := hs2
          have HO := Lib.hid hown
          clear hs2 hown
          have hz' := (hfr.keep z (heap_lt hz) (by omega) (by omega)).trans hz
          have hz5' := (hfr.keep z5 (heap_lt hz5) (by omega) (by omega)).trans hz5
          clear hz hz5
          have hz := hz'
          have hz5 := hz5'
          replace HF := Lib.hid (HF.out.trans hfr)
          clear hz' hz5' hfr
          (with_reducible refine wl_k ?_ ?_); exact rfl; intro K hK; go_simp; refine hK _ ?_; clear hK K
          (with_reducible refine wl_put3 rfl rfl hz5 ?_); rw [put_noneA]; intro W9 hbx hsz hkx hnx; replace hz := (hkx _ (by omega)).trans hz; clear hz5; have hz5 := hnx; clear hnx
          replace HO := Lib.hid (HO.out.same fun q hq _ => hkx q (by omega))
          replace HF := Lib.hid (HF.out.put (by omega) hrw hbx hkx)
          replace hs := Rs.put hs (by omega) hkx
          clear hbx hkx hsz
          obtain ⟨A10, l10, c10, he, h9⟩ := HO.out.at
          cases he
          have HTA : Hid (TysAt W9 (fun b => w.heap.size ≤ b ∧ b ≠ z ∧ b ≠ z5) ts A7 n7 c7) := Lib.hid (h9.mono (fun b (hb : _ ≤ b) => by have := hb; refine ⟨?_, ?_, ?_⟩ <;> omega) fun _ _ => rfl)
          clear h9 HL HO
          go_wp2_with fail
          go_meet
          exact ⟨ts, s3, g, A7, n7, c7, HRA, hz, hz5, HTA, hs, HF⟩
      case rest =>
      clear hz hz5 hs HF HTB HLB HAT2 HAT3 hdw
      obtain ⟨ts, s3, g, A7, n7, c7, HRA, hz, hz5, HTA, hs, HF⟩ := hcut
      have HNL := Lib.hid HTA.out.len
      have hcm := HTA.out.cap
      have hmx := HTA.out.max
      unfold maxLen at hmx
      go_upto_region 10 with (fail)
      by_cases h1 : n7 = 1
      · have e1 : ((n7 : Int) == 1) = true := by simp [h1]
        have e2 : ((n7 : Int) == 0) = false := beq_eq_false_iff_ne.2 (by omega)
        have HL1 : Hid (ts.length = 1) := Lib.hid (by rw [HNL.out, h1])
        clear h1
        cases ba : nm.toList == [65, 114, 114, 97, 121] with
        | true =>
          have HNT : Hid (nomT tw ts = .node 5 ⟨#[]⟩ 0 ts) := Lib.hid (by
            have h1 : tw = [65, 114, 114, 97, 121] := by rw [← HTW.out]; exact beq_iff_eq.1 ba
            unfold nomT; rw [h1, HL1.out]; simp)
          apply wp_region_lit
          (with_reducible refine wl_k ?_ ?_); exact rfl; intro K hK; go_simp; refine hK _ ?_; clear hK K
          (first | ((with_reducible apply wl_oneG); exact rfl; exact rfl; first | exact f0 (by with_reducible assumption) | exact f1 (by with_reducible assumption) | exact f2 (by with_reducible assumption) | exact f3 (by with_reducible assumption) | with_reducible assumption | exact g22 (by with_reducible assumption) | exact g25 (by with_reducible assumption)) | ((with_reducible apply wl_rowG); exact rfl; exact rfl; first | with_reducible assumption | exact RowK.now (by with_reducible assumption) | exact f4 (by with_reducible assumption)))
          (with_reducible refine wl_k ?_ ?_); exact rfl; intro K hK; go_simp; refine hK _ ?_; clear hK K
          (with_reducible refine wl_k ?_ ?_); exact rfl; intro K hK; go_simp; refine hK _ ?_; clear hK K
          (with_reducible refine wl_k ?_ ?_); exact rfl; intro K hK; go_simp; refine hK _ ?_; clear hK K
          (with_reducible refine wl_k ?_ ?_); exact rfl; intro K hK; go_simp; refine hK _ ?_; clear hK K
          (with_reducible refine wl_k ?_ ?_); exact rfl; intro K hK; go_simp; refine hK _ ?_; clear hK K
          (with_reducible refine wl_k ?_ ?_); exact rfl; intro K hK; go_simp; refine hK _ ?_; clear hK K
          (with_reducible refine wl_k ?_ ?_); exact rfl; intro K hK; go_simp; refine hK _ ?_; clear hK K
          go_upto_region 11 with (fail)
          apply wp_region_lit
          (with_reducible refine wl_k ?_ ?_); exact rfl; intro K hK; go_simp; refine hK _ ?_; clear hK K
          (with_reducible refine wl_putK rfl rfl hz5 ?_); rw [put_noneA]; intro WA hbx hsz hkx hnx; replace hz := (hkx _ (by omega)).trans hz; clear hz5; have hz5 := hnx; clear hnx
          replace HTA := Lib.hid (HTA.out.mono (D' := fun b => w.heap.size ≤ b ∧ b ≠ z ∧ b ≠ z5) (fun _ h => h) (fun b hb => hkx b (hb.2.2)))
          replace HF := Lib.hid (HF.out.put (by omega) hrw hbx hkx)
          replace hs := Rs.put hs (by omega) hkx
          clear hbx hkx hsz
          (with_reducible refine wl_k ?_ ?_); exact rfl; intro K hK; go_simp; refine hK _ ?_; clear hK K
          (with_reducible refine wl_putN rfl rfl hz5 ?_); rw [put_noneA]; intro WB hbx hsz hkx hnx; replace hz := (hkx _ (by omega)).trans hz; clear hz5; have hz5 := hnx; clear hnx
          replace HTA := Lib.hid (HTA.out.mono (D' := fun b => w.heap.size ≤ b ∧ b ≠ z ∧ b ≠ z5) (fun _ h => h) (fun b hb => hkx b (hb.2.2)))
          replace HF := Lib.hid (HF.out.put (by omega) hrw hbx hkx)
          replace hs := Rs.put hs (by omega) hkx
          clear hbx hkx hsz
          have HTY : Hid (TyAt WB (fun b => w.heap.size ≤ b ∧ b ≠ z ∧ b ≠ z5) (.node 5 ⟨#[]⟩ 0 ts) (cell4 5 ⟨#[]⟩ 0 A7 n7 c7)) := Lib.hid (TyAt.of (by rfl) (by rfl) (Nat.zero_le _) HTA.out)
          replace HRA : Hid (rdAtom (rdTyp left) l = some (.node 5 ⟨#[]⟩ 0 ts, s3, g)) := Lib.hid (by rw [HRA.out, HNT.out])
          clear HTA HNT
          go_wp2_with fail
          go_meet
          exact ⟨_, _, _, _, _, _, _, _, _, HRA, HNO, hz, hz5, HTY, hs, HF⟩
        | false =>
        apply wp_region_lit
        (with_reducible refine wl_k ?_ ?_); exact rfl; intro K hK; go_simp; refine hK _ ?_; clear hK K
        (first | ((with_reducible apply wl_oneG); exact rfl; exact rfl; first | exact f0 (by with_reducible assumption) | exact f1 (by with_reducible assumption) | exact f2 (by with_reducible assumption) | exact f3 (by with_reducible assumption) | with_reducible assumption | exact g22 (by with_reducible assumption) | exact g25 (by with_reducible assumption)) | ((with_reducible apply wl_rowG); exact rfl; exact rfl; first | with_reducible assumption | exact RowK.now (by with_reducible assumption) | exact f4 (by with_reducible assumption)))
        (with_reducible refine wl_k ?_ ?_); exact rfl; intro K hK; go_simp; refine hK _ ?_; clear hK K
        (with_reducible refine wl_k ?_ ?_); exact rfl; intro K hK; go_simp; refine hK _ ?_; clear hK K
        (with_reducible refine wl_k ?_ ?_); exact rfl; intro K hK; go_simp; refine hK _ ?_; clear hK K
        (with_reducible refine wl_k ?_ ?_); exact rfl; intro K hK; go_simp; refine hK _ ?_; clear hK K
        (with_reducible refine wl_k ?_ ?_); exact rfl; intro K hK; go_simp; refine hK _ ?_; clear hK K
        (with_reducible refine wl_k ?_ ?_); exact rfl; intro K hK; go_simp; refine hK _ ?_; clear hK K
        (with_reducible refine wl_k ?_ ?_); exact rfl; intro K hK; go_simp; refine hK _ ?_; clear hK K
        go_upto_region 12 with (fail)
        cases bw : nm.toList == [87, 101, 97, 107] with
        | true =>
          have HNT : Hid (nomT tw ts = .node 11 ⟨#[]⟩ 0 ts) := Lib.hid (by
            have h1 : tw = [87, 101, 97, 107] := by rw [← HTW.out]; exact beq_iff_eq.1 bw
            unfold nomT; rw [h1, HL1.out]; simp)
          apply wp_region_lit
          (with_reducible refine wl_k ?_ ?_); exact rfl; intro K hK; go_simp; refine hK _ ?_; clear hK K
          (first | ((with_reducible apply wl_oneG); exact rfl; exact rfl; first | exact f0 (by with_reducible assumption) | exact f1 (by with_reducible assumption) | exact f2 (by with_reducible assumption) | exact f3 (by with_reducible assumption) | with_reducible assumption | exact g22 (by with_reducible assumption) | exact g25 (by with_reducible assumption)) | ((with_reducible apply wl_rowG); exact rfl; exact rfl; first | with_reducible assumption | exact RowK.now (by with_reducible assumption) | exact f4 (by with_reducible assumption)))
          (with_reducible refine wl_k ?_ ?_); exact rfl; intro K hK; go_simp; refine hK _ ?_; clear hK K
          (with_reducible refine wl_k ?_ ?_); exact rfl; intro K hK; go_simp; refine hK _ ?_; clear hK K
          (with_reducible refine wl_k ?_ ?_); exact rfl; intro K hK; go_simp; refine hK _ ?_; clear hK K
          (with_reducible refine wl_k ?_ ?_); exact rfl; intro K hK; go_simp; refine hK _ ?_; clear hK K
          (with_reducible refine wl_k ?_ ?_); exact rfl; intro K hK; go_simp; refine hK _ ?_; clear hK K
          (with_reducible refine wl_k ?_ ?_); exact rfl; intro K hK; go_simp; refine hK _ ?_; clear hK K
          (with_reducible refine wl_k ?_ ?_); exact rfl; intro K hK; go_simp; refine hK _ ?_; clear hK K
          go_upto_region 13 with (fail)
          apply wp_region_lit
          (with_reducible refine wl_k ?_ ?_); exact rfl; intro K hK; go_simp; refine hK _ ?_; clear hK K
          (with_reducible refine wl_putK rfl rfl hz5 ?_); rw [put_noneA]; intro WA hbx hsz hkx hnx; replace hz := (hkx _ (by omega)).trans hz; clear hz5; have hz5 := hnx; clear hnx
          replace HTA := Lib.hid (HTA.out.mono (D' := fun b => w.heap.size ≤ b ∧ b ≠ z ∧ b ≠ z5) (fun _ h => h) (fun b hb => hkx b (hb.2.2)))
          replace HF := Lib.hid (HF.out.put (by omega) hrw hbx hkx)
          replace hs := Rs.put hs (by omega) hkx
          clear hbx hkx hsz
          (with_reducible refine wl_k ?_ ?_); exact rfl; intro K hK; go_simp; refine hK _ ?_; clear hK K
          (with_reducible refine wl_putN rfl rfl hz5 ?_); rw [put_noneA]; intro WB hbx hsz hkx hnx; replace hz := (hkx _ (by omega)).trans hz; clear hz5; have hz5 := hnx; clear hnx
          replace HTA := Lib.hid (HTA.out.mono (D' := fun b => w.heap.size ≤ b ∧ b ≠ z ∧ b ≠ z5) (fun _ h => h) (fun b hb => hkx b (hb.2.2)))
          replace HF := Lib.hid (HF.out.put (by omega) hrw hbx hkx)
          replace hs := Rs.put hs (by omega) hkx
          clear hbx hkx hsz
          have HTY : Hid (TyAt WB (fun b => w.heap.size ≤ b ∧ b ≠ z ∧ b ≠ z5) (.node 11 ⟨#[]⟩ 0 ts) (cell4 11 ⟨#[]⟩ 0 A7 n7 c7)) := Lib.hid (TyAt.of (by rfl) (by rfl) (Nat.zero_le _) HTA.out)
          replace HRA : Hid (rdAtom (rdTyp left) l = some (.node 11 ⟨#[]⟩ 0 ts, s3, g)) := Lib.hid (by rw [HRA.out, HNT.out])
          clear HTA HNT
          go_wp2_with fail
          go_meet
          exact ⟨_, _, _, _, _, _, _, _, _, HRA, HNO, hz, hz5, HTY, hs, HF⟩
        | false =>
        have HNT : Hid (nomT tw ts = .node 6 (strOf tw) 0 ts) := Lib.hid (by
          have h1 : tw ≠ [65, 114, 114, 97, 121] := by rw [← HTW.out]; exact beq_eq_false_iff_ne.1 ba
          have h2 : tw ≠ [87, 101, 97, 107] := by rw [← HTW.out]; exact beq_eq_false_iff_ne.1 bw
          unfold nomT; simp [h1, h2, HL1.out])
        apply wp_region_lit
        (with_reducible refine wl_k ?_ ?_); exact rfl; intro K hK; go_simp; refine hK _ ?_; clear hK K
        (first | ((with_reducible apply wl_oneG); exact rfl; exact rfl; first | exact f0 (by with_reducible assumption) | exact f1 (by with_reducible assumption) | exact f2 (by with_reducible assumption) | exact f3 (by with_reducible assumption) | with_reducible assumption | exact g22 (by with_reducible assumption) | exact g25 (by with_reducible assumption)) | ((with_reducible apply wl_rowG); exact rfl; exact rfl; first | with_reducible assumption | exact RowK.now (by with_reducible assumption) | exact f4 (by with_reducible assumption)))
        (with_reducible refine wl_k ?_ ?_); exact rfl; intro K hK; go_simp; refine hK _ ?_; clear hK K
        (with_reducible refine wl_k ?_ ?_); exact rfl; intro K hK; go_simp; refine hK _ ?_; clear hK K
        (with_reducible refine wl_k ?_ ?_); exact rfl; intro K hK; go_simp; refine hK _ ?_; clear hK K
        (with_reducible refine wl_k ?_ ?_); exact rfl; intro K hK; go_simp; refine hK _ ?_; clear hK K
        (with_reducible refine wl_k ?_ ?_); exact rfl; intro K hK; go_simp; refine hK _ ?_; clear hK K
        (with_reducible refine wl_k ?_ ?_); exact rfl; intro K hK; go_simp; refine hK _ ?_; clear hK K
        (with_reducible refine wl_k ?_ ?_); exact rfl; intro K hK; go_simp; refine hK _ ?_; clear hK K
        go_upto_region 14 with (fail)
        apply wp_region_lit
        (with_reducible refine wl_k ?_ ?_); exact rfl; intro K hK; go_simp; refine hK _ ?_; clear hK K
        (first | ((with_reducible apply wl_oneG); exact rfl; exact rfl; first | exact f0 (by with_reducible assumption) | exact f1 (by with_reducible assumption) | exact f2 (by with_reducible assumption) | exact f3 (by with_reducible assumption) | with_reducible assumption | exact g22 (by with_reducible assumption) | exact g25 (by with_reducible assumption)) | ((with_reducible apply wl_rowG); exact rfl; exact rfl; first | with_reducible assumption | exact RowK.now (by with_reducible assumption) | exact f4 (by with_reducible assumption)))
        (with_reducible refine wl_k ?_ ?_); exact rfl; intro K hK; go_simp; refine hK _ ?_; clear hK K
        (with_reducible refine wl_k ?_ ?_); exact rfl; intro K hK; go_simp; refine hK _ ?_; clear hK K
        (with_reducible refine wl_k ?_ ?_); exact rfl; intro K hK; go_simp; refine hK _ ?_; clear hK K
        have HTY : Hid (TyAt wc (fun b => w.heap.size ≤ b ∧ b ≠ z ∧ b ≠ z5) (.node 6 nm 0 ts) (cell4 6 nm 0 A7 _ c7)) := Lib.hid (TyAt.of (by rfl) (by rfl) HSZ.out HTA.out)
        replace HRA : Hid (rdAtom (rdTyp left) l = some (.node 6 nm 0 ts, s3, g)) := Lib.hid (by rw [HRA.out, HNT.out, HNM.out])
        clear HTA HNT
        go_wp2_with fail
        go_meet
        exact ⟨_, _, _, _, _, _, _, _, _, HRA, HNO, hz, hz5, HTY, hs, HF⟩
      have e1 : ((n7 : Int) == 1) = false := beq_eq_false_iff_ne.2 (by omega)
      have HL1 : Hid (¬ ts.length = 1) := Lib.hid (by rw [HNL.out]; exact h1)
      clear h1
      apply wp_region_lit
      (with_reducible refine wl_k ?_ ?_); exact rfl; intro K hK; go_simp; refine hK _ ?_; clear hK K
      (first | ((with_reducible apply wl_oneG); exact rfl; exact rfl; first | exact f0 (by with_reducible assumption) | exact f1 (by with_reducible assumption) | exact f2 (by with_reducible assumption) | exact f3 (by with_reducible assumption) | with_reducible assumption | exact g22 (by with_reducible assumption) | exact g25 (by with_reducible assumption)) | ((with_reducible apply wl_rowG); exact rfl; exact rfl; first | with_reducible assumption | exact RowK.now (by with_reducible assumption) | exact f4 (by with_reducible assumption)))
      (with_reducible refine wl_k ?_ ?_); exact rfl; intro K hK; go_simp; refine hK _ ?_; clear hK K
      (with_reducible refine wl_k ?_ ?_); exact rfl; intro K hK; go_simp; refine hK _ ?_; clear hK K
      (with_reducible refine wl_k ?_ ?_); exact rfl; intro K hK; go_simp; refine hK _ ?_; clear hK K
      (first | ((with_reducible refine wl_skipU ?_ ?_ ?_); exact rfl; exact rfl) | ((with_reducible refine wl_skip ?_ ?_); exact rfl; simp only [put_lit, List.set_cons_zero, List.set_cons_succ]))
      (first | ((with_reducible refine wl_skipU ?_ ?_ ?_); exact rfl; exact rfl) | ((with_reducible refine wl_skip ?_ ?_); exact rfl; simp only [put_lit, List.set_cons_zero, List.set_cons_succ]))
      (with_reducible refine wl_k ?_ ?_); exact rfl; intro K hK; go_simp; refine hK _ ?_; clear hK K
      (with_reducible refine wl_k ?_ ?_); exact rfl; intro K hK; go_simp; refine hK _ ?_; clear hK K
      go_upto_region 12 with (fail)
      apply wp_region_lit
      (with_reducible refine wl_k ?_ ?_); exact rfl; intro K hK; go_simp; refine hK _ ?_; clear hK K
      (first | ((with_reducible apply wl_oneG); exact rfl; exact rfl; first | exact f0 (by with_reducible assumption) | exact f1 (by with_reducible assumption) | exact f2 (by with_reducible assumption) | exact f3 (by with_reducible assumption) | with_reducible assumption | exact g22 (by with_reducible assumption) | exact g25 (by with_reducible assumption)) | ((with_reducible apply wl_rowG); exact rfl; exact rfl; first | with_reducible assumption | exact RowK.now (by with_reducible assumption) | exact f4 (by with_reducible assumption)))
      (with_reducible refine wl_k ?_ ?_); exact rfl; intro K hK; go_simp; refine hK _ ?_; clear hK K
      (with_reducible refine wl_k ?_ ?_); exact rfl; intro K hK; go_simp; refine hK _ ?_; clear hK K
      (with_reducible refine wl_k ?_ ?_); exact rfl; intro K hK; go_simp; refine hK _ ?_; clear hK K
      (first | ((with_reducible refine wl_skipU ?_ ?_ ?_); exact rfl; exact rfl) | ((with_reducible refine wl_skip ?_ ?_); exact rfl; simp only [put_lit, List.set_cons_zero, List.set_cons_succ]))
      (first | ((with_reducible refine wl_skipU ?_ ?_ ?_); exact rfl; exact rfl) | ((with_reducible refine wl_skip ?_ ?_); exact rfl; simp only [put_lit, List.set_cons_zero, List.set_cons_succ]))
      (with_reducible refine wl_k ?_ ?_); exact rfl; intro K hK; go_simp; refine hK _ ?_; clear hK K
      (with_reducible refine wl_k ?_ ?_); exact rfl; intro K hK; go_simp; refine hK _ ?_; clear hK K
      go_upto_region 14 with (fail)
      by_cases h0 : n7 = 0
      case neg =>
        have e2 : ((n7 : Int) == 0) = false := beq_eq_false_iff_ne.2 (by omega)
        have HNT : Hid (nomT tw ts = .node 6 (strOf tw) 0 ts) := Lib.hid (by
          have h2 : ¬ ts.length = 0 := by rw [HNL.out]; exact h0
          have h3 : ts ≠ [] := fun e => h2 (by rw [e]; rfl)
          unfold nomT; simp [HL1.out, h2, h3])
        clear h0
        apply wp_region_lit
        (with_reducible refine wl_k ?_ ?_); exact rfl; intro K hK; go_simp; refine hK _ ?_; clear hK K
        (first | ((with_reducible apply wl_oneG); exact rfl; exact rfl; first | exact f0 (by with_reducible assumption) | exact f1 (by with_reducible assumption) | exact f2 (by with_reducible assumption) | exact f3 (by with_reducible assumption) | with_reducible assumption | exact g22 (by with_reducible assumption) | exact g25 (by with_reducible assumption)) | ((with_reducible apply wl_rowG); exact rfl; exact rfl; first | with_reducible assumption | exact RowK.now (by with_reducible assumption) | exact f4 (by with_reducible assumption)))
        (with_reducible refine wl_k ?_ ?_); exact rfl; intro K hK; go_simp; refine hK _ ?_; clear hK K
        (with_reducible refine wl_k ?_ ?_); exact rfl; intro K hK; go_simp; refine hK _ ?_; clear hK K
        (with_reducible refine wl_k ?_ ?_); exact rfl; intro K hK; go_simp; refine hK _ ?_; clear hK K
        have HTY : Hid (TyAt wc (fun b => w.heap.size ≤ b ∧ b ≠ z ∧ b ≠ z5) (.node 6 nm 0 ts) (cell4 6 nm 0 A7 _ c7)) := Lib.hid (TyAt.of (by rfl) (by rfl) HSZ.out HTA.out)
        replace HRA : Hid (rdAtom (rdTyp left) l = some (.node 6 nm 0 ts, s3, g)) := Lib.hid (by rw [HRA.out, HNT.out, HNM.out])
        clear HTA HNT
        go_wp2_with fail
        go_meet
        exact ⟨_, _, _, _, _, _, _, _, _, HRA, HNO, hz, hz5, HTY, hs, HF⟩
      subst h0
      clear e1
      apply wp_region_lit
      (with_reducible refine wl_k ?_ ?_); exact rfl; intro K hK; go_simp; refine hK _ ?_; clear hK K
      (first | ((with_reducible apply wl_oneG); exact rfl; exact rfl; first | exact f0 (by with_reducible assumption) | exact f1 (by with_reducible assumption) | exact f2 (by with_reducible assumption) | exact f3 (by with_reducible assumption) | with_reducible assumption | exact g22 (by with_reducible assumption) | exact g25 (by with_reducible assumption)) | ((with_reducible apply wl_rowG); exact rfl; exact rfl; first | with_reducible assumption | exact RowK.now (by with_reducible assumption) | exact f4 (by with_reducible assumption)))
      (with_reducible refine wl_k ?_ ?_); exact rfl; intro K hK; go_simp; refine hK _ ?_; clear hK K
      (with_reducible refine wl_k ?_ ?_); exact rfl; intro K hK; go_simp; refine hK _ ?_; clear hK K
      (with_reducible refine wl_k ?_ ?_); exact rfl; intro K hK; go_simp; refine hK _ ?_; clear hK K
      go_upto_region 15 with (fail)
      have hzl5 := heap_lt hz5
      have hzl := heap_lt hz
      have hy := Below.refl wc.heap.size wc
      apply wp_region_lit
      refine wl_mm113 ?_
      intro WM0 mp hbn hlmp hmp
      replace hs := hs.old hbn
      replace hz := below_look hbn hz
      replace hz5 := below_look hbn hz5
      replace hy := hy.trans hbn
      replace HF := Lib.hid (HF.out.trans (Fr.of hbn))
      clear hbn
      simp only [put_lit, List.set_cons_zero, List.set_cons_succ]
      refine wl_ins113 rfl rfl rfl hmp (by kernel_rfl) ?_
      intro WM1 hbm hkm hsm hm2
      have hrm : r ≠ mp := by have := hs.lt; omega
      replace hs := Rs.put hs hrm hkm
      replace hz := (hkm z (by omega)).trans hz
      replace hz5 := (hkm z5 (by omega)).trans hz5
      replace hy := hbm _ _ (by omega) hy
      replace HF := Lib.hid (HF.out.put (by omega) hrw hbm hkm)
      clear hbm hkm hsm hmp hrm
      have hmp := hm2
      clear hm2
      rw [put_noneA]
      refine wl_ins113 rfl rfl rfl hmp (by kernel_rfl) ?_
      intro WM2 hbm hkm hsm hm2
      have hrm : r ≠ mp := by have := hs.lt; omega
      replace hs := Rs.put hs hrm hkm
      replace hz := (hkm z (by omega)).trans hz
      replace hz5 := (hkm z5 (by omega)).trans hz5
      replace hy := hbm _ _ (by omega) hy
      replace HF := Lib.hid (HF.out.put (by omega) hrw hbm hkm)
      clear hbm hkm hsm hmp hrm
      have hmp := hm2
      clear hm2
      rw [put_noneA]
      refine wl_ins113 rfl rfl rfl hmp (by kernel_rfl) ?_
      intro WM3 hbm hkm hsm hm2
      have hrm : r ≠ mp := by have := hs.lt; omega
      replace hs := Rs.put hs hrm hkm
      replace hz := (hkm z (by omega)).trans hz
      replace hz5 := (hkm z5 (by omega)).trans hz5
      replace hy := hbm _ _ (by omega) hy
      replace HF := Lib.hid (HF.out.put (by omega) hrw hbm hkm)
      clear hbm hkm hsm hmp hrm
      have hmp := hm2
      clear hm2
      rw [put_noneA]
      refine wl_ins113 rfl rfl rfl hmp (by kernel_rfl) ?_
      intro WM4 hbm hkm hsm hm2
      have hrm : r ≠ mp := by have := hs.lt; omega
      replace hs := Rs.put hs hrm hkm
      replace hz := (hkm z (by omega)).trans hz
      replace hz5 := (hkm z5 (by omega)).trans hz5
      replace hy := hbm _ _ (by omega) hy
      replace HF := Lib.hid (HF.out.put (by omega) hrw hbm hkm)
      clear hbm hkm hsm hmp hrm
      have hmp := hm2
      clear hm2
      rw [put_noneA]
      (with_reducible refine wl_k ?_ ?_); exact rfl; intro K hK; go_simp; refine hK _ ?_; clear hK K
      (with_reducible refine wl_k ?_ ?_); exact rfl; intro K hK; go_simp; refine hK _ ?_; clear hK K
      have hm4 : WM4.heap[mp]? = some (.map four 4) := hmp
      replace HTA := Lib.hid (HTA.out.old hy)
      clear hmp hy hlmp
      by_cases k1 : nm = kInt
      · have HK1 := Lib.hid k1
        have HFH : Hid (Instr.findNow .string (.string nm) four.toList 0 = some (some (0, .int .i64 1))) := Lib.hid (by rw [HK1.out]; exact four_hit1)
        have HNT : Hid (nomT tw ts = .node 1 ⟨#[]⟩ 0 ts) := Lib.hid (by
          have h1 : tw = [73, 110, 116] := by rw [← HTW.out, HK1.out, ByteArray.toList_eq]; rfl
          have h2 : ts.length = 0 := HNL.out
          unfold nomT; rw [h1]; simp [h2])
        clear k1
        go_upto_region 16 with (fail)
        apply wp_region_lit
        (with_reducible refine wl_k ?_ ?_); exact rfl; intro K hK; go_simp; refine hK _ ?_; clear hK K
        (with_reducible refine wl_k ?_ ?_); exact rfl; intro K hK; go_simp; refine hK _ ?_; clear hK K
        refine wl_val rfl (ex_hit113 _ _ rfl rfl rfl hm4 HFH.out) ?_
        simp only [put_lit, List.set_cons_zero, List.set_cons_succ]
        (with_reducible refine wl_k ?_ ?_); exact rfl; intro K hK; go_simp; refine hK _ ?_; clear hK K
        (with_reducible refine wl_k ?_ ?_); exact rfl; intro K hK; go_simp; refine hK _ ?_; clear hK K
        (with_reducible refine wl_k ?_ ?_); exact rfl; intro K hK; go_simp; refine hK _ ?_; clear hK K
        (with_reducible refine wl_k ?_ ?_); exact rfl; intro K hK; go_simp; refine hK _ ?_; clear hK K
        (with_reducible refine wl_k ?_ ?_); exact rfl; intro K hK; go_simp; refine hK _ ?_; clear hK K
        clear hm4
        go_upto_region 18 with (fail)
        apply wp_region_lit
        (with_reducible refine wl_k ?_ ?_); exact rfl; intro K hK; go_simp; refine hK _ ?_; clear hK K
        (with_reducible refine wl_k ?_ ?_); exact rfl; intro K hK; go_simp; refine hK _ ?_; clear hK K
        (with_reducible refine wl_putK rfl rfl hz5 ?_); rw [put_noneA]; intro WA hbx hsz hkx hnx; replace hz := (hkx _ (by omega)).trans hz; clear hz5; have hz5 := hnx; clear hnx
        replace HTA := Lib.hid (HTA.out.mono (D' := fun b => w.heap.size ≤ b ∧ b ≠ z ∧ b ≠ z5) (fun _ h => h) (fun b hb => hkx b (hb.2.2)))
        replace HF := Lib.hid (HF.out.put (by omega) hrw hbx hkx)
        replace hs := Rs.put hs (by omega) hkx
        clear hbx hkx hsz
        (with_reducible refine wl_k ?_ ?_); exact rfl; intro K hK; go_simp; refine hK _ ?_; clear hK K
        (with_reducible refine wl_putN rfl rfl hz5 ?_); rw [put_noneA]; intro WB hbx hsz hkx hnx; replace hz := (hkx _ (by omega)).trans hz; clear hz5; have hz5 := hnx; clear hnx
        replace HTA := Lib.hid (HTA.out.mono (D' := fun b => w.heap.size ≤ b ∧ b ≠ z ∧ b ≠ z5) (fun _ h => h) (fun b hb => hkx b (hb.2.2)))
        replace HF := Lib.hid (HF.out.put (by omega) hrw hbx hkx)
        replace hs := Rs.put hs (by omega) hkx
        clear hbx hkx hsz
        have HTY : Hid (TyAt WB (fun b => w.heap.size ≤ b ∧ b ≠ z ∧ b ≠ z5) (.node 1 ⟨#[]⟩ 0 ts) (cell4 1 ⟨#[]⟩ 0 A7 0 c7)) := Lib.hid (TyAt.of (by rfl) (by rfl) (Nat.zero_le _) HTA.out)
        replace HRA : Hid (rdAtom (rdTyp left) l = some (.node 1 ⟨#[]⟩ 0 ts, s3, g)) := Lib.hid (by rw [HRA.out, HNT.out])
        clear HTA HNT
        go_wp2_with fail
        go_meet
        exact ⟨_, _, _, _, _, _, _, _, _, HRA, HNO, hz, hz5, HTY, hs, HF⟩
      by_cases k2 : nm = kBool
      · clear k1
        have HK1 := Lib.hid k2
        have HFH : Hid (Instr.findNow .string (.string nm) four.toList 0 = some (some (1, .int .i64 2))) := Lib.hid (by rw [HK1.out]; exact four_hit2)
        have HNT : Hid (nomT tw ts = .node 2 ⟨#[]⟩ 0 ts) := Lib.hid (by
          have h1 : tw = [66, 111, 111, 108] := by rw [← HTW.out, HK1.out, ByteArray.toList_eq]; rfl
          have h2 : ts.length = 0 := HNL.out
          unfold nomT; rw [h1]; simp [h2])
        clear k2
        go_upto_region 16 with (fail)
        apply wp_region_lit
        (with_reducible refine wl_k ?_ ?_); exact rfl; intro K hK; go_simp; refine hK _ ?_; clear hK K
        (with_reducible refine wl_k ?_ ?_); exact rfl; intro K hK; go_simp; refine hK _ ?_; clear hK K
        refine wl_val rfl (ex_hit113 _ _ rfl rfl rfl hm4 HFH.out) ?_
        simp only [put_lit, List.set_cons_zero, List.set_cons_succ]
        (with_reducible refine wl_k ?_ ?_); exact rfl; intro K hK; go_simp; refine hK _ ?_; clear hK K
        (with_reducible refine wl_k ?_ ?_); exact rfl; intro K hK; go_simp; refine hK _ ?_; clear hK K
        (with_reducible refine wl_k ?_ ?_); exact rfl; intro K hK; go_simp; refine hK _ ?_; clear hK K
        (with_reducible refine wl_k ?_ ?_); exact rfl; intro K hK; go_simp; refine hK _ ?_; clear hK K
        (with_reducible refine wl_k ?_ ?_); exact rfl; intro K hK; go_simp; refine hK _ ?_; clear hK K
        clear hm4
        go_upto_region 18 with (fail)
        apply wp_region_lit
        (with_reducible refine wl_k ?_ ?_); exact rfl; intro K hK; go_simp; refine hK _ ?_; clear hK K
        (with_reducible refine wl_k ?_ ?_); exact rfl; intro K hK; go_simp; refine hK _ ?_; clear hK K
        (with_reducible refine wl_putK rfl rfl hz5 ?_); rw [put_noneA]; intro WA hbx hsz hkx hnx; replace hz := (hkx _ (by omega)).trans hz; clear hz5; have hz5 := hnx; clear hnx
        replace HTA := Lib.hid (HTA.out.mono (D' := fun b => w.heap.size ≤ b ∧ b ≠ z ∧ b ≠ z5) (fun _ h => h) (fun b hb => hkx b (hb.2.2)))
        replace HF := Lib.hid (HF.out.put (by omega) hrw hbx hkx)
        replace hs := Rs.put hs (by omega) hkx
        clear hbx hkx hsz
        (with_reducible refine wl_k ?_ ?_); exact rfl; intro K hK; go_simp; refine hK _ ?_; clear hK K
        (with_reducible refine wl_putN rfl rfl hz5 ?_); rw [put_noneA]; intro WB hbx hsz hkx hnx; replace hz := (hkx _ (by omega)).trans hz; clear hz5; have hz5 := hnx; clear hnx
        replace HTA := Lib.hid (HTA.out.mono (D' := fun b => w.heap.size ≤ b ∧ b ≠ z ∧ b ≠ z5) (fun _ h => h) (fun b hb => hkx b (hb.2.2)))
        replace HF := Lib.hid (HF.out.put (by omega) hrw hbx hkx)
        replace hs := Rs.put hs (by omega) hkx
        clear hbx hkx hsz
        have HTY : Hid (TyAt WB (fun b => w.heap.size ≤ b ∧ b ≠ z ∧ b ≠ z5) (.node 2 ⟨#[]⟩ 0 ts) (cell4 2 ⟨#[]⟩ 0 A7 0 c7)) := Lib.hid (TyAt.of (by rfl) (by rfl) (Nat.zero_le _) HTA.out)
        replace HRA : Hid (rdAtom (rdTyp left) l = some (.node 2 ⟨#[]⟩ 0 ts, s3, g)) := Lib.hid (by rw [HRA.out, HNT.out])
        clear HTA HNT
        go_wp2_with fail
        go_meet
        exact ⟨_, _, _, _, _, _, _, _, _, HRA, HNO, hz, hz5, HTY, hs, HF⟩
      by_cases k3 : nm = kText
      · clear k1 k2
        have HK1 := Lib.hid k3
        have HFH : Hid (Instr.findNow .string (.string nm) four.toList 0 = some (some (2, .int .i64 3))) := Lib.hid (by rw [HK1.out]; exact four_hit3)
        have HNT : Hid (nomT tw ts = .node 3 ⟨#[]⟩ 0 ts) := Lib.hid (by
          have h1 : tw = [84, 101, 120, 116] := by rw [← HTW.out, HK1.out, ByteArray.toList_eq]; rfl
          have h2 : ts.length = 0 := HNL.out
          unfold nomT; rw [h1]; simp [h2])
        clear k3
        go_upto_region 16 with (fail)
        apply wp_region_lit
        (with_reducible refine wl_k ?_ ?_); exact rfl; intro K hK; go_simp; refine hK _ ?_; clear hK K
        (with_reducible refine wl_k ?_ ?_); exact rfl; intro K hK; go_simp; refine hK _ ?_; clear hK K
        refine wl_val rfl (ex_hit113 _ _ rfl rfl rfl hm4 HFH.out) ?_
        simp only [put_lit, List.set_cons_zero, List.set_cons_succ]
        (with_reducible refine wl_k ?_ ?_); exact rfl; intro K hK; go_simp; refine hK _ ?_; clear hK K
        (with_reducible refine wl_k ?_ ?_); exact rfl; intro K hK; go_simp; refine hK _ ?_; clear hK K
        (with_reducible refine wl_k ?_ ?_); exact rfl; intro K hK; go_simp; refine hK _ ?_; clear hK K
        (with_reducible refine wl_k ?_ ?_); exact rfl; intro K hK; go_simp; refine hK _ ?_; clear hK K
        (with_reducible refine wl_k ?_ ?_); exact rfl; intro K hK; go_simp; refine hK _ ?_; clear hK K
        clear hm4
        go_upto_region 18 with (fail)
        apply wp_region_lit
        (with_reducible refine wl_k ?_ ?_); exact rfl; intro K hK; go_simp; refine hK _ ?_; clear hK K
        (with_reducible refine wl_k ?_ ?_); exact rfl; intro K hK; go_simp; refine hK _ ?_; clear hK K
        (with_reducible refine wl_putK rfl rfl hz5 ?_); rw [put_noneA]; intro WA hbx hsz hkx hnx; replace hz := (hkx _ (by omega)).trans hz; clear hz5; have hz5 := hnx; clear hnx
        replace HTA := Lib.hid (HTA.out.mono (D' := fun b => w.heap.size ≤ b ∧ b ≠ z ∧ b ≠ z5) (fun _ h => h) (fun b hb => hkx b (hb.2.2)))
        replace HF := Lib.hid (HF.out.put (by omega) hrw hbx hkx)
        replace hs := Rs.put hs (by omega) hkx
        clear hbx hkx hsz
        (with_reducible refine wl_k ?_ ?_); exact rfl; intro K hK; go_simp; refine hK _ ?_; clear hK K
        (with_reducible refine wl_putN rfl rfl hz5 ?_); rw [put_noneA]; intro WB hbx hsz hkx hnx; replace hz := (hkx _ (by omega)).trans hz; clear hz5; have hz5 := hnx; clear hnx
        replace HTA := Lib.hid (HTA.out.mono (D' := fun b => w.heap.size ≤ b ∧ b ≠ z ∧ b ≠ z5) (fun _ h => h) (fun b hb => hkx b (hb.2.2)))
        replace HF := Lib.hid (HF.out.put (by omega) hrw hbx hkx)
        replace hs := Rs.put hs (by omega) hkx
        clear hbx hkx hsz
        have HTY : Hid (TyAt WB (fun b => w.heap.size ≤ b ∧ b ≠ z ∧ b ≠ z5) (.node 3 ⟨#[]⟩ 0 ts) (cell4 3 ⟨#[]⟩ 0 A7 0 c7)) := Lib.hid (TyAt.of (by rfl) (by rfl) (Nat.zero_le _) HTA.out)
        replace HRA : Hid (rdAtom (rdTyp left) l = some (.node 3 ⟨#[]⟩ 0 ts, s3, g)) := Lib.hid (by rw [HRA.out, HNT.out])
        clear HTA HNT
        go_wp2_with fail
        go_meet
        exact ⟨_, _, _, _, _, _, _, _, _, HRA, HNO, hz, hz5, HTY, hs, HF⟩
      by_cases k4 : nm = kUnit
      · clear k1 k2 k3
        have HK1 := Lib.hid k4
        have HFH : Hid (Instr.findNow .string (.string nm) four.toList 0 = some (some (3, .int .i64 4))) := Lib.hid (by rw [HK1.out]; exact four_hit4)
        have HNT : Hid (nomT tw ts = .node 4 ⟨#[]⟩ 0 ts) := Lib.hid (by
          have h1 : tw = [85, 110, 105, 116] := by rw [← HTW.out, HK1.out, ByteArray.toList_eq]; rfl
          have h2 : ts.length = 0 := HNL.out
          unfold nomT; rw [h1]; simp [h2])
        clear k4
        go_upto_region 16 with (fail)
        apply wp_region_lit
        (with_reducible refine wl_k ?_ ?_); exact rfl; intro K hK; go_simp; refine hK _ ?_; clear hK K
        (with_reducible refine wl_k ?_ ?_); exact rfl; intro K hK; go_simp; refine hK _ ?_; clear hK K
        refine wl_val rfl (ex_hit113 _ _ rfl rfl rfl hm4 HFH.out) ?_
        simp only [put_lit, List.set_cons_zero, List.set_cons_succ]
        (with_reducible refine wl_k ?_ ?_); exact rfl; intro K hK; go_simp; refine hK _ ?_; clear hK K
        (with_reducible refine wl_k ?_ ?_); exact rfl; intro K hK; go_simp; refine hK _ ?_; clear hK K
        (with_reducible refine wl_k ?_ ?_); exact rfl; intro K hK; go_simp; refine hK _ ?_; clear hK K
        (with_reducible refine wl_k ?_ ?_); exact rfl; intro K hK; go_simp; refine hK _ ?_; clear hK K
        (with_reducible refine wl_k ?_ ?_); exact rfl; intro K hK; go_simp; refine hK _ ?_; clear hK K
        clear hm4
        go_upto_region 18 with (fail)
        apply wp_region_lit
        (with_reducible refine wl_k ?_ ?_); exact rfl; intro K hK; go_simp; refine hK _ ?_; clear hK K
        (with_reducible refine wl_k ?_ ?_); exact rfl; intro K hK; go_simp; refine hK _ ?_; clear hK K
        (with_reducible refine wl_putK rfl rfl hz5 ?_); rw [put_noneA]; intro WA hbx hsz hkx hnx; replace hz := (hkx _ (by omega)).trans hz; clear hz5; have hz5 := hnx; clear hnx
        replace HTA := Lib.hid (HTA.out.mono (D' := fun b => w.heap.size ≤ b ∧ b ≠ z ∧ b ≠ z5) (fun _ h => h) (fun b hb => hkx b (hb.2.2)))
        replace HF := Lib.hid (HF.out.put (by omega) hrw hbx hkx)
        replace hs := Rs.put hs (by omega) hkx
        clear hbx hkx hsz
        (with_reducible refine wl_k ?_ ?_); exact rfl; intro K hK; go_simp; refine hK _ ?_; clear hK K
        (with_reducible refine wl_putN rfl rfl hz5 ?_); rw [put_noneA]; intro WB hbx hsz hkx hnx; replace hz := (hkx _ (by omega)).trans hz; clear hz5; have hz5 := hnx; clear hnx
        replace HTA := Lib.hid (HTA.out.mono (D' := fun b => w.heap.size ≤ b ∧ b ≠ z ∧ b ≠ z5) (fun _ h => h) (fun b hb => hkx b (hb.2.2)))
        replace HF := Lib.hid (HF.out.put (by omega) hrw hbx hkx)
        replace hs := Rs.put hs (by omega) hkx
        clear hbx hkx hsz
        have HTY : Hid (TyAt WB (fun b => w.heap.size ≤ b ∧ b ≠ z ∧ b ≠ z5) (.node 4 ⟨#[]⟩ 0 ts) (cell4 4 ⟨#[]⟩ 0 A7 0 c7)) := Lib.hid (TyAt.of (by rfl) (by rfl) (Nat.zero_le _) HTA.out)
        replace HRA : Hid (rdAtom (rdTyp left) l = some (.node 4 ⟨#[]⟩ 0 ts, s3, g)) := Lib.hid (by rw [HRA.out, HNT.out])
        clear HTA HNT
        go_wp2_with fail
        go_meet
        exact ⟨_, _, _, _, _, _, _, _, _, HRA, HNO, hz, hz5, HTY, hs, HF⟩
      have HNT : Hid (nomT tw ts = .node 6 (strOf tw) 0 ts) := Lib.hid (by
        have h1 : tw ≠ [73, 110, 116] := fun e => k1 (by rw [← HNM.out, e]; rfl)
        have h2 : tw ≠ [66, 111, 111, 108] := fun e => k2 (by rw [← HNM.out, e]; rfl)
        have h3 : tw ≠ [84, 101, 120, 116] := fun e => k3 (by rw [← HNM.out, e]; rfl)
        have h4 : tw ≠ [85, 110, 105, 116] := fun e => k4 (by rw [← HNM.out, e]; rfl)
        unfold nomT; simp [HL1.out, h1, h2, h3, h4])
      have HMISS := Lib.hid (four_miss k1 k2 k3 k4)
      clear k1 k2 k3 k4
      go_upto_region 16 with (fail)
      apply wp_region_lit
      (with_reducible refine wl_k ?_ ?_); exact rfl; intro K hK; go_simp; refine hK _ ?_; clear hK K
      (with_reducible refine wl_k ?_ ?_); exact rfl; intro K hK; go_simp; refine hK _ ?_; clear hK K
      refine wl_val rfl (ex_miss113 _ _ rfl rfl rfl hm4 HMISS.out) ?_
      simp only [put_lit, List.set_cons_zero, List.set_cons_succ]
      (with_reducible refine wl_k ?_ ?_); exact rfl; intro K hK; go_simp; refine hK _ ?_; clear hK K
      (with_reducible refine wl_k ?_ ?_); exact rfl; intro K hK; go_simp; refine hK _ ?_; clear hK K
      (with_reducible refine wl_k ?_ ?_); exact rfl; intro K hK; go_simp; refine hK _ ?_; clear hK K
      (with_reducible refine wl_k ?_ ?_); exact rfl; intro K hK; go_simp; refine hK _ ?_; clear hK K
      (with_reducible refine wl_k ?_ ?_); exact rfl; intro K hK; go_simp; refine hK _ ?_; clear hK K
      clear hm4
      have HTY : Hid (TyAt WM4 (fun b => w.heap.size ≤ b ∧ b ≠ z ∧ b ≠ z5) (.node 6 nm 0 ts) (cell4 6 nm 0 A7 _ c7)) := Lib.hid (TyAt.of (by rfl) (by rfl) HSZ.out HTA.out)
      replace HRA : Hid (rdAtom (rdTyp left) l = some (.node 6 nm 0 ts, s3, g)) := Lib.hid (by rw [HRA.out, HNT.out, HNM.out])
      clear HTA HNT
      go_wp2_with fail
      go_meet
      exact ⟨_, _, _, _, _, _, _, _, _, HRA, HNO, hz, hz5, HTY, hs, HF⟩
  case rest =>
    clear HRD
    obtain ⟨u, s2, g, k, s, n, A, lA, cA, HRA, HNO, hz, hz5, HTY, hs, HF⟩ := hcut
    have HL2 : Hid (s2.length ≤ 10000) := Lib.hid (by have := rdAtom_len (rdTyp_len left) HRA.out; omega)
    have HE : Hid (if g = true then (u, s2, true) = (t, l1, f) else ((dots (s2.length + 1) u s2).1, (dots (s2.length + 1) u s2).2, false) = (t, l1, f)) := Lib.hid (by
      have hx := HX.out
      simp only [rdTyp, HNO.out.1, HNO.out.2, HRA.out] at hx
      cases g with
      | true => simpa using hx
      | false => simpa using hx)
    clear HX HRA HNO
    go_wp2_with fail
    go_loopw [] (fun wr => DotI w r z z5 t l1 f wr) (fun wr => meas r wr)
    case atStart =>
      refine ⟨u, s2, g, k, s, n, A, lA, cA, hz, hz5, HTY, hs, HF, HL2, Lib.hid fun h => ?_, Lib.hid fun h => ?_⟩
      · have := HE.out; rw [h] at this; simpa using this
      · have := HE.out; rw [h] at this
        refine ⟨_, Nat.lt_succ_self _, ?_⟩
        simpa using this
    case round =>
      clear hz hz5 HTY hs HF HL2 HE
      obtain ⟨u, s2, g, k, s, n, A, lA, cA, hz, hz5, HTY, hs, HF, HL2, HT1, HT2⟩ := hrel
      have HMS := Lib.hid hs.meas
      go_upto_region 33 with (fail)
      cases g with
      | true =>
        have HRES := Lib.hid (HT1.out rfl)
        apply wp_region_lit
        (with_reducible refine wl_k ?_ ?_); exact rfl; intro K hK; go_simp; refine hK _ ?_; clear hK K
        (with_reducible refine wl_k ?_ ?_); exact rfl; intro K hK; go_simp; refine hK _ ?_; clear hK K
        (with_reducible refine wl_k ?_ ?_); exact rfl; intro K hK; go_simp; refine hK _ ?_; clear hK K
        ((with_reducible apply wl_oneG); exact rfl; exact rfl; exact r1 hs)
        (with_reducible refine wl_k ?_ ?_); exact rfl; intro K hK; go_simp; refine hK _ ?_; clear hK K
        (with_reducible refine wl_k ?_ ?_); exact rfl; intro K hK; go_simp; refine hK _ ?_; clear hK K
        (first | ((with_reducible refine wl_skipU ?_ ?_ ?_); exact rfl; exact rfl) | ((with_reducible refine wl_skip ?_ ?_); exact rfl; simp only [put_lit, List.set_cons_zero, List.set_cons_succ]))
        (first | ((with_reducible refine wl_skipU ?_ ?_ ?_); exact rfl; exact rfl) | ((with_reducible refine wl_skip ?_ ?_); exact rfl; simp only [put_lit, List.set_cons_zero, List.set_cons_succ]))
        (with_reducible refine wl_k ?_ ?_); exact rfl; intro K hK; go_simp; refine hK _ ?_; clear hK K
        go_upto_region 36 with (fail)
        apply wp_region_lit
        (first | ((with_reducible apply wl_oneG); exact rfl; exact rfl; first | exact f0 (by with_reducible assumption) | exact f1 (by with_reducible assumption) | exact f2 (by with_reducible assumption) | exact f3 (by with_reducible assumption) | with_reducible assumption | exact g22 (by with_reducible assumption) | exact g25 (by with_reducible assumption)) | ((with_reducible apply wl_rowG); exact rfl; exact rfl; first | with_reducible assumption | exact RowK.now (by with_reducible assumption) | exact f4 (by with_reducible assumption)))
        (with_reducible refine wl_put rfl rfl hz ?_); rw [put_noneA]; intro W36 hbx hsz hkx hnx; replace hz5 := (hkx _ (by omega)).trans hz5; clear hz; have hz := hnx; clear hnx
        replace HTY := Lib.hid (HTY.out.mono (D' := fun b => w.heap.size ≤ b ∧ b ≠ z ∧ b ≠ z5) (fun _ h => h) (fun b hb => hkx b hb.2.1))
        replace HF := Lib.hid (HF.out.put (by omega) hrw hbx hkx)
        replace hs := Rs.put hs (by omega) hkx
        clear hbx hkx hsz
        have HQ := Lib.hid hz
        have HS := Lib.hid hs
        clear hz hz5 hs
        go_wp2_with fail
        obtain ⟨rfl, rfl, rfl⟩ := HRES.out
        exact bodyPost_ret (res24 rfl _ _ z rfl HQ.out) rfl ⟨_, rfl, HTY.out.weak fun b h => h.1, HS.out, HF.out⟩
      | false =>
        obtain ⟨m', hm1, hm2⟩ := HT2.out rfl
        obtain ⟨m2, rfl⟩ : ∃ m2, m' = m2 + 1 := ⟨m' - 1, by omega⟩
        cases htd : takeL [46] s2 with
        | none =>
          have HRES : Hid (u = t ∧ s2 = l1 ∧ false = f) := Lib.hid (by simp only [dots, htd] at hm2; exact hm2)
          have HTK := Lib.hid (take_none r ⟨#[46]⟩ s2 false wr hs htd)
          clear htd hm1 hm2
          apply wp_region_lit
          (with_reducible refine wl_k ?_ ?_); exact rfl; intro K hK; go_simp; refine hK _ ?_; clear hK K
          (with_reducible refine wl_k ?_ ?_); exact rfl; intro K hK; go_simp; refine hK _ ?_; clear hK K
          (with_reducible refine wl_k ?_ ?_); exact rfl; intro K hK; go_simp; refine hK _ ?_; clear hK K
          ((with_reducible apply wl_oneG); exact rfl; exact rfl; exact r1 hs)
          (with_reducible refine wl_k ?_ ?_); exact rfl; intro K hK; go_simp; refine hK _ ?_; clear hK K
          (with_reducible refine wl_k ?_ ?_); exact rfl; intro K hK; go_simp; refine hK _ ?_; clear hK K
          (with_reducible refine wl_k ?_ ?_); exact rfl; intro K hK; go_simp; refine hK _ ?_; clear hK K
          (with_reducible refine wl_ck ?_ ?_); exact rfl; intro K hK; go_simp; refine ⟨_, _, ⟨rfl, rfl⟩, hK _ _ ⟨_, HTK.out, ?_⟩⟩; clear hK K; rintro e w33 ⟨rfl, rfl⟩; refine ⟨_, rfl, ?_⟩; simp only [put_lit, List.set_cons_zero, List.set_cons_succ]
          (with_reducible refine wl_k ?_ ?_); exact rfl; intro K hK; go_simp; refine hK _ ?_; clear hK K
          clear HTK
          go_upto_region 36 with (fail)
          apply wp_region_lit
          (first | ((with_reducible apply wl_oneG); exact rfl; exact rfl; first | exact f0 (by with_reducible assumption) | exact f1 (by with_reducible assumption) | exact f2 (by with_reducible assumption) | exact f3 (by with_reducible assumption) | with_reducible assumption | exact g22 (by with_reducible assumption) | exact g25 (by with_reducible assumption)) | ((with_reducible apply wl_rowG); exact rfl; exact rfl; first | with_reducible assumption | exact RowK.now (by with_reducible assumption) | exact f4 (by with_reducible assumption)))
          (with_reducible refine wl_put rfl rfl hz ?_); rw [put_noneA]; intro W36 hbx hsz hkx hnx; replace hz5 := (hkx _ (by omega)).trans hz5; clear hz; have hz := hnx; clear hnx
          replace HTY := Lib.hid (HTY.out.mono (D' := fun b => w.heap.size ≤ b ∧ b ≠ z ∧ b ≠ z5) (fun _ h => h) (fun b hb => hkx b hb.2.1))
          replace HF := Lib.hid (HF.out.put (by omega) hrw hbx hkx)
          replace hs := Rs.put hs (by omega) hkx
          clear hbx hkx hsz
          have HQ := Lib.hid hz
          have HS := Lib.hid hs
          clear hz hz5 hs
          go_wp2_with fail
          obtain ⟨rfl, rfl, rfl⟩ := HRES.out
          exact bodyPost_ret (res24 rfl _ _ z rfl HQ.out) rfl ⟨_, rfl, HTY.out.weak fun b h => h.1, HS.out, HF.out⟩
        | some s3 =>
          have hl3 := take_len htd
          have hl3d := dw_len s3
          simp only [List.length_cons, List.length_nil] at hl3
          have HTK := Lib.hid (take_some r ⟨#[46]⟩ s2 s3 false wr hs htd)
          obtain ⟨tw, htw⟩ : ∃ tw, tw = strOf (s3.takeWhile isW) := ⟨_, rfl⟩
          have HTWS : Hid (tw.size ≤ maxLen) := Lib.hid (by rw [htw, strOf_size]; have := (List.takeWhile_sublist isW (l := s3)).length_le; have := HL2.out; unfold maxLen; omega)
          have HWW := Lib.hid fun w' h => word_any r s3 false (by have := HL2.out; omega) w' h
          have HDN : Hid (∃ m', (s3.dropWhile isW).length < m' ∧ (dots m' (.node 8 tw 0 [u]) (s3.dropWhile isW)).1 = t ∧ (dots m' (.node 8 tw 0 [u]) (s3.dropWhile isW)).2 = l1 ∧ false = f) := Lib.hid ⟨m2, by omega, by
            simp only [dots, htd] at hm2
            rw [htw]; exact hm2⟩
          have HLN3 : Hid ((s3.dropWhile isW).length ≤ 10000) := Lib.hid (by have := HL2.out; omega)
          have HLT3 : Hid ((s3.dropWhile isW).length < s2.length) := Lib.hid (by omega)
          rw [← htw] at HWW
          clear htd hm1 hm2 htw hl3 hl3d HT1 HT2
          apply wp_region_lit
          (with_reducible refine wl_k ?_ ?_); exact rfl; intro K hK; go_simp; refine hK _ ?_; clear hK K
          (with_reducible refine wl_k ?_ ?_); exact rfl; intro K hK; go_simp; refine hK _ ?_; clear hK K
          (with_reducible refine wl_k ?_ ?_); exact rfl; intro K hK; go_simp; refine hK _ ?_; clear hK K
          ((with_reducible apply wl_oneG); exact rfl; exact rfl; exact r1 hs)
          (with_reducible refine wl_k ?_ ?_); exact rfl; intro K hK; go_simp; refine hK _ ?_; clear hK K
          (with_reducible refine wl_k ?_ ?_); exact rfl; intro K hK; go_simp; refine hK _ ?_; clear hK K
          (with_reducible refine wl_k ?_ ?_); exact rfl; intro K hK; go_simp; refine hK _ ?_; clear hK K
          (with_reducible refine wl_ck ?_ ?_); exact rfl; intro K hK; go_simp; refine ⟨_, _, ⟨rfl, rfl⟩, hK _ _ ⟨_, HTK.out, ?_⟩⟩; clear hK K; rintro e w33 ⟨rfl, hs2, hfr⟩; refine ⟨_, rfl, ?_⟩; simp only [put_lit, List.set_cons_zero, List.set_cons_succ]
          (with_reducible refine wl_k ?_ ?_); exact rfl; intro K hK; go_simp; refine hK _ ?_; clear hK K
          clear hs HTK
          have hs := hs2
          replace HTY := Lib.hid (HTY.out.fr (fun b hb => by have := hb.1; omega) hfr)
          clear hs2
          have hz' := (hfr.keep z (heap_lt hz) (by omega) (by omega)).trans hz
          have hz5' := (hfr.keep z5 (heap_lt hz5) (by omega) (by omega)).trans hz5
          clear hz hz5
          have hz := hz'
          have hz5 := hz5'
          replace HF := Lib.hid (HF.out.trans hfr)
          clear hz' hz5' hfr
          have hy := Below.refl w33.heap.size w33
          have hz5l := heap_lt hz5
          go_upto_region 34 with (fail)
          apply wp_region_lit
          (first | ((with_reducible apply wl_oneG); exact rfl; exact rfl; first | exact f0 (by with_reducible assumption) | exact f1 (by with_reducible assumption) | exact f2 (by with_reducible assumption) | exact f3 (by with_reducible assumption) | with_reducible assumption | exact g22 (by with_reducible assumption) | exact g25 (by with_reducible assumption)) | ((with_reducible apply wl_rowG); exact rfl; exact rfl; first | with_reducible assumption | exact RowK.now (by with_reducible assumption) | exact f4 (by with_reducible assumption)))
          have lthsb3 := heap_lt hs; have lthzb3 := heap_lt hz; have lthz5b3 := heap_lt hz5; (with_reducible refine wl_all ?_); intro X1 b3 hbn hlb3 hb3; replace hs := below_look hbn hs; replace hz := below_look hbn hz; replace hz5 := below_look hbn hz5; replace hy := hy.trans (hbn.mono hy.size); clear hbn; simp only [put_lit, List.set_cons_zero, List.set_cons_succ]
          (with_reducible refine wl_put rfl rfl hb3 ?_); rw [put_noneA]; intro X2 hbx hsz hkx hnx; replace hs := (hkx _ (by omega)).trans hs; replace hz := (hkx _ (by omega)).trans hz; replace hz5 := (hkx _ (by omega)).trans hz5; replace hy := hbx _ _ (by omega) hy; clear hb3; have hb3 := hnx; clear hnx
          clear hbx hkx hsz
          replace HTY := Lib.hid (HTY.out.old hy)
          replace HF := Lib.hid (HF.out.trans (Fr.of hy))
          have hsr : Rs X2 r s3 false := hs
          have hb3z : z < b3 ∧ z5 < b3 := by omega
          have hrb3 : r < b3 := by omega
          have hb3l := heap_lt hb3
          clear hy hs
          go_upto_region 35 with (fail)
          have hdr := Below.refl X2.heap.size X2 |>.drew
          have hsd : X2.drew.heap.size = X2.heap.size := rfl
          refine wp_region_held_drew (S := fun W => Fr r r w W ∧ W.heap[b3]? = X2.heap[b3]?) mixed ⟨HF.out.trans (Fr.of hdr), rfl⟩ (fun hS => ?_)
          refine ha_k (i := 0) rfl (by kernel_rfl) (by kernel_rfl) (by kernel_rfl) (fun _ _ _ _ h => h) hS rfl (fun K hK => ?_); go_simp; refine hK _ ?_; clear hK K; try simp only [put_lit, List.set_cons_zero, List.set_cons_succ]
          refine ha_val (i := 2) rfl (by kernel_rfl) (by kernel_rfl) (by kernel_rfl) (fun _ _ _ h => h) hS rfl (fun w' hw' => ex_row rfl (f4 (hw'.2.trans hb3))) ?_; try simp only [List.getElem_toArray, List.getElem_cons_succ, List.getElem_cons_zero, put_lit, List.set_cons_zero, List.set_cons_succ]
          have HWD := Lib.hid (HWW.out X2.drew (hsr.old hdr))
          have HWD5 := HWW.out
          clear HWW
          refine ha_two (i := 1) (j := 3) (by kernel_rfl) ?_ ?_
          · refine sh_call (i := 1) rfl rfl (fun K hK => ?_)
            go_simp; refine ⟨_, _, ⟨rfl, rfl⟩, hK _ _ ⟨_, HWD.out, ?_⟩⟩; clear hK K; rintro e w35 ⟨rfl, hs, hf35⟩
            have hS2 : Fr r r w w35 ∧ w35.heap[b3]? = X2.heap[b3]? := ⟨hS.1.trans hf35, (hf35.keep b3 hb3l (by omega) (by omega)).trans hS.2⟩
            refine ⟨_, rfl, hS2, ?_⟩
            have hfx := (Fr.of (g1 := r) (g2 := r) hdr).trans hf35
            have hz' := (hfx.keep z (heap_lt hz) (by omega) (by omega)).trans hz
            have hz5' := (hfx.keep z5 (heap_lt hz5) (by omega) (by omega)).trans hz5
            replace HTY := Lib.hid (HTY.out.fr (fun b hb => by have := hb.1; omega) hfx)
            have hsz35 := hfx.size
            clear hz hz5 hS hf35 hfx HWD hsr
            have hz := hz'
            have hz5 := hz5'
            clear hz' hz5'
            try simp only [List.getElem_toArray, List.getElem_cons_succ, List.getElem_cons_zero, put_lit, List.set_cons_zero, List.set_cons_succ]
            refine ha_bs (i := 3) (by kernel_rfl) rfl rfl _ rfl rfl (fun W hW => ⟨hS2.1.trans (Fr.of hW), (hW.block b3 (by omega)).trans hS2.2⟩) ?_
            intro X5 q3 hbn hlq3 hq3 hS
            replace hs := hs.old hbn
            replace hz := below_look hbn hz
            replace hz5 := below_look hbn hz5
            replace HTY := Lib.hid (HTY.out.old hbn)
            clear hbn hS2
            try simp only [List.getElem_toArray, List.getElem_cons_succ, List.getElem_cons_zero, put_lit, List.set_cons_zero, List.set_cons_succ]
            refine ha_val (i := 4) rfl (by kernel_rfl) (by kernel_rfl) (by kernel_rfl) (fun _ _ _ h => h) hS rfl (fun w' hw' => ex_build 24 _ rfl (L := [(0, .int .i64 8), (1, .string tw), (3, .slice (some ⟨q3, 0, none⟩) 1 1)]) rfl (built24s tw _ _ _)) ?_; try simp only [List.getElem_toArray, List.getElem_cons_succ, List.getElem_cons_zero, put_lit, List.set_cons_zero, List.set_cons_succ]
            refine ha_putX (i := 5) (by kernel_rfl) rfl rfl _ _ rfl rfl rfl hz5 (fun W hbx hkx => ⟨hS.1.put (by omega) hrw hbx hkx, (hkx b3 (by omega)).trans hS.2⟩) ?_
            intro W6 hbx hsz hkx hz56 hS6
            have hsF := Rs.put hs (by omega) hkx
            have hzF := (hkx z (by omega)).trans hz
            have HFF := Lib.hid hS6.1
            have HTY6 := Lib.hid (HTY.out.mono (D' := fun b => w.heap.size ≤ b ∧ b ≠ z ∧ b ≠ z5) (fun _ h => h) (fun b hb => hkx b hb.2.2))
            have hq6 := (hkx q3 (by omega)).trans hq3
            have HTY7 : Hid (TyAt W6 (fun b => w.heap.size ≤ b ∧ b ≠ z ∧ b ≠ z5) (.node 8 tw 0 [u]) (cell4 8 tw 0 (some ⟨q3, 0, none⟩) 1 1)) := Lib.hid (TyAt.of (by rfl) (by rfl) HTWS.out (one_in HTY6.out (by refine ⟨?_, ?_, ?_⟩ <;> omega) hq6))
            have HM6 := Lib.hid hsF.meas
            clear hbx hkx hsz hS hS6 hz5 hz hs hq3 hq6 hb3 HTY HTY6 HF
            refine wpAnyH_done (by kernel_rfl) ?_ _
            try simp only [List.getElem_toArray, List.getElem_cons_succ, List.getElem_cons_zero, put_lit, List.set_cons_zero, List.set_cons_succ]
            try simp only [put_noneA]
            go_wp2_with fail
            go_roundw
            case rel => exact ⟨_, _, false, _, _, _, _, _, _, hzF, hz56, HTY7, hsF, HFF, HLN3, Lib.hid (fun h => by cases h), Lib.hid (fun _ => HDN.out)⟩
            case measure =>
              rw [HMS.out, HM6.out]
              have := HLT3.out
              simp
              omega
          · refine sh_bs (i := 3) rfl rfl _ rfl rfl (fun W hW => ⟨hS.1.trans (Fr.of hW), (hW.block b3 hb3l).trans hS.2⟩) ?_
            intro X5 q3 hbn hlq3 hq3 hS5
            have hdx := hdr.trans hbn
            have HWD2 := Lib.hid (HWD5 X5 (hsr.old hdx))
            have hq3l := heap_lt hq3
            replace hz := below_look hdx hz
            replace hz5 := below_look hdx hz5
            replace HTY := Lib.hid (HTY.out.old hdx)
            have hxs := hdx.size
            clear HWD HWD5 hsr hbn hS hdx
            try simp only [List.getElem_toArray, List.getElem_cons_succ, List.getElem_cons_zero, put_lit, List.set_cons_zero, List.set_cons_succ]
            refine ha_call (i := 1) (by kernel_rfl) rfl rfl (fun K hK => ?_)
            go_simp; refine ⟨_, _, ⟨rfl, rfl⟩, hK _ _ ⟨_, HWD2.out, ?_⟩⟩; clear hK K; rintro e w35 ⟨rfl, hs, hf35⟩
            have hS : Fr r r w w35 ∧ w35.heap[b3]? = X2.heap[b3]? := ⟨hS5.1.trans hf35, (hf35.keep b3 (by omega) (by omega) (by omega)).trans hS5.2⟩
            refine ⟨_, rfl, hS, ?_⟩
            have hz' := (hf35.keep z (heap_lt hz) (by omega) (by omega)).trans hz
            have hz5' := (hf35.keep z5 (heap_lt hz5) (by omega) (by omega)).trans hz5
            have hq3' := (hf35.keep q3 hq3l (by omega) (by omega)).trans hq3
            replace HTY := Lib.hid (HTY.out.fr (fun b hb => by have := hb.1; omega) hf35)
            clear hz hz5 hq3 hS5 hf35 HWD2
            have hz := hz'
            have hz5 := hz5'
            have hq3 := hq3'
            clear hz' hz5' hq3'
            try simp only [List.getElem_toArray, List.getElem_cons_succ, List.getElem_cons_zero, put_lit, List.set_cons_zero, List.set_cons_succ]
            refine ha_val (i := 4) rfl (by kernel_rfl) (by kernel_rfl) (by kernel_rfl) (fun _ _ _ h => h) hS rfl (fun w' hw' => ex_build 24 _ rfl (L := [(0, .int .i64 8), (1, .string tw), (3, .slice (some ⟨q3, 0, none⟩) 1 1)]) rfl (built24s tw _ _ _)) ?_; try simp only [List.getElem_toArray, List.getElem_cons_succ, List.getElem_cons_zero, put_lit, List.set_cons_zero, List.set_cons_succ]
            refine ha_putX (i := 5) (by kernel_rfl) rfl rfl _ _ rfl rfl rfl hz5 (fun W hbx hkx => ⟨hS.1.put (by omega) hrw hbx hkx, (hkx b3 (by omega)).trans hS.2⟩) ?_
            intro W6 hbx hsz hkx hz56 hS6
            have hsF := Rs.put hs (by omega) hkx
            have hzF := (hkx z (by omega)).trans hz
            have HFF := Lib.hid hS6.1
            have HTY6 := Lib.hid (HTY.out.mono (D' := fun b => w.heap.size ≤ b ∧ b ≠ z ∧ b ≠ z5) (fun _ h => h) (fun b hb => hkx b hb.2.2))
            have hq6 := (hkx q3 (by omega)).trans hq3
            have HTY7 : Hid (TyAt W6 (fun b => w.heap.size ≤ b ∧ b ≠ z ∧ b ≠ z5) (.node 8 tw 0 [u]) (cell4 8 tw 0 (some ⟨q3, 0, none⟩) 1 1)) := Lib.hid (TyAt.of (by rfl) (by rfl) HTWS.out (one_in HTY6.out (by refine ⟨?_, ?_, ?_⟩ <;> omega) hq6))
            have HM6 := Lib.hid hsF.meas
            clear hbx hkx hsz hS hS6 hz5 hz hs hq3 hq6 hb3 HTY HTY6 HF
            refine wpAnyH_done (by kernel_rfl) ?_ _
            try simp only [List.getElem_toArray, List.getElem_cons_succ, List.getElem_cons_zero, put_lit, List.set_cons_zero, List.set_cons_succ]
            try simp only [put_noneA]
            go_wp2_with fail
            go_roundw
            case rel => exact ⟨_, _, false, _, _, _, _, _, _, hzF, hz56, HTY7, hsF, HFF, HLN3, Lib.hid (fun h => by cases h), Lib.hid (fun _ => HDN.out)⟩
            case measure =>
              rw [HMS.out, HM6.out]
              have := HLT3.out
              simp
              omega
end Go.Proofs.YtokmaehefenpmaaDoor
