/- The reader in memory: typ, at any depth. -/
import Derived.Test.YtokmaehefenpmaaDoorX15
import Derived.Test.YtokmaehefenpmaaDoorX16
namespace Go.Proofs.YtokmaehefenpmaaDoor
theorem typ_rd : ∀ left, left ≤ 1000 → RdC left
  | 0, _ => fun w r l _ h t l1 f hx => by
    simp only [rdTyp, Option.some.injEq, Prod.mk.injEq] at hx
    obtain ⟨rfl, rfl, rfl⟩ := hx
    exact typ_zero w r l false h
  | left + 1, h => typ_succ left (by omega) (typ_rd left (by omega))
end Go.Proofs.YtokmaehefenpmaaDoor
namespace Go.Proofs.YtokmaehefenpmaaDoor
open Go.RowKit Go.Proofs.YtokmaehefenpmaaDoor.Nm
set_option linter.unusedSimpArgs false
theorem built82 (s : ByteArray) : Tryd.prog.built 82 [(0, .string s)] = some #[.string s, .bool false] := by kernel_rfl
theorem run_box82 (s : ByteArray) (w : World) : (Instr.box 82 (.agg #[.string s, .bool false])).run Tryd.prog w = .ok (.pointer (some ⟨w.heap.size, 0, none⟩)) (w.alloc (.cells #[.string s, .bool false] 82)) := by kernel_rfl
section
variable {ops : Array Oper} {rest : List Oper} {dst : Option Tmp} {ty' : TypeId} {x : Operand} {pos : String} {after : Array Edge} {a : Act} {w : World} {Q : Exit → Act → World → Prop}
theorem wl_box82 {l : List UInt8} (hx : a.eval x = .agg #[.string (strOf l), .bool false])
    (h : ∀ W p, Below w.heap.size w W → w.heap.size ≤ p → Rs W p l false → wpList Tryd.prog ops Q rest (a.put dst (.pointer (some ⟨p, 0, none⟩))) W) :
    wpList Tryd.prog ops Q (⟨dst, .box 82 x, ty', pos, after, none⟩ :: rest) a w :=
  wl_w rfl (by unfold execOp; simp [hx, run_box82 (strOf l) w, Result.andThen]) (h _ _ ((Below.refl _ w).alloc (Nat.le_refl _) _) (Nat.le_refl _) (ha_new rfl))
end
theorem strOf_inj {a b : List UInt8} (h : strOf a = strOf b) : a = b := by
  have := congrArg (fun s => s.data.toList) h
  simpa [strOf] using this
theorem toList_inj {a b : ByteArray} (h : a.toList = b.toList) : a = b := by
  rw [ByteArray.toList_eq, ByteArray.toList_eq] at h
  rw [← str_back a, ← str_back b, h]
theorem strOf_empty (l : List UInt8) : (strOf l).toList.isEmpty = l.isEmpty := by rw [ByteArray.toList_eq]; simp [strOf]
theorem r0s {w : World} {r : Nat} {s : ByteArray} {f : Bool} (h : w.heap[r]? = some (.cells #[.string s, .bool f] 82 (0, 0))) : OneAt w 9 ⟨r, 0, none⟩ (.string s) := one_of u9 rfl (by rw [cell_of_row _ _ _ _ _ _ h]; rfl)
theorem r1s {w : World} {r : Nat} {s : ByteArray} {f : Bool} (h : w.heap[r]? = some (.cells #[.string s, .bool f] 82 (0, 0))) : OneAt w 4 ⟨r, 1, none⟩ (.bool f) := one_of u4 rfl (by rw [cell_of_row _ _ _ _ _ _ h]; rfl)
/-- Whether what was read is the text's type. -/
def prsB (l : List UInt8) (t : Ty) (l1 : List UInt8) (f : Bool) : Bool := !f && (l1.isEmpty && (validB true t && txtT t == l))
def PPost (w : World) (b : Bool) (t : Ty) (e : Ending) (w' : World) : Prop := ∃ row, e = .returned (.tuple #[.agg row, .int .i64 (if b then 0 else 30)]) ∧ TyAt w' (fun b => w.heap.size ≤ b) (if b then t else zeroTy) row ∧ Below w.heap.size w w'
set_option maxHeartbeats 4000000 in
set_option maxRecDepth 100000 in
theorem Parse_rd (l : List UInt8) (hlen : l.length ≤ 10000) (t : Ty) (l1 : List UInt8) (f : Bool) (hx : rdTyp 41 l = some (t, l1, f)) (w : World) : Calls Tryd.prog 35 #[.string (strOf l)] w (PPost w (prsB l t l1 f) t) := by
  have HX := Lib.hid hx
  have HRD := Lib.hid fun (w' : World) (r : Nat) (h : Rs w' r l false) => typ_rd 41 (by omega) w' r l hlen h t l1 f hx
  clear hx hlen
  have hb := Below.refl w.heap.size w
  go_enter Tryd.func35, Tryd.ntmps35
  go_upto_region 0 with (fail)
  apply wp_region_lit
  (with_reducible refine wl_all ?_); intro W z hbn hlz hz; replace hb := hb.trans (hbn.mono hb.size); clear hbn; simp only [put_lit, List.set_cons_zero, List.set_cons_succ]
  (with_reducible refine wl_k ?_ ?_); exact rfl; intro K hK; go_simp; refine hK _ ?_; clear hK K
  go_upto_region 1 with (fail)
  apply wp_region_lit
  (with_reducible refine wl_k ?_ ?_); exact rfl; intro K hK; go_simp; refine hK _ ?_; clear hK K
  (with_reducible refine wl_k ?_ ?_); exact rfl; intro K hK; go_simp; refine hK _ ?_; clear hK K
  ((with_reducible refine wl_box82 rfl ?_); intro W1 r hbn hlr hs; have ltz := heap_lt hz; replace hz := below_look hbn hz; replace hb := hb.trans (hbn.mono hb.size); clear hbn; simp only [put_lit, List.set_cons_zero, List.set_cons_succ])
  (with_reducible refine wl_k ?_ ?_); exact rfl; intro K hK; go_simp; refine hK _ ?_; clear hK K
  have hrw : w.heap.size ≤ r := by omega
  have hzr : z ≠ r := by omega
  have HT := Lib.hid (HRD.out W1 r hs)
  clear HRD hs
  have hW1 := heap_lt hz
  go_upto_region 2 with (fail)
  apply wp_region_lit
  (with_reducible refine wl_k ?_ ?_); exact rfl; intro K hK; go_simp; refine hK _ ?_; clear hK K
  (with_reducible refine wl_ck ?_ ?_); exact rfl; intro K hK; go_simp; refine ⟨_, _, ⟨rfl, rfl⟩, hK _ _ ⟨_, HT.out, ?_⟩⟩; clear hK K; rintro e w2 ⟨row, rfl, hta, hs, hfr⟩; refine ⟨_, rfl, ?_⟩; simp only [put_lit, List.set_cons_zero, List.set_cons_succ]
  obtain ⟨k, s, n, A, lA, cA, ts, he, rfl, -⟩ := hta.parts
  replace hz := (hfr.keep z (heap_lt hz) hzr hzr).trans hz
  have HTA := Lib.hid (hta.weak (D' := fun b => w.heap.size ≤ b ∧ b ≠ z) fun b h => by omega)
  have HFR := Lib.hid hfr
  have hy := Below.refl w2.heap.size w2
  clear hta he hfr
  have lthzq := heap_lt hz; (with_reducible refine wl_all ?_); intro X1 q hbn hlq hq; replace hz := below_look hbn hz; replace hy := hy.trans (hbn.mono hy.size); clear hbn; simp only [put_lit, List.set_cons_zero, List.set_cons_succ]
  (with_reducible refine wl_put rfl rfl hq ?_); rw [put_noneA]; intro X2 hbx hsz hkx hnx; replace hz := (hkx _ (by omega)).trans hz; replace hy := hbx _ _ (by omega) hy; clear hq; have hq := hnx; clear hnx
  replace hs := hs.old hy
  replace HTA := Lib.hid (HTA.out.old hy)
  replace HFR := Lib.hid (HFR.out.trans (Fr.of hy))
  have hrX := hs.lt
  clear hy hbx hkx hsz HT
  obtain ⟨s1, hs1⟩ : ∃ s1, s1 = strOf l1 := ⟨_, rfl⟩
  have HS1 := Lib.hid hs1
  unfold Rs at hs
  rw [← hs1] at hs
  clear hs1
  cases f with
  | true =>
    go_upto_region 3 with (fail)
    apply wp_region_lit
    (with_reducible refine wl_k ?_ ?_); exact rfl; intro K hK; go_simp; refine hK _ ?_; clear hK K
    (with_reducible refine wl_k ?_ ?_); exact rfl; intro K hK; go_simp; refine hK _ ?_; clear hK K
    (with_reducible refine wl_k ?_ ?_); exact rfl; intro K hK; go_simp; refine hK _ ?_; clear hK K
    ((with_reducible apply wl_oneG); exact rfl; exact rfl; exact r1s hs)
    (with_reducible refine wl_k ?_ ?_); exact rfl; intro K hK; go_simp; refine hK _ ?_; clear hK K
    (first | ((with_reducible refine wl_skipU ?_ ?_ ?_); exact rfl; exact rfl) | ((with_reducible refine wl_skip ?_ ?_); exact rfl; simp only [put_lit, List.set_cons_zero, List.set_cons_succ]))
    (first | ((with_reducible refine wl_skipU ?_ ?_ ?_); exact rfl; exact rfl) | ((with_reducible refine wl_skip ?_ ?_); exact rfl; simp only [put_lit, List.set_cons_zero, List.set_cons_succ]))
    (first | ((with_reducible refine wl_skipU ?_ ?_ ?_); exact rfl; exact rfl) | ((with_reducible refine wl_skip ?_ ?_); exact rfl; simp only [put_lit, List.set_cons_zero, List.set_cons_succ]))
    (first | ((with_reducible refine wl_skipU ?_ ?_ ?_); exact rfl; exact rfl) | ((with_reducible refine wl_skip ?_ ?_); exact rfl; simp only [put_lit, List.set_cons_zero, List.set_cons_succ]))
    (first | ((with_reducible refine wl_skipU ?_ ?_ ?_); exact rfl; exact rfl) | ((with_reducible refine wl_skip ?_ ?_); exact rfl; simp only [put_lit, List.set_cons_zero, List.set_cons_succ]))
    (with_reducible refine wl_k ?_ ?_); exact rfl; intro K hK; go_simp; refine hK _ ?_; clear hK K
    replace hb := Fr.below hb hrw HFR.out
    clear HFR hs HTA
    have HPB := Lib.hid (show prsB l t l1 true = false from by simp [prsB])
    clear HX
    go_upto_region 4 with (fail)
    apply wp_region_lit
    refine wl_val rfl (ex_build 24 _ rfl (L := []) rfl built24z) ?_
    simp only [put_lit, List.set_cons_zero, List.set_cons_succ]
    (with_reducible refine wl_put rfl rfl hz ?_); rw [put_noneA]; intro W4 hbx hsz hkx hnx; replace hb := hbx _ _ (by omega) hb; clear hz; have hz := hnx; clear hnx
    (with_reducible refine wl_k ?_ ?_); exact rfl; intro K hK; go_simp; refine hK _ ?_; clear hK K
    clear hq
    have HZ := Lib.hid hz
    have HB := Lib.hid hb
    clear hz hb
    go_wp2_with fail
    exact bodyPost_ret (res24t rfl _ _ z rfl rfl HZ.out) rfl (by rw [HPB.out]; exact ⟨_, rfl, zero_tree _ _, HB.out⟩)
  | false =>
    by_cases hl1 : l1 = []
    · subst hl1
      have e1 : s1.toList.isEmpty = true := by rw [HS1.out, strOf_empty]; rfl
      go_upto_region 3 with (fail)
      apply wp_region_lit
      (with_reducible refine wl_k ?_ ?_); exact rfl; intro K hK; go_simp; refine hK _ ?_; clear hK K
      (with_reducible refine wl_k ?_ ?_); exact rfl; intro K hK; go_simp; refine hK _ ?_; clear hK K
      (with_reducible refine wl_k ?_ ?_); exact rfl; intro K hK; go_simp; refine hK _ ?_; clear hK K
      ((with_reducible apply wl_oneG); exact rfl; exact rfl; exact r1s hs)
      (with_reducible refine wl_k ?_ ?_); exact rfl; intro K hK; go_simp; refine hK _ ?_; clear hK K
      (with_reducible refine wl_k ?_ ?_); exact rfl; intro K hK; go_simp; refine hK _ ?_; clear hK K
      (with_reducible refine wl_k ?_ ?_); exact rfl; intro K hK; go_simp; refine hK _ ?_; clear hK K
      (with_reducible refine wl_k ?_ ?_); exact rfl; intro K hK; go_simp; refine hK _ ?_; clear hK K
      ((with_reducible apply wl_oneG); exact rfl; exact rfl; exact r0s hs)
      (with_reducible refine wl_k ?_ ?_); exact rfl; intro K hK; go_simp; refine hK _ ?_; clear hK K
      (with_reducible refine wl_k ?_ ?_); exact rfl; intro K hK; go_simp; refine hK _ ?_; clear hK K
      clear e1
      clear hs HS1
      replace HFR := Lib.hid (Fr.below hb hrw HFR.out)
      clear hb
      have HFM := Lib.hid (Format_any t X2 _ _ HTA.out)
      cases hv : validB true t with
      | false =>
        have HPB := Lib.hid (show prsB l t [] false = false from by simp [prsB, hv])
        unfold fmtV at HFM
        rw [if_neg (by simp [hv])] at HFM
        clear hv HX
        go_upto_region 5 with (fail)
        apply wp_region_lit
        (first | ((with_reducible apply wl_oneG); exact rfl; exact rfl; first | exact f0 (by with_reducible assumption) | exact f1 (by with_reducible assumption) | exact f2 (by with_reducible assumption) | exact f3 (by with_reducible assumption) | with_reducible assumption | exact g22 (by with_reducible assumption) | exact g25 (by with_reducible assumption)) | ((with_reducible apply wl_rowG); exact rfl; exact rfl; first | with_reducible assumption | exact RowK.now (by with_reducible assumption) | exact f4 (by with_reducible assumption)))
        (with_reducible refine wl_ck ?_ ?_); exact rfl; intro K hK; go_simp; refine ⟨_, _, ⟨rfl, rfl⟩, hK _ _ ⟨_, HFM.out, ?_⟩⟩; clear hK K; rintro e w5 ⟨rfl, hy⟩; refine ⟨_, rfl, ?_⟩; simp only [put_lit, List.set_cons_zero, List.set_cons_succ]
        (with_reducible refine wl_k ?_ ?_); exact rfl; intro K hK; go_simp; refine hK _ ?_; clear hK K
        (with_reducible refine wl_k ?_ ?_); exact rfl; intro K hK; go_simp; refine hK _ ?_; clear hK K
        (with_reducible refine wl_k ?_ ?_); exact rfl; intro K hK; go_simp; refine hK _ ?_; clear hK K
        (with_reducible refine wl_k ?_ ?_); exact rfl; intro K hK; go_simp; refine hK _ ?_; clear hK K
        (with_reducible refine wl_k ?_ ?_); exact rfl; intro K hK; go_simp; refine hK _ ?_; clear hK K
        replace hz := below_look hy hz
        have hb := HFR.out.trans (hy.mono HFR.out.size)
        clear hy HFM HTA HFR hq
        go_upto_region 6 with (fail)
        apply wp_region_lit
        (with_reducible refine wl_k ?_ ?_); exact rfl; intro K hK; go_simp; refine hK _ ?_; clear hK K
        (with_reducible refine wl_k ?_ ?_); exact rfl; intro K hK; go_simp; refine hK _ ?_; clear hK K
        (with_reducible refine wl_k ?_ ?_); exact rfl; intro K hK; go_simp; refine hK _ ?_; clear hK K
        (first | ((with_reducible refine wl_skipU ?_ ?_ ?_); exact rfl; exact rfl) | ((with_reducible refine wl_skip ?_ ?_); exact rfl; simp only [put_lit, List.set_cons_zero, List.set_cons_succ]))
        (first | ((with_reducible refine wl_skipU ?_ ?_ ?_); exact rfl; exact rfl) | ((with_reducible refine wl_skip ?_ ?_); exact rfl; simp only [put_lit, List.set_cons_zero, List.set_cons_succ]))
        (first | ((with_reducible refine wl_skipU ?_ ?_ ?_); exact rfl; exact rfl) | ((with_reducible refine wl_skip ?_ ?_); exact rfl; simp only [put_lit, List.set_cons_zero, List.set_cons_succ]))
        (with_reducible refine wl_k ?_ ?_); exact rfl; intro K hK; go_simp; refine hK _ ?_; clear hK K
        go_upto_region 7 with (fail)
        apply wp_region_lit
        refine wl_val rfl (ex_build 24 _ rfl (L := []) rfl built24z) ?_
        simp only [put_lit, List.set_cons_zero, List.set_cons_succ]
        (with_reducible refine wl_put rfl rfl hz ?_); rw [put_noneA]; intro W4 hbx hsz hkx hnx; replace hb := hbx _ _ (by omega) hb; clear hz; have hz := hnx; clear hnx
        (with_reducible refine wl_k ?_ ?_); exact rfl; intro K hK; go_simp; refine hK _ ?_; clear hK K
        have HZ := Lib.hid hz
        have HB := Lib.hid hb
        clear hz hb
        go_wp2_with fail
        exact bodyPost_ret (res24t rfl _ _ z rfl rfl HZ.out) rfl (by rw [HPB.out]; exact ⟨_, rfl, zero_tree _ _, HB.out⟩)
      | true =>
        unfold fmtV at HFM
        rw [if_pos hv] at HFM
        obtain ⟨x, hx⟩ : ∃ x, x = strOf (txtT t) := ⟨_, rfl⟩
        have HX2 := Lib.hid hx
        rw [show (⟨(txtT t).toArray⟩ : ByteArray) = x from hx.symm] at HFM
        obtain ⟨y, hy0⟩ : ∃ y, y = strOf l := ⟨_, rfl⟩
        have HY := Lib.hid hy0
        rw [← hy0]
        by_cases hxy : x = y
        · have HPB := Lib.hid (show prsB l t [] false = true from by
            have : txtT t = l := strOf_inj (hx.symm.trans (hxy.trans hy0))
            simp [prsB, hv, this])
          have e1 : (x.toList == y.toList) = true := by rw [hxy]; exact beq_self_eq_true _
          clear hv HX hx hxy hy0 HX2 HY
          go_upto_region 5 with (fail)
          apply wp_region_lit
          (first | ((with_reducible apply wl_oneG); exact rfl; exact rfl; first | exact f0 (by with_reducible assumption) | exact f1 (by with_reducible assumption) | exact f2 (by with_reducible assumption) | exact f3 (by with_reducible assumption) | with_reducible assumption | exact g22 (by with_reducible assumption) | exact g25 (by with_reducible assumption)) | ((with_reducible apply wl_rowG); exact rfl; exact rfl; first | with_reducible assumption | exact RowK.now (by with_reducible assumption) | exact f4 (by with_reducible assumption)))
          (with_reducible refine wl_ck ?_ ?_); exact rfl; intro K hK; go_simp; refine ⟨_, _, ⟨rfl, rfl⟩, hK _ _ ⟨_, HFM.out, ?_⟩⟩; clear hK K; rintro e w5 ⟨rfl, hy⟩; refine ⟨_, rfl, ?_⟩; simp only [put_lit, List.set_cons_zero, List.set_cons_succ]
          (with_reducible refine wl_k ?_ ?_); exact rfl; intro K hK; go_simp; refine hK _ ?_; clear hK K
          (with_reducible refine wl_k ?_ ?_); exact rfl; intro K hK; go_simp; refine hK _ ?_; clear hK K
          (with_reducible refine wl_k ?_ ?_); exact rfl; intro K hK; go_simp; refine hK _ ?_; clear hK K
          (with_reducible refine wl_k ?_ ?_); exact rfl; intro K hK; go_simp; refine hK _ ?_; clear hK K
          (with_reducible refine wl_k ?_ ?_); exact rfl; intro K hK; go_simp; refine hK _ ?_; clear hK K
          replace hz := below_look hy hz
          replace hq := below_look hy hq
          have hb := HFR.out.trans (hy.mono HFR.out.size)
          replace HTA := Lib.hid (HTA.out.old hy)
          clear hy HFM HFR
          go_upto_region 6 with (fail)
          apply wp_region_lit
          (with_reducible refine wl_k ?_ ?_); exact rfl; intro K hK; go_simp; refine hK _ ?_; clear hK K
          (with_reducible refine wl_k ?_ ?_); exact rfl; intro K hK; go_simp; refine hK _ ?_; clear hK K
          (with_reducible refine wl_k ?_ ?_); exact rfl; intro K hK; go_simp; refine hK _ ?_; clear hK K
          (with_reducible refine wl_k ?_ ?_); exact rfl; intro K hK; go_simp; refine hK _ ?_; clear hK K
          (with_reducible refine wl_k ?_ ?_); exact rfl; intro K hK; go_simp; refine hK _ ?_; clear hK K
          (with_reducible refine wl_k ?_ ?_); exact rfl; intro K hK; go_simp; refine hK _ ?_; clear hK K
          (with_reducible refine wl_k ?_ ?_); exact rfl; intro K hK; go_simp; refine hK _ ?_; clear hK K
          clear e1
          go_upto_region 8 with (fail)
          apply wp_region_lit
          (first | ((with_reducible apply wl_oneG); exact rfl; exact rfl; first | exact f0 (by with_reducible assumption) | exact f1 (by with_reducible assumption) | exact f2 (by with_reducible assumption) | exact f3 (by with_reducible assumption) | with_reducible assumption | exact g22 (by with_reducible assumption) | exact g25 (by with_reducible assumption)) | ((with_reducible apply wl_rowG); exact rfl; exact rfl; first | with_reducible assumption | exact RowK.now (by with_reducible assumption) | exact f4 (by with_reducible assumption)))
          (with_reducible refine wl_put rfl rfl hz ?_); rw [put_noneA]; intro W4 hbx hsz hkx hnx; replace hb := hbx _ _ (by omega) hb; clear hz; have hz := hnx; clear hnx
          replace HTA := Lib.hid (HTA.out.mono (D' := fun b => w.heap.size ≤ b ∧ b ≠ z) (fun _ h => h) (fun b hb => hkx b hb.2))
          (with_reducible refine wl_k ?_ ?_); exact rfl; intro K hK; go_simp; refine hK _ ?_; clear hK K
          have HZ := Lib.hid hz
          have HB := Lib.hid hb
          clear hz hb hq
          go_wp2_with fail
          exact bodyPost_ret (res24t rfl _ _ z rfl rfl HZ.out) rfl (by rw [HPB.out]; exact ⟨_, rfl, HTA.out.weak fun _ h => h.1, HB.out⟩)
        · have HPB := Lib.hid (show prsB l t [] false = false from by
            have : txtT t ≠ l := fun e => hxy (by rw [hx, hy0, e])
            simp [prsB, hv, this])
          have e1 : (x.toList == y.toList) = false := beq_eq_false_iff_ne.2 fun h => hxy (toList_inj h)
          clear hv HX hx hxy hy0 HX2 HY
          go_upto_region 5 with (fail)
          apply wp_region_lit
          (first | ((with_reducible apply wl_oneG); exact rfl; exact rfl; first | exact f0 (by with_reducible assumption) | exact f1 (by with_reducible assumption) | exact f2 (by with_reducible assumption) | exact f3 (by with_reducible assumption) | with_reducible assumption | exact g22 (by with_reducible assumption) | exact g25 (by with_reducible assumption)) | ((with_reducible apply wl_rowG); exact rfl; exact rfl; first | with_reducible assumption | exact RowK.now (by with_reducible assumption) | exact f4 (by with_reducible assumption)))
          (with_reducible refine wl_ck ?_ ?_); exact rfl; intro K hK; go_simp; refine ⟨_, _, ⟨rfl, rfl⟩, hK _ _ ⟨_, HFM.out, ?_⟩⟩; clear hK K; rintro e w5 ⟨rfl, hy⟩; refine ⟨_, rfl, ?_⟩; simp only [put_lit, List.set_cons_zero, List.set_cons_succ]
          (with_reducible refine wl_k ?_ ?_); exact rfl; intro K hK; go_simp; refine hK _ ?_; clear hK K
          (with_reducible refine wl_k ?_ ?_); exact rfl; intro K hK; go_simp; refine hK _ ?_; clear hK K
          (with_reducible refine wl_k ?_ ?_); exact rfl; intro K hK; go_simp; refine hK _ ?_; clear hK K
          (with_reducible refine wl_k ?_ ?_); exact rfl; intro K hK; go_simp; refine hK _ ?_; clear hK K
          (with_reducible refine wl_k ?_ ?_); exact rfl; intro K hK; go_simp; refine hK _ ?_; clear hK K
          replace hz := below_look hy hz
          have hb := HFR.out.trans (hy.mono HFR.out.size)
          clear hy HFM HTA HFR hq
          go_upto_region 6 with (fail)
          apply wp_region_lit
          (with_reducible refine wl_k ?_ ?_); exact rfl; intro K hK; go_simp; refine hK _ ?_; clear hK K
          (with_reducible refine wl_k ?_ ?_); exact rfl; intro K hK; go_simp; refine hK _ ?_; clear hK K
          (with_reducible refine wl_k ?_ ?_); exact rfl; intro K hK; go_simp; refine hK _ ?_; clear hK K
          (with_reducible refine wl_k ?_ ?_); exact rfl; intro K hK; go_simp; refine hK _ ?_; clear hK K
          (with_reducible refine wl_k ?_ ?_); exact rfl; intro K hK; go_simp; refine hK _ ?_; clear hK K
          (with_reducible refine wl_k ?_ ?_); exact rfl; intro K hK; go_simp; refine hK _ ?_; clear hK K
          (with_reducible refine wl_k ?_ ?_); exact rfl; intro K hK; go_simp; refine hK _ ?_; clear hK K
          clear e1
          go_upto_region 7 with (fail)
          apply wp_region_lit
          refine wl_val rfl (ex_build 24 _ rfl (L := []) rfl built24z) ?_
          simp only [put_lit, List.set_cons_zero, List.set_cons_succ]
          (with_reducible refine wl_put rfl rfl hz ?_); rw [put_noneA]; intro W4 hbx hsz hkx hnx; replace hb := hbx _ _ (by omega) hb; clear hz; have hz := hnx; clear hnx
          (with_reducible refine wl_k ?_ ?_); exact rfl; intro K hK; go_simp; refine hK _ ?_; clear hK K
          have HZ := Lib.hid hz
          have HB := Lib.hid hb
          clear hz hb
          go_wp2_with fail
          exact bodyPost_ret (res24t rfl _ _ z rfl rfl HZ.out) rfl (by rw [HPB.out]; exact ⟨_, rfl, zero_tree _ _, HB.out⟩)
    · have e1 : s1.toList.isEmpty = false := by rw [HS1.out, strOf_empty]; simp [hl1]
      go_upto_region 3 with (fail)
      apply wp_region_lit
      (with_reducible refine wl_k ?_ ?_); exact rfl; intro K hK; go_simp; refine hK _ ?_; clear hK K
      (with_reducible refine wl_k ?_ ?_); exact rfl; intro K hK; go_simp; refine hK _ ?_; clear hK K
      (with_reducible refine wl_k ?_ ?_); exact rfl; intro K hK; go_simp; refine hK _ ?_; clear hK K
      ((with_reducible apply wl_oneG); exact rfl; exact rfl; exact r1s hs)
      (with_reducible refine wl_k ?_ ?_); exact rfl; intro K hK; go_simp; refine hK _ ?_; clear hK K
      (with_reducible refine wl_k ?_ ?_); exact rfl; intro K hK; go_simp; refine hK _ ?_; clear hK K
      (with_reducible refine wl_k ?_ ?_); exact rfl; intro K hK; go_simp; refine hK _ ?_; clear hK K
      (with_reducible refine wl_k ?_ ?_); exact rfl; intro K hK; go_simp; refine hK _ ?_; clear hK K
      ((with_reducible apply wl_oneG); exact rfl; exact rfl; exact r0s hs)
      (with_reducible refine wl_k ?_ ?_); exact rfl; intro K hK; go_simp; refine hK _ ?_; clear hK K
      (with_reducible refine wl_k ?_ ?_); exact rfl; intro K hK; go_simp; refine hK _ ?_; clear hK K
      replace hb := Fr.below hb hrw HFR.out
      clear HFR hs HTA
      have HPB := Lib.hid (show prsB l t l1 false = false from by simp [prsB, hl1])
      clear HX
      clear e1 hl1
      go_upto_region 4 with (fail)
      apply wp_region_lit
      refine wl_val rfl (ex_build 24 _ rfl (L := []) rfl built24z) ?_
      simp only [put_lit, List.set_cons_zero, List.set_cons_succ]
      (with_reducible refine wl_put rfl rfl hz ?_); rw [put_noneA]; intro W4 hbx hsz hkx hnx; replace hb := hbx _ _ (by omega) hb; clear hz; have hz := hnx; clear hnx
      (with_reducible refine wl_k ?_ ?_); exact rfl; intro K hK; go_simp; refine hK _ ?_; clear hK K
      clear hq
      have HZ := Lib.hid hz
      have HB := Lib.hid hb
      clear hz hb
      go_wp2_with fail
      exact bodyPost_ret (res24t rfl _ _ z rfl rfl HZ.out) rfl (by rw [HPB.out]; exact ⟨_, rfl, zero_tree _ _, HB.out⟩)
end Go.Proofs.YtokmaehefenpmaaDoor
