/- Contracts of the shelf at this dump, in plain words (written by the kit's own tools; those that are wanted). The first number that is not 0 (cmp.Or); orders as numbers. The order of trees: compare and lists. The order of trees: Less, Equal. The solver's equal: plain, and what it is asked. -/
import Derived.Shelf.Small.Strs
import Derived.Shelf.Small.Wraps
import Derived.Shelf.LaysM
import Derived.Test.YtokmaehefenpmaaDoorProg
import Derived.Test.YtokmaehefenpmaaDoorPE1
import Derived.Test.YtokmaehefenpmaaDoorPE2
import Derived.Test.YtokmaehefenpmaaDoorPE5
namespace Go.Proofs
open Go.Shelf
def Tryd.lays106_ren : Go.Shelf.Ren := ⟨fun | 106 => 78 | 213 => 106 | 265 => 125 | n => n, fun | 9 => 9 | 3 => 3 | n => n, fun | n => n⟩
theorem Tryd.lays106 : Go.Proofs.Lays.n106 Tryd.prog Tryd.lays106_ren := {
  mixed := by kernel_rfl
  f106 := Tryd.func78.trans (congrArg some (by kernel_rfl))
  f213 := Tryd.func106.trans (congrArg some (by kernel_rfl))
  f265 := Tryd.func125.trans (congrArg some (by kernel_rfl))
  t3 := Tryd.underlying3
  a3 := Tryd.isAgg3
  z3 := Tryd.sizeOf3
  v3 := Tryd.zeroValue3
  t9 := Tryd.underlying9
  a9 := Tryd.isAgg9
  z9 := Tryd.sizeOf9
  v9 := Tryd.zeroValue9 }
open Go.RowKit in
theorem Tryd.strings_Compare (a b : ByteArray) (w : World) :
    Calls Tryd.prog 78 #[.string a, .string b] w fun e w' => e = .returned (.int .i64 (Lib.compareBytes a.data.toList b.data.toList)) ∧ w' = w := Any.strings_Compare Tryd.lays106 a b w
def Tryd.lays122_ren : Go.Shelf.Ren := ⟨fun | 122 => 77 | 215 => 105 | n => n, fun | 3 => 3 | 4 => 4 | n => n, fun | n => n⟩
theorem Tryd.lays122 : Go.Proofs.Lays.n122 Tryd.prog Tryd.lays122_ren := {
  mixed := by kernel_rfl
  f122 := Tryd.func77.trans (congrArg some (by kernel_rfl))
  f215 := Tryd.func105.trans (congrArg some (by kernel_rfl))
  t3 := Tryd.underlying3
  a3 := Tryd.isAgg3
  z3 := Tryd.sizeOf3
  v3 := Tryd.zeroValue3
  t4 := Tryd.underlying4
  a4 := Tryd.isAgg4
  z4 := Tryd.sizeOf4
  v4 := Tryd.zeroValue4 }
open Go.RowKit in
theorem Tryd.cmp_Compare_int (x y : Int) (w : World) :
    Calls Tryd.prog 77 #[.int .i64 x, .int .i64 y] w fun e w' => e = .returned (.int .i64 (Lib.compareInt x y)) ∧ w' = w := Any.cmp_Compare_int Tryd.lays122 x y w
end Go.Proofs
namespace Go.Proofs.YtokmaehefenpmaaDoor
open Go.RowKit Go.Proofs.YtokmaehefenpmaaDoor.Nm
set_option linter.unusedSimpArgs false
def sg : Ordering → Int | .lt => -1 | .eq => 0 | .gt => 1
theorem sg_int (x y : Int) : Lib.compareInt x y = sg (cI x y) := by
  unfold Lib.compareInt cI
  by_cases h : x < y
  · rw [if_pos h, if_pos h]; rfl
  · rw [if_neg h, if_neg h]
    by_cases h2 : y < x
    · rw [if_pos h2, if_pos h2]; rfl
    · rw [if_neg h2, if_neg h2]; rfl
theorem sg_list : ∀ x y : List UInt8, Lib.compareBytes x y = sg (if x < y then .lt else if y < x then .gt else .eq)
  | [], [] => by simp [Lib.compareBytes, sg]
  | [], _ :: _ => by simp [Lib.compareBytes, sg]
  | _ :: _, [] => by simp [Lib.compareBytes, sg]
  | a :: x, b :: y => by
    rw [Lib.compareBytes, sg_list x y]
    simp only [List.cons_lt_cons_iff]
    by_cases h1 : a < b
    · simp [h1, sg]
    · by_cases h2 : b < a
      · have h3 : ¬ a = b := fun e => by subst e; exact h1 h2
        simp [h1, h2, h3, sg]
      · have h3 : a = b := UInt8.le_antisymm (UInt8.not_lt.1 h2) (UInt8.not_lt.1 h1)
        subst h3
        simp [h1]
theorem sg_bytes (x y : ByteArray) : Lib.compareBytes x.data.toList y.data.toList = sg (cB x y) := sg_list _ _
theorem cmpI_any (x y : Int) (w : World) : Calls Tryd.prog 77 #[.int .i64 x, .int .i64 y] w fun e w' => e = .returned (.int .i64 (sg (cI x y))) ∧ Below w.heap.size w w' := (Tryd.cmp_Compare_int x y w).mono fun e w' h => ⟨by rw [h.1, sg_int], by rw [h.2]; exact Below.refl _ _⟩
theorem cmpB_any (x y : ByteArray) (w : World) : Calls Tryd.prog 78 #[.string x, .string y] w fun e w' => e = .returned (.int .i64 (sg (cB x y))) ∧ Below w.heap.size w w' := (Tryd.strings_Compare x y w).mono fun e w' h => ⟨by rw [h.1, sg_bytes], by rw [h.2]; exact Below.refl _ _⟩
def orI : List Int → Int
  | [] => 0
  | a :: l => if a = 0 then orI l else a
theorem sg_then3 (a b c d : Ordering) : sg (a.then (b.then (c.then d))) = if orI [sg a, sg b, sg c] = 0 then sg d else orI [sg a, sg b, sg c] := by
  cases a <;> cases b <;> cases c <;> rfl
theorem run_bs61 (a b c : Int) (w : World) : (Instr.buildSlice 61 3 #[(0, .int .i64 a), (1, .int .i64 b), (2, .int .i64 c)]).run Tryd.prog w = .ok (.slice (some ⟨w.heap.size, 0, none⟩) 3 3) (w.alloc (.cells #[.int .i64 a, .int .i64 b, .int .i64 c] 3)) := by kernel_rfl
theorem ex_bs61 {ev : Operand → Value} {o : Oper} {w : World} (x y z : Operand) (ho : o.op = .buildSlice 61 3 #[(0, x), (1, y), (2, z)]) {a b c : Int} (hx : ev x = .int .i64 a) (hy : ev y = .int .i64 b) (hz : ev z = .int .i64 c) :
    (execOp ev o).run Tryd.prog w = .ok (.value (.slice (some ⟨w.heap.size, 0, none⟩) 3 3)) (w.alloc (.cells #[.int .i64 a, .int .i64 b, .int .i64 c] 3)) := by
  unfold execOp
  have := run_bs61 a b c w
  simp [ho, hx, hy, hz, this, Result.andThen]
theorem one61 {w : World} {p : Nat} {is : List Int} {t : TypeId} {fr : Nat × Nat} (h : w.heap[p]? = some (.cells (is.map (.int .i64)).toArray t fr)) {j : Nat} {v : Int} (hv : is[j]? = some v) : OneAt w 3 ⟨p, j, none⟩ (.int .i64 v) :=
  one_of u3 rfl (by rw [cell_of_row _ _ _ _ _ _ h]; simp [hv])
set_option maxHeartbeats 2000000 in
set_option maxRecDepth 100000 in
theorem Or_any (is : List Int) (w : World) (p : Nat) (t : TypeId) (fr : Nat × Nat) (h : w.heap[p]? = some (.cells (is.map (.int .i64)).toArray t fr)) (l : Nat) (hl : is.length = l) (hm : l ≤ 1000) : Calls Tryd.prog 76 #[.slice (some ⟨p, 0, none⟩) l l] w fun e w' => e = .returned (.int .i64 (orI is)) ∧ Below w.heap.size w w' := by
  have HP := Lib.hid h
  have HL := Lib.hid hl
  clear h hl
  have hb := Below.refl w.heap.size w
  go_enter Tryd.func76, Tryd.ntmps76
  go_wp2_with fail
  go_loopw [8] (fun i wr => ∃ j : Nat, j ≤ l ∧ i = .int .i64 (j : Int) ∧ Hid (orI is = orI (is.drop j)) ∧ Below w.heap.size w wr) (fun i _ => l - (intOf i).toNat)
  case atStart => exact ⟨0, by omega, rfl, Lib.hid rfl, hb⟩
  case round =>
    clear hb
    obtain ⟨j, hj, rfl, HR, hb⟩ := hrel
    by_cases hlt : j < l
    · have hltI : (j : Int) < (l : Int) := by omega
      obtain ⟨v, hv⟩ : ∃ v, is[j]? = some v := ⟨_, List.getElem?_eq_getElem (by rw [HL.out]; exact hlt)⟩
      have hone := one61 (below_look hb HP.out) hv
      have hd : is.drop j = v :: is.drop (j + 1) := by
        obtain ⟨hh, he⟩ := List.getElem?_eq_some_iff.1 hv
        rw [List.drop_eq_getElem_cons hh, he]
      by_cases h0 : v = 0
      · have e1 : (v != 0) = false := by simp [h0]
        have HR2 : Hid (orI is = orI (is.drop (j + 1))) := Lib.hid (by rw [HR.out, hd, orI, if_pos h0])
        clear hv hd HR h0
        go_upto_region 4 with (fail)
        apply wp_region_lit
        (with_reducible refine wl_k ?_ ?_); exact rfl; intro K hK; go_simp; refine hK _ ?_; clear hK K
        (first | ((with_reducible apply wl_oneG); exact rfl; exact rfl; first | exact f0 (by with_reducible assumption) | exact f1 (by with_reducible assumption) | exact f2 (by with_reducible assumption) | exact f3 (by with_reducible assumption) | with_reducible assumption | exact g22 (by with_reducible assumption) | exact g25 (by with_reducible assumption)) | ((with_reducible apply wl_rowG); exact rfl; exact rfl; first | with_reducible assumption | exact RowK.now (by with_reducible assumption) | exact f4 (by with_reducible assumption)))
        (with_reducible refine wl_k ?_ ?_); exact rfl; intro K hK; go_simp; refine hK _ ?_; clear hK K
        clear hone
        go_wp2_with fail
        go_roundw
        case rel => exact ⟨j + 1, by omega, by go_num, HR2, hb⟩
        case measure => simp [intOf]; omega
      · have e1 : (v != 0) = true := by simp [h0]
        have HF : Hid (orI is = v) := Lib.hid (by rw [HR.out, hd, orI, if_neg h0])
        clear hv hd HR h0
        go_upto_region 4 with (fail)
        apply wp_region_lit
        (with_reducible refine wl_k ?_ ?_); exact rfl; intro K hK; go_simp; refine hK _ ?_; clear hK K
        (first | ((with_reducible apply wl_oneG); exact rfl; exact rfl; first | exact f0 (by with_reducible assumption) | exact f1 (by with_reducible assumption) | exact f2 (by with_reducible assumption) | exact f3 (by with_reducible assumption) | with_reducible assumption | exact g22 (by with_reducible assumption) | exact g25 (by with_reducible assumption)) | ((with_reducible apply wl_rowG); exact rfl; exact rfl; first | with_reducible assumption | exact RowK.now (by with_reducible assumption) | exact f4 (by with_reducible assumption)))
        (with_reducible refine wl_k ?_ ?_); exact rfl; intro K hK; go_simp; refine hK _ ?_; clear hK K
        clear hone
        go_wp2_with fail
        go_ret
        exact ⟨ret_int HF.out.symm, hb⟩
    · have hltI : ¬ (j : Int) < (l : Int) := by omega
      have HF : Hid (orI is = 0) := Lib.hid (by rw [HR.out, List.drop_of_length_le (by rw [HL.out]; omega), orI])
      clear HR
      go_wp2_with fail
      go_ret
      exact ⟨ret_int HF.out.symm, hb⟩
def CmpC (t : Ty) : Prop := ∀ (u : Ty) (w : World) (D D' : Nat → Prop) (row row' : Array Value), TyAt w D t row → TyAt w D' u row' →
  Calls Tryd.prog 55 #[.agg row, .agg row'] w fun e w' => e = .returned (.int .i64 (sg (cmpTy t u))) ∧ Below w.heap.size w w'
theorem cmpTys_step {ts us : List Ty} {j : Nat} {t u : Ty} (ht : ts[j]? = some t) (hu : us[j]? = some u) : cmpTys (ts.drop j) (us.drop j) = (cmpTy t u).then (cmpTys (ts.drop (j + 1)) (us.drop (j + 1))) := by
  obtain ⟨h1, e1⟩ := List.getElem?_eq_some_iff.1 ht
  obtain ⟨h2, e2⟩ := List.getElem?_eq_some_iff.1 hu
  rw [List.drop_eq_getElem_cons h1, List.drop_eq_getElem_cons h2, e1, e2, cmpTys]
theorem cmpTys_end {ts us : List Ty} {j : Nat} (h : ts.length ≤ j ∨ us.length ≤ j) (h1 : j ≤ ts.length) (h2 : j ≤ us.length) : sg (cmpTys (ts.drop j) (us.drop j)) = sg (cI ts.length us.length) := by
  unfold cI
  by_cases e1 : ts.length ≤ j
  · rw [List.drop_of_length_le e1]
    by_cases e2 : us.length ≤ j
    · rw [List.drop_of_length_le e2, if_neg (by omega), if_neg (by omega)]; rfl
    · rw [List.drop_eq_getElem_cons (by omega), if_pos (by omega)]; rfl
  · have e2 : us.length ≤ j := by omega
    rw [List.drop_of_length_le e2, List.drop_eq_getElem_cons (show j < ts.length by omega), if_neg (by omega), if_pos (by omega)]; rfl
set_option maxHeartbeats 2000000 in
set_option maxRecDepth 100000 in
theorem lists_of (ts us : List Ty) (ih : ∀ t, t ∈ ts → CmpC t) (A A' : Option Addr) (l c l' c' : Nat) (w : World) (D D' : Nat → Prop) (h : TysAt w D ts A l c) (h' : TysAt w D' us A' l' c') :
    Calls Tryd.prog 79 #[.slice A l c, .slice A' l' c', .func (.func 55) #[] #[]] w fun e w' => e = .returned (.int .i64 (sg (cmpTys ts us))) ∧ Below w.heap.size w w' := by
  have HT := Lib.hid h
  have HU := Lib.hid h'
  have HL := Lib.hid h.len
  have HL' := Lib.hid h'.len
  have HI := Lib.hid ih
  have hcm := h.cap
  have hmx := h.max
  have hcm' := h'.cap
  have hmx' := h'.max
  unfold maxLen at hmx hmx'
  clear h h' ih
  have hb := Below.refl w.heap.size w
  go_enter Tryd.func79, Tryd.ntmps79
  go_wp2_with fail
  go_loopw [7] (fun i wr => ∃ j : Nat, j ≤ l ∧ j ≤ l' ∧ i = .int .i64 (j : Int) ∧ Hid (cmpTys ts us = cmpTys (ts.drop j) (us.drop j)) ∧ Below w.heap.size w wr) (fun i _ => l - (intOf i).toNat)
  case atStart => exact ⟨0, by omega, by omega, rfl, Lib.hid rfl, hb⟩
  case round =>
    clear hb
    obtain ⟨j, hj, hj', rfl, HR, hb⟩ := hrel
    by_cases hlt : j < l
    · have hltI : (j : Int) < (l : Int) := by omega
      by_cases hlt' : j < l'
      · have hltJ : (j : Int) < (l' : Int) := by omega
        obtain ⟨b, off, t, row, rfl, -, ht, -⟩ := HT.out.get hlt
        obtain ⟨b', off', u, row', rfl, -, hu, -⟩ := HU.out.get hlt'
        obtain ⟨row, hrow, hta⟩ := (HT.out.old hb).rowK ht
        obtain ⟨row', hrow', hua⟩ := (HU.out.old hb).rowK hu
        have HTA := Lib.hid hta
        have HUA := Lib.hid hua
        have HE := Lib.hid (HI.out t (List.mem_of_getElem? ht) u)
        have HS := Lib.hid (cmpTys_step ht hu)
        obtain ⟨v, hv⟩ : ∃ v, v = sg (cmpTy t u) := ⟨_, rfl⟩
        have HC : Hid (∀ w', Below wr.heap.size wr w' → Calls Tryd.prog 55 #[.agg row, .agg row'] w' fun e w2 => e = .returned (.int .i64 v) ∧ Below w'.heap.size w' w2) := Lib.hid fun w' hw' => by
          rw [hv]
          exact HE.out w' D D' row row' (HTA.out.old hw') (HUA.out.old hw')
        by_cases h0 : v = 0
        · have e1 : (v != 0) = false := by simp [h0]
          have HR2 : Hid (cmpTys ts us = cmpTys (ts.drop (j + 1)) (us.drop (j + 1))) := Lib.hid (by
            rw [HR.out, HS.out]
            cases hq : cmpTy t u with
            | lt => rw [hv, hq] at h0; exact absurd h0 (by decide)
            | gt => rw [hv, hq] at h0; exact absurd h0 (by decide)
            | eq => rfl)
          clear hta hua ht hu HE HTA HUA HR HS hv h0
          go_upto_region 4 with (fail)
          refine wp_region_belowAll mixed (by kernel_rfl) ?_
          (with_reducible refine wq_k ?_ ?_); exact rfl; intro K hK; go_simp; (with_reducible refine hK _ ?_); clear hK K
          (with_reducible refine wq_k ?_ ?_); exact rfl; intro K hK; go_simp; (with_reducible refine hK _ ?_); clear hK K
          (with_reducible refine wq_k ?_ ?_); exact rfl; intro K hK; go_simp; (with_reducible refine hK _ ?_); clear hK K
          (with_reducible refine wq_k ?_ ?_); exact rfl; intro K hK; go_simp; (with_reducible refine hK _ ?_); clear hK K
          (first | ((with_reducible apply wq_one); exact rfl; exact rfl; intro w' hw'; first | exact f0 (below_look hw' (by with_reducible assumption)) | exact f1 (below_look hw' (by with_reducible assumption)) | exact f2 (below_look hw' (by with_reducible assumption)) | exact f3 (below_look hw' (by with_reducible assumption)) ) | ((with_reducible apply wq_row); exact rfl; exact rfl; intro w' hw'; first | exact RowK.at (by with_reducible assumption) hw' | exact f4 (below_look hw' (by with_reducible assumption))))
          (with_reducible refine wq_k ?_ ?_); exact rfl; intro K hK; go_simp; (with_reducible refine hK _ ?_); clear hK K
          (with_reducible refine wq_k ?_ ?_); exact rfl; intro K hK; go_simp; (with_reducible refine hK _ ?_); clear hK K
          (with_reducible refine wq_k ?_ ?_); exact rfl; intro K hK; go_simp; (with_reducible refine hK _ ?_); clear hK K
          (first | ((with_reducible apply wq_one); exact rfl; exact rfl; intro w' hw'; first | exact f0 (below_look hw' (by with_reducible assumption)) | exact f1 (below_look hw' (by with_reducible assumption)) | exact f2 (below_look hw' (by with_reducible assumption)) | exact f3 (below_look hw' (by with_reducible assumption)) ) | ((with_reducible apply wq_row); exact rfl; exact rfl; intro w' hw'; first | exact RowK.at (by with_reducible assumption) hw' | exact f4 (below_look hw' (by with_reducible assumption))))
          refine wq_ck rfl (fun K hK => ?_); go_simp; refine ⟨_, _, ⟨rfl, rfl⟩, hK _ _ ⟨_, fun w' hw' => calls_class hw' (HC.out w' hw'), ?_⟩⟩; clear hK K; simp only [Zq]
          (with_reducible refine wq_k ?_ ?_); exact rfl; intro K hK; go_simp; (with_reducible refine hK _ ?_); clear hK K
          intro w7 hb7
          replace hb := hb.trans (hb7.mono hb.size)
          clear hb7 HC hrow hrow'
          go_wp2_with fail
          go_roundw
          case rel => exact ⟨j + 1, by omega, by omega, by go_num, HR2, hb⟩
          case measure => simp [intOf]; omega
        · have e1 : (v != 0) = true := by simp [h0]
          have HF : Hid (sg (cmpTys ts us) = v) := Lib.hid (by
            rw [HR.out, HS.out, hv]
            cases hq : cmpTy t u with
            | lt => rfl
            | gt => rfl
            | eq => rw [hv, hq] at h0; exact absurd rfl h0)
          clear hta hua ht hu HE HTA HUA HR HS hv h0
          go_upto_region 4 with (fail)
          refine wp_region_belowAll mixed (by kernel_rfl) ?_
          (with_reducible refine wq_k ?_ ?_); exact rfl; intro K hK; go_simp; (with_reducible refine hK _ ?_); clear hK K
          (with_reducible refine wq_k ?_ ?_); exact rfl; intro K hK; go_simp; (with_reducible refine hK _ ?_); clear hK K
          (with_reducible refine wq_k ?_ ?_); exact rfl; intro K hK; go_simp; (with_reducible refine hK _ ?_); clear hK K
          (with_reducible refine wq_k ?_ ?_); exact rfl; intro K hK; go_simp; (with_reducible refine hK _ ?_); clear hK K
          (first | ((with_reducible apply wq_one); exact rfl; exact rfl; intro w' hw'; first | exact f0 (below_look hw' (by with_reducible assumption)) | exact f1 (below_look hw' (by with_reducible assumption)) | exact f2 (below_look hw' (by with_reducible assumption)) | exact f3 (below_look hw' (by with_reducible assumption)) ) | ((with_reducible apply wq_row); exact rfl; exact rfl; intro w' hw'; first | exact RowK.at (by with_reducible assumption) hw' | exact f4 (below_look hw' (by with_reducible assumption))))
          (with_reducible refine wq_k ?_ ?_); exact rfl; intro K hK; go_simp; (with_reducible refine hK _ ?_); clear hK K
          (with_reducible refine wq_k ?_ ?_); exact rfl; intro K hK; go_simp; (with_reducible refine hK _ ?_); clear hK K
          (with_reducible refine wq_k ?_ ?_); exact rfl; intro K hK; go_simp; (with_reducible refine hK _ ?_); clear hK K
          (first | ((with_reducible apply wq_one); exact rfl; exact rfl; intro w' hw'; first | exact f0 (below_look hw' (by with_reducible assumption)) | exact f1 (below_look hw' (by with_reducible assumption)) | exact f2 (below_look hw' (by with_reducible assumption)) | exact f3 (below_look hw' (by with_reducible assumption)) ) | ((with_reducible apply wq_row); exact rfl; exact rfl; intro w' hw'; first | exact RowK.at (by with_reducible assumption) hw' | exact f4 (below_look hw' (by with_reducible assumption))))
          refine wq_ck rfl (fun K hK => ?_); go_simp; refine ⟨_, _, ⟨rfl, rfl⟩, hK _ _ ⟨_, fun w' hw' => calls_class hw' (HC.out w' hw'), ?_⟩⟩; clear hK K; simp only [Zq]
          (with_reducible refine wq_k ?_ ?_); exact rfl; intro K hK; go_simp; (with_reducible refine hK _ ?_); clear hK K
          intro w7 hb7
          replace hb := hb.trans (hb7.mono hb.size)
          clear hb7 HC hrow hrow'
          go_wp2_with fail
          go_ret
          exact ⟨ret_int HF.out.symm, hb⟩
      · have hltJ : ¬ (j : Int) < (l' : Int) := by omega
        have HF : Hid (sg (cI (l : Int) (l' : Int)) = sg (cmpTys ts us)) := Lib.hid (by rw [HR.out, cmpTys_end (Or.inr (by rw [HL'.out]; omega)) (by rw [HL.out]; omega) (by rw [HL'.out]; omega), HL.out, HL'.out])
        clear HR
        go_upto_region 7 with (fail)
        apply wp_region_lit
        (with_reducible refine wl_k ?_ ?_); exact rfl; intro K hK; go_simp; refine hK _ ?_; clear hK K
        (with_reducible refine wl_k ?_ ?_); exact rfl; intro K hK; go_simp; refine hK _ ?_; clear hK K
        (with_reducible refine wl_k ?_ ?_); exact rfl; intro K hK; go_simp; refine hK _ ?_; clear hK K
        (with_reducible refine wl_k ?_ ?_); exact rfl; intro K hK; go_simp; refine hK _ ?_; clear hK K
        (with_reducible refine wl_ck ?_ ?_); exact rfl; intro K hK; go_simp; refine ⟨_, _, ⟨rfl, rfl⟩, hK _ _ ⟨_, cmpI_any _ _ _, ?_⟩⟩; clear hK K; rintro e w7 ⟨rfl, hb7⟩; refine ⟨_, rfl, ?_⟩; simp only [Zq]
        (with_reducible refine wl_k ?_ ?_); exact rfl; intro K hK; go_simp; refine hK _ ?_; clear hK K
        replace hb := hb.trans (hb7.mono hb.size)
        clear hb7
        go_wp2_with fail
        go_ret
        exact ⟨ret_int HF.out, hb⟩
    · have hltI : ¬ (j : Int) < (l : Int) := by omega
      have HF : Hid (sg (cI (l : Int) (l' : Int)) = sg (cmpTys ts us)) := Lib.hid (by rw [HR.out, cmpTys_end (Or.inl (by rw [HL.out]; omega)) (by rw [HL.out]; omega) (by rw [HL'.out]; omega), HL.out, HL'.out])
      clear HR
      go_upto_region 7 with (fail)
      apply wp_region_lit
      (with_reducible refine wl_k ?_ ?_); exact rfl; intro K hK; go_simp; refine hK _ ?_; clear hK K
      (with_reducible refine wl_k ?_ ?_); exact rfl; intro K hK; go_simp; refine hK _ ?_; clear hK K
      (with_reducible refine wl_k ?_ ?_); exact rfl; intro K hK; go_simp; refine hK _ ?_; clear hK K
      (with_reducible refine wl_k ?_ ?_); exact rfl; intro K hK; go_simp; refine hK _ ?_; clear hK K
      (with_reducible refine wl_ck ?_ ?_); exact rfl; intro K hK; go_simp; refine ⟨_, _, ⟨rfl, rfl⟩, hK _ _ ⟨_, cmpI_any _ _ _, ?_⟩⟩; clear hK K; rintro e w7 ⟨rfl, hb7⟩; refine ⟨_, rfl, ?_⟩; simp only [Zq]
      (with_reducible refine wl_k ?_ ?_); exact rfl; intro K hK; go_simp; refine hK _ ?_; clear hK K
      replace hb := hb.trans (hb7.mono hb.size)
      clear hb7
      go_wp2_with fail
      go_ret
      exact ⟨ret_int HF.out, hb⟩
set_option maxHeartbeats 4000000 in
set_option maxRecDepth 100000 in
theorem compare_any : ∀ t : Ty, CmpC t := Ty.ind fun k s n ts ih u w D D' row row' h h' => by
  obtain ⟨k1, s1, n1, A, l, c, ts1, e, rfl, hk, hn, hs, hT⟩ := h.parts
  cases e
  obtain ⟨k', s', n', A', l', c', us, rfl, rfl, hk', hn', hs', hU⟩ := h'.parts
  have HT := Lib.hid hT
  have HU := Lib.hid hU
  have HI := Lib.hid ih
  clear h h' hk hn hs hT ih hk' hn' hs' hU
  have HB := Lib.hid (sg_then3 (cI k k') (cB s s') (cI n n') (cmpTys ts us))
  obtain ⟨v, hv⟩ : ∃ v, v = orI [sg (cI k k'), sg (cB s s'), sg (cI n n')] := ⟨_, rfl⟩
  rw [← hv] at HB
  have HV := Lib.hid hv
  clear hv
  have hb := Below.refl w.heap.size w
  go_enter Tryd.func55, Tryd.ntmps55
  go_upto_region 0 with (fail)
  apply wp_region_lit
  (with_reducible refine wl_box rfl ?_); intro W p hbn hlp hp; replace hb := hb.trans (hbn.mono hb.size); clear hbn; simp only [Zq]
  have lthpq := heap_lt hp; (with_reducible refine wl_box rfl ?_); intro W2 q hbn hlq hq; replace hp := below_look hbn hp; replace hb := hb.trans (hbn.mono hb.size); clear hbn; simp only [Zq]
  (with_reducible refine wl_k ?_ ?_); exact rfl; intro K hK; go_simp; refine hK _ ?_; clear hK K
  go_upto_region 1 with (fail)
  have hlr : W2.drew.heap.size = W2.heap.size := rfl
  refine wp_region_held_drew (S := Below W2.heap.size W2) mixed ((Below.refl _ W2).drew) (fun hS => ?_)
  refine hk3 (i := 0) rfl (by kernel_rfl) Zh hS rfl (fun K hK => ?_); go_simp; refine hK _ ?_; clear hK K; try simp only [Zq]
  refine hv3 (i := 1) rfl (by kernel_rfl) Zg hS rfl (fun w' hw' => ex_one rfl (f0 (below_look hw' hp))) ?_; try simp only [Zq]
  refine hk3 (i := 2) rfl (by kernel_rfl) Zh hS rfl (fun K hK => ?_); go_simp; refine hK _ ?_; clear hK K; try simp only [Zq]
  refine hv3 (i := 3) rfl (by kernel_rfl) Zg hS rfl (fun w' hw' => ex_one rfl (f0 (below_look hw' hq))) ?_; try simp only [Zq]
  refine hk3 (i := 5) rfl (by kernel_rfl) Zh hS rfl (fun K hK => ?_); go_simp; refine hK _ ?_; clear hK K; try simp only [Zq]
  refine hv3 (i := 6) rfl (by kernel_rfl) Zg hS rfl (fun w' hw' => ex_one rfl (f1 (below_look hw' hp))) ?_; try simp only [Zq]
  refine hk3 (i := 7) rfl (by kernel_rfl) Zh hS rfl (fun K hK => ?_); go_simp; refine hK _ ?_; clear hK K; try simp only [Zq]
  refine hv3 (i := 8) rfl (by kernel_rfl) Zg hS rfl (fun w' hw' => ex_one rfl (f1 (below_look hw' hq))) ?_; try simp only [Zq]
  refine hk3 (i := 10) rfl (by kernel_rfl) Zh hS rfl (fun K hK => ?_); go_simp; refine hK _ ?_; clear hK K; try simp only [Zq]
  refine hv3 (i := 11) rfl (by kernel_rfl) Zg hS rfl (fun w' hw' => ex_one rfl (f2 (below_look hw' hp))) ?_; try simp only [Zq]
  refine hk3 (i := 12) rfl (by kernel_rfl) Zh hS rfl (fun K hK => ?_); go_simp; refine hK _ ?_; clear hK K; try simp only [Zq]
  refine hv3 (i := 13) rfl (by kernel_rfl) Zg hS rfl (fun w' hw' => ex_one rfl (f2 (below_look hw' hq))) ?_; try simp only [Zq]
  refine ha_call (i := 4) (by kernel_rfl) rfl rfl (fun K hK => ?_)
  go_simp; refine ⟨_, _, ⟨rfl, rfl⟩, hK _ _ ⟨_, cmpI_any _ _ _, ?_⟩⟩; clear hK K; rintro e w4 ⟨rfl, hbc⟩; refine ⟨_, rfl, hS.trans (hbc.mono hS.size), ?_⟩
  replace hS := hS.trans (hbc.mono hS.size)
  try simp only [Zq]
  clear hbc
  refine ha_call (i := 9) (by kernel_rfl) rfl rfl (fun K hK => ?_)
  go_simp; refine ⟨_, _, ⟨rfl, rfl⟩, hK _ _ ⟨_, cmpB_any _ _ _, ?_⟩⟩; clear hK K; rintro e w5 ⟨rfl, hbc⟩; refine ⟨_, rfl, hS.trans (hbc.mono hS.size), ?_⟩
  replace hS := hS.trans (hbc.mono hS.size)
  try simp only [Zq]
  clear hbc
  refine ha_call (i := 14) (by kernel_rfl) rfl rfl (fun K hK => ?_)
  go_simp; refine ⟨_, _, ⟨rfl, rfl⟩, hK _ _ ⟨_, cmpI_any _ _ _, ?_⟩⟩; clear hK K; rintro e w6 ⟨rfl, hbc⟩; refine ⟨_, rfl, hS.trans (hbc.mono hS.size), ?_⟩
  replace hS := hS.trans (hbc.mono hS.size)
  try simp only [Zq]
  clear hbc
  have hb9 := (Below.refl _ w6).alloc (Nat.le_refl _) (.cells #[.int .i64 (sg (cI k k')), .int .i64 (sg (cB s s')), .int .i64 (sg (cI n n'))] 3)
  refine ha_do (i := 15) (by kernel_rfl) rfl rfl (ex_bs61 _ _ _ rfl rfl rfl rfl) (hS.trans (hb9.mono hS.size)) ?_
  have HP : Hid (_ = some _) := Lib.hid (ha_new (w := w6) (o := .cells #[.int .i64 (sg (cI k k')), .int .i64 (sg (cB s s')), .int .i64 (sg (cI n n'))] 3) rfl)
  have HO := Lib.hid (Or_any [sg (cI k k'), sg (cB s s'), sg (cI n n')] _ _ _ _ HP.out 3 rfl (by omega))
  rw [← HV.out] at HO
  replace hS := hS.trans (hb9.mono hS.size)
  clear hb9 HP
  obtain ⟨W9, hW9⟩ : ∃ W9, W9 = (w6.alloc (.cells #[.int .i64 (sg (cI k k')), .int .i64 (sg (cB s s')), .int .i64 (sg (cI n n'))] 3)) := ⟨_, rfl⟩
  obtain ⟨x9, hx9⟩ : ∃ x9, x9 = w6.heap.size := ⟨_, rfl⟩
  rw [← hW9] at HO hS ⊢
  rw [← hx9] at HO ⊢
  clear hW9 hx9 HV
  try simp only [Zq]
  refine ha_call (i := 16) (by kernel_rfl) rfl rfl (fun K hK => ?_)
  go_simp; refine ⟨_, _, ⟨rfl, rfl⟩, hK _ _ ⟨_, HO.out, ?_⟩⟩; clear hK K; rintro e w7 ⟨rfl, hbc⟩; refine ⟨_, rfl, hS.trans (hbc.mono hS.size), ?_⟩
  replace hS := hS.trans (hbc.mono hS.size)
  try simp only [Zq]
  clear hbc HO
  refine hk3 (i := 17) rfl (by kernel_rfl) Zh hS rfl (fun K hK => ?_); go_simp; refine hK _ ?_; clear hK K; try simp only [Zq]
  replace hb := hb.trans (hS.mono hb.size)
  replace hp := below_look hS hp
  replace hq := below_look hS hq
  clear hS hlr
  refine wpAnyH_done (by kernel_rfl) ?_ _
  by_cases h0 : v = 0
  · have e1 : (v != 0) = false := by simp [h0]
    have HC := Lib.hid (lists_of ts us HI.out A A' l c l' c' w7 D D' (HT.out.old hb) (HU.out.old hb))
    have HF : Hid (sg (cmpTys ts us) = sg (cmpTy (.node k s n ts) (.node k' s' n' us))) := Lib.hid (by rw [cmpTy, HB.out, if_pos h0])
    clear h0 HB
    go_upto_region 4 with (fail)
    apply wp_region_lit
    (with_reducible refine wl_k ?_ ?_); exact rfl; intro K hK; go_simp; refine hK _ ?_; clear hK K
    (first | ((with_reducible apply wl_oneG); exact rfl; exact rfl; first | exact f0 (by with_reducible assumption) | exact f1 (by with_reducible assumption) | exact f2 (by with_reducible assumption) | exact f3 (by with_reducible assumption) | with_reducible assumption | exact g22 (by with_reducible assumption) | exact g25 (by with_reducible assumption)) | ((with_reducible apply wl_rowG); exact rfl; exact rfl; first | with_reducible assumption | exact RowK.now (by with_reducible assumption) | exact f4 (by with_reducible assumption)))
    (with_reducible refine wl_k ?_ ?_); exact rfl; intro K hK; go_simp; refine hK _ ?_; clear hK K
    (first | ((with_reducible apply wl_oneG); exact rfl; exact rfl; first | exact f0 (by with_reducible assumption) | exact f1 (by with_reducible assumption) | exact f2 (by with_reducible assumption) | exact f3 (by with_reducible assumption) | with_reducible assumption | exact g22 (by with_reducible assumption) | exact g25 (by with_reducible assumption)) | ((with_reducible apply wl_rowG); exact rfl; exact rfl; first | with_reducible assumption | exact RowK.now (by with_reducible assumption) | exact f4 (by with_reducible assumption)))
    (with_reducible refine wl_ck ?_ ?_); exact rfl; intro K hK; go_simp; refine ⟨_, _, ⟨rfl, rfl⟩, hK _ _ ⟨_, HC.out, ?_⟩⟩; clear hK K; rintro e w8 ⟨rfl, hb7⟩; refine ⟨_, rfl, ?_⟩; simp only [Zq]
    (with_reducible refine wl_k ?_ ?_); exact rfl; intro K hK; go_simp; refine hK _ ?_; clear hK K
    replace hb := hb.trans (hb7.mono hb.size)
    clear hb7 HC hp hq
    go_wp2_with fail
    go_ret
    exact ⟨ret_int HF.out, hb⟩
  · have e1 : (v != 0) = true := by simp [h0]
    have HF : Hid (v = sg (cmpTy (.node k s n ts) (.node k' s' n' us))) := Lib.hid (by rw [cmpTy, HB.out, if_neg h0])
    clear h0 HB hp hq
    go_wp2_with fail
    go_ret
    exact ⟨ret_int HF.out, hb⟩
def sameTy (t u : Ty) : Bool := decide (cmpTy t u = .eq)
theorem sg_same (t u : Ty) : (sg (cmpTy t u) == 0) = sameTy t u := by
  unfold sameTy
  cases cmpTy t u <;> rfl
set_option maxHeartbeats 2000000 in
set_option maxRecDepth 100000 in
theorem Equal_any (t u : Ty) (w : World) (D D' : Nat → Prop) (row row' : Array Value) (h : TyAt w D t row) (h' : TyAt w D' u row') :
    Calls Tryd.prog 27 #[.agg row, .agg row'] w fun e w' => e = .returned (.bool (sameTy t u)) ∧ Below w.heap.size w w' := by
  have HC := Lib.hid h
  have HC2 := Lib.hid h'
  obtain ⟨k, s, n, A, l, c, ts, e, rfl, -⟩ := h.parts
  obtain ⟨k', s', n', A', l', c', us, e', rfl, -⟩ := h'.parts
  clear h h' e e'
  have hb := Below.refl w.heap.size w
  go_enter Tryd.func27, Tryd.ntmps27
  go_upto_region 0 with (fail)
  apply wp_region_lit
  (with_reducible refine wl_box rfl ?_); intro W p hbn hlp hp; replace hb := hb.trans (hbn.mono hb.size); clear hbn; simp only [Zq]
  have lthpq := heap_lt hp; (with_reducible refine wl_box rfl ?_); intro W2 q hbn hlq hq; replace hp := below_look hbn hp; replace hb := hb.trans (hbn.mono hb.size); clear hbn; simp only [Zq]
  (with_reducible refine wl_k ?_ ?_); exact rfl; intro K hK; go_simp; refine hK _ ?_; clear hK K
  go_upto_region 1 with (fail)
  have HD := Lib.hid (compare_any t u W2 D D' _ _ (HC.out.old hb) (HC2.out.old hb))
  apply wp_region_lit
  (first | ((with_reducible apply wl_oneG); exact rfl; exact rfl; first | exact f0 (by with_reducible assumption) | exact f1 (by with_reducible assumption) | exact f2 (by with_reducible assumption) | exact f3 (by with_reducible assumption) | with_reducible assumption | exact g22 (by with_reducible assumption) | exact g25 (by with_reducible assumption)) | ((with_reducible apply wl_rowG); exact rfl; exact rfl; first | with_reducible assumption | exact RowK.now (by with_reducible assumption) | exact f4 (by with_reducible assumption)))
  (first | ((with_reducible apply wl_oneG); exact rfl; exact rfl; first | exact f0 (by with_reducible assumption) | exact f1 (by with_reducible assumption) | exact f2 (by with_reducible assumption) | exact f3 (by with_reducible assumption) | with_reducible assumption | exact g22 (by with_reducible assumption) | exact g25 (by with_reducible assumption)) | ((with_reducible apply wl_rowG); exact rfl; exact rfl; first | with_reducible assumption | exact RowK.now (by with_reducible assumption) | exact f4 (by with_reducible assumption)))
  (with_reducible refine wl_ck ?_ ?_); exact rfl; intro K hK; go_simp; refine ⟨_, _, ⟨rfl, rfl⟩, hK _ _ ⟨_, HD.out, ?_⟩⟩; clear hK K; rintro e w7 ⟨rfl, hb7⟩; refine ⟨_, rfl, ?_⟩; simp only [Zq]
  (with_reducible refine wl_k ?_ ?_); exact rfl; intro K hK; go_simp; refine hK _ ?_; clear hK K
  (with_reducible refine wl_k ?_ ?_); exact rfl; intro K hK; go_simp; refine hK _ ?_; clear hK K
  replace hb := hb.trans (hb7.mono hb.size)
  clear hb7 HD hp hq HC HC2
  go_wp2_with fail
  go_ret
  exact ⟨by rw [← sg_same]; rfl, hb⟩
open Go.RowKit Go.ChangeMaps Go.Proofs.YtokmaehefenpmaaDoor.Nm
theorem same_is (t u : Ty) : sameTy t u = decide (t = u) := by
  unfold sameTy
  by_cases h : t = u
  · subst h; simp [(cmpTy_eq t t).2 rfl]
  · have : cmpTy t u ≠ .eq := fun e => h ((cmpTy_eq t u).1 e)
    simp [h, this]
theorem steps_less {k : Nat} {a b : Ty} {sol : List Ty} {r X : Except Int (List Ty)} (h : Steps k [(a, b)] sol r) (hs : step1 a b sol = less1 X) : r = X := by
  cases h with
  | err h =>
    rw [hs] at h
    exact (less1_err h).symm
  | go h h2 =>
    rw [hs] at h
    obtain ⟨s, h3, h4⟩ := less1_ok h
    injection h4 with g1 g2
    subst g1 g2
    rw [h3]
    cases h2 with
    | nil => rfl
theorem steps_same {k : Nat} {a b : Ty} {sol : List Ty} {r : Except Int (List Ty)} (h : Steps k [(a, b)] sol r) (hs : applyTy sol a = applyTy sol b) : r = .ok sol :=
  steps_less (X := .ok sol) h (by unfold step1; rw [if_pos hs]; rfl)
theorem steps_far {k : Nat} {a b : Ty} {sol : List Ty} {r : Except Int (List Ty)} (h : Steps k [(a, b)] sol r) (hs : step1 a b sol = .error 31) : r = .error 31 := steps_less (X := .error 31) h hs
theorem steps_sub {k : Nat} {a b : Ty} {sol : List Ty} {r : Except Int (List Ty)} (h : Steps k [(a, b)] sol r) {l : Eqs} (hs : step1 a b sol = .ok (l, sol)) : ∃ k', k = k' + 1 ∧ Steps k' l sol r := by
  cases h with
  | err h => rw [hs] at h; cases h
  | go h h2 =>
    rw [hs] at h
    cases h
    rw [List.append_nil] at h2
    exact ⟨_, rfl, h2⟩
/-- What is asked about keeps small under each solution that goes further. -/
def Beyond (m : Nat) (sol s : List Ty) : Prop := ∀ x, FineV m x → applyTy s (applyTy sol x) = applyTy s x
def SmallU (m : Nat) (sol : List Ty) (a : Ty) : Prop := ∀ s, Good m s → Beyond m sol s → (applyTy s a).nodes ≤ 1600
theorem beyond_self {m : Nat} {sol : List Ty} (h : Good m sol) : Beyond m sol sol := fun x hx => app_app h x hx
theorem SmallU.now {m : Nat} {sol : List Ty} {a : Ty} (h : SmallU m sol a) (hg : Good m sol) : (applyTy sol a).nodes ≤ 1600 := h sol hg (beyond_self hg)
theorem Beyond.trans {m : Nat} {s1 s2 s3 : List Ty} (hg : Good m s1) (h : Beyond m s1 s2) (h2 : Beyond m s2 s3) : Beyond m s1 s3 := fun x hx => by
  rw [← h2 _ (fine_app hg.len hg.fine x hx), h x hx, h2 x hx]
theorem SmallU.child {m : Nat} {sol s' : List Ty} {a : Ty} (h : SmallU m sol a) (hg : Good m sol) (hf : FineV m a) {k : Int} {s : ByteArray} {n : Int} {l : List Ty} (he : applyTy sol a = .node k s n l) (hk : k ≠ 12) (hb : Beyond m sol s') {u : Ty} (hu : u ∈ l) : SmallU m s' u := fun s2 g2 b2 => by
  have hb3 := hb.trans hg b2
  have h1 := h s2 g2 hb3
  rw [← hb3 a hf, he, app_node hk] at h1
  simp only [Ty.nodes] at h1
  have := nodesL_mem (List.mem_map_of_mem (f := applyTy s2) hu)
  omega
theorem nodes_times {m : Nat} {s : List Ty} (hg : Good m s) : ∀ x, FineV m x → (applyTy s x).nodes ≤ x.nodes * 40 := FineV.ind (fun v hv => by
    obtain ⟨u, h1, h2, h3⟩ := app_at hg.len hg.fine hv
    rw [h3, nodes_var]
    have := hg.size u h2
    omega) fun k s' n l h1 _ _ ih => by
  have h2 := nodesL_times (f := applyTy s) (c := 40) ih
  rw [app_node h1]
  simp only [Ty.nodes]
  omega
theorem small_start {m : Nat} {sol : List Ty} {a : Ty} (hf : FineV m a) (h : a.nodes ≤ 40) : SmallU m sol a := fun s hg _ => by
  have := nodes_times hg a hf
  omega
theorem BPost.from {w W w' : World} {ps q m : Nat} {x : Except Int (List Ty)} {e : Ending} (hk : Keep (fun b => b = q) w W) (h : BPost W ps q m x e w') : BPost w ps q m x e w' := ⟨hk.trans (fun _ h => .inl h) h.1, h.2⟩
theorem BPost.ret {w w' : World} {ps q m : Nat} {x : Except Int (List Ty)} {e : Ending} (h : BPost w ps q m x e w') : ∃ c : Int, e = .returned (.int .i64 c) ∧ BPost w ps q m x (.returned (.int .i64 c)) w' := by
  obtain ⟨h1, h2⟩ := h
  cases x with
  | error c => exact ⟨c, h2, h1, rfl⟩
  | ok s => exact ⟨0, h2.1, h1, rfl, h2.2⟩
/-- What the solver's equal does at one equation that ends in k steps. -/
def EqualC (m ps q k : Nat) : Prop := ∀ (sol : List Ty) (f : Nat → Option Ty) (a b : Ty) (r : Except Int (List Ty)) (es : Array MapEntry) (clock : Nat) (w : World) (rowa rowb : Array Value), KnownX m sol f → Good m sol → FineV m a → FineV m b → SmallU m sol a → SmallU m sol b → Steps k [(a, b)] sol r → SolR w ps q f es clock → TyAt w (fun b => b ≠ q) a rowa → TyAt w (fun b => b ≠ q) b rowb →
  Calls Tryd.prog 70 #[.pointer (some ⟨ps, 0, none⟩), .agg rowa, .agg rowb] w (BPost w ps q m r)
/-- A row that keeps while the solver's map changes. -/
theorem TysAt.rowC {w : World} {D : Nat → Prop} {ts : List Ty} {b off : Nat} {l c : Nat} (h : TysAt w D ts (some ⟨b, off, none⟩) l c) {i : Nat} {t : Ty} (hi : ts[i]? = some t) {C : Nat → Prop} (hC : ∀ b, D b → ¬ C b) : ∃ row, (∀ w', Keep C w w' → RowAt w' 24 ⟨b, off + i * 4, none⟩ row) ∧ TyAt w D t row := by
  obtain ⟨h1, h2, h3, rows, h4, h5⟩ := h
  obtain ⟨b', off', Cs, t', fr, e1, e2, e3, e4⟩ := h4 i _ hi
  cases e1
  exact ⟨rows i, fun w' hk => row_mid (hk.look e3 (hC _ e2)) e4 u24 rfl (h5 i _ hi).size info24, h5 i _ hi⟩
/-- The step's cases. -/
theorem step_v2 {a b : Ty} {sol : List Ty} {v u : Nat} (ha : applyTy sol a = varT v) (hb : applyTy sol b = varT u) (hne : v ≠ u) : step1 a b sol = less1 (bindP sol (max v u) (varT (min v u))) := by
  unfold step1
  rw [ha, hb, if_neg (fun e => hne (varT_inj e)), if_pos ⟨rfl, rfl⟩]
  rfl
theorem step_va {a b : Ty} {sol : List Ty} {v : Nat} (ha : applyTy sol a = varT v) (hb : (applyTy sol b).kind ≠ 12) : step1 a b sol = less1 (bindP sol v (applyTy sol b)) := by
  unfold step1
  rw [ha, if_neg (fun e => hb (by rw [← e]; rfl)), if_neg (fun h => hb h.2), if_pos (show (varT v).kind = 12 from rfl)]
  rfl
theorem step_vb {a b : Ty} {sol : List Ty} {v : Nat} (ha : (applyTy sol a).kind ≠ 12) (hb : applyTy sol b = varT v) : step1 a b sol = less1 (bindP sol v (applyTy sol a)) := by
  unfold step1
  rw [hb, if_neg (fun e => ha (by rw [e]; rfl)), if_neg (fun h => ha h.1), if_neg ha, if_pos (show (varT v).kind = 12 from rfl)]
  rfl
theorem step_31 {a b : Ty} {sol : List Ty} {k k' n n' : Int} {s s' : ByteArray} {l l' : List Ty} (ha : applyTy sol a = .node k s n l) (hb : applyTy sol b = .node k' s' n' l') (h1 : k ≠ 12) (h2 : k' ≠ 12) (hd : k ≠ k' ∨ s ≠ s' ∨ n ≠ n' ∨ l.length ≠ l'.length) : step1 a b sol = .error 31 := by
  have hne : Ty.node k s n l ≠ Ty.node k' s' n' l' := fun e => by injection e with e1 e2 e3 e4; subst e1 e2 e3 e4; simp at hd
  unfold step1
  rw [ha, hb, if_neg hne]
  have g1 : ¬ (Ty.node k s n l).kind = 12 := h1
  have g2 : ¬ (Ty.node k' s' n' l').kind = 12 := h2
  have g3 : (Ty.node k s n l).kind ≠ (Ty.node k' s' n' l').kind ∨ (Ty.node k s n l).name ≠ (Ty.node k' s' n' l').name ∨ (Ty.node k s n l).num ≠ (Ty.node k' s' n' l').num ∨ (Ty.node k s n l).args.length ≠ (Ty.node k' s' n' l').args.length := hd
  rw [if_neg (fun h => g1 h.1), if_neg g1, if_neg g2, if_pos g3]
theorem step_go {a b : Ty} {sol : List Ty} {k n : Int} {s : ByteArray} {l l' : List Ty} (ha : applyTy sol a = .node k s n l) (hb : applyTy sol b = .node k s n l') (h1 : k ≠ 12) (hne : applyTy sol a ≠ applyTy sol b) (hl : l.length = l'.length) : step1 a b sol = .ok (l.zip l', sol) := by
  rw [ha, hb] at hne
  unfold step1
  rw [ha, hb]
  have g1 : ¬ (Ty.node k s n l).kind = 12 := h1
  have g2 : ¬ (Ty.node k s n l').kind = 12 := h1
  have g3 : ¬ ((Ty.node k s n l).kind ≠ (Ty.node k s n l').kind ∨ (Ty.node k s n l).name ≠ (Ty.node k s n l').name ∨ (Ty.node k s n l).num ≠ (Ty.node k s n l').num ∨ (Ty.node k s n l).args.length ≠ (Ty.node k s n l').args.length) := by simp [Ty.kind, Ty.name, Ty.num, Ty.args, hl]
  rw [if_neg hne, if_neg (fun h => g1 h.1), if_neg g1, if_neg g2, if_neg g3]
  rfl
end Go.Proofs.YtokmaehefenpmaaDoor
