/- 'each', 'right', Open and Valid. -/
import Derived.Test.YtokmaehefenpmaaDoorV1
namespace Go.Proofs.YtokmaehefenpmaaDoor
open Go.RowKit Go.Proofs.YtokmaehefenpmaaDoor.Nm
set_option linter.unusedSimpArgs false
theorem info51 : (Tryd.prog.info? 51).map (·.size) = some 1 := by kernel_rfl
theorem run_box51 (fn : Fn) (f c : Array Value) (w : World) : (Instr.box 51 (.func fn f c)).run Tryd.prog w = .ok (.pointer (some ⟨w.heap.size, 0, none⟩)) (w.alloc (.cells #[.func fn f c] 51)) := by kernel_rfl
theorem run_box4 (b : Bool) (w : World) : (Instr.box 4 (.bool b)).run Tryd.prog w = .ok (.pointer (some ⟨w.heap.size, 0, none⟩)) (w.alloc (.cells #[.bool b] 4)) := by kernel_rfl
theorem ex_alloc51 {o : Oper} (ho : o.op = .alloc 51) (ev : Operand → Value) (w : World) : (execOp ev o).run Tryd.prog w = .ok (.value (.pointer (some ⟨w.heap.size, 0, none⟩))) (w.alloc (.cells #[.nilFunc] 51)) := by
  unfold execOp
  simp only [ho]
  kernel_rfl
theorem ex_alloc3 {o : Oper} (ho : o.op = .alloc 3) (ev : Operand → Value) (w : World) : (execOp ev o).run Tryd.prog w = .ok (.value (.pointer (some ⟨w.heap.size, 0, none⟩))) (w.alloc (.cells #[.int .i64 0] 3)) := by
  unfold execOp
  simp only [ho]
  kernel_rfl
section
variable {ops : Array Oper} {rest : List Oper} {dst : Option Tmp} {ty ty' : TypeId} {x y : Operand} {pos : String} {after : Array Edge} {a : Act} {w : World} {Q : Exit → Act → World → Prop}
theorem wl_box51 {fn : Fn} {f c : Array Value} (hx : a.eval x = .func fn f c)
    (h : ∀ W p, Below w.heap.size w W → w.heap.size ≤ p → W.heap[p]? = some (.cells #[.func fn f c] 51 (0, 0)) → wpList Tryd.prog ops Q rest (a.put dst (.pointer (some ⟨p, 0, none⟩))) W) :
    wpList Tryd.prog ops Q (⟨dst, .box 51 x, ty', pos, after, none⟩ :: rest) a w :=
  wl_w rfl (by unfold execOp; simp [hx, run_box51 fn f c w, Result.andThen]) (h _ _ ((Below.refl _ w).alloc (Nat.le_refl _) _) (Nat.le_refl _) (ha_new rfl))
theorem wl_box4 {b : Bool} (hx : a.eval x = .bool b)
    (h : ∀ W p, Below w.heap.size w W → w.heap.size ≤ p → W.heap[p]? = some (.cells #[.bool b] 4 (0, 0)) → wpList Tryd.prog ops Q rest (a.put dst (.pointer (some ⟨p, 0, none⟩))) W) :
    wpList Tryd.prog ops Q (⟨dst, .box 4 x, ty', pos, after, none⟩ :: rest) a w :=
  wl_w rfl (by unfold execOp; simp [hx, run_box4 b w, Result.andThen]) (h _ _ ((Below.refl _ w).alloc (Nat.le_refl _) _) (Nat.le_refl _) (ha_new rfl))
theorem wl_all51 (h : ∀ W p, Below w.heap.size w W → w.heap.size ≤ p → W.heap[p]? = some (.cells #[.nilFunc] 51 (0, 0)) → wpList Tryd.prog ops Q rest (a.put dst (.pointer (some ⟨p, 0, none⟩))) W) :
    wpList Tryd.prog ops Q (⟨dst, .alloc 51, ty', pos, after, none⟩ :: rest) a w :=
  wl_w rfl (ex_alloc51 rfl _ w) (h _ _ ((Below.refl _ w).alloc (Nat.le_refl _) _) (Nat.le_refl _) (ha_new rfl))
theorem wl_all3 (h : ∀ W p, Below w.heap.size w W → w.heap.size ≤ p → W.heap[p]? = some (.cells #[.int .i64 0] 3 (0, 0)) → wpList Tryd.prog ops Q rest (a.put dst (.pointer (some ⟨p, 0, none⟩))) W) :
    wpList Tryd.prog ops Q (⟨dst, .alloc 3, ty', pos, after, none⟩ :: rest) a w :=
  wl_w rfl (ex_alloc3 rfl _ w) (h _ _ ((Below.refl _ w).alloc (Nat.le_refl _) _) (Nat.le_refl _) (ha_new rfl))
/-- One cell over a variable of one cell. -/
theorem wl_put1 {p : Nat} {v0 v : Value} {t : TypeId} (hi : (Tryd.prog.info? ty).map (·.size) = some 1) (h1 : v.oneCell' = true) (hx : a.eval x = .pointer (some ⟨p, 0, none⟩)) (hy : a.eval y = v) (hp : w.heap[p]? = some (.cells #[v0] t (0, 0)))
    (h : ∀ W, (∀ B w0, B ≤ p → Below B w0 w → Below B w0 W) → W.heap.size = w.heap.size → (∀ g, g ≠ p → W.heap[g]? = w.heap[g]?) → W.heap[p]? = some (.cells #[v] t (0, 0)) → wpList Tryd.prog ops Q rest (a.put none undef) W) :
    wpList Tryd.prog ops Q (⟨none, .store ty x y, ty', pos, after, none⟩ :: rest) a w := by
  refine wl_storeC rfl ty x y rfl p 0 _ hx hy hi h1 (by rw [cell_of_row _ _ _ _ _ _ hp]; rfl) (by unfold World.frozen?; rw [hp]; rfl) ?_
  exact h _ (fun B w0 hB hb => hb.setCell hB _) (by simp [World.setCell]) (fun g hg => heap_setCell_other _ _ _ _ hg) (by rw [hs_new hp]; rfl)
end
section
variable {σ : Type} {Q : Ty → Prop} {K : FuncId} {caps : Array Value} {g : Ty → σ → Bool × σ} {Inv : World → (Nat → Prop) → σ → Prop}
set_option maxHeartbeats 4000000 in
set_option maxRecDepth 100000 in
theorem each_any (hV : VisC Q K caps g Inv) (hQ : ∀ k s n l, Q (.node k s n l) → ∀ u, u ∈ l → Q u) (t : Ty) (hq : Q t) (w : World) (C : Nat → Prop) (st : σ) (D : Nat → Prop) (row : Array Value) (hI : Inv w C st) (h : TyAt w D t row) (hD : ∀ b, D b → ¬ C b) :
    Calls Tryd.prog 66 #[.agg row, .func (.func K) #[] caps] w (VPost Inv C w (visit g t st)) := by
  have hmf : ∀ (fn : Fn) (first cap : Array Value) (w : World), (Instr.makeFunc fn first cap).run Tryd.prog w = .ok (.func fn first cap) w := fun _ _ _ _ => rfl
  obtain ⟨k, s, n, A, l, c, ts, he, rfl, -⟩ := h.parts
  have HT := Lib.hid h
  have HE := Lib.hid (each1_any hV hQ t hq)
  have HV := Lib.hid hV
  have HI := Lib.hid hI
  have HD := Lib.hid hD
  have hCl := Lib.hid (hV.low w C st hI)
  clear h hV hq hI hD he hQ
  have hb := Below.refl w.heap.size w
  go_enter Tryd.func66, Tryd.ntmps66
  go_upto_region 0 with (fail)
  apply wp_region_lit
  (with_reducible refine wl_box rfl ?_); intro W p hbn hlp hp; replace hb := hb.trans (hbn.mono hb.size); clear hbn; simp only [put_lit, List.set_cons_zero, List.set_cons_succ]
  have lthppf := heap_lt hp; (with_reducible refine wl_box51 rfl ?_); intro W1 pf hbn hlpf hpf; replace hp := below_look hbn hp; replace hb := hb.trans (hbn.mono hb.size); clear hbn; simp only [put_lit, List.set_cons_zero, List.set_cons_succ]
  (with_reducible refine wl_k ?_ ?_); exact rfl; intro K hK; go_simp; refine hK _ ?_; clear hK K
  go_upto_region 1 with (fail)
  apply wp_region_lit
  have lthppw := heap_lt hp; have lthpfpw := heap_lt hpf; (with_reducible refine wl_all51 ?_); intro W2 pw hbn hlpw hpw; replace hp := below_look hbn hp; replace hpf := below_look hbn hpf; replace hb := hb.trans (hbn.mono hb.size); clear hbn; simp only [put_lit, List.set_cons_zero, List.set_cons_succ]
  go_upto_region 2 with (fail)
  apply wp_region_lit
  (with_reducible refine wl_k ?_ ?_); exact rfl; intro K hK; go_simp; refine hK _ ?_; clear hK K
  (with_reducible refine wl_put1 (v := .func (.func 95) #[] #[.pointer (some ⟨pf, 0, none⟩), .pointer (some ⟨pw, 0, none⟩)]) info51 ?_ ?_ ?_ hpw ?_); exact rfl; exact rfl; exact rfl; rw [put_noneA]; intro W3 hbx hsz hkx hnx; replace hp := (hkx _ (by omega)).trans hp; replace hpf := (hkx _ (by omega)).trans hpf; replace hb := hbx _ _ (by omega) hb; clear hpw; have hpw := hnx; clear hnx
  clear hbx hkx hsz
  have HC := Lib.hid (HE.out W3 C st pf pw D _ (HV.out.keep w C st HI.out W3 hb) ⟨hpf, hpw, fun hc => by have := hCl.out _ hc; omega, fun hc => by have := hCl.out _ hc; omega⟩ (HT.out.old hb) HD.out)
  go_upto_region 3 with (fail)
  apply wp_region_lit
  (with_reducible apply wl_oneG); exact rfl; exact rfl; exact g51 hpw
  (first | ((with_reducible apply wl_oneG); exact rfl; exact rfl; first | exact f0 (by with_reducible assumption) | exact f1 (by with_reducible assumption) | exact f2 (by with_reducible assumption) | exact f3 (by with_reducible assumption) | with_reducible assumption | exact g22 (by with_reducible assumption) | exact g25 (by with_reducible assumption)) | ((with_reducible apply wl_rowG); exact rfl; exact rfl; first | with_reducible assumption | exact RowK.now (by with_reducible assumption) | exact f4 (by with_reducible assumption)))
  (with_reducible refine wl_ck ?_ ?_); exact rfl; intro K hK; go_simp; refine ⟨_, _, ⟨rfl, rfl⟩, hK _ _ ⟨_, HC.out, ?_⟩⟩; clear hK K; rintro e w7 ⟨rfl, C7, hI7, hk7, hC7⟩; refine ⟨_, rfl, ?_⟩; simp only [put_lit, List.set_cons_zero, List.set_cons_succ]
  have HI7 := Lib.hid hI7
  have HK7 := Lib.hid ((Keep.of hb).trans (fun b h => Or.inl h) hk7)
  have HC7 := Lib.hid (show ∀ b, C7 b → C b ∨ w.heap.size ≤ b from fun b h => (hC7 b h).imp id (fun h => by have := hb.size; omega))
  clear hI7 hk7 hC7 hp hpf hpw
  (with_reducible refine wl_k ?_ ?_); exact rfl; intro K hK; go_simp; refine hK _ ?_; clear hK K
  go_wp2_with fail
  go_ret
  exact ret_vis rfl HI7.out HK7.out HC7.out
end
theorem g3 {w : World} {p : Nat} {v : Value} {t : TypeId} {fr : Nat × Nat} (h : w.heap[p]? = some (.cells #[v] t fr)) : OneAt w 3 ⟨p, 0, none⟩ v := one_of u3 rfl (by rw [cell_of_row _ _ _ _ _ _ h]; rfl)
theorem g4 {w : World} {p : Nat} {v : Value} {t : TypeId} {fr : Nat × Nat} (h : w.heap[p]? = some (.cells #[v] t fr)) : OneAt w 4 ⟨p, 0, none⟩ v := one_of u4 rfl (by rw [cell_of_row _ _ _ _ _ _ h]; rfl)
theorem ent103 : Enters Tryd.prog 103 := enters_of Tryd.func103 (by kernel_rfl) rfl
/-- What 'right' does at a node. -/
def stepR (f : Ty → Bool) (t : Ty) (left : Int) : Bool × Int := (if 0 ≤ left - 1 ∧ f t = true then true else false, left - 1)
/-- The counter of 'right', its variable and that of 'open'. -/
def InvR (op : Bool) (pl po : Nat) (w : World) (C : Nat → Prop) (left : Int) : Prop :=
  w.heap[pl]? = some (.cells #[.int .i64 left] 3 (0, 0)) ∧ w.heap[po]? = some (.cells #[.bool op] 4 (0, 0)) ∧ pl ≠ po ∧ (∀ b, C b ↔ b = pl) ∧ 0 ≤ left ∧ left ≤ 1000
def ShC (op : Bool) (f : Ty → Bool) (t : Ty) : Prop := ∀ (w : World) (D : Nat → Prop) (row : Array Value), TyAt w D t row → Calls Tryd.prog 104 #[.agg row, .bool op] w fun e w' => e = .returned (.bool (f t)) ∧ Below w.heap.size w w'
theorem stepR_eq (f : Ty → Bool) (k : Int) (s : ByteArray) (n : Int) (l : List Ty) (left : Int) : stepR f (.node k s n l) left = if 0 ≤ left - 1 ∧ f (.node k s n l) = true then (true, left - 1) else (false, left - 1) := by
  unfold stepR; split <;> rfl
theorem stepR_ok (f : Ty → Bool) (t : Ty) {left : Int} (h : 0 ≤ left - 1) : (stepR f t left).1 = f t := by
  unfold stepR
  cases hf : f t with
  | true => rw [if_pos ⟨h, rfl⟩]
  | false => rw [if_neg (fun hh => by cases hh.2)]
theorem visit_chk (f : Ty → Bool) : ∀ (t : Ty) (left : Int), visit (stepR f) t left = chk f t left := Ty.ind fun k s n l ih left => by
  have hl : ∀ (l : List Ty), (∀ t, t ∈ l → ∀ left, visit (stepR f) t left = chk f t left) → ∀ left, visits (stepR f) l left = chks f l left := by
    intro l
    induction l with
    | nil => intro _ left; rfl
    | cons t l ihl =>
      intro h left
      simp only [visits, chks, h t (by simp)]
      cases chk f t left with
      | mk b x => cases b with
        | false => rfl
        | true => exact ihl (fun t ht => h t (by simp [ht])) x
  simp only [visit, chk, stepR_eq]
  by_cases hc : 0 ≤ left - 1 ∧ f (.node k s n l) = true
  · rw [if_pos hc, if_pos hc]; exact hl l ih _
  · rw [if_neg hc, if_neg hc]
set_option maxHeartbeats 4000000 in
set_option maxRecDepth 100000 in
theorem right1_any (op : Bool) (f : Ty → Bool) (pl po : Nat) (left : Int) (hleft : -1000 ≤ left ∧ left ≤ 1000) (t : Ty) (hS : ShC op f t) (w : World) (C : Nat → Prop) (hl : w.heap[pl]? = some (.cells #[.int .i64 left] 3 (0, 0))) (ho : w.heap[po]? = some (.cells #[.bool op] 4 (0, 0))) (hne : pl ≠ po) (hCl : C pl) (D : Nat → Prop) (row : Array Value) (h : TyAt w D t row) (hD : ∀ b, D b → ¬ C b) :
    Calls Tryd.prog 103 #[.agg row, .pointer (some ⟨pl, 0, none⟩), .pointer (some ⟨po, 0, none⟩)] w fun e w' => e = .returned (.bool (stepR f t left).1) ∧ w'.heap[pl]? = some (.cells #[.int .i64 (left - 1)] 3 (0, 0)) ∧ w'.heap[po]? = some (.cells #[.bool op] 4 (0, 0)) ∧ Keep C w w' := by
  obtain ⟨k, s, n, A, l, c, ts, he, rfl, -⟩ := h.parts
  have HT := Lib.hid h
  have HS := Lib.hid hS
  have HD := Lib.hid hD
  obtain ⟨h1, h2⟩ := hleft
  clear h hS hD he
  have hb := Below.refl w.heap.size w
  go_enter Tryd.func103, Tryd.ntmps103
  go_upto_region 0 with (fail)
  apply wp_region_lit
  have lthlp := heap_lt hl; have lthop := heap_lt ho; (with_reducible refine wl_box rfl ?_); intro W p hbn hlp hp; replace hl := below_look hbn hl; replace ho := below_look hbn ho; replace hb := hb.trans (hbn.mono hb.size); clear hbn; simp only [put_lit, List.set_cons_zero, List.set_cons_succ]
  (with_reducible refine wl_k ?_ ?_); exact rfl; intro K hK; go_simp; refine hK _ ?_; clear hK K
  have hTW := HT.out.old hb
  have HKP := Lib.hid (Keep.of (C := C) hb)
  go_upto_region 1 with (fail)
  apply wp_region_lit
  ((with_reducible apply wl_oneG); exact rfl; exact rfl; exact g3 hl)
  simp only [put_lit, List.set_cons_zero, List.set_cons_succ]
  have hwr : IntKind.i64.wrap (left - 1) = left - 1 := IntWalk.i64_in _ (by omega)
  (with_reducible refine wl_k ?_ ?_); exact rfl; intro K hK; go_simp; refine hK _ ?_; clear hK K
  clear hwr
  (with_reducible refine wl_put1 (v := .int .i64 (left - 1)) info3 ?_ ?_ ?_ hl ?_); exact rfl; exact rfl; exact rfl; rw [put_noneA]; intro W2 hbx hsz hkx hnx; replace ho := (hkx _ (by omega)).trans ho; replace hp := (hkx _ (by omega)).trans hp; clear hl; have hl := hnx; clear hnx
  have HTW := Lib.hid ((hTW.low.mono (w' := W2) (fun _ h => h) (fun b hb => hkx b (fun e => HD.out b hb.1 (by rw [e]; exact hCl)))).weak (D' := D) fun b h => h.1)
  replace HKP := Lib.hid (HKP.out.trans (C' := C) (fun b h => Or.inl h) (w2 := W2) ⟨(hbx 0 W (Nat.zero_le _) (Below.refl _ _)).os, (hbx 0 W (Nat.zero_le _) (Below.refl _ _)).tape, (hbx 0 W (Nat.zero_le _) (Below.refl _ _)).output, (hbx 0 W (Nat.zero_le _) (Below.refl _ _)).size, fun b _ hn => hkx b (fun e => hn (by rw [e]; exact hCl))⟩)
  clear hbx hkx hsz hTW hb
  by_cases h3 : 0 ≤ left - 1
  · have e3 : (left - 1) ≥ 0 := h3
    have e4 : 1 ≤ left := by omega
    have hC := HS.out W2 D _ HTW.out
    have HR : Hid ((stepR f t left).1 = f t) := Lib.hid (stepR_ok f t h3)
    obtain ⟨fb, hfb⟩ : ∃ fb, fb = f t := ⟨_, rfl⟩
    rw [← hfb] at HR hC
    have HC := Lib.hid hC
    clear hC hfb
    go_upto_region 2 with (fail)
    apply wp_region_lit
    (with_reducible apply wl_oneG); exact rfl; exact rfl; exact g3 hl
    (with_reducible refine wl_k ?_ ?_); exact rfl; intro K hK; go_simp; refine hK _ ?_; clear hK K
    (with_reducible refine wl_k ?_ ?_); exact rfl; intro K hK; go_simp; refine hK _ ?_; clear hK K
    (first | ((with_reducible apply wl_oneG); exact rfl; exact rfl; first | exact f0 (by with_reducible assumption) | exact f1 (by with_reducible assumption) | exact f2 (by with_reducible assumption) | exact f3 (by with_reducible assumption) | with_reducible assumption | exact g22 (by with_reducible assumption) | exact g25 (by with_reducible assumption)) | ((with_reducible apply wl_rowG); exact rfl; exact rfl; first | with_reducible assumption | exact RowK.now (by with_reducible assumption) | exact f4 (by with_reducible assumption)))
    (with_reducible apply wl_oneG); exact rfl; exact rfl; exact g4 ho
    (with_reducible refine wl_ck ?_ ?_); exact rfl; intro K hK; go_simp; refine ⟨_, _, ⟨rfl, rfl⟩, hK _ _ ⟨_, HC.out, ?_⟩⟩; clear hK K; rintro e w7 ⟨rfl, hb7⟩; refine ⟨_, rfl, ?_⟩; simp only [put_lit, List.set_cons_zero, List.set_cons_succ]
    (with_reducible refine wl_k ?_ ?_); exact rfl; intro K hK; go_simp; refine hK _ ?_; clear hK K
    (with_reducible refine wl_k ?_ ?_); exact rfl; intro K hK; go_simp; refine hK _ ?_; clear hK K
    replace HKP := Lib.hid (HKP.out.trans (C' := C) (fun b h => Or.inl h) (Keep.of hb7))
    replace hl := below_look hb7 hl; replace ho := below_look hb7 ho; clear hb7
    have HL := Lib.hid hl
    have HO := Lib.hid ho
    clear hl ho hp HC
    go_wp2_with fail
    go_ret
    exact ⟨by rw [HR.out]; rfl, HL.out, HO.out, HKP.out⟩
  · have e3 : ¬ (left - 1) ≥ 0 := h3
    have e4 : ¬ 1 ≤ left := by omega
    have e5 : left < 1 := by omega
    have HR : Hid ((stepR f t left).1 = false) := Lib.hid (by
      unfold stepR
      rw [if_neg (fun h => h3 h.1)])
    have HL := Lib.hid hl
    have HO := Lib.hid ho
    go_upto_region 2 with (fail)
    apply wp_region_lit
    (with_reducible apply wl_oneG); exact rfl; exact rfl; exact g3 hl
    (with_reducible refine wl_k ?_ ?_); exact rfl; intro K hK; go_simp; refine hK _ ?_; clear hK K
    (with_reducible refine wl_k ?_ ?_); exact rfl; intro K hK; go_simp; refine hK _ ?_; clear hK K
    (first | ((with_reducible refine wl_skipU ?_ ?_ ?_); exact rfl; exact rfl) | ((with_reducible refine wl_skip ?_ ?_); exact rfl; simp only [put_lit, List.set_cons_zero, List.set_cons_succ]))
    (first | ((with_reducible refine wl_skipU ?_ ?_ ?_); exact rfl; exact rfl) | ((with_reducible refine wl_skip ?_ ?_); exact rfl; simp only [put_lit, List.set_cons_zero, List.set_cons_succ]))
    (first | ((with_reducible refine wl_skipU ?_ ?_ ?_); exact rfl; exact rfl) | ((with_reducible refine wl_skip ?_ ?_); exact rfl; simp only [put_lit, List.set_cons_zero, List.set_cons_succ]))
    (with_reducible refine wl_k ?_ ?_); exact rfl; intro K hK; go_simp; refine hK _ ?_; clear hK K
    (with_reducible refine wl_k ?_ ?_); exact rfl; intro K hK; go_simp; refine hK _ ?_; clear hK K
    clear hl ho hp
    go_wp2_with fail
    go_ret
    exact ⟨by rw [HR.out]; rfl, HL.out, HO.out, HKP.out⟩
theorem visC_right (op : Bool) (f : Ty → Bool) (Q : Ty → Prop) (hS : ∀ t, Q t → ShC op f t) (pl po : Nat) : VisC Q 103 #[.pointer (some ⟨pl, 0, none⟩), .pointer (some ⟨po, 0, none⟩)] (stepR f) (InvR op pl po) where
  ent := ent103
  low := fun w C s hI b hb => by rw [(hI.2.2.2.1 b).1 hb]; exact heap_lt hI.1
  keep := fun w C s hI w' hb => ⟨below_look hb hI.1, below_look hb hI.2.1, hI.2.2⟩
  run := fun w C s hI t hq D row h hD => by
    obtain ⟨h1, h2, h3, h4, h5, h6⟩ := hI
    refine (right1_any op f pl po s ⟨by omega, h6⟩ t (hS t hq) w C h1 h2 h3 ((h4 pl).2 rfl) D row h hD).mono ?_
    rintro e w' ⟨rfl, g1, g2, g3⟩
    refine ⟨rfl, C, fun hr => ⟨by simpa [stepR] using g1, g2, h3, h4, ?_, ?_⟩, g3, fun b h => Or.inl h⟩
    · unfold stepR at hr
      split at hr
      · rename_i hh; exact hh.1
      · cases hr
    · simp only [stepR]; omega
set_option maxHeartbeats 4000000 in
set_option maxRecDepth 100000 in
theorem right_any (op : Bool) (f : Ty → Bool) (Q : Ty → Prop) (hS : ∀ t, Q t → ShC op f t) (hQ : ∀ k s n l, Q (.node k s n l) → ∀ u, u ∈ l → Q u) (t : Ty) (hq : Q t) (w : World) (D : Nat → Prop) (row : Array Value) (h : TyAt w D t row) :
    Calls Tryd.prog 74 #[.agg row, .bool op] w fun e w' => e = .returned (.bool (chk f t 40).1) ∧ Below w.heap.size w w' := by
  have hmf : ∀ (fn : Fn) (first cap : Array Value) (w : World), (Instr.makeFunc fn first cap).run Tryd.prog w = .ok (.func fn first cap) w := fun _ _ _ _ => rfl
  obtain ⟨D0, h0, hlow⟩ : ∃ D : Nat → Prop, TyAt w D t row ∧ ∀ b, D b → b < w.heap.size := ⟨fun b => D b ∧ b < w.heap.size, h.low, fun b hb => hb.2⟩
  obtain ⟨k, s, n, A, l, c, ts, he, rfl, -⟩ := h.parts
  have HT := Lib.hid h0
  have HLW := Lib.hid hlow
  have HE := Lib.hid fun pl po w C z => each_any (visC_right op f Q hS pl po) hQ t hq w C z D0 (cell4 k s n A l c)
  clear h h0 hlow hq hS hQ he
  have hb := Below.refl w.heap.size w
  go_enter Tryd.func74, Tryd.ntmps74
  go_upto_region 0 with (fail)
  apply wp_region_lit
  (with_reducible refine wl_box rfl ?_); intro W p hbn hlp hp; replace hb := hb.trans (hbn.mono hb.size); clear hbn; simp only [put_lit, List.set_cons_zero, List.set_cons_succ]
  have lthppo := heap_lt hp; (with_reducible refine wl_box4 rfl ?_); intro W1 po hbn hlpo hpo; replace hp := below_look hbn hp; replace hb := hb.trans (hbn.mono hb.size); clear hbn; simp only [put_lit, List.set_cons_zero, List.set_cons_succ]
  (with_reducible refine wl_k ?_ ?_); exact rfl; intro K hK; go_simp; refine hK _ ?_; clear hK K
  go_upto_region 1 with (fail)
  apply wp_region_lit
  have lthppl := heap_lt hp; have lthpopl := heap_lt hpo; (with_reducible refine wl_all3 ?_); intro W2 pl hbn hlpl hpl; replace hp := below_look hbn hp; replace hpo := below_look hbn hpo; replace hb := hb.trans (hbn.mono hb.size); clear hbn; simp only [put_lit, List.set_cons_zero, List.set_cons_succ]
  (with_reducible refine wl_put1 (v := .int .i64 40) info3 ?_ ?_ ?_ hpl ?_); exact rfl; exact rfl; exact rfl; rw [put_noneA]; intro W3 hbx hsz hkx hnx; replace hp := (hkx _ (by omega)).trans hp; replace hpo := (hkx _ (by omega)).trans hpo; replace hb := hbx _ _ (by omega) hb; clear hpl; have hpl := hnx; clear hnx
  clear hbx hkx hsz
  have hlt := heap_lt hpl
  have HC := Lib.hid (HE.out pl po W3 (fun b => b = pl) 40 ⟨hpl, hpo, by omega, fun b => Iff.rfl, by omega, by omega⟩ (HT.out.old hb) (fun b hb e => by have := HLW.out b hb; omega))
  go_upto_region 2 with (fail)
  apply wp_region_lit
  (first | ((with_reducible apply wl_oneG); exact rfl; exact rfl; first | exact f0 (by with_reducible assumption) | exact f1 (by with_reducible assumption) | exact f2 (by with_reducible assumption) | exact f3 (by with_reducible assumption) | with_reducible assumption | exact g22 (by with_reducible assumption) | exact g25 (by with_reducible assumption)) | ((with_reducible apply wl_rowG); exact rfl; exact rfl; first | with_reducible assumption | exact RowK.now (by with_reducible assumption) | exact f4 (by with_reducible assumption)))
  (with_reducible refine wl_k ?_ ?_); exact rfl; intro K hK; go_simp; refine hK _ ?_; clear hK K
  (with_reducible refine wl_ck ?_ ?_); exact rfl; intro K hK; go_simp; refine ⟨_, _, ⟨rfl, rfl⟩, hK _ _ ⟨_, HC.out, ?_⟩⟩; clear hK K; rintro e w7 ⟨rfl, C7, -, hk7, -⟩; refine ⟨_, rfl, ?_⟩; simp only [put_lit, List.set_cons_zero, List.set_cons_succ]
  (with_reducible refine wl_k ?_ ?_); exact rfl; intro K hK; go_simp; refine hK _ ?_; clear hK K
  have hb7 : Below w.heap.size w w7 := hb.trans ⟨hk7.os, hk7.tape, hk7.output, hk7.size, fun b hlt2 => hk7.block b (by have := hb.size; omega) (by omega)⟩
  have HR : Hid ((visit (stepR f) t 40).1 = (chk f t 40).1) := Lib.hid (by rw [visit_chk])
  clear hk7 hp hpo hpl HC
  go_wp2_with fail
  go_ret
  exact ⟨by rw [← HR.out]; rfl, hb7⟩
/-- Open and Valid. -/
theorem Open_any (f : Ty → Bool) (Q : Ty → Prop) (hS : ∀ t, Q t → ShC true f t) (hQ : ∀ k s n l, Q (.node k s n l) → ∀ u, u ∈ l → Q u) (t : Ty) (hq : Q t) (w : World) (D : Nat → Prop) (row : Array Value) (h : TyAt w D t row) :
    Calls Tryd.prog 59 #[.agg row] w fun e w' => e = .returned (.bool (chk f t 40).1) ∧ Below w.heap.size w w' := by
  obtain ⟨k, s, n, A, l, c, ts, he, rfl, -⟩ := h.parts
  have HT := Lib.hid h
  have HE := Lib.hid fun w D => right_any true f Q hS hQ t hq w D (cell4 k s n A l c)
  clear h hS hQ hq he
  have hb := Below.refl w.heap.size w
  go_enter Tryd.func59, Tryd.ntmps59
  go_upto_region 0 with (fail)
  apply wp_region_lit
  (with_reducible refine wl_box rfl ?_); intro W p hbn hlp hp; replace hb := hb.trans (hbn.mono hb.size); clear hbn; simp only [put_lit, List.set_cons_zero, List.set_cons_succ]
  (with_reducible refine wl_k ?_ ?_); exact rfl; intro K hK; go_simp; refine hK _ ?_; clear hK K
  have HC := Lib.hid (HE.out W D (HT.out.old hb))
  go_upto_region 1 with (fail)
  apply wp_region_lit
  (first | ((with_reducible apply wl_oneG); exact rfl; exact rfl; first | exact f0 (by with_reducible assumption) | exact f1 (by with_reducible assumption) | exact f2 (by with_reducible assumption) | exact f3 (by with_reducible assumption) | with_reducible assumption | exact g22 (by with_reducible assumption) | exact g25 (by with_reducible assumption)) | ((with_reducible apply wl_rowG); exact rfl; exact rfl; first | with_reducible assumption | exact RowK.now (by with_reducible assumption) | exact f4 (by with_reducible assumption)))
  (with_reducible refine wl_ck ?_ ?_); exact rfl; intro K hK; go_simp; refine ⟨_, _, ⟨rfl, rfl⟩, hK _ _ ⟨_, HC.out, ?_⟩⟩; clear hK K; rintro e w7 ⟨rfl, hb7⟩; refine ⟨_, rfl, ?_⟩; simp only [put_lit, List.set_cons_zero, List.set_cons_succ]
  (with_reducible refine wl_k ?_ ?_); exact rfl; intro K hK; go_simp; refine hK _ ?_; clear hK K
  replace hb := hb.trans (hb7.mono hb.size); clear hb7
  clear hp HC
  go_wp2_with fail
  go_ret
  exact ⟨rfl, hb⟩
theorem Valid_any (f : Ty → Bool) (Q : Ty → Prop) (hS : ∀ t, Q t → ShC false f t) (hQ : ∀ k s n l, Q (.node k s n l) → ∀ u, u ∈ l → Q u) (t : Ty) (hq : Q t) (w : World) (D : Nat → Prop) (row : Array Value) (h : TyAt w D t row) :
    Calls Tryd.prog 47 #[.agg row] w fun e w' => e = .returned (.bool (chk f t 40).1) ∧ Below w.heap.size w w' := by
  obtain ⟨k, s, n, A, l, c, ts, he, rfl, -⟩ := h.parts
  have HT := Lib.hid h
  have HE := Lib.hid fun w D => right_any false f Q hS hQ t hq w D (cell4 k s n A l c)
  clear h hS hQ hq he
  have hb := Below.refl w.heap.size w
  go_enter Tryd.func47, Tryd.ntmps47
  go_upto_region 0 with (fail)
  apply wp_region_lit
  (with_reducible refine wl_box rfl ?_); intro W p hbn hlp hp; replace hb := hb.trans (hbn.mono hb.size); clear hbn; simp only [put_lit, List.set_cons_zero, List.set_cons_succ]
  (with_reducible refine wl_k ?_ ?_); exact rfl; intro K hK; go_simp; refine hK _ ?_; clear hK K
  have HC := Lib.hid (HE.out W D (HT.out.old hb))
  go_upto_region 1 with (fail)
  apply wp_region_lit
  (first | ((with_reducible apply wl_oneG); exact rfl; exact rfl; first | exact f0 (by with_reducible assumption) | exact f1 (by with_reducible assumption) | exact f2 (by with_reducible assumption) | exact f3 (by with_reducible assumption) | with_reducible assumption | exact g22 (by with_reducible assumption) | exact g25 (by with_reducible assumption)) | ((with_reducible apply wl_rowG); exact rfl; exact rfl; first | with_reducible assumption | exact RowK.now (by with_reducible assumption) | exact f4 (by with_reducible assumption)))
  (with_reducible refine wl_ck ?_ ?_); exact rfl; intro K hK; go_simp; refine ⟨_, _, ⟨rfl, rfl⟩, hK _ _ ⟨_, HC.out, ?_⟩⟩; clear hK K; rintro e w7 ⟨rfl, hb7⟩; refine ⟨_, rfl, ?_⟩; simp only [put_lit, List.set_cons_zero, List.set_cons_succ]
  (with_reducible refine wl_k ?_ ?_); exact rfl; intro K hK; go_simp; refine hK _ ?_; clear hK K
  replace hb := hb.trans (hb7.mono hb.size); clear hb7
  clear hp HC
  go_wp2_with fail
  go_ret
  exact ⟨rfl, hb⟩
end Go.Proofs.YtokmaehefenpmaaDoor
