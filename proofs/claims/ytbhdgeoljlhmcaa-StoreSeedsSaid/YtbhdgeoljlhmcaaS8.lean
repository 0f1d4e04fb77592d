/- A buffer copied, by the program. -/
import Derived.Test.YtbhdgeoljlhmcaaS7
import Derived.Outline
import Derived.Great.BuildSlice
namespace Go.Proofs.Ytbhdgeoljlhmcaa
open Go.RowKit Go.Proofs.Ytbhdgeoljlhmcaa.Nm Go.Proofs.Ytbhdgeoljlhmcaa.St
set_option linter.unusedSimpArgs false
theorem run_storeC (b o : Nat) (ty : TypeId) (v : Value) (w : World) (hi : (Try.prog.info? ty).map (·.size) = some 1) (h1 : v.oneCell' = true) (hc : (w.cell? ⟨b, o, none⟩).isSome = true) (hf : w.frozen? ⟨b, o, none⟩ = false) :
    (storeVar ty ⟨b, o, none⟩ v).run Try.prog w = .ok () (w.setCell ⟨b, o, none⟩ v) := by
  have hst := run_storeCells_cells (P := Try.prog) b o [v] 0 w (by intro j hj; simp at hj; subst hj; simpa using hc) (by intro j hj; simp at hj; subst hj; simpa using hf) (by intro u hu; simp at hu; subst hu; exact h1)
  have hcl : v.cells = #[v] := by cases v <;> first | rfl | cases h1
  cases hq : Try.prog.info? ty with
  | none => simp [hq] at hi
  | some i =>
    have hs : i.size = 1 := by simpa [hq] using hi
    simp [storeVar, sizeOf, typeInfo, hq, hcl, hs]
    exact (by simpa using hst : _ = Result.ok () (w.setCells b o [v]))
theorem wp_storeC {op : Oper} {a : Act} {w : World} {K : Act → World → Prop} {Q : Exit → Act → World → Prop} (ty : TypeId) (x y : Operand) (ho : op.op = .store ty x y) (b o : Nat) (v : Value)
    (hx : a.eval x = .pointer (some ⟨b, o, none⟩)) (hy : a.eval y = v) (hi : (Try.prog.info? ty).map (·.size) = some 1) (h1 : v.oneCell' = true) (hc : (w.cell? ⟨b, o, none⟩).isSome = true) (hf : w.frozen? ⟨b, o, none⟩ = false)
    (h : K (a.put op.dst undef) (w.setCell ⟨b, o, none⟩ v)) : op.wp Try.prog a w K Q := by
  unfold Oper.wp execOp
  simp only [ho, hx, hy, Instr.storeAt, Instr.sureAddr, Sem.run_bind, Sem.run_pure, Result.andThen_ok, run_storeC b o ty v w hi h1 hc hf]
  exact h
theorem wl_storeC {ops : Array Oper} {rest : List Oper} {op : Oper} {a : Act} {w : World} {Q : Exit → Act → World → Prop} (hg : op.guard = none) (ty : TypeId) (x y : Operand) (ho : op.op = .store ty x y) (b o : Nat) (v : Value)
    (hx : a.eval x = .pointer (some ⟨b, o, none⟩)) (hy : a.eval y = v) (hi : (Try.prog.info? ty).map (·.size) = some 1) (h1 : v.oneCell' = true) (hc : (w.cell? ⟨b, o, none⟩).isSome = true) (hf : w.frozen? ⟨b, o, none⟩ = false)
    (h : wpList Try.prog ops Q rest (a.put op.dst undef) (w.setCell ⟨b, o, none⟩ v)) : wpList Try.prog ops Q (op :: rest) a w :=
  wpList_plain hg fun _ hK => wp_storeC ty x y ho b o v hx hy hi h1 hc hf (hK _ _ h)
section
variable {ops : Array Oper} {Q : Exit → Act → World → Prop} {md : Region.Mode} {S : World → Prop} {i : Nat} {oi : Oper} {fuel : Nat} {listed : Array Bool} {a : Act} {w : World}
theorem ha_storeC (hr : Region.ready md ops listed = [i]) (ho : ops[i]? = some oi) (hg : Region.wanted oi (yielded ops a.tmps) = true) (ty : TypeId) (x y : Operand) (hop : oi.op = .store ty x y) (b o : Nat) (v : Value)
    (hx : a.eval x = .pointer (some ⟨b, o, none⟩)) (hy : a.eval y = v) (hi : (Try.prog.info? ty).map (·.size) = some 1) (h1 : v.oneCell' = true) (hc : (w.cell? ⟨b, o, none⟩).isSome = true) (hf : w.frozen? ⟨b, o, none⟩ = false) (hS : S (w.setCell ⟨b, o, none⟩ v))
    (h : S (w.setCell ⟨b, o, none⟩ v) → wpAnyH Try.prog md ops Q S fuel (listed.setIfInBounds i true) (a.put oi.dst undef) (w.setCell ⟨b, o, none⟩ v)) : wpAnyH Try.prog md ops Q S (fuel + 1) listed a w := by
  refine wpAnyH_ready (rs := [i]) hr (by simp) (AllReadyH.cons ho (fun K hK => ?_) AllReadyH.nil)
  rw [if_pos hg]
  exact wp_storeC ty x y hop b o v hx hy hi h1 hc hf (hK.out _ _ hS h)
end
theorem info29 : (Try.prog.info? 29).map (·.size) = some 1 := by kernel_rfl
theorem info85 : (Try.prog.info? 85).map (·.size) = some 1 := by kernel_rfl
theorem info3s : (Try.prog.info? 3).map (·.size) = some 1 := by kernel_rfl
theorem info87 : (Try.prog.info? 87).map (·.size) = some 5 := by kernel_rfl
theorem u87 : Try.prog.underlying 87 = some (.struct (Try.prog.fieldsOf 87)) := by kernel_rfl
theorem ex_alloc87 {o : Oper} (ho : o.op = .alloc 87) (ev : Operand → Value) (w : World) : (execOp ev o).run Try.prog w = .ok (.value (.pointer (some ⟨w.heap.size, 0, none⟩))) (w.alloc (.cells (bcells 0 (.slice none 0 0) 0 0 (.slice none 0 0)) 87)) := by
  unfold execOp
  simp only [ho]
  kernel_rfl
theorem bcells_set1 (kd : Int) (lv : Value) (seed cnt : Int) (pv v : Value) : (bcells kd lv seed cnt pv).setIfInBounds 1 v = bcells kd v seed cnt pv := rfl
theorem bcells_set4 (kd : Int) (lv : Value) (seed cnt : Int) (pv v : Value) : (bcells kd lv seed cnt pv).setIfInBounds 4 v = bcells kd lv seed cnt v := rfl
theorem rowB {w : World} {g : Nat} {kd seed cnt : Int} {lv pv : Value} (h : w.heap[g]? = some (.cells (bcells kd lv seed cnt pv) 87 (0, 0))) : RowAt w 87 ⟨g, 0, none⟩ (bcells kd lv seed cnt pv) := row_mid h (D := bcells kd lv seed cnt pv) (n := 5) rfl u87 rfl rfl info87
theorem own_weak {w : World} {b b' n : Nat} {e : TypeId} {size : Nat} {v : Value} {xs : List Value} (h : w.ownsRow b e size v n xs) (hb : b' ≤ b) : w.ownsRow b' e size v n xs := by
  refine ⟨h.1, ?_⟩
  rcases h.2 with h0 | ⟨g, cap, cur, hv, hB, hr⟩
  · exact Or.inl h0
  · exact Or.inr ⟨g, cap, cur, hv, Nat.le_trans hb hB, hr⟩
theorem own_one {w : World} {b n : Nat} {e : TypeId} {size : Nat} {v : Value} {xs : List Value} (h : w.ownsRow b e size v n xs) : v.oneCell' = true := by
  rcases h.2 with ⟨rfl, _⟩ | ⟨g, cap, cur, rfl, _⟩ <;> rfl
theorem bcells_one (kd : Int) (A : Option Addr) (n cap : Nat) (seed cnt : Int) (A2 : Option Addr) (n2 cap2 : Nat) : (bcells kd (.slice A n cap) seed cnt (.slice A2 n2 cap2)).all (·.oneCell') = true := by simp [bcells, Value.oneCell']
set_option maxHeartbeats 2000000 in
set_option maxRecDepth 100000 in
theorem copied_any (g : Nat) (kd seed cnt : Int) (A : Option Addr) (n cap : Nat) (l : List ByteArray) (A2 : Option Addr) (cap2 : Nat) (t : Tab) (hn : n ≤ 1000000) (hn2 : t.length ≤ 1000000) (w : World)
    (h0 : w.heap[g]? = some (.cells (bcells kd (.slice A n cap) seed cnt (.slice A2 t.length cap2)) 87 (0, 0))) (hl : StrAt w A n cap l) {B : Nat} (hv : VT B w A2 cap2 t) :
    Calls Try.prog 71 #[.pointer (some ⟨g, 0, none⟩)] w fun e w' => ∃ g' lv pv, w.heap.size ≤ g' ∧ e = .returned (.pointer (some ⟨g', 0, none⟩)) ∧ w'.heap[g']? = some (.cells (bcells kd lv seed cnt pv) 87 (0, 0)) ∧
      w'.ownsRow w.heap.size 9 1 lv n (strs l) ∧ (w'.ownsRow w.heap.size 95 3 pv t.length (tcells t) ∧ (t = [] → pv = .slice none 0 0)) ∧ Below w.heap.size w w' := by
  have HL := Lib.hid hl
  have HV := Lib.hid hv
  have LG := heap_lt h0
  clear hl hv
  go_enter Try.func71, Try.ntmps71
  go_upto_region 1 with (fail)
  apply wp_region_lit
  refine wl_k rfl (fun K hK => ?_); go_simp; refine hK _ ?_; clear hK K
  refine wl_k rfl (fun K hK => ?_); go_simp; refine hK _ ?_; clear hK K
  ((with_reducible apply wl_rowG); exact rfl; exact rfl; exact rowB h0)
  simp only [put_lit, List.set_cons_zero, List.set_cons_succ]
  refine wl_new (fun ev w => ex_alloc87 rfl ev w) ?_
  intro W p hb hl2 hp
  have LW := hb.size
  refine wl_putG p (bcells kd (.slice A n cap) seed cnt (.slice A2 t.length cap2)) rfl rfl 87 _ hp info87 rfl (bcells_one _ _ _ _ _ _ _ _ _) ?_
  replace hp := hr_new (cs := bcells kd (.slice A n cap) seed cnt (.slice A2 t.length cap2)) hp
  replace hb := below_setRow hb (g := p) (by omega) (bcells kd (.slice A n cap) seed cnt (.slice A2 t.length cap2))
  generalize W.setRow p (bcells kd (.slice A n cap) seed cnt (.slice A2 t.length cap2)) = W2 at *
  have h1 := below_look hb h0
  have HL1 := Lib.hid (HL.out.below hb)
  have HV1 := Lib.hid (HV.out.below hb)
  have LP := heap_lt hp
  clear HL HV h0
  have b1 := (bc_cell h1).2.1
  have b4 := (bc_cell h1).2.2.2.2
  replace HL1 := Lib.hid (HL1.out.below (Below.refl _ W2).drew)
  replace HV1 := Lib.hid (HV1.out.below (Below.refl _ W2).drew)
  have hgp : g ≠ p := by omega
  go_upto_region 2 with (fail)
  refine wp_region_held_drew (S := Kept [p] W2) mixed (Kept.drew [p] W2) (fun hS => ?_)
  refine ha_k (i := 0) rfl (by kernel_rfl) (by kernel_rfl) (by kernel_rfl) (fun _ _ _ _ h => h) hS rfl (fun K hK => ?_); go_simp; refine hK _ ?_; clear hK K; try simp only [put_lit, List.set_cons_zero, List.set_cons_succ]
  refine ha_k (i := 1) rfl (by kernel_rfl) (by kernel_rfl) (by kernel_rfl) (fun _ _ _ _ h => h) hS rfl (fun K hK => ?_); go_simp; refine hK _ ?_; clear hK K; try simp only [put_lit, List.set_cons_zero, List.set_cons_succ]
  refine ha_k (i := 2) rfl (by kernel_rfl) (by kernel_rfl) (by kernel_rfl) (fun _ _ _ _ h => h) hS rfl (fun K hK => ?_); go_simp; refine hK _ ?_; clear hK K; try simp only [put_lit, List.set_cons_zero, List.set_cons_succ]
  refine ha_val (i := 3) rfl (by kernel_rfl) (by kernel_rfl) (by kernel_rfl) (fun _ _ _ h => h) hS rfl (fun w' hw' => ex_one rfl (one29 (hw'.cell b1 (by simp <;> omega)))) ?_; try simp only [put_lit, List.set_cons_zero, List.set_cons_succ]
  refine ha_k (i := 5) rfl (by kernel_rfl) (by kernel_rfl) (by kernel_rfl) (fun _ _ _ _ h => h) hS rfl (fun K hK => ?_); go_simp; refine hK _ ?_; clear hK K; try simp only [put_lit, List.set_cons_zero, List.set_cons_succ]
  refine ha_k (i := 6) rfl (by kernel_rfl) (by kernel_rfl) (by kernel_rfl) (fun _ _ _ _ h => h) hS rfl (fun K hK => ?_); go_simp; refine hK _ ?_; clear hK K; try simp only [put_lit, List.set_cons_zero, List.set_cons_succ]
  refine ha_k (i := 7) rfl (by kernel_rfl) (by kernel_rfl) (by kernel_rfl) (fun _ _ _ _ h => h) hS rfl (fun K hK => ?_); go_simp; refine hK _ ?_; clear hK K; try simp only [put_lit, List.set_cons_zero, List.set_cons_succ]
  refine ha_val (i := 8) rfl (by kernel_rfl) (by kernel_rfl) (by kernel_rfl) (fun _ _ _ h => h) hS rfl (fun w' hw' => ex_one rfl (one85 (hw'.cell b4 (by simp <;> omega)))) ?_; try simp only [put_lit, List.set_cons_zero, List.set_cons_succ]
  refine ha_call (i := 4) (by kernel_rfl) rfl rfl (fun K hK => ?_); go_simp; refine ⟨_, _, ⟨rfl, rfl⟩, hK _ _ ⟨_, CloneS_any A n cap l hn _ HL1.out, ?_⟩⟩; clear hK K; rintro e w1 ⟨lv, rfl, ho1, hb1⟩; refine ⟨_, rfl, hS.below hb1, ?_⟩; replace hS := hS.below hb1; (replace hp := below_look hb1 hp; replace HV1 := Lib.hid (HV1.out.below hb1); have HO1 := Lib.hid ho1; have L1 := hb1.size; clear ho1 hb1); try simp only [put_lit, List.set_cons_zero, List.set_cons_succ]
  refine ha_call (i := 9) (by kernel_rfl) rfl rfl (fun K hK => ?_); go_simp; refine ⟨_, _, ⟨rfl, rfl⟩, hK _ _ ⟨_, CloneP_any2 A2 cap2 t hn2 _ HV1.out, ?_⟩⟩; clear hK K; rintro e w2 ⟨pv, rfl, ⟨ho2, hnil⟩, hb1⟩; refine ⟨_, rfl, hS.below hb1, ?_⟩; replace hS := hS.below hb1; (have HN := Lib.hid hnil; clear hnil; replace hp := below_look hb1 hp; replace HO1 := Lib.hid (own_below HO1.out hb1); have HO2 := Lib.hid ho2; have L2 := hb1.size; clear ho2 hb1); try simp only [put_lit, List.set_cons_zero, List.set_cons_succ]
  refine ha_k (i := 10) rfl (by kernel_rfl) (by kernel_rfl) (by kernel_rfl) (fun _ _ _ _ h => h) hS rfl (fun K hK => ?_); go_simp; refine hK _ ?_; clear hK K; try simp only [put_lit, List.set_cons_zero, List.set_cons_succ]
  refine ha_storeC (i := 11) (by kernel_rfl) rfl rfl 29 _ _ rfl p 1 lv rfl rfl info29 (own_one HO1.out) (by rw [(bc_cell hp).2.1]; rfl) (frozen_of_row _ _ _ _ _ hp) (hS.setCell (by simp) 1 lv) (fun hS => ?_); try simp only [put_lit, List.set_cons_zero, List.set_cons_succ]
  have LD : W2.drew.heap.size = W2.heap.size := rfl
  have LP2 := heap_lt hp
  replace HO1 := Lib.hid (own_same HO1.out (w' := w2.setCell ⟨p, 1, none⟩ lv) (fun q _ hq => heap_setCell_other w2 ⟨p, 1, none⟩ q lv (fun e => by have h8 := (HO1.out.lt q hq).1; have h9 : q = p := e; clear e; omega)))
  replace HO2 := Lib.hid (own_same HO2.out (w' := w2.setCell ⟨p, 1, none⟩ lv) (fun q _ hq => heap_setCell_other w2 ⟨p, 1, none⟩ q lv (fun e => by have h8 := (HO2.out.lt q hq).1; have h9 : q = p := e; clear e; omega)))
  replace hp := (hs_new hp (i := 1) (v := lv)).trans (by rw [bcells_set1])
  generalize w2.setCell ⟨p, 1, none⟩ lv = w3 at *
  refine ha_k (i := 12) rfl (by kernel_rfl) (by kernel_rfl) (by kernel_rfl) (fun _ _ _ _ h => h) hS rfl (fun K hK => ?_); go_simp; refine hK _ ?_; clear hK K; try simp only [put_lit, List.set_cons_zero, List.set_cons_succ]
  refine ha_storeC (i := 13) (by kernel_rfl) rfl rfl 85 _ _ rfl p 4 pv rfl rfl info85 (own_one HO2.out) (by rw [(bc_cell hp).2.2.2.2]; rfl) (frozen_of_row _ _ _ _ _ hp) (hS.setCell (by simp) 4 pv) (fun hS => ?_); try simp only [put_lit, List.set_cons_zero, List.set_cons_succ]
  replace HO1 := Lib.hid (own_same HO1.out (w' := w3.setCell ⟨p, 4, none⟩ pv) (fun q _ hq => heap_setCell_other w3 ⟨p, 4, none⟩ q pv (fun e => by have h8 := (HO1.out.lt q hq).1; have h9 : q = p := e; clear e; omega)))
  replace HO2 := Lib.hid (own_same HO2.out (w' := w3.setCell ⟨p, 4, none⟩ pv) (fun q _ hq => heap_setCell_other w3 ⟨p, 4, none⟩ q pv (fun e => by have h8 := (HO2.out.lt q hq).1; have h9 : q = p := e; clear e; omega)))
  replace hp := (hs_new hp (i := 4) (v := pv)).trans (by rw [bcells_set4])
  generalize w3.setCell ⟨p, 4, none⟩ pv = w4 at *
  refine wpAnyH_done (by kernel_rfl) ?_ _
  have hb4 : Below w.heap.size w w4 := hb.trans (hS.toBelow (by have := hb.size; omega) (by simp; omega))
  clear h1 b1 b4 HL1 HV1
  go_wp2_with fail
  go_ret
  exact ⟨p, lv, pv, hl2, rfl, hp, own_weak HO1.out (by omega), ⟨own_weak HO2.out (by omega), HN.out⟩, hb4⟩
end Go.Proofs.Ytbhdgeoljlhmcaa
