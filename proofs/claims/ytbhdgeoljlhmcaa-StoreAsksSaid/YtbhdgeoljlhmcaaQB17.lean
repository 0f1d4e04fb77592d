/- A buffer of the document copied (printed by genD6.py). -/
import Derived.Outline
import Derived.Test.YtbhdgeoljlhmcaaQB16
namespace Go.Proofs.Ytbhdgeoljlhmcaa
open Go.RowKit Go.Proofs.Ytbhdgeoljlhmcaa.Nm Go.Proofs.Ytbhdgeoljlhmcaa.St
set_option linter.unusedSimpArgs false
theorem madeZ (z : Value) (n : Nat) : (madeCells #[z] (n * 1)).toList = List.replicate n z := by
  apply List.ext_getElem
  · simp [madeCells]
  · intro i h1 h2
    simp [madeCells, Nat.mod_one]
theorem run_mkB {w : World} {n B : Nat} (hn : n ≤ 1000000) (hB : B ≤ w.heap.size) :
    ∃ w', (Instr.makeSlice 103 (.int .i64 (n : Int)) (.int .i64 (n : Int))).run Try.prog w = .ok (.slice (some ⟨w.heap.size, 0, none⟩) n n) w' ∧ w'.ownsRow B 4 1 (.slice (some ⟨w.heap.size, 0, none⟩) n n) n (bools (List.replicate n false)) ∧ w.grownBy w' none := by
  obtain ⟨i0, hi, hz0, hz1, hz2⟩ := info_parts info4b
  obtain ⟨w', h1, h2, h3⟩ := run_makeSlice_full (P := Try.prog) w B 103 4 i0 _ 1 u103 hi hz0 hz1 .i64 .i64 n (by omega) (by rw [hz2]; omega) (by unfold maxLen; omega) hB
  refine ⟨w', h1, ?_, h3⟩
  rw [show bools (List.replicate n false) = List.replicate n (.bool false) by simp [bools]]
  rw [show (Value.bool false).cells = #[Value.bool false] from rfl, madeZ] at h2
  exact h2
def noR : Array Value := rcells (.slice none 0 0) 0 (.slice none 0 0) (.slice none 0 0) (.slice none 0 0) false
theorem ex_alloc105 {o : Oper} (ho : o.op = .alloc 105) (ev : Operand → Value) (w : World) : (execOp ev o).run Try.prog w = .ok (.value (.pointer (some ⟨w.heap.size, 0, none⟩))) (w.alloc (.cells noR 105)) := by
  unfold execOp
  simp only [ho]
  kernel_rfl
theorem built105 (A1 A2 A3 A4 : Option Addr) (n1 n2 n3 n4 c1 c2 c3 c4 : Nat) (seed : Int) (d : Bool) : Try.prog.built 105 [(0, .slice A1 n1 c1), (1, .int .i64 seed), (2, .slice A2 n2 c2), (3, .slice A3 n3 c3), (4, .slice A4 n4 c4), (5, .bool d)] = some (rcells (.slice A1 n1 c1) seed (.slice A2 n2 c2) (.slice A3 n3 c3) (.slice A4 n4 c4) d) := by kernel_rfl
theorem rcells_one (A1 A2 A3 A4 : Option Addr) (n1 n2 n3 n4 c1 c2 c3 c4 : Nat) (seed : Int) (d : Bool) : (rcells (.slice A1 n1 c1) seed (.slice A2 n2 c2) (.slice A3 n3 c3) (.slice A4 n4 c4) d).all (·.oneCell') = true := by simp [rcells, Value.oneCell']
theorem res_105 {fn : Func} {p : Tmp} (h : fn.results = #[.cell p 105]) (tmps : Array Value) (w : World) (g : Nat) (hp : tmps.getD p undef = .pointer (some ⟨g, 0, none⟩)) {lv kv vv uv : Value} {seed : Int} {d : Bool}
    (hg : w.heap[g]? = some (.cells (rcells lv seed kv vv uv d) 105 (0, 0))) : (results fn tmps).run Try.prog w = .ok (.agg (rcells lv seed kv vv uv d)) w := by
  have hp' : tmps[p]?.getD undef = .pointer (some ⟨g, 0, none⟩) := by simpa using hp
  have l1 : (loadVar 105 ⟨g, 0, none⟩).run Try.prog w = .ok (.agg (rcells lv seed kv vv uv d)) w := by have := rowR hg; unfold RowAt at this; exact this
  unfold results
  simp [h, hp', asAddr, l1, Result.andThen]
/-- bools: the first ones copied, the others false -/
def mixB (l : List Bool) (j : Nat) : List Bool := l.take j ++ List.replicate (l.length - j) false
theorem mixB_step {l : List Bool} {j : Nat} (hj : j < l.length) : (mixB l j).set j l[j] = mixB l (j + 1) := by
  unfold mixB
  have h1 : (l.take j).length = j := by rw [List.length_take]; omega
  rw [List.set_append_right _ _ (by omega), h1, Nat.sub_self, show l.length - j = (l.length - (j + 1)) + 1 by omega, List.replicate_succ, List.set_cons_zero, List.take_succ_eq_append_getElem hj, List.append_assoc]
  rfl
theorem mixB_length (l : List Bool) {j : Nat} (hj : j ≤ l.length) : (mixB l j).length = l.length := by unfold mixB; simp; omega
set_option maxHeartbeats 8000000 in
set_option maxRecDepth 100000 in
theorem copiedI_any (v : Value) (b : Buf) (B : Nat) (hn : b.t.length ≤ 100000) (hnl : b.l.length ≤ 100000) (w : World) (h : RAt w B v b) :
    Calls Try.prog 86 #[v] w fun e w' => ∃ v', e = .returned v' ∧ RAt w' w.heap.size v' b ∧ Below w.heap.size w w' := by
  obtain ⟨A1, c1, A2, c2, A3, c3, A4, c4, rfl, hr, -, -, -, d4⟩ := h.cols
  obtain ⟨z1, y1, e1, hs1⟩ := own_str hr.l rfl
  obtain ⟨z2, y2, e2, hs2⟩ := own_str (l := b.t.map ek) hr.k (by simp)
  cases e1; cases e2
  have D4 := Lib.hid d4
  have HS1 := Lib.hid hs1
  have HS2 := Lib.hid hs2
  have HV := Lib.hid hr.v
  obtain ⟨kd, l, seed, t⟩ := b
  simp only at D4 HS1 HS2 HV hn hnl ⊢
  obtain ⟨dd, hdd⟩ : ∃ dd, dd = isD ⟨kd, l, seed, t⟩ := ⟨_, rfl⟩
  have HDD := Lib.hid hdd
  rw [← hdd]
  obtain ⟨n, hnn⟩ : ∃ n, n = t.length := ⟨_, rfl⟩
  rw [← hnn] at hn HS2 HV ⊢
  have HN := Lib.hid hnn
  obtain ⟨nl, hnl2⟩ : ∃ n, n = l.length := ⟨_, rfl⟩
  rw [← hnl2] at hnl HS1 ⊢
  have HNL := Lib.hid hnl2
  clear h d4 hs1 hs2 hr hdd hnn hnl2
  go_enter Try.func86, Try.ntmps86
  go_upto_region 1 with (fail)
  have hb0 := (Below.refl w.heap.size w).alloc (Nat.le_refl _) (.cells (rcells (.slice A1 nl c1) seed (.slice A2 n c2) (.slice A3 n c3) (.slice A4 n c4) dd) 105)
  have hb1 := hb0.alloc (by simp) (.cells noR 105)
  refine wp_world (fun W => Below w.heap.size w W ∧ W.heap[w.heap.size]? = some (.cells (rcells (.slice A1 nl c1) seed (.slice A2 n c2) (.slice A3 n c3) (.slice A4 n c4) dd) 105 (0, 0)) ∧ W.heap[w.heap.size + 1]? = some (.cells noR 105 (0, 0))) ⟨hb1, ha_old (ha_new rfl), ha_new (by simp)⟩ ?_
  clear hb0 hb1
  rintro W ⟨hb, g1, g2⟩
  obtain ⟨x0, x1, x2, x3, x4, x5⟩ := rc_cell g1
  replace HS1 := Lib.hid (HS1.out.below hb)
  replace HS2 := Lib.hid (HS2.out.below hb)
  replace HV := Lib.hid (own_below HV.out hb)
  replace D4 := Lib.hid (D4.out.below hb)
  have HB := Lib.hid hb
  have HG1 := Lib.hid g1
  have HG2 := Lib.hid g2
  have LG := heap_lt g2
  clear hb g1 g2
  rename_i K hK
  have tail : ∀ (pa p4 : Nat) (P1 P2 P3 : Option Addr) (d1 d2 d3 : Nat) (t4 t5 t6 t7 t8 t9 t10 t11 t12 t13 t14 t15 t16 t17 t18 t19 t20 t21 t22 t23 t24 t25 t26 t27 t28 t29 t30 t31 t32 t33 t34 t35 t36 t37 t38 t39 : Value) (wz : World), W.heap.size ≤ pa → W.heap.size ≤ p4 → Hid (wz.ownsRow w.heap.size 9 1 (.slice P1 nl d1) nl (strs l)) → Hid (wz.ownsRow w.heap.size 9 1 (.slice P2 n d2) n (strs (t.map ek))) → Hid (wz.ownsRow w.heap.size 3 1 (.slice P3 n d3) n (ints (t.map ev))) → Hid (wz.ownsRow w.heap.size 4 1 (.slice (some ⟨p4, 0, none⟩) n n) n (bools (List.replicate n false))) →
      Hid (∀ q, (Value.slice P1 nl d1).ownBlock = some q → (Value.slice P2 n d2).ownBlock ≠ some q) → Hid (wz.heap[pa]? = some (.cells (rcells (.slice P1 nl d1) seed (.slice P2 n d2) (.slice P3 n d3) (.slice (some ⟨p4, 0, none⟩) n n) dd) 105 (0, 0))) → Hid (Below W.heap.size W wz) →
      K ⟨#[.agg (rcells (.slice A1 nl c1) seed (.slice A2 n c2) (.slice A3 n c3) (.slice A4 n c4) dd), .pointer (some ⟨w.heap.size, 0, none⟩), .pointer (some ⟨w.heap.size + 1, 0, none⟩), .pointer (some ⟨pa, 0, none⟩), t4, t5, t6, t7, t8, t9, t10, t11, t12, t13, t14, t15, t16, t17, t18, t19, t20, t21, t22, t23, t24, t25, t26, t27, t28, t29, t30, t31, t32, t33, t34, t35, t36, t37, t38, t39], []⟩ wz := by
    intro pa p4 P1 P2 P3 d1 d2 d3 t4 t5 t6 t7 t8 t9 t10 t11 t12 t13 t14 t15 t16 t17 t18 t19 t20 t21 t22 t23 t24 t25 t26 t27 t28 t29 t30 t31 t32 t33 t34 t35 t36 t37 t38 t39 wz hpa hp4 HO1 HO2 HO3 HO4 HNE HPA HW
    apply hK
    clear hK x0 x1 x2 x3 x4 x5 HS1 HS2 HV
    go_wp2_with fail
    go_loopw [4] (fun i wr => ∃ j : Nat, j ≤ n ∧ i = .int .i64 (j : Int) ∧ Hid (wr.ownsRow w.heap.size 9 1 (.slice P1 nl d1) nl (strs l)) ∧ Hid (wr.ownsRow w.heap.size 9 1 (.slice P2 n d2) n (strs (t.map ek))) ∧ Hid (wr.ownsRow w.heap.size 3 1 (.slice P3 n d3) n (ints (t.map ev))) ∧ Hid (wr.ownsRow w.heap.size 4 1 (.slice (some ⟨p4, 0, none⟩) n n) n (bools (mixB (t.map eb) j))) ∧ Hid (wr.heap[pa]? = some (.cells (rcells (.slice P1 nl d1) seed (.slice P2 n d2) (.slice P3 n d3) (.slice (some ⟨p4, 0, none⟩) n n) dd) 105 (0, 0))) ∧ Hid (Below W.heap.size W wr)) (fun i _ => n - (intOf i).toNat)
    case atStart => exact ⟨0, by omega, rfl, HO1, HO2, HO3, Lib.hid (by unfold mixB; simp only [List.take_zero, List.nil_append, Nat.sub_zero, List.length_map]; rw [← HN.out]; exact HO4.out), HPA, HW⟩
    case round =>
      clear HO1 HO2 HO3 HO4 HPA HW
      obtain ⟨j, hj, rfl, HO1, HO2, HO3, HO4, HPA, HW⟩ := hrel
      have q4 := (rc_cell HPA.out).2.2.2.2.1
      have x4 := (rc_cell (below_look HW.out HG1.out)).2.2.2.2.1
      by_cases hlt : j < n
      · have hltI : (j : Int) < (n : Int) := by omega
        have hjt : j < t.length := by rw [← HN.out]; exact hlt
        obtain ⟨ps, rfl, cu⟩ := col_u (D4.out.below HW.out) hjt
        obtain ⟨U, hU⟩ : ∃ U, U = eb (pl t j) := ⟨_, rfl⟩
        rw [← hU] at cu
        have hjm : j < (t.map eb).length := by simpa using hjt
        have hUm : (t.map eb)[j] = U := by rw [hU]; simp [pl_getE hjt]
        have hmix := mixB_step hjm
        rw [hUm] at hmix
        have HMX := Lib.hid hmix
        have hth : (wr.cell? ⟨p4, j, none⟩).isSome = true := by
          rw [HO4.out.cellAt j (by omega)]
          unfold bools
          rw [List.getElem?_map, List.getElem?_eq_getElem (by rw [mixB_length _ (by omega)]; exact hjm)]; rfl
        have hfr := HO4.out.frozenAt j
        have hset := own_setG (own_below HO4.out (Below.refl _ wr).drew) j (.bool U)
        rw [show (bools (mixB (t.map eb) j)).set j (.bool U) = bools (mixB (t.map eb) (j + 1)) by rw [← HMX.out]; unfold bools; rw [List.map_set]] at hset
        have hsame : ∀ q, q ≠ p4 → (wr.drew.setCell ⟨p4, j, none⟩ (.bool U)).heap[q]? = wr.heap[q]? := fun q hq => heap_setCell_other _ _ _ _ hq
        have hne4 : ∀ {e : TypeId} {m : Nat} {x : Value} {xs : List Value}, wr.ownsRow w.heap.size e 1 x m xs → e ≠ 4 → (wr.drew.setCell ⟨p4, j, none⟩ (.bool U)).ownsRow w.heap.size e 1 x m xs := fun h he => own_same h (fun q hq hx => hsame q (fun e2 => by
          obtain ⟨_, cc, hcc⟩ := own_block h hx
          obtain ⟨_, cd, hcd⟩ := own_block HO4.out (q := p4) rfl
          rw [e2, hcd] at hcc; simp only [Option.some.injEq, Obj.cells.injEq] at hcc; exact he hcc.2.1.symm))
        have hpa4 : pa ≠ p4 := fun e => by
          obtain ⟨_, cd, hcd⟩ := own_block HO4.out (q := p4) rfl
          have h9 := HPA.out
          rw [e, hcd] at h9; simp only [Option.some.injEq, Obj.cells.injEq] at h9; exact absurd h9.2.1 (by decide)
        have HO4' := Lib.hid hset
        have HO1' := Lib.hid (hne4 HO1.out (by decide))
        have HO2' := Lib.hid (hne4 HO2.out (by decide))
        have HO3' := Lib.hid (hne4 HO3.out (by decide))
        have HPA' : Hid ((wr.drew.setCell ⟨p4, j, none⟩ (.bool U)).heap[pa]? = _) := Lib.hid ((hsame pa hpa4).trans HPA.out)
        have HW' : Hid (Below W.heap.size W (wr.drew.setCell ⟨p4, j, none⟩ (.bool U))) := Lib.hid (HW.out.drew.setCell (p := ⟨p4, j, none⟩) hp4 _)
        have x4d : wr.cell? ⟨w.heap.size, 4, none⟩ = some (.slice (some ⟨ps, 0, none⟩) n c4) := x4
        clear hset hsame hne4 hjt hU hjm hUm hmix HO1 HO2 HO3 HO4 HPA HW
        go_upto_region 5 with (fail)
        refine wp_region_held_drew (S := Kept [p4] wr) mixed (Kept.drew [p4] wr) (fun hS => ?_)
        refine hk3 (i := 0) rfl (by kernel_rfl) Zh hS rfl (fun K hK => ?_); go_simp; refine hK _ ?_; clear hK K; try simp only [Zq]
        (refine hv3 (i := 1) rfl (by kernel_rfl) Zg hS rfl (fun w' hw' => ex_one rfl (one103 (hw'.cell q4 (by simp; omega)))) ?_; try simp only [Zq])
        refine hk3 (i := 2) rfl (by kernel_rfl) Zh hS rfl (fun K hK => ?_); go_simp; refine hK _ ?_; clear hK K; try simp only [Zq]
        refine hk3 (i := 3) rfl (by kernel_rfl) Zh hS rfl (fun K hK => ?_); go_simp; refine hK _ ?_; clear hK K; try simp only [Zq]
        (refine hv3 (i := 4) rfl (by kernel_rfl) Zg hS rfl (fun w' hw' => ex_one rfl (one103 (hw'.cell x4 (by simp; omega)))) ?_; try simp only [Zq])
        refine hk3 (i := 5) rfl (by kernel_rfl) Zh hS rfl (fun K hK => ?_); go_simp; refine hK _ ?_; clear hK K; try simp only [Zq]
        refine hk3 (i := 6) rfl (by kernel_rfl) Zh hS rfl (fun K hK => ?_); go_simp; refine hK _ ?_; clear hK K; try simp only [Zq]
        have cud : wr.drew.cell? ⟨ps, j, none⟩ = some (.bool U) := cu
        refine ha_do (i := 7) (by kernel_rfl) rfl rfl (ex_one rfl (one4 cud)) hS ?_; try simp only [Zq]
        refine hk3 (i := 8) rfl (by kernel_rfl) Zh hS rfl (fun K hK => ?_); go_simp; refine hK _ ?_; clear hK K; try simp only [Zq]
        refine ha_storeC (i := 9) (by kernel_rfl) rfl rfl 4 _ _ rfl p4 j (.bool U) rfl rfl (by kernel_rfl) rfl hth hfr (hS.setCell (by simp) j _) (fun hS => ?_); try simp only [Zq]
        refine wpAnyH_done (by kernel_rfl) ?_ _
        clear hS hth hfr q4 x4 x4d cu cud
        go_wp2_with fail
        go_roundw
        case rel => exact ⟨j + 1, by omega, by go_num, HO1', HO2', HO3', HO4', HPA', HW'⟩
        case measure => simp [intOf]; omega
      · obtain rfl : j = n := by omega
        have HO5 : Hid (wr.ownsRow w.heap.size 4 1 (.slice (some ⟨p4, 0, none⟩) j j) j (bools (t.map eb))) := Lib.hid (by
          have h9 := HO4.out
          unfold mixB at h9
          rw [List.take_of_length_le (by simp; rw [← HN.out]; exact Nat.le_refl _), show (t.map eb).length - j = 0 by simp; rw [← HN.out]; omega] at h9
          simpa using h9)
        have hg2 := below_look HW.out HG2.out
        go_upto_region 6 with (fail)
        apply wp_region_lit
        ((with_reducible apply wl_rowG); exact rfl; exact rfl; exact rowR HPA.out)
        simp only [Zq]
        refine wl_putG (w.heap.size + 1) (rcells (.slice P1 nl d1) seed (.slice P2 j d2) (.slice P3 j d3) (.slice (some ⟨p4, 0, none⟩) j j) dd) rfl rfl 105 _ hg2 info105 rfl (rcells_one _ _ _ _ _ _ _ _ _ _ _ _ _ _) ?_
        rw [put_noneA]
        have hfin := hr_new (cs := rcells (.slice P1 nl d1) seed (.slice P2 j d2) (.slice P3 j d3) (.slice (some ⟨p4, 0, none⟩) j j) dd) hg2
        have hbz := below_setRow (HB.out.trans (HW.out.mono HB.out.size)) (g := w.heap.size + 1) (by omega) (rcells (.slice P1 nl d1) seed (.slice P2 j d2) (.slice P3 j d3) (.slice (some ⟨p4, 0, none⟩) j j) dd)
        have hoth : ∀ {e : TypeId} {m : Nat} {x : Value} {xs : List Value}, wr.ownsRow w.heap.size e 1 x m xs → e ≠ 105 → (wr.setRow (w.heap.size + 1) (rcells (.slice P1 nl d1) seed (.slice P2 j d2) (.slice P3 j d3) (.slice (some ⟨p4, 0, none⟩) j j) dd)).ownsRow w.heap.size e 1 x m xs := fun h he => own_same h (fun q hq hx => setRow_other _ _ _ _ (fun e2 => by
          obtain ⟨_, cc, hcc⟩ := own_block h hx
          rw [e2, hg2] at hcc; simp only [Option.some.injEq, Obj.cells.injEq] at hcc; exact he hcc.2.1.symm))
        have hRA : RSl (wr.setRow (w.heap.size + 1) (rcells (.slice P1 nl d1) seed (.slice P2 j d2) (.slice P3 j d3) (.slice (some ⟨p4, 0, none⟩) j j) dd)) w.heap.size (.slice P1 nl d1) (.slice P2 j d2) (.slice P3 j d3) (.slice (some ⟨p4, 0, none⟩) j j) l t :=
          ⟨by rw [← HNL.out]; exact hoth HO1.out (by decide), by rw [← HN.out]; exact hoth HO2.out (by decide), by rw [← HN.out]; exact hoth HO3.out (by decide), by rw [← HN.out]; exact hoth HO5.out (by decide), HNE.out⟩
        have HRA := Lib.hid hRA
        have HFIN := Lib.hid hfin
        have HBZ := Lib.hid hbz
        clear hg2 hfin hbz hoth hRA HO1 HO2 HO3 HO4 HO5 HPA HW q4 x4
        go_wp2_with fail
        exact bodyPost_ret (res_105 rfl _ _ (w.heap.size + 1) rfl HFIN.out) rfl ⟨_, rfl, ⟨_, _, _, _, by rw [HDD.out], HRA.out⟩, HBZ.out⟩
  clear hK HG1 HG2
  refine wp_region_held_drew (S := Kept [] W) mixed (Kept.drew [] W) (fun hS => ?_)
  refine hk3 (i := 0) rfl (by kernel_rfl) Zh hS rfl (fun K hK => ?_); go_simp; refine hK _ ?_; clear hK K; try simp only [Zq]
  refine hv3 (i := 1) rfl (by kernel_rfl) Zg hS rfl (fun w' hw' => ex_one rfl (one29 (hw'.cell x0 (by simp <;> omega)))) ?_; try simp only [Zq]
  refine hk3 (i := 3) rfl (by kernel_rfl) Zh hS rfl (fun K hK => ?_); go_simp; refine hK _ ?_; clear hK K; try simp only [Zq]
  refine hv3 (i := 4) rfl (by kernel_rfl) Zg hS rfl (fun w' hw' => ex_one rfl (one3 (hw'.cell x1 (by simp <;> omega)))) ?_; try simp only [Zq]
  refine hk3 (i := 5) rfl (by kernel_rfl) Zh hS rfl (fun K hK => ?_); go_simp; refine hK _ ?_; clear hK K; try simp only [Zq]
  refine hv3 (i := 6) rfl (by kernel_rfl) Zg hS rfl (fun w' hw' => ex_one rfl (one29 (hw'.cell x2 (by simp <;> omega)))) ?_; try simp only [Zq]
  refine hk3 (i := 8) rfl (by kernel_rfl) Zh hS rfl (fun K hK => ?_); go_simp; refine hK _ ?_; clear hK K; try simp only [Zq]
  refine hv3 (i := 9) rfl (by kernel_rfl) Zg hS rfl (fun w' hw' => ex_one rfl (one63 (hw'.cell x3 (by simp <;> omega)))) ?_; try simp only [Zq]
  refine hk3 (i := 11) rfl (by kernel_rfl) Zh hS rfl (fun K hK => ?_); go_simp; refine hK _ ?_; clear hK K; try simp only [Zq]
  refine hv3 (i := 12) rfl (by kernel_rfl) Zg hS rfl (fun w' hw' => ex_one rfl (one103 (hw'.cell x4 (by simp <;> omega)))) ?_; try simp only [Zq]
  refine hk3 (i := 13) rfl (by kernel_rfl) Zh hS rfl (fun K hK => ?_); go_simp; refine hK _ ?_; clear hK K; try simp only [Zq]
  refine hk3 (i := 15) rfl (by kernel_rfl) Zh hS rfl (fun K hK => ?_); go_simp; refine hK _ ?_; clear hK K; try simp only [Zq]
  refine hv3 (i := 16) rfl (by kernel_rfl) Zg hS rfl (fun w' hw' => ex_one rfl (one4 (hw'.cell x5 (by simp <;> omega)))) ?_; try simp only [Zq]
  refine ha_three (i := 2) (j := 14) (k := 18) (by kernel_rfl) ?N1_2 ?N1_14 ?N1_18
  case' N1_2 =>
    have hz : w.heap.size ≤ (W.drew).heap.size := Nat.le_trans HB.out.size hS.size
    refine sh_call (i := 2) rfl rfl (fun K hK => ?_); go_simp; refine ⟨_, _, ⟨rfl, rfl⟩, hK _ _ ⟨_, CopyStrings_any A1 nl c1 l (by omega) _ (HS1.out.below (hS.toBelow (Nat.le_refl _) (by simp))), ?_⟩⟩; clear hK K; rintro e w1 ⟨v', rfl, ho, hb1⟩; refine ⟨_, rfl, hS.below hb1, ?_⟩; replace hS := hS.below hb1; (obtain ⟨P1, d1, rfl⟩ := own_shape ho; have HO1 := Lib.hid (own_weak ho hz); clear ho hz); try simp only [Zq]
    try simp only [Zy]
    refine ha_three (i := 7) (j := 14) (k := 18) (by kernel_rfl) ?N2_7 ?N2_14 ?N2_18
    case' N2_7 =>
      have hz : w.heap.size ≤ (w1).heap.size := Nat.le_trans HB.out.size hS.size
      refine sh_call (i := 7) rfl rfl (fun K hK => ?_); go_simp; refine ⟨_, _, ⟨rfl, rfl⟩, hK _ _ ⟨_, CopyStrings_any A2 n c2 (t.map ek) (by omega) _ (HS2.out.below (hS.toBelow (Nat.le_refl _) (by simp))), ?_⟩⟩; clear hK K; rintro e w2 ⟨v', rfl, ho, hb1⟩; refine ⟨_, rfl, hS.below hb1, ?_⟩; replace hS := hS.below hb1; (obtain ⟨P2, d2, rfl⟩ := own_shape ho; have HNE : Hid (∀ q, (Value.slice P1 nl d1).ownBlock = some q → (Value.slice P2 n d2).ownBlock ≠ some q) := Lib.hid (fun q h1 h2 ↦ by have := (HO1.out.lt q h1).2; have := (own_block ho h2).1; omega); replace HO1 := Lib.hid (own_below HO1.out hb1); have HO2 := Lib.hid (own_weak ho hz); clear ho hz); try simp only [Zq]
      try simp only [Zy]
      refine ha_three (i := 10) (j := 14) (k := 18) (by kernel_rfl) ?N3_10 ?N3_14 ?N3_18
      case' N3_10 =>
        have hz : w.heap.size ≤ (w2).heap.size := Nat.le_trans HB.out.size hS.size
        refine sh_call (i := 10) rfl rfl (fun K hK => ?_); go_simp; refine ⟨_, _, ⟨rfl, rfl⟩, hK _ _ ⟨_, CopyInts_any (.slice A3 n c3) n (t.map ev) B (by omega) _ (own_below HV.out (hS.toBelow (Nat.le_refl _) (by simp))), ?_⟩⟩; clear hK K; rintro e w3 ⟨v', rfl, ho, hb1⟩; refine ⟨_, rfl, hS.below hb1, ?_⟩; replace hS := hS.below hb1; (obtain ⟨P3, d3, rfl⟩ := own_shape ho; replace HO1 := Lib.hid (own_below HO1.out hb1); replace HO2 := Lib.hid (own_below HO2.out hb1); have HO3 := Lib.hid (own_weak ho hz); clear ho hz); try simp only [Zq]
        try simp only [Zy]
        refine ha_two (i := 14) (j := 18) (by kernel_rfl) ?N4_14 ?N4_18
        case' N4_14 =>
          obtain ⟨w4, hr, hom, hgm⟩ := run_mkB (w := w3) (n := n) (B := w.heap.size) (by omega) (Nat.le_trans HB.out.size hS.size)
          have hb1 := (Below.refl (w3).heap.size (w3)).grown hgm (Nat.le_refl _) (fun q hq => by cases hq)
          have hp4 : W.heap.size ≤ (w3).heap.size := hS.size
          have hSn := hS.below hb1
          refine sh_w (i := 14) rfl rfl (ex_mkS _ _ rfl rfl rfl hr) hSn ?_; try simp only [Zy]
          replace hS := hSn
          clear hSn
          replace HO1 := Lib.hid (own_below HO1.out hb1)
          replace HO2 := Lib.hid (own_below HO2.out hb1)
          replace HO3 := Lib.hid (own_below HO3.out hb1)
          have HO4 := Lib.hid hom
          generalize (w3).heap.size = p4 at HO4 hp4 ⊢
          clear hr hom hgm hb1
          (refine hv3 (i := 17) rfl (by kernel_rfl) Zg hS rfl (fun w' hw' => ex_build 105 _ rfl (L := [(0, .slice P1 nl d1), (1, .int .i64 seed), (2, .slice P2 n d2), (3, .slice P3 n d3), (4, .slice (some ⟨p4, 0, none⟩) n n), (5, .bool dd)]) rfl (built105 _ _ _ _ _ _ _ _ _ _ _ _ _ _)) ?_; try simp only [Zq])
          have hb1 := (Below.refl (w4).heap.size (w4)).alloc (Nat.le_refl _) (.cells noR 105)
          have hpa : W.heap.size ≤ (w4).heap.size := hS.size
          have hSn := hS.below hb1
          have hal : ((w4).alloc (.cells noR 105)).heap[(w4).heap.size]? = some (.cells noR 105 (0, 0)) := ha_new rfl
          refine ha_do (i := 18) (by kernel_rfl) rfl rfl (ex_alloc105 rfl _ _) hSn ?_; try simp only [Zy]
          replace hS := hSn
          clear hSn
          replace HO1 := Lib.hid (own_below HO1.out hb1)
          replace HO2 := Lib.hid (own_below HO2.out hb1)
          replace HO3 := Lib.hid (own_below HO3.out hb1)
          replace HO4 := Lib.hid (own_below HO4.out hb1)
          have HPA := Lib.hid hal
          clear hb1 hal
          generalize (w4).alloc (.cells noR 105) = w5 at *
          generalize (w4).heap.size = pa at HPA hpa ⊢
        case' N4_18 =>
          have hb1 := (Below.refl (w3).heap.size (w3)).alloc (Nat.le_refl _) (.cells noR 105)
          have hpa : W.heap.size ≤ (w3).heap.size := hS.size
          have hSn := hS.below hb1
          have hal : ((w3).alloc (.cells noR 105)).heap[(w3).heap.size]? = some (.cells noR 105 (0, 0)) := ha_new rfl
          refine sh_w (i := 18) rfl rfl (ex_alloc105 rfl _ _) hSn ?_; try simp only [Zy]
          replace hS := hSn
          clear hSn
          replace HO1 := Lib.hid (own_below HO1.out hb1)
          replace HO2 := Lib.hid (own_below HO2.out hb1)
          replace HO3 := Lib.hid (own_below HO3.out hb1)
          have HPA := Lib.hid hal
          clear hb1 hal
          generalize (w3).alloc (.cells noR 105) = w4 at *
          generalize (w3).heap.size = pa at HPA hpa ⊢
          obtain ⟨w5, hr, hom, hgm⟩ := run_mkB (w := w4) (n := n) (B := w.heap.size) (by omega) (Nat.le_trans HB.out.size hS.size)
          have hb1 := (Below.refl (w4).heap.size (w4)).grown hgm (Nat.le_refl _) (fun q hq => by cases hq)
          have hp4 : W.heap.size ≤ (w4).heap.size := hS.size
          have hSn := hS.below hb1
          refine ha_do (i := 14) (by kernel_rfl) rfl rfl (ex_mkS _ _ rfl rfl rfl hr) hSn ?_; try simp only [Zy]
          replace hS := hSn
          clear hSn
          replace HO1 := Lib.hid (own_below HO1.out hb1)
          replace HO2 := Lib.hid (own_below HO2.out hb1)
          replace HO3 := Lib.hid (own_below HO3.out hb1)
          replace HPA := Lib.hid (below_look hb1 HPA.out)
          have HO4 := Lib.hid hom
          generalize (w4).heap.size = p4 at HO4 hp4 ⊢
          clear hr hom hgm hb1
          (refine hv3 (i := 17) rfl (by kernel_rfl) Zg hS rfl (fun w' hw' => ex_build 105 _ rfl (L := [(0, .slice P1 nl d1), (1, .int .i64 seed), (2, .slice P2 n d2), (3, .slice P3 n d3), (4, .slice (some ⟨p4, 0, none⟩) n n), (5, .bool dd)]) rfl (built105 _ _ _ _ _ _ _ _ _ _ _ _ _ _)) ?_; try simp only [Zq])
      case' N3_14 =>
        obtain ⟨w3, hr, hom, hgm⟩ := run_mkB (w := w2) (n := n) (B := w.heap.size) (by omega) (Nat.le_trans HB.out.size hS.size)
        have hb1 := (Below.refl (w2).heap.size (w2)).grown hgm (Nat.le_refl _) (fun q hq => by cases hq)
        have hp4 : W.heap.size ≤ (w2).heap.size := hS.size
        have hSn := hS.below hb1
        refine sh_w (i := 14) rfl rfl (ex_mkS _ _ rfl rfl rfl hr) hSn ?_; try simp only [Zy]
        replace hS := hSn
        clear hSn
        replace HO1 := Lib.hid (own_below HO1.out hb1)
        replace HO2 := Lib.hid (own_below HO2.out hb1)
        have HO4 := Lib.hid hom
        generalize (w2).heap.size = p4 at HO4 hp4 ⊢
        clear hr hom hgm hb1
        refine ha_two (i := 10) (j := 18) (by kernel_rfl) ?N5_10 ?N5_18
        case' N5_10 =>
          have hz : w.heap.size ≤ (w3).heap.size := Nat.le_trans HB.out.size hS.size
          refine sh_call (i := 10) rfl rfl (fun K hK => ?_); go_simp; refine ⟨_, _, ⟨rfl, rfl⟩, hK _ _ ⟨_, CopyInts_any (.slice A3 n c3) n (t.map ev) B (by omega) _ (own_below HV.out (hS.toBelow (Nat.le_refl _) (by simp))), ?_⟩⟩; clear hK K; rintro e w4 ⟨v', rfl, ho, hb1⟩; refine ⟨_, rfl, hS.below hb1, ?_⟩; replace hS := hS.below hb1; (obtain ⟨P3, d3, rfl⟩ := own_shape ho; replace HO1 := Lib.hid (own_below HO1.out hb1); replace HO2 := Lib.hid (own_below HO2.out hb1); replace HO4 := Lib.hid (own_below HO4.out hb1); have HO3 := Lib.hid (own_weak ho hz); clear ho hz); try simp only [Zq]
          try simp only [Zy]
          (refine hv3 (i := 17) rfl (by kernel_rfl) Zg hS rfl (fun w' hw' => ex_build 105 _ rfl (L := [(0, .slice P1 nl d1), (1, .int .i64 seed), (2, .slice P2 n d2), (3, .slice P3 n d3), (4, .slice (some ⟨p4, 0, none⟩) n n), (5, .bool dd)]) rfl (built105 _ _ _ _ _ _ _ _ _ _ _ _ _ _)) ?_; try simp only [Zq])
          have hb1 := (Below.refl (w4).heap.size (w4)).alloc (Nat.le_refl _) (.cells noR 105)
          have hpa : W.heap.size ≤ (w4).heap.size := hS.size
          have hSn := hS.below hb1
          have hal : ((w4).alloc (.cells noR 105)).heap[(w4).heap.size]? = some (.cells noR 105 (0, 0)) := ha_new rfl
          refine ha_do (i := 18) (by kernel_rfl) rfl rfl (ex_alloc105 rfl _ _) hSn ?_; try simp only [Zy]
          replace hS := hSn
          clear hSn
          replace HO1 := Lib.hid (own_below HO1.out hb1)
          replace HO2 := Lib.hid (own_below HO2.out hb1)
          replace HO4 := Lib.hid (own_below HO4.out hb1)
          replace HO3 := Lib.hid (own_below HO3.out hb1)
          have HPA := Lib.hid hal
          clear hb1 hal
          generalize (w4).alloc (.cells noR 105) = w5 at *
          generalize (w4).heap.size = pa at HPA hpa ⊢
        case' N5_18 =>
          have hb1 := (Below.refl (w3).heap.size (w3)).alloc (Nat.le_refl _) (.cells noR 105)
          have hpa : W.heap.size ≤ (w3).heap.size := hS.size
          have hSn := hS.below hb1
          have hal : ((w3).alloc (.cells noR 105)).heap[(w3).heap.size]? = some (.cells noR 105 (0, 0)) := ha_new rfl
          refine sh_w (i := 18) rfl rfl (ex_alloc105 rfl _ _) hSn ?_; try simp only [Zy]
          replace hS := hSn
          clear hSn
          replace HO1 := Lib.hid (own_below HO1.out hb1)
          replace HO2 := Lib.hid (own_below HO2.out hb1)
          replace HO4 := Lib.hid (own_below HO4.out hb1)
          have HPA := Lib.hid hal
          clear hb1 hal
          generalize (w3).alloc (.cells noR 105) = w4 at *
          generalize (w3).heap.size = pa at HPA hpa ⊢
          have hz : w.heap.size ≤ (w4).heap.size := Nat.le_trans HB.out.size hS.size
          refine ha_call (i := 10) (by kernel_rfl) rfl rfl (fun K hK => ?_); go_simp; refine ⟨_, _, ⟨rfl, rfl⟩, hK _ _ ⟨_, CopyInts_any (.slice A3 n c3) n (t.map ev) B (by omega) _ (own_below HV.out (hS.toBelow (Nat.le_refl _) (by simp))), ?_⟩⟩; clear hK K; rintro e w5 ⟨v', rfl, ho, hb1⟩; refine ⟨_, rfl, hS.below hb1, ?_⟩; replace hS := hS.below hb1; (obtain ⟨P3, d3, rfl⟩ := own_shape ho; replace HO1 := Lib.hid (own_below HO1.out hb1); replace HO2 := Lib.hid (own_below HO2.out hb1); replace HO4 := Lib.hid (own_below HO4.out hb1); replace HPA := Lib.hid (below_look hb1 HPA.out); have HO3 := Lib.hid (own_weak ho hz); clear ho hz); try simp only [Zq]
          (refine hv3 (i := 17) rfl (by kernel_rfl) Zg hS rfl (fun w' hw' => ex_build 105 _ rfl (L := [(0, .slice P1 nl d1), (1, .int .i64 seed), (2, .slice P2 n d2), (3, .slice P3 n d3), (4, .slice (some ⟨p4, 0, none⟩) n n), (5, .bool dd)]) rfl (built105 _ _ _ _ _ _ _ _ _ _ _ _ _ _)) ?_; try simp only [Zq])
      case' N3_18 =>
        have hb1 := (Below.refl (w2).heap.size (w2)).alloc (Nat.le_refl _) (.cells noR 105)
        have hpa : W.heap.size ≤ (w2).heap.size := hS.size
        have hSn := hS.below hb1
        have hal : ((w2).alloc (.cells noR 105)).heap[(w2).heap.size]? = some (.cells noR 105 (0, 0)) := ha_new rfl
        refine sh_w (i := 18) rfl rfl (ex_alloc105 rfl _ _) hSn ?_; try simp only [Zy]
        replace hS := hSn
        clear hSn
        replace HO1 := Lib.hid (own_below HO1.out hb1)
        replace HO2 := Lib.hid (own_below HO2.out hb1)
        have HPA := Lib.hid hal
        clear hb1 hal
        generalize (w2).alloc (.cells noR 105) = w3 at *
        generalize (w2).heap.size = pa at HPA hpa ⊢
        refine ha_two (i := 10) (j := 14) (by kernel_rfl) ?N6_10 ?N6_14
        case' N6_10 =>
          have hz : w.heap.size ≤ (w3).heap.size := Nat.le_trans HB.out.size hS.size
          refine sh_call (i := 10) rfl rfl (fun K hK => ?_); go_simp; refine ⟨_, _, ⟨rfl, rfl⟩, hK _ _ ⟨_, CopyInts_any (.slice A3 n c3) n (t.map ev) B (by omega) _ (own_below HV.out (hS.toBelow (Nat.le_refl _) (by simp))), ?_⟩⟩; clear hK K; rintro e w4 ⟨v', rfl, ho, hb1⟩; refine ⟨_, rfl, hS.below hb1, ?_⟩; replace hS := hS.below hb1; (obtain ⟨P3, d3, rfl⟩ := own_shape ho; replace HO1 := Lib.hid (own_below HO1.out hb1); replace HO2 := Lib.hid (own_below HO2.out hb1); replace HPA := Lib.hid (below_look hb1 HPA.out); have HO3 := Lib.hid (own_weak ho hz); clear ho hz); try simp only [Zq]
          try simp only [Zy]
          obtain ⟨w5, hr, hom, hgm⟩ := run_mkB (w := w4) (n := n) (B := w.heap.size) (by omega) (Nat.le_trans HB.out.size hS.size)
          have hb1 := (Below.refl (w4).heap.size (w4)).grown hgm (Nat.le_refl _) (fun q hq => by cases hq)
          have hp4 : W.heap.size ≤ (w4).heap.size := hS.size
          have hSn := hS.below hb1
          refine ha_do (i := 14) (by kernel_rfl) rfl rfl (ex_mkS _ _ rfl rfl rfl hr) hSn ?_; try simp only [Zy]
          replace hS := hSn
          clear hSn
          replace HO1 := Lib.hid (own_below HO1.out hb1)
          replace HO2 := Lib.hid (own_below HO2.out hb1)
          replace HPA := Lib.hid (below_look hb1 HPA.out)
          replace HO3 := Lib.hid (own_below HO3.out hb1)
          have HO4 := Lib.hid hom
          generalize (w4).heap.size = p4 at HO4 hp4 ⊢
          clear hr hom hgm hb1
          (refine hv3 (i := 17) rfl (by kernel_rfl) Zg hS rfl (fun w' hw' => ex_build 105 _ rfl (L := [(0, .slice P1 nl d1), (1, .int .i64 seed), (2, .slice P2 n d2), (3, .slice P3 n d3), (4, .slice (some ⟨p4, 0, none⟩) n n), (5, .bool dd)]) rfl (built105 _ _ _ _ _ _ _ _ _ _ _ _ _ _)) ?_; try simp only [Zq])
        case' N6_14 =>
          obtain ⟨w4, hr, hom, hgm⟩ := run_mkB (w := w3) (n := n) (B := w.heap.size) (by omega) (Nat.le_trans HB.out.size hS.size)
          have hb1 := (Below.refl (w3).heap.size (w3)).grown hgm (Nat.le_refl _) (fun q hq => by cases hq)
          have hp4 : W.heap.size ≤ (w3).heap.size := hS.size
          have hSn := hS.below hb1
          refine sh_w (i := 14) rfl rfl (ex_mkS _ _ rfl rfl rfl hr) hSn ?_; try simp only [Zy]
          replace hS := hSn
          clear hSn
          replace HO1 := Lib.hid (own_below HO1.out hb1)
          replace HO2 := Lib.hid (own_below HO2.out hb1)
          replace HPA := Lib.hid (below_look hb1 HPA.out)
          have HO4 := Lib.hid hom
          generalize (w3).heap.size = p4 at HO4 hp4 ⊢
          clear hr hom hgm hb1
          have hz : w.heap.size ≤ (w4).heap.size := Nat.le_trans HB.out.size hS.size
          refine ha_call (i := 10) (by kernel_rfl) rfl rfl (fun K hK => ?_); go_simp; refine ⟨_, _, ⟨rfl, rfl⟩, hK _ _ ⟨_, CopyInts_any (.slice A3 n c3) n (t.map ev) B (by omega) _ (own_below HV.out (hS.toBelow (Nat.le_refl _) (by simp))), ?_⟩⟩; clear hK K; rintro e w5 ⟨v', rfl, ho, hb1⟩; refine ⟨_, rfl, hS.below hb1, ?_⟩; replace hS := hS.below hb1; (obtain ⟨P3, d3, rfl⟩ := own_shape ho; replace HO1 := Lib.hid (own_below HO1.out hb1); replace HO2 := Lib.hid (own_below HO2.out hb1); replace HPA := Lib.hid (below_look hb1 HPA.out); replace HO4 := Lib.hid (own_below HO4.out hb1); have HO3 := Lib.hid (own_weak ho hz); clear ho hz); try simp only [Zq]
          (refine hv3 (i := 17) rfl (by kernel_rfl) Zg hS rfl (fun w' hw' => ex_build 105 _ rfl (L := [(0, .slice P1 nl d1), (1, .int .i64 seed), (2, .slice P2 n d2), (3, .slice P3 n d3), (4, .slice (some ⟨p4, 0, none⟩) n n), (5, .bool dd)]) rfl (built105 _ _ _ _ _ _ _ _ _ _ _ _ _ _)) ?_; try simp only [Zq])
    case' N2_14 =>
      obtain ⟨w2, hr, hom, hgm⟩ := run_mkB (w := w1) (n := n) (B := w.heap.size) (by omega) (Nat.le_trans HB.out.size hS.size)
      have hb1 := (Below.refl (w1).heap.size (w1)).grown hgm (Nat.le_refl _) (fun q hq => by cases hq)
      have hp4 : W.heap.size ≤ (w1).heap.size := hS.size
      have hSn := hS.below hb1
      refine sh_w (i := 14) rfl rfl (ex_mkS _ _ rfl rfl rfl hr) hSn ?_; try simp only [Zy]
      replace hS := hSn
      clear hSn
      replace HO1 := Lib.hid (own_below HO1.out hb1)
      have HO4 := Lib.hid hom
      generalize (w1).heap.size = p4 at HO4 hp4 ⊢
      clear hr hom hgm hb1
      refine ha_two (i := 7) (j := 18) (by kernel_rfl) ?N7_7 ?N7_18
      case' N7_7 =>
        have hz : w.heap.size ≤ (w2).heap.size := Nat.le_trans HB.out.size hS.size
        refine sh_call (i := 7) rfl rfl (fun K hK => ?_); go_simp; refine ⟨_, _, ⟨rfl, rfl⟩, hK _ _ ⟨_, CopyStrings_any A2 n c2 (t.map ek) (by omega) _ (HS2.out.below (hS.toBelow (Nat.le_refl _) (by simp))), ?_⟩⟩; clear hK K; rintro e w3 ⟨v', rfl, ho, hb1⟩; refine ⟨_, rfl, hS.below hb1, ?_⟩; replace hS := hS.below hb1; (obtain ⟨P2, d2, rfl⟩ := own_shape ho; have HNE : Hid (∀ q, (Value.slice P1 nl d1).ownBlock = some q → (Value.slice P2 n d2).ownBlock ≠ some q) := Lib.hid (fun q h1 h2 ↦ by have := (HO1.out.lt q h1).2; have := (own_block ho h2).1; omega); replace HO1 := Lib.hid (own_below HO1.out hb1); replace HO4 := Lib.hid (own_below HO4.out hb1); have HO2 := Lib.hid (own_weak ho hz); clear ho hz); try simp only [Zq]
        try simp only [Zy]
        refine ha_two (i := 10) (j := 18) (by kernel_rfl) ?N8_10 ?N8_18
        case' N8_10 =>
          have hz : w.heap.size ≤ (w3).heap.size := Nat.le_trans HB.out.size hS.size
          refine sh_call (i := 10) rfl rfl (fun K hK => ?_); go_simp; refine ⟨_, _, ⟨rfl, rfl⟩, hK _ _ ⟨_, CopyInts_any (.slice A3 n c3) n (t.map ev) B (by omega) _ (own_below HV.out (hS.toBelow (Nat.le_refl _) (by simp))), ?_⟩⟩; clear hK K; rintro e w4 ⟨v', rfl, ho, hb1⟩; refine ⟨_, rfl, hS.below hb1, ?_⟩; replace hS := hS.below hb1; (obtain ⟨P3, d3, rfl⟩ := own_shape ho; replace HO1 := Lib.hid (own_below HO1.out hb1); replace HO4 := Lib.hid (own_below HO4.out hb1); replace HO2 := Lib.hid (own_below HO2.out hb1); have HO3 := Lib.hid (own_weak ho hz); clear ho hz); try simp only [Zq]
          try simp only [Zy]
          (refine hv3 (i := 17) rfl (by kernel_rfl) Zg hS rfl (fun w' hw' => ex_build 105 _ rfl (L := [(0, .slice P1 nl d1), (1, .int .i64 seed), (2, .slice P2 n d2), (3, .slice P3 n d3), (4, .slice (some ⟨p4, 0, none⟩) n n), (5, .bool dd)]) rfl (built105 _ _ _ _ _ _ _ _ _ _ _ _ _ _)) ?_; try simp only [Zq])
          have hb1 := (Below.refl (w4).heap.size (w4)).alloc (Nat.le_refl _) (.cells noR 105)
          have hpa : W.heap.size ≤ (w4).heap.size := hS.size
          have hSn := hS.below hb1
          have hal : ((w4).alloc (.cells noR 105)).heap[(w4).heap.size]? = some (.cells noR 105 (0, 0)) := ha_new rfl
          refine ha_do (i := 18) (by kernel_rfl) rfl rfl (ex_alloc105 rfl _ _) hSn ?_; try simp only [Zy]
          replace hS := hSn
          clear hSn
          replace HO1 := Lib.hid (own_below HO1.out hb1)
          replace HO4 := Lib.hid (own_below HO4.out hb1)
          replace HO2 := Lib.hid (own_below HO2.out hb1)
          replace HO3 := Lib.hid (own_below HO3.out hb1)
          have HPA := Lib.hid hal
          clear hb1 hal
          generalize (w4).alloc (.cells noR 105) = w5 at *
          generalize (w4).heap.size = pa at HPA hpa ⊢
        case' N8_18 =>
          have hb1 := (Below.refl (w3).heap.size (w3)).alloc (Nat.le_refl _) (.cells noR 105)
          have hpa : W.heap.size ≤ (w3).heap.size := hS.size
          have hSn := hS.below hb1
          have hal : ((w3).alloc (.cells noR 105)).heap[(w3).heap.size]? = some (.cells noR 105 (0, 0)) := ha_new rfl
          refine sh_w (i := 18) rfl rfl (ex_alloc105 rfl _ _) hSn ?_; try simp only [Zy]
          replace hS := hSn
          clear hSn
          replace HO1 := Lib.hid (own_below HO1.out hb1)
          replace HO4 := Lib.hid (own_below HO4.out hb1)
          replace HO2 := Lib.hid (own_below HO2.out hb1)
          have HPA := Lib.hid hal
          clear hb1 hal
          generalize (w3).alloc (.cells noR 105) = w4 at *
          generalize (w3).heap.size = pa at HPA hpa ⊢
          have hz : w.heap.size ≤ (w4).heap.size := Nat.le_trans HB.out.size hS.size
          refine ha_call (i := 10) (by kernel_rfl) rfl rfl (fun K hK => ?_); go_simp; refine ⟨_, _, ⟨rfl, rfl⟩, hK _ _ ⟨_, CopyInts_any (.slice A3 n c3) n (t.map ev) B (by omega) _ (own_below HV.out (hS.toBelow (Nat.le_refl _) (by simp))), ?_⟩⟩; clear hK K; rintro e w5 ⟨v', rfl, ho, hb1⟩; refine ⟨_, rfl, hS.below hb1, ?_⟩; replace hS := hS.below hb1; (obtain ⟨P3, d3, rfl⟩ := own_shape ho; replace HO1 := Lib.hid (own_below HO1.out hb1); replace HO4 := Lib.hid (own_below HO4.out hb1); replace HO2 := Lib.hid (own_below HO2.out hb1); replace HPA := Lib.hid (below_look hb1 HPA.out); have HO3 := Lib.hid (own_weak ho hz); clear ho hz); try simp only [Zq]
          (refine hv3 (i := 17) rfl (by kernel_rfl) Zg hS rfl (fun w' hw' => ex_build 105 _ rfl (L := [(0, .slice P1 nl d1), (1, .int .i64 seed), (2, .slice P2 n d2), (3, .slice P3 n d3), (4, .slice (some ⟨p4, 0, none⟩) n n), (5, .bool dd)]) rfl (built105 _ _ _ _ _ _ _ _ _ _ _ _ _ _)) ?_; try simp only [Zq])
      case' N7_18 =>
        have hb1 := (Below.refl (w2).heap.size (w2)).alloc (Nat.le_refl _) (.cells noR 105)
        have hpa : W.heap.size ≤ (w2).heap.size := hS.size
        have hSn := hS.below hb1
        have hal : ((w2).alloc (.cells noR 105)).heap[(w2).heap.size]? = some (.cells noR 105 (0, 0)) := ha_new rfl
        refine sh_w (i := 18) rfl rfl (ex_alloc105 rfl _ _) hSn ?_; try simp only [Zy]
        replace hS := hSn
        clear hSn
        replace HO1 := Lib.hid (own_below HO1.out hb1)
        replace HO4 := Lib.hid (own_below HO4.out hb1)
        have HPA := Lib.hid hal
        clear hb1 hal
        generalize (w2).alloc (.cells noR 105) = w3 at *
        generalize (w2).heap.size = pa at HPA hpa ⊢
        have hz : w.heap.size ≤ (w3).heap.size := Nat.le_trans HB.out.size hS.size
        refine ha_call (i := 7) (by kernel_rfl) rfl rfl (fun K hK => ?_); go_simp; refine ⟨_, _, ⟨rfl, rfl⟩, hK _ _ ⟨_, CopyStrings_any A2 n c2 (t.map ek) (by omega) _ (HS2.out.below (hS.toBelow (Nat.le_refl _) (by simp))), ?_⟩⟩; clear hK K; rintro e w4 ⟨v', rfl, ho, hb1⟩; refine ⟨_, rfl, hS.below hb1, ?_⟩; replace hS := hS.below hb1; (obtain ⟨P2, d2, rfl⟩ := own_shape ho; have HNE : Hid (∀ q, (Value.slice P1 nl d1).ownBlock = some q → (Value.slice P2 n d2).ownBlock ≠ some q) := Lib.hid (fun q h1 h2 ↦ by have := (HO1.out.lt q h1).2; have := (own_block ho h2).1; omega); replace HO1 := Lib.hid (own_below HO1.out hb1); replace HO4 := Lib.hid (own_below HO4.out hb1); replace HPA := Lib.hid (below_look hb1 HPA.out); have HO2 := Lib.hid (own_weak ho hz); clear ho hz); try simp only [Zq]
        have hz : w.heap.size ≤ (w4).heap.size := Nat.le_trans HB.out.size hS.size
        refine ha_call (i := 10) (by kernel_rfl) rfl rfl (fun K hK => ?_); go_simp; refine ⟨_, _, ⟨rfl, rfl⟩, hK _ _ ⟨_, CopyInts_any (.slice A3 n c3) n (t.map ev) B (by omega) _ (own_below HV.out (hS.toBelow (Nat.le_refl _) (by simp))), ?_⟩⟩; clear hK K; rintro e w5 ⟨v', rfl, ho, hb1⟩; refine ⟨_, rfl, hS.below hb1, ?_⟩; replace hS := hS.below hb1; (obtain ⟨P3, d3, rfl⟩ := own_shape ho; replace HO1 := Lib.hid (own_below HO1.out hb1); replace HO4 := Lib.hid (own_below HO4.out hb1); replace HPA := Lib.hid (below_look hb1 HPA.out); replace HO2 := Lib.hid (own_below HO2.out hb1); have HO3 := Lib.hid (own_weak ho hz); clear ho hz); try simp only [Zq]
        (refine hv3 (i := 17) rfl (by kernel_rfl) Zg hS rfl (fun w' hw' => ex_build 105 _ rfl (L := [(0, .slice P1 nl d1), (1, .int .i64 seed), (2, .slice P2 n d2), (3, .slice P3 n d3), (4, .slice (some ⟨p4, 0, none⟩) n n), (5, .bool dd)]) rfl (built105 _ _ _ _ _ _ _ _ _ _ _ _ _ _)) ?_; try simp only [Zq])
    case' N2_18 =>
      have hb1 := (Below.refl (w1).heap.size (w1)).alloc (Nat.le_refl _) (.cells noR 105)
      have hpa : W.heap.size ≤ (w1).heap.size := hS.size
      have hSn := hS.below hb1
      have hal : ((w1).alloc (.cells noR 105)).heap[(w1).heap.size]? = some (.cells noR 105 (0, 0)) := ha_new rfl
      refine sh_w (i := 18) rfl rfl (ex_alloc105 rfl _ _) hSn ?_; try simp only [Zy]
      replace hS := hSn
      clear hSn
      replace HO1 := Lib.hid (own_below HO1.out hb1)
      have HPA := Lib.hid hal
      clear hb1 hal
      generalize (w1).alloc (.cells noR 105) = w2 at *
      generalize (w1).heap.size = pa at HPA hpa ⊢
      refine ha_two (i := 7) (j := 14) (by kernel_rfl) ?N9_7 ?N9_14
      case' N9_7 =>
        have hz : w.heap.size ≤ (w2).heap.size := Nat.le_trans HB.out.size hS.size
        refine sh_call (i := 7) rfl rfl (fun K hK => ?_); go_simp; refine ⟨_, _, ⟨rfl, rfl⟩, hK _ _ ⟨_, CopyStrings_any A2 n c2 (t.map ek) (by omega) _ (HS2.out.below (hS.toBelow (Nat.le_refl _) (by simp))), ?_⟩⟩; clear hK K; rintro e w3 ⟨v', rfl, ho, hb1⟩; refine ⟨_, rfl, hS.below hb1, ?_⟩; replace hS := hS.below hb1; (obtain ⟨P2, d2, rfl⟩ := own_shape ho; have HNE : Hid (∀ q, (Value.slice P1 nl d1).ownBlock = some q → (Value.slice P2 n d2).ownBlock ≠ some q) := Lib.hid (fun q h1 h2 ↦ by have := (HO1.out.lt q h1).2; have := (own_block ho h2).1; omega); replace HO1 := Lib.hid (own_below HO1.out hb1); replace HPA := Lib.hid (below_look hb1 HPA.out); have HO2 := Lib.hid (own_weak ho hz); clear ho hz); try simp only [Zq]
        try simp only [Zy]
        refine ha_two (i := 10) (j := 14) (by kernel_rfl) ?N10_10 ?N10_14
        case' N10_10 =>
          have hz : w.heap.size ≤ (w3).heap.size := Nat.le_trans HB.out.size hS.size
          refine sh_call (i := 10) rfl rfl (fun K hK => ?_); go_simp; refine ⟨_, _, ⟨rfl, rfl⟩, hK _ _ ⟨_, CopyInts_any (.slice A3 n c3) n (t.map ev) B (by omega) _ (own_below HV.out (hS.toBelow (Nat.le_refl _) (by simp))), ?_⟩⟩; clear hK K; rintro e w4 ⟨v', rfl, ho, hb1⟩; refine ⟨_, rfl, hS.below hb1, ?_⟩; replace hS := hS.below hb1; (obtain ⟨P3, d3, rfl⟩ := own_shape ho; replace HO1 := Lib.hid (own_below HO1.out hb1); replace HPA := Lib.hid (below_look hb1 HPA.out); replace HO2 := Lib.hid (own_below HO2.out hb1); have HO3 := Lib.hid (own_weak ho hz); clear ho hz); try simp only [Zq]
          try simp only [Zy]
          obtain ⟨w5, hr, hom, hgm⟩ := run_mkB (w := w4) (n := n) (B := w.heap.size) (by omega) (Nat.le_trans HB.out.size hS.size)
          have hb1 := (Below.refl (w4).heap.size (w4)).grown hgm (Nat.le_refl _) (fun q hq => by cases hq)
          have hp4 : W.heap.size ≤ (w4).heap.size := hS.size
          have hSn := hS.below hb1
          refine ha_do (i := 14) (by kernel_rfl) rfl rfl (ex_mkS _ _ rfl rfl rfl hr) hSn ?_; try simp only [Zy]
          replace hS := hSn
          clear hSn
          replace HO1 := Lib.hid (own_below HO1.out hb1)
          replace HPA := Lib.hid (below_look hb1 HPA.out)
          replace HO2 := Lib.hid (own_below HO2.out hb1)
          replace HO3 := Lib.hid (own_below HO3.out hb1)
          have HO4 := Lib.hid hom
          generalize (w4).heap.size = p4 at HO4 hp4 ⊢
          clear hr hom hgm hb1
          (refine hv3 (i := 17) rfl (by kernel_rfl) Zg hS rfl (fun w' hw' => ex_build 105 _ rfl (L := [(0, .slice P1 nl d1), (1, .int .i64 seed), (2, .slice P2 n d2), (3, .slice P3 n d3), (4, .slice (some ⟨p4, 0, none⟩) n n), (5, .bool dd)]) rfl (built105 _ _ _ _ _ _ _ _ _ _ _ _ _ _)) ?_; try simp only [Zq])
        case' N10_14 =>
          obtain ⟨w4, hr, hom, hgm⟩ := run_mkB (w := w3) (n := n) (B := w.heap.size) (by omega) (Nat.le_trans HB.out.size hS.size)
          have hb1 := (Below.refl (w3).heap.size (w3)).grown hgm (Nat.le_refl _) (fun q hq => by cases hq)
          have hp4 : W.heap.size ≤ (w3).heap.size := hS.size
          have hSn := hS.below hb1
          refine sh_w (i := 14) rfl rfl (ex_mkS _ _ rfl rfl rfl hr) hSn ?_; try simp only [Zy]
          replace hS := hSn
          clear hSn
          replace HO1 := Lib.hid (own_below HO1.out hb1)
          replace HPA := Lib.hid (below_look hb1 HPA.out)
          replace HO2 := Lib.hid (own_below HO2.out hb1)
          have HO4 := Lib.hid hom
          generalize (w3).heap.size = p4 at HO4 hp4 ⊢
          clear hr hom hgm hb1
          have hz : w.heap.size ≤ (w4).heap.size := Nat.le_trans HB.out.size hS.size
          refine ha_call (i := 10) (by kernel_rfl) rfl rfl (fun K hK => ?_); go_simp; refine ⟨_, _, ⟨rfl, rfl⟩, hK _ _ ⟨_, CopyInts_any (.slice A3 n c3) n (t.map ev) B (by omega) _ (own_below HV.out (hS.toBelow (Nat.le_refl _) (by simp))), ?_⟩⟩; clear hK K; rintro e w5 ⟨v', rfl, ho, hb1⟩; refine ⟨_, rfl, hS.below hb1, ?_⟩; replace hS := hS.below hb1; (obtain ⟨P3, d3, rfl⟩ := own_shape ho; replace HO1 := Lib.hid (own_below HO1.out hb1); replace HPA := Lib.hid (below_look hb1 HPA.out); replace HO2 := Lib.hid (own_below HO2.out hb1); replace HO4 := Lib.hid (own_below HO4.out hb1); have HO3 := Lib.hid (own_weak ho hz); clear ho hz); try simp only [Zq]
          (refine hv3 (i := 17) rfl (by kernel_rfl) Zg hS rfl (fun w' hw' => ex_build 105 _ rfl (L := [(0, .slice P1 nl d1), (1, .int .i64 seed), (2, .slice P2 n d2), (3, .slice P3 n d3), (4, .slice (some ⟨p4, 0, none⟩) n n), (5, .bool dd)]) rfl (built105 _ _ _ _ _ _ _ _ _ _ _ _ _ _)) ?_; try simp only [Zq])
      case' N9_14 =>
        obtain ⟨w3, hr, hom, hgm⟩ := run_mkB (w := w2) (n := n) (B := w.heap.size) (by omega) (Nat.le_trans HB.out.size hS.size)
        have hb1 := (Below.refl (w2).heap.size (w2)).grown hgm (Nat.le_refl _) (fun q hq => by cases hq)
        have hp4 : W.heap.size ≤ (w2).heap.size := hS.size
        have hSn := hS.below hb1
        refine sh_w (i := 14) rfl rfl (ex_mkS _ _ rfl rfl rfl hr) hSn ?_; try simp only [Zy]
        replace hS := hSn
        clear hSn
        replace HO1 := Lib.hid (own_below HO1.out hb1)
        replace HPA := Lib.hid (below_look hb1 HPA.out)
        have HO4 := Lib.hid hom
        generalize (w2).heap.size = p4 at HO4 hp4 ⊢
        clear hr hom hgm hb1
        have hz : w.heap.size ≤ (w3).heap.size := Nat.le_trans HB.out.size hS.size
        refine ha_call (i := 7) (by kernel_rfl) rfl rfl (fun K hK => ?_); go_simp; refine ⟨_, _, ⟨rfl, rfl⟩, hK _ _ ⟨_, CopyStrings_any A2 n c2 (t.map ek) (by omega) _ (HS2.out.below (hS.toBelow (Nat.le_refl _) (by simp))), ?_⟩⟩; clear hK K; rintro e w4 ⟨v', rfl, ho, hb1⟩; refine ⟨_, rfl, hS.below hb1, ?_⟩; replace hS := hS.below hb1; (obtain ⟨P2, d2, rfl⟩ := own_shape ho; have HNE : Hid (∀ q, (Value.slice P1 nl d1).ownBlock = some q → (Value.slice P2 n d2).ownBlock ≠ some q) := Lib.hid (fun q h1 h2 ↦ by have := (HO1.out.lt q h1).2; have := (own_block ho h2).1; omega); replace HO1 := Lib.hid (own_below HO1.out hb1); replace HPA := Lib.hid (below_look hb1 HPA.out); replace HO4 := Lib.hid (own_below HO4.out hb1); have HO2 := Lib.hid (own_weak ho hz); clear ho hz); try simp only [Zq]
        have hz : w.heap.size ≤ (w4).heap.size := Nat.le_trans HB.out.size hS.size
        refine ha_call (i := 10) (by kernel_rfl) rfl rfl (fun K hK => ?_); go_simp; refine ⟨_, _, ⟨rfl, rfl⟩, hK _ _ ⟨_, CopyInts_any (.slice A3 n c3) n (t.map ev) B (by omega) _ (own_below HV.out (hS.toBelow (Nat.le_refl _) (by simp))), ?_⟩⟩; clear hK K; rintro e w5 ⟨v', rfl, ho, hb1⟩; refine ⟨_, rfl, hS.below hb1, ?_⟩; replace hS := hS.below hb1; (obtain ⟨P3, d3, rfl⟩ := own_shape ho; replace HO1 := Lib.hid (own_below HO1.out hb1); replace HPA := Lib.hid (below_look hb1 HPA.out); replace HO4 := Lib.hid (own_below HO4.out hb1); replace HO2 := Lib.hid (own_below HO2.out hb1); have HO3 := Lib.hid (own_weak ho hz); clear ho hz); try simp only [Zq]
        (refine hv3 (i := 17) rfl (by kernel_rfl) Zg hS rfl (fun w' hw' => ex_build 105 _ rfl (L := [(0, .slice P1 nl d1), (1, .int .i64 seed), (2, .slice P2 n d2), (3, .slice P3 n d3), (4, .slice (some ⟨p4, 0, none⟩) n n), (5, .bool dd)]) rfl (built105 _ _ _ _ _ _ _ _ _ _ _ _ _ _)) ?_; try simp only [Zq])
  case' N1_14 =>
    obtain ⟨w1, hr, hom, hgm⟩ := run_mkB (w := W.drew) (n := n) (B := w.heap.size) (by omega) (Nat.le_trans HB.out.size hS.size)
    have hb1 := (Below.refl (W.drew).heap.size (W.drew)).grown hgm (Nat.le_refl _) (fun q hq => by cases hq)
    have hp4 : W.heap.size ≤ (W.drew).heap.size := hS.size
    have hSn := hS.below hb1
    refine sh_w (i := 14) rfl rfl (ex_mkS _ _ rfl rfl rfl hr) hSn ?_; try simp only [Zy]
    replace hS := hSn
    clear hSn
    have HO4 := Lib.hid hom
    generalize (W.drew).heap.size = p4 at HO4 hp4 ⊢
    clear hr hom hgm hb1
    refine ha_two (i := 2) (j := 18) (by kernel_rfl) ?N11_2 ?N11_18
    case' N11_2 =>
      have hz : w.heap.size ≤ (w1).heap.size := Nat.le_trans HB.out.size hS.size
      refine sh_call (i := 2) rfl rfl (fun K hK => ?_); go_simp; refine ⟨_, _, ⟨rfl, rfl⟩, hK _ _ ⟨_, CopyStrings_any A1 nl c1 l (by omega) _ (HS1.out.below (hS.toBelow (Nat.le_refl _) (by simp))), ?_⟩⟩; clear hK K; rintro e w2 ⟨v', rfl, ho, hb1⟩; refine ⟨_, rfl, hS.below hb1, ?_⟩; replace hS := hS.below hb1; (obtain ⟨P1, d1, rfl⟩ := own_shape ho; replace HO4 := Lib.hid (own_below HO4.out hb1); have HO1 := Lib.hid (own_weak ho hz); clear ho hz); try simp only [Zq]
      try simp only [Zy]
      refine ha_two (i := 7) (j := 18) (by kernel_rfl) ?N12_7 ?N12_18
      case' N12_7 =>
        have hz : w.heap.size ≤ (w2).heap.size := Nat.le_trans HB.out.size hS.size
        refine sh_call (i := 7) rfl rfl (fun K hK => ?_); go_simp; refine ⟨_, _, ⟨rfl, rfl⟩, hK _ _ ⟨_, CopyStrings_any A2 n c2 (t.map ek) (by omega) _ (HS2.out.below (hS.toBelow (Nat.le_refl _) (by simp))), ?_⟩⟩; clear hK K; rintro e w3 ⟨v', rfl, ho, hb1⟩; refine ⟨_, rfl, hS.below hb1, ?_⟩; replace hS := hS.below hb1; (obtain ⟨P2, d2, rfl⟩ := own_shape ho; have HNE : Hid (∀ q, (Value.slice P1 nl d1).ownBlock = some q → (Value.slice P2 n d2).ownBlock ≠ some q) := Lib.hid (fun q h1 h2 ↦ by have := (HO1.out.lt q h1).2; have := (own_block ho h2).1; omega); replace HO4 := Lib.hid (own_below HO4.out hb1); replace HO1 := Lib.hid (own_below HO1.out hb1); have HO2 := Lib.hid (own_weak ho hz); clear ho hz); try simp only [Zq]
        try simp only [Zy]
        refine ha_two (i := 10) (j := 18) (by kernel_rfl) ?N13_10 ?N13_18
        case' N13_10 =>
          have hz : w.heap.size ≤ (w3).heap.size := Nat.le_trans HB.out.size hS.size
          refine sh_call (i := 10) rfl rfl (fun K hK => ?_); go_simp; refine ⟨_, _, ⟨rfl, rfl⟩, hK _ _ ⟨_, CopyInts_any (.slice A3 n c3) n (t.map ev) B (by omega) _ (own_below HV.out (hS.toBelow (Nat.le_refl _) (by simp))), ?_⟩⟩; clear hK K; rintro e w4 ⟨v', rfl, ho, hb1⟩; refine ⟨_, rfl, hS.below hb1, ?_⟩; replace hS := hS.below hb1; (obtain ⟨P3, d3, rfl⟩ := own_shape ho; replace HO4 := Lib.hid (own_below HO4.out hb1); replace HO1 := Lib.hid (own_below HO1.out hb1); replace HO2 := Lib.hid (own_below HO2.out hb1); have HO3 := Lib.hid (own_weak ho hz); clear ho hz); try simp only [Zq]
          try simp only [Zy]
          (refine hv3 (i := 17) rfl (by kernel_rfl) Zg hS rfl (fun w' hw' => ex_build 105 _ rfl (L := [(0, .slice P1 nl d1), (1, .int .i64 seed), (2, .slice P2 n d2), (3, .slice P3 n d3), (4, .slice (some ⟨p4, 0, none⟩) n n), (5, .bool dd)]) rfl (built105 _ _ _ _ _ _ _ _ _ _ _ _ _ _)) ?_; try simp only [Zq])
          have hb1 := (Below.refl (w4).heap.size (w4)).alloc (Nat.le_refl _) (.cells noR 105)
          have hpa : W.heap.size ≤ (w4).heap.size := hS.size
          have hSn := hS.below hb1
          have hal : ((w4).alloc (.cells noR 105)).heap[(w4).heap.size]? = some (.cells noR 105 (0, 0)) := ha_new rfl
          refine ha_do (i := 18) (by kernel_rfl) rfl rfl (ex_alloc105 rfl _ _) hSn ?_; try simp only [Zy]
          replace hS := hSn
          clear hSn
          replace HO4 := Lib.hid (own_below HO4.out hb1)
          replace HO1 := Lib.hid (own_below HO1.out hb1)
          replace HO2 := Lib.hid (own_below HO2.out hb1)
          replace HO3 := Lib.hid (own_below HO3.out hb1)
          have HPA := Lib.hid hal
          clear hb1 hal
          generalize (w4).alloc (.cells noR 105) = w5 at *
          generalize (w4).heap.size = pa at HPA hpa ⊢
        case' N13_18 =>
          have hb1 := (Below.refl (w3).heap.size (w3)).alloc (Nat.le_refl _) (.cells noR 105)
          have hpa : W.heap.size ≤ (w3).heap.size := hS.size
          have hSn := hS.below hb1
          have hal : ((w3).alloc (.cells noR 105)).heap[(w3).heap.size]? = some (.cells noR 105 (0, 0)) := ha_new rfl
          refine sh_w (i := 18) rfl rfl (ex_alloc105 rfl _ _) hSn ?_; try simp only [Zy]
          replace hS := hSn
          clear hSn
          replace HO4 := Lib.hid (own_below HO4.out hb1)
          replace HO1 := Lib.hid (own_below HO1.out hb1)
          replace HO2 := Lib.hid (own_below HO2.out hb1)
          have HPA := Lib.hid hal
          clear hb1 hal
          generalize (w3).alloc (.cells noR 105) = w4 at *
          generalize (w3).heap.size = pa at HPA hpa ⊢
          have hz : w.heap.size ≤ (w4).heap.size := Nat.le_trans HB.out.size hS.size
          refine ha_call (i := 10) (by kernel_rfl) rfl rfl (fun K hK => ?_); go_simp; refine ⟨_, _, ⟨rfl, rfl⟩, hK _ _ ⟨_, CopyInts_any (.slice A3 n c3) n (t.map ev) B (by omega) _ (own_below HV.out (hS.toBelow (Nat.le_refl _) (by simp))), ?_⟩⟩; clear hK K; rintro e w5 ⟨v', rfl, ho, hb1⟩; refine ⟨_, rfl, hS.below hb1, ?_⟩; replace hS := hS.below hb1; (obtain ⟨P3, d3, rfl⟩ := own_shape ho; replace HO4 := Lib.hid (own_below HO4.out hb1); replace HO1 := Lib.hid (own_below HO1.out hb1); replace HO2 := Lib.hid (own_below HO2.out hb1); replace HPA := Lib.hid (below_look hb1 HPA.out); have HO3 := Lib.hid (own_weak ho hz); clear ho hz); try simp only [Zq]
          (refine hv3 (i := 17) rfl (by kernel_rfl) Zg hS rfl (fun w' hw' => ex_build 105 _ rfl (L := [(0, .slice P1 nl d1), (1, .int .i64 seed), (2, .slice P2 n d2), (3, .slice P3 n d3), (4, .slice (some ⟨p4, 0, none⟩) n n), (5, .bool dd)]) rfl (built105 _ _ _ _ _ _ _ _ _ _ _ _ _ _)) ?_; try simp only [Zq])
      case' N12_18 =>
        have hb1 := (Below.refl (w2).heap.size (w2)).alloc (Nat.le_refl _) (.cells noR 105)
        have hpa : W.heap.size ≤ (w2).heap.size := hS.size
        have hSn := hS.below hb1
        have hal : ((w2).alloc (.cells noR 105)).heap[(w2).heap.size]? = some (.cells noR 105 (0, 0)) := ha_new rfl
        refine sh_w (i := 18) rfl rfl (ex_alloc105 rfl _ _) hSn ?_; try simp only [Zy]
        replace hS := hSn
        clear hSn
        replace HO4 := Lib.hid (own_below HO4.out hb1)
        replace HO1 := Lib.hid (own_below HO1.out hb1)
        have HPA := Lib.hid hal
        clear hb1 hal
        generalize (w2).alloc (.cells noR 105) = w3 at *
        generalize (w2).heap.size = pa at HPA hpa ⊢
        have hz : w.heap.size ≤ (w3).heap.size := Nat.le_trans HB.out.size hS.size
        refine ha_call (i := 7) (by kernel_rfl) rfl rfl (fun K hK => ?_); go_simp; refine ⟨_, _, ⟨rfl, rfl⟩, hK _ _ ⟨_, CopyStrings_any A2 n c2 (t.map ek) (by omega) _ (HS2.out.below (hS.toBelow (Nat.le_refl _) (by simp))), ?_⟩⟩; clear hK K; rintro e w4 ⟨v', rfl, ho, hb1⟩; refine ⟨_, rfl, hS.below hb1, ?_⟩; replace hS := hS.below hb1; (obtain ⟨P2, d2, rfl⟩ := own_shape ho; have HNE : Hid (∀ q, (Value.slice P1 nl d1).ownBlock = some q → (Value.slice P2 n d2).ownBlock ≠ some q) := Lib.hid (fun q h1 h2 ↦ by have := (HO1.out.lt q h1).2; have := (own_block ho h2).1; omega); replace HO4 := Lib.hid (own_below HO4.out hb1); replace HO1 := Lib.hid (own_below HO1.out hb1); replace HPA := Lib.hid (below_look hb1 HPA.out); have HO2 := Lib.hid (own_weak ho hz); clear ho hz); try simp only [Zq]
        have hz : w.heap.size ≤ (w4).heap.size := Nat.le_trans HB.out.size hS.size
        refine ha_call (i := 10) (by kernel_rfl) rfl rfl (fun K hK => ?_); go_simp; refine ⟨_, _, ⟨rfl, rfl⟩, hK _ _ ⟨_, CopyInts_any (.slice A3 n c3) n (t.map ev) B (by omega) _ (own_below HV.out (hS.toBelow (Nat.le_refl _) (by simp))), ?_⟩⟩; clear hK K; rintro e w5 ⟨v', rfl, ho, hb1⟩; refine ⟨_, rfl, hS.below hb1, ?_⟩; replace hS := hS.below hb1; (obtain ⟨P3, d3, rfl⟩ := own_shape ho; replace HO4 := Lib.hid (own_below HO4.out hb1); replace HO1 := Lib.hid (own_below HO1.out hb1); replace HPA := Lib.hid (below_look hb1 HPA.out); replace HO2 := Lib.hid (own_below HO2.out hb1); have HO3 := Lib.hid (own_weak ho hz); clear ho hz); try simp only [Zq]
        (refine hv3 (i := 17) rfl (by kernel_rfl) Zg hS rfl (fun w' hw' => ex_build 105 _ rfl (L := [(0, .slice P1 nl d1), (1, .int .i64 seed), (2, .slice P2 n d2), (3, .slice P3 n d3), (4, .slice (some ⟨p4, 0, none⟩) n n), (5, .bool dd)]) rfl (built105 _ _ _ _ _ _ _ _ _ _ _ _ _ _)) ?_; try simp only [Zq])
    case' N11_18 =>
      have hb1 := (Below.refl (w1).heap.size (w1)).alloc (Nat.le_refl _) (.cells noR 105)
      have hpa : W.heap.size ≤ (w1).heap.size := hS.size
      have hSn := hS.below hb1
      have hal : ((w1).alloc (.cells noR 105)).heap[(w1).heap.size]? = some (.cells noR 105 (0, 0)) := ha_new rfl
      refine sh_w (i := 18) rfl rfl (ex_alloc105 rfl _ _) hSn ?_; try simp only [Zy]
      replace hS := hSn
      clear hSn
      replace HO4 := Lib.hid (own_below HO4.out hb1)
      have HPA := Lib.hid hal
      clear hb1 hal
      generalize (w1).alloc (.cells noR 105) = w2 at *
      generalize (w1).heap.size = pa at HPA hpa ⊢
      have hz : w.heap.size ≤ (w2).heap.size := Nat.le_trans HB.out.size hS.size
      refine ha_call (i := 2) (by kernel_rfl) rfl rfl (fun K hK => ?_); go_simp; refine ⟨_, _, ⟨rfl, rfl⟩, hK _ _ ⟨_, CopyStrings_any A1 nl c1 l (by omega) _ (HS1.out.below (hS.toBelow (Nat.le_refl _) (by simp))), ?_⟩⟩; clear hK K; rintro e w3 ⟨v', rfl, ho, hb1⟩; refine ⟨_, rfl, hS.below hb1, ?_⟩; replace hS := hS.below hb1; (obtain ⟨P1, d1, rfl⟩ := own_shape ho; replace HO4 := Lib.hid (own_below HO4.out hb1); replace HPA := Lib.hid (below_look hb1 HPA.out); have HO1 := Lib.hid (own_weak ho hz); clear ho hz); try simp only [Zq]
      have hz : w.heap.size ≤ (w3).heap.size := Nat.le_trans HB.out.size hS.size
      refine ha_call (i := 7) (by kernel_rfl) rfl rfl (fun K hK => ?_); go_simp; refine ⟨_, _, ⟨rfl, rfl⟩, hK _ _ ⟨_, CopyStrings_any A2 n c2 (t.map ek) (by omega) _ (HS2.out.below (hS.toBelow (Nat.le_refl _) (by simp))), ?_⟩⟩; clear hK K; rintro e w4 ⟨v', rfl, ho, hb1⟩; refine ⟨_, rfl, hS.below hb1, ?_⟩; replace hS := hS.below hb1; (obtain ⟨P2, d2, rfl⟩ := own_shape ho; have HNE : Hid (∀ q, (Value.slice P1 nl d1).ownBlock = some q → (Value.slice P2 n d2).ownBlock ≠ some q) := Lib.hid (fun q h1 h2 ↦ by have := (HO1.out.lt q h1).2; have := (own_block ho h2).1; omega); replace HO4 := Lib.hid (own_below HO4.out hb1); replace HPA := Lib.hid (below_look hb1 HPA.out); replace HO1 := Lib.hid (own_below HO1.out hb1); have HO2 := Lib.hid (own_weak ho hz); clear ho hz); try simp only [Zq]
      have hz : w.heap.size ≤ (w4).heap.size := Nat.le_trans HB.out.size hS.size
      refine ha_call (i := 10) (by kernel_rfl) rfl rfl (fun K hK => ?_); go_simp; refine ⟨_, _, ⟨rfl, rfl⟩, hK _ _ ⟨_, CopyInts_any (.slice A3 n c3) n (t.map ev) B (by omega) _ (own_below HV.out (hS.toBelow (Nat.le_refl _) (by simp))), ?_⟩⟩; clear hK K; rintro e w5 ⟨v', rfl, ho, hb1⟩; refine ⟨_, rfl, hS.below hb1, ?_⟩; replace hS := hS.below hb1; (obtain ⟨P3, d3, rfl⟩ := own_shape ho; replace HO4 := Lib.hid (own_below HO4.out hb1); replace HPA := Lib.hid (below_look hb1 HPA.out); replace HO1 := Lib.hid (own_below HO1.out hb1); replace HO2 := Lib.hid (own_below HO2.out hb1); have HO3 := Lib.hid (own_weak ho hz); clear ho hz); try simp only [Zq]
      (refine hv3 (i := 17) rfl (by kernel_rfl) Zg hS rfl (fun w' hw' => ex_build 105 _ rfl (L := [(0, .slice P1 nl d1), (1, .int .i64 seed), (2, .slice P2 n d2), (3, .slice P3 n d3), (4, .slice (some ⟨p4, 0, none⟩) n n), (5, .bool dd)]) rfl (built105 _ _ _ _ _ _ _ _ _ _ _ _ _ _)) ?_; try simp only [Zq])
  case' N1_18 =>
    have hb1 := (Below.refl (W.drew).heap.size (W.drew)).alloc (Nat.le_refl _) (.cells noR 105)
    have hpa : W.heap.size ≤ (W.drew).heap.size := hS.size
    have hSn := hS.below hb1
    have hal : ((W.drew).alloc (.cells noR 105)).heap[(W.drew).heap.size]? = some (.cells noR 105 (0, 0)) := ha_new rfl
    refine sh_w (i := 18) rfl rfl (ex_alloc105 rfl _ _) hSn ?_; try simp only [Zy]
    replace hS := hSn
    clear hSn
    have HPA := Lib.hid hal
    clear hb1 hal
    generalize (W.drew).alloc (.cells noR 105) = w1 at *
    generalize (W.drew).heap.size = pa at HPA hpa ⊢
    refine ha_two (i := 2) (j := 14) (by kernel_rfl) ?N14_2 ?N14_14
    case' N14_2 =>
      have hz : w.heap.size ≤ (w1).heap.size := Nat.le_trans HB.out.size hS.size
      refine sh_call (i := 2) rfl rfl (fun K hK => ?_); go_simp; refine ⟨_, _, ⟨rfl, rfl⟩, hK _ _ ⟨_, CopyStrings_any A1 nl c1 l (by omega) _ (HS1.out.below (hS.toBelow (Nat.le_refl _) (by simp))), ?_⟩⟩; clear hK K; rintro e w2 ⟨v', rfl, ho, hb1⟩; refine ⟨_, rfl, hS.below hb1, ?_⟩; replace hS := hS.below hb1; (obtain ⟨P1, d1, rfl⟩ := own_shape ho; replace HPA := Lib.hid (below_look hb1 HPA.out); have HO1 := Lib.hid (own_weak ho hz); clear ho hz); try simp only [Zq]
      try simp only [Zy]
      refine ha_two (i := 7) (j := 14) (by kernel_rfl) ?N15_7 ?N15_14
      case' N15_7 =>
        have hz : w.heap.size ≤ (w2).heap.size := Nat.le_trans HB.out.size hS.size
        refine sh_call (i := 7) rfl rfl (fun K hK => ?_); go_simp; refine ⟨_, _, ⟨rfl, rfl⟩, hK _ _ ⟨_, CopyStrings_any A2 n c2 (t.map ek) (by omega) _ (HS2.out.below (hS.toBelow (Nat.le_refl _) (by simp))), ?_⟩⟩; clear hK K; rintro e w3 ⟨v', rfl, ho, hb1⟩; refine ⟨_, rfl, hS.below hb1, ?_⟩; replace hS := hS.below hb1; (obtain ⟨P2, d2, rfl⟩ := own_shape ho; have HNE : Hid (∀ q, (Value.slice P1 nl d1).ownBlock = some q → (Value.slice P2 n d2).ownBlock ≠ some q) := Lib.hid (fun q h1 h2 ↦ by have := (HO1.out.lt q h1).2; have := (own_block ho h2).1; omega); replace HPA := Lib.hid (below_look hb1 HPA.out); replace HO1 := Lib.hid (own_below HO1.out hb1); have HO2 := Lib.hid (own_weak ho hz); clear ho hz); try simp only [Zq]
        try simp only [Zy]
        refine ha_two (i := 10) (j := 14) (by kernel_rfl) ?N16_10 ?N16_14
        case' N16_10 =>
          have hz : w.heap.size ≤ (w3).heap.size := Nat.le_trans HB.out.size hS.size
          refine sh_call (i := 10) rfl rfl (fun K hK => ?_); go_simp; refine ⟨_, _, ⟨rfl, rfl⟩, hK _ _ ⟨_, CopyInts_any (.slice A3 n c3) n (t.map ev) B (by omega) _ (own_below HV.out (hS.toBelow (Nat.le_refl _) (by simp))), ?_⟩⟩; clear hK K; rintro e w4 ⟨v', rfl, ho, hb1⟩; refine ⟨_, rfl, hS.below hb1, ?_⟩; replace hS := hS.below hb1; (obtain ⟨P3, d3, rfl⟩ := own_shape ho; replace HPA := Lib.hid (below_look hb1 HPA.out); replace HO1 := Lib.hid (own_below HO1.out hb1); replace HO2 := Lib.hid (own_below HO2.out hb1); have HO3 := Lib.hid (own_weak ho hz); clear ho hz); try simp only [Zq]
          try simp only [Zy]
          obtain ⟨w5, hr, hom, hgm⟩ := run_mkB (w := w4) (n := n) (B := w.heap.size) (by omega) (Nat.le_trans HB.out.size hS.size)
          have hb1 := (Below.refl (w4).heap.size (w4)).grown hgm (Nat.le_refl _) (fun q hq => by cases hq)
          have hp4 : W.heap.size ≤ (w4).heap.size := hS.size
          have hSn := hS.below hb1
          refine ha_do (i := 14) (by kernel_rfl) rfl rfl (ex_mkS _ _ rfl rfl rfl hr) hSn ?_; try simp only [Zy]
          replace hS := hSn
          clear hSn
          replace HPA := Lib.hid (below_look hb1 HPA.out)
          replace HO1 := Lib.hid (own_below HO1.out hb1)
          replace HO2 := Lib.hid (own_below HO2.out hb1)
          replace HO3 := Lib.hid (own_below HO3.out hb1)
          have HO4 := Lib.hid hom
          generalize (w4).heap.size = p4 at HO4 hp4 ⊢
          clear hr hom hgm hb1
          (refine hv3 (i := 17) rfl (by kernel_rfl) Zg hS rfl (fun w' hw' => ex_build 105 _ rfl (L := [(0, .slice P1 nl d1), (1, .int .i64 seed), (2, .slice P2 n d2), (3, .slice P3 n d3), (4, .slice (some ⟨p4, 0, none⟩) n n), (5, .bool dd)]) rfl (built105 _ _ _ _ _ _ _ _ _ _ _ _ _ _)) ?_; try simp only [Zq])
        case' N16_14 =>
          obtain ⟨w4, hr, hom, hgm⟩ := run_mkB (w := w3) (n := n) (B := w.heap.size) (by omega) (Nat.le_trans HB.out.size hS.size)
          have hb1 := (Below.refl (w3).heap.size (w3)).grown hgm (Nat.le_refl _) (fun q hq => by cases hq)
          have hp4 : W.heap.size ≤ (w3).heap.size := hS.size
          have hSn := hS.below hb1
          refine sh_w (i := 14) rfl rfl (ex_mkS _ _ rfl rfl rfl hr) hSn ?_; try simp only [Zy]
          replace hS := hSn
          clear hSn
          replace HPA := Lib.hid (below_look hb1 HPA.out)
          replace HO1 := Lib.hid (own_below HO1.out hb1)
          replace HO2 := Lib.hid (own_below HO2.out hb1)
          have HO4 := Lib.hid hom
          generalize (w3).heap.size = p4 at HO4 hp4 ⊢
          clear hr hom hgm hb1
          have hz : w.heap.size ≤ (w4).heap.size := Nat.le_trans HB.out.size hS.size
          refine ha_call (i := 10) (by kernel_rfl) rfl rfl (fun K hK => ?_); go_simp; refine ⟨_, _, ⟨rfl, rfl⟩, hK _ _ ⟨_, CopyInts_any (.slice A3 n c3) n (t.map ev) B (by omega) _ (own_below HV.out (hS.toBelow (Nat.le_refl _) (by simp))), ?_⟩⟩; clear hK K; rintro e w5 ⟨v', rfl, ho, hb1⟩; refine ⟨_, rfl, hS.below hb1, ?_⟩; replace hS := hS.below hb1; (obtain ⟨P3, d3, rfl⟩ := own_shape ho; replace HPA := Lib.hid (below_look hb1 HPA.out); replace HO1 := Lib.hid (own_below HO1.out hb1); replace HO2 := Lib.hid (own_below HO2.out hb1); replace HO4 := Lib.hid (own_below HO4.out hb1); have HO3 := Lib.hid (own_weak ho hz); clear ho hz); try simp only [Zq]
          (refine hv3 (i := 17) rfl (by kernel_rfl) Zg hS rfl (fun w' hw' => ex_build 105 _ rfl (L := [(0, .slice P1 nl d1), (1, .int .i64 seed), (2, .slice P2 n d2), (3, .slice P3 n d3), (4, .slice (some ⟨p4, 0, none⟩) n n), (5, .bool dd)]) rfl (built105 _ _ _ _ _ _ _ _ _ _ _ _ _ _)) ?_; try simp only [Zq])
      case' N15_14 =>
        obtain ⟨w3, hr, hom, hgm⟩ := run_mkB (w := w2) (n := n) (B := w.heap.size) (by omega) (Nat.le_trans HB.out.size hS.size)
        have hb1 := (Below.refl (w2).heap.size (w2)).grown hgm (Nat.le_refl _) (fun q hq => by cases hq)
        have hp4 : W.heap.size ≤ (w2).heap.size := hS.size
        have hSn := hS.below hb1
        refine sh_w (i := 14) rfl rfl (ex_mkS _ _ rfl rfl rfl hr) hSn ?_; try simp only [Zy]
        replace hS := hSn
        clear hSn
        replace HPA := Lib.hid (below_look hb1 HPA.out)
        replace HO1 := Lib.hid (own_below HO1.out hb1)
        have HO4 := Lib.hid hom
        generalize (w2).heap.size = p4 at HO4 hp4 ⊢
        clear hr hom hgm hb1
        have hz : w.heap.size ≤ (w3).heap.size := Nat.le_trans HB.out.size hS.size
        refine ha_call (i := 7) (by kernel_rfl) rfl rfl (fun K hK => ?_); go_simp; refine ⟨_, _, ⟨rfl, rfl⟩, hK _ _ ⟨_, CopyStrings_any A2 n c2 (t.map ek) (by omega) _ (HS2.out.below (hS.toBelow (Nat.le_refl _) (by simp))), ?_⟩⟩; clear hK K; rintro e w4 ⟨v', rfl, ho, hb1⟩; refine ⟨_, rfl, hS.below hb1, ?_⟩; replace hS := hS.below hb1; (obtain ⟨P2, d2, rfl⟩ := own_shape ho; have HNE : Hid (∀ q, (Value.slice P1 nl d1).ownBlock = some q → (Value.slice P2 n d2).ownBlock ≠ some q) := Lib.hid (fun q h1 h2 ↦ by have := (HO1.out.lt q h1).2; have := (own_block ho h2).1; omega); replace HPA := Lib.hid (below_look hb1 HPA.out); replace HO1 := Lib.hid (own_below HO1.out hb1); replace HO4 := Lib.hid (own_below HO4.out hb1); have HO2 := Lib.hid (own_weak ho hz); clear ho hz); try simp only [Zq]
        have hz : w.heap.size ≤ (w4).heap.size := Nat.le_trans HB.out.size hS.size
        refine ha_call (i := 10) (by kernel_rfl) rfl rfl (fun K hK => ?_); go_simp; refine ⟨_, _, ⟨rfl, rfl⟩, hK _ _ ⟨_, CopyInts_any (.slice A3 n c3) n (t.map ev) B (by omega) _ (own_below HV.out (hS.toBelow (Nat.le_refl _) (by simp))), ?_⟩⟩; clear hK K; rintro e w5 ⟨v', rfl, ho, hb1⟩; refine ⟨_, rfl, hS.below hb1, ?_⟩; replace hS := hS.below hb1; (obtain ⟨P3, d3, rfl⟩ := own_shape ho; replace HPA := Lib.hid (below_look hb1 HPA.out); replace HO1 := Lib.hid (own_below HO1.out hb1); replace HO4 := Lib.hid (own_below HO4.out hb1); replace HO2 := Lib.hid (own_below HO2.out hb1); have HO3 := Lib.hid (own_weak ho hz); clear ho hz); try simp only [Zq]
        (refine hv3 (i := 17) rfl (by kernel_rfl) Zg hS rfl (fun w' hw' => ex_build 105 _ rfl (L := [(0, .slice P1 nl d1), (1, .int .i64 seed), (2, .slice P2 n d2), (3, .slice P3 n d3), (4, .slice (some ⟨p4, 0, none⟩) n n), (5, .bool dd)]) rfl (built105 _ _ _ _ _ _ _ _ _ _ _ _ _ _)) ?_; try simp only [Zq])
    case' N14_14 =>
      obtain ⟨w2, hr, hom, hgm⟩ := run_mkB (w := w1) (n := n) (B := w.heap.size) (by omega) (Nat.le_trans HB.out.size hS.size)
      have hb1 := (Below.refl (w1).heap.size (w1)).grown hgm (Nat.le_refl _) (fun q hq => by cases hq)
      have hp4 : W.heap.size ≤ (w1).heap.size := hS.size
      have hSn := hS.below hb1
      refine sh_w (i := 14) rfl rfl (ex_mkS _ _ rfl rfl rfl hr) hSn ?_; try simp only [Zy]
      replace hS := hSn
      clear hSn
      replace HPA := Lib.hid (below_look hb1 HPA.out)
      have HO4 := Lib.hid hom
      generalize (w1).heap.size = p4 at HO4 hp4 ⊢
      clear hr hom hgm hb1
      have hz : w.heap.size ≤ (w2).heap.size := Nat.le_trans HB.out.size hS.size
      refine ha_call (i := 2) (by kernel_rfl) rfl rfl (fun K hK => ?_); go_simp; refine ⟨_, _, ⟨rfl, rfl⟩, hK _ _ ⟨_, CopyStrings_any A1 nl c1 l (by omega) _ (HS1.out.below (hS.toBelow (Nat.le_refl _) (by simp))), ?_⟩⟩; clear hK K; rintro e w3 ⟨v', rfl, ho, hb1⟩; refine ⟨_, rfl, hS.below hb1, ?_⟩; replace hS := hS.below hb1; (obtain ⟨P1, d1, rfl⟩ := own_shape ho; replace HPA := Lib.hid (below_look hb1 HPA.out); replace HO4 := Lib.hid (own_below HO4.out hb1); have HO1 := Lib.hid (own_weak ho hz); clear ho hz); try simp only [Zq]
      have hz : w.heap.size ≤ (w3).heap.size := Nat.le_trans HB.out.size hS.size
      refine ha_call (i := 7) (by kernel_rfl) rfl rfl (fun K hK => ?_); go_simp; refine ⟨_, _, ⟨rfl, rfl⟩, hK _ _ ⟨_, CopyStrings_any A2 n c2 (t.map ek) (by omega) _ (HS2.out.below (hS.toBelow (Nat.le_refl _) (by simp))), ?_⟩⟩; clear hK K; rintro e w4 ⟨v', rfl, ho, hb1⟩; refine ⟨_, rfl, hS.below hb1, ?_⟩; replace hS := hS.below hb1; (obtain ⟨P2, d2, rfl⟩ := own_shape ho; have HNE : Hid (∀ q, (Value.slice P1 nl d1).ownBlock = some q → (Value.slice P2 n d2).ownBlock ≠ some q) := Lib.hid (fun q h1 h2 ↦ by have := (HO1.out.lt q h1).2; have := (own_block ho h2).1; omega); replace HPA := Lib.hid (below_look hb1 HPA.out); replace HO4 := Lib.hid (own_below HO4.out hb1); replace HO1 := Lib.hid (own_below HO1.out hb1); have HO2 := Lib.hid (own_weak ho hz); clear ho hz); try simp only [Zq]
      have hz : w.heap.size ≤ (w4).heap.size := Nat.le_trans HB.out.size hS.size
      refine ha_call (i := 10) (by kernel_rfl) rfl rfl (fun K hK => ?_); go_simp; refine ⟨_, _, ⟨rfl, rfl⟩, hK _ _ ⟨_, CopyInts_any (.slice A3 n c3) n (t.map ev) B (by omega) _ (own_below HV.out (hS.toBelow (Nat.le_refl _) (by simp))), ?_⟩⟩; clear hK K; rintro e w5 ⟨v', rfl, ho, hb1⟩; refine ⟨_, rfl, hS.below hb1, ?_⟩; replace hS := hS.below hb1; (obtain ⟨P3, d3, rfl⟩ := own_shape ho; replace HPA := Lib.hid (below_look hb1 HPA.out); replace HO4 := Lib.hid (own_below HO4.out hb1); replace HO1 := Lib.hid (own_below HO1.out hb1); replace HO2 := Lib.hid (own_below HO2.out hb1); have HO3 := Lib.hid (own_weak ho hz); clear ho hz); try simp only [Zq]
      (refine hv3 (i := 17) rfl (by kernel_rfl) Zg hS rfl (fun w' hw' => ex_build 105 _ rfl (L := [(0, .slice P1 nl d1), (1, .int .i64 seed), (2, .slice P2 n d2), (3, .slice P3 n d3), (4, .slice (some ⟨p4, 0, none⟩) n n), (5, .bool dd)]) rfl (built105 _ _ _ _ _ _ _ _ _ _ _ _ _ _)) ?_; try simp only [Zq])
  all_goals
    refine ha_store (i := 19) (by kernel_rfl) rfl rfl 105 _ _ rfl pa (rcells (.slice P1 nl d1) seed (.slice P2 n d2) (.slice P3 n d3) (.slice (some ⟨p4, 0, none⟩) n n) dd) rfl rfl 105 _ HPA.out info105 rfl (rcells_one _ _ _ _ _ _ _ _ _ _ _ _ _ _) (hS.setNew hpa _) (fun hS => ?_); try simp only [Zq]
    refine wpAnyH_done (by kernel_rfl) ?_ _
    have hoth : ∀ {e : TypeId} {m : Nat} {x : Value} {xs : List Value}, World.ownsRow w5 w.heap.size e 1 x m xs → e ≠ 105 → (World.setRow w5 pa (rcells (.slice P1 nl d1) seed (.slice P2 n d2) (.slice P3 n d3) (.slice (some ⟨p4, 0, none⟩) n n) dd)).ownsRow w.heap.size e 1 x m xs := fun h he => own_same h (fun q hq hx => setRow_other _ _ _ _ (fun e2 => by
      obtain ⟨_, cc, hcc⟩ := own_block h hx
      rw [e2, HPA.out] at hcc; simp only [Option.some.injEq, Obj.cells.injEq] at hcc; exact he hcc.2.1.symm))
    exact tail pa p4 P1 P2 P3 d1 d2 d3 _ _ _ _ _ _ _ _ _ _ _ _ _ _ _ _ _ _ _ _ _ _ _ _ _ _ _ _ _ _ _ _ _ _ _ _ _ hpa hp4 (Lib.hid (hoth HO1.out (by decide))) (Lib.hid (hoth HO2.out (by decide))) (Lib.hid (hoth HO3.out (by decide))) (Lib.hid (hoth HO4.out (by decide))) HNE (Lib.hid (hr_new HPA.out)) (Lib.hid (hS.toBelow (Nat.le_refl _) (by simp)))
end Go.Proofs.Ytbhdgeoljlhmcaa
