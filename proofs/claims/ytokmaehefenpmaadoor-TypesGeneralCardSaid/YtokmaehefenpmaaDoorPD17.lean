/- The text of a node whose word is looked up, written. The program's Apply and Func. Format, and 'awake'. -/
import Derived.Test.YtokmaehefenpmaaDoorPD16
import Derived.Test.YtokmaehefenpmaaDoorPD8
namespace Go.Proofs.YtokmaehefenpmaaDoor
open Go.RowKit Go.Proofs.YtokmaehefenpmaaDoor.Nm
set_option linter.unusedSimpArgs false
theorem lit_cast {ops : Array Oper} (e : ops = opsW) : LitOps ops := by rw [e]; exact litOps
theorem ex_mm {o : Oper} (ho : o.op = .makeMap 104 none) (ev : Operand → Value) (w : World) : (execOp ev o).run Tryd.prog w = .ok (.value (.map (some w.heap.size))) (w.alloc (.map #[] 0)) := by
  unfold execOp
  simp [ho, run_makeMap, Result.andThen]
def wordOf (s : ByteArray) (z : ByteArray) (i : Nat) : ByteArray := valOf s (⟨#[36]⟩ ++ s) (⟨#[97, 110, 121, 32]⟩ ++ s) (⟨#[63]⟩ ++ z) i
theorem key8 : ∀ i, i ∈ insL → (keyOf i == 8) = false := by decide
theorem key10 : ∀ i, i ∈ insL → (keyOf i == 10) = false := by decide
theorem run_look {r : Nat} {es : Array MapEntry} {c : Nat} {k : Int} {m : Nat} {v : ByteArray} (w : World) (hb : w.heap[r]? = some (.map es c)) (hf : Instr.findNow (.int .i64) (.int .i64 k) es.toList 0 = some (some (m, .string v))) : (Instr.lookup 104 (.map (some r)) (.int .i64 k) false).run Tryd.prog w = .ok (.string v) w := by
  unfold Instr.lookup
  simp [Sem.run_bind, run_underlying u104, Result.andThen, MapKept.run_getObj_map hb, MapKept.run_checkKey u3 (k := .int .i64 k) rfl _ 9999, MapKept.run_findKey u3 hf]
theorem ex_look {ev : Operand → Value} {o : Oper} {w : World} (x y : Operand) (ho : o.op = .lookup 104 x y false) {r : Nat} {es : Array MapEntry} {c : Nat} {k : Int} {m : Nat} {v : ByteArray} (hx : ev x = .map (some r)) (hy : ev y = .int .i64 k) (hb : w.heap[r]? = some (.map es c)) (hf : Instr.findNow (.int .i64) (.int .i64 k) es.toList 0 = some (some (m, .string v))) :
    (execOp ev o).run Tryd.prog w = .ok (.value (.string v)) w := by
  unfold execOp
  simp [ho, hx, hy, run_look w hb hf, Result.andThen]
theorem run_cat (z : ByteArray) (hz : ¬ 9223372036854775807 < 1 + z.size) (A : Act) (hA : A.eval (.tmp 18) = .string z) (o : Oper) (w : World) (ho : o.op = .binOp .add 9 (.const (.string ⟨#[63]⟩)) (.tmp 18) 9) : (execOp A.eval o).run Tryd.prog w = .ok (.value (.string (⟨#[63]⟩ ++ z))) w := by
  have e2 : A.eval (.const (.string ⟨#[63]⟩)) = .string ⟨#[63]⟩ := rfl
  unfold execOp
  simp only [ho, hA, e2]
  have h3 := Tryd.underlying9
  simp [go_sem, hz]
/-- The ten entries come, from the start. -/
theorem lit_A {ops : Array Oper} (hO : LitOps ops) {W0 : World} {r : Nat} {n : Int} {v9 v12 v15 z : ByteArray} {A0 A1 A2 : Act} (h1 : A0.put (some 18) (.string z) = A1) (h2 : A1.put (some 19) (.string (⟨#[63]⟩ ++ z)) = A2) (hz : ¬ 9223372036854775807 < 1 + z.size) (hr : W0.heap.size ≤ r)
    (m0 : A0.eval (.tmp 7) = .map (some r) ∧ A0.eval (.tmp 9) = .string v9 ∧ A0.eval (.tmp 12) = .string v12 ∧ A0.eval (.tmp 15) = .string v15) (m1 : A1.eval (.tmp 7) = .map (some r) ∧ A1.eval (.tmp 9) = .string v9 ∧ A1.eval (.tmp 12) = .string v12 ∧ A1.eval (.tmp 15) = .string v15) (m2 : A2.eval (.tmp 7) = .map (some r) ∧ A2.eval (.tmp 9) = .string v9 ∧ A2.eval (.tmp 12) = .string v12 ∧ A2.eval (.tmp 15) = .string v15)
    (q1 : A1.eval (.tmp 18) = .string z) (q2 : A2.eval (.tmp 19) = .string (⟨#[63]⟩ ++ z)) (n0 : A0.eval (.tmp 17) = .int .i64 n) (call : ∀ w, Calls Tryd.prog 81 #[.int .i64 n] w fun e w' => e = .returned (.string z) ∧ w' = w)
    {Q : Exit → Act → World → Prop} {L : Array Bool} (hL : L = listedOf fun _ => false) {w : World} (hm : w.heap[r]? = some (.map #[] 0)) (hb : Below W0.heap.size W0 w)
    (hK : ∀ w es c, w.heap[r]? = some (.map es c) → GoodE (valOf v9 v12 v15 (⟨#[63]⟩ ++ z)) (fun _ => true) es → Below W0.heap.size W0 w → wpAnyH Tryd.prog .any ops Q (Below W0.heap.size W0) 2 (listedOf fun _ => true) A2 w) :
    wpAnyH Tryd.prog .any ops Q (Below W0.heap.size W0) 14 L A0 w := by
  subst hL
  have F : LitFr ops W0 r n v9 v12 v15 z (⟨#[63]⟩ ++ z) A0 A1 A2 := ⟨hr, fun A hA => by
    rcases hA with rfl | rfl | rfl
    · exact m0
    · exact m1
    · exact m2, q2, n0, fun w _ => call w, h1, fun o w ho => run_cat z hz A1 q1 o w ho, h2⟩
  exact lit_any hO F hK 12 (fun _ => false) (fun h => by cases h) (fun h => by cases h) rfl w #[] 0 hm ⟨fun e he => by simp at he, fun i _ h => by cases h⟩ hb
/-- They come, once the number's text is there. -/
theorem lit_B {ops : Array Oper} (hO : LitOps ops) {W0 : World} {r : Nat} {n : Int} {v9 v12 v15 z : ByteArray} {A : Act} (h1 : A.put (some 18) (.string z) = A) (h2 : A.put (some 19) (.string (⟨#[63]⟩ ++ z)) = A) (hz : ¬ 9223372036854775807 < 1 + z.size) (hr : W0.heap.size ≤ r)
    (m0 : A.eval (.tmp 7) = .map (some r) ∧ A.eval (.tmp 9) = .string v9 ∧ A.eval (.tmp 12) = .string v12 ∧ A.eval (.tmp 15) = .string v15)
    (q1 : A.eval (.tmp 18) = .string z) (q2 : A.eval (.tmp 19) = .string (⟨#[63]⟩ ++ z)) (n0 : A.eval (.tmp 17) = .int .i64 n) (call : ∀ w, Calls Tryd.prog 81 #[.int .i64 n] w fun e w' => e = .returned (.string z) ∧ w' = w)
    {Q : Exit → Act → World → Prop} {L : Array Bool} (hL : L = listedOf fun j => j == 20 || j == 21) {w : World} (hm : w.heap[r]? = some (.map #[] 0)) (hb : Below W0.heap.size W0 w)
    (hK : ∀ w es c, w.heap[r]? = some (.map es c) → GoodE (valOf v9 v12 v15 (⟨#[63]⟩ ++ z)) (fun _ => true) es → Below W0.heap.size W0 w → wpAnyH Tryd.prog .any ops Q (Below W0.heap.size W0) 2 (listedOf fun _ => true) A w) :
    wpAnyH Tryd.prog .any ops Q (Below W0.heap.size W0) 12 L A w := by
  subst hL
  have F : LitFr ops W0 r n v9 v12 v15 z (⟨#[63]⟩ ++ z) A A A := ⟨hr, fun A hA => by
    rcases hA with rfl | rfl | rfl <;> exact m0, q2, n0, fun w _ => call w, h1, fun o w ho => run_cat z hz A q1 o w ho, h2⟩
  have := lit_any hO F hK 10 (fun j => j == 20 || j == 21) (fun _ => rfl) (fun h => by simp at h) rfl w #[] 0 hm ⟨fun e he => by simp at he, fun i hi h => by
    have := ins_ne i hi
    simp only [Bool.or_eq_true, beq_iff_eq] at h
    rcases h with rfl | rfl
    · simp at this
    · simp at this⟩ hb
  have e : frOf A A A (fun j => j == 20 || j == 21) = A := rfl
  rw [e] at this
  exact this
set_option maxHeartbeats 4000000 in
set_option maxRecDepth 100000 in
theorem typ_simple (txt : Ty → List UInt8) (k : Int) (s : ByteArray) (n : Nat) (ts : List Ty) (i : Nat) (hi : i ∈ insL) (hk : keyOf i = k) (hn : n < 100) (hdl : (⟨(Lib.decDigits n).toArray⟩ : ByteArray).size ≤ 100) (hsz : s.size ≤ 1000000000) (hC : ∀ t, t ∈ ts → TypC txt t)
    (htxt : txt (.node k s n ts) = (wordOf s ⟨(Lib.decDigits n).toArray⟩ i).data.toList ++ if ts = [] then [] else [60] ++ sepText txt true ts ++ [62]) : TypC txt (.node k s n ts) := by
  intro w B b l0 D row hBd hB hlen h hD
  have hmf : ∀ (fn : Fn) (first cap : Array Value) (w : World), (Instr.makeFunc fn first cap).run Tryd.prog w = .ok (.func fn first cap) w := fun _ _ _ _ => rfl
  obtain ⟨k1, s1, n1, A, l, c, ts1, e, rfl, -, -, -, hT⟩ := h.parts
  cases e
  have HT := Lib.hid hT
  have HL := Lib.hid hT.len
  have HI := Lib.hid hC
  have HD := Lib.hid hD
  have HLN := Lib.hid hlen
  have HTX := Lib.hid htxt
  have hbl := hBd.lt
  have HB0 := Lib.hid hBd
  have HIN := Lib.hid hi
  have HKI := Lib.hid hk
  clear hT hC hD hlen hBd h htxt hi hk
  have hb := Below.refl w.heap.size w
  go_enter Tryd.func60, Tryd.ntmps60
  go_upto_region 0 with (fail)
  apply wp_region_lit
  (with_reducible refine wl_box76 rfl ?_); intro W p hbn hlp hp; replace hb := hb.trans (hbn.mono hb.size); clear hbn; simp only [put_lit, List.set_cons_zero, List.set_cons_succ]
  have lthpq := heap_lt hp; (with_reducible refine wl_box rfl ?_); intro W0 q hbn hlq hq; replace hp := below_look hbn hp; replace hb := hb.trans (hbn.mono hb.size); clear hbn; simp only [put_lit, List.set_cons_zero, List.set_cons_succ]
  have hpb : p ≠ b := by omega
  have hqb : q ≠ b := by have := heap_lt hp; omega
  have e8 : (k == 8) = false := by rw [← HKI.out]; exact key8 i HIN.out
  have e10 : (k == 10) = false := by rw [← HKI.out]; exact key10 i HIN.out
  have HWL : Hid ((wordOf s ⟨(Lib.decDigits n).toArray⟩ i).size ≤ (txt (.node k s n ts)).length) := Lib.hid (by rw [HTX.out, List.length_append]; exact Nat.le_add_right _ _)
  go_upto_region 1 with (fail)
  refine wp_region_held_drew (S := Below W0.heap.size W0) mixed ((Below.refl _ W0).drew) (fun hS => ?_)
  have hz1 : ¬ 9223372036854775807 < 1 + s.size := by omega
  have hz4 : ¬ 9223372036854775807 < 4 + s.size := by omega
  refine ha_k (i := 7) rfl (by kernel_rfl) (by kernel_rfl) (by kernel_rfl) (fun _ _ _ _ h => h) hS rfl (fun K hK => ?_); go_simp; refine hK _ ?_; clear hK K; try simp only [put_lit, List.set_cons_zero, List.set_cons_succ]
  refine ha_val (i := 8) rfl (by kernel_rfl) (by kernel_rfl) (by kernel_rfl) (fun _ _ _ h => h) hS rfl (fun w' hw' => ex_one rfl (f1 (below_look hw' hq))) ?_; try simp only [put_lit, List.set_cons_zero, List.set_cons_succ]
  refine ha_k (i := 10) rfl (by kernel_rfl) (by kernel_rfl) (by kernel_rfl) (fun _ _ _ _ h => h) hS rfl (fun K hK => ?_); go_simp; refine hK _ ?_; clear hK K; try simp only [put_lit, List.set_cons_zero, List.set_cons_succ]
  refine ha_val (i := 11) rfl (by kernel_rfl) (by kernel_rfl) (by kernel_rfl) (fun _ _ _ h => h) hS rfl (fun w' hw' => ex_one rfl (f1 (below_look hw' hq))) ?_; try simp only [put_lit, List.set_cons_zero, List.set_cons_succ]
  refine ha_k (i := 12) rfl (by kernel_rfl) (by kernel_rfl) (by kernel_rfl) (fun _ _ _ _ h => h) hS rfl (fun K hK => ?_); go_simp; refine hK _ ?_; clear hK K; try simp only [put_lit, List.set_cons_zero, List.set_cons_succ]
  refine ha_k (i := 14) rfl (by kernel_rfl) (by kernel_rfl) (by kernel_rfl) (fun _ _ _ _ h => h) hS rfl (fun K hK => ?_); go_simp; refine hK _ ?_; clear hK K; try simp only [put_lit, List.set_cons_zero, List.set_cons_succ]
  refine ha_val (i := 15) rfl (by kernel_rfl) (by kernel_rfl) (by kernel_rfl) (fun _ _ _ h => h) hS rfl (fun w' hw' => ex_one rfl (f1 (below_look hw' hq))) ?_; try simp only [put_lit, List.set_cons_zero, List.set_cons_succ]
  refine ha_k (i := 16) rfl (by kernel_rfl) (by kernel_rfl) (by kernel_rfl) (fun _ _ _ _ h => h) hS rfl (fun K hK => ?_); go_simp; refine hK _ ?_; clear hK K; try simp only [put_lit, List.set_cons_zero, List.set_cons_succ]
  refine ha_k (i := 18) rfl (by kernel_rfl) (by kernel_rfl) (by kernel_rfl) (fun _ _ _ _ h => h) hS rfl (fun K hK => ?_); go_simp; refine hK _ ?_; clear hK K; try simp only [put_lit, List.set_cons_zero, List.set_cons_succ]
  refine ha_val (i := 19) rfl (by kernel_rfl) (by kernel_rfl) (by kernel_rfl) (fun _ _ _ h => h) hS rfl (fun w' hw' => ex_one rfl (f2 (below_look hw' hq))) ?_; try simp only [put_lit, List.set_cons_zero, List.set_cons_succ]
  clear hz1 hz4
  obtain ⟨z, hz⟩ : ∃ z, z = (⟨(Lib.decDigits n).toArray⟩ : ByteArray) := ⟨_, rfl⟩
  have HZ := Lib.hid hz
  have hzl : ¬ 9223372036854775807 < 1 + z.size := by rw [hz]; omega
  have HCI : Hid (∀ w, Calls Tryd.prog 81 #[.int .i64 (n : Int)] w fun e w' => e = .returned (.string z) ∧ w' = w) := Lib.hid fun w => by rw [hz]; exact Tryd.strconv_Itoa_small n hn w
  clear hz
  refine ha_two (i := 0) (j := 20) (by kernel_rfl) ?_ ?_
  · have hbm : Below W0.heap.size W0 (W0.drew.alloc (.map #[] 0)) := (Below.refl _ W0).drew.alloc (Nat.le_refl _) _
    refine sh_do (i := 0) rfl rfl (ex_mm rfl _ _) hbm ?_
    try simp only [List.getElem_toArray, List.getElem_cons_succ, List.getElem_cons_zero, put_lit, List.set_cons_zero, List.set_cons_succ]
    refine lit_A (lit_cast (by kernel_rfl)) rfl rfl hzl (r := W0.heap.size) (Nat.le_refl _) ⟨rfl, rfl, rfl, rfl⟩ ⟨rfl, rfl, rfl, rfl⟩ ⟨rfl, rfl, rfl, rfl⟩ rfl rfl rfl HCI.out (by kernel_rfl) (ha_new rfl) hbm ?_
    intro w1 es c1 hm hG hb1
    obtain ⟨m, hfind⟩ := hG.hit HIN.out rfl
    rw [HKI.out] at hfind
    have HFD := Lib.hid hfind
    obtain ⟨wd, hwd⟩ : ∃ wd, wd = wordOf s z i := ⟨_, rfl⟩
    replace HFD : Hid (Instr.findNow (.int .i64) (.int .i64 k) es.toList 0 = some (some (m, .string wd))) := Lib.hid (by rw [hwd]; exact hfind)
    have HWD := Lib.hid hwd
    have hS := hb1
    clear hG hfind hwd
    try simp only [List.getElem_toArray, List.getElem_cons_succ, List.getElem_cons_zero, put_lit, List.set_cons_zero, List.set_cons_succ]
    refine ha_k (i := 23) rfl (by kernel_rfl) (by kernel_rfl) (by kernel_rfl) (fun _ _ _ _ h => h) hS rfl (fun K hK => ?_); go_simp; refine hK _ ?_; clear hK K; try simp only [put_lit, List.set_cons_zero, List.set_cons_succ]
    refine ha_k (i := 24) rfl (by kernel_rfl) (by kernel_rfl) (by kernel_rfl) (fun _ _ _ _ h => h) hS rfl (fun K hK => ?_); go_simp; refine hK _ ?_; clear hK K; try simp only [put_lit, List.set_cons_zero, List.set_cons_succ]
    clear hS
    refine wpAnyH_done (by kernel_rfl) ?_ _
    replace hp := below_look hb1 hp
    replace hq := below_look hb1 hq
    have hb2 := hb.trans (hb1.mono hb.size)
    have hK : Kb B b w w1 := Kb.of hb2 hB
    have HBd := Lib.hid (HB0.out.old hb2)
    have hsz1 := hb2.size
    have HTW := Lib.hid (HT.out.old hb2)
    clear hb1 hb2
    go_upto_region 2 with (fail)
    apply wp_region_lit
    (with_reducible refine wl_k ?_ ?_); exact rfl; intro K hK; go_simp; refine hK _ ?_; clear hK K
    (with_reducible apply wl_oneG); exact rfl; exact rfl; exact g72 hp
    (with_reducible refine wl_k ?_ ?_); exact rfl; intro K hK; go_simp; refine hK _ ?_; clear hK K
    (with_reducible refine wl_k ?_ ?_); exact rfl; intro K hK; go_simp; refine hK _ ?_; clear hK K
    go_upto_region 3 with (fail)
    apply wp_region_lit
    (with_reducible refine wl_k ?_ ?_); exact rfl; intro K hK; go_simp; refine hK _ ?_; clear hK K
    (first | ((with_reducible apply wl_oneG); exact rfl; exact rfl; first | exact f0 (by with_reducible assumption) | exact f1 (by with_reducible assumption) | exact f2 (by with_reducible assumption) | exact f3 (by with_reducible assumption) | with_reducible assumption | exact g22 (by with_reducible assumption) | exact g25 (by with_reducible assumption)) | ((with_reducible apply wl_rowG); exact rfl; exact rfl; first | with_reducible assumption | exact RowK.now (by with_reducible assumption) | exact f4 (by with_reducible assumption)))
    go_upto_region 9 with (fail)
    apply wp_region_lit
    (with_reducible refine wl_k ?_ ?_); exact rfl; intro K hK; go_simp; refine hK _ ?_; clear hK K
    (with_reducible refine wl_k ?_ ?_); exact rfl; intro K hK; go_simp; refine hK _ ?_; clear hK K
    go_upto_region 12 with (fail)
    apply wp_region_lit
    (with_reducible refine wl_k ?_ ?_); exact rfl; intro K hK; go_simp; refine hK _ ?_; clear hK K
    (with_reducible refine wl_k ?_ ?_); exact rfl; intro K hK; go_simp; refine hK _ ?_; clear hK K
    have HW := Lib.hid (WriteS B b _ wd w1 HBd.out (by have := HLN.out; have := HWL.out; rw [HWD.out, HZ.out]; omega) (by omega))
    go_upto_region 4 with (fail)
    apply wp_region_lit
    (with_reducible refine wl_k ?_ ?_); exact rfl; intro K hK; go_simp; refine hK _ ?_; clear hK K
    (with_reducible refine wl_k ?_ ?_); exact rfl; intro K hK; go_simp; refine hK _ ?_; clear hK K
    (with_reducible refine wl_k ?_ ?_); exact rfl; intro K hK; go_simp; refine hK _ ?_; clear hK K
    (first | ((with_reducible apply wl_oneG); exact rfl; exact rfl; first | exact f0 (by with_reducible assumption) | exact f1 (by with_reducible assumption) | exact f2 (by with_reducible assumption) | exact f3 (by with_reducible assumption) | with_reducible assumption | exact g22 (by with_reducible assumption) | exact g25 (by with_reducible assumption)) | ((with_reducible apply wl_rowG); exact rfl; exact rfl; first | with_reducible assumption | exact RowK.now (by with_reducible assumption) | exact f4 (by with_reducible assumption)))
    refine wl_val rfl (ex_look _ _ rfl rfl rfl hm HFD.out) ?_
    simp only [put_lit, List.set_cons_zero, List.set_cons_succ]
    (with_reducible refine wl_ck ?_ ?_); exact rfl; intro K hK; go_simp; refine ⟨_, _, ⟨rfl, rfl⟩, hK _ _ ⟨_, HW.out, ?_⟩⟩; clear hK K; rintro e w6 ⟨rfl, hbd6, hk6⟩; refine ⟨_, rfl, ?_⟩; simp only [put_lit, List.set_cons_zero, List.set_cons_succ]
    replace HTW := Lib.hid (HTW.out.kb HD.out hk6)
    replace hp := hk6.look hp hpb (by decide)
    replace hq := hk6.look hq hqb (by decide)
    have hsz6 := hk6.size
    replace hK := hK.trans hk6
    replace HBd := Lib.hid hbd6
    clear hk6 hbd6 HW hm HFD
    by_cases hts : ts = []
    · have hl0 : l = 0 := by rw [← HL.out, hts]; rfl
      have HFIN : Hid (l0 ++ txt (.node k s n ts) = l0 ++ wd.data.toList) := Lib.hid (by rw [HTX.out, if_pos hts, List.append_nil, HWD.out, HZ.out])
      subst hl0
      clear hts
      go_upto_region 5 with (fail)
      apply wp_region_lit
      (with_reducible refine wl_k ?_ ?_); exact rfl; intro K hK; go_simp; refine hK _ ?_; clear hK K
      (first | ((with_reducible apply wl_oneG); exact rfl; exact rfl; first | exact f0 (by with_reducible assumption) | exact f1 (by with_reducible assumption) | exact f2 (by with_reducible assumption) | exact f3 (by with_reducible assumption) | with_reducible assumption | exact g22 (by with_reducible assumption) | exact g25 (by with_reducible assumption)) | ((with_reducible apply wl_rowG); exact rfl; exact rfl; first | with_reducible assumption | exact RowK.now (by with_reducible assumption) | exact f4 (by with_reducible assumption)))
      (with_reducible refine wl_k ?_ ?_); exact rfl; intro K hK; go_simp; refine hK _ ?_; clear hK K
      (with_reducible refine wl_k ?_ ?_); exact rfl; intro K hK; go_simp; refine hK _ ?_; clear hK K
      go_wp2_with fail
      go_end0
      exact ⟨rfl, by rw [HFIN.out]; exact HBd.out, hK⟩
    · have hlp : (l : Int) > 0 := by have := HL.out; have : 0 < ts.length := List.length_pos_iff.2 hts; omega
      have hlp2 : 0 < l := by omega
      have HFIN : Hid (l0 ++ txt (.node k s n ts) = l0 ++ wd.data.toList ++ [60] ++ sepText txt true ts ++ [62]) := Lib.hid (by rw [HTX.out, if_neg hts, HWD.out, HZ.out]; simp)
      have HLF := Lib.hid (show l0.length + wd.data.toList.length + 1 + (sepText txt true ts).length + 1 ≤ 1000000000 by
        have h1 := HLN.out
        have h2 := congrArg List.length HFIN.out
        simp only [List.length_append, List.length_cons, List.length_nil] at h2
        omega)
      clear hts
      have HW2 := Lib.hid (WriteS B b _ ⟨#[60]⟩ w6 HBd.out (by have := HLF.out; rw [List.length_append]; have hc : (⟨#[60]⟩ : ByteArray).size = 1 := rfl; omega) (by omega))
      go_upto_region 5 with (fail)
      apply wp_region_lit
      (with_reducible refine wl_k ?_ ?_); exact rfl; intro K hK; go_simp; refine hK _ ?_; clear hK K
      (first | ((with_reducible apply wl_oneG); exact rfl; exact rfl; first | exact f0 (by with_reducible assumption) | exact f1 (by with_reducible assumption) | exact f2 (by with_reducible assumption) | exact f3 (by with_reducible assumption) | with_reducible assumption | exact g22 (by with_reducible assumption) | exact g25 (by with_reducible assumption)) | ((with_reducible apply wl_rowG); exact rfl; exact rfl; first | with_reducible assumption | exact RowK.now (by with_reducible assumption) | exact f4 (by with_reducible assumption)))
      (with_reducible refine wl_k ?_ ?_); exact rfl; intro K hK; go_simp; refine hK _ ?_; clear hK K
      (with_reducible refine wl_k ?_ ?_); exact rfl; intro K hK; go_simp; refine hK _ ?_; clear hK K
      go_upto_region 6 with (fail)
      apply wp_region_lit
      (with_reducible refine wl_k ?_ ?_); exact rfl; intro K hK; go_simp; refine hK _ ?_; clear hK K
      (with_reducible refine wl_ck ?_ ?_); exact rfl; intro K hK; go_simp; refine ⟨_, _, ⟨rfl, rfl⟩, hK _ _ ⟨_, HW2.out, ?_⟩⟩; clear hK K; rintro e w7 ⟨rfl, hbd7, hk7⟩; refine ⟨_, rfl, ?_⟩; simp only [put_lit, List.set_cons_zero, List.set_cons_succ]
      replace HTW := Lib.hid (HTW.out.kb HD.out hk7)
      replace hp := hk7.look hp hpb (by decide)
      replace hq := hk7.look hq hqb (by decide)
      have hsz7 := hk7.size
      replace hK := hK.trans hk7
      replace HBd : Hid (Bd w7 B b (l0 ++ wd.data.toList ++ [60])) := Lib.hid hbd7
      clear hk7 hbd7 HW2
      have HC := Lib.hid (list_any txt ts HI.out w7 B b _ D A l c HBd.out (by omega) (by have := HLF.out; simp only [List.length_append, List.length_cons, List.length_nil]; omega) HTW.out HD.out)
      go_upto_region 7 with (fail)
      apply wp_region_lit
      (with_reducible apply wl_rowG); exact rfl; exact rfl; exact g76 hp
      (with_reducible refine wl_k ?_ ?_); exact rfl; intro K hK; go_simp; refine hK _ ?_; clear hK K
      (first | ((with_reducible apply wl_oneG); exact rfl; exact rfl; first | exact f0 (by with_reducible assumption) | exact f1 (by with_reducible assumption) | exact f2 (by with_reducible assumption) | exact f3 (by with_reducible assumption) | with_reducible assumption | exact g22 (by with_reducible assumption) | exact g25 (by with_reducible assumption)) | ((with_reducible apply wl_rowG); exact rfl; exact rfl; first | with_reducible assumption | exact RowK.now (by with_reducible assumption) | exact f4 (by with_reducible assumption)))
      (with_reducible refine wl_ck ?_ ?_); exact rfl; intro K hK; go_simp; refine ⟨_, _, ⟨rfl, rfl⟩, hK _ _ ⟨_, HC.out, ?_⟩⟩; clear hK K; rintro e w8 ⟨rfl, hbd8, hk8⟩; refine ⟨_, rfl, ?_⟩; simp only [put_lit, List.set_cons_zero, List.set_cons_succ]
      have hsz8 := hk8.size
      replace hK := hK.trans hk8
      replace HBd := Lib.hid hbd8
      clear hk8 hbd8 HC hp hq
      have HW3 := Lib.hid (WriteS B b _ ⟨#[62]⟩ w8 HBd.out (by have := HLF.out; simp only [List.length_append, List.length_cons, List.length_nil]; have hc : (⟨#[62]⟩ : ByteArray).size = 1 := rfl; omega) (by omega))
      go_upto_region 8 with (fail)
      apply wp_region_lit
      (with_reducible refine wl_k ?_ ?_); exact rfl; intro K hK; go_simp; refine hK _ ?_; clear hK K
      (with_reducible refine wl_ck ?_ ?_); exact rfl; intro K hK; go_simp; refine ⟨_, _, ⟨rfl, rfl⟩, hK _ _ ⟨_, HW3.out, ?_⟩⟩; clear hK K; rintro e w9 ⟨rfl, hbd9, hk9⟩; refine ⟨_, rfl, ?_⟩; simp only [put_lit, List.set_cons_zero, List.set_cons_succ]
      replace hK := hK.trans hk9
      replace HBd : Hid (Bd w9 B b (l0 ++ wd.data.toList ++ [60] ++ sepText txt true ts ++ [62])) := Lib.hid hbd9
      clear hk9 hbd9 HW3
      go_wp2_with fail
      go_end0
      exact ⟨rfl, by rw [HFIN.out]; exact HBd.out, hK⟩
  · refine sh_call (i := 20) rfl rfl (fun K hK => ?_)
    go_simp; refine ⟨_, _, ⟨rfl, rfl⟩, hK _ _ ⟨_, HCI.out _, ?_⟩⟩; clear hK K; rintro e w20 ⟨rfl, rfl⟩; refine ⟨_, rfl, (Below.refl _ W0).drew, ?_⟩
    try simp only [List.getElem_toArray, List.getElem_cons_succ, List.getElem_cons_zero, put_lit, List.set_cons_zero, List.set_cons_succ]
    refine ha_k (i := 21) rfl (by kernel_rfl) (by kernel_rfl) (by kernel_rfl) (fun _ _ _ _ h => h) hS rfl (fun K hK => ?_); go_simp; refine hK _ ?_; clear hK K; try simp only [put_lit, List.set_cons_zero, List.set_cons_succ]
    have hbm : Below W0.heap.size W0 (W0.drew.alloc (.map #[] 0)) := (Below.refl _ W0).drew.alloc (Nat.le_refl _) _
    refine ha_do (i := 0) (by kernel_rfl) rfl rfl (ex_mm rfl _ _) hbm ?_
    try simp only [List.getElem_toArray, List.getElem_cons_succ, List.getElem_cons_zero, put_lit, List.set_cons_zero, List.set_cons_succ]
    refine lit_B (lit_cast (by kernel_rfl)) rfl rfl hzl (r := W0.heap.size) (Nat.le_refl _) ⟨rfl, rfl, rfl, rfl⟩ rfl rfl rfl HCI.out (by kernel_rfl) (ha_new rfl) hbm ?_
    intro w1 es c1 hm hG hb1
    obtain ⟨m, hfind⟩ := hG.hit HIN.out rfl
    rw [HKI.out] at hfind
    have HFD := Lib.hid hfind
    obtain ⟨wd, hwd⟩ : ∃ wd, wd = wordOf s z i := ⟨_, rfl⟩
    replace HFD : Hid (Instr.findNow (.int .i64) (.int .i64 k) es.toList 0 = some (some (m, .string wd))) := Lib.hid (by rw [hwd]; exact hfind)
    have HWD := Lib.hid hwd
    have hS := hb1
    clear hG hfind hwd
    try simp only [List.getElem_toArray, List.getElem_cons_succ, List.getElem_cons_zero, put_lit, List.set_cons_zero, List.set_cons_succ]
    refine ha_k (i := 23) rfl (by kernel_rfl) (by kernel_rfl) (by kernel_rfl) (fun _ _ _ _ h => h) hS rfl (fun K hK => ?_); go_simp; refine hK _ ?_; clear hK K; try simp only [put_lit, List.set_cons_zero, List.set_cons_succ]
    refine ha_k (i := 24) rfl (by kernel_rfl) (by kernel_rfl) (by kernel_rfl) (fun _ _ _ _ h => h) hS rfl (fun K hK => ?_); go_simp; refine hK _ ?_; clear hK K; try simp only [put_lit, List.set_cons_zero, List.set_cons_succ]
    clear hS
    refine wpAnyH_done (by kernel_rfl) ?_ _
    replace hp := below_look hb1 hp
    replace hq := below_look hb1 hq
    have hb2 := hb.trans (hb1.mono hb.size)
    have hK : Kb B b w w1 := Kb.of hb2 hB
    have HBd := Lib.hid (HB0.out.old hb2)
    have hsz1 := hb2.size
    have HTW := Lib.hid (HT.out.old hb2)
    clear hb1 hb2
    go_upto_region 2 with (fail)
    apply wp_region_lit
    (with_reducible refine wl_k ?_ ?_); exact rfl; intro K hK; go_simp; refine hK _ ?_; clear hK K
    (with_reducible apply wl_oneG); exact rfl; exact rfl; exact g72 hp
    (with_reducible refine wl_k ?_ ?_); exact rfl; intro K hK; go_simp; refine hK _ ?_; clear hK K
    (with_reducible refine wl_k ?_ ?_); exact rfl; intro K hK; go_simp; refine hK _ ?_; clear hK K
    go_upto_region 3 with (fail)
    apply wp_region_lit
    (with_reducible refine wl_k ?_ ?_); exact rfl; intro K hK; go_simp; refine hK _ ?_; clear hK K
    (first | ((with_reducible apply wl_oneG); exact rfl; exact rfl; first | exact f0 (by with_reducible assumption) | exact f1 (by with_reducible assumption) | exact f2 (by with_reducible assumption) | exact f3 (by with_reducible assumption) | with_reducible assumption | exact g22 (by with_reducible assumption) | exact g25 (by with_reducible assumption)) | ((with_reducible apply wl_rowG); exact rfl; exact rfl; first | with_reducible assumption | exact RowK.now (by with_reducible assumption) | exact f4 (by with_reducible assumption)))
    go_upto_region 9 with (fail)
    apply wp_region_lit
    (with_reducible refine wl_k ?_ ?_); exact rfl; intro K hK; go_simp; refine hK _ ?_; clear hK K
    (with_reducible refine wl_k ?_ ?_); exact rfl; intro K hK; go_simp; refine hK _ ?_; clear hK K
    go_upto_region 12 with (fail)
    apply wp_region_lit
    (with_reducible refine wl_k ?_ ?_); exact rfl; intro K hK; go_simp; refine hK _ ?_; clear hK K
    (with_reducible refine wl_k ?_ ?_); exact rfl; intro K hK; go_simp; refine hK _ ?_; clear hK K
    have HW := Lib.hid (WriteS B b _ wd w1 HBd.out (by have := HLN.out; have := HWL.out; rw [HWD.out, HZ.out]; omega) (by omega))
    go_upto_region 4 with (fail)
    apply wp_region_lit
    (with_reducible refine wl_k ?_ ?_); exact rfl; intro K hK; go_simp; refine hK _ ?_; clear hK K
    (with_reducible refine wl_k ?_ ?_); exact rfl; intro K hK; go_simp; refine hK _ ?_; clear hK K
    (with_reducible refine wl_k ?_ ?_); exact rfl; intro K hK; go_simp; refine hK _ ?_; clear hK K
    (first | ((with_reducible apply wl_oneG); exact rfl; exact rfl; first | exact f0 (by with_reducible assumption) | exact f1 (by with_reducible assumption) | exact f2 (by with_reducible assumption) | exact f3 (by with_reducible assumption) | with_reducible assumption | exact g22 (by with_reducible assumption) | exact g25 (by with_reducible assumption)) | ((with_reducible apply wl_rowG); exact rfl; exact rfl; first | with_reducible assumption | exact RowK.now (by with_reducible assumption) | exact f4 (by with_reducible assumption)))
    refine wl_val rfl (ex_look _ _ rfl rfl rfl hm HFD.out) ?_
    simp only [put_lit, List.set_cons_zero, List.set_cons_succ]
    (with_reducible refine wl_ck ?_ ?_); exact rfl; intro K hK; go_simp; refine ⟨_, _, ⟨rfl, rfl⟩, hK _ _ ⟨_, HW.out, ?_⟩⟩; clear hK K; rintro e w6 ⟨rfl, hbd6, hk6⟩; refine ⟨_, rfl, ?_⟩; simp only [put_lit, List.set_cons_zero, List.set_cons_succ]
    replace HTW := Lib.hid (HTW.out.kb HD.out hk6)
    replace hp := hk6.look hp hpb (by decide)
    replace hq := hk6.look hq hqb (by decide)
    have hsz6 := hk6.size
    replace hK := hK.trans hk6
    replace HBd := Lib.hid hbd6
    clear hk6 hbd6 HW hm HFD
    by_cases hts : ts = []
    · have hl0 : l = 0 := by rw [← HL.out, hts]; rfl
      have HFIN : Hid (l0 ++ txt (.node k s n ts) = l0 ++ wd.data.toList) := Lib.hid (by rw [HTX.out, if_pos hts, List.append_nil, HWD.out, HZ.out])
      subst hl0
      clear hts
      go_upto_region 5 with (fail)
      apply wp_region_lit
      (with_reducible refine wl_k ?_ ?_); exact rfl; intro K hK; go_simp; refine hK _ ?_; clear hK K
      (first | ((with_reducible apply wl_oneG); exact rfl; exact rfl; first | exact f0 (by with_reducible assumption) | exact f1 (by with_reducible assumption) | exact f2 (by with_reducible assumption) | exact f3 (by with_reducible assumption) | with_reducible assumption | exact g22 (by with_reducible assumption) | exact g25 (by with_reducible assumption)) | ((with_reducible apply wl_rowG); exact rfl; exact rfl; first | with_reducible assumption | exact RowK.now (by with_reducible assumption) | exact f4 (by with_reducible assumption)))
      (with_reducible refine wl_k ?_ ?_); exact rfl; intro K hK; go_simp; refine hK _ ?_; clear hK K
      (with_reducible refine wl_k ?_ ?_); exact rfl; intro K hK; go_simp; refine hK _ ?_; clear hK K
      go_wp2_with fail
      go_end0
      exact ⟨rfl, by rw [HFIN.out]; exact HBd.out, hK⟩
    · have hlp : (l : Int) > 0 := by have := HL.out; have : 0 < ts.length := List.length_pos_iff.2 hts; omega
      have hlp2 : 0 < l := by omega
      have HFIN : Hid (l0 ++ txt (.node k s n ts) = l0 ++ wd.data.toList ++ [60] ++ sepText txt true ts ++ [62]) := Lib.hid (by rw [HTX.out, if_neg hts, HWD.out, HZ.out]; simp)
      have HLF := Lib.hid (show l0.length + wd.data.toList.length + 1 + (sepText txt true ts).length + 1 ≤ 1000000000 by
        have h1 := HLN.out
        have h2 := congrArg List.length HFIN.out
        simp only [List.length_append, List.length_cons, List.length_nil] at h2
        omega)
      clear hts
      have HW2 := Lib.hid (WriteS B b _ ⟨#[60]⟩ w6 HBd.out (by have := HLF.out; rw [List.length_append]; have hc : (⟨#[60]⟩ : ByteArray).size = 1 := rfl; omega) (by omega))
      go_upto_region 5 with (fail)
      apply wp_region_lit
      (with_reducible refine wl_k ?_ ?_); exact rfl; intro K hK; go_simp; refine hK _ ?_; clear hK K
      (first | ((with_reducible apply wl_oneG); exact rfl; exact rfl; first | exact f0 (by with_reducible assumption) | exact f1 (by with_reducible assumption) | exact f2 (by with_reducible assumption) | exact f3 (by with_reducible assumption) | with_reducible assumption | exact g22 (by with_reducible assumption) | exact g25 (by with_reducible assumption)) | ((with_reducible apply wl_rowG); exact rfl; exact rfl; first | with_reducible assumption | exact RowK.now (by with_reducible assumption) | exact f4 (by with_reducible assumption)))
      (with_reducible refine wl_k ?_ ?_); exact rfl; intro K hK; go_simp; refine hK _ ?_; clear hK K
      (with_reducible refine wl_k ?_ ?_); exact rfl; intro K hK; go_simp; refine hK _ ?_; clear hK K
      go_upto_region 6 with (fail)
      apply wp_region_lit
      (with_reducible refine wl_k ?_ ?_); exact rfl; intro K hK; go_simp; refine hK _ ?_; clear hK K
      (with_reducible refine wl_ck ?_ ?_); exact rfl; intro K hK; go_simp; refine ⟨_, _, ⟨rfl, rfl⟩, hK _ _ ⟨_, HW2.out, ?_⟩⟩; clear hK K; rintro e w7 ⟨rfl, hbd7, hk7⟩; refine ⟨_, rfl, ?_⟩; simp only [put_lit, List.set_cons_zero, List.set_cons_succ]
      replace HTW := Lib.hid (HTW.out.kb HD.out hk7)
      replace hp := hk7.look hp hpb (by decide)
      replace hq := hk7.look hq hqb (by decide)
      have hsz7 := hk7.size
      replace hK := hK.trans hk7
      replace HBd : Hid (Bd w7 B b (l0 ++ wd.data.toList ++ [60])) := Lib.hid hbd7
      clear hk7 hbd7 HW2
      have HC := Lib.hid (list_any txt ts HI.out w7 B b _ D A l c HBd.out (by omega) (by have := HLF.out; simp only [List.length_append, List.length_cons, List.length_nil]; omega) HTW.out HD.out)
      go_upto_region 7 with (fail)
      apply wp_region_lit
      (with_reducible apply wl_rowG); exact rfl; exact rfl; exact g76 hp
      (with_reducible refine wl_k ?_ ?_); exact rfl; intro K hK; go_simp; refine hK _ ?_; clear hK K
      (first | ((with_reducible apply wl_oneG); exact rfl; exact rfl; first | exact f0 (by with_reducible assumption) | exact f1 (by with_reducible assumption) | exact f2 (by with_reducible assumption) | exact f3 (by with_reducible assumption) | with_reducible assumption | exact g22 (by with_reducible assumption) | exact g25 (by with_reducible assumption)) | ((with_reducible apply wl_rowG); exact rfl; exact rfl; first | with_reducible assumption | exact RowK.now (by with_reducible assumption) | exact f4 (by with_reducible assumption)))
      (with_reducible refine wl_ck ?_ ?_); exact rfl; intro K hK; go_simp; refine ⟨_, _, ⟨rfl, rfl⟩, hK _ _ ⟨_, HC.out, ?_⟩⟩; clear hK K; rintro e w8 ⟨rfl, hbd8, hk8⟩; refine ⟨_, rfl, ?_⟩; simp only [put_lit, List.set_cons_zero, List.set_cons_succ]
      have hsz8 := hk8.size
      replace hK := hK.trans hk8
      replace HBd := Lib.hid hbd8
      clear hk8 hbd8 HC hp hq
      have HW3 := Lib.hid (WriteS B b _ ⟨#[62]⟩ w8 HBd.out (by have := HLF.out; simp only [List.length_append, List.length_cons, List.length_nil]; have hc : (⟨#[62]⟩ : ByteArray).size = 1 := rfl; omega) (by omega))
      go_upto_region 8 with (fail)
      apply wp_region_lit
      (with_reducible refine wl_k ?_ ?_); exact rfl; intro K hK; go_simp; refine hK _ ?_; clear hK K
      (with_reducible refine wl_ck ?_ ?_); exact rfl; intro K hK; go_simp; refine ⟨_, _, ⟨rfl, rfl⟩, hK _ _ ⟨_, HW3.out, ?_⟩⟩; clear hK K; rintro e w9 ⟨rfl, hbd9, hk9⟩; refine ⟨_, rfl, ?_⟩; simp only [put_lit, List.set_cons_zero, List.set_cons_succ]
      replace hK := hK.trans hk9
      replace HBd : Hid (Bd w9 B b (l0 ++ wd.data.toList ++ [60] ++ sepText txt true ts ++ [62])) := Lib.hid hbd9
      clear hk9 hbd9 HW3
      go_wp2_with fail
      go_end0
      exact ⟨rfl, by rw [HFIN.out]; exact HBd.out, hK⟩
end Go.Proofs.YtokmaehefenpmaaDoor
namespace Go.Proofs.YtokmaehefenpmaaDoor
open Go.RowKit Go.Proofs.YtokmaehefenpmaaDoor.Nm
set_option linter.unusedSimpArgs false
theorem fnC_apply (sol : List Ty) (hnl : ∀ u, u ∈ sol → u.nodes ≤ 1000000) (ps : Nat) (A : Option Addr) (l c : Nat) (w : World) (hps : w.heap[ps]? = some (.cells #[.slice A l c] 22 (0, 0))) (D2 : Nat → Prop) (h2 : TysAt w D2 sol A l c) : FnC 52 #[.pointer (some ⟨ps, 0, none⟩)] (selVar sol) w :=
  ⟨ent52, fun w' hw t D row h => applyF_any sol hnl ps A l c w' (below_look hw hps) D2 (h2.old hw) t D row h⟩
set_option maxHeartbeats 4000000 in
set_option maxRecDepth 100000 in
theorem Apply_any (sol : List Ty) (hnl : ∀ u, u ∈ sol → u.nodes ≤ 1000000) (t : Ty) (hn : t.nodes ≤ 1000000) (w : World) (D D2 : Nat → Prop) (row : Array Value) (h : TyAt w D t row) (A : Option Addr) (l c : Nat) (h2 : TysAt w D2 sol A l c) :
    Calls Tryd.prog 22 #[.agg row, .slice A l c] w (NewTy w (applyTy sol t)) := by
  have hmf : ∀ (fn : Fn) (first cap : Array Value) (w : World), (Instr.makeFunc fn first cap).run Tryd.prog w = .ok (.func fn first cap) w := fun _ _ _ _ => rfl
  obtain ⟨k, s, n, A1, l1, c1, ts, -, rfl, -⟩ := h.parts
  have HT := Lib.hid h
  have HN := Lib.hid hn
  have HNL := Lib.hid hnl
  have H2 := Lib.hid h2
  clear h hn hnl h2
  have hb := Below.refl w.heap.size w
  go_enter Tryd.func22, Tryd.ntmps22
  go_upto_region 0 with (fail)
  apply wp_region_lit
  (with_reducible refine wl_box rfl ?_); intro W p hbn hlp hp; replace hb := hb.trans (hbn.mono hb.size); clear hbn; simp only [put_lit, List.set_cons_zero, List.set_cons_succ]
  have lthpq := heap_lt hp; (with_reducible refine wl_box22 rfl ?_); intro W1 q hbn hlq hq; replace hp := below_look hbn hp; replace hb := hb.trans (hbn.mono hb.size); clear hbn; simp only [put_lit, List.set_cons_zero, List.set_cons_succ]
  have lthpr := heap_lt hp; have lthqr := heap_lt hq; (with_reducible refine wl_all ?_); intro W2 r hbn hlr hr; replace hp := below_look hbn hp; replace hq := below_look hbn hq; replace hb := hb.trans (hbn.mono hb.size); clear hbn; simp only [put_lit, List.set_cons_zero, List.set_cons_succ]
  have HC : Hid (Calls Tryd.prog 48 #[.agg (cell4 k s n A1 l1 c1), .func (.func 52) #[] #[.pointer (some ⟨q, 0, none⟩)]] W2 (NewTy W2 (applyTy sol t))) := Lib.hid (replaced_any (selVar sol) t HN.out 52 _ W2 (fnC_apply sol HNL.out q A l c W2 hq D2 (H2.out.old hb)) W2 (Below.refl _ _) D _ (HT.out.old hb))
  go_upto_region 1 with (fail)
  apply wp_region_lit
  (first | ((with_reducible apply wl_oneG); exact rfl; exact rfl; first | exact f0 (by with_reducible assumption) | exact f1 (by with_reducible assumption) | exact f2 (by with_reducible assumption) | exact f3 (by with_reducible assumption) | with_reducible assumption | exact g22 (by with_reducible assumption) | exact g25 (by with_reducible assumption)) | ((with_reducible apply wl_rowG); exact rfl; exact rfl; first | with_reducible assumption | exact RowK.now (by with_reducible assumption) | exact f4 (by with_reducible assumption)))
  (with_reducible refine wl_k ?_ ?_); exact rfl; intro K hK; go_simp; refine hK _ ?_; clear hK K
  (with_reducible refine wl_ck ?_ ?_); exact rfl; intro K hK; go_simp; refine ⟨_, _, ⟨rfl, rfl⟩, hK _ _ ⟨_, HC.out, ?_⟩⟩; clear hK K; rintro e w7 ⟨row7, rfl, hta7, hb7⟩; refine ⟨_, rfl, ?_⟩; simp only [put_lit, List.set_cons_zero, List.set_cons_succ]
  obtain ⟨k7, s7, n7, A7, l7, c7, ts7, hu7, rfl, -⟩ := hta7.parts
  have hlr' := heap_lt hr
  have HA := Lib.hid (hta7.weak (D' := fun b => w.heap.size ≤ b ∧ b ≠ r) fun b (hb : W2.heap.size ≤ b) => ⟨by have := hb; omega, by omega⟩)
  clear hta7 HC hu7 hp hq
  replace hr := below_look hb7 hr; replace hb := hb.trans (hb7.mono hb.size); clear hb7
  (with_reducible refine wl_put rfl rfl hr ?_); rw [put_noneA]; intro W3 hbx hsz hkx hnx; replace hb := hbx _ _ (by omega) hb; clear hr; have hr := hnx; clear hnx
  replace HA := Lib.hid (HA.out.mono (fun _ h => h) (fun b h => hkx b h.2))
  clear hbx hkx hsz
  have HQ := Lib.hid hr
  clear hr
  go_wp2_with fail
  exact bodyPost_ret (res24 rfl _ _ r rfl HQ.out) rfl ⟨_, rfl, HA.out.weak fun b h => h.1, hb⟩
theorem built24k (k : Int) : Tryd.prog.built 24 [(0, .int .i64 k)] = some (cell4 k ⟨#[]⟩ 0 none 0 0) := by kernel_rfl
end Go.Proofs.YtokmaehefenpmaaDoor
namespace Go.Proofs.YtokmaehefenpmaaDoor
open Go.RowKit Go.Proofs.YtokmaehefenpmaaDoor.Nm
set_option linter.unusedSimpArgs false
theorem ex_alloc74 {o : Oper} (ho : o.op = .alloc 74) (ev : Operand → Value) (w : World) : (execOp ev o).run Tryd.prog w = .ok (.value (.pointer (some ⟨w.heap.size, 0, none⟩))) (w.alloc (.cells #[.pointer none, .slice none 0 0] 74)) := by
  unfold execOp
  simp only [ho]
  kernel_rfl
theorem built76 (b : Nat) : Tryd.prog.built 76 [(0, .pointer (some ⟨b, 0, none⟩))] = some #[.pointer (some ⟨b, 0, none⟩)] := by kernel_rfl
theorem Bd_new (w : World) : Bd (w.alloc (.cells #[.pointer none, .slice none 0 0] 74)) w.heap.size w.heap.size [] :=
  Or.inl ⟨Nat.le_refl _, .slice none 0 0, ha_new rfl, World.ownsRowF_nil _ _ _ _, by simp [Value.ownBlock]⟩
set_option maxHeartbeats 4000000 in
set_option maxRecDepth 100000 in
/-- Format of a tree that is open. -/
theorem Format_ok (txt : Ty → List UInt8) (t : Ty) (w : World) (D : Nat → Prop) (row : Array Value) (h : TyAt w D t row) (hO : ∀ w' D', TyAt w' D' t row → Calls Tryd.prog 59 #[.agg row] w' fun e w2 => e = .returned (.bool true) ∧ Below w'.heap.size w' w2) (hC : TypC txt t) (hlen : (txt t).length ≤ 1000000000) :
    Calls Tryd.prog 33 #[.agg row] w fun e w' => e = .returned (.tuple #[.string ⟨(txt t).toArray⟩, .int .i64 0]) ∧ Below w.heap.size w w' := by
  obtain ⟨D, h, hlow⟩ : ∃ D : Nat → Prop, TyAt w D t row ∧ ∀ b, D b → b < w.heap.size := ⟨fun b => D b ∧ b < w.heap.size, h.low, fun b hb => hb.2⟩
  obtain ⟨k, s, n, A, l, c, ts, he, rfl, -⟩ := h.parts
  have HT := Lib.hid h
  have HLW := Lib.hid hlow
  have HO := Lib.hid hO
  have HTC := Lib.hid hC
  have HLN := Lib.hid hlen
  clear h hlow hO hC hlen he
  have hb := Below.refl w.heap.size w
  go_enter Tryd.func33, Tryd.ntmps33
  go_upto_region 0 with (fail)
  apply wp_region_lit
  (with_reducible refine wl_box rfl ?_); intro W p hbn hlp hp; replace hb := hb.trans (hbn.mono hb.size); clear hbn; simp only [put_lit, List.set_cons_zero, List.set_cons_succ]
  (with_reducible refine wl_k ?_ ?_); exact rfl; intro K hK; go_simp; refine hK _ ?_; clear hK K
  (with_reducible refine wl_k ?_ ?_); exact rfl; intro K hK; go_simp; refine hK _ ?_; clear hK K
  have HC := Lib.hid (HO.out W D (HT.out.old hb))
  go_upto_region 1 with (fail)
  apply wp_region_lit
  (first | ((with_reducible apply wl_oneG); exact rfl; exact rfl; first | exact f0 (by with_reducible assumption) | exact f1 (by with_reducible assumption) | exact f2 (by with_reducible assumption) | exact f3 (by with_reducible assumption) | with_reducible assumption | exact g22 (by with_reducible assumption) | exact g25 (by with_reducible assumption)) | ((with_reducible apply wl_rowG); exact rfl; exact rfl; first | with_reducible assumption | exact RowK.now (by with_reducible assumption) | exact f4 (by with_reducible assumption)))
  (with_reducible refine wl_ck ?_ ?_); exact rfl; intro K hK; go_simp; refine ⟨_, _, ⟨rfl, rfl⟩, hK _ _ ⟨_, HC.out, ?_⟩⟩; clear hK K; rintro e w6 ⟨rfl, hb6⟩; refine ⟨_, rfl, ?_⟩; simp only [put_lit, List.set_cons_zero, List.set_cons_succ]
  (with_reducible refine wl_k ?_ ?_); exact rfl; intro K hK; go_simp; refine hK _ ?_; clear hK K
  replace hp := below_look hb6 hp; replace hb := hb.trans (hb6.mono hb.size); clear hb6
  clear HC HO
  go_upto_region 3 with (fail)
  apply wp_region_lit
  refine wl_w rfl (ex_alloc74 rfl _ _) ?_
  simp only [put_lit, List.set_cons_zero, List.set_cons_succ]
  have HBd := Lib.hid (Bd_new w6)
  have hb7 := (Below.refl w6.heap.size w6).alloc (Nat.le_refl _) (.cells #[.pointer none, .slice none 0 0] 74)
  have hsz : w6.heap.size ≤ (w6.alloc (.cells #[.pointer none, .slice none 0 0] 74)).heap.size := hb7.size
  have hpl := heap_lt hp
  have hps := hb.size
  replace hp := below_look hb7 hp
  replace hb := hb.trans (hb7.mono hps)
  generalize hW : w6.alloc (.cells #[.pointer none, .slice none 0 0] 74) = W2 at *
  clear hW hb7
  obtain ⟨b, hbe⟩ : ∃ b, b = w6.heap.size := ⟨_, rfl⟩
  rw [← hbe] at HBd hsz ⊢
  have hbw : w.heap.size ≤ b := by omega
  clear hbe hpl hps
  have HC := Lib.hid (HTC.out W2 b b [] D _ HBd.out hsz (by simpa using HLN.out) (HT.out.old hb) (fun x hx => by have := HLW.out x hx; omega))
  go_upto_region 4 with (fail)
  apply wp_region_lit
  refine wl_val rfl (ex_build 76 _ rfl (L := [(0, .pointer (some ⟨b, 0, none⟩))]) rfl (built76 b)) ?_
  simp only [put_lit, List.set_cons_zero, List.set_cons_succ]
  (first | ((with_reducible apply wl_oneG); exact rfl; exact rfl; first | exact f0 (by with_reducible assumption) | exact f1 (by with_reducible assumption) | exact f2 (by with_reducible assumption) | exact f3 (by with_reducible assumption) | with_reducible assumption | exact g22 (by with_reducible assumption) | exact g25 (by with_reducible assumption)) | ((with_reducible apply wl_rowG); exact rfl; exact rfl; first | with_reducible assumption | exact RowK.now (by with_reducible assumption) | exact f4 (by with_reducible assumption)))
  (with_reducible refine wl_ck ?_ ?_); exact rfl; intro K hK; go_simp; refine ⟨_, _, ⟨rfl, rfl⟩, hK _ _ ⟨_, HC.out, ?_⟩⟩; clear hK K; rintro e w8 ⟨rfl, hbd8, hk8⟩; refine ⟨_, rfl, ?_⟩; simp only [put_lit, List.set_cons_zero, List.set_cons_succ]
  rw [List.nil_append] at hbd8
  replace hb := hb.trans (hk8.below.mono hbw)
  have hs8 := hk8.size
  have HS := Lib.hid (Tryd.Builder_String_any_k b b (txt t) w8 hbd8 (by omega))
  clear hbd8 hk8 HC hp HBd
  go_upto_region 5 with (fail)
  apply wp_region_lit
  (with_reducible refine wl_ck ?_ ?_); exact rfl; intro K hK; go_simp; refine ⟨_, _, ⟨rfl, rfl⟩, hK _ _ ⟨_, HS.out, ?_⟩⟩; clear hK K; rintro e w9 ⟨rfl, -, hb9, -⟩; refine ⟨_, rfl, ?_⟩; simp only [put_lit, List.set_cons_zero, List.set_cons_succ]
  (with_reducible refine wl_k ?_ ?_); exact rfl; intro K hK; go_simp; refine hK _ ?_; clear hK K
  (with_reducible refine wl_k ?_ ?_); exact rfl; intro K hK; go_simp; refine hK _ ?_; clear hK K
  replace hb := hb.trans (hb9.mono hbw)
  clear hb9 HS
  go_wp2_with fail
  go_ret2
  exact ⟨rfl, hb⟩
def textA (t : Ty) : List UInt8 := if t = arrTy then [65, 114, 114, 97, 121, 60, 73, 110, 116, 62] else [73, 110, 116]
theorem dig0 : (⟨(Lib.decDigits 0).toArray⟩ : ByteArray).size ≤ 100 := by simp [Lib.decDigits, ByteArray.size]
theorem typ_int : TypC textA intTy := typ_simple textA 1 ⟨#[]⟩ 0 [] 1 (by decide) rfl (by omega) dig0 (by decide) (fun t h => by cases h) rfl
theorem typ_arr : TypC textA arrTy := typ_simple textA 5 ⟨#[]⟩ 0 [intTy] 5 (by decide) rfl (by omega) dig0 (by decide) (fun t h => by simp at h; subst h; exact typ_int) rfl
theorem open_arr (w : World) (D : Nat → Prop) (row : Array Value) (h : TyAt w D arrTy row) : Calls Tryd.prog 59 #[.agg row] w fun e w2 => e = .returned (.bool true) ∧ Below w.heap.size w w2 :=
  Open_any (fun _ => true) Two (fun t ht => two_sh true t ht) two_sub arrTy (Or.inr rfl) w D row h
theorem valid_int (w : World) (D : Nat → Prop) (row : Array Value) (h : TyAt w D intTy row) : Calls Tryd.prog 47 #[.agg row] w fun e w2 => e = .returned (.bool true) ∧ Below w.heap.size w w2 :=
  Valid_any (fun _ => true) Two (fun t ht => two_sh false t ht) two_sub intTy (Or.inl rfl) w D row h
theorem built24a (A : Option Addr) (l c : Nat) : Tryd.prog.built 24 [(0, .int .i64 5), (3, .slice A l c)] = some (cell4 5 ⟨#[]⟩ 0 A l c) := by kernel_rfl
set_option maxHeartbeats 4000000 in
set_option maxRecDepth 100000 in
theorem awake_any (w : World) : Calls Tryd.prog 19 #[] w fun e w' => e = .returned (.bool true) ∧ Below w.heap.size w w' := by
  have hb := Below.refl w.heap.size w
  go_enter Tryd.func19, Tryd.ntmps19
  go_upto_region 1 with (fail)
  apply wp_region_lit
  refine wl_val rfl (ex_build 24 _ rfl (L := [(0, .int .i64 1)]) rfl (built24k 1)) ?_
  simp only [put_lit, List.set_cons_zero, List.set_cons_succ]
  (with_reducible refine wl_bs rfl ?_); intro W p hbn hlp hp; replace hb := hb.trans (hbn.mono hb.size); clear hbn; simp only [put_lit, List.set_cons_zero, List.set_cons_succ]
  refine wl_val rfl (ex_build 24 _ rfl (L := [(0, .int .i64 5), (3, .slice (some ⟨p, 0, none⟩) 1 1)]) rfl (built24a _ _ _)) ?_
  simp only [put_lit, List.set_cons_zero, List.set_cons_succ]
  have hint : ∀ w', TyAt w' Any intTy (cell4 1 ⟨#[]⟩ 0 none 0 0) := fun w' => TyAt.of (by rfl) (by rfl) (Nat.zero_le _) (TysAt.nil _ _)
  have hT : TysAt W Any [intTy] (some ⟨p, 0, none⟩) 1 1 := ⟨rfl, Nat.le_refl _, by unfold maxLen; omega, fun _ => cell4 1 ⟨#[]⟩ 0 none 0 0, fun i t ht => by
    cases i with
    | zero => exact ⟨p, 0, _, 24, (0, 0), rfl, trivial, hp, by rfl⟩
    | succ i => simp at ht, fun i t ht => by
    cases i with
    | zero => simp at ht; subst ht; exact hint W
    | succ i => simp at ht⟩
  have hA : TyAt W Any arrTy (cell4 5 ⟨#[]⟩ 0 (some ⟨p, 0, none⟩) 1 1) := TyAt.of (by rfl) (by rfl) (Nat.zero_le _) hT
  have HC := Lib.hid (Format_ok textA arrTy W Any _ hA (fun w' D' h => open_arr w' D' _ h) typ_arr (by decide))
  have HI := Lib.hid hint
  clear hint hT hA hp
  (with_reducible refine wl_ck ?_ ?_); exact rfl; intro K hK; go_simp; refine ⟨_, _, ⟨rfl, rfl⟩, hK _ _ ⟨_, HC.out, ?_⟩⟩; clear hK K; rintro e w6 ⟨rfl, hb6⟩; refine ⟨_, rfl, ?_⟩; simp only [put_lit, List.set_cons_zero, List.set_cons_succ]
  replace hb := hb.trans (hb6.mono hb.size); clear hb6
  (with_reducible refine wl_k ?_ ?_); exact rfl; intro K hK; go_simp; refine hK _ ?_; clear hK K
  (with_reducible refine wl_k ?_ ?_); exact rfl; intro K hK; go_simp; refine hK _ ?_; clear hK K
  (with_reducible refine wl_k ?_ ?_); exact rfl; intro K hK; go_simp; refine hK _ ?_; clear hK K
  (with_reducible refine wl_k ?_ ?_); exact rfl; intro K hK; go_simp; refine hK _ ?_; clear hK K
  (with_reducible refine wl_k ?_ ?_); exact rfl; intro K hK; go_simp; refine hK _ ?_; clear hK K
  have HV := Lib.hid (valid_int w6 Any _ (HI.out w6))
  have e1 : (textA arrTy) = [65, 114, 114, 97, 121, 60, 73, 110, 116, 62] := rfl
  rw [e1]
  clear e1 HC HI
  go_upto_region 2 with (fail)
  apply wp_region_lit
  (with_reducible refine wl_k ?_ ?_); exact rfl; intro K hK; go_simp; refine hK _ ?_; clear hK K
  (with_reducible refine wl_k ?_ ?_); exact rfl; intro K hK; go_simp; refine hK _ ?_; clear hK K
  (with_reducible refine wl_k ?_ ?_); exact rfl; intro K hK; go_simp; refine hK _ ?_; clear hK K
  (with_reducible refine wl_k ?_ ?_); exact rfl; intro K hK; go_simp; refine hK _ ?_; clear hK K
  (with_reducible refine wl_k ?_ ?_); exact rfl; intro K hK; go_simp; refine hK _ ?_; clear hK K
  (with_reducible refine wl_k ?_ ?_); exact rfl; intro K hK; go_simp; refine hK _ ?_; clear hK K
  (with_reducible refine wl_k ?_ ?_); exact rfl; intro K hK; go_simp; refine hK _ ?_; clear hK K
  refine wl_k rfl (fun K hK => ⟨_, ex_build 24 _ rfl (L := [(0, .int .i64 1)]) rfl (built24k 1), hK _ ?_⟩); clear hK K
  simp only [put_lit, List.set_cons_zero, List.set_cons_succ]
  (with_reducible refine wl_ck ?_ ?_); exact rfl; intro K hK; go_simp; refine ⟨_, _, ⟨rfl, rfl⟩, hK _ _ ⟨_, HV.out, ?_⟩⟩; clear hK K; rintro e w7 ⟨rfl, hb7⟩; refine ⟨_, rfl, ?_⟩; simp only [put_lit, List.set_cons_zero, List.set_cons_succ]
  (with_reducible refine wl_k ?_ ?_); exact rfl; intro K hK; go_simp; refine hK _ ?_; clear hK K
  (with_reducible refine wl_k ?_ ?_); exact rfl; intro K hK; go_simp; refine hK _ ?_; clear hK K
  replace hb := hb.trans (hb7.mono hb.size); clear hb7
  clear HV
  go_wp2_with fail
  go_ret
  exact ⟨rfl, hb⟩
end Go.Proofs.YtokmaehefenpmaaDoor
