/- What an operation does, by the program: new buffers. -/
import Derived.Test.YtbhdgeoljlhmcaaS20
import Derived.Outline
namespace Go.Proofs.Ytbhdgeoljlhmcaa
open Go.RowKit Go.Proofs.Ytbhdgeoljlhmcaa.Nm Go.Proofs.Ytbhdgeoljlhmcaa.St
set_option linter.unusedSimpArgs false
theorem run_box87 (kd seed cnt : Int) (A : Option Addr) (n c : Nat) (A2 : Option Addr) (n2 c2 : Nat) (w : World) : (Instr.box 87 (.agg (bcells kd (.slice A n c) seed cnt (.slice A2 n2 c2)))).run Try.prog w = .ok (.pointer (some ⟨w.heap.size, 0, none⟩)) (w.alloc (.cells (bcells kd (.slice A n c) seed cnt (.slice A2 n2 c2)) 87)) := by kernel_rfl
theorem ex_box87 {ev : Operand → Value} {o : Oper} {w : World} (x : Operand) (ho : o.op = .box 87 x) {kd seed cnt : Int} {A : Option Addr} {n c : Nat} {A2 : Option Addr} {n2 c2 : Nat} (hx : ev x = .agg (bcells kd (.slice A n c) seed cnt (.slice A2 n2 c2))) :
    (execOp ev o).run Try.prog w = .ok (.value (.pointer (some ⟨w.heap.size, 0, none⟩))) (w.alloc (.cells (bcells kd (.slice A n c) seed cnt (.slice A2 n2 c2)) 87)) := by
  unfold execOp
  simp [ho, hx, run_box87 kd seed cnt A n c A2 n2 c2 w, Result.andThen]
theorem built87_1 : Try.prog.built 87 [(0, .int .i64 1)] = some (bcells 1 (.slice none 0 0) 0 0 (.slice none 0 0)) := by kernel_rfl
theorem built87_s (A : Option Addr) (n c : Nat) : Try.prog.built 87 [(0, .int .i64 1), (1, .slice A n c)] = some (bcells 1 (.slice A n c) 0 0 (.slice none 0 0)) := by kernel_rfl
theorem built87_t (n : Int) (A : Option Addr) (m c : Nat) : Try.prog.built 87 [(0, .int .i64 2), (2, .int .i64 n), (4, .slice A m c)] = some (bcells 2 (.slice none 0 0) n 0 (.slice A m c)) := by kernel_rfl
theorem run_mk85 (w : World) : (Instr.makeSlice 85 (.int .i64 4) (.int .i64 4)).run Try.prog w = .ok (.slice (some ⟨w.heap.size, 0, none⟩) 4 4) (w.alloc (.cells (tcells (List.replicate 4 none)).toArray 95)) := by kernel_rfl
theorem ex_mk85 {ev : Operand → Value} {o : Oper} {w : World} (ho : o.op = .makeSlice 85 (.const (.int .i64 4)) (.const (.int .i64 4))) (h4 : ev (.const (.int .i64 4)) = .int .i64 4) :
    (execOp ev o).run Try.prog w = .ok (.value (.slice (some ⟨w.heap.size, 0, none⟩) 4 4)) (w.alloc (.cells (tcells (List.replicate 4 none)).toArray 95)) := by
  unfold execOp
  simp only [ho, h4, run_mk85 w, Sem.run_bind, Result.andThen_ok]
  rfl
theorem own_nil (w : World) (B : Nat) (e : TypeId) (size : Nat) : w.ownsRow B e size (.slice none 0 0) 0 [] := ⟨by simp, Or.inl ⟨rfl, rfl⟩⟩
/-- a name lets refer to a new buffer -/
theorem made_at (s : Nat) (A : Sto) (rs : List Row) (hA : Good A) (n : Int) (h0 : 0 ≤ n) (h8 : n < 8) (hm : A.bufs.length ≤ 100000) (W W' : World) (h : StoreAt W s A rs) (hb : Below W.heap.size W W') (r : Row) (b : Buf) (hB : BufAt W' r b) (hg : W.heap.size ≤ r.g)
    (hl : ∀ q, r.lv.ownBlock = some q → W.heap.size ≤ q) (hp : ∀ q, r.pv.ownBlock = some q → W.heap.size ≤ q) :
    Calls Try.prog 51 #[.pointer (some ⟨s, 0, none⟩), .int .i64 n, .pointer (some ⟨r.g, 0, none⟩)] W' fun e w' => e = .returned (.tuple #[]) ∧ (StoreAt w' s (A.fresh n b) (rs ++ [r]) ∧ Ran s rs W (rs ++ [r]) w') ∧ Kept [s] W' w' := by
  have hi : (n.toNat : Int) = n := by omega
  have hm' := below_look hb h.main
  have hoff := hA.off
  have hmade : A.made = (A.bufs.length : Int) + A.off := rfl
  have HC := made_any s (nsOf A rs) A.made A.shared (by rw [nsOf_length]; exact hA.eight) n.toNat (by omega) r.g (by omega) (by omega) W' hm'
  rw [hi] at HC
  refine HC.mono ?_
  rintro e w' ⟨rfl, h1, hK⟩
  have hne : r.g ≠ s := fun e => by have := heap_lt h.main; omega
  have hBt : BufAt w' r b := hB.same (fun q hq he => hK.block q hq (by
    have hs := heap_lt h.main
    rcases he with e | e | e
    · simp; omega
    · have := hl q e; simp; omega
    · have := hp q e; simp; omega))
  have hKK := ((Nm.Kept.refl [s] W).below hb).trans hK
  refine ⟨rfl, ⟨h.fresh hKK hBt hg hl hp hA h1, Ran.of hKK (fun q hq => Or.inl (Or.inl (by simpa using hq))) (fun q hq => ?_)⟩, hK⟩
  rcases foot_push hq with e | e | e | e
  · exact Or.inl e
  · exact Or.inr (by omega)
  · exact Or.inr (hl q e)
  · exact Or.inr (hp q e)
theorem form_to {o : OpV} (h : formS o = true) : 0 ≤ o.to ∧ o.to < 8 := by
  unfold formS at h
  simp only [Bool.and_eq_true] at h
  have := h.1.1.1.2
  unfold nmOk isNm at this
  simp only [Bool.or_eq_true, Bool.and_eq_true, Bool.not_eq_true', decide_eq_true_eq] at this
  omega
theorem bufAt_nil {w : World} {g : Nat} {kd seed : Int} {lv : Value} {l : List ByteArray} (h : w.heap[g]? = some (.cells (bcells kd lv seed 0 (.slice none 0 0)) 87 (0, 0))) (ho : w.ownsRow 0 9 1 lv l.length (strs l)) : BufAt w ⟨g, lv, .slice none 0 0⟩ ⟨kd, l, seed, []⟩ :=
  ⟨h, ho, own_nil _ _ _ _, fun _ => rfl⟩
set_option maxHeartbeats 4000000 in
set_option maxRecDepth 100000 in
theorem Do_1 (s : Nat) (A : Sto) (rs : List Row) (hA : Good A) (hm : A.bufs.length ≤ 100000) (o : OpV) (hk : o.kind = 1) (hr : refA A o = 0) (w : World) (h : StoreAt w s A rs) :
    Calls Try.prog 19 #[.pointer (some ⟨s, 0, none⟩), .agg o.cells] w fun e w' => DoPost s A rs o w e w' := by
  have HS := Lib.hid h
  have HA := Lib.hid hA
  have HR := Lib.hid hr
  have hf : formS o = true := by
    cases hq : formS o with
    | true => rfl
    | false => unfold refA at hr; rw [hq] at hr; simp at hr
  have hfr := form_fr hf
  have HF := Lib.hid hf
  have HFT : Hid (∀ q, Foot s rs q → q < w.heap.size) := Lib.hid (fun q hq => h.lt hq)
  have hsw : s < w.heap.size := HFT.out s (Or.inl rfl)
  clear h hA hf
  go_enter Try.func19, Try.ntmps19
  go_upto_region 1 with (fail)
  have hb0 := (Below.refl w.heap.size w).alloc (Nat.le_refl _) (.cells o.cells 39 (0, 0))
  refine wp_world (fun W => Below w.heap.size w W ∧ W.heap[w.heap.size]? = some (.cells o.cells 39 (0, 0))) ⟨hb0, ha_new rfl⟩ ?_
  clear hb0
  rintro W ⟨hb, h1⟩
  replace HS := Lib.hid (HS.out.below hb)
  apply wp_region_lit
  refine wl_k rfl (fun K hK => ?_); go_simp; refine hK _ ?_; clear hK K
  ((with_reducible apply wl_rowG); exact rfl; exact rfl; exact rowO h1)
  simp only [put_lit, List.set_cons_zero, List.set_cons_succ]
  refine wl_ck rfl (fun K hK => ?_); go_simp; refine ⟨_, _, ⟨rfl, rfl⟩, hK _ _ ⟨_, refused_any s A rs HA.out o _ HS.out, ?_⟩⟩; clear hK K; rintro e w1 ⟨rfl, hb1⟩; refine ⟨_, rfl, ?_⟩; simp only [put_lit, List.set_cons_zero, List.set_cons_succ]
  rw [hr]
  replace h1 := below_look hb1 h1
  replace HS := Lib.hid (HS.out.below (hb1.mono (Nat.le_refl _)))
  replace hb := hb.trans (hb1.mono hb.size)
  clear hb1 hr
  obtain ⟨kind, fr, to, at_, n, key⟩ := o
  simp only at hk
  subst hk
  simp only at hfr
  obtain ⟨f, rfl⟩ : ∃ f : Nat, fr = (f : Int) := ⟨fr.toNat, by omega⟩
  have hf8 : (f : Int) < 8 := by omega
  have hnm := nsOf_get (rs := rs) (id_names HA.out hfr.1 hfr.2)
  rw [Int.toNat_natCast] at hnm
  clear hfr
  have c1 := (op_cell h1).2.1
  have c6 := sc_name HS.out.main hnm
  go_upto_region 4 with (fail)
  refine wp_region_held_drew (S := Kept [] w1) mixed (Kept.drew [] w1) (fun hS => ?_)
  refine ha_k (i := 0) rfl (by kernel_rfl) (by kernel_rfl) (by kernel_rfl) (fun _ _ _ _ h => h) hS rfl (fun K hK => ?_); go_simp; refine hK _ ?_; clear hK K; try simp only [put_lit, List.set_cons_zero, List.set_cons_succ]
  refine ha_k (i := 1) rfl (by kernel_rfl) (by kernel_rfl) (by kernel_rfl) (fun _ _ _ _ h => h) hS rfl (fun K hK => ?_); go_simp; refine hK _ ?_; clear hK K; try simp only [put_lit, List.set_cons_zero, List.set_cons_succ]
  refine ha_val (i := 2) rfl (by kernel_rfl) (by kernel_rfl) (by kernel_rfl) (fun _ _ _ h => h) hS rfl (fun w' hw' => ex_one rfl (one3 (hw'.cell c1 (by simp <;> omega)))) ?_; try simp only [put_lit, List.set_cons_zero, List.set_cons_succ]
  refine ha_k (i := 3) rfl (by kernel_rfl) (by kernel_rfl) (by kernel_rfl) (fun _ _ _ _ h => h) hS rfl (fun K hK => ?_); go_simp; refine hK _ ?_; clear hK K; try simp only [put_lit, List.set_cons_zero, List.set_cons_succ]
  refine ha_k (i := 4) rfl (by kernel_rfl) (by kernel_rfl) (by kernel_rfl) (fun _ _ _ _ h => h) hS rfl (fun K hK => ?_); go_simp; refine hK _ ?_; clear hK K; try simp only [put_lit, List.set_cons_zero, List.set_cons_succ]
  refine ha_k (i := 5) rfl (by kernel_rfl) (by kernel_rfl) (by kernel_rfl) (fun _ _ _ _ h => h) hS rfl (fun K hK => ?_); go_simp; refine hK _ ?_; clear hK K; try simp only [put_lit, List.set_cons_zero, List.set_cons_succ]
  refine ha_val (i := 6) rfl (by kernel_rfl) (by kernel_rfl) (by kernel_rfl) (fun _ _ _ h => h) hS rfl (fun w' hw' => ex_one rfl (one80 (hw'.cell c6 (by simp <;> omega)))) ?_; try simp only [put_lit, List.set_cons_zero, List.set_cons_succ]
  refine ha_k (i := 7) rfl (by kernel_rfl) (by kernel_rfl) (by kernel_rfl) (fun _ _ _ _ h => h) hS rfl (fun K hK => ?_); go_simp; refine hK _ ?_; clear hK K; try simp only [put_lit, List.set_cons_zero, List.set_cons_succ]
  refine wpAnyH_done (by kernel_rfl) ?_ _
  replace HS := Lib.hid (HS.out.below (Below.refl w1.heap.size w1).drew)
  replace hb := hb.drew
  replace h1 : w1.drew.heap[w.heap.size]? = _ := h1
  clear c1 c6 hS
  generalize w1.drew = W at *
  have hcs := op_cell h1
  obtain ⟨c0, c1, c2, c3, c4, c5⟩ := hcs
  simp only at c0 c1 c2 c3 c4 c5
  have hto := form_to HF.out
  simp only at hto
  go_upto_region 7 with (fail)
  apply wp_region_lit
  refine wl_k rfl (fun K hK => ?_); go_simp; refine hK _ ?_; clear hK K
  refine wl_k rfl (fun K hK => ?_); go_simp; refine hK _ ?_; clear hK K
  ((with_reducible apply wl_oneG); exact rfl; exact rfl; exact one3 c2)
  refine wl_val rfl (ex_build 87 _ rfl (L := [(0, .int .i64 1)]) rfl built87_1) ?_
  simp only [put_lit, List.set_cons_zero, List.set_cons_succ]
  refine wl_w rfl (ex_box87 _ rfl rfl) ?_
  simp only [put_lit, List.set_cons_zero, List.set_cons_succ]
  have hbn := (Below.refl W.heap.size W).alloc (Nat.le_refl _) (.cells (bcells 1 (.slice none 0 0) 0 0 (.slice none 0 0)) 87)
  have hBt := bufAt_nil (w := W.alloc (.cells (bcells 1 (.slice none 0 0) 0 0 (.slice none 0 0)) 87)) (g := W.heap.size) (l := []) (ha_new rfl) (own_nil _ _ _ _)
  have HC := Lib.hid (made_at s A rs HA.out to hto.1 hto.2 hm W _ HS.out hbn _ _ hBt (Nat.le_refl _) (by simp [Value.ownBlock]) (by simp [Value.ownBlock]))
  clear hbn hBt
  refine wl_ck rfl (fun K hK => ?_); go_simp; refine ⟨_, _, ⟨rfl, rfl⟩, hK _ _ ⟨_, HC.out, ?_⟩⟩; clear hK K; rintro e w2 ⟨rfl, hfin, -⟩; refine ⟨_, rfl, ?_⟩; simp only [put_lit, List.set_cons_zero, List.set_cons_succ]
  clear HC
  have HFIN := Lib.hid hfin
  clear hfin
  go_wp2_with fail
  go_ret
  exact ⟨congrArg (fun z => Ending.returned (Value.int .i64 z)) HR.out.symm, _, by rw [doA_ok HR.out]; exact HFIN.out.1, (Ran.ofBelow hb).trans HFIN.out.2⟩
set_option maxHeartbeats 4000000 in
set_option maxRecDepth 100000 in
theorem Do_8 (s : Nat) (A : Sto) (rs : List Row) (hA : Good A) (hm : A.bufs.length ≤ 100000) (o : OpV) (hk : o.kind = 8) (hr : refA A o = 0) (w : World) (h : StoreAt w s A rs) :
    Calls Try.prog 19 #[.pointer (some ⟨s, 0, none⟩), .agg o.cells] w fun e w' => DoPost s A rs o w e w' := by
  have HS := Lib.hid h
  have HA := Lib.hid hA
  have HR := Lib.hid hr
  have hf : formS o = true := by
    cases hq : formS o with
    | true => rfl
    | false => unfold refA at hr; rw [hq] at hr; simp at hr
  have hfr := form_fr hf
  have HF := Lib.hid hf
  have HFT : Hid (∀ q, Foot s rs q → q < w.heap.size) := Lib.hid (fun q hq => h.lt hq)
  have hsw : s < w.heap.size := HFT.out s (Or.inl rfl)
  clear h hA hf
  go_enter Try.func19, Try.ntmps19
  go_upto_region 1 with (fail)
  have hb0 := (Below.refl w.heap.size w).alloc (Nat.le_refl _) (.cells o.cells 39 (0, 0))
  refine wp_world (fun W => Below w.heap.size w W ∧ W.heap[w.heap.size]? = some (.cells o.cells 39 (0, 0))) ⟨hb0, ha_new rfl⟩ ?_
  clear hb0
  rintro W ⟨hb, h1⟩
  replace HS := Lib.hid (HS.out.below hb)
  apply wp_region_lit
  refine wl_k rfl (fun K hK => ?_); go_simp; refine hK _ ?_; clear hK K
  ((with_reducible apply wl_rowG); exact rfl; exact rfl; exact rowO h1)
  simp only [put_lit, List.set_cons_zero, List.set_cons_succ]
  refine wl_ck rfl (fun K hK => ?_); go_simp; refine ⟨_, _, ⟨rfl, rfl⟩, hK _ _ ⟨_, refused_any s A rs HA.out o _ HS.out, ?_⟩⟩; clear hK K; rintro e w1 ⟨rfl, hb1⟩; refine ⟨_, rfl, ?_⟩; simp only [put_lit, List.set_cons_zero, List.set_cons_succ]
  rw [hr]
  replace h1 := below_look hb1 h1
  replace HS := Lib.hid (HS.out.below (hb1.mono (Nat.le_refl _)))
  replace hb := hb.trans (hb1.mono hb.size)
  clear hb1 hr
  obtain ⟨kind, fr, to, at_, n, key⟩ := o
  simp only at hk
  subst hk
  simp only at hfr
  obtain ⟨f, rfl⟩ : ∃ f : Nat, fr = (f : Int) := ⟨fr.toNat, by omega⟩
  have hf8 : (f : Int) < 8 := by omega
  have hnm := nsOf_get (rs := rs) (id_names HA.out hfr.1 hfr.2)
  rw [Int.toNat_natCast] at hnm
  clear hfr
  have c1 := (op_cell h1).2.1
  have c6 := sc_name HS.out.main hnm
  go_upto_region 4 with (fail)
  refine wp_region_held_drew (S := Kept [] w1) mixed (Kept.drew [] w1) (fun hS => ?_)
  refine ha_k (i := 0) rfl (by kernel_rfl) (by kernel_rfl) (by kernel_rfl) (fun _ _ _ _ h => h) hS rfl (fun K hK => ?_); go_simp; refine hK _ ?_; clear hK K; try simp only [put_lit, List.set_cons_zero, List.set_cons_succ]
  refine ha_k (i := 1) rfl (by kernel_rfl) (by kernel_rfl) (by kernel_rfl) (fun _ _ _ _ h => h) hS rfl (fun K hK => ?_); go_simp; refine hK _ ?_; clear hK K; try simp only [put_lit, List.set_cons_zero, List.set_cons_succ]
  refine ha_val (i := 2) rfl (by kernel_rfl) (by kernel_rfl) (by kernel_rfl) (fun _ _ _ h => h) hS rfl (fun w' hw' => ex_one rfl (one3 (hw'.cell c1 (by simp <;> omega)))) ?_; try simp only [put_lit, List.set_cons_zero, List.set_cons_succ]
  refine ha_k (i := 3) rfl (by kernel_rfl) (by kernel_rfl) (by kernel_rfl) (fun _ _ _ _ h => h) hS rfl (fun K hK => ?_); go_simp; refine hK _ ?_; clear hK K; try simp only [put_lit, List.set_cons_zero, List.set_cons_succ]
  refine ha_k (i := 4) rfl (by kernel_rfl) (by kernel_rfl) (by kernel_rfl) (fun _ _ _ _ h => h) hS rfl (fun K hK => ?_); go_simp; refine hK _ ?_; clear hK K; try simp only [put_lit, List.set_cons_zero, List.set_cons_succ]
  refine ha_k (i := 5) rfl (by kernel_rfl) (by kernel_rfl) (by kernel_rfl) (fun _ _ _ _ h => h) hS rfl (fun K hK => ?_); go_simp; refine hK _ ?_; clear hK K; try simp only [put_lit, List.set_cons_zero, List.set_cons_succ]
  refine ha_val (i := 6) rfl (by kernel_rfl) (by kernel_rfl) (by kernel_rfl) (fun _ _ _ h => h) hS rfl (fun w' hw' => ex_one rfl (one80 (hw'.cell c6 (by simp <;> omega)))) ?_; try simp only [put_lit, List.set_cons_zero, List.set_cons_succ]
  refine ha_k (i := 7) rfl (by kernel_rfl) (by kernel_rfl) (by kernel_rfl) (fun _ _ _ _ h => h) hS rfl (fun K hK => ?_); go_simp; refine hK _ ?_; clear hK K; try simp only [put_lit, List.set_cons_zero, List.set_cons_succ]
  refine wpAnyH_done (by kernel_rfl) ?_ _
  replace HS := Lib.hid (HS.out.below (Below.refl w1.heap.size w1).drew)
  replace hb := hb.drew
  replace h1 : w1.drew.heap[w.heap.size]? = _ := h1
  clear c1 c6 hS
  generalize w1.drew = W at *
  have hcs := op_cell h1
  obtain ⟨c0, c1, c2, c3, c4, c5⟩ := hcs
  simp only at c0 c1 c2 c3 c4 c5
  have hto := form_to HF.out
  simp only at hto
  go_upto_region 27 with (fail)
  refine wp_region_held_drew (S := Kept [s] W) mixed (Kept.drew [s] W) (fun hS => ?_)
  refine ha_k (i := 0) rfl (by kernel_rfl) (by kernel_rfl) (by kernel_rfl) (fun _ _ _ _ h => h) hS rfl (fun K hK => ?_); go_simp; refine hK _ ?_; clear hK K; try simp only [put_lit, List.set_cons_zero, List.set_cons_succ]
  refine ha_k (i := 1) rfl (by kernel_rfl) (by kernel_rfl) (by kernel_rfl) (fun _ _ _ _ h => h) hS rfl (fun K hK => ?_); go_simp; refine hK _ ?_; clear hK K; try simp only [put_lit, List.set_cons_zero, List.set_cons_succ]
  refine ha_val (i := 2) rfl (by kernel_rfl) (by kernel_rfl) (by kernel_rfl) (fun _ _ _ h => h) hS rfl (fun w' hw' => ex_one rfl (one3 (hw'.cell c2 (by simp <;> omega)))) ?_; try simp only [put_lit, List.set_cons_zero, List.set_cons_succ]
  refine ha_k (i := 3) rfl (by kernel_rfl) (by kernel_rfl) (by kernel_rfl) (fun _ _ _ _ h => h) hS rfl (fun K hK => ?_); go_simp; refine hK _ ?_; clear hK K; try simp only [put_lit, List.set_cons_zero, List.set_cons_succ]
  refine ha_val (i := 4) rfl (by kernel_rfl) (by kernel_rfl) (by kernel_rfl) (fun _ _ _ h => h) hS rfl (fun w' hw' => ex_one rfl (one3 (hw'.cell c4 (by simp <;> omega)))) ?_; try simp only [put_lit, List.set_cons_zero, List.set_cons_succ]
  have hbn1 := (Below.refl W.heap.size W).drew.alloc (Nat.le_refl _) (.cells (tcells (List.replicate 4 none)).toArray 95)
  have hbn1' := (Below.refl W.drew.heap.size W.drew).alloc (Nat.le_refl _) (.cells (tcells (List.replicate 4 none)).toArray 95)
  refine ha_do (i := 5) (by kernel_rfl) rfl rfl (ex_mk85 rfl rfl) (hS.below hbn1') ?_; try simp only [put_lit, List.set_cons_zero, List.set_cons_succ]
  replace hS := hS.below hbn1'
  have hown : (W.drew.alloc (.cells (tcells (List.replicate 4 none)).toArray 95)).ownsRow W.heap.size 95 3 (.slice (some ⟨W.drew.heap.size, 0, none⟩) 4 4) 4 (tcells (List.replicate 4 none)) := ⟨by simp [tcells_length], Or.inr ⟨_, 4, _, rfl, Nat.le_refl _, ha_new rfl, Nat.le_refl _, by unfold maxLen; omega, by simp [tcells_length], by simp [List.take_of_length_le, tcells_length]⟩⟩
  have HOWN := Lib.hid hown
  clear hown hbn1'
  generalize hW1 : W.drew.alloc (.cells (tcells (List.replicate 4 none)).toArray 95) = W1 at *
  clear hW1
  refine ha_val (i := 6) rfl (by kernel_rfl) (by kernel_rfl) (by kernel_rfl) (fun _ _ _ h => h) hS rfl (fun w' _ => ex_build 87 _ rfl (L := [(0, .int .i64 2), (2, .int .i64 n), (4, .slice (some ⟨W.drew.heap.size, 0, none⟩) 4 4)]) rfl (built87_t n _ _ _)) ?_; try simp only [put_lit, List.set_cons_zero, List.set_cons_succ]
  have hbn2 := (Below.refl W1.heap.size W1).alloc (Nat.le_refl _) (.cells (bcells 2 (.slice none 0 0) n 0 (.slice (some ⟨W.drew.heap.size, 0, none⟩) 4 4)) 87)
  refine ha_do (i := 7) (by kernel_rfl) rfl rfl (ex_box87 _ rfl rfl) (hS.below hbn2) ?_; try simp only [put_lit, List.set_cons_zero, List.set_cons_succ]
  replace hS := hS.below hbn2
  have hLW := hbn1.size
  have hBt : BufAt (W1.alloc (.cells (bcells 2 (.slice none 0 0) n 0 (.slice (some ⟨W.drew.heap.size, 0, none⟩) 4 4)) 87)) ⟨W1.heap.size, .slice none 0 0, .slice (some ⟨W.drew.heap.size, 0, none⟩) 4 4⟩ ⟨2, [], n, List.replicate 4 none⟩ :=
    ⟨ha_new rfl, own_nil _ _ _ _, own_weak (own_below HOWN.out hbn2) (Nat.zero_le _), fun e => by simp at e⟩
  have HC := Lib.hid (made_at s A rs HA.out to hto.1 hto.2 hm W _ HS.out (hbn1.trans (hbn2.mono hLW)) _ _ hBt hLW (by simp [Value.ownBlock]) (fun q hq => by simp [Value.ownBlock] at hq; subst hq; exact Nat.le_refl _))
  clear hBt hbn1 hbn2
  refine ha_call (i := 8) (by kernel_rfl) rfl rfl (fun K hK => ?_); go_simp; refine ⟨_, _, ⟨rfl, rfl⟩, hK _ _ ⟨_, HC.out, ?_⟩⟩; clear hK K; rintro e w2 ⟨rfl, hfin, hKs⟩
  refine ⟨_, rfl, hS.trans hKs, ?_⟩
  replace hS := hS.trans hKs
  try simp only [put_lit, List.set_cons_zero, List.set_cons_succ]
  refine wpAnyH_done (by kernel_rfl) ?_ _
  clear HC
  have HFIN := Lib.hid hfin
  clear hfin
  go_wp2_with fail
  go_ret
  exact ⟨congrArg (fun z => Ending.returned (Value.int .i64 z)) HR.out.symm, _, by rw [doA_ok HR.out]; exact HFIN.out.1, (Ran.ofBelow hb).trans HFIN.out.2⟩
end Go.Proofs.Ytbhdgeoljlhmcaa
