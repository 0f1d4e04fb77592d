/- Two texts read. -/
import Derived.Test.YtclainfdeghgnaaW17
import Derived.Outline
namespace Go.Proofs.Ytclainfdeghgnaa
open Go.RowKit Go.Proofs.Ytclainfdeghgnaa.Nm

theorem wl_w {P : Program} {ops : Array Oper} {rest : List Oper} {o : Oper} {a : Act} {w w2 : World} {Q : Exit → Act → World → Prop} {v : Value} (hg : o.guard = none) (hx : (execOp a.eval o).run P w = .ok (.value v) w2)
    (h : wpList P ops Q rest (a.put o.dst v) w2) : wpList P ops Q (o :: rest) a w := by
  refine wpList_plain hg fun K hK => ?_
  unfold Oper.wp; rw [hx]; exact hK _ _ h
theorem lv_toList (z : Int) : (lv z).toList = .bool (ng z) :: (dv z.natAbs).toList := by unfold lv; simp
theorem run_bs64 (w : World) (b : Bool) (f : Nat → Nat) : (Instr.buildSlice 64 1 #[(0, .agg (#[.bool b] ++ row f))]).run Try.prog w = .ok (.slice (some ⟨w.heap.size, 0, none⟩) 1 1) (w.alloc (.cells (#[.bool b] ++ row f) 75)) := by kernel_rfl
theorem ex_bs64 {ev : Operand → Value} {o : Oper} {w : World} (x : Operand) (ho : o.op = .buildSlice 64 1 #[(0, x)]) {z : Int} (hx : ev x = .agg (lv z)) :
    (execOp ev o).run Try.prog w = .ok (.value (.slice (some ⟨w.heap.size, 0, none⟩) 1 1)) (w.alloc (.cells (lv z) 75)) := by
  have h := run_bs64 w (ng z) (dg z.natAbs)
  unfold execOp
  simp only [ho]
  simp [hx]
  rw [show lv z = #[.bool (ng z)] ++ row (dg z.natAbs) from rfl, h]
  rfl
theorem info75z : (Try.prog.info? 75).map (fun i => (i.zero, i.size, i.bytes)) = some (some (.agg (#[.bool false] ++ row fun _ => 0)), 65, 65) := by kernel_rfl
theorem u64s : Try.prog.underlying 64 = some (.slice 75) := by kernel_rfl
theorem own_below {B : Nat} {w w' : World} {v : Value} {n : Nat} {xs : List Value} (h : w.ownsRow B 75 65 v n xs) (hb : Below w.heap.size w w') : w'.ownsRow B 75 65 v n xs := by
  refine ⟨h.1, ?_⟩
  rcases h.2 with h2 | ⟨g, cap, cur, h1, h2, h3, h4⟩
  · exact Or.inl h2
  · exact Or.inr ⟨g, cap, cur, h1, h2, below_look hb h3, h4⟩

def rdm (m : ByteArray) : Option Int := rd m.data.toList
def flat (xs : List Int) : List Value := xs.flatMap fun x => (lv x).toList
theorem flat_snoc (xs : List Int) (x : Int) : flat xs ++ (lv x).toList = flat (xs ++ [x]) := by simp [flat]
theorem read_any2 (m : ByteArray) (x : Int) (ok : Bool) (h : (rdm m = some x ∧ ok = true) ∨ (rdm m = none ∧ x = 0 ∧ ok = false)) (w : World) :
    Calls Try.prog 82 #[.string m] w fun e w' => e = .returned (.tuple #[.agg (lv x), .bool ok]) ∧ Below w.heap.size w w' := by
  have := read_any m w
  rcases h with ⟨h1, rfl⟩ | ⟨h1, rfl, rfl⟩
  · rwa [rdV_some h1] at this
  · rwa [rdV_none h1] at this
/-- What the texts give: the slice of the numbers, or a text that is none. -/
def ReadsTo (ms : List ByteArray) (B : Nat) (v : Value) (ok : Bool) (w : World) : Prop :=
  (ok = false ∧ ∃ m ∈ ms, rdm m = none) ∨ (ok = true ∧ ∃ xs, ms.map rdm = xs.map some ∧ w.ownsRow B 75 65 v ms.length (flat xs))

set_option maxHeartbeats 1000000 in
theorem reads_any (g c : Nat) (ms : List ByteArray) (hn : ms.length ≤ 1000) (w : World) (hg : w.heap[g]? = some (.cells (ms.map Value.string).toArray 9 (0, 0))) :
    Calls Try.prog 52 #[.slice (some ⟨g, 0, none⟩) ms.length c] w fun e w' => ∃ v ok, e = .returned (.tuple #[v, .bool ok]) ∧ ReadsTo ms w.heap.size v ok w' ∧ Below w.heap.size w w' := by
  obtain ⟨i0, hi, hz0, hz1, hz2⟩ := info_parts info75z
  have lt0 := heap_lt hg
  go_enter Try.func52, Try.ntmps52
  go_wp2_with fail
  go_loopw [11, 4] (fun i v wr => ∃ (k : Nat) (xs : List Int), k ≤ ms.length ∧ i = .int .i64 k ∧ Hid ((ms.take k).map rdm = xs.map some) ∧ wr.ownsRow w.heap.size 75 65 v k (flat xs) ∧ wr.heap[g]? = some (.cells (ms.map Value.string).toArray 9 (0, 0)) ∧ Below w.heap.size w wr) (fun i _ _ => (ms.length - intOf i).toNat)
  case atStart => exact ⟨0, [], by omega, rfl, Lib.hid rfl, ⟨rfl, Or.inl ⟨rfl, rfl⟩⟩, hg, Below.refl _ _⟩
  case round =>
    obtain ⟨k, xs, hk, rfl, HX, hown, h0, hb⟩ := hrel
    by_cases hc : k < ms.length
    · obtain ⟨m, hm⟩ : ∃ m, m = ms[k] := ⟨_, rfl⟩
      have a0 : wr.cell? ⟨g, k, none⟩ = some (.string m) := by
        rw [cell_of_row _ _ _ _ _ _ h0]; simp [hc, hm]
      have HM := Lib.hid hm
      clear hm
      go_upto_region 5 with (fail)
      clear a0
      cases hr : rdm m with
      | none =>
        apply wp_region_lit
        refine wl_k rfl (fun K hK => ?_); go_simp; refine hK _ ?_; clear hK K
        refine wl_ck rfl (fun K hK => ?_); go_simp; refine ⟨_, _, ⟨rfl, rfl⟩, hK _ _ ⟨_, read_any2 m 0 false (Or.inr ⟨hr, rfl, rfl⟩) _, ?_⟩⟩; clear hK K; rintro e w1 ⟨rfl, hb1⟩; refine ⟨_, rfl, ?_⟩; simp only [put_lit, List.set_cons_zero, List.set_cons_succ]
        replace hb := hb.trans (hb1.mono hb.size); clear hb1
        refine wl_k rfl (fun K hK => ?_); go_simp; refine hK _ ?_; clear hK K
        refine wl_k rfl (fun K hK => ?_); go_simp; refine hK _ ?_; clear hK K
        refine wl_k rfl (fun K hK => ?_); go_simp; refine hK _ ?_; clear hK K
        (have lsp2 := hb.size; (with_reducible apply wl_new75); intro w2 p2 hbn hlp2 hp2; replace hb := hb.trans (hbn.mono hb.size); clear hbn)
        ((with_reducible apply wl_put75); exact rfl; exact rfl; exact hp2; intro w3 hbx hk hq; replace hb := hbx _ _ (by omega) hb; clear hp2; have hp2 := hq; clear hbx hk hq)
        go_wp2_with fail
        refine bodyPost_ret (results_tmp2 rfl _ _ _) rfl ⟨_, _, rfl, Or.inl ⟨rfl, m, ?_, hr⟩, hb⟩
        rw [HM.out]
        exact List.getElem_mem _
      | some x =>
        apply wp_region_lit
        refine wl_k rfl (fun K hK => ?_); go_simp; refine hK _ ?_; clear hK K
        refine wl_ck rfl (fun K hK => ?_); go_simp; refine ⟨_, _, ⟨rfl, rfl⟩, hK _ _ ⟨_, read_any2 m x true (Or.inl ⟨hr, rfl⟩) _, ?_⟩⟩; clear hK K; rintro e w1 ⟨rfl, hb1⟩; refine ⟨_, rfl, ?_⟩; simp only [put_lit, List.set_cons_zero, List.set_cons_succ]
        have lt2 := heap_lt h0
        have own1 := own_below hown hb1
        have g1 := below_look hb1 h0
        have HB0 := Lib.hid (hb.trans (hb1.mono hb.size))
        clear hb1 hb hown h0
        have hb := Below.refl w1.heap.size w1
        refine wl_k rfl (fun K hK => ?_); go_simp; refine hK _ ?_; clear hK K
        refine wl_k rfl (fun K hK => ?_); go_simp; refine hK _ ?_; clear hK K
        refine wl_k rfl (fun K hK => ?_); go_simp; refine hK _ ?_; clear hK K
        (have lsp2 := hb.size; (with_reducible apply wl_new75); intro w2 p2 hbn hlp2 hp2; replace hb := hb.trans (hbn.mono hb.size); clear hbn)
        ((with_reducible apply wl_put75); exact rfl; exact rfl; exact hp2; intro w3 hbx hk hq; replace hb := hbx _ _ (by omega) hb; clear hp2; have hp2 := hq; clear hbx hk hq)
        have own2 := own_below own1 hb
        have g2 := below_look hb g1
        have hb2 := HB0.out.trans (hb.mono HB0.out.size)
        clear own1 g1 HB0 hb
        go_upto_region 8 with (fail)
        apply wp_region_lit
        refine wl_k rfl (fun K hK => ?_); go_simp; refine hK _ ?_; clear hK K
        ((with_reducible apply wl_rowG); exact rfl; exact rfl; (first | exact rowL (by with_reducible assumption) | exact rowD (by with_reducible assumption) | exact rowR (by with_reducible assumption)))
        refine wl_w rfl (ex_bs64 _ rfl rfl) ?_
        simp only [put_lit, List.set_cons_zero, List.set_cons_succ]
        refine wpList_append_own _ rfl _ _ 64 rfl w.heap.size 75 i0 _ 65 65 u64s hi hz0 hz1 hz2 ?c0 (by decide) _ _ _ rfl (own2.alloc _) ⟨w3.heap.size, 0, none⟩ 1 1 (lv x).toList rfl ?c1 ?c2 ?c3 ?c4 ?c5 ?c6 ?_
        case c0 => simp [Value.cells, row_size]
        case c1 => simp [lv_size]
        case c2 =>
          intro j u hj
          rw [show (Addr.add ⟨w3.heap.size, 0, none⟩ j) = ⟨w3.heap.size, j, none⟩ by simp [Addr.add]; exact fun h => h.symm, cell_of_row _ _ _ _ _ _ (ha_new rfl)]
          simpa using hj
        case c3 =>
          intro u hu
          have := lv_one x
          rw [Array.all_eq_true_iff_forall_mem] at this
          exact this u (by simpa using hu)
        case c4 => unfold maxLen; omega
        case c5 => omega
        case c6 => have := hb2.size; simp; omega
        intro v' w4 hown' hgrow _
        rw [flat_snoc] at hown'
        have hb4 : Below w.heap.size w w4 := (hb2.alloc hb2.size _).grown hgrow (by have := hb2.size; simp; omega) (fun k hk => (own2.lt k hk).1)
        have g4 := below_cells (Below.refl w.heap.size w) lt0 hg
        replace g4 := below_cells hb4 lt0 hg
        have HO := Lib.hid hown'
        clear hown' hgrow own2 g2 hb2 hp2
        go_wp2_with fail
        go_roundw
        case rel =>
          refine ⟨k + 1, xs ++ [x], by omega, by go_num, Lib.hid ?_, HO.out, g4, hb4⟩
          rw [List.take_succ_eq_append_getElem hc, List.map_append, HX.out, ← HM.out]
          simp [hr]
        case measure => simp [intOf]; omega
    · obtain rfl : k = ms.length := by omega
      go_wp2_with fail
      refine bodyPost_ret (results_tmp2 rfl _ _ _) rfl ⟨_, _, rfl, Or.inr ⟨rfl, xs, ?_, hown⟩, hb⟩
      have := HX.out
      rwa [List.take_length] at this
end Go.Proofs.Ytclainfdeghgnaa
