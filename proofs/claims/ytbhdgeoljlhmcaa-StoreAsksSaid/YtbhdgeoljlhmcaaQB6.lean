/- The store's block; what a name is, by the program. A buffer of one's own, by the program. -/
import Derived.Outline
import Derived.Test.YtbhdgeoljlhmcaaQB5
import Derived.LaidEql
namespace Go.Proofs.Ytbhdgeoljlhmcaa
open Go.RowKit Go.Proofs.Ytbhdgeoljlhmcaa.Nm Go.Proofs.Ytbhdgeoljlhmcaa.St
/-- a pointer to a buffer's block, or nil -/
def bp (o : Option Nat) : Value := .pointer (o.map fun g => ⟨g, 0, none⟩)
/-- the store's block: eight names, two counters -/
def scells (ns : List (Option Nat)) (made shared : Int) : Array Value := (ns.map bp ++ [Value.int .i64 made, Value.int .i64 shared]).toArray
theorem sc_name {w : World} {s : Nat} {ns : List (Option Nat)} {made shared : Int} (h : w.heap[s]? = some (.cells (scells ns made shared) 83 (0, 0))) {i : Nat} {o : Option Nat} (hi : ns[i]? = some o) : w.cell? ⟨s, i, none⟩ = some (bp o) := by
  have hl := (List.getElem?_eq_some_iff.1 hi).1
  rw [cell_of_row _ _ _ _ _ _ h]
  simp [scells, List.getElem?_append_left, hl]
  rw [(List.getElem?_eq_some_iff.1 hi).2]
theorem sc_made {w : World} {s : Nat} {ns : List (Option Nat)} {made shared : Int} (h : w.heap[s]? = some (.cells (scells ns made shared) 83 (0, 0))) (hn : ns.length = 8) : w.cell? ⟨s, 8, none⟩ = some (.int .i64 made) ∧ w.cell? ⟨s, 9, none⟩ = some (.int .i64 shared) := by
  rw [cell_of_row _ _ _ _ _ _ h, cell_of_row _ _ _ _ _ _ h]
  simp [scells, hn]
theorem u80 : Try.prog.underlying 80 = some (.pointer 87) := by kernel_rfl
theorem one80 {w : World} {ad : Addr} {v : Value} (h : w.cell? ad = some v) : OneAt w 80 ad v := one_of u80 rfl h
set_option maxRecDepth 100000 in
theorem kindOf_any (s : Nat) (ns : List (Option Nat)) (made shared : Int) (hn : ns.length = 8) (i : Nat) (o : Option Nat) (hi : ns[i]? = some o) (kd : Int) (w : World) (h0 : w.heap[s]? = some (.cells (scells ns made shared) 83 (0, 0)))
    (hk : ∀ g, o = some g → w.cell? ⟨g, 0, none⟩ = some (.int .i64 kd)) (hk0 : o = none → kd = 0) :
    Calls Try.prog 76 #[.pointer (some ⟨s, 0, none⟩), .int .i64 (i : Int)] w fun e w' => e = .returned (.int .i64 kd) ∧ Below w.heap.size w w' := by
  have hl : i < 8 := by rw [← hn]; exact (List.getElem?_eq_some_iff.1 hi).1
  have c0 := sc_name h0 hi
  go_enter Try.func76, Try.ntmps76
  cases o with
  | none =>
    obtain rfl := hk0 rfl
    rw [show bp none = .pointer none from rfl] at c0
    go_wp2_with fail
    go_ret
    exact ⟨rfl, Below.refl _ _⟩
  | some g =>
    have hg := hk g rfl
    rw [show bp (some g) = .pointer (some ⟨g, 0, none⟩) from rfl] at c0
    go_wp2_with fail
    go_ret
    exact ⟨rfl, Below.refl _ _⟩
theorem scells_set {ns : List (Option Nat)} {made shared : Int} {i : Nat} (hi : i < ns.length) (o : Option Nat) : (scells ns made shared).setIfInBounds i (bp o) = scells (ns.set i o) made shared := by
  unfold scells
  rw [List.setIfInBounds_toArray, List.set_append_left _ _ (by simpa using hi), List.map_set]
theorem scells_made {ns : List (Option Nat)} {made shared : Int} (hn : ns.length = 8) (m : Int) : (scells ns made shared).setIfInBounds 8 (.int .i64 m) = scells ns m shared := by
  unfold scells
  rw [List.setIfInBounds_toArray, List.set_append_right _ _ (by simp [hn])]
  simp [hn]
theorem scells_shared {ns : List (Option Nat)} {made shared : Int} (hn : ns.length = 8) (m : Int) : (scells ns made shared).setIfInBounds 9 (.int .i64 m) = scells ns made m := by
  unfold scells
  rw [List.setIfInBounds_toArray, List.set_append_right _ _ (by simp [hn])]
  simp [hn]
set_option maxRecDepth 100000 in
theorem made_any (s : Nat) (ns : List (Option Nat)) (made shared : Int) (hn : ns.length = 8) (i : Nat) (hi : i < 8) (g : Nat) (hm : 0 ≤ made) (hm2 : made ≤ 1000000) (w : World) (h0 : w.heap[s]? = some (.cells (scells ns made shared) 83 (0, 0))) :
    Calls Try.prog 51 #[.pointer (some ⟨s, 0, none⟩), .int .i64 (i : Int), .pointer (some ⟨g, 0, none⟩)] w fun e w' => e = .returned (.tuple #[]) ∧ w'.heap[s]? = some (.cells (scells (ns.set i (some g)) (made + 1) shared) 83 (0, 0)) ∧ Kept [s] w w' := by
  have c0 := sc_name h0 (List.getElem?_eq_getElem (show i < ns.length by omega))
  have f0 : w.frozen? ⟨s, i, none⟩ = false := frozen_of_row _ _ _ _ _ h0
  go_enter Try.func51, Try.ntmps51
  go_upto_region 1 with (fail)
  have HK := Lib.hid ((Nm.Kept.refl [s] w).setCell (p := s) (by simp) i (bp (some g)))
  have h1 : (w.setCell ⟨s, i, none⟩ (.pointer (some ⟨g, 0, none⟩))).heap[s]? = some (.cells (scells (ns.set i (some g)) made shared) 83 (0, 0)) := (hs_new h0 (i := i) (v := bp (some g))).trans (by rw [scells_set (by omega)])
  rw [show bp (some g) = .pointer (some ⟨g, 0, none⟩) from rfl] at HK
  clear h0 c0 f0
  generalize w.setCell ⟨s, i, none⟩ (.pointer (some ⟨g, 0, none⟩)) = w1 at *
  have hn1 : (ns.set i (some g)).length = 8 := by simpa using hn
  have c8 := (sc_made h1 hn1).1
  have f8 : w1.frozen? ⟨s, 8, none⟩ = false := frozen_of_row _ _ _ _ _ h1
  go_wp2_with fail
  go_end0
  exact ⟨rfl, (hs_new h1).trans (by rw [scells_made hn1]), HK.out.setCell (p := s) (by simp) 8 _⟩
set_option linter.unusedSimpArgs false
theorem u81 : Try.prog.underlying 81 = some (.array 8 80) := by kernel_rfl
theorem info81 : (Try.prog.info? 81).map (·.size) = some 8 := by kernel_rfl
theorem info80 : (Try.prog.info? 80).map (·.size) = some 1 := by kernel_rfl
theorem sc_row {w : World} {s : Nat} {ns : List (Option Nat)} {made shared : Int} (h : w.heap[s]? = some (.cells (scells ns made shared) 83 (0, 0))) (hn : ns.length = 8) : RowAt w 81 ⟨s, 0, none⟩ (ns.map bp).toArray :=
  row_mid (off := 0) h (D := (ns.map bp).toArray) (n := 8) (by
    apply Array.ext'
    simp [scells, hn]) u81 rfl (by simp [hn]) info81
theorem run_ix (ns : List (Option Nat)) (hn : ns.length = 8) (j : Nat) (o : Option Nat) (hj : ns[j]? = some o) (w : World) : (Instr.index 81 (.agg (ns.map bp).toArray) (.int .i64 (j : Int))).run Try.prog w = .ok (bp o) w := by
  have hl : j < 8 := by rw [← hn]; exact (List.getElem?_eq_some_iff.1 hj).1
  unfold Instr.index
  cases hq : Try.prog.info? 80 with
  | none => have := info80; rw [hq] at this; simp at this
  | some i0 =>
    have hs : i0.size = 1 := by have := info80; rw [hq] at this; simpa using this
    simp [asIntOf, run_underlying u81, Result.andThen, sizeOf, typeInfo, hq, hs, hl, part, hj]
theorem run_eqi (d h g : Nat) (w : World) {ch cg : Array Value} (hh : w.heap[h]? = some (.cells ch 87 (0, 0))) (hg : w.heap[g]? = some (.cells cg 87 (0, 0))) : (Op.equalIn (d + 1) 80 (.pointer (some ⟨h, 0, none⟩)) (.pointer (some ⟨g, 0, none⟩))).run Try.prog w = .ok (decide (h = g)) w := by
  have h1 : (sameAddr ⟨h, 0, none⟩ ⟨g, 0, none⟩).run Try.prog w = .ok (decide (h = g)) w := by
    by_cases e : h = g
    · subst e; rw [run_sameAddr_same]; simp
    · rw [run_sameAddr_other w (a := ⟨h, 0, none⟩) (b := ⟨g, 0, none⟩) (by simp [e]) hh hg]; simp [e]
  simp [Op.equalIn, run_underlying u80, Result.andThen, h1]
theorem run_peq (h g : Nat) (w : World) {ch cg : Array Value} (hh : w.heap[h]? = some (.cells ch 87 (0, 0))) (hg : w.heap[g]? = some (.cells cg 87 (0, 0))) : (binOp .eql 80 (.pointer (some ⟨h, 0, none⟩)) (.pointer (some ⟨g, 0, none⟩))).run Try.prog w = .ok (.bool (decide (h = g))) w := by
  simp only [binOp]
  simp [Op.equal, Op.maxDepth, run_eqi 9999 h g w hh hg]
theorem ex_ix {ev : Operand → Value} {op : Oper} {w : World} (x y : Operand) (ho : op.op = .index 81 x y) {ns : List (Option Nat)} (hn : ns.length = 8) {j : Nat} {o : Option Nat} (hx : ev x = .agg (ns.map bp).toArray) (hy : ev y = .int .i64 (j : Int)) (hj : ns[j]? = some o) :
    (execOp ev op).run Try.prog w = .ok (.value (bp o)) w := by
  unfold execOp
  simp [ho, hx, hy, run_ix ns hn j o hj w, Result.andThen]
set_option maxHeartbeats 4000000 in
set_option maxRecDepth 100000 in
theorem own_any (s : Nat) (ns : List (Option Nat)) (made shared : Int) (hn : ns.length = 8) (i : Nat) (hi : i < 8) (g : Nat) (hg : ns[i]? = some (some g)) (hm : 0 ≤ made) (hm2 : made ≤ 1000000) (hm3 : 0 ≤ shared) (hm4 : shared ≤ 100000)
    (kd seed cnt : Int) (A : Option Addr) (n cap : Nat) (l : List ByteArray) (A2 : Option Addr) (cap2 : Nat) (t : Tab) (hnn : n ≤ 1000000) (hn2 : t.length ≤ 1000000) (w : World)
    (h0 : w.heap[s]? = some (.cells (scells ns made shared) 83 (0, 0))) (hall : ∀ (j h : Nat), ns[j]? = some (some h) → ∃ cs : Array Value, w.heap[h]? = some (Obj.cells cs 87 (0, 0)))
    (hb0 : w.heap[g]? = some (.cells (bcells kd (.slice A n cap) seed cnt (.slice A2 t.length cap2)) 87 (0, 0))) (hl : StrAt w A n cap l) {B : Nat} (hv : VT B w A2 cap2 t) :
    Calls Try.prog 52 #[.pointer (some ⟨s, 0, none⟩), .int .i64 (i : Int)] w fun e w' =>
      ((∀ j, j < 8 → j ≠ i → ns[j]? ≠ some (some g)) ∧ e = .returned (.pointer (some ⟨g, 0, none⟩)) ∧ Kept [] w w') ∨
      ((∃ j, j < 8 ∧ j ≠ i ∧ ns[j]? = some (some g)) ∧ ∃ g' lv pv, w.heap.size ≤ g' ∧ e = .returned (.pointer (some ⟨g', 0, none⟩)) ∧ w'.heap[s]? = some (.cells (scells (ns.set i (some g')) (made + 1) (shared + 1)) 83 (0, 0)) ∧ w'.heap[g']? = some (.cells (bcells kd lv seed cnt pv) 87 (0, 0)) ∧
        w'.ownsRow w.heap.size 9 1 lv n (strs l) ∧ (w'.ownsRow w.heap.size 95 3 pv t.length (tcells t) ∧ (t = [] → pv = .slice none 0 0)) ∧ Kept [s] w w') := by
  have HL := Lib.hid hl
  have HV := Lib.hid hv
  have c0 := sc_name h0 hg
  rw [show bp (some g) = .pointer (some ⟨g, 0, none⟩) from rfl] at c0
  clear hl hv
  go_enter Try.func52, Try.ntmps52
  go_upto_region 2 with (fail)
  apply wp_region_lit
  iterate 3 (refine wl_k rfl (fun K hK => ?_); go_simp; refine hK _ ?_; clear hK K)
  ((with_reducible apply wl_rowG); exact rfl; exact rfl; exact sc_row h0 hn)
  simp only [Zq]
  refine wl_k rfl (fun K hK => ?_); go_simp; refine hK _ ?_; clear hK K
  go_wp2_with fail
  have hpre0 : Hid (∀ k, k < 0 → k ≠ i → ns[k]? ≠ some (some g)) := Lib.hid (fun k hk => by omega)
  generalize hA : (List.map bp ns).toArray = arr
  have HA := Lib.hid hA
  clear hA
  go_loop [18] (fun v => ∃ j : Nat, j ≤ 8 ∧ v = .int .i64 (j : Int) ∧ Hid (∀ k, k < j → k ≠ i → ns[k]? ≠ some (some g))) (fun v => 8 - (intOf v).toNat)
  case atStart => exact ⟨0, by omega, rfl, hpre0⟩
  case round =>
    clear hpre0
    obtain ⟨j, hj, rfl, HJ⟩ := hrel
    by_cases hlt : j < 8
    · obtain ⟨o, ho⟩ : ∃ o, ns[j]? = some o := ⟨_, List.getElem?_eq_getElem (by omega)⟩
      go_upto_region 4 with (fail)
      apply wp_region_lit
      refine wl_k rfl (fun K hK => ?_); go_simp; refine hK _ ?_; clear hK K
      refine wl_val rfl (ex_ix _ _ rfl hn (by rw [HA.out]; rfl) rfl ho) ?_
      simp only [Zq]
      iterate 2 (refine wl_k rfl (fun K hK => ?_); go_simp; refine hK _ ?_; clear hK K)
      have hstep : o ≠ some g ∨ j = i → ∀ k, k < j + 1 → k ≠ i → ns[k]? ≠ some (some g) := fun h k hk hki => by
        rcases Nat.lt_or_ge k j with h1 | h1
        · exact HJ.out k h1 hki
        · obtain rfl : k = j := by omega
          rw [ho]; intro e; cases e; rcases h with h | h; exact h rfl; exact hki h
      have HS := Lib.hid hstep
      clear hstep
      by_cases hji : j = i
      · subst hji
        go_wp2_with fail
        go_round
        case rel => exact ⟨j + 1, by omega, by go_num, Lib.hid (HS.out (Or.inr rfl))⟩
        case measure => simp [intOf]; omega
      · have hd : ((j : Int) == (i : Int)) = false := by simp; omega
        have hd2 : ¬ ((j : Int) = (i : Int)) := by omega
        cases o with
        | none =>
          rw [show bp none = .pointer none from rfl]
          have HE : ∀ w, (binOp .eql 80 (.pointer none) (.pointer (some ⟨g, 0, none⟩))).run Try.prog w = .ok (.bool false) w := fun w => by kernel_rfl
          go_wp2_with fail
          go_round
          case rel => exact ⟨j + 1, by omega, by go_num, Lib.hid (HS.out (Or.inl (by simp)))⟩
          case measure => simp [intOf]; omega
        | some h =>
          rw [show bp (some h) = .pointer (some ⟨h, 0, none⟩) from rfl]
          obtain ⟨ch, hch⟩ := hall j h ho
          have HE := run_peq h g w hch hb0
          clear hch
          by_cases hhg : h = g
          · subst hhg
            rw [show decide (h = h) = true by simp] at HE
            clear HJ HS
            go_upto_region 6 with (fail)
            apply wp_region_lit
            iterate 3 (refine wl_k rfl (fun K hK => ?_); go_simp; refine hK _ ?_; clear hK K)
            have HC := Lib.hid (copied_any h kd seed cnt A n cap l A2 cap2 t hnn hn2 w hb0 HL.out HV.out)
            refine wl_ck rfl (fun K hK => ?_); go_simp; refine ⟨_, _, ⟨rfl, rfl⟩, hK _ _ ⟨_, HC.out, ?_⟩⟩; clear hK K; rintro e w1 ⟨g', lv, pv, hge, rfl, hg', ho1, ⟨ho2, hnil⟩, hb1⟩; refine ⟨_, rfl, ?_⟩; simp only [Zq]
            have hs1 := below_look hb1 h0
            have HM := Lib.hid (made_any s ns made shared hn i hi g' hm (by omega) w1 hs1)
            refine wl_ck rfl (fun K hK => ?_); go_simp; refine ⟨_, _, ⟨rfl, rfl⟩, hK _ _ ⟨_, HM.out, ?_⟩⟩; clear hK K; rintro e w2 ⟨rfl, hs2, hk2⟩; refine ⟨_, rfl, ?_⟩; simp only [Zq]
            have HO1 := Lib.hid ho1
            have HO2 := Lib.hid ho2
            have HN := Lib.hid hnil
            clear hnil
            have HB := Lib.hid hb1
            have HK := Lib.hid hk2
            have LS := heap_lt h0
            have hsg : g' ≠ s := by omega
            replace hg' := hk2.look hg' (by simpa using hsg)
            clear ho1 ho2 hb1 hk2 HC HM c0
            have hn1 : (ns.set i (some g')).length = 8 := by simpa using hn
            have c9 := (sc_made hs2 hn1).2
            have f9 : w2.frozen? ⟨s, 9, none⟩ = false := frozen_of_row _ _ _ _ _ hs2
            go_upto_region 9 with (fail)
            have hs3 : (w2.setCell ⟨s, 9, none⟩ (.int .i64 (shared + 1))).heap[s]? = some (.cells (scells (ns.set i (some g')) (made + 1) (shared + 1)) 83 (0, 0)) := (hs_new hs2).trans (by rw [scells_shared hn1])
            have hg3 : (w2.setCell ⟨s, 9, none⟩ (.int .i64 (shared + 1))).heap[g']? = _ := (heap_setCell_other w2 ⟨s, 9, none⟩ g' _ hsg).trans hg'
            have HKK := Lib.hid ((((Nm.Kept.refl [s] w).below HB.out).trans HK.out).setCell (p := s) (by simp) 9 (.int .i64 (shared + 1)))
            have hoth : ∀ q, q < w1.heap.size → q ≠ s → (w2.setCell ⟨s, 9, none⟩ (.int .i64 (shared + 1))).heap[q]? = w1.heap[q]? := fun q hq hne => (heap_setCell_other w2 ⟨s, 9, none⟩ q _ hne).trans (HK.out.block q hq (by simpa using hne))
            have HO3 := Lib.hid (own_same HO1.out (w' := w2.setCell ⟨s, 9, none⟩ (.int .i64 (shared + 1))) (fun q hq he => hoth q hq (fun e => by have := (HO1.out.lt q he).1; omega)))
            have HO4 := Lib.hid (own_same HO2.out (w' := w2.setCell ⟨s, 9, none⟩ (.int .i64 (shared + 1))) (fun q hq he => hoth q hq (fun e => by have := (HO2.out.lt q he).1; omega)))
            clear hoth hs2 hg' HO1 HO2 HB HK c9 f9
            generalize w2.setCell ⟨s, 9, none⟩ (.int .i64 (shared + 1)) = w3 at *
            have c1 := sc_name hs3 (i := i) (o := some g') (by simp [List.getElem?_set]; omega)
            rw [show bp (some g') = .pointer (some ⟨g', 0, none⟩) from rfl] at c1
            go_wp2_with fail
            go_ret
            exact Or.inr ⟨⟨j, hlt, hji, ho⟩, g', hge, rfl, hs3, lv, pv, hg3, HO3.out, ⟨HO4.out, HN.out⟩, HKK.out⟩
          · rw [show decide (h = g) = false by simpa using hhg] at HE
            go_wp2_with fail
            go_round
            case rel => exact ⟨j + 1, by omega, by go_num, Lib.hid (HS.out (Or.inl (by simpa using hhg)))⟩
            case measure => simp [intOf]; omega
    · obtain rfl : j = 8 := by omega
      go_wp2_with fail
      go_ret
      exact Or.inl ⟨HJ.out, rfl, Nm.Kept.refl _ _⟩
end Go.Proofs.Ytbhdgeoljlhmcaa
