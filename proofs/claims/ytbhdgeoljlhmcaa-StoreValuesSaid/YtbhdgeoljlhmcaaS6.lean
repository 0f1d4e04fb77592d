/- The entries of a table in order, by the program. -/
import Derived.Test.YtbhdgeoljlhmcaaS5
import Derived.Outline
namespace Go.Proofs.Ytbhdgeoljlhmcaa
open Go.RowKit Go.Proofs.Ytbhdgeoljlhmcaa.Nm Go.Proofs.Ytbhdgeoljlhmcaa.St
set_option linter.unusedSimpArgs false
theorem u30 : Try.prog.underlying 30 = some (.slice 91) := by kernel_rfl
theorem infoP : (Try.prog.info? 91).map (fun i => (i.zero, i.size, i.bytes)) = some (some (.agg (pair ⟨#[]⟩ 0)), 2, 24) := by kernel_rfl
theorem run_bs91 (w : World) (k : ByteArray) (v : Int) : (Instr.buildSlice 30 1 #[(0, .agg (pair k v))]).run Try.prog w = .ok (.slice (some ⟨w.heap.size, 0, none⟩) 1 1) (w.alloc (.cells (pair k v) 91)) := by kernel_rfl
theorem ex_bs91 {ev : Operand → Value} {o : Oper} {w : World} (x : Operand) (ho : o.op = .buildSlice 30 1 #[(0, x)]) {k : ByteArray} {v : Int} (hx : ev x = .agg (pair k v)) :
    (execOp ev o).run Try.prog w = .ok (.value (.slice (some ⟨w.heap.size, 0, none⟩) 1 1)) (w.alloc (.cells (pair k v) 91)) := by
  unfold execOp
  have := run_bs91 w k v
  simp [ho, hx, this, Result.andThen]
theorem wl_w {P : Program} {ops : Array Oper} {rest : List Oper} {o : Oper} {a : Act} {w w2 : World} {Q : Exit → Act → World → Prop} {v : Value} (hg : o.guard = none) (hx : (execOp a.eval o).run P w = .ok (.value v) w2)
    (h : wpList P ops Q rest (a.put o.dst v) w2) : wpList P ops Q (o :: rest) a w := by
  refine wpList_plain hg fun K hK => ?_
  unfold Oper.wp; rw [hx]; exact hK _ _ h
/-- entries as cells -/
def prow (l : List (ByteArray × Int)) : List Value := l.flatMap fun e => [.string e.1, .int .i64 e.2]
theorem prow_snoc (l : List (ByteArray × Int)) (k : ByteArray) (v : Int) : prow l ++ [.string k, .int .i64 v] = prow (l ++ [(k, v)]) := by simp [prow]
/-- One more entry behind a row of the call's own. -/
theorem wl_pushP {ops : Array Oper} {rest : List Oper} {a : Act} {w w0 : World} {Q : Exit → Act → World → Prop} {d1 d2 : Option Tmp} {ty1 ty2 : TypeId} {p1 p2 : String} {f1 f2 : Array Edge} {x s t : Operand} {sv : Value} {l : List (ByteArray × Int)} {k : ByteArray} {v : Int}
    (hx : a.eval x = .agg (pair k v)) (hown : w.ownsRow w0.heap.size 91 2 sv l.length (prow l)) (hb : Below w0.heap.size w0 w) (hk : l.length ≤ 1000000) (hs : ∀ u, (a.put d1 u).eval s = sv) (ht : ∀ u, (a.put d1 u).eval t = u)
    (h : ∀ v' w', w'.ownsRow w0.heap.size 91 2 v' (l ++ [(k, v)]).length (prow (l ++ [(k, v)])) → Below w0.heap.size w0 w' → (∀ q o, q < w.heap.size → some q ≠ sv.ownBlock → w.heap[q]? = some o → w'.heap[q]? = some o) → wpList Try.prog ops Q rest ((a.put d1 (.slice (some ⟨w.heap.size, 0, none⟩) 1 1)).put d2 v') w') :
    wpList Try.prog ops Q (⟨d1, .buildSlice 30 1 #[(0, x)], ty1, p1, f1, none⟩ :: ⟨d2, .call { callee := .builtin .append, args := #[s, t], argTypes := #[30, 30] }, ty2, p2, f2, none⟩ :: rest) a w := by
  obtain ⟨i0, hi, hz0, hz1, hz2⟩ := info_parts infoP
  refine wl_w rfl (ex_bs91 _ rfl hx) ?_
  refine wpList_append_own _ rfl s t 30 rfl w0.heap.size 91 i0 _ 2 24 u30 hi hz0 hz1 hz2 rfl (by decide) sv l.length (prow l) (hs _) (hown.alloc _) ⟨w.heap.size, 0, none⟩ 1 1 [.string k, .int .i64 v] (ht _) rfl ?_ ?_ ?_ ?_ ?_ ?_
  · intro j u hj
    rw [show (Addr.add ⟨w.heap.size, 0, none⟩ j) = ⟨w.heap.size, j, none⟩ by simp [Addr.add]; exact fun h => h.symm, cell_of_row _ _ _ _ _ _ (ha_new rfl)]
    simpa [pair] using hj
  · intro u hu
    simp at hu; rcases hu with rfl | rfl <;> rfl
  · unfold maxLen; omega
  · omega
  · have := hb.size; simp; omega
  · intro v' w4 hown' hgrow _
    rw [prow_snoc] at hown'
    refine h v' w4 (by simpa using hown') ((hb.alloc hb.size _).grown hgrow (by have := hb.size; simp; omega) (fun k hk => (hown.lt k hk).1)) (fun q o hq hne ho => ?_)
    rw [hgrow.block q (by simp; omega) hne]; exact ha_old ho
theorem own_same {w w' : World} {b n : Nat} {e : TypeId} {size : Nat} {v : Value} {xs : List Value} (h : w.ownsRow b e size v n xs) (hs : ∀ q, q < w.heap.size → v.ownBlock = some q → w'.heap[q]? = w.heap[q]?) : w'.ownsRow b e size v n xs := by
  refine ⟨h.1, ?_⟩
  rcases h.2 with h0 | ⟨g, cap, cur, hv, hB, hg, hr⟩
  · exact Or.inl h0
  · exact Or.inr ⟨g, cap, cur, hv, hB, by rw [hs g (heap_lt hg) (by rw [hv]; rfl)]; exact hg, hr⟩
theorem own_below {w w' : World} {b n : Nat} {e : TypeId} {size : Nat} {v : Value} {xs : List Value} (h : w.ownsRow b e size v n xs) (hb : Below w.heap.size w w') : w'.ownsRow b e size v n xs := own_same h (fun q hq _ => hb.block q hq)
theorem own_setRow {w : World} {b n p : Nat} {e : TypeId} {size : Nat} {v : Value} {xs : List Value} (h : w.ownsRow b e size v n xs) (hp : v.ownBlock ≠ some p) (cs : Array Value) : (w.setRow p cs).ownsRow b e size v n xs := own_same h (fun q _ hq => setRow_other w p q cs (fun e => hp (by rw [hq, e])))
/-- the entries of a table -/
def pairsT (t : Tab) : List (ByteArray × Int) := t.filterMap id
theorem pairsT_take {t : Tab} {i : Nat} (hi : i < t.length) : pairsT (t.take (i + 1)) = pairsT (t.take i) ++ (match pl t i with | none => [] | some x => [x]) := by
  unfold pairsT
  rw [List.take_succ_eq_append_getElem hi, List.filterMap_append]
  have : pl t i = t[i] := by unfold pl; rw [Nat.mod_eq_of_lt hi, List.getElem?_eq_getElem hi]; rfl
  rw [this]
  cases t[i] <;> simp
theorem pairsT_le (t : Tab) : (pairsT t).length ≤ t.length := List.length_filterMap_le _ _
/-- a slice value is a table -/
def VT (B : Nat) (w : World) (A : Option Addr) (cap : Nat) (t : Tab) : Prop := (t = [] ∧ A = none ∧ cap = 0) ∨ ∃ p, A = some ⟨p, 0, none⟩ ∧ B ≤ p ∧ 1 ≤ t.length ∧ PlAt w p cap t
theorem VT.below {B : Nat} {w w' : World} {A : Option Addr} {cap : Nat} {t : Tab} (h : VT B w A cap t) (hb : Below w.heap.size w w') : VT B w' A cap t := by
  rcases h with h | ⟨p, h1, h2, h3, h4⟩
  · exact Or.inl h
  · exact Or.inr ⟨p, h1, h2, h3, h4.below hb⟩
theorem ex_alloc95 {o : Oper} (ho : o.op = .alloc 95) (ev : Operand → Value) (w : World) : (execOp ev o).run Try.prog w = .ok (.value (.pointer (some ⟨w.heap.size, 0, none⟩))) (w.alloc (.cells (ecells none) 95)) := by
  unfold execOp
  simp only [ho]
  kernel_rfl
theorem extract3 {cur : Array Value} {o : Nat} {x y z : Value} (h1 : cur[o]? = some x) (h2 : cur[o + 1]? = some y) (h3 : cur[o + 2]? = some z) : cur.extract o (o + 3) = #[x, y, z] := by
  have l3 : o + 2 < cur.size := (Array.getElem?_eq_some_iff.1 h3).1
  apply Array.ext
  · simp; omega
  · intro i hi1 hi2
    simp at hi2
    rw [Array.getElem_extract]
    rcases (show i = 0 ∨ i = 1 ∨ i = 2 by omega) with rfl | rfl | rfl
    · simpa using (Array.getElem?_eq_some_iff.1 h1).2
    · simpa using (Array.getElem?_eq_some_iff.1 h2).2
    · simpa using (Array.getElem?_eq_some_iff.1 h3).2
theorem PlAt.row3 {w : World} {p cap i : Nat} {t : Tab} (h : PlAt w p cap t) (hi : i < t.length) : RowAt w 95 ⟨p, i * 3, none⟩ (ecells (pl t i)) := by
  obtain ⟨cur, h1, _, _, h2⟩ := h
  obtain ⟨ha, hb, hc⟩ := h2 i hi
  exact row_mid h1 (extract3 ha hb hc) u95 rfl rfl info95
theorem ecell0 {w : World} {b : Nat} {o : Option (ByteArray × Int)} {t : TypeId} {fr : Nat × Nat} (hb : w.heap[b]? = some (.cells (ecells o) t fr)) : w.cell? ⟨b, 0, none⟩ = some (.bool (eb o)) := by rw [cell_of_row _ _ _ _ _ _ hb]; rfl
theorem rowE1 {w : World} {b : Nat} {k : ByteArray} {v : Int} {t : TypeId} {fr : Nat × Nat} (hb : w.heap[b]? = some (.cells (ecells (some (k, v))) t fr)) : RowAt w 91 ⟨b, 1, none⟩ (pair k v) := row_mid hb (D := pair k v) (n := 2) rfl u91 rfl rfl info91
set_option maxHeartbeats 4000000 in
set_option maxRecDepth 100000 in
theorem pairs_any (g : Nat) (A : Option Addr) (cap : Nat) (t : Tab) (kd seed cnt : Int) (lv : Value) (hn2 : t.length ≤ 1000000) (w : World)
    (h0 : w.heap[g]? = some (.cells (bcells kd lv seed cnt (.slice A t.length cap)) 87 (0, 0))) {B : Nat} (hv : VT B w A cap t) :
    Calls Try.prog 59 #[.pointer (some ⟨g, 0, none⟩)] w fun e w' => ∃ sv, e = .returned sv ∧ w'.ownsRow w.heap.size 91 2 sv (pairsT t).length (prow (pairsT t)) ∧ Below w.heap.size w w' := by
  have HV := Lib.hid hv
  have b4 := (bc_cell h0).2.2.2.2
  clear hv
  go_enter Try.func59, Try.ntmps59
  go_wp2_with fail
  go_loopw [3, 11] (fun sv i wr => ∃ j : Nat, j ≤ t.length ∧ i = .int .i64 (j : Int) ∧ Hid (wr.ownsRow w.heap.size 91 2 sv (pairsT (t.take j)).length (prow (pairsT (t.take j)))) ∧ Below w.heap.size w wr) (fun _ i _ => (t.length - intOf i).toNat)
  case atStart => exact ⟨0, by omega, rfl, Lib.hid ⟨rfl, Or.inl ⟨rfl, rfl⟩⟩, Below.refl _ _⟩
  case round =>
    obtain ⟨j, hj, rfl, HO, hb⟩ := hrel
    by_cases hlt : j < t.length
    · obtain ⟨p, hA, hp⟩ : ∃ p, A = some ⟨p, 0, none⟩ ∧ PlAt wr p cap t := by
        rcases HV.out.below hb with h | h
        · rw [h.1] at hlt; simp at hlt
        · obtain ⟨p, h1, _, _, h2⟩ := h; exact ⟨p, h1, h2⟩
      have HP := Lib.hid hp
      have LP := hp.lt
      have LW0 := hb.size
      have HT := Lib.hid (pairsT_take hlt)
      clear hp
      subst hA
      go_upto_region 4 with (fail)
      apply wp_region_lit
      refine wl_k rfl (fun K hK => ?_); go_simp; refine hK _ ?_; clear hK K
      ((with_reducible apply wl_rowG); exact rfl; exact rfl; exact HP.out.row3 hlt)
      simp only [put_lit, List.set_cons_zero, List.set_cons_succ]
      refine wl_new (fun ev w => ex_alloc95 rfl ev w) ?_
      intro W5 p5 hb5 hl5 h5
      replace HO := Lib.hid (own_setRow (own_below HO.out hb5) (p := p5) (fun e => by have := (HO.out.lt _ e).2; omega) (ecells (pl t j)))
      replace hb := hb.trans (hb5.mono hb.size)
      have HP5 := Lib.hid (HP.out.below hb5)
      have LW := hb.size
      clear HP hb5
      refine wl_putG p5 (ecells (pl t j)) rfl rfl 95 _ h5 info95 rfl (ecells_one _) ?_
      replace hb := below_setRow hb (g := p5) (by omega) (ecells (pl t j))
      have h5' := hr_new (cs := ecells (pl t j)) h5
      clear h5 HP5
      generalize W5.setRow p5 (ecells (pl t j)) = w5 at *
      cases hq : pl t j with
      | none =>
        rw [hq] at h5' HT
        have c0 := ecell0 h5'
        rw [show eb (none : Option (ByteArray × Int)) = false from rfl] at c0
        simp only [List.append_nil] at HT
        clear hq
        go_wp2_with fail
        go_roundw
        case rel => exact ⟨j + 1, by omega, by go_num, by rw [HT.out]; exact HO, hb⟩
        case measure => simp [intOf]; omega
      | some x =>
        obtain ⟨k, v⟩ := x
        rw [hq] at h5' HT
        have c0 := ecell0 h5'
        rw [show eb (some (k, v)) = true from rfl] at c0
        simp only at HT
        have hle := pairsT_le (t.take j)
        have hle2 : (t.take j).length ≤ j := List.length_take_le _ _
        clear hq
        go_upto_region 6 with (fail)
        apply wp_region_lit
        refine wl_k rfl (fun K hK => ?_); go_simp; refine hK _ ?_; clear hK K
        refine wl_k rfl (fun K hK => ?_); go_simp; refine hK _ ?_; clear hK K
        ((with_reducible apply wl_rowG); exact rfl; exact rfl; exact rowE1 h5')
        simp only [put_lit, List.set_cons_zero, List.set_cons_succ]
        refine wl_pushP (k := k) (v := v) rfl HO.out hb (by omega) (fun _ => rfl) (fun _ => rfl) ?_
        intro v' w6 hown' hb6 _
        rw [← HT.out] at hown'
        clear HO hb h5' c0
        have HO := Lib.hid hown'
        have hb := hb6
        clear hown' hb6
        simp only [put_lit, List.set_cons_zero, List.set_cons_succ]
        go_wp2_with fail
        go_roundw
        case rel => exact ⟨j + 1, by omega, by go_num, HO, hb⟩
        case measure => simp [intOf]; omega
    · obtain rfl : j = t.length := by omega
      go_wp2_with fail
      go_ret
      exact ⟨_, rfl, by have := HO.out; rwa [List.take_length] at this, hb⟩
end Go.Proofs.Ytbhdgeoljlhmcaa
