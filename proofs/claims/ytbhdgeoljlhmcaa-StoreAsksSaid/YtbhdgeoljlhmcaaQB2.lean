/- S6, S7 in one text. A buffer copied, by the program. -/
import Derived.Outline
import Derived.Test.YtbhdgeoljlhmcaaQB1
import Derived.Great.BuildSlice
/- The entries of a table in order, by the program. -/
namespace Go.Proofs.Ytbhdgeoljlhmcaa
open Go.RowKit Go.Proofs.Ytbhdgeoljlhmcaa.Nm Go.Proofs.Ytbhdgeoljlhmcaa.St
set_option linter.unusedSimpArgs false
theorem u30 : Try.prog.underlying 30 = some (.slice 91) := by kernel_rfl
theorem infoP : (Try.prog.info? 91).map (fun i => (i.zero, i.size, i.bytes)) = some (some (.agg (pair ⟨#[]⟩ 0)), 2, 24) := by kernel_rfl
theorem run_bs91 (w : World) (k : ByteArray) (v : Int) : (Instr.buildSlice 30 1 #[(0, .agg (pair k v))]).run Try.prog w = .ok (.slice (some ⟨w.heap.size, 0, none⟩) 1 1) (w.alloc (.cells (pair k v) 91)) := by kernel_rfl
theorem ex_bs91 {ev : Operand → Value} {o : Oper} {w : World} (x : Operand) (ho : o.op = .buildSlice 30 1 #[(0, x)]) {k : ByteArray} {v : Int} (hx : ev x = .agg (pair k v)) :
    (execOp ev o).run Try.prog w = .ok (.value (.slice (some ⟨w.heap.size, 0, none⟩) 1 1)) (w.alloc (.cells (pair k v) 91)) := by
  unfold execOp
  have := run_bs91 w k v
  simp [ho, hx, this, Result.andThen]
theorem wl_w {P : Program} {ops : Array Oper} {rest : List Oper} {o : Oper} {a : Act} {w w2 : World} {Q : Exit → Act → World → Prop} {v : Value} (hg : o.guard = none) (hx : (execOp a.eval o).run P w = .ok (.value v) w2)
    (h : wpList P ops Q rest (a.put o.dst v) w2) : wpList P ops Q (o :: rest) a w := by
  refine wpList_plain hg fun K hK => ?_
  unfold Oper.wp; rw [hx]; exact hK _ _ h
/-- entries as cells -/
def prow (l : List (ByteArray × Int)) : List Value := l.flatMap fun e => [.string e.1, .int .i64 e.2]
theorem prow_snoc (l : List (ByteArray × Int)) (k : ByteArray) (v : Int) : prow l ++ [.string k, .int .i64 v] = prow (l ++ [(k, v)]) := by simp [prow]
/-- One more entry behind a row of the call's own. -/
theorem wl_pushP {ops : Array Oper} {rest : List Oper} {a : Act} {w w0 : World} {Q : Exit → Act → World → Prop} {d1 d2 : Option Tmp} {ty1 ty2 : TypeId} {p1 p2 : String} {f1 f2 : Array Edge} {x s t : Operand} {sv : Value} {l : List (ByteArray × Int)} {k : ByteArray} {v : Int}
    (hx : a.eval x = .agg (pair k v)) (hown : w.ownsRow w0.heap.size 91 2 sv l.length (prow l)) (hb : Below w0.heap.size w0 w) (hk : l.length ≤ 1000000) (hs : ∀ u, (a.put d1 u).eval s = sv) (ht : ∀ u, (a.put d1 u).eval t = u)
    (h : ∀ v' w', w'.ownsRow w0.heap.size 91 2 v' (l ++ [(k, v)]).length (prow (l ++ [(k, v)])) → Below w0.heap.size w0 w' → (∀ q o, q < w.heap.size → some q ≠ sv.ownBlock → w.heap[q]? = some o → w'.heap[q]? = some o) → wpList Try.prog ops Q rest ((a.put d1 (.slice (some ⟨w.heap.size, 0, none⟩) 1 1)).put d2 v') w') :
    wpList Try.prog ops Q (⟨d1, .buildSlice 30 1 #[(0, x)], ty1, p1, f1, none⟩ :: ⟨d2, .call { callee := .builtin .append, args := #[s, t], argTypes := #[30, 30] }, ty2, p2, f2, none⟩ :: rest) a w := by
  obtain ⟨i0, hi, hz0, hz1, hz2⟩ := info_parts infoP
  refine wl_w rfl (ex_bs91 _ rfl hx) ?_
  refine wpList_append_own _ rfl s t 30 rfl w0.heap.size 91 i0 _ 2 24 u30 hi hz0 hz1 hz2 rfl (by decide) sv l.length (prow l) (hs _) (hown.alloc _) ⟨w.heap.size, 0, none⟩ 1 1 [.string k, .int .i64 v] (ht _) rfl ?_ ?_ ?_ ?_ ?_ ?_
  · intro j u hj
    rw [show (Addr.add ⟨w.heap.size, 0, none⟩ j) = ⟨w.heap.size, j, none⟩ by simp [Addr.add]; exact fun h => h.symm, cell_of_row _ _ _ _ _ _ (ha_new rfl)]
    simpa [pair] using hj
  · intro u hu
    simp at hu; rcases hu with rfl | rfl <;> rfl
  · unfold maxLen; omega
  · omega
  · have := hb.size; simp; omega
  · intro v' w4 hown' hgrow _
    rw [prow_snoc] at hown'
    refine h v' w4 (by simpa using hown') ((hb.alloc hb.size _).grown hgrow (by have := hb.size; simp; omega) (fun k hk => (hown.lt k hk).1)) (fun q o hq hne ho => ?_)
    rw [hgrow.block q (by simp; omega) hne]; exact ha_old ho
theorem own_same {w w' : World} {b n : Nat} {e : TypeId} {size : Nat} {v : Value} {xs : List Value} (h : w.ownsRow b e size v n xs) (hs : ∀ q, q < w.heap.size → v.ownBlock = some q → w'.heap[q]? = w.heap[q]?) : w'.ownsRow b e size v n xs := by
  refine ⟨h.1, ?_⟩
  rcases h.2 with h0 | ⟨g, cap, cur, hv, hB, hg, hr⟩
  · exact Or.inl h0
  · exact Or.inr ⟨g, cap, cur, hv, hB, by rw [hs g (heap_lt hg) (by rw [hv]; rfl)]; exact hg, hr⟩
theorem own_below {w w' : World} {b n : Nat} {e : TypeId} {size : Nat} {v : Value} {xs : List Value} (h : w.ownsRow b e size v n xs) (hb : Below w.heap.size w w') : w'.ownsRow b e size v n xs := own_same h (fun q hq _ => hb.block q hq)
theorem own_setRow {w : World} {b n p : Nat} {e : TypeId} {size : Nat} {v : Value} {xs : List Value} (h : w.ownsRow b e size v n xs) (hp : v.ownBlock ≠ some p) (cs : Array Value) : (w.setRow p cs).ownsRow b e size v n xs := own_same h (fun q _ hq => setRow_other w p q cs (fun e => hp (by rw [hq, e])))
/-- the entries of a table -/
def pairsT (t : Tab) : List (ByteArray × Int) := t.filterMap id
theorem pairsT_take {t : Tab} {i : Nat} (hi : i < t.length) : pairsT (t.take (i + 1)) = pairsT (t.take i) ++ (match pl t i with | none => [] | some x => [x]) := by
  unfold pairsT
  rw [List.take_succ_eq_append_getElem hi, List.filterMap_append]
  have : pl t i = t[i] := by unfold pl; rw [Nat.mod_eq_of_lt hi, List.getElem?_eq_getElem hi]; rfl
  rw [this]
  cases t[i] <;> simp
theorem pairsT_le (t : Tab) : (pairsT t).length ≤ t.length := List.length_filterMap_le _ _
/-- a slice value is a table -/
def VT (B : Nat) (w : World) (A : Option Addr) (cap : Nat) (t : Tab) : Prop := (t = [] ∧ A = none ∧ cap = 0) ∨ ∃ p, A = some ⟨p, 0, none⟩ ∧ B ≤ p ∧ 1 ≤ t.length ∧ PlAt w p cap t
theorem VT.below {B : Nat} {w w' : World} {A : Option Addr} {cap : Nat} {t : Tab} (h : VT B w A cap t) (hb : Below w.heap.size w w') : VT B w' A cap t := by
  rcases h with h | ⟨p, h1, h2, h3, h4⟩
  · exact Or.inl h
  · exact Or.inr ⟨p, h1, h2, h3, h4.below hb⟩
theorem ex_alloc95 {o : Oper} (ho : o.op = .alloc 95) (ev : Operand → Value) (w : World) : (execOp ev o).run Try.prog w = .ok (.value (.pointer (some ⟨w.heap.size, 0, none⟩))) (w.alloc (.cells (ecells none) 95)) := by
  unfold execOp
  simp only [ho]
  kernel_rfl
theorem extract3 {cur : Array Value} {o : Nat} {x y z : Value} (h1 : cur[o]? = some x) (h2 : cur[o + 1]? = some y) (h3 : cur[o + 2]? = some z) : cur.extract o (o + 3) = #[x, y, z] := by
  have l3 : o + 2 < cur.size := (Array.getElem?_eq_some_iff.1 h3).1
  apply Array.ext
  · simp; omega
  · intro i hi1 hi2
    simp at hi2
    rw [Array.getElem_extract]
    rcases (show i = 0 ∨ i = 1 ∨ i = 2 by omega) with rfl | rfl | rfl
    · simpa using (Array.getElem?_eq_some_iff.1 h1).2
    · simpa using (Array.getElem?_eq_some_iff.1 h2).2
    · simpa using (Array.getElem?_eq_some_iff.1 h3).2
theorem PlAt.row3 {w : World} {p cap i : Nat} {t : Tab} (h : PlAt w p cap t) (hi : i < t.length) : RowAt w 95 ⟨p, i * 3, none⟩ (ecells (pl t i)) := by
  obtain ⟨cur, h1, _, _, h2⟩ := h
  obtain ⟨ha, hb, hc⟩ := h2 i hi
  exact row_mid h1 (extract3 ha hb hc) u95 rfl rfl info95
theorem ecell0 {w : World} {b : Nat} {o : Option (ByteArray × Int)} {t : TypeId} {fr : Nat × Nat} (hb : w.heap[b]? = some (.cells (ecells o) t fr)) : w.cell? ⟨b, 0, none⟩ = some (.bool (eb o)) := by rw [cell_of_row _ _ _ _ _ _ hb]; rfl
theorem rowE1 {w : World} {b : Nat} {k : ByteArray} {v : Int} {t : TypeId} {fr : Nat × Nat} (hb : w.heap[b]? = some (.cells (ecells (some (k, v))) t fr)) : RowAt w 91 ⟨b, 1, none⟩ (pair k v) := row_mid hb (D := pair k v) (n := 2) rfl u91 rfl rfl info91
set_option maxHeartbeats 4000000 in
set_option maxRecDepth 100000 in
theorem pairs_any (g : Nat) (A : Option Addr) (cap : Nat) (t : Tab) (kd seed cnt : Int) (lv : Value) (hn2 : t.length ≤ 1000000) (w : World)
    (h0 : w.heap[g]? = some (.cells (bcells kd lv seed cnt (.slice A t.length cap)) 87 (0, 0))) {B : Nat} (hv : VT B w A cap t) :
    Calls Try.prog 59 #[.pointer (some ⟨g, 0, none⟩)] w fun e w' => ∃ sv, e = .returned sv ∧ w'.ownsRow w.heap.size 91 2 sv (pairsT t).length (prow (pairsT t)) ∧ Below w.heap.size w w' := by
  have HV := Lib.hid hv
  have b4 := (bc_cell h0).2.2.2.2
  clear hv
  go_enter Try.func59, Try.ntmps59
  go_wp2_with fail
  go_loopw [3, 11] (fun sv i wr => ∃ j : Nat, j ≤ t.length ∧ i = .int .i64 (j : Int) ∧ Hid (wr.ownsRow w.heap.size 91 2 sv (pairsT (t.take j)).length (prow (pairsT (t.take j)))) ∧ Below w.heap.size w wr) (fun _ i _ => (t.length - intOf i).toNat)
  case atStart => exact ⟨0, by omega, rfl, Lib.hid ⟨rfl, Or.inl ⟨rfl, rfl⟩⟩, Below.refl _ _⟩
  case round =>
    obtain ⟨j, hj, rfl, HO, hb⟩ := hrel
    by_cases hlt : j < t.length
    · obtain ⟨p, hA, hp⟩ : ∃ p, A = some ⟨p, 0, none⟩ ∧ PlAt wr p cap t := by
        rcases HV.out.below hb with h | h
        · rw [h.1] at hlt; simp at hlt
        · obtain ⟨p, h1, _, _, h2⟩ := h; exact ⟨p, h1, h2⟩
      have HP := Lib.hid hp
      have LP := hp.lt
      have LW0 := hb.size
      have HT := Lib.hid (pairsT_take hlt)
      clear hp
      subst hA
      go_upto_region 4 with (fail)
      apply wp_region_lit
      refine wl_k rfl (fun K hK => ?_); go_simp; refine hK _ ?_; clear hK K
      ((with_reducible apply wl_rowG); exact rfl; exact rfl; exact HP.out.row3 hlt)
      simp only [Zq]
      refine wl_new (fun ev w => ex_alloc95 rfl ev w) ?_
      intro W5 p5 hb5 hl5 h5
      replace HO := Lib.hid (own_setRow (own_below HO.out hb5) (p := p5) (fun e => by have := (HO.out.lt _ e).2; omega) (ecells (pl t j)))
      replace hb := hb.trans (hb5.mono hb.size)
      have HP5 := Lib.hid (HP.out.below hb5)
      have LW := hb.size
      clear HP hb5
      refine wl_putG p5 (ecells (pl t j)) rfl rfl 95 _ h5 info95 rfl (ecells_one _) ?_
      replace hb := below_setRow hb (g := p5) (by omega) (ecells (pl t j))
      have h5' := hr_new (cs := ecells (pl t j)) h5
      clear h5 HP5
      generalize W5.setRow p5 (ecells (pl t j)) = w5 at *
      cases hq : pl t j with
      | none =>
        rw [hq] at h5' HT
        have c0 := ecell0 h5'
        rw [show eb (none : Option (ByteArray × Int)) = false from rfl] at c0
        simp only [List.append_nil] at HT
        clear hq
        go_wp2_with fail
        go_roundw
        case rel => exact ⟨j + 1, by omega, by go_num, by rw [HT.out]; exact HO, hb⟩
        case measure => simp [intOf]; omega
      | some x =>
        obtain ⟨k, v⟩ := x
        rw [hq] at h5' HT
        have c0 := ecell0 h5'
        rw [show eb (some (k, v)) = true from rfl] at c0
        simp only at HT
        have hle := pairsT_le (t.take j)
        have hle2 : (t.take j).length ≤ j := List.length_take_le _ _
        clear hq
        go_upto_region 6 with (fail)
        apply wp_region_lit
        iterate 2 (refine wl_k rfl (fun K hK => ?_); go_simp; refine hK _ ?_; clear hK K)
        ((with_reducible apply wl_rowG); exact rfl; exact rfl; exact rowE1 h5')
        simp only [Zq]
        refine wl_pushP (k := k) (v := v) rfl HO.out hb (by omega) (fun _ => rfl) (fun _ => rfl) ?_
        intro v' w6 hown' hb6 _
        rw [← HT.out] at hown'
        clear HO hb h5' c0
        have HO := Lib.hid hown'
        have hb := hb6
        clear hown' hb6
        simp only [Zq]
        go_wp2_with fail
        go_roundw
        case rel => exact ⟨j + 1, by omega, by go_num, HO, hb⟩
        case measure => simp [intOf]; omega
    · obtain rfl : j = t.length := by omega
      go_wp2_with fail
      go_ret
      exact ⟨_, rfl, by have := HO.out; rwa [List.take_length] at this, hb⟩
theorem info9 : (Try.prog.info? 9).map (fun i => (i.zero, i.size, i.bytes)) = some (some (.string ⟨#[]⟩), 1, 16) := by kernel_rfl
theorem info95b : (Try.prog.info? 95).map (fun i => (i.zero, i.size, i.bytes)) = some (some (.agg (ecells none)), 3, 32) := by kernel_rfl
theorem run_bs85 (w : World) : (Instr.buildSlice 85 0 #[]).run Try.prog w = .ok (.slice (some ⟨w.heap.size, 0, none⟩) 0 0) (w.alloc (.cells #[] 95)) := by kernel_rfl
theorem run_bs29 (w : World) : (Instr.buildSlice 29 0 #[]).run Try.prog w = .ok (.slice (some ⟨w.heap.size, 0, none⟩) 0 0) (w.alloc (.cells #[] 9)) := by kernel_rfl
theorem ex_bs85 {ev : Operand → Value} {o : Oper} {w : World} (ho : o.op = .buildSlice 85 0 #[]) :
    (execOp ev o).run Try.prog w = .ok (.value (.slice (some ⟨w.heap.size, 0, none⟩) 0 0)) (w.alloc (.cells #[] 95)) := by
  unfold execOp
  have := run_bs85 w
  simp [ho, this, Result.andThen]
theorem ex_bs29 {ev : Operand → Value} {o : Oper} {w : World} (ho : o.op = .buildSlice 29 0 #[]) :
    (execOp ev o).run Try.prog w = .ok (.value (.slice (some ⟨w.heap.size, 0, none⟩) 0 0)) (w.alloc (.cells #[] 9)) := by
  unfold execOp
  have := run_bs29 w
  simp [ho, this, Result.andThen]
/-- texts as cells -/
def strs (l : List ByteArray) : List Value := l.map .string
theorem strs_length (l : List ByteArray) : (strs l).length = l.length := by simp [strs]
theorem own_empty (w : World) (e : TypeId) (size : Nat) : (w.alloc (.cells #[] e)).ownsRow w.heap.size e size (.slice (some ⟨w.heap.size, 0, none⟩) 0 0) 0 [] :=
  ⟨by simp, Or.inr ⟨w.heap.size, 0, #[], rfl, Nat.le_refl _, ha_new rfl, Nat.le_refl _, by unfold maxLen; omega, by simp, by simp⟩⟩
/-- a table as cells -/
def tcells : Tab → List Value
  | [] => []
  | o :: t => .bool (eb o) :: .string (ek o) :: .int .i64 (ev o) :: tcells t
theorem tcells_length (t : Tab) : (tcells t).length = t.length * 3 := by
  induction t with
  | nil => rfl
  | cons o t ih => simp only [tcells, List.length_cons, ih]; omega
theorem tcells_get {t : Tab} {i : Nat} {o : Option (ByteArray × Int)} (h : t[i]? = some o) : (tcells t)[i * 3]? = some (.bool (eb o)) ∧ (tcells t)[i * 3 + 1]? = some (.string (ek o)) ∧ (tcells t)[i * 3 + 2]? = some (.int .i64 (ev o)) := by
  induction t generalizing i with
  | nil => simp at h
  | cons x t ih =>
    rcases i with _ | i
    · simp at h; subst h; exact ⟨rfl, rfl, rfl⟩
    · have := ih (i := i) (by simpa using h)
      rw [show (i + 1) * 3 = i * 3 + 1 + 1 + 1 by omega]
      simp only [tcells, List.getElem?_cons_succ]
      exact this
theorem pl_get {t : Tab} {i : Nat} (hi : i < t.length) : t[i]? = some (pl t i) := by
  unfold pl; rw [Nat.mod_eq_of_lt hi, List.getElem?_eq_getElem hi]; rfl
theorem tcells_one (t : Tab) : ∀ u ∈ tcells t, u.oneCell' = true := by
  induction t with
  | nil => intro u hu; simp [tcells] at hu
  | cons o t ih =>
    intro u hu
    simp only [tcells, List.mem_cons] at hu
    rcases hu with rfl | rfl | rfl | hu
    · rfl
    · rfl
    · rfl
    · exact ih u hu
theorem PlAt.cells {w : World} {p cap : Nat} {t : Tab} (h : PlAt w p cap t) : ∀ j u, (tcells t)[j]? = some u → w.cell? ((⟨p, 0, none⟩ : Addr).add j) = some u := by
  intro j u hj
  have hl : j < t.length * 3 := by have := (List.getElem?_eq_some_iff.1 hj).1; rwa [tcells_length] at this
  obtain ⟨c0, c1, c2⟩ := h.cell (i := j / 3) (by omega)
  obtain ⟨g0, g1, g2⟩ := tcells_get (pl_get (t := t) (i := j / 3) (by omega))
  rw [show ((⟨p, 0, none⟩ : Addr).add j) = ⟨p, j, none⟩ by rw [Addr.add_mid]; simp]
  rcases (show j = j / 3 * 3 ∨ j = j / 3 * 3 + 1 ∨ j = j / 3 * 3 + 2 by omega) with e | e | e
  · rw [← e] at c0 g0; rw [c0, ← g0, hj]
  · rw [← e] at c1 g1; rw [c1, ← g1, hj]
  · rw [← e] at c2 g2; rw [c2, ← g2, hj]
theorem own_pl {w : World} {B : Nat} {sv : Value} {t : Tab} (h : w.ownsRow B 95 3 sv t.length (tcells t)) (hn : 1 ≤ t.length) : ∃ p cap, sv = .slice (some ⟨p, 0, none⟩) t.length cap ∧ B ≤ p ∧ PlAt w p cap t := by
  rcases h.2 with ⟨_, h0⟩ | ⟨p, cap, cur, hv, hB, hg, h1, h2, h3, h4⟩
  · omega
  · refine ⟨p, cap, hv, hB, cur, hg, h3, h1, fun i hi => ?_⟩
    obtain ⟨g0, g1, g2⟩ := tcells_get (pl_get (t := t) hi)
    have key : ∀ q u, (tcells t)[q]? = some u → q < t.length * 3 → cur[q]? = some u := fun q u hq hl => by
      rw [← h4, List.getElem?_take_of_lt hl] at hq; simpa using hq
    exact ⟨key _ _ g0 (by omega), key _ _ g1 (by omega), key _ _ g2 (by omega)⟩
/-- a copy behind an empty row -/
theorem wl_cloneP {ops : Array Oper} {rest : List Oper} {a : Act} {w : World} {Q : Exit → Act → World → Prop} {d0 d1 d2 : Option Tmp} {ty0 ty1 ty2 : TypeId} {p0 p1 p2 : String} {f0 f1 f2 : Array Edge} {x s t : Operand} {p n cap : Nat} {tb : Tab} (hn : n = tb.length)
    (hs : ∀ v u, ((a.put d0 v).put d1 u).eval s = v) (hx : ∀ v, (a.put d0 v).eval x = .slice (some ⟨p, 0, none⟩) n cap) (ht : ∀ v u, ((a.put d0 v).put d1 u).eval t = u) (hp : PlAt w p cap tb) (hk : tb.length ≤ 1000000)
    (h : ∀ v' w', w'.ownsRow w.heap.size 95 3 v' tb.length (tcells tb) → Below w.heap.size w w' → wpList Try.prog ops Q rest (((a.put d0 (.slice (some ⟨w.heap.size, 0, none⟩) 0 0)).put d1 (.slice (some ⟨p, 0, none⟩) n cap)).put d2 v') w') :
    wpList Try.prog ops Q (⟨d0, .buildSlice 85 0 #[], ty0, p0, f0, none⟩ :: ⟨d1, .move x, ty1, p1, f1, none⟩ :: ⟨d2, .call { callee := .builtin .append, args := #[s, t], argTypes := #[85, 85] }, ty2, p2, f2, none⟩ :: rest) a w := by
  obtain ⟨i0, hi, hz0, hz1, hz2⟩ := info_parts info95b
  refine wl_w rfl (ex_bs85 rfl) ?_
  refine wl_w (w2 := w.alloc (.cells #[] 95)) (v := .slice (some ⟨p, 0, none⟩) n cap) rfl (by unfold execOp; simp [hx]) ?_
  refine wpList_append_own _ rfl s t 85 rfl w.heap.size 95 i0 _ 3 32 u85 hi hz0 hz1 hz2 rfl (by decide) _ 0 [] (hs _ _) (own_empty _ _ _) ⟨p, 0, none⟩ n cap (tcells tb) (ht _ _) (by rw [hn]; exact tcells_length _) ?_ (tcells_one _) ?_ ?_ ?_ ?_
  · exact (hp.below (Below.refl _ _ |>.alloc (Nat.le_refl _) _)).cells
  · unfold maxLen; omega
  · omega
  · simp
  · intro v' w4 hown' hgrow _
    simp only [List.nil_append, Nat.zero_add, hn] at hown'
    exact h v' w4 hown' (((Below.refl _ _).alloc (Nat.le_refl _) _).grown hgrow (by simp) (fun k hk => by cases hk; exact Nat.le_refl _))
/-- a list of texts: nil, or a row of cells at an address -/
def StrAt (w : World) (A : Option Addr) (n cap : Nat) (l : List ByteArray) : Prop := l.length = n ∧ ((A = none ∧ n = 0 ∧ cap = 0) ∨ ∃ ad, A = some ad ∧ ∀ j u, (strs l)[j]? = some u → w.cell? (ad.add j) = some u)
theorem cell_ltG {w : World} {a : Addr} {v : Value} (h : w.cell? a = some v) : a.block < w.heap.size := by
  apply Classical.byContradiction
  intro hn
  simp [World.cell?, Array.getElem?_eq_none (Nat.le_of_not_lt hn)] at h
theorem strs_one (l : List ByteArray) : ∀ u ∈ strs l, u.oneCell' = true := by
  intro u hu; simp [strs] at hu; obtain ⟨x, _, rfl⟩ := hu; rfl
theorem StrAt.below {w w' : World} {A : Option Addr} {n cap : Nat} {l : List ByteArray} (h : StrAt w A n cap l) (hb : Below w.heap.size w w') : StrAt w' A n cap l := by
  refine ⟨h.1, ?_⟩
  rcases h.2 with h | ⟨ad, h1, h2⟩
  · exact Or.inl h
  · exact Or.inr ⟨ad, h1, fun j u hj => by rw [hb.cell (cell_ltG (h2 j u hj))]; exact h2 j u hj⟩
/-- a copy of texts behind an empty row -/
theorem wl_cloneS {ops : Array Oper} {rest : List Oper} {a : Act} {w : World} {Q : Exit → Act → World → Prop} {d0 d1 d2 : Option Tmp} {ty0 ty1 ty2 : TypeId} {p0 p1 p2 : String} {f0 f1 f2 : Array Edge} {x s t : Operand} {ad : Addr} {n cap : Nat} {l : List ByteArray} (hn : l.length = n)
    (hs : ∀ v u, ((a.put d0 v).put d1 u).eval s = v) (hx : ∀ v, (a.put d0 v).eval x = .slice (some ad) n cap) (ht : ∀ v u, ((a.put d0 v).put d1 u).eval t = u) (hp : ∀ j u, (strs l)[j]? = some u → w.cell? (ad.add j) = some u) (hk : n ≤ 1000000)
    (h : ∀ v' w', w'.ownsRow w.heap.size 9 1 v' n (strs l) → Below w.heap.size w w' → wpList Try.prog ops Q rest (((a.put d0 (.slice (some ⟨w.heap.size, 0, none⟩) 0 0)).put d1 (.slice (some ad) n cap)).put d2 v') w') :
    wpList Try.prog ops Q (⟨d0, .buildSlice 29 0 #[], ty0, p0, f0, none⟩ :: ⟨d1, .move x, ty1, p1, f1, none⟩ :: ⟨d2, .call { callee := .builtin .append, args := #[s, t], argTypes := #[29, 29] }, ty2, p2, f2, none⟩ :: rest) a w := by
  obtain ⟨i0, hi, hz0, hz1, hz2⟩ := info_parts info9
  refine wl_w rfl (ex_bs29 rfl) ?_
  refine wl_w (w2 := w.alloc (.cells #[] 9)) (v := .slice (some ad) n cap) rfl (by unfold execOp; simp [hx]) ?_
  refine wpList_append_own _ rfl s t 29 rfl w.heap.size 9 i0 _ 1 16 u29 hi hz0 hz1 hz2 rfl (by decide) _ 0 [] (hs _ _) (own_empty _ _ _) ad n cap (strs l) (ht _ _) (by rw [strs_length]; omega) ?_ (strs_one _) ?_ ?_ ?_ ?_
  · exact fun j u hj => by rw [((Below.refl w.heap.size w).alloc (Nat.le_refl _) _).cell (cell_ltG (hp j u hj))]; exact hp j u hj
  · unfold maxLen; omega
  · omega
  · simp
  · intro v' w4 hown' hgrow _
    simp only [List.nil_append, Nat.zero_add] at hown'
    exact h v' w4 hown' (((Below.refl _ _).alloc (Nat.le_refl _) _).grown hgrow (by simp) (fun k hk => by cases hk; exact Nat.le_refl _))
set_option maxHeartbeats 2000000 in
set_option maxRecDepth 100000 in
theorem CloneP_any2 (A : Option Addr) (cap : Nat) (t : Tab) (hn2 : t.length ≤ 1000000) (w : World) {B : Nat} (hv : VT B w A cap t) :
    Calls Try.prog 78 #[.slice A t.length cap] w fun e w' => ∃ v', e = .returned v' ∧ (w'.ownsRow w.heap.size 95 3 v' t.length (tcells t) ∧ (t = [] → v' = .slice none 0 0)) ∧ Below w.heap.size w w' := by
  rcases hv with ⟨rfl, rfl, rfl⟩ | ⟨p, rfl, _, hn1, hp⟩
  · go_enter Try.func78, Try.ntmps78
    have H := fun w => Lib.run_eql_slice_nil (P := Try.prog) w 85 95 none 0 0 0 0 u85
    go_wp2_with fail
    go_ret
    exact ⟨_, rfl, ⟨⟨rfl, Or.inl ⟨rfl, rfl⟩⟩, fun _ => rfl⟩, Below.refl _ _⟩
  · have HP := Lib.hid hp
    have H := fun w => Lib.run_eql_slice_nil (P := Try.prog) w 85 95 (some ⟨p, 0, none⟩) t.length cap 0 0 u85
    clear hp
    go_enter Try.func78, Try.ntmps78
    go_upto_region 3 with (fail)
    apply wp_region_lit
    refine wl_cloneP rfl (fun _ _ => rfl) (fun _ => rfl) (fun _ _ => rfl) HP.out hn2 ?_
    intro v' w' ho hb
    have HO := Lib.hid ho
    clear ho HP
    simp only [Zq]
    go_wp2_with fail
    go_ret
    exact ⟨_, rfl, ⟨HO.out, fun h => absurd h (by intro e; subst e; simp at hn1)⟩, hb⟩
theorem CloneP_any (A : Option Addr) (cap : Nat) (t : Tab) (hn2 : t.length ≤ 1000000) (w : World) {B : Nat} (hv : VT B w A cap t) :
    Calls Try.prog 78 #[.slice A t.length cap] w fun e w' => ∃ v', e = .returned v' ∧ w'.ownsRow w.heap.size 95 3 v' t.length (tcells t) ∧ Below w.heap.size w w' :=
  (CloneP_any2 A cap t hn2 w hv).mono fun _ _ ⟨v', h1, h2, h3⟩ => ⟨v', h1, h2.1, h3⟩
set_option maxHeartbeats 2000000 in
set_option maxRecDepth 100000 in
theorem CloneS_any (A : Option Addr) (n cap : Nat) (l : List ByteArray) (hn2 : n ≤ 1000000) (w : World) (hv : StrAt w A n cap l) :
    Calls Try.prog 54 #[.slice A n cap] w fun e w' => ∃ v', e = .returned v' ∧ w'.ownsRow w.heap.size 9 1 v' n (strs l) ∧ Below w.heap.size w w' := by
  obtain ⟨hl, hv⟩ := hv
  rcases hv with ⟨rfl, rfl, rfl⟩ | ⟨ad, rfl, hp⟩
  · obtain rfl := List.length_eq_zero_iff.1 hl
    go_enter Try.func54, Try.ntmps54
    have H := fun w => Lib.run_eql_slice_nil (P := Try.prog) w 29 9 none 0 0 0 0 u29
    go_wp2_with fail
    go_ret
    exact ⟨_, rfl, ⟨rfl, Or.inl ⟨rfl, rfl⟩⟩, Below.refl _ _⟩
  · have HP := Lib.hid hp
    have H := fun w => Lib.run_eql_slice_nil (P := Try.prog) w 29 9 (some ad) n cap 0 0 u29
    clear hp
    go_enter Try.func54, Try.ntmps54
    go_upto_region 3 with (fail)
    apply wp_region_lit
    refine wl_cloneS hl (fun _ _ => rfl) (fun _ => rfl) (fun _ _ => rfl) HP.out hn2 ?_
    intro v' w' ho hb
    have HO := Lib.hid ho
    clear ho HP
    simp only [Zq]
    go_wp2_with fail
    go_ret
    exact ⟨_, rfl, HO.out, hb⟩
theorem run_storeC (b o : Nat) (ty : TypeId) (v : Value) (w : World) (hi : (Try.prog.info? ty).map (·.size) = some 1) (h1 : v.oneCell' = true) (hc : (w.cell? ⟨b, o, none⟩).isSome = true) (hf : w.frozen? ⟨b, o, none⟩ = false) :
    (storeVar ty ⟨b, o, none⟩ v).run Try.prog w = .ok () (w.setCell ⟨b, o, none⟩ v) := by
  have hst := run_storeCells_cells (P := Try.prog) b o [v] 0 w (by intro j hj; simp at hj; subst hj; simpa using hc) (by intro j hj; simp at hj; subst hj; simpa using hf) (by intro u hu; simp at hu; subst hu; exact h1)
  have hcl : v.cells = #[v] := by cases v <;> first | rfl | cases h1
  cases hq : Try.prog.info? ty with
  | none => simp [hq] at hi
  | some i =>
    have hs : i.size = 1 := by simpa [hq] using hi
    simp [storeVar, sizeOf, typeInfo, hq, hcl, hs]
    exact (by simpa using hst : _ = Result.ok () (w.setCells b o [v]))
theorem wp_storeC {op : Oper} {a : Act} {w : World} {K : Act → World → Prop} {Q : Exit → Act → World → Prop} (ty : TypeId) (x y : Operand) (ho : op.op = .store ty x y) (b o : Nat) (v : Value)
    (hx : a.eval x = .pointer (some ⟨b, o, none⟩)) (hy : a.eval y = v) (hi : (Try.prog.info? ty).map (·.size) = some 1) (h1 : v.oneCell' = true) (hc : (w.cell? ⟨b, o, none⟩).isSome = true) (hf : w.frozen? ⟨b, o, none⟩ = false)
    (h : K (a.put op.dst undef) (w.setCell ⟨b, o, none⟩ v)) : op.wp Try.prog a w K Q := by
  unfold Oper.wp execOp
  simp only [ho, hx, hy, Instr.storeAt, Instr.sureAddr, Sem.run_bind, Sem.run_pure, Result.andThen_ok, run_storeC b o ty v w hi h1 hc hf]
  exact h
theorem wl_storeC {ops : Array Oper} {rest : List Oper} {op : Oper} {a : Act} {w : World} {Q : Exit → Act → World → Prop} (hg : op.guard = none) (ty : TypeId) (x y : Operand) (ho : op.op = .store ty x y) (b o : Nat) (v : Value)
    (hx : a.eval x = .pointer (some ⟨b, o, none⟩)) (hy : a.eval y = v) (hi : (Try.prog.info? ty).map (·.size) = some 1) (h1 : v.oneCell' = true) (hc : (w.cell? ⟨b, o, none⟩).isSome = true) (hf : w.frozen? ⟨b, o, none⟩ = false)
    (h : wpList Try.prog ops Q rest (a.put op.dst undef) (w.setCell ⟨b, o, none⟩ v)) : wpList Try.prog ops Q (op :: rest) a w :=
  wpList_plain hg fun _ hK => wp_storeC ty x y ho b o v hx hy hi h1 hc hf (hK _ _ h)
section
variable {ops : Array Oper} {Q : Exit → Act → World → Prop} {md : Region.Mode} {S : World → Prop} {i : Nat} {oi : Oper} {fuel : Nat} {listed : Array Bool} {a : Act} {w : World}
theorem ha_storeC (hr : Region.ready md ops listed = [i]) (ho : ops[i]? = some oi) (hg : Region.wanted oi (yielded ops a.tmps) = true) (ty : TypeId) (x y : Operand) (hop : oi.op = .store ty x y) (b o : Nat) (v : Value)
    (hx : a.eval x = .pointer (some ⟨b, o, none⟩)) (hy : a.eval y = v) (hi : (Try.prog.info? ty).map (·.size) = some 1) (h1 : v.oneCell' = true) (hc : (w.cell? ⟨b, o, none⟩).isSome = true) (hf : w.frozen? ⟨b, o, none⟩ = false) (hS : S (w.setCell ⟨b, o, none⟩ v))
    (h : S (w.setCell ⟨b, o, none⟩ v) → wpAnyH Try.prog md ops Q S fuel (listed.setIfInBounds i true) (a.put oi.dst undef) (w.setCell ⟨b, o, none⟩ v)) : wpAnyH Try.prog md ops Q S (fuel + 1) listed a w := by
  refine wpAnyH_ready (rs := [i]) hr (by simp) (AllReadyH.cons ho (fun K hK => ?_) AllReadyH.nil)
  rw [if_pos hg]
  exact wp_storeC ty x y hop b o v hx hy hi h1 hc hf (hK.out _ _ hS h)
end
theorem info29 : (Try.prog.info? 29).map (·.size) = some 1 := by kernel_rfl
theorem info85 : (Try.prog.info? 85).map (·.size) = some 1 := by kernel_rfl
theorem info87 : (Try.prog.info? 87).map (·.size) = some 5 := by kernel_rfl
theorem u87 : Try.prog.underlying 87 = some (.struct (Try.prog.fieldsOf 87)) := by kernel_rfl
theorem ex_alloc87 {o : Oper} (ho : o.op = .alloc 87) (ev : Operand → Value) (w : World) : (execOp ev o).run Try.prog w = .ok (.value (.pointer (some ⟨w.heap.size, 0, none⟩))) (w.alloc (.cells (bcells 0 (.slice none 0 0) 0 0 (.slice none 0 0)) 87)) := by
  unfold execOp
  simp only [ho]
  kernel_rfl
theorem bcells_set1 (kd : Int) (lv : Value) (seed cnt : Int) (pv v : Value) : (bcells kd lv seed cnt pv).setIfInBounds 1 v = bcells kd v seed cnt pv := rfl
theorem bcells_set4 (kd : Int) (lv : Value) (seed cnt : Int) (pv v : Value) : (bcells kd lv seed cnt pv).setIfInBounds 4 v = bcells kd lv seed cnt v := rfl
theorem rowB {w : World} {g : Nat} {kd seed cnt : Int} {lv pv : Value} (h : w.heap[g]? = some (.cells (bcells kd lv seed cnt pv) 87 (0, 0))) : RowAt w 87 ⟨g, 0, none⟩ (bcells kd lv seed cnt pv) := row_mid h (D := bcells kd lv seed cnt pv) (n := 5) rfl u87 rfl rfl info87
theorem own_weak {w : World} {b b' n : Nat} {e : TypeId} {size : Nat} {v : Value} {xs : List Value} (h : w.ownsRow b e size v n xs) (hb : b' ≤ b) : w.ownsRow b' e size v n xs := by
  refine ⟨h.1, ?_⟩
  rcases h.2 with h0 | ⟨g, cap, cur, hv, hB, hr⟩
  · exact Or.inl h0
  · exact Or.inr ⟨g, cap, cur, hv, Nat.le_trans hb hB, hr⟩
theorem own_one {w : World} {b n : Nat} {e : TypeId} {size : Nat} {v : Value} {xs : List Value} (h : w.ownsRow b e size v n xs) : v.oneCell' = true := by
  rcases h.2 with ⟨rfl, _⟩ | ⟨g, cap, cur, rfl, _⟩ <;> rfl
theorem bcells_one (kd : Int) (A : Option Addr) (n cap : Nat) (seed cnt : Int) (A2 : Option Addr) (n2 cap2 : Nat) : (bcells kd (.slice A n cap) seed cnt (.slice A2 n2 cap2)).all (·.oneCell') = true := by simp [bcells, Value.oneCell']
set_option maxHeartbeats 2000000 in
set_option maxRecDepth 100000 in
theorem copied_any (g : Nat) (kd seed cnt : Int) (A : Option Addr) (n cap : Nat) (l : List ByteArray) (A2 : Option Addr) (cap2 : Nat) (t : Tab) (hn : n ≤ 1000000) (hn2 : t.length ≤ 1000000) (w : World)
    (h0 : w.heap[g]? = some (.cells (bcells kd (.slice A n cap) seed cnt (.slice A2 t.length cap2)) 87 (0, 0))) (hl : StrAt w A n cap l) {B : Nat} (hv : VT B w A2 cap2 t) :
    Calls Try.prog 71 #[.pointer (some ⟨g, 0, none⟩)] w fun e w' => ∃ g' lv pv, w.heap.size ≤ g' ∧ e = .returned (.pointer (some ⟨g', 0, none⟩)) ∧ w'.heap[g']? = some (.cells (bcells kd lv seed cnt pv) 87 (0, 0)) ∧
      w'.ownsRow w.heap.size 9 1 lv n (strs l) ∧ (w'.ownsRow w.heap.size 95 3 pv t.length (tcells t) ∧ (t = [] → pv = .slice none 0 0)) ∧ Below w.heap.size w w' := by
  have HL := Lib.hid hl
  have HV := Lib.hid hv
  have LG := heap_lt h0
  clear hl hv
  go_enter Try.func71, Try.ntmps71
  go_upto_region 1 with (fail)
  apply wp_region_lit
  iterate 2 (refine wl_k rfl (fun K hK => ?_); go_simp; refine hK _ ?_; clear hK K)
  ((with_reducible apply wl_rowG); exact rfl; exact rfl; exact rowB h0)
  simp only [Zq]
  refine wl_new (fun ev w => ex_alloc87 rfl ev w) ?_
  intro W p hb hl2 hp
  have LW := hb.size
  refine wl_putG p (bcells kd (.slice A n cap) seed cnt (.slice A2 t.length cap2)) rfl rfl 87 _ hp info87 rfl (bcells_one _ _ _ _ _ _ _ _ _) ?_
  replace hp := hr_new (cs := bcells kd (.slice A n cap) seed cnt (.slice A2 t.length cap2)) hp
  replace hb := below_setRow hb (g := p) (by omega) (bcells kd (.slice A n cap) seed cnt (.slice A2 t.length cap2))
  generalize W.setRow p (bcells kd (.slice A n cap) seed cnt (.slice A2 t.length cap2)) = W2 at *
  have h1 := below_look hb h0
  have HL1 := Lib.hid (HL.out.below hb)
  have HV1 := Lib.hid (HV.out.below hb)
  have LP := heap_lt hp
  clear HL HV h0
  have b1 := (bc_cell h1).2.1
  have b4 := (bc_cell h1).2.2.2.2
  replace HL1 := Lib.hid (HL1.out.below (Below.refl _ W2).drew)
  replace HV1 := Lib.hid (HV1.out.below (Below.refl _ W2).drew)
  have hgp : g ≠ p := by omega
  go_upto_region 2 with (fail)
  refine wp_region_held_drew (S := Kept [p] W2) mixed (Kept.drew [p] W2) (fun hS => ?_)
  refine hk3 (i := 0) rfl (by kernel_rfl) Zh hS rfl (fun K hK => ?_); go_simp; refine hK _ ?_; clear hK K; try simp only [Zq]
  refine hk3 (i := 1) rfl (by kernel_rfl) Zh hS rfl (fun K hK => ?_); go_simp; refine hK _ ?_; clear hK K; try simp only [Zq]
  refine hk3 (i := 2) rfl (by kernel_rfl) Zh hS rfl (fun K hK => ?_); go_simp; refine hK _ ?_; clear hK K; try simp only [Zq]
  refine hv3 (i := 3) rfl (by kernel_rfl) Zg hS rfl (fun w' hw' => ex_one rfl (one29 (hw'.cell b1 (by simp <;> omega)))) ?_; try simp only [Zq]
  refine hk3 (i := 5) rfl (by kernel_rfl) Zh hS rfl (fun K hK => ?_); go_simp; refine hK _ ?_; clear hK K; try simp only [Zq]
  refine hk3 (i := 6) rfl (by kernel_rfl) Zh hS rfl (fun K hK => ?_); go_simp; refine hK _ ?_; clear hK K; try simp only [Zq]
  refine hk3 (i := 7) rfl (by kernel_rfl) Zh hS rfl (fun K hK => ?_); go_simp; refine hK _ ?_; clear hK K; try simp only [Zq]
  refine hv3 (i := 8) rfl (by kernel_rfl) Zg hS rfl (fun w' hw' => ex_one rfl (one85 (hw'.cell b4 (by simp <;> omega)))) ?_; try simp only [Zq]
  refine ha_call (i := 4) (by kernel_rfl) rfl rfl (fun K hK => ?_); go_simp; refine ⟨_, _, ⟨rfl, rfl⟩, hK _ _ ⟨_, CloneS_any A n cap l hn _ HL1.out, ?_⟩⟩; clear hK K; rintro e w1 ⟨lv, rfl, ho1, hb1⟩; refine ⟨_, rfl, hS.below hb1, ?_⟩; replace hS := hS.below hb1; (replace hp := below_look hb1 hp; replace HV1 := Lib.hid (HV1.out.below hb1); have HO1 := Lib.hid ho1; have L1 := hb1.size; clear ho1 hb1); try simp only [Zq]
  refine ha_call (i := 9) (by kernel_rfl) rfl rfl (fun K hK => ?_); go_simp; refine ⟨_, _, ⟨rfl, rfl⟩, hK _ _ ⟨_, CloneP_any2 A2 cap2 t hn2 _ HV1.out, ?_⟩⟩; clear hK K; rintro e w2 ⟨pv, rfl, ⟨ho2, hnil⟩, hb1⟩; refine ⟨_, rfl, hS.below hb1, ?_⟩; replace hS := hS.below hb1; (have HN := Lib.hid hnil; clear hnil; replace hp := below_look hb1 hp; replace HO1 := Lib.hid (own_below HO1.out hb1); have HO2 := Lib.hid ho2; have L2 := hb1.size; clear ho2 hb1); try simp only [Zq]
  refine hk3 (i := 10) rfl (by kernel_rfl) Zh hS rfl (fun K hK => ?_); go_simp; refine hK _ ?_; clear hK K; try simp only [Zq]
  refine ha_storeC (i := 11) (by kernel_rfl) rfl rfl 29 _ _ rfl p 1 lv rfl rfl info29 (own_one HO1.out) (by rw [(bc_cell hp).2.1]; rfl) (frozen_of_row _ _ _ _ _ hp) (hS.setCell (by simp) 1 lv) (fun hS => ?_); try simp only [Zq]
  have LD : W2.drew.heap.size = W2.heap.size := rfl
  have LP2 := heap_lt hp
  replace HO1 := Lib.hid (own_same HO1.out (w' := w2.setCell ⟨p, 1, none⟩ lv) (fun q _ hq => heap_setCell_other w2 ⟨p, 1, none⟩ q lv (fun e => by have h8 := (HO1.out.lt q hq).1; have h9 : q = p := e; clear e; omega)))
  replace HO2 := Lib.hid (own_same HO2.out (w' := w2.setCell ⟨p, 1, none⟩ lv) (fun q _ hq => heap_setCell_other w2 ⟨p, 1, none⟩ q lv (fun e => by have h8 := (HO2.out.lt q hq).1; have h9 : q = p := e; clear e; omega)))
  replace hp := (hs_new hp (i := 1) (v := lv)).trans (by rw [bcells_set1])
  generalize w2.setCell ⟨p, 1, none⟩ lv = w3 at *
  refine hk3 (i := 12) rfl (by kernel_rfl) Zh hS rfl (fun K hK => ?_); go_simp; refine hK _ ?_; clear hK K; try simp only [Zq]
  refine ha_storeC (i := 13) (by kernel_rfl) rfl rfl 85 _ _ rfl p 4 pv rfl rfl info85 (own_one HO2.out) (by rw [(bc_cell hp).2.2.2.2]; rfl) (frozen_of_row _ _ _ _ _ hp) (hS.setCell (by simp) 4 pv) (fun hS => ?_); try simp only [Zq]
  replace HO1 := Lib.hid (own_same HO1.out (w' := w3.setCell ⟨p, 4, none⟩ pv) (fun q _ hq => heap_setCell_other w3 ⟨p, 4, none⟩ q pv (fun e => by have h8 := (HO1.out.lt q hq).1; have h9 : q = p := e; clear e; omega)))
  replace HO2 := Lib.hid (own_same HO2.out (w' := w3.setCell ⟨p, 4, none⟩ pv) (fun q _ hq => heap_setCell_other w3 ⟨p, 4, none⟩ q pv (fun e => by have h8 := (HO2.out.lt q hq).1; have h9 : q = p := e; clear e; omega)))
  replace hp := (hs_new hp (i := 4) (v := pv)).trans (by rw [bcells_set4])
  generalize w3.setCell ⟨p, 4, none⟩ pv = w4 at *
  refine wpAnyH_done (by kernel_rfl) ?_ _
  have hb4 : Below w.heap.size w w4 := hb.trans (hS.toBelow (by have := hb.size; omega) (by simp; omega))
  clear h1 b1 b4 HL1 HV1
  go_wp2_with fail
  go_ret
  exact ⟨p, lv, pv, hl2, rfl, hp, own_weak HO1.out (by omega), ⟨own_weak HO2.out (by omega), HN.out⟩, hb4⟩
end Go.Proofs.Ytbhdgeoljlhmcaa
