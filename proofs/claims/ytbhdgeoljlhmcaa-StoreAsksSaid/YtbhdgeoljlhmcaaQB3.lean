/- An entry put into a table that grows, by the program. -/
import Derived.Outline
import Derived.Maps.AppendAt
import Derived.Test.YtbhdgeoljlhmcaaQB2
import Derived.Test.YtbhdgeoljlhmcaaQB1
namespace Go.Proofs.Ytbhdgeoljlhmcaa
open Go.RowKit Go.Proofs.Ytbhdgeoljlhmcaa.Nm Go.Proofs.Ytbhdgeoljlhmcaa.St
set_option linter.unusedSimpArgs false
theorem tcells_append (a b : Tab) : tcells a ++ tcells b = tcells (a ++ b) := by
  induction a with
  | nil => rfl
  | cons o a ih => simp only [tcells, List.cons_append, ih]
theorem PlAt.own {w : World} {p cap B : Nat} {t : Tab} (h : PlAt w p cap t) (hc : cap ≤ maxLen) (hB : B ≤ p) : w.ownsRow B 95 3 (.slice (some ⟨p, 0, none⟩) t.length cap) t.length (tcells t) := by
  refine ⟨tcells_length t, Or.inr ⟨p, cap, ?_⟩⟩
  obtain ⟨cur, h1, h2, h3, h4⟩ := h
  refine ⟨cur, rfl, hB, h1, h3, hc, h2, ?_⟩
  apply List.ext_getElem?
  intro j
  by_cases hj : j < t.length * 3
  · rw [List.getElem?_take_of_lt hj, Array.getElem?_toList]
    obtain ⟨c0, c1, c2⟩ := h4 (j / 3) (by omega)
    obtain ⟨g0, g1, g2⟩ := tcells_get (pl_get (t := t) (i := j / 3) (by omega))
    rcases (show j = j / 3 * 3 ∨ j = j / 3 * 3 + 1 ∨ j = j / 3 * 3 + 2 by omega) with e | e | e
    · rw [← e] at c0 g0; rw [c0, g0]
    · rw [← e] at c1 g1; rw [c1, g1]
    · rw [← e] at c2 g2; rw [c2, g2]
  · rw [List.getElem?_eq_none (by simp; omega), List.getElem?_eq_none (by rw [tcells_length]; omega)]
theorem Nm.Kept.grown {D : List Nat} {p : Nat} {W w w' : World} (h : Kept D W w) (hg : w.grownBy w' (some p)) (hm : p ∈ D) : Kept D W w' :=
  ⟨Nat.le_trans h.1 hg.size, fun k hk hp => by rw [hg.block k (by have := h.1; omega) (fun e => hp (by cases e; exact hm))]; exact h.2 k hk hp, hg.os.trans h.os, hg.tape.trans h.tape, hg.output.trans h.output⟩
theorem Nm.Kept.also {D D' : List Nat} {W w w' : World} (h : Kept D W w) (h2 : Kept D' w w') (hd : ∀ k, k ∈ D' → k ∈ D ∨ W.heap.size ≤ k) : Kept D W w' :=
  ⟨Nat.le_trans h.1 h2.1, fun k hk hp => by rw [h2.2 k (by have := h.1; omega) (fun hm => (hd k hm).elim hp (by omega))]; exact h.2 k hk hp, h2.os.trans h.os, h2.tape.trans h.tape, h2.output.trans h.output⟩
theorem own_cap {w : World} {b n m cap : Nat} {e : TypeId} {size : Nat} {a : Addr} {xs : List Value} (h : w.ownsRow b e size (.slice (some a) m cap) n xs) : cap ≤ maxLen := by
  rcases h.2 with ⟨h0, _⟩ | ⟨g, cap', cur, hv, hB, hg, h1, h2, _⟩
  · cases h0
  · cases hv; exact h2
theorem own_shape {w : World} {b n : Nat} {e : TypeId} {size : Nat} {v : Value} {xs : List Value} (h : w.ownsRow b e size v n xs) : ∃ A c, v = .slice A n c := by
  rcases h.2 with ⟨rfl, rfl⟩ | ⟨g, cap, cur, rfl, _⟩
  · exact ⟨_, _, rfl⟩
  · exact ⟨_, _, rfl⟩
theorem layAll_cn {H : ByteArray → Nat} {t : Tab} (l : List (ByteArray × Int)) (hc : cn t + l.length < t.length + 1) : cn (layAll H t l) = cn t + l.length := by
  induction l generalizing t with
  | nil => rfl
  | cons e l ih =>
    simp only [List.length_cons] at hc
    have h2 := cn_lay H (cn_gap (t := t) (by omega)) e.1 e.2
    show cn (layAll H (layT H t e.1 e.2) l) = _
    rw [ih (by rw [h2, layT_length]; omega), h2]; simp; omega
theorem prow_length (l : List (ByteArray × Int)) : (prow l).length = l.length * 2 := by
  induction l with
  | nil => rfl
  | cons e l ih => simp only [prow, List.flatMap_cons, List.length_append, List.length_cons] at ih ⊢; rw [ih]; simp; omega
theorem prow_get {l : List (ByteArray × Int)} {j : Nat} {k : ByteArray} {v : Int} (h : l[j]? = some (k, v)) : (prow l)[j * 2]? = some (.string k) ∧ (prow l)[j * 2 + 1]? = some (.int .i64 v) := by
  induction l generalizing j with
  | nil => simp at h
  | cons e l ih =>
    rcases j with _ | j
    · simp at h; subst h; exact ⟨rfl, rfl⟩
    · have := ih (j := j) (by simpa using h)
      rw [show (j + 1) * 2 = j * 2 + 1 + 1 by omega]
      exact this
theorem own_pairs {w : World} {b : Nat} {sv : Value} {l : List (ByteArray × Int)} {j : Nat} {k : ByteArray} {v : Int} (h : w.ownsRow b 91 2 sv l.length (prow l)) (hj : l[j]? = some (k, v)) :
    ∃ q cap, sv = .slice (some ⟨q, 0, none⟩) l.length cap ∧ b ≤ q ∧ RowAt w 91 ⟨q, j * 2, none⟩ (pair k v) := by
  have hl : j < l.length := (List.getElem?_eq_some_iff.1 hj).1
  rcases h.2 with ⟨_, h0⟩ | ⟨q, cap, cur, hv, hB, hg, h1, h2, h3, h4⟩
  · omega
  · refine ⟨q, cap, hv, hB, ?_⟩
    obtain ⟨g0, g1⟩ := prow_get hj
    have key : ∀ i u, (prow l)[i]? = some u → i < l.length * 2 → cur[i]? = some u := fun i u hq hl => by
      rw [← h4, List.getElem?_take_of_lt hl] at hq; simpa using hq
    exact row_mid hg (extract2 (key _ _ g0 (by omega)) (key _ _ g1 (by omega))) u91 rfl rfl info91
section
variable {ops : Array Oper} {Q : Exit → Act → World → Prop} {md : Region.Mode} {S : World → Prop} {i : Nat} {oi : Oper} {fuel : Nat} {listed : Array Bool} {a : Act} {w : World}
/-- a table appended to a table of the call's own -/
theorem ha_appP (hr : Region.ready md ops listed = [i]) (ho : ops[i]? = some oi) (hg : Region.wanted oi (yielded ops a.tmps) = true) (s x : Operand)
    (hop : oi.op = .call { callee := .builtin .append, args := #[s, x], argTypes := #[85, 85] }) {B p n cap p2 n2 cap2 N : Nat} {t t2 : Tab} (hN : N = (t ++ t2).length) (hn : n = t.length) (hn2 : n2 = t2.length) (hk : t.length ≤ 1000000) (hk2 : t2.length ≤ 1000000)
    (hs : a.eval s = .slice (some ⟨p, 0, none⟩) n cap) (hx : a.eval x = .slice (some ⟨p2, 0, none⟩) n2 cap2) (hp : w.ownsRow B 95 3 (.slice (some ⟨p, 0, none⟩) n cap) n (tcells t)) (hp2 : PlAt w p2 cap2 t2) (hbase : B ≤ w.heap.size)
    (hS : ∀ w', w.grownBy w' (some p) → S w')
    (h : ∀ v' w', w'.ownsRow B 95 3 v' N (tcells (t ++ t2)) → w.grownBy w' (some p) → v'.ownBlock = some p ∨ v'.ownBlock = some w.heap.size ∨ v'.ownBlock = none → S w' → wpAnyH Try.prog md ops Q S fuel (listed.setIfInBounds i true) (a.put oi.dst v') w') : wpAnyH Try.prog md ops Q S (fuel + 1) listed a w := by
  refine wpAnyH_ready (rs := [i]) hr (by simp) (AllReadyH.cons ho (fun K hK => ?_) AllReadyH.nil)
  rw [if_pos hg]
  obtain ⟨i0, hi, hz0, hz1, hz2⟩ := info_parts info95b
  obtain ⟨v', w', hr, h2, h3, h4, h5⟩ := run_append_own_at (P := Try.prog) w B 85 oi.type 95 i0 _ 3 32 u85 hi hz0 hz1 hz2 rfl (by decide) _ n (tcells t) hp ⟨p2, 0, none⟩ n2 cap2 (tcells t2) (by rw [hn2]; exact tcells_length _) hp2.cells (tcells_one _) (by unfold maxLen; omega) (by omega) hbase
  unfold Oper.wp execOp
  simp only [hop, resolve, invoke, builtin, Sem.run_bind, Sem.run_pure, Result.andThen_ok, List.map_toArray, List.map_cons, List.map_nil, hs, hx, hr]
  rw [tcells_append, show n + n2 = N by rw [hN]; simp; omega] at h2
  exact hK.out _ _ (hS w' h3) (fun hS => h v' w' h2 h3 (h5.elim (fun e => Or.inl (by rw [e]; rfl)) (fun e => Or.inr (Or.inl e))) hS)
end
theorem heap_setCells_row (b : Nat) (t : TypeId) : ∀ (vs : List Value) (o : Nat) (w : World) (cur : Array Value), w.heap[b]? = some (.cells cur t (0, 0)) →
    ∃ cur', (w.setCells b o vs).heap[b]? = some (.cells cur' t (0, 0)) ∧ cur'.size = cur.size ∧ ∀ j, cur'[j]? = if o ≤ j ∧ j < o + vs.length ∧ j < cur.size then vs[j - o]? else cur[j]?
  | [], o, w, cur, h => ⟨cur, h, rfl, fun j => by rw [if_neg (by simp; omega)]⟩
  | v :: vs, o, w, cur, h => by
    obtain ⟨cur', h1, h2, h3⟩ := heap_setCells_row b t vs (o + 1) (w.setCell ⟨b, o, none⟩ v) (cur.setIfInBounds o v) (hs_new h)
    refine ⟨cur', h1, by simpa using h2, fun j => ?_⟩
    rw [h3]
    simp only [Array.size_setIfInBounds, List.length_cons]
    by_cases e : j = o
    · subst e
      rw [if_neg (by omega)]
      by_cases hl : j < cur.size
      · rw [if_pos (by omega), Array.getElem?_setIfInBounds_self_of_lt hl]; simp
      · rw [if_neg (by omega), Array.getElem?_eq_none (by simp; omega), Array.getElem?_eq_none (by omega)]
    · rw [Array.getElem?_setIfInBounds_ne (by omega)]
      by_cases hc : o + 1 ≤ j ∧ j < o + 1 + vs.length ∧ j < cur.size
      · rw [if_pos hc, if_pos (by omega), show j - o = (j - (o + 1)) + 1 by omega]; rfl
      · rw [if_neg hc, if_neg (by omega)]
theorem zc_get (n j : Nat) (h : j < n * 3) : (Builtin.zeroCells (ecells none) n).toList[j]? = some ((ecells none)[j % 3]!) := by
  simp only [Builtin.zeroCells, show (ecells none).size = 3 from rfl]
  simp [h]
theorem zc_one (n : Nat) : ∀ u ∈ (Builtin.zeroCells (ecells none) n).toList, u.oneCell' = true := by
  intro u hu
  obtain ⟨j, hj⟩ := List.mem_iff_getElem?.1 hu
  have hl : j < n * 3 := by
    have := (List.getElem?_eq_some_iff.1 hj).1
    simpa [Builtin.zeroCells, ecells] using this
  rw [zc_get n j hl] at hj
  cases hj
  rcases (show j % 3 = 0 ∨ j % 3 = 1 ∨ j % 3 = 2 by omega) with e | e | e <;> rw [e] <;> rfl
theorem run_clearP (w : World) (ty : TypeId) (b n c : Nat) (hn : 0 < n) (hc : ∀ j, j < n * 3 → (w.cell? ⟨b, j, none⟩).isSome = true) (hf : ∀ j, j < n * 3 → w.frozen? ⟨b, j, none⟩ = false) :
    (Builtin.clear_ #[85] ty #[.slice (some ⟨b, 0, none⟩) n c]).run Try.prog w = .ok (.tuple #[]) (w.setCells b 0 (Builtin.zeroCells (ecells none) n).toList) := by
  obtain ⟨i0, hi, hz0, hz1, hz2⟩ := info_parts info95b
  have hlen : (Builtin.zeroCells (ecells none) n).toList.length = n * 3 := by simp [Builtin.zeroCells, ecells]
  have hst := run_storeCells_cells (P := Try.prog) b 0 (Builtin.zeroCells (ecells none) n).toList 0 w (by rw [hlen]; simpa using hc) (by rw [hlen]; simpa using hf) (zc_one n)
  obtain ⟨m, rfl⟩ : ∃ m, n = m + 1 := ⟨n - 1, by omega⟩
  simp only [Nat.add_zero] at hst
  have hzv : (zeroValue 95).run Try.prog w = .ok (.agg (ecells none)) w := by kernel_rfl
  simp [Builtin.clear_, run_underlying u85, hzv, Value.cells, hst]
theorem PlAt.cleared {w : World} {p cap : Nat} {t : Tab} (h : PlAt w p cap t) : PlAt (w.setCells p 0 (Builtin.zeroCells (ecells none) t.length).toList) p cap (List.replicate t.length none) := by
  obtain ⟨cur, h1, h2, h3, h4⟩ := h
  obtain ⟨cur', g1, g2, g3⟩ := heap_setCells_row p 95 (Builtin.zeroCells (ecells none) t.length).toList 0 w cur h1
  refine ⟨cur', g1, by omega, by simpa using h3, fun i hi => ?_⟩
  simp only [List.length_replicate] at hi
  have hlen : (Builtin.zeroCells (ecells none) t.length).toList.length = t.length * 3 := by simp [Builtin.zeroCells, ecells]
  have hpl : pl (List.replicate t.length (none : Option (ByteArray × Int))) i = none := by rw [pl_getE (by simpa using hi)]; simp
  rw [hpl, g3, g3, g3, if_pos (by omega), if_pos (by omega), if_pos (by omega)]
  simp only [Nat.sub_zero]
  rw [zc_get _ _ (by omega), zc_get _ _ (by omega), zc_get _ _ (by omega)]
  refine ⟨?_, ?_, ?_⟩
  · rw [show i * 3 % 3 = 0 by omega]; rfl
  · rw [show (i * 3 + 1) % 3 = 1 by omega]; rfl
  · rw [show (i * 3 + 2) % 3 = 2 by omega]; rfl
theorem wl_clearP {ops : Array Oper} {rest : List Oper} {op : Oper} {a : Act} {w : World} {Q : Exit → Act → World → Prop} (hg : op.guard = none) (x : Operand) (ho : op.op = .call { callee := .builtin .clear, args := #[x], argTypes := #[85] }) {p n cap : Nat} {t : Tab}
    (hn : n = t.length) (hn1 : 1 ≤ n) (hx : a.eval x = .slice (some ⟨p, 0, none⟩) n cap) (hp : PlAt w p cap t)
    (h : ∀ w', PlAt w' p cap (List.replicate n none) → Kept [p] w w' → wpList Try.prog ops Q rest (a.put op.dst (.tuple #[])) w') :
    wpList Try.prog ops Q (op :: rest) a w := by
  refine wpList_plain hg fun K hK => ?_
  have hr := run_clearP w op.type p n cap hn1 (fun j hj => (hp.there (i := j / 3) (by omega) (j % 3) (by omega)) |> fun h => by rw [show j / 3 * 3 + j % 3 = j by omega] at h; exact h.1) (fun j hj => (hp.there (i := j / 3) (by omega) (j % 3) (by omega)) |> fun h => by rw [show j / 3 * 3 + j % 3 = j by omega] at h; exact h.2)
  unfold Oper.wp execOp
  simp only [ho, resolve, invoke, builtin, Sem.run_bind, Sem.run_pure, Result.andThen_ok, List.map_toArray, List.map_cons, List.map_nil, hx, hr]
  refine hK _ _ (h _ (by rw [hn]; exact hp.cleared) ?_)
  exact Nm.Kept.setCells (by simp) _ _ _ (Nm.Kept.refl _ _)
set_option maxHeartbeats 4000000 in
set_option maxRecDepth 100000 in
theorem add_any (g p cap : Nat) (t : Tab) (kd seed : Int) (lv : Value) (k : ByteArray) (v : Int) (hw : Wf (HH seed) t) (hsh : Short t) (hk : k.size ≤ 1000000000) (hn4 : 4 ≤ t.length) (hn2 : t.length ≤ 100000) (w : World) {B : Nat} (hB : B ≤ p) (hcap : cap ≤ maxLen)
    (h0 : w.heap[g]? = some (.cells (bcells kd lv seed (cn t : Int) (.slice (some ⟨p, 0, none⟩) t.length cap)) 87 (0, 0))) (hp : PlAt w p cap t) (hgp : g ≠ p) :
    Calls Try.prog 57 #[.pointer (some ⟨g, 0, none⟩), .agg (pair k v)] w fun e w' => e = .returned (.tuple #[]) ∧ ∃ p' cap', w'.heap[g]? = some (.cells (bcells kd lv seed ((cn t : Int) + 1) (.slice (some ⟨p', 0, none⟩) (addT (HH seed) t k v).length cap')) 87 (0, 0)) ∧
      PlAt w' p' cap' (addT (HH seed) t k v) ∧ (p' = p ∨ w.heap.size ≤ p') ∧ cap' ≤ maxLen ∧ Kept [g, p] w w' := by
  have HP := Lib.hid hp
  have LP := hp.lt
  have LG := heap_lt h0
  have b3 := (bc_cell h0).2.2.2.1
  have b4 := (bc_cell h0).2.2.2.2
  have HS := Lib.hid hsh
  have HW := Lib.hid hw
  have hcn := gap_cn hw.gap
  clear hp hw hsh
  go_enter Try.func57, Try.ntmps57
  go_upto_region 1 with (fail)
  have hb1 := (Below.refl w.heap.size w).alloc (Nat.le_refl _) (.cells (pair k v) 91 (0, 0))
  refine wp_world (fun W => Below w.heap.size w W ∧ W.heap[w.heap.size]? = some (.cells (pair k v) 91 (0, 0))) ⟨hb1, ha_new rfl⟩ ?_
  clear hb1
  rintro W ⟨hb, h3⟩
  have HK := Lib.hid ((Nm.Kept.refl [g, p] w).below hb)
  have h1 := below_look hb h0
  replace HP := Lib.hid (HP.out.below hb)
  have hwz := hb.size
  clear b3 b4 h0 hb
  have b3 := (bc_cell h1).2.2.2.1
  have b4 := (bc_cell h1).2.2.2.2
  go_upto_region 1 with (fail)
  refine wp_region_held_drew (S := Kept [p] W) mixed (Kept.drew [p] W) (fun hS => ?_)
  refine hk3 (i := 0) rfl (by kernel_rfl) Zh hS rfl (fun K hK => ?_); go_simp; refine hK _ ?_; clear hK K; try simp only [Zq]
  refine hk3 (i := 1) rfl (by kernel_rfl) Zh hS rfl (fun K hK => ?_); go_simp; refine hK _ ?_; clear hK K; try simp only [Zq]
  refine hk3 (i := 2) rfl (by kernel_rfl) Zh hS rfl (fun K hK => ?_); go_simp; refine hK _ ?_; clear hK K; try simp only [Zq]
  refine hv3 (i := 3) rfl (by kernel_rfl) Zg hS rfl (fun w' hw' => ex_one rfl (one3 (hw'.cell b3 (by simp <;> omega)))) ?_; try simp only [Zq]
  refine hk3 (i := 4) rfl (by kernel_rfl) Zh hS rfl (fun K hK => ?_); go_simp; refine hK _ ?_; clear hK K; try simp only [Zq]
  refine hk3 (i := 5) rfl (by kernel_rfl) Zh hS rfl (fun K hK => ?_); go_simp; refine hK _ ?_; clear hK K; try simp only [Zq]
  refine hk3 (i := 6) rfl (by kernel_rfl) Zh hS rfl (fun K hK => ?_); go_simp; refine hK _ ?_; clear hK K; try simp only [Zq]
  refine hk3 (i := 7) rfl (by kernel_rfl) Zh hS rfl (fun K hK => ?_); go_simp; refine hK _ ?_; clear hK K; try simp only [Zq]
  refine hv3 (i := 8) rfl (by kernel_rfl) Zg hS rfl (fun w' hw' => ex_one rfl (one85 (hw'.cell b4 (by simp <;> omega)))) ?_; try simp only [Zq]
  refine hk3 (i := 9) rfl (by kernel_rfl) Zh hS rfl (fun K hK => ?_); go_simp; refine hK _ ?_; clear hK K; try simp only [Zq]
  refine hk3 (i := 10) rfl (by kernel_rfl) Zh hS rfl (fun K hK => ?_); go_simp; refine hK _ ?_; clear hK K; try simp only [Zq]
  refine hk3 (i := 11) rfl (by kernel_rfl) Zh hS rfl (fun K hK => ?_); go_simp; refine hK _ ?_; clear hK K; try simp only [Zq]
  refine wpAnyH_done (by kernel_rfl) ?_ _
  replace h1 : W.drew.heap[g]? = _ := h1
  replace h3 : W.drew.heap[w.heap.size]? = _ := h3
  replace HP := Lib.hid (HP.out.below (Below.refl _ W).drew)
  replace hwz : w.heap.size ≤ W.drew.heap.size := hwz
  replace HK := Lib.hid (HK.out.trans (hS.mono (fun x _ h => by simp at h ⊢; exact Or.inr h)))
  clear hS b3 b4
  have hwW := hwz
  generalize W.drew = W at *
  have e1 : IntKind.i64.wrap (4 * (cn t : Int)) = 4 * (cn t : Int) := wrap_small _ (by omega) (by omega)
  have e2 : IntKind.i64.wrap (3 * (t.length : Int)) = 3 * (t.length : Int) := wrap_small _ (by omega) (by omega)
  rw [e1, e2]
  clear e1 e2
  by_cases hgr : 3 * t.length ≤ 4 * cn t
  · rw [show decide (3 * (t.length : Int) ≤ 4 * (cn t : Int)) = true by simp; omega]
    go_upto_region 2 with (fail)
    apply wp_region_lit
    refine wl_k rfl (fun K hK => ?_); go_simp; refine hK _ ?_; clear hK K
    have HC := Lib.hid (pairs_any g (some ⟨p, 0, none⟩) cap t kd seed (cn t : Int) lv (by omega) _ h1 (B := 0) (Or.inr ⟨p, rfl, Nat.zero_le _, by omega, HP.out⟩))
    refine wl_ck rfl (fun K hK => ?_); go_simp; refine ⟨_, _, ⟨rfl, rfl⟩, hK _ _ ⟨_, HC.out, ?_⟩⟩; clear hK K; rintro e w1 ⟨sv, rfl, hown, hb1⟩; refine ⟨_, rfl, ?_⟩; simp only [Zq]
    obtain ⟨sA, sc, rfl⟩ := own_shape hown
    replace h1 := below_look hb1 h1
    replace h3 := below_look hb1 h3
    replace HP := Lib.hid (HP.out.below hb1)
    replace hwz := Nat.le_trans hwz hb1.size
    replace HK := Lib.hid (HK.out.below hb1)
    have HO := Lib.hid hown
    obtain ⟨N, HN⟩ : ∃ N, Hid (N = t.length + t.length) := ⟨_, Lib.hid rfl⟩
    clear HC hown hb1
    go_upto_region 3 with (fail)
    have b4 := (bc_cell h1).2.2.2.2
    replace HP := Lib.hid (HP.out.below (Below.refl _ w1).drew)
    replace HO := Lib.hid (own_below HO.out (Below.refl _ w1).drew)
    refine wp_region_held_drew (S := Kept [g, p] w1) mixed (Kept.drew [g, p] w1) (fun hS => ?_)
    refine hk3 (i := 0) rfl (by kernel_rfl) Zh hS rfl (fun K hK => ?_); go_simp; refine hK _ ?_; clear hK K; try simp only [Zq]
    refine hk3 (i := 1) rfl (by kernel_rfl) Zh hS rfl (fun K hK => ?_); go_simp; refine hK _ ?_; clear hK K; try simp only [Zq]
    refine hk3 (i := 2) rfl (by kernel_rfl) Zh hS rfl (fun K hK => ?_); go_simp; refine hK _ ?_; clear hK K; try simp only [Zq]
    refine hk3 (i := 3) rfl (by kernel_rfl) Zh hS rfl (fun K hK => ?_); go_simp; refine hK _ ?_; clear hK K; try simp only [Zq]
    refine hk3 (i := 5) rfl (by kernel_rfl) Zh hS rfl (fun K hK => ?_); go_simp; refine hK _ ?_; clear hK K; try simp only [Zq]
    refine hk3 (i := 6) rfl (by kernel_rfl) Zh hS rfl (fun K hK => ?_); go_simp; refine hK _ ?_; clear hK K; try simp only [Zq]
    refine hk3 (i := 7) rfl (by kernel_rfl) Zh hS rfl (fun K hK => ?_); go_simp; refine hK _ ?_; clear hK K; try simp only [Zq]
    refine ha_two (i := 4) (j := 8) (by kernel_rfl) ?_ ?_
    · refine sh_val (i := 4) rfl rfl (ex_one rfl (one85 b4)) hS ?_; try simp only [Zq]
      refine ha_do (i := 8) (by kernel_rfl) rfl rfl (ex_one rfl (one85 b4)) hS ?_; try simp only [Zq]
      refine ha_call (i := 9) (by kernel_rfl) rfl rfl (fun K hK => ?_); go_simp; refine ⟨_, _, ⟨rfl, rfl⟩, hK _ _ ⟨_, CloneP_any (some ⟨p, 0, none⟩) cap t (by omega) _ (B := 0) (Or.inr ⟨p, rfl, Nat.zero_le _, by omega, HP.out⟩), ?_⟩⟩; clear hK K; rintro e w2 ⟨cv, rfl, ho2, hb1⟩; refine ⟨_, rfl, hS.below hb1, ?_⟩; replace hS := hS.below hb1; (obtain ⟨p2, cap2, rfl, hB2, hp2⟩ := own_pl ho2 (by omega); replace h1 := below_look hb1 h1; replace h3 := below_look hb1 h3; replace HP := Lib.hid (HP.out.below hb1); replace HO := Lib.hid (own_below HO.out hb1); replace hwz := Nat.le_trans hwz hb1.size; have HP2 := Lib.hid hp2; have hL2 := hb1.size; clear ho2 hp2 hb1 b4; have b4 := (bc_cell h1).2.2.2.2); try simp only [Zq]
      refine ha_appP (i := 10) (by kernel_rfl) rfl rfl _ _ rfl (t := t) (t2 := t) (N := N) (by rw [HN.out]; simp) rfl rfl (by omega) (by omega) rfl rfl (HP.out.own hcap hB) HP2.out (by omega) (fun w' hg => hS.grown hg (by simp)) (fun v' w3 ho3 hg3 hloc hS => ?_); try simp only [Zq]
      have hcap' : ∃ p' cap', v' = .slice (some ⟨p', 0, none⟩) N cap' ∧ B ≤ p' ∧ PlAt w3 p' cap' (t ++ t) ∧ cap' ≤ maxLen ∧ (p' = p ∨ w.heap.size < p') ∧ ∀ q, Value.ownBlock (.slice sA (pairsT t).length sc) = some q → q ≠ p' := by
        have hz3 := heap_lt h3
        have hN2 : N = (t ++ t).length := by rw [HN.out]; simp
        rw [hN2] at ho3 ⊢
        obtain ⟨p', cap', rfl, h5, h6⟩ := own_pl ho3 (by simp; omega)
        refine ⟨p', cap', rfl, h5, h6, own_cap ho3, ?_⟩
        rcases hloc with e | e | e
        · have e' : p' = p := by simpa [Value.ownBlock] using e
          exact ⟨Or.inl e', fun q hq => by have := (HO.out.lt q hq).1; omega⟩
        · have e' : p' = w2.heap.size := by simpa [Value.ownBlock] using e
          exact ⟨Or.inr (by omega), fun q hq => by have := (HO.out.lt q hq).2; omega⟩
        · simp [Value.ownBlock] at e
      clear ho3 hloc
      obtain ⟨p', cap', rfl, hB', hp', hcap', hloc, hsv⟩ := hcap'
      replace h1 : w3.heap[g]? = _ := (hg3.block g (heap_lt h1) (fun e => hgp (by cases e; rfl))).trans h1
      replace h3 : w3.heap[w.heap.size]? = _ := (hg3.block _ (heap_lt h3) (fun e => by cases e; omega)).trans h3
      replace HO := Lib.hid (own_same HO.out (w' := w3) (fun q hq he => hg3.block q hq (fun e => by have := (HO.out.lt q he).1; cases e; omega)))
      replace hwz := Nat.le_trans hwz hg3.size
      have HP := Lib.hid hp'
      clear HP2 hg3 hp' b4
      refine hk3 (i := 11) rfl (by kernel_rfl) Zh hS rfl (fun K hK => ?_); go_simp; refine hK _ ?_; clear hK K; try simp only [Zq]
      refine hk3 (i := 12) rfl (by kernel_rfl) Zh hS rfl (fun K hK => ?_); go_simp; refine hK _ ?_; clear hK K; try simp only [Zq]
      refine ha_storeC (i := 13) (by kernel_rfl) rfl rfl 85 _ _ rfl g 4 (.slice (some ⟨p', 0, none⟩) N cap') rfl rfl info85 rfl (by rw [(bc_cell h1).2.2.2.2]; rfl) (frozen_of_row _ _ _ _ _ h1) (hS.setCell (by simp) 4 _) (fun hS => ?_); try simp only [Zq]
      refine wpAnyH_done (by kernel_rfl) ?_ _
      replace h1 := (hs_new h1 (i := 4) (v := .slice (some ⟨p', 0, none⟩) N cap')).trans (by rw [bcells_set4])
      replace h3 : (w3.setCell ⟨g, 4, none⟩ (.slice (some ⟨p', 0, none⟩) N cap')).heap[w.heap.size]? = _ := (heap_setCell_other w3 ⟨g, 4, none⟩ w.heap.size _ (fun e => by have h9 : w.heap.size = g := e; clear e; omega)).trans h3
      replace HO := Lib.hid (own_same HO.out (w' := w3.setCell ⟨g, 4, none⟩ (.slice (some ⟨p', 0, none⟩) N cap')) (fun q hq he => heap_setCell_other w3 ⟨g, 4, none⟩ q _ (fun e => by have := (HO.out.lt q he).1; have h9 : q = g := e; clear e; omega)))
      have hgp' : g ≠ p' := by rcases hloc with e | e <;> omega
      replace HP := Lib.hid (HP.out.look (w' := w3.setCell ⟨g, 4, none⟩ (.slice (some ⟨p', 0, none⟩) N cap')) (heap_setCell_other w3 ⟨g, 4, none⟩ p' _ (fun e => hgp' e.symm)))
      replace hwz : w.heap.size ≤ (w3.setCell ⟨g, 4, none⟩ (.slice (some ⟨p', 0, none⟩) N cap')).heap.size := by simpa using hwz
      replace HK := Lib.hid (HK.out.trans hS)
      clear hS
      generalize w3.setCell ⟨g, 4, none⟩ (.slice (some ⟨p', 0, none⟩) N cap') = w4 at *
      have b4 := (bc_cell h1).2.2.2.2
      go_upto_region 4 with (fail)
      apply wp_region_lit
      iterate 3 (refine wl_k rfl (fun K hK => ?_); go_simp; refine hK _ ?_; clear hK K)
      ((with_reducible apply wl_oneG); exact rfl; exact rfl; exact one85 b4)
      refine wl_clearP rfl _ rfl (t := t ++ t) (p := p') (n := N) (cap := cap') (by rw [HN.out]; simp) (by rw [HN.out]; omega) rfl HP.out ?_
      intro w5 hp5 hk5
      replace h1 := hk5.look h1 (by simpa using hgp')
      replace h3 := hk5.look h3 (by simp; omega)
      replace HO := Lib.hid (own_same HO.out (w' := w5) (fun q hq he => hk5.block q hq (by simpa using hsv q he)))
      replace hwz := Nat.le_trans hwz hk5.size
      replace HK := Lib.hid (HK.out.also hk5 (fun x hx => by simp at hx; subst hx; rcases hloc with e | e; exact Or.inl (by simp [e]); exact Or.inr (by omega)))
      have HP := Lib.hid hp5
      have HSV := Lib.hid hsv
      have hple := pairsT_le t
      clear hp5 hk5 b4 hsv
      go_wp2_with fail
      go_loopw [40] (fun i wr => ∃ j : Nat, j ≤ (pairsT t).length ∧ i = .int .i64 (j : Int) ∧ wr.heap[g]? = some (.cells (bcells kd lv seed (cn t : Int) (.slice (some ⟨p', 0, none⟩) N cap')) 87 (0, 0)) ∧ wr.heap[w.heap.size]? = some (.cells (pair k v) 91 (0, 0)) ∧
        Hid (PlAt wr p' cap' (layAll (HH seed) (List.replicate N none) ((pairsT t).take j))) ∧ Hid (wr.ownsRow W.heap.size 91 2 (.slice sA (pairsT t).length sc) (pairsT t).length (prow (pairsT t))) ∧ w.heap.size ≤ wr.heap.size ∧ Hid (Kept [g, p] w wr)) (fun i _ => (pairsT t).length - (intOf i).toNat)
      case atStart => exact ⟨0, by omega, rfl, h1, h3, HP, HO, hwz, HK⟩
      case round =>
        clear h1 h3 HP HO hwz HK
        obtain ⟨j, hj, rfl, h1, h3, HP, HO, hwz, HK⟩ := hrel
        have hjb : (j : Int) < 1000000 := by omega
        by_cases hlt : j < (pairsT t).length
        · obtain ⟨⟨k', v'⟩, hkv⟩ : ∃ e, (pairsT t)[j]? = some e := ⟨_, List.getElem?_eq_getElem hlt⟩
          obtain ⟨q, cq, hsl, hBq, hrow⟩ := own_pairs HO.out hkv
          simp only [Value.slice.injEq] at hsl
          obtain ⟨rfl, -, rfl⟩ := hsl
          have HR := Lib.hid hrow
          have hks : k'.size ≤ 1000000000 := by
            obtain ⟨x, hx, hxp⟩ := (has_mem (t := t) (k := k') (v := v')).2 (List.mem_of_getElem? hkv)
            have := HS.out x
            rw [hxp] at this; exact this
          have hlj : ((pairsT t).take j).length = j := by rw [List.length_take]; omega
          have HTC := Lib.hid (layAll_cn (H := HH seed) (t := List.replicate N none) ((pairsT t).take j) (by rw [cn_none, hlj, List.length_replicate, HN.out]; omega))
          have HTL := Lib.hid (layAll_length (HH seed) (List.replicate N none) ((pairsT t).take j))
          have HTS : Hid (layAll (HH seed) (List.replicate N none) ((pairsT t).take (j + 1)) = layT (HH seed) (layAll (HH seed) (List.replicate N none) ((pairsT t).take j)) k' v') := Lib.hid (by rw [List.take_add_one, hkv]; exact layAll_snoc _ _ _ _)
          rw [cn_none, hlj, Nat.zero_add] at HTC
          rw [List.length_replicate] at HTL
          generalize layAll (HH seed) (List.replicate N none) ((pairsT t).take j) = T at *
          have LG2 := heap_lt h1
          have LZ2 := heap_lt h3
          have LP2 := HP.out.lt
          have LQ := (HO.out.lt q rfl).2
          clear hrow hkv hlj
          go_upto_region 7 with (fail)
          apply wp_region_lit
          refine wl_k rfl (fun K hK => ?_); go_simp; refine hK _ ?_; clear hK K
          ((with_reducible apply wl_rowG); exact rfl; exact rfl; exact HR.out)
          simp only [Zq]
          refine wl_new (fun ev w => ex_alloc91 rfl ev w) ?_
          intro W5 p5 hb5 hl5 h5
          replace h1 := below_look hb5 h1
          replace h3 := below_look hb5 h3
          replace HP := Lib.hid (HP.out.below hb5)
          replace HO := Lib.hid (own_below HO.out hb5)
          replace HK := Lib.hid (HK.out.below hb5)
          replace hwz := Nat.le_trans hwz hb5.size
          clear hb5 HR
          refine wl_putG p5 (pair k' v') rfl rfl 91 _ h5 info91 rfl (pair_one _ _) ?_
          replace HK := Lib.hid (HK.out.setNew (p := p5) (by omega) (pair k' v'))
          replace h1 := hr_old (cs := pair k' v') h1 (show g ≠ p5 by omega)
          replace h3 := hr_old (cs := pair k' v') h3 (show w.heap.size ≠ p5 by omega)
          replace HO := Lib.hid (own_setRow HO.out (p := p5) (fun e => by simp only [Value.ownBlock, Option.some.injEq] at e; omega) (pair k' v'))
          replace hwz : w.heap.size ≤ (W5.setRow p5 (pair k' v')).heap.size := by simpa using hwz
          have HP5 := Lib.hid (HP.out.look (w' := W5.setRow p5 (pair k' v')) (setRow_other W5 p5 p' (pair k' v') (by omega)))
          have h5' := hr_new (cs := pair k' v') h5
          clear HP h5
          generalize W5.setRow p5 (pair k' v') = w6 at *
          go_upto_region 8 with (fail)
          apply wp_region_lit
          refine wl_k rfl (fun K hK => ?_); go_simp; refine hK _ ?_; clear hK K
          ((with_reducible apply wl_rowG); exact rfl; exact rfl; exact rowPair h5')
          simp only [Zq]
          have HC := Lib.hid (put_any g p' cap' T kd seed (cn t : Int) lv k' v' hks (by rw [HTL.out, HN.out]; omega) (by rw [HTL.out, HN.out]; omega) (cn_gap (by rw [HTL.out, HTC.out, HN.out]; omega)) _ (by rw [HTL.out]; exact h1) HP5.out hgp')
          refine wl_ck rfl (fun K hK => ?_); go_simp; refine ⟨_, _, ⟨rfl, rfl⟩, hK _ _ ⟨_, HC.out, ?_⟩⟩; clear hK K; rintro e w7 ⟨rfl, hp7, hk7⟩; refine ⟨_, rfl, ?_⟩; simp only [Zq]
          replace h1 := hk7.look h1 (by simpa using hgp')
          replace h3 := hk7.look h3 (by simp; omega)
          replace HO := Lib.hid (own_same HO.out (w' := w7) (fun q _ he => hk7.block q ‹_› (by simpa using HSV.out q he)))
          replace hwz := Nat.le_trans hwz hk7.size
          replace HK := Lib.hid (HK.out.also hk7 (fun x hx => by simp at hx; subst hx; rcases hloc with e | e; exact Or.inl (by simp [e]); exact Or.inr (by omega)))
          have HP := Lib.hid hp7
          clear HC HP5 h5' hk7 hp7
          go_wp2_with fail
          go_roundw
          case rel => exact ⟨j + 1, by omega, by go_num, h1, h3, by rw [HTS.out]; exact HP, HO, hwz, HK⟩
          case measure => simp [intOf]; omega
        · obtain rfl : j = (pairsT t).length := by omega
          have HT : Hid (layAll (HH seed) (List.replicate N none) ((pairsT t).take (pairsT t).length) = growT (HH seed) t) := Lib.hid (by rw [List.take_length]; unfold growT; rw [HN.out, Nat.two_mul]; rfl)
          have HGL := Lib.hid (growT_length (HH seed) t)
          have HGG := Lib.hid (grow_good (HH seed) HW.out)
          rw [HT.out] at HP
          rw [show N = (growT (HH seed) t).length by rw [HN.out, HGL.out]; omega] at h1
          clear HO
          go_upto_region 10 with (fail)
          apply wp_region_lit
          refine wl_k rfl (fun K hK => ?_); go_simp; refine hK _ ?_; clear hK K
          ((with_reducible apply wl_rowG); exact rfl; exact rfl; exact rowPair h3)
          simp only [Zq]
          have HC := Lib.hid (put_any g p' cap' ((growT (HH seed) t)) kd seed (cn t : Int) lv k v hk (by rw [HGL.out]; omega) (by rw [HGL.out]; omega) (cn_gap (by rw [HGL.out, HGG.out.2.1]; omega)) _ h1 HP.out hgp')
          refine wl_ck rfl (fun K hK => ?_); go_simp; refine ⟨_, _, ⟨rfl, rfl⟩, hK _ _ ⟨_, HC.out, ?_⟩⟩; clear hK K; rintro e w7 ⟨rfl, hp7, hk7⟩; refine ⟨_, rfl, ?_⟩; simp only [Zq]
          replace h1 := hk7.look h1 (by simpa using hgp')
          clear HP HC
          have b3 := (bc_cell h1).2.2.2.1
          have f3 : w7.frozen? ⟨g, 3, none⟩ = false := frozen_of_row _ _ _ _ _ h1
          have HP := Lib.hid hp7
          replace HK := Lib.hid (HK.out.also hk7 (fun x hx => by simp at hx; subst hx; rcases hloc with e | e; exact Or.inl (by simp [e]); exact Or.inr (by omega)))
          clear hp7 hk7 h3
          go_wp2_with fail
          go_end0
          have hA : addT (HH seed) t k v = layT (HH seed) (growT (HH seed) t) k v := by unfold addT; rw [if_pos hgr]
          refine ⟨rfl, p', cap', ?_, ?_, hloc.imp id (fun h => by omega), hcap', HK.out.setCell (p := g) (by simp) 3 _⟩
          · rw [hA, layT_length]; exact (hs_new h1).trans rfl
          · rw [hA]; exact HP.out.look (heap_setCell_other w7 ⟨g, 3, none⟩ p' _ (fun e => hgp' e.symm))
    · refine sh_val (i := 8) rfl rfl (ex_one rfl (one85 b4)) hS ?_; try simp only [Zq]
      refine ha_two (i := 4) (j := 9) (by kernel_rfl) ?_ ?_
      · refine sh_val (i := 4) rfl rfl (ex_one rfl (one85 b4)) hS ?_; try simp only [Zq]
        refine ha_call (i := 9) (by kernel_rfl) rfl rfl (fun K hK => ?_); go_simp; refine ⟨_, _, ⟨rfl, rfl⟩, hK _ _ ⟨_, CloneP_any (some ⟨p, 0, none⟩) cap t (by omega) _ (B := 0) (Or.inr ⟨p, rfl, Nat.zero_le _, by omega, HP.out⟩), ?_⟩⟩; clear hK K; rintro e w2 ⟨cv, rfl, ho2, hb1⟩; refine ⟨_, rfl, hS.below hb1, ?_⟩; replace hS := hS.below hb1; (obtain ⟨p2, cap2, rfl, hB2, hp2⟩ := own_pl ho2 (by omega); replace h1 := below_look hb1 h1; replace h3 := below_look hb1 h3; replace HP := Lib.hid (HP.out.below hb1); replace HO := Lib.hid (own_below HO.out hb1); replace hwz := Nat.le_trans hwz hb1.size; have HP2 := Lib.hid hp2; have hL2 := hb1.size; clear ho2 hp2 hb1 b4; have b4 := (bc_cell h1).2.2.2.2); try simp only [Zq]
        refine ha_appP (i := 10) (by kernel_rfl) rfl rfl _ _ rfl (t := t) (t2 := t) (N := N) (by rw [HN.out]; simp) rfl rfl (by omega) (by omega) rfl rfl (HP.out.own hcap hB) HP2.out (by omega) (fun w' hg => hS.grown hg (by simp)) (fun v' w3 ho3 hg3 hloc hS => ?_); try simp only [Zq]
        have hcap' : ∃ p' cap', v' = .slice (some ⟨p', 0, none⟩) N cap' ∧ B ≤ p' ∧ PlAt w3 p' cap' (t ++ t) ∧ cap' ≤ maxLen ∧ (p' = p ∨ w.heap.size < p') ∧ ∀ q, Value.ownBlock (.slice sA (pairsT t).length sc) = some q → q ≠ p' := by
          have hz3 := heap_lt h3
          have hN2 : N = (t ++ t).length := by rw [HN.out]; simp
          rw [hN2] at ho3 ⊢
          obtain ⟨p', cap', rfl, h5, h6⟩ := own_pl ho3 (by simp; omega)
          refine ⟨p', cap', rfl, h5, h6, own_cap ho3, ?_⟩
          rcases hloc with e | e | e
          · have e' : p' = p := by simpa [Value.ownBlock] using e
            exact ⟨Or.inl e', fun q hq => by have := (HO.out.lt q hq).1; omega⟩
          · have e' : p' = w2.heap.size := by simpa [Value.ownBlock] using e
            exact ⟨Or.inr (by omega), fun q hq => by have := (HO.out.lt q hq).2; omega⟩
          · simp [Value.ownBlock] at e
        clear ho3 hloc
        obtain ⟨p', cap', rfl, hB', hp', hcap', hloc, hsv⟩ := hcap'
        replace h1 : w3.heap[g]? = _ := (hg3.block g (heap_lt h1) (fun e => hgp (by cases e; rfl))).trans h1
        replace h3 : w3.heap[w.heap.size]? = _ := (hg3.block _ (heap_lt h3) (fun e => by cases e; omega)).trans h3
        replace HO := Lib.hid (own_same HO.out (w' := w3) (fun q hq he => hg3.block q hq (fun e => by have := (HO.out.lt q he).1; cases e; omega)))
        replace hwz := Nat.le_trans hwz hg3.size
        have HP := Lib.hid hp'
        clear HP2 hg3 hp' b4
        refine hk3 (i := 11) rfl (by kernel_rfl) Zh hS rfl (fun K hK => ?_); go_simp; refine hK _ ?_; clear hK K; try simp only [Zq]
        refine hk3 (i := 12) rfl (by kernel_rfl) Zh hS rfl (fun K hK => ?_); go_simp; refine hK _ ?_; clear hK K; try simp only [Zq]
        refine ha_storeC (i := 13) (by kernel_rfl) rfl rfl 85 _ _ rfl g 4 (.slice (some ⟨p', 0, none⟩) N cap') rfl rfl info85 rfl (by rw [(bc_cell h1).2.2.2.2]; rfl) (frozen_of_row _ _ _ _ _ h1) (hS.setCell (by simp) 4 _) (fun hS => ?_); try simp only [Zq]
        refine wpAnyH_done (by kernel_rfl) ?_ _
        replace h1 := (hs_new h1 (i := 4) (v := .slice (some ⟨p', 0, none⟩) N cap')).trans (by rw [bcells_set4])
        replace h3 : (w3.setCell ⟨g, 4, none⟩ (.slice (some ⟨p', 0, none⟩) N cap')).heap[w.heap.size]? = _ := (heap_setCell_other w3 ⟨g, 4, none⟩ w.heap.size _ (fun e => by have h9 : w.heap.size = g := e; clear e; omega)).trans h3
        replace HO := Lib.hid (own_same HO.out (w' := w3.setCell ⟨g, 4, none⟩ (.slice (some ⟨p', 0, none⟩) N cap')) (fun q hq he => heap_setCell_other w3 ⟨g, 4, none⟩ q _ (fun e => by have := (HO.out.lt q he).1; have h9 : q = g := e; clear e; omega)))
        have hgp' : g ≠ p' := by rcases hloc with e | e <;> omega
        replace HP := Lib.hid (HP.out.look (w' := w3.setCell ⟨g, 4, none⟩ (.slice (some ⟨p', 0, none⟩) N cap')) (heap_setCell_other w3 ⟨g, 4, none⟩ p' _ (fun e => hgp' e.symm)))
        replace hwz : w.heap.size ≤ (w3.setCell ⟨g, 4, none⟩ (.slice (some ⟨p', 0, none⟩) N cap')).heap.size := by simpa using hwz
        replace HK := Lib.hid (HK.out.trans hS)
        clear hS
        generalize w3.setCell ⟨g, 4, none⟩ (.slice (some ⟨p', 0, none⟩) N cap') = w4 at *
        have b4 := (bc_cell h1).2.2.2.2
        go_upto_region 4 with (fail)
        apply wp_region_lit
        iterate 3 (refine wl_k rfl (fun K hK => ?_); go_simp; refine hK _ ?_; clear hK K)
        ((with_reducible apply wl_oneG); exact rfl; exact rfl; exact one85 b4)
        refine wl_clearP rfl _ rfl (t := t ++ t) (p := p') (n := N) (cap := cap') (by rw [HN.out]; simp) (by rw [HN.out]; omega) rfl HP.out ?_
        intro w5 hp5 hk5
        replace h1 := hk5.look h1 (by simpa using hgp')
        replace h3 := hk5.look h3 (by simp; omega)
        replace HO := Lib.hid (own_same HO.out (w' := w5) (fun q hq he => hk5.block q hq (by simpa using hsv q he)))
        replace hwz := Nat.le_trans hwz hk5.size
        replace HK := Lib.hid (HK.out.also hk5 (fun x hx => by simp at hx; subst hx; rcases hloc with e | e; exact Or.inl (by simp [e]); exact Or.inr (by omega)))
        have HP := Lib.hid hp5
        have HSV := Lib.hid hsv
        have hple := pairsT_le t
        clear hp5 hk5 b4 hsv
        go_wp2_with fail
        go_loopw [40] (fun i wr => ∃ j : Nat, j ≤ (pairsT t).length ∧ i = .int .i64 (j : Int) ∧ wr.heap[g]? = some (.cells (bcells kd lv seed (cn t : Int) (.slice (some ⟨p', 0, none⟩) N cap')) 87 (0, 0)) ∧ wr.heap[w.heap.size]? = some (.cells (pair k v) 91 (0, 0)) ∧
          Hid (PlAt wr p' cap' (layAll (HH seed) (List.replicate N none) ((pairsT t).take j))) ∧ Hid (wr.ownsRow W.heap.size 91 2 (.slice sA (pairsT t).length sc) (pairsT t).length (prow (pairsT t))) ∧ w.heap.size ≤ wr.heap.size ∧ Hid (Kept [g, p] w wr)) (fun i _ => (pairsT t).length - (intOf i).toNat)
        case atStart => exact ⟨0, by omega, rfl, h1, h3, HP, HO, hwz, HK⟩
        case round =>
          clear h1 h3 HP HO hwz HK
          obtain ⟨j, hj, rfl, h1, h3, HP, HO, hwz, HK⟩ := hrel
          have hjb : (j : Int) < 1000000 := by omega
          by_cases hlt : j < (pairsT t).length
          · obtain ⟨⟨k', v'⟩, hkv⟩ : ∃ e, (pairsT t)[j]? = some e := ⟨_, List.getElem?_eq_getElem hlt⟩
            obtain ⟨q, cq, hsl, hBq, hrow⟩ := own_pairs HO.out hkv
            simp only [Value.slice.injEq] at hsl
            obtain ⟨rfl, -, rfl⟩ := hsl
            have HR := Lib.hid hrow
            have hks : k'.size ≤ 1000000000 := by
              obtain ⟨x, hx, hxp⟩ := (has_mem (t := t) (k := k') (v := v')).2 (List.mem_of_getElem? hkv)
              have := HS.out x
              rw [hxp] at this; exact this
            have hlj : ((pairsT t).take j).length = j := by rw [List.length_take]; omega
            have HTC := Lib.hid (layAll_cn (H := HH seed) (t := List.replicate N none) ((pairsT t).take j) (by rw [cn_none, hlj, List.length_replicate, HN.out]; omega))
            have HTL := Lib.hid (layAll_length (HH seed) (List.replicate N none) ((pairsT t).take j))
            have HTS : Hid (layAll (HH seed) (List.replicate N none) ((pairsT t).take (j + 1)) = layT (HH seed) (layAll (HH seed) (List.replicate N none) ((pairsT t).take j)) k' v') := Lib.hid (by rw [List.take_add_one, hkv]; exact layAll_snoc _ _ _ _)
            rw [cn_none, hlj, Nat.zero_add] at HTC
            rw [List.length_replicate] at HTL
            generalize layAll (HH seed) (List.replicate N none) ((pairsT t).take j) = T at *
            have LG2 := heap_lt h1
            have LZ2 := heap_lt h3
            have LP2 := HP.out.lt
            have LQ := (HO.out.lt q rfl).2
            clear hrow hkv hlj
            go_upto_region 7 with (fail)
            apply wp_region_lit
            refine wl_k rfl (fun K hK => ?_); go_simp; refine hK _ ?_; clear hK K
            ((with_reducible apply wl_rowG); exact rfl; exact rfl; exact HR.out)
            simp only [Zq]
            refine wl_new (fun ev w => ex_alloc91 rfl ev w) ?_
            intro W5 p5 hb5 hl5 h5
            replace h1 := below_look hb5 h1
            replace h3 := below_look hb5 h3
            replace HP := Lib.hid (HP.out.below hb5)
            replace HO := Lib.hid (own_below HO.out hb5)
            replace HK := Lib.hid (HK.out.below hb5)
            replace hwz := Nat.le_trans hwz hb5.size
            clear hb5 HR
            refine wl_putG p5 (pair k' v') rfl rfl 91 _ h5 info91 rfl (pair_one _ _) ?_
            replace HK := Lib.hid (HK.out.setNew (p := p5) (by omega) (pair k' v'))
            replace h1 := hr_old (cs := pair k' v') h1 (show g ≠ p5 by omega)
            replace h3 := hr_old (cs := pair k' v') h3 (show w.heap.size ≠ p5 by omega)
            replace HO := Lib.hid (own_setRow HO.out (p := p5) (fun e => by simp only [Value.ownBlock, Option.some.injEq] at e; omega) (pair k' v'))
            replace hwz : w.heap.size ≤ (W5.setRow p5 (pair k' v')).heap.size := by simpa using hwz
            have HP5 := Lib.hid (HP.out.look (w' := W5.setRow p5 (pair k' v')) (setRow_other W5 p5 p' (pair k' v') (by omega)))
            have h5' := hr_new (cs := pair k' v') h5
            clear HP h5
            generalize W5.setRow p5 (pair k' v') = w6 at *
            go_upto_region 8 with (fail)
            apply wp_region_lit
            refine wl_k rfl (fun K hK => ?_); go_simp; refine hK _ ?_; clear hK K
            ((with_reducible apply wl_rowG); exact rfl; exact rfl; exact rowPair h5')
            simp only [Zq]
            have HC := Lib.hid (put_any g p' cap' T kd seed (cn t : Int) lv k' v' hks (by rw [HTL.out, HN.out]; omega) (by rw [HTL.out, HN.out]; omega) (cn_gap (by rw [HTL.out, HTC.out, HN.out]; omega)) _ (by rw [HTL.out]; exact h1) HP5.out hgp')
            refine wl_ck rfl (fun K hK => ?_); go_simp; refine ⟨_, _, ⟨rfl, rfl⟩, hK _ _ ⟨_, HC.out, ?_⟩⟩; clear hK K; rintro e w7 ⟨rfl, hp7, hk7⟩; refine ⟨_, rfl, ?_⟩; simp only [Zq]
            replace h1 := hk7.look h1 (by simpa using hgp')
            replace h3 := hk7.look h3 (by simp; omega)
            replace HO := Lib.hid (own_same HO.out (w' := w7) (fun q _ he => hk7.block q ‹_› (by simpa using HSV.out q he)))
            replace hwz := Nat.le_trans hwz hk7.size
            replace HK := Lib.hid (HK.out.also hk7 (fun x hx => by simp at hx; subst hx; rcases hloc with e | e; exact Or.inl (by simp [e]); exact Or.inr (by omega)))
            have HP := Lib.hid hp7
            clear HC HP5 h5' hk7 hp7
            go_wp2_with fail
            go_roundw
            case rel => exact ⟨j + 1, by omega, by go_num, h1, h3, by rw [HTS.out]; exact HP, HO, hwz, HK⟩
            case measure => simp [intOf]; omega
          · obtain rfl : j = (pairsT t).length := by omega
            have HT : Hid (layAll (HH seed) (List.replicate N none) ((pairsT t).take (pairsT t).length) = growT (HH seed) t) := Lib.hid (by rw [List.take_length]; unfold growT; rw [HN.out, Nat.two_mul]; rfl)
            have HGL := Lib.hid (growT_length (HH seed) t)
            have HGG := Lib.hid (grow_good (HH seed) HW.out)
            rw [HT.out] at HP
            rw [show N = (growT (HH seed) t).length by rw [HN.out, HGL.out]; omega] at h1
            clear HO
            go_upto_region 10 with (fail)
            apply wp_region_lit
            refine wl_k rfl (fun K hK => ?_); go_simp; refine hK _ ?_; clear hK K
            ((with_reducible apply wl_rowG); exact rfl; exact rfl; exact rowPair h3)
            simp only [Zq]
            have HC := Lib.hid (put_any g p' cap' ((growT (HH seed) t)) kd seed (cn t : Int) lv k v hk (by rw [HGL.out]; omega) (by rw [HGL.out]; omega) (cn_gap (by rw [HGL.out, HGG.out.2.1]; omega)) _ h1 HP.out hgp')
            refine wl_ck rfl (fun K hK => ?_); go_simp; refine ⟨_, _, ⟨rfl, rfl⟩, hK _ _ ⟨_, HC.out, ?_⟩⟩; clear hK K; rintro e w7 ⟨rfl, hp7, hk7⟩; refine ⟨_, rfl, ?_⟩; simp only [Zq]
            replace h1 := hk7.look h1 (by simpa using hgp')
            clear HP HC
            have b3 := (bc_cell h1).2.2.2.1
            have f3 : w7.frozen? ⟨g, 3, none⟩ = false := frozen_of_row _ _ _ _ _ h1
            have HP := Lib.hid hp7
            replace HK := Lib.hid (HK.out.also hk7 (fun x hx => by simp at hx; subst hx; rcases hloc with e | e; exact Or.inl (by simp [e]); exact Or.inr (by omega)))
            clear hp7 hk7 h3
            go_wp2_with fail
            go_end0
            have hA : addT (HH seed) t k v = layT (HH seed) (growT (HH seed) t) k v := by unfold addT; rw [if_pos hgr]
            refine ⟨rfl, p', cap', ?_, ?_, hloc.imp id (fun h => by omega), hcap', HK.out.setCell (p := g) (by simp) 3 _⟩
            · rw [hA, layT_length]; exact (hs_new h1).trans rfl
            · rw [hA]; exact HP.out.look (heap_setCell_other w7 ⟨g, 3, none⟩ p' _ (fun e => hgp' e.symm))
      · refine sh_call (i := 9) rfl rfl (fun K hK => ?_); go_simp; refine ⟨_, _, ⟨rfl, rfl⟩, hK _ _ ⟨_, CloneP_any (some ⟨p, 0, none⟩) cap t (by omega) _ (B := 0) (Or.inr ⟨p, rfl, Nat.zero_le _, by omega, HP.out⟩), ?_⟩⟩; clear hK K; rintro e w2 ⟨cv, rfl, ho2, hb1⟩; refine ⟨_, rfl, hS.below hb1, ?_⟩; replace hS := hS.below hb1; (obtain ⟨p2, cap2, rfl, hB2, hp2⟩ := own_pl ho2 (by omega); replace h1 := below_look hb1 h1; replace h3 := below_look hb1 h3; replace HP := Lib.hid (HP.out.below hb1); replace HO := Lib.hid (own_below HO.out hb1); replace hwz := Nat.le_trans hwz hb1.size; have HP2 := Lib.hid hp2; have hL2 := hb1.size; clear ho2 hp2 hb1 b4; have b4 := (bc_cell h1).2.2.2.2); try simp only [Zq]
        refine ha_do (i := 4) (by kernel_rfl) rfl rfl (ex_one rfl (one85 b4)) hS ?_; try simp only [Zq]
        refine ha_appP (i := 10) (by kernel_rfl) rfl rfl _ _ rfl (t := t) (t2 := t) (N := N) (by rw [HN.out]; simp) rfl rfl (by omega) (by omega) rfl rfl (HP.out.own hcap hB) HP2.out (by omega) (fun w' hg => hS.grown hg (by simp)) (fun v' w3 ho3 hg3 hloc hS => ?_); try simp only [Zq]
        have hcap' : ∃ p' cap', v' = .slice (some ⟨p', 0, none⟩) N cap' ∧ B ≤ p' ∧ PlAt w3 p' cap' (t ++ t) ∧ cap' ≤ maxLen ∧ (p' = p ∨ w.heap.size < p') ∧ ∀ q, Value.ownBlock (.slice sA (pairsT t).length sc) = some q → q ≠ p' := by
          have hz3 := heap_lt h3
          have hN2 : N = (t ++ t).length := by rw [HN.out]; simp
          rw [hN2] at ho3 ⊢
          obtain ⟨p', cap', rfl, h5, h6⟩ := own_pl ho3 (by simp; omega)
          refine ⟨p', cap', rfl, h5, h6, own_cap ho3, ?_⟩
          rcases hloc with e | e | e
          · have e' : p' = p := by simpa [Value.ownBlock] using e
            exact ⟨Or.inl e', fun q hq => by have := (HO.out.lt q hq).1; omega⟩
          · have e' : p' = w2.heap.size := by simpa [Value.ownBlock] using e
            exact ⟨Or.inr (by omega), fun q hq => by have := (HO.out.lt q hq).2; omega⟩
          · simp [Value.ownBlock] at e
        clear ho3 hloc
        obtain ⟨p', cap', rfl, hB', hp', hcap', hloc, hsv⟩ := hcap'
        replace h1 : w3.heap[g]? = _ := (hg3.block g (heap_lt h1) (fun e => hgp (by cases e; rfl))).trans h1
        replace h3 : w3.heap[w.heap.size]? = _ := (hg3.block _ (heap_lt h3) (fun e => by cases e; omega)).trans h3
        replace HO := Lib.hid (own_same HO.out (w' := w3) (fun q hq he => hg3.block q hq (fun e => by have := (HO.out.lt q he).1; cases e; omega)))
        replace hwz := Nat.le_trans hwz hg3.size
        have HP := Lib.hid hp'
        clear HP2 hg3 hp' b4
        refine hk3 (i := 11) rfl (by kernel_rfl) Zh hS rfl (fun K hK => ?_); go_simp; refine hK _ ?_; clear hK K; try simp only [Zq]
        refine hk3 (i := 12) rfl (by kernel_rfl) Zh hS rfl (fun K hK => ?_); go_simp; refine hK _ ?_; clear hK K; try simp only [Zq]
        refine ha_storeC (i := 13) (by kernel_rfl) rfl rfl 85 _ _ rfl g 4 (.slice (some ⟨p', 0, none⟩) N cap') rfl rfl info85 rfl (by rw [(bc_cell h1).2.2.2.2]; rfl) (frozen_of_row _ _ _ _ _ h1) (hS.setCell (by simp) 4 _) (fun hS => ?_); try simp only [Zq]
        refine wpAnyH_done (by kernel_rfl) ?_ _
        replace h1 := (hs_new h1 (i := 4) (v := .slice (some ⟨p', 0, none⟩) N cap')).trans (by rw [bcells_set4])
        replace h3 : (w3.setCell ⟨g, 4, none⟩ (.slice (some ⟨p', 0, none⟩) N cap')).heap[w.heap.size]? = _ := (heap_setCell_other w3 ⟨g, 4, none⟩ w.heap.size _ (fun e => by have h9 : w.heap.size = g := e; clear e; omega)).trans h3
        replace HO := Lib.hid (own_same HO.out (w' := w3.setCell ⟨g, 4, none⟩ (.slice (some ⟨p', 0, none⟩) N cap')) (fun q hq he => heap_setCell_other w3 ⟨g, 4, none⟩ q _ (fun e => by have := (HO.out.lt q he).1; have h9 : q = g := e; clear e; omega)))
        have hgp' : g ≠ p' := by rcases hloc with e | e <;> omega
        replace HP := Lib.hid (HP.out.look (w' := w3.setCell ⟨g, 4, none⟩ (.slice (some ⟨p', 0, none⟩) N cap')) (heap_setCell_other w3 ⟨g, 4, none⟩ p' _ (fun e => hgp' e.symm)))
        replace hwz : w.heap.size ≤ (w3.setCell ⟨g, 4, none⟩ (.slice (some ⟨p', 0, none⟩) N cap')).heap.size := by simpa using hwz
        replace HK := Lib.hid (HK.out.trans hS)
        clear hS
        generalize w3.setCell ⟨g, 4, none⟩ (.slice (some ⟨p', 0, none⟩) N cap') = w4 at *
        have b4 := (bc_cell h1).2.2.2.2
        go_upto_region 4 with (fail)
        apply wp_region_lit
        iterate 3 (refine wl_k rfl (fun K hK => ?_); go_simp; refine hK _ ?_; clear hK K)
        ((with_reducible apply wl_oneG); exact rfl; exact rfl; exact one85 b4)
        refine wl_clearP rfl _ rfl (t := t ++ t) (p := p') (n := N) (cap := cap') (by rw [HN.out]; simp) (by rw [HN.out]; omega) rfl HP.out ?_
        intro w5 hp5 hk5
        replace h1 := hk5.look h1 (by simpa using hgp')
        replace h3 := hk5.look h3 (by simp; omega)
        replace HO := Lib.hid (own_same HO.out (w' := w5) (fun q hq he => hk5.block q hq (by simpa using hsv q he)))
        replace hwz := Nat.le_trans hwz hk5.size
        replace HK := Lib.hid (HK.out.also hk5 (fun x hx => by simp at hx; subst hx; rcases hloc with e | e; exact Or.inl (by simp [e]); exact Or.inr (by omega)))
        have HP := Lib.hid hp5
        have HSV := Lib.hid hsv
        have hple := pairsT_le t
        clear hp5 hk5 b4 hsv
        go_wp2_with fail
        go_loopw [40] (fun i wr => ∃ j : Nat, j ≤ (pairsT t).length ∧ i = .int .i64 (j : Int) ∧ wr.heap[g]? = some (.cells (bcells kd lv seed (cn t : Int) (.slice (some ⟨p', 0, none⟩) N cap')) 87 (0, 0)) ∧ wr.heap[w.heap.size]? = some (.cells (pair k v) 91 (0, 0)) ∧
          Hid (PlAt wr p' cap' (layAll (HH seed) (List.replicate N none) ((pairsT t).take j))) ∧ Hid (wr.ownsRow W.heap.size 91 2 (.slice sA (pairsT t).length sc) (pairsT t).length (prow (pairsT t))) ∧ w.heap.size ≤ wr.heap.size ∧ Hid (Kept [g, p] w wr)) (fun i _ => (pairsT t).length - (intOf i).toNat)
        case atStart => exact ⟨0, by omega, rfl, h1, h3, HP, HO, hwz, HK⟩
        case round =>
          clear h1 h3 HP HO hwz HK
          obtain ⟨j, hj, rfl, h1, h3, HP, HO, hwz, HK⟩ := hrel
          have hjb : (j : Int) < 1000000 := by omega
          by_cases hlt : j < (pairsT t).length
          · obtain ⟨⟨k', v'⟩, hkv⟩ : ∃ e, (pairsT t)[j]? = some e := ⟨_, List.getElem?_eq_getElem hlt⟩
            obtain ⟨q, cq, hsl, hBq, hrow⟩ := own_pairs HO.out hkv
            simp only [Value.slice.injEq] at hsl
            obtain ⟨rfl, -, rfl⟩ := hsl
            have HR := Lib.hid hrow
            have hks : k'.size ≤ 1000000000 := by
              obtain ⟨x, hx, hxp⟩ := (has_mem (t := t) (k := k') (v := v')).2 (List.mem_of_getElem? hkv)
              have := HS.out x
              rw [hxp] at this; exact this
            have hlj : ((pairsT t).take j).length = j := by rw [List.length_take]; omega
            have HTC := Lib.hid (layAll_cn (H := HH seed) (t := List.replicate N none) ((pairsT t).take j) (by rw [cn_none, hlj, List.length_replicate, HN.out]; omega))
            have HTL := Lib.hid (layAll_length (HH seed) (List.replicate N none) ((pairsT t).take j))
            have HTS : Hid (layAll (HH seed) (List.replicate N none) ((pairsT t).take (j + 1)) = layT (HH seed) (layAll (HH seed) (List.replicate N none) ((pairsT t).take j)) k' v') := Lib.hid (by rw [List.take_add_one, hkv]; exact layAll_snoc _ _ _ _)
            rw [cn_none, hlj, Nat.zero_add] at HTC
            rw [List.length_replicate] at HTL
            generalize layAll (HH seed) (List.replicate N none) ((pairsT t).take j) = T at *
            have LG2 := heap_lt h1
            have LZ2 := heap_lt h3
            have LP2 := HP.out.lt
            have LQ := (HO.out.lt q rfl).2
            clear hrow hkv hlj
            go_upto_region 7 with (fail)
            apply wp_region_lit
            refine wl_k rfl (fun K hK => ?_); go_simp; refine hK _ ?_; clear hK K
            ((with_reducible apply wl_rowG); exact rfl; exact rfl; exact HR.out)
            simp only [Zq]
            refine wl_new (fun ev w => ex_alloc91 rfl ev w) ?_
            intro W5 p5 hb5 hl5 h5
            replace h1 := below_look hb5 h1
            replace h3 := below_look hb5 h3
            replace HP := Lib.hid (HP.out.below hb5)
            replace HO := Lib.hid (own_below HO.out hb5)
            replace HK := Lib.hid (HK.out.below hb5)
            replace hwz := Nat.le_trans hwz hb5.size
            clear hb5 HR
            refine wl_putG p5 (pair k' v') rfl rfl 91 _ h5 info91 rfl (pair_one _ _) ?_
            replace HK := Lib.hid (HK.out.setNew (p := p5) (by omega) (pair k' v'))
            replace h1 := hr_old (cs := pair k' v') h1 (show g ≠ p5 by omega)
            replace h3 := hr_old (cs := pair k' v') h3 (show w.heap.size ≠ p5 by omega)
            replace HO := Lib.hid (own_setRow HO.out (p := p5) (fun e => by simp only [Value.ownBlock, Option.some.injEq] at e; omega) (pair k' v'))
            replace hwz : w.heap.size ≤ (W5.setRow p5 (pair k' v')).heap.size := by simpa using hwz
            have HP5 := Lib.hid (HP.out.look (w' := W5.setRow p5 (pair k' v')) (setRow_other W5 p5 p' (pair k' v') (by omega)))
            have h5' := hr_new (cs := pair k' v') h5
            clear HP h5
            generalize W5.setRow p5 (pair k' v') = w6 at *
            go_upto_region 8 with (fail)
            apply wp_region_lit
            refine wl_k rfl (fun K hK => ?_); go_simp; refine hK _ ?_; clear hK K
            ((with_reducible apply wl_rowG); exact rfl; exact rfl; exact rowPair h5')
            simp only [Zq]
            have HC := Lib.hid (put_any g p' cap' T kd seed (cn t : Int) lv k' v' hks (by rw [HTL.out, HN.out]; omega) (by rw [HTL.out, HN.out]; omega) (cn_gap (by rw [HTL.out, HTC.out, HN.out]; omega)) _ (by rw [HTL.out]; exact h1) HP5.out hgp')
            refine wl_ck rfl (fun K hK => ?_); go_simp; refine ⟨_, _, ⟨rfl, rfl⟩, hK _ _ ⟨_, HC.out, ?_⟩⟩; clear hK K; rintro e w7 ⟨rfl, hp7, hk7⟩; refine ⟨_, rfl, ?_⟩; simp only [Zq]
            replace h1 := hk7.look h1 (by simpa using hgp')
            replace h3 := hk7.look h3 (by simp; omega)
            replace HO := Lib.hid (own_same HO.out (w' := w7) (fun q _ he => hk7.block q ‹_› (by simpa using HSV.out q he)))
            replace hwz := Nat.le_trans hwz hk7.size
            replace HK := Lib.hid (HK.out.also hk7 (fun x hx => by simp at hx; subst hx; rcases hloc with e | e; exact Or.inl (by simp [e]); exact Or.inr (by omega)))
            have HP := Lib.hid hp7
            clear HC HP5 h5' hk7 hp7
            go_wp2_with fail
            go_roundw
            case rel => exact ⟨j + 1, by omega, by go_num, h1, h3, by rw [HTS.out]; exact HP, HO, hwz, HK⟩
            case measure => simp [intOf]; omega
          · obtain rfl : j = (pairsT t).length := by omega
            have HT : Hid (layAll (HH seed) (List.replicate N none) ((pairsT t).take (pairsT t).length) = growT (HH seed) t) := Lib.hid (by rw [List.take_length]; unfold growT; rw [HN.out, Nat.two_mul]; rfl)
            have HGL := Lib.hid (growT_length (HH seed) t)
            have HGG := Lib.hid (grow_good (HH seed) HW.out)
            rw [HT.out] at HP
            rw [show N = (growT (HH seed) t).length by rw [HN.out, HGL.out]; omega] at h1
            clear HO
            go_upto_region 10 with (fail)
            apply wp_region_lit
            refine wl_k rfl (fun K hK => ?_); go_simp; refine hK _ ?_; clear hK K
            ((with_reducible apply wl_rowG); exact rfl; exact rfl; exact rowPair h3)
            simp only [Zq]
            have HC := Lib.hid (put_any g p' cap' ((growT (HH seed) t)) kd seed (cn t : Int) lv k v hk (by rw [HGL.out]; omega) (by rw [HGL.out]; omega) (cn_gap (by rw [HGL.out, HGG.out.2.1]; omega)) _ h1 HP.out hgp')
            refine wl_ck rfl (fun K hK => ?_); go_simp; refine ⟨_, _, ⟨rfl, rfl⟩, hK _ _ ⟨_, HC.out, ?_⟩⟩; clear hK K; rintro e w7 ⟨rfl, hp7, hk7⟩; refine ⟨_, rfl, ?_⟩; simp only [Zq]
            replace h1 := hk7.look h1 (by simpa using hgp')
            clear HP HC
            have b3 := (bc_cell h1).2.2.2.1
            have f3 : w7.frozen? ⟨g, 3, none⟩ = false := frozen_of_row _ _ _ _ _ h1
            have HP := Lib.hid hp7
            replace HK := Lib.hid (HK.out.also hk7 (fun x hx => by simp at hx; subst hx; rcases hloc with e | e; exact Or.inl (by simp [e]); exact Or.inr (by omega)))
            clear hp7 hk7 h3
            go_wp2_with fail
            go_end0
            have hA : addT (HH seed) t k v = layT (HH seed) (growT (HH seed) t) k v := by unfold addT; rw [if_pos hgr]
            refine ⟨rfl, p', cap', ?_, ?_, hloc.imp id (fun h => by omega), hcap', HK.out.setCell (p := g) (by simp) 3 _⟩
            · rw [hA, layT_length]; exact (hs_new h1).trans rfl
            · rw [hA]; exact HP.out.look (heap_setCell_other w7 ⟨g, 3, none⟩ p' _ (fun e => hgp' e.symm))
  · rw [show decide (3 * (t.length : Int) ≤ 4 * (cn t : Int)) = false by simp; omega]
    go_upto_region 10 with (fail)
    have hlt : cn t + 1 < t.length := by omega
    apply wp_region_lit
    refine wl_k rfl (fun K hK => ?_); go_simp; refine hK _ ?_; clear hK K
    ((with_reducible apply wl_rowG); exact rfl; exact rfl; exact rowPair h3)
    simp only [Zq]
    have HC := Lib.hid (put_any g p cap (t) kd seed (cn t : Int) lv k v hk (by omega) (by omega) (cn_gap (by omega)) _ h1 HP.out hgp)
    refine wl_ck rfl (fun K hK => ?_); go_simp; refine ⟨_, _, ⟨rfl, rfl⟩, hK _ _ ⟨_, HC.out, ?_⟩⟩; clear hK K; rintro e w7 ⟨rfl, hp7, hk7⟩; refine ⟨_, rfl, ?_⟩; simp only [Zq]
    replace h1 := hk7.look h1 (by simpa using hgp)
    clear HP HC
    have b3 := (bc_cell h1).2.2.2.1
    have f3 : w7.frozen? ⟨g, 3, none⟩ = false := frozen_of_row _ _ _ _ _ h1
    have HP := Lib.hid hp7
    replace HK := Lib.hid (HK.out.trans (hk7.mono (fun x _ hx => by simp at hx ⊢; exact Or.inr hx)))
    clear hp7 hk7 h3
    go_wp2_with fail
    go_end0
    have hA : addT (HH seed) t k v = layT (HH seed) t k v := by unfold addT; rw [if_neg hgr]
    refine ⟨rfl, p, cap, ?_, ?_, Or.inl rfl, hcap, HK.out.setCell (p := g) (by simp) 3 _⟩
    · rw [hA, layT_length]; exact (hs_new h1).trans rfl
    · rw [hA]; exact HP.out.look (heap_setCell_other w7 ⟨g, 3, none⟩ p _ (fun e => hgp e.symm))
end Go.Proofs.Ytbhdgeoljlhmcaa
