/- slices.Clone of values. -/
import Derived.Test.YtpamocglecangaaPB10
namespace Go.Proofs.Ytpamocglecangaa
open Go.RowKit Go.Proofs.Ytpamocglecangaa.Nm
set_option linter.unusedSimpArgs false
theorem run_es33 (w : World) : (Instr.buildSlice 33 0 #[]).run Try.prog w = .ok (.slice (some ⟨w.heap.size, 0, none⟩) 0 0) (w.alloc (.cells #[] 35)) := by kernel_rfl
theorem ex_es33 {ev : Operand → Value} {o : Oper} {w : World} (ho : o.op = .buildSlice 33 0 #[]) : (execOp ev o).run Try.prog w = .ok (.value (.slice (some ⟨w.heap.size, 0, none⟩) 0 0)) (w.alloc (.cells #[] 35)) := by
  unfold execOp
  have := run_es33 w
  simp [ho, this, Result.andThen]
theorem OwnL.empty {w : World} {q : Nat} (hq : w.heap[q]? = some (.cells #[] 35 (0, 0))) : OwnL w 35 9 (some ⟨q, 0, none⟩) 0 [] := ⟨fun r h => (by cases h), Nat.le_refl _, Nat.zero_le _, .inr ⟨q, #[], rfl, hq, rfl, fun i r h => by simp at h⟩⟩
theorem eq33a (w : World) : (binOp BinOp.eql 33 (.slice none 0 0) (.slice none 0 0)).run Try.prog w = .ok (.bool true) w := by kernel_rfl
theorem eq33b (g n c : Nat) (w : World) : (binOp BinOp.eql 33 (.slice (some ⟨g, 0, none⟩) n c) (.slice none 0 0)).run Try.prog w = .ok (.bool false) w := by kernel_rfl
/-- Rows of values in a block of their own, new. -/
def NewR (w : World) (rows : List (Array Value)) (e : Ending) (w' : World) : Prop := ∃ A c, e = .returned (.slice A rows.length c) ∧ OwnL w' 35 9 A c rows ∧ (∀ g, A = some ⟨g, 0, none⟩ → w.heap.size ≤ g) ∧ Below w.heap.size w w'
section
variable {ops : Array Oper} {rest : List Oper} {o : Oper} {a : Act} {w : World} {Q : Exit → Act → World → Prop} {ty sty : TypeId} {sz by0 : Nat} {A A2 : Option Addr} {c c2 : Nat} {rows news : List (Array Value)} {z : Array Value}
theorem wl_catL (he : Elt sty ty sz by0 z) (hg : o.guard = none) (s x : Operand) (ho : o.op = .call { callee := .builtin .append, args := #[s, x], argTypes := #[sty, sty] }) {g : Nat}
    (hs : a.eval s = .slice A rows.length c) (hx : a.eval x = .slice (some ⟨g, 0, none⟩) news.length c2) (h : OwnL w ty sz A c rows) (h2 : OwnL w ty sz (some ⟨g, 0, none⟩) c2 news) (h1 : ∀ r, r ∈ news → r.all (·.oneCell') = true) (hlen : (rows.length + news.length) * by0 ≤ 140737488355328) (hm : rows.length + news.length ≤ maxLen)
    (hK : ∀ A' c' w', OwnL w' ty sz A' c' (rows ++ news) → Keep (fun b => A = some ⟨b, 0, none⟩) w w' → (A' = A ∨ ∃ g, A' = some ⟨g, 0, none⟩ ∧ w.heap.size ≤ g) → wpList Try.prog ops Q rest (a.put o.dst (.slice A' (rows ++ news).length c')) w') : wpList Try.prog ops Q (o :: rest) a w := by
  obtain ⟨hu, h0, hz, i0, z0, hi, hz0, hz1, hz2, hzl⟩ := he
  have hfl := h2.owns
  obtain ⟨A', c', w', hr, h3, h4, h5⟩ := run_catL (oty := o.type) hu hi hz0 hz1 hz2 (by rw [hzl]; exact hz) h0 h (news := news) h2.size (fun r hr => one_list (h1 r hr)) (a := ⟨g, 0, none⟩) (cn := c2) (fun j u hj => by
    obtain ⟨-, ⟨e, -⟩ | ⟨g', cap, cur, e, -, hg', -, -, hcs, htk⟩⟩ := hfl
    · cases e
    · cases e
      rw [show (Addr.add ⟨g, 0, none⟩ j) = ⟨g, j, none⟩ by rw [Addr.add_mid]; simp, cell_of_row _ _ _ _ _ _ hg']
      rw [← htk, List.getElem?_take] at hj
      split at hj
      · simpa using hj
      · cases hj) hm hlen
  refine wl_w hg ?_ (hK A' c' w' h3 h4 h5)
  unfold execOp
  simp only [ho, resolve, invoke, builtin, Sem.run_bind, Sem.run_pure, Result.andThen_ok, List.map_toArray, List.map_cons, List.map_nil, hs, hx, hr]
end
set_option maxHeartbeats 4000000 in
set_option maxRecDepth 100000 in
theorem CloneR_any {w : World} {A : Option Addr} {c : Nat} {rows : List (Array Value)} (h : OwnL w 35 9 A c rows) (h1 : ∀ r, r ∈ rows → r.all (·.oneCell') = true) (hn : rows.length ≤ 2000000) :
    Calls Try.prog 42 #[.slice A rows.length c] w (NewR w rows) := by
  have HO := Lib.hid h
  have H1 := Lib.hid h1
  have hb := Below.refl w.heap.size w
  rcases h.el with ⟨rfl, rfl, rfl⟩ | ⟨g, cur, rfl, hg, -⟩
  · clear h h1
    have hnil := eq33a
    go_enter Try.func42, Try.ntmps42
    go_upto_region 0 with (fail)
    apply wp_region_lit
    (with_reducible refine wl_k ?_ ?_); exact rfl; intro K hK; go_simp; refine hK _ ?_; clear hK K
    go_upto_region 1 with (fail)
    apply wp_region_lit
    (with_reducible refine wl_k ?_ ?_); exact rfl; intro K hK; go_simp; refine hK _ ?_; clear hK K
    (with_reducible refine wl_k ?_ ?_); exact rfl; intro K hK; go_simp; refine hK _ ?_; clear hK K
    go_upto_region 2 with (fail)
    apply wp_region_lit
    (with_reducible refine wl_k ?_ ?_); exact rfl; intro K hK; go_simp; refine hK _ ?_; clear hK K
    go_wp2_with fail
    go_ret
    exact ⟨none, 0, rfl, OwnL.nil _ _ _, fun g e => (by cases e), hb⟩
  · have hgl := heap_lt hg
    obtain ⟨n, hnn⟩ : ∃ n, n = rows.length := ⟨_, rfl⟩
    rw [← hnn]
    have HN := Lib.hid hnn
    clear h h1 hg hnn
    have hnil := eq33b g n c
    go_enter Try.func42, Try.ntmps42
    go_upto_region 0 with (fail)
    apply wp_region_lit
    (with_reducible refine wl_k ?_ ?_); exact rfl; intro K hK; go_simp; refine hK _ ?_; clear hK K
    go_upto_region 1 with (fail)
    apply wp_region_lit
    (with_reducible refine wl_k ?_ ?_); exact rfl; intro K hK; go_simp; refine hK _ ?_; clear hK K
    (with_reducible refine wl_k ?_ ?_); exact rfl; intro K hK; go_simp; refine hK _ ?_; clear hK K
    go_upto_region 3 with (fail)
    apply wp_region_lit
    refine wl_newv (fun q => .slice (some ⟨q, 0, none⟩) 0 0) rfl (ex_es33 rfl) ?_
    intro W q hbn hlq hq
    simp only [put_lit, List.set_cons_zero, List.set_cons_succ]
    replace HO := Lib.hid (HO.out.old hbn)
    replace hb := hb.trans (hbn.mono hb.size)
    clear hbn
    (with_reducible refine wl_k ?_ ?_); exact rfl; intro K hK; go_simp; refine hK _ ?_; clear hK K
    refine wl_catL elt33 rfl _ _ rfl (A := some ⟨q, 0, none⟩) (rows := []) (c := 0) rfl (show _ = Value.slice (some ⟨g, 0, none⟩) rows.length c by rw [← HN.out]; rfl) (OwnL.empty hq) HO.out H1.out (by simp; omega) (by unfold maxLen; simp; omega) ?_
    intro A9 c9 W9 hown hk9 hA9
    rw [List.nil_append] at hown ⊢
    rw [← HN.out]
    simp only [put_lit, List.set_cons_zero, List.set_cons_succ]
    have hbb := Below.keep hb hk9 (fun b e => by cases e; exact hlq)
    have HOW := Lib.hid hown
    have HA9 : Hid (∀ g, A9 = some ⟨g, 0, none⟩ → w.heap.size ≤ g) := Lib.hid (fun g e => by
      rcases hA9 with e2 | ⟨g', e2, e3⟩
      · rw [e] at e2; cases e2; exact hlq
      · rw [e] at e2; cases e2; have := hb.size; omega)
    clear hown hk9 hA9 hb hq
    (with_reducible refine wl_k ?_ ?_); exact rfl; intro K hK; go_simp; refine hK _ ?_; clear hK K
    go_wp2_with fail
    go_ret
    exact ⟨A9, c9, by rw [← HN.out]; rfl, HOW.out, HA9.out, hbb⟩
end Go.Proofs.Ytpamocglecangaa
