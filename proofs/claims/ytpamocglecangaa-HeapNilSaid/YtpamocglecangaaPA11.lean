/- The program's Append. slices.Clone of values. States never fall: plainly. Values of a heap stay values of it: plainly. Next, plainly: tasks of the topmost level till one is due. The program's end at any value; the topmost level taken out of the heap and put back. -/
import Derived.Test.YtpamocglecangaaPA6
import Derived.Test.YtpamocglecangaaPA4
import Derived.Test.YtpamocglecangaaPA7
import Derived.Test.YtpamocglecangaaPA8
import Derived.Test.YtpamocglecangaaPA9
import Derived.Test.YtpamocglecangaaPA10
namespace Go.Proofs.Ytpamocglecangaa
open Go.RowKit Go.Proofs.Ytpamocglecangaa.Nm
set_option linter.unusedSimpArgs false
section
variable {w w' : World} {G : Gh} {k p : Nat} {h : Hp} {oA : Option Addr} {oc : Nat} {bA : Option Addr} {bc m : Nat} {lA : Option Addr} {lc : Nat}
end
theorem info33 : (Try.prog.info? 33).map (·.size) = some 1 := by kernel_rfl
end Go.Proofs.Ytpamocglecangaa
namespace Go.Proofs.Ytpamocglecangaa
open Go.RowKit Go.Proofs.Ytpamocglecangaa.Nm
set_option linter.unusedSimpArgs false
theorem run_es33 (w : World) : (Instr.buildSlice 33 0 #[]).run Try.prog w = .ok (.slice (some ⟨w.heap.size, 0, none⟩) 0 0) (w.alloc (.cells #[] 35)) := by kernel_rfl
theorem ex_es33 {ev : Operand → Value} {o : Oper} {w : World} (ho : o.op = .buildSlice 33 0 #[]) : (execOp ev o).run Try.prog w = .ok (.value (.slice (some ⟨w.heap.size, 0, none⟩) 0 0)) (w.alloc (.cells #[] 35)) := by
  unfold execOp
  have := run_es33 w
  simp [ho, this, Result.andThen]
theorem OwnL.empty {w : World} {q : Nat} (hq : w.heap[q]? = some (.cells #[] 35 (0, 0))) : OwnL w 35 9 (some ⟨q, 0, none⟩) 0 [] := ⟨fun r h => (by cases h), Nat.le_refl _, Nat.zero_le _, .inr ⟨q, #[], rfl, hq, rfl, fun i r h => by simp at h⟩⟩
theorem eq33a (w : World) : (binOp BinOp.eql 33 (.slice none 0 0) (.slice none 0 0)).run Try.prog w = .ok (.bool true) w := by kernel_rfl
theorem eq33b (g n c : Nat) (w : World) : (binOp BinOp.eql 33 (.slice (some ⟨g, 0, none⟩) n c) (.slice none 0 0)).run Try.prog w = .ok (.bool false) w := by kernel_rfl
/-- Rows of values in a block of their own, new. -/
def NewR (w : World) (rows : List (Array Value)) (e : Ending) (w' : World) : Prop := ∃ A c, e = .returned (.slice A rows.length c) ∧ OwnL w' 35 9 A c rows ∧ (∀ g, A = some ⟨g, 0, none⟩ → w.heap.size ≤ g) ∧ Below w.heap.size w w'
section
variable {ops : Array Oper} {rest : List Oper} {o : Oper} {a : Act} {w : World} {Q : Exit → Act → World → Prop} {ty sty : TypeId} {sz by0 : Nat} {A A2 : Option Addr} {c c2 : Nat} {rows news : List (Array Value)} {z : Array Value}
theorem wl_catL (he : Elt sty ty sz by0 z) (hg : o.guard = none) (s x : Operand) (ho : o.op = .call { callee := .builtin .append, args := #[s, x], argTypes := #[sty, sty] }) {g : Nat}
    (hs : a.eval s = .slice A rows.length c) (hx : a.eval x = .slice (some ⟨g, 0, none⟩) news.length c2) (h : OwnL w ty sz A c rows) (h2 : OwnL w ty sz (some ⟨g, 0, none⟩) c2 news) (h1 : ∀ r, r ∈ news → r.all (·.oneCell') = true) (hlen : (rows.length + news.length) * by0 ≤ 140737488355328) (hm : rows.length + news.length ≤ maxLen)
    (hK : ∀ A' c' w', OwnL w' ty sz A' c' (rows ++ news) → Keep (fun b => A = some ⟨b, 0, none⟩) w w' → (A' = A ∨ ∃ g, A' = some ⟨g, 0, none⟩ ∧ w.heap.size ≤ g) → wpList Try.prog ops Q rest (a.put o.dst (.slice A' (rows ++ news).length c')) w') : wpList Try.prog ops Q (o :: rest) a w := by
  obtain ⟨hu, h0, hz, i0, z0, hi, hz0, hz1, hz2, hzl⟩ := he
  have hfl := h2.owns
  obtain ⟨A', c', w', hr, h3, h4, h5⟩ := run_catL (oty := o.type) hu hi hz0 hz1 hz2 (by rw [hzl]; exact hz) h0 h (news := news) h2.size (fun r hr => one_list (h1 r hr)) (a := ⟨g, 0, none⟩) (cn := c2) (fun j u hj => by
    obtain ⟨-, ⟨e, -⟩ | ⟨g', cap, cur, e, -, hg', -, -, hcs, htk⟩⟩ := hfl
    · cases e
    · cases e
      rw [show (Addr.add ⟨g, 0, none⟩ j) = ⟨g, j, none⟩ by rw [Addr.add_mid]; simp, cell_of_row _ _ _ _ _ _ hg']
      rw [← htk, List.getElem?_take] at hj
      split at hj
      · simpa using hj
      · cases hj) hm hlen
  refine wl_w hg ?_ (hK A' c' w' h3 h4 h5)
  unfold execOp
  simp only [ho, resolve, invoke, builtin, Sem.run_bind, Sem.run_pure, Result.andThen_ok, List.map_toArray, List.map_cons, List.map_nil, hs, hx, hr]
end
set_option maxHeartbeats 4000000 in
set_option maxRecDepth 100000 in
theorem CloneR_any {w : World} {A : Option Addr} {c : Nat} {rows : List (Array Value)} (h : OwnL w 35 9 A c rows) (h1 : ∀ r, r ∈ rows → r.all (·.oneCell') = true) (hn : rows.length ≤ 2000000) :
    Calls Try.prog 42 #[.slice A rows.length c] w (NewR w rows) := by
  have HO := Lib.hid h
  have H1 := Lib.hid h1
  have hb := Below.refl w.heap.size w
  rcases h.el with ⟨rfl, rfl, rfl⟩ | ⟨g, cur, rfl, hg, -⟩
  · clear h h1
    have hnil := eq33a
    go_enter Try.func42, Try.ntmps42
    go_upto_region 0 with (fail)
    apply wp_region_lit
    (with_reducible refine wl_k ?_ ?_); exact rfl; intro K hK; go_simp; refine hK _ ?_; clear hK K
    go_upto_region 1 with (fail)
    apply wp_region_lit
    (with_reducible refine wl_k ?_ ?_); exact rfl; intro K hK; go_simp; refine hK _ ?_; clear hK K
    (with_reducible refine wl_k ?_ ?_); exact rfl; intro K hK; go_simp; refine hK _ ?_; clear hK K
    go_upto_region 2 with (fail)
    apply wp_region_lit
    (with_reducible refine wl_k ?_ ?_); exact rfl; intro K hK; go_simp; refine hK _ ?_; clear hK K
    go_wp2_with fail
    go_ret
    exact ⟨none, 0, rfl, OwnL.nil _ _ _, fun g e => (by cases e), hb⟩
  · have hgl := heap_lt hg
    obtain ⟨n, hnn⟩ : ∃ n, n = rows.length := ⟨_, rfl⟩
    rw [← hnn]
    have HN := Lib.hid hnn
    clear h h1 hg hnn
    have hnil := eq33b g n c
    go_enter Try.func42, Try.ntmps42
    go_upto_region 0 with (fail)
    apply wp_region_lit
    (with_reducible refine wl_k ?_ ?_); exact rfl; intro K hK; go_simp; refine hK _ ?_; clear hK K
    go_upto_region 1 with (fail)
    apply wp_region_lit
    (with_reducible refine wl_k ?_ ?_); exact rfl; intro K hK; go_simp; refine hK _ ?_; clear hK K
    (with_reducible refine wl_k ?_ ?_); exact rfl; intro K hK; go_simp; refine hK _ ?_; clear hK K
    go_upto_region 3 with (fail)
    apply wp_region_lit
    refine wl_newv (fun q => .slice (some ⟨q, 0, none⟩) 0 0) rfl (ex_es33 rfl) ?_
    intro W q hbn hlq hq
    simp only [put_lit, List.set_cons_zero, List.set_cons_succ]
    replace HO := Lib.hid (HO.out.old hbn)
    replace hb := hb.trans (hbn.mono hb.size)
    clear hbn
    (with_reducible refine wl_k ?_ ?_); exact rfl; intro K hK; go_simp; refine hK _ ?_; clear hK K
    refine wl_catL elt33 rfl _ _ rfl (A := some ⟨q, 0, none⟩) (rows := []) (c := 0) rfl (show _ = Value.slice (some ⟨g, 0, none⟩) rows.length c by rw [← HN.out]; rfl) (OwnL.empty hq) HO.out H1.out (by simp; omega) (by unfold maxLen; simp; omega) ?_
    intro A9 c9 W9 hown hk9 hA9
    rw [List.nil_append] at hown ⊢
    rw [← HN.out]
    simp only [put_lit, List.set_cons_zero, List.set_cons_succ]
    have hbb := Below.keep hb hk9 (fun b e => by cases e; exact hlq)
    have HOW := Lib.hid hown
    have HA9 : Hid (∀ g, A9 = some ⟨g, 0, none⟩ → w.heap.size ≤ g) := Lib.hid (fun g e => by
      rcases hA9 with e2 | ⟨g', e2, e3⟩
      · rw [e] at e2; cases e2; exact hlq
      · rw [e] at e2; cases e2; have := hb.size; omega)
    clear hown hk9 hA9 hb hq
    (with_reducible refine wl_k ?_ ?_); exact rfl; intro K hK; go_simp; refine hK _ ?_; clear hK K
    go_wp2_with fail
    go_ret
    exact ⟨A9, c9, by rw [← HN.out]; rfl, HOW.out, HA9.out, hbb⟩
end Go.Proofs.Ytpamocglecangaa
namespace Go.Proofs.Ytpamocglecangaa
def OkS (l : List Ob) : Prop := ∀ o, o ∈ l → 1 ≤ o.state ∧ o.state ≤ 3
/-- Objects behind an operation: none is gone, none of their states has fallen. -/
def Up (l l' : List Ob) : Prop := OkS l → (∀ (i : Nat) (o : Ob), l[i]? = some o → ∃ o', l'[i]? = some o' ∧ o.state ≤ o'.state) ∧ OkS l'
theorem Up.refl (l : List Ob) : Up l l := fun h => ⟨fun _ o h => ⟨o, h, Int.le_refl _⟩, h⟩
theorem Up.trans {l m n : List Ob} (h : Up l m) (h2 : Up m n) : Up l n := fun ok => by
  obtain ⟨a1, a2⟩ := h ok
  obtain ⟨b1, b2⟩ := h2 a2
  refine ⟨fun i o ho => ?_, b2⟩
  obtain ⟨o', h3, h4⟩ := a1 i o ho
  obtain ⟨o2, h5, h6⟩ := b1 i o' h3
  exact ⟨o2, h5, Int.le_trans h4 h6⟩
theorem Up.modify {l : List Ob} {n : Nat} {f : Ob → Ob} (hf : ∀ o, l[n]? = some o → 1 ≤ o.state → o.state ≤ 3 → o.state ≤ (f o).state ∧ (f o).state ≤ 3) : Up l (l.modify n f) := fun ok => by
  have hg : ∀ i : Nat, (l.modify n f)[i]? = (if n = i then l[i]?.map f else l[i]?) := fun i => by
    rw [List.getElem?_modify]
    by_cases e : n = i
    · simp [e]
    · simp [e]
  refine ⟨fun i o ho => ?_, fun o ho => ?_⟩
  · rw [hg]
    split
    · rename_i e
      subst e
      rw [ho]
      have h2 := ok o (List.mem_of_getElem? ho)
      exact ⟨f o, rfl, (hf o ho h2.1 h2.2).1⟩
    · exact ⟨o, ho, Int.le_refl _⟩
  · obtain ⟨i, hi⟩ := List.mem_iff_getElem?.1 ho
    rw [hg] at hi
    split at hi
    · rename_i e
      subst e
      cases h1 : l[n]? with
      | none => rw [h1] at hi; cases hi
      | some x =>
        rw [h1] at hi
        cases hi
        have h2 := ok x (List.mem_of_getElem? h1)
        have h3 := hf x h1 h2.1 h2.2
        exact ⟨by omega, h3.2⟩
    · exact ok o (List.mem_of_getElem? hi)
theorem Up.set {l : List Ob} {n : Nat} {o o' : Ob} (ho : l[n]? = some o) (h1 : 1 ≤ o.state → o.state ≤ 3 → o.state ≤ o'.state ∧ o'.state ≤ 3) : Up l (l.set n o') := by
  have : l.set n o' = l.modify n fun _ => o' := (modify_eq (fun _ => o') ho).symm
  rw [this]
  exact Up.modify fun x hx => by rw [ho] at hx; cases hx; exact h1
theorem Up.add (l : List Ob) {o : Ob} (h : o.state = 1) : Up l (l ++ [o]) := fun ok => ⟨fun i x hx => ⟨x, by rw [List.getElem?_append_left (List.getElem?_eq_some_iff.1 hx).1]; exact hx, Int.le_refl _⟩, fun x hx => by
  rcases List.mem_append.1 hx with hx | hx
  · exact ok x hx
  · rw [List.mem_singleton.1 hx, h]; omega⟩
end Go.Proofs.Ytpamocglecangaa
namespace Go.Proofs.Ytpamocglecangaa
/-- All values in a heap are of it. -/
structure Wf (h : Hp) : Prop where
  fld : ∀ o, o ∈ h.obs → ∀ u, u ∈ o.fields → ofV h.obs.length h.bus.length u = true
  elm : ∀ b, b ∈ h.bus → ∀ u, u ∈ b.elems → ofV h.obs.length h.bus.length u = true
  tsk : ∀ ts, ts ∈ h.lev → ∀ t, t ∈ ts → (∀ v, t = .val v → ofV h.obs.length h.bus.length v = true) ∧ ∀ o i, t = .flds o i → o < h.obs.length
/-- The same but for numbers. -/
structure SameF (h h' : Hp) : Prop where
  obs : h'.obs.map (·.fields) = h.obs.map (·.fields)
  bus : h'.bus.map (·.elems) = h.bus.map (·.elems)
  lev : h'.lev = h.lev
theorem SameF.refl (h : Hp) : SameF h h := ⟨rfl, rfl, rfl⟩
theorem SameF.trans {a b c : Hp} (h : SameF a b) (h2 : SameF b c) : SameF a c := ⟨h2.obs.trans h.obs, h2.bus.trans h.bus, h2.lev.trans h.lev⟩
theorem Wf.same {h h' : Hp} (hw : Wf h) (hs : SameF h h') : Wf h' := by
  have h1 : h'.obs.length = h.obs.length := by have := congrArg List.length hs.obs; simpa using this
  have h2 : h'.bus.length = h.bus.length := by have := congrArg List.length hs.bus; simpa using this
  refine ⟨fun o ho u hu => ?_, fun b hb u hu => ?_, fun ts hts t ht => ?_⟩
  · rw [h1, h2]
    have : o.fields ∈ h.obs.map (·.fields) := by rw [← hs.obs]; exact List.mem_map_of_mem ho
    obtain ⟨o', ho', e⟩ := List.mem_map.1 this
    exact hw.fld o' ho' u (by rw [e]; exact hu)
  · rw [h1, h2]
    have : b.elems ∈ h.bus.map (·.elems) := by rw [← hs.bus]; exact List.mem_map_of_mem hb
    obtain ⟨b', hb', e⟩ := List.mem_map.1 this
    exact hw.elm b' hb' u (by rw [e]; exact hu)
  · rw [hs.lev] at hts
    rw [h1, h2]
    exact hw.tsk ts hts t ht
theorem Wf.mono {h : Hp} (hw : Wf h) {obs : List Ob} {bus : List Bu} (h1 : h.obs.length ≤ obs.length) (h2 : h.bus.length ≤ bus.length) (ho : ∀ o, o ∈ obs → (∃ o', o' ∈ h.obs ∧ ∀ u, u ∈ o.fields → u ∈ o'.fields) ∨ ∀ u, u ∈ o.fields → ofV obs.length bus.length u = true) (hb : ∀ b, b ∈ bus → (∃ b', b' ∈ h.bus ∧ ∀ u, u ∈ b.elems → u ∈ b'.elems) ∨ ∀ u, u ∈ b.elems → ofV obs.length bus.length u = true) : Wf { h with obs := obs, bus := bus } where
  fld := fun o hmem u hu => by
    rcases ho o hmem with ⟨o', h3, h4⟩ | h3
    · exact ofV_mono h1 h2 u (hw.fld o' h3 u (h4 u hu))
    · exact h3 u hu
  elm := fun b hmem u hu => by
    rcases hb b hmem with ⟨b', h3, h4⟩ | h3
    · exact ofV_mono h1 h2 u (hw.elm b' h3 u (h4 u hu))
    · exact h3 u hu
  tsk := fun ts hts t ht => by
    obtain ⟨h3, h4⟩ := hw.tsk ts hts t ht
    exact ⟨fun v e => ofV_mono h1 h2 v (h3 v e), fun o i e => Nat.lt_of_lt_of_le (h4 o i e) h1⟩
theorem ofV_zero (no nb : Nat) : ofV no nb va0 = true := by rw [ofV_eq]; rfl
theorem set_mem {α : Type} {l : List α} {n : Nat} {a x : α} (h : x ∈ l.set n a) : x ∈ l ∨ x = a := by
  obtain ⟨i, hi⟩ := List.mem_iff_getElem?.1 h
  by_cases e : n = i
  · subst e
    have hl : n < l.length := by have := (List.getElem?_eq_some_iff.1 hi).1; rwa [List.length_set] at this
    rw [List.getElem?_set_self hl] at hi
    cases hi; exact .inr rfl
  · rw [List.getElem?_set_ne e] at hi
    exact .inl (List.mem_of_getElem? hi)
theorem Wf.setO {h : Hp} (hw : Wf h) {n : Nat} {o o' : Ob} (ho : h.obs[n]? = some o) (hf : ∀ u, u ∈ o'.fields → u ∈ o.fields ∨ ofV h.obs.length h.bus.length u = true) : Wf { h with obs := h.obs.set n o' } := by
  refine hw.mono (by simp) (Nat.le_refl _) (fun x hx => ?_) (fun b hb => .inl ⟨b, hb, fun _ h => h⟩)
  rcases set_mem hx with hx | rfl
  · exact .inl ⟨x, hx, fun _ h => h⟩
  · refine .inr fun u hu => ?_
    rw [List.length_set]
    rcases hf u hu with h1 | h1
    · exact hw.fld o (List.mem_of_getElem? ho) u h1
    · exact h1
theorem Wf.setB {h : Hp} (hw : Wf h) {n : Nat} {b b' : Bu} (hb : h.bus[n]? = some b) (hf : ∀ u, u ∈ b'.elems → u ∈ b.elems ∨ ofV h.obs.length h.bus.length u = true) : Wf { h with bus := h.bus.set n b' } := by
  refine hw.mono (Nat.le_refl _) (by simp) (fun o ho => .inl ⟨o, ho, fun _ h => h⟩) (fun x hx => ?_)
  rcases set_mem hx with hx | rfl
  · exact .inl ⟨x, hx, fun _ h => h⟩
  · refine .inr fun u hu => ?_
    rw [List.length_set]
    rcases hf u hu with h1 | h1
    · exact hw.elm b (List.mem_of_getElem? hb) u h1
    · exact h1
theorem later_mem {l : List Va} {t : Tk} (h : t ∈ laterV l) : ∃ v, v ∈ l ∧ t = .val v := by
  unfold laterV at h
  obtain ⟨v, hv, e⟩ := List.mem_map.1 h
  exact ⟨v, List.mem_reverse.1 hv, e.symm⟩
/-- A list of tasks of a heap. -/
def WfT (h : Hp) (l : List Tk) : Prop := ∀ t, t ∈ l → (∀ v, t = .val v → ofV h.obs.length h.bus.length v = true) ∧ ∀ o i, t = .flds o i → o < h.obs.length
theorem parts_of {no nb : Nat} {v : Va} (h : ofV no nb v = true) (hk : hasK v.kind = true) : ∀ u, u ∈ v.parts → ofV no nb u = true := by
  rw [hasK_eq] at hk
  simp at hk
  rw [ofV_eq, if_neg (by omega), if_neg (by omega), if_pos (by rw [hasK_eq]; simpa using hk)] at h
  exact ofVs_iff.1 h
theorem WfT.len {h h' : Hp} {l : List Tk} (hl : WfT h l) (h1 : h'.obs.length = h.obs.length) (h2 : h'.bus.length = h.bus.length) : WfT h' l := fun t ht => by rw [h1, h2]; exact hl t ht
theorem WfT.cat {h : Hp} {l m : List Tk} (hl : WfT h l) (hm : WfT h m) : WfT h (l ++ m) := fun t ht => by
  rcases List.mem_append.1 ht with ht | ht
  · exact hl t ht
  · exact hm t ht
theorem WfT.later {h : Hp} {l : List Va} (hl : ∀ u, u ∈ l → ofV h.obs.length h.bus.length u = true) : WfT h (laterV l) := fun t ht => by
  obtain ⟨v, hv, rfl⟩ := later_mem ht
  exact ⟨fun u e => by cases e; exact hl v hv, fun o i e => by cases e⟩
theorem modify_same {α : Type} {l : List α} {n : Nat} {f : α → α} (h : l[n]? = none) : l.modify n f = l := by
  apply List.ext_getElem?
  intro j
  rw [List.getElem?_modify]
  by_cases e : n = j
  · rw [← e, h]; rfl
  · simp [e]
theorem Wf.modO {h : Hp} (hw : Wf h) {n : Nat} {f : Ob → Ob} (hf : ∀ o, h.obs[n]? = some o → ∀ u, u ∈ (f o).fields → u ∈ o.fields ∨ u = va0) : Wf { h with obs := h.obs.modify n f } := by
  cases ho : h.obs[n]? with
  | none => rw [modify_same ho]; exact hw
  | some o =>
    rw [modify_eq f ho]
    exact hw.setO ho fun u hu => (hf o ho u hu).imp id fun e => by rw [e]; exact ofV_zero _ _
theorem Wf.modB {h : Hp} (hw : Wf h) {n : Nat} {f : Bu → Bu} (hf : ∀ b, h.bus[n]? = some b → ∀ u, u ∈ (f b).elems → u ∈ b.elems) : Wf { h with bus := h.bus.modify n f } := by
  cases hb : h.bus[n]? with
  | none => rw [modify_same hb]; exact hw
  | some b =>
    rw [modify_eq f hb]
    exact hw.setB hb fun u hu => .inl (hf b hb u hu)
/-- A task done keeps all values of the heap. -/
theorem step_wf {h : Hp} (hw : Wf h) {l : List Tk} {t : Tk} (hl : WfT h (l ++ [t])) : Wf (stepV' h l t).1 ∧ WfT (stepV' h l t).1 (stepV' h l t).2.1 := by
  have hll : WfT h l := fun x hx => hl x (List.mem_append.2 (.inl hx))
  have ht := hl t (by simp)
  cases t with
  | flds o i =>
    have hol : o < h.obs.length := ht.2 o i rfl
    cases ho : h.obs[o]? with
    | none => simp only [stepV', ho]; exact ⟨hw, hll⟩
    | some ob =>
      cases hf : ob.fields[i]? with
      | some v =>
        simp only [stepV', ho, hf]
        refine ⟨hw, hll.cat fun x hx => ?_⟩
        simp only [List.mem_cons, List.not_mem_nil, or_false] at hx
        rcases hx with rfl | rfl
        · exact ⟨fun v e => (by cases e), fun o i e => by cases e; exact hol⟩
        · exact ⟨fun u e => by cases e; exact hw.fld ob (List.mem_of_getElem? ho) v (List.mem_of_getElem? hf), fun o i e => by cases e⟩
      | none =>
        simp only [stepV', ho, hf]
        exact ⟨hw.modO fun x _ u hu => .inr (List.mem_replicate.1 hu).2, hll.len (by simp) rfl⟩
  | val v =>
    have hv := ht.1 v rfl
    by_cases c7 : v.kind = 7
    · have hn : v.num.toNat < h.obs.length := by
        rw [ofV_eq, if_pos (.inl c7)] at hv
        have := of_decide_eq_true hv
        omega
      cases ho : h.obs[v.num.toNat]? with
      | none => simp only [stepV', c7, if_true, ho]; exact ⟨hw, hll⟩
      | some ob =>
        by_cases hc : w64 (ob.count + -1) ≠ 0 ∨ ob.state ≠ 1
        · simp only [stepV', c7, if_true, ho, if_pos hc]
          exact ⟨hw.modO fun x _ u hu => .inl hu, hll.len (by simp) rfl⟩
        · simp only [stepV', c7, if_true, ho, if_neg hc]
          refine ⟨hw.modO fun x _ u hu => .inl hu, WfT.cat (hll.len (by simp) rfl) fun x hx => ?_⟩
          rw [List.mem_singleton.1 hx]
          exact ⟨fun u e => (by cases e), fun o i e => by cases e; simpa using hn⟩
    · by_cases c11 : v.kind = 11
      · simp only [stepV', if_neg c7, if_pos c11]
        exact ⟨hw.modO fun x _ u hu => .inl hu, hll.len (by simp) rfl⟩
      · by_cases c8 : v.kind = 8
        · cases hb : h.bus[v.num.toNat]? with
          | none => simp only [stepV', if_neg c7, if_neg c11, if_pos c8, hb]; exact ⟨hw, hll⟩
          | some b =>
            by_cases hc : w64 (b.count + -1) = 0
            · simp only [stepV', if_neg c7, if_neg c11, if_pos c8, hb, if_pos hc]
              exact ⟨hw.modB fun x _ u hu => (by cases hu), (hll.cat (WfT.later fun u hu => hw.elm b (List.mem_of_getElem? hb) u hu)).len rfl (by simp)⟩
            · simp only [stepV', if_neg c7, if_neg c11, if_pos c8, hb, if_neg hc]
              exact ⟨hw.modB fun x _ u hu => hu, hll.len rfl (by simp)⟩
        · by_cases c5 : v.kind = 5
          · simp only [stepV', if_neg c7, if_neg c11, if_neg c8, if_pos c5]
            exact ⟨hw, hll.cat (WfT.later (parts_of hv (by rw [hasK_eq, c5]; rfl)))⟩
          · by_cases ck : hasK v.kind = true
            · simp only [stepV', if_neg c7, if_neg c11, if_neg c8, if_neg c5, if_pos ck]
              exact ⟨hw, hll.cat (WfT.later (parts_of hv ck))⟩
            · simp only [stepV', if_neg c7, if_neg c11, if_neg c8, if_neg c5, if_neg ck]
              exact ⟨hw, hll⟩
end Go.Proofs.Ytpamocglecangaa
namespace Go.Proofs.Ytpamocglecangaa
def runN : Nat → Hp → List Tk → Hp × List Tk × Option Va
  | 0, h, l => (h, l, none)
  | n + 1, h, l => match l.getLast? with
    | none => (h, l, none)
    | some t => match (stepV' h l.dropLast t).2.2 with
      | some v => ((stepV' h l.dropLast t).1, (stepV' h l.dropLast t).2.1, some v)
      | none => runN n (stepV' h l.dropLast t).1 (stepV' h l.dropLast t).2.1
def nextP (h : Hp) : Hp × Va × Bool := match h.lev.getLast? with
  | none => (h, va0, false)
  | some l => match (runN (weight h l) h l).2.2 with
    | some v => ({ (runN (weight h l) h l).1 with lev := h.lev.dropLast ++ [(runN (weight h l) h l).2.1] }, v, true)
    | none => ({ (runN (weight h l) h l).1 with lev := h.lev.dropLast }, va0, false)
theorem Up.len {l l' : List Ob} (h : Up l l') (ok : OkS l) : l.length ≤ l'.length := by
  rcases Nat.lt_or_ge l'.length l.length with h1 | h1
  · obtain ⟨o', h2, -⟩ := (h ok).1 l'.length _ (List.getElem?_eq_getElem h1)
    rw [List.getElem?_eq_none (Nat.le_refl _)] at h2
    cases h2
  · exact h1
end Go.Proofs.Ytpamocglecangaa
namespace Go.Proofs.Ytpamocglecangaa
open Go.RowKit Go.Proofs.Ytpamocglecangaa.Nm
theorem end_any {w0 : World} {G0 : Gh} {k p : Nat} {h : Hp} {last : Array Value} {ts : List Tk} {A : Option Addr} {c : Nat} {w : World} {G : Gh} (d : TopD w0 G0 k p h last ts A c w G) {v : Va} {rv x : Array Value} (hv : VAt w (Imm G) v rv) {q : Nat}
    (hq : w.heap[q]? = some (.cells (rv ++ x) 101 (0, 0))) (hqG : G q = some (k, .tmp)) (hq0 : w0.heap.size ≤ q) (ho : ofV h.obs.length h.bus.length v = true) (hroom : weight h (ts ++ [.val v]) ≤ 700000000000) :
    Calls Try.prog 76 #[.pointer (some ⟨p, 0, none⟩), .slice A ts.length c, .pointer (some ⟨q, 0, none⟩)] w (EndT w0 G0 k p q last x (stepV' h ts (.val v))) := by
  by_cases e7 : v.kind = 7
  · exact End_obj d hv hq hqG hq0 ho hroom e7
  by_cases e11 : v.kind = 11
  · exact End_weak d hv hq hqG hq0 ho hroom e11
  by_cases e8 : v.kind = 8
  · exact End_buf d hv hq hqG hq0 ho hroom e8
  by_cases e5 : v.kind = 5
  · exact End_struct d hv hq hqG hroom e5
  by_cases e6 : v.kind = 6
  · exact End_part6 d hv hq hqG hroom e6
  by_cases e9 : v.kind = 9
  · exact End_part9 d hv hq hqG hroom e9
  by_cases e10 : v.kind = 10
  · exact End_part10 d hv hq hqG hroom e10
  refine End_plain d hv hq hqG ?_
  rw [ofV_eq, if_neg (by omega), if_neg e8, if_neg (by unfold hasK; simp [e5, e6, e9, e10])] at ho
  exact of_decide_eq_true ho
section
variable {w0 w w' : World} {G0 G G' : Gh} {k p : Nat} {h h' : Hp} {last : Array Value} {ts : List Tk} {A : Option Addr} {c : Nat} {oA : Option Addr} {oc : Nat} {bA : Option Addr} {bc m : Nat} {lA : Option Addr} {lc : Nat}
def Hp.setL (h : Hp) (l : List (List Tk)) : Hp := { h with lev := l }
theorem HAt.top {low : List (List Tk)} (hh : HAt w G k p (h.setL (low ++ [ts])) oA oc bA bc m lA lc) : ∃ tA tc g, lA = some ⟨g, 0, none⟩ ∧ G g = some (k, .lar) ∧ HTop w G k p (h.setL low) #[.slice tA ts.length tc] oA oc bA bc m lA lc ∧ TksAt w G (k, .lvl low.length) ts tA tc ∧ ∀ w', w'.heap[g]? = w.heap[g]? → OneAt w' 98 ⟨g, low.length, none⟩ (.slice tA ts.length tc) := by
  obtain ⟨rows, ho, hl, hr, hv⟩ := hh.lev
  have hl2 : rows.length = low.length + 1 := by rw [hl]; show (low ++ [ts]).length = _; rw [List.length_append]; rfl
  have hne : rows ≠ [] := fun e => by rw [e] at hl2; simp at hl2
  obtain ⟨rows', last, rfl⟩ : ∃ r' l, rows = r' ++ [l] := ⟨rows.dropLast, rows.getLast hne, (List.dropLast_concat_getLast hne).symm⟩
  have hl3 : rows'.length = low.length := by simpa using hl2
  have hlast : (rows' ++ [last])[low.length]? = some last := by rw [← hl3]; exact List.getElem?_concat_length
  obtain ⟨tA, tc, e, ht⟩ := hv low.length ts last (by show (low ++ [ts])[low.length]? = _; exact List.getElem?_concat_length) hlast
  obtain ⟨g, cur, eA, -⟩ := ho.addr (i := 0) (by simp)
  subst eA
  refine ⟨tA, tc, g, rfl, hr g rfl, ⟨?_, hh.rp, hh.rm, hh.obs, hh.bus, ⟨rows', by rw [← e]; exact ho, hl3, hr, fun i t row hi hri => ?_⟩, hh.map⟩, ht, fun w' hw => ?_⟩
  · have := hh.blk
    have e2 : (h.setL (low ++ [ts])).lev.length = (h.setL low).lev.length + 1 := by show (low ++ [ts]).length = low.length + 1; simp
    rw [e2] at this
    exact this
  · have hil : i < low.length := (List.getElem?_eq_some_iff.1 hi).1
    exact hv i t row (by show (low ++ [ts])[i]? = _; rw [List.getElem?_append_left hil]; exact hi) (by rw [List.getElem?_append_left (by omega)]; exact hri)
  · have h2 := (ho.same (w' := w') fun g' e _ => by cases e; exact hw).cell hlast (j := 0) (x := .slice tA ts.length tc) (by rw [e]; rfl)
    exact one_of u98 rfl (by simpa using h2)
/-- The level put back, with other tasks. -/
theorem HTop.put (hh : HTop w G k p h last oA oc bA bc m lA lc) (ht : TksAt w G (k, .lvl h.lev.length) ts A c) : ∃ g, lA = some ⟨g, 0, none⟩ ∧ G g = some (k, .lar) ∧ (w.cell? ⟨g, h.lev.length, none⟩).isSome = true ∧ w.frozen? ⟨g, h.lev.length, none⟩ = false ∧
    HAt (w.setCell ⟨g, h.lev.length, none⟩ (.slice A ts.length c)) G k p (h.setL (h.lev ++ [ts])) oA oc bA bc m lA lc := by
  obtain ⟨rows, ho, hl, hr, hv⟩ := hh.lev
  have hlast : (rows ++ [last])[h.lev.length]? = some last := by rw [← hl]; exact List.getElem?_concat_length
  obtain ⟨g, cur, eA, -⟩ := ho.addr (i := 0) (by simp)
  subst eA
  have hgr := hr g rfl
  obtain ⟨h1, h2⟩ := ho.lies hlast (j := 0) (by omega)
  have hset := ho.set hlast (j := 0) (by omega) (.slice A ts.length c)
  simp only [Nat.mul_one, Nat.add_zero] at h1 h2 hset
  have hk := Keep.cellOne w g h.lev.length (.slice A ts.length c)
  have hne : ∀ b r, b < w.heap.size → G b = some (k, r) → r ≠ .lar → (w.setCell ⟨g, h.lev.length, none⟩ (.slice A ts.length c)).heap[b]? = w.heap[b]? := fun b r hb e hr => hk.block b hb fun e2 => by rw [e2, hgr] at e; cases e; exact hr rfl
  have hno : ∀ b, b < w.heap.size → G b = none → (w.setCell ⟨g, h.lev.length, none⟩ (.slice A ts.length c)).heap[b]? = w.heap[b]? := fun b hb e => hk.block b hb fun e2 => by rw [e2, hgr] at e; cases e
  have hsl : last.setIfInBounds 0 (.slice A ts.length c) = #[.slice A ts.length c] := by
    have hs := ho.size last (by simp)
    apply Array.ext
    · rw [Array.size_setIfInBounds, hs]; rfl
    · intro i h1 h2
      rw [Array.size_setIfInBounds, hs] at h1
      obtain rfl : i = 0 := by omega
      simp
  rw [hsl] at hset
  have hrset : (rows ++ [last]).set h.lev.length #[.slice A ts.length c] = rows ++ [#[.slice A ts.length c]] := by rw [← hl]; simp
  rw [hrset] at hset
  refine ⟨g, rfl, hgr, h1, h2, ⟨?_, hh.rp, hh.rm, ?_, ?_, ⟨_, hset, ?_, hr, fun i t row hi hri => ?_⟩, ?_⟩⟩
  · rw [hne p _ (heap_lt hh.blk) hh.rp (by simp)]
    have e2 : (h.setL (h.lev ++ [ts])).lev.length = h.lev.length + 1 := by show (h.lev ++ [ts]).length = _; simp
    rw [e2]
    exact hh.blk
  · exact hh.obs.same (fun b hb e => by rcases e with e | ⟨i, e⟩ <;> exact hne b _ hb e (by simp)) hno
  · exact hh.bus.same (fun b hb e => by rcases e with e | ⟨i, e⟩ <;> exact hne b _ hb e (by simp)) hno
  · show _ = (h.lev ++ [ts]).length; simp [hl]
  · have hi2 : (h.lev ++ [ts])[i]? = some t := hi
    have hil := (List.getElem?_eq_some_iff.1 hi2).1
    rw [List.length_append, List.length_singleton] at hil
    by_cases e : i < h.lev.length
    · rw [List.getElem?_append_left e] at hi2
      rw [List.getElem?_append_left (by omega)] at hri
      obtain ⟨tA, tc, h3, h4⟩ := hv i t row hi2 hri
      exact ⟨tA, tc, h3, h4.same (fun b hb e => hne b _ hb e (by simp)) hno⟩
    · obtain rfl : i = h.lev.length := by omega
      rw [List.getElem?_concat_length] at hi2
      rw [← hl, List.getElem?_concat_length] at hri
      cases hi2; cases hri
      exact ⟨A, c, rfl, ht.same (fun b hb e => hne b _ hb e (by simp)) hno⟩
  · exact hh.map.same fun hl => hne m _ hl hh.rm (by simp)
/-- The level taken away. -/
theorem HTop.drop (hh : HTop w G k p h last oA oc bA bc m lA lc) : HAt (w.setCell ⟨p, 3, none⟩ (.slice lA h.lev.length lc)) G k p h oA oc bA bc m lA lc := by
  obtain ⟨rows, ho, hl, hr, hv⟩ := hh.lev
  have hset := (hdr_set (j := 3) (v := .slice lA h.lev.length lc) hh.blk).2.2
  have hk := Keep.cellOne w p 3 (.slice lA h.lev.length lc)
  have hne : ∀ b r, b < w.heap.size → G b = some (k, r) → r ≠ .hdr → (w.setCell ⟨p, 3, none⟩ (.slice lA h.lev.length lc)).heap[b]? = w.heap[b]? := fun b r hb e hr => hk.block b hb fun e2 => by rw [e2, hh.rp] at e; cases e; exact hr rfl
  have hno : ∀ b, b < w.heap.size → G b = none → (w.setCell ⟨p, 3, none⟩ (.slice lA h.lev.length lc)).heap[b]? = w.heap[b]? := fun b hb e => hk.block b hb fun e2 => by rw [e2, hh.rp] at e; cases e
  refine ⟨?_, hh.rp, hh.rm, ?_, ?_, ⟨rows, ?_, hl, hr, fun i t row hi hri => ?_⟩, ?_⟩
  · rw [hset]; rfl
  · exact hh.obs.same (fun b hb e => by rcases e with e | ⟨i, e⟩ <;> exact hne b _ hb e (by simp)) hno
  · exact hh.bus.same (fun b hb e => by rcases e with e | ⟨i, e⟩ <;> exact hne b _ hb e (by simp)) hno
  · have h1 := ho.cut rows.length
    rw [List.take_left] at h1
    exact h1.same fun g e hg => hne g _ hg (hr g e) (by simp)
  · obtain ⟨tA, tc, h3, h4⟩ := hv i t row hi hri
    exact ⟨tA, tc, h3, h4.same (fun b hb e => hne b _ hb e (by simp)) hno⟩
  · exact hh.map.same fun hl => hne m _ hl hh.rm (by simp)
/-- The last task of a level, and the others. -/
theorem TksAt.pop {r : Nat × Role} {t : Tk} (h : TksAt w G r (ts ++ [t]) A c) : TksAt w G r ts A c ∧ ∃ g row, A = some ⟨g, 0, none⟩ ∧ G g = some r ∧ TkAt w G t row ∧ row.size = 12 ∧ ∀ w', w'.heap[g]? = w.heap[g]? → RowAt w' 101 ⟨g, ts.length * 12, none⟩ row := by
  obtain ⟨rows, ho, hl, hr, hv⟩ := h
  have hl2 : rows.length = ts.length + 1 := by rw [hl]; simp
  have hi : ts.length < rows.length := by omega
  have hri : rows[ts.length]? = some rows[ts.length] := List.getElem?_eq_getElem hi
  have hsz := ho.size _ (List.mem_of_getElem? hri)
  refine ⟨⟨rows.take ts.length, ho.cut _, by rw [List.length_take]; omega, hr, fun j u row hj hrow => ?_⟩, ?_⟩
  · have hjl := (List.getElem?_eq_some_iff.1 hj).1
    rw [List.getElem?_take_of_lt hjl] at hrow
    exact hv j u row (by rw [List.getElem?_append_left hjl]; exact hj) hrow
  · obtain ⟨g, cur, e, -⟩ := ho.addr hi
    subst e
    refine ⟨g, _, rfl, hr g rfl, hv _ t _ List.getElem?_concat_length hri, hsz, fun w' hw => ?_⟩
    obtain ⟨cur, hg, -, -, hx, -⟩ := (ho.same (w' := w') fun g' e _ => by cases e; exact hw).at hri
    exact row_mid (n := 12) hg hx u101 rfl hsz info101
theorem TopD.pop {t : Tk} (d : TopD w0 G0 k p h last (ts ++ [t]) A c w G) : TopD w0 G0 k p h last ts A c w G := ⟨d.heap, d.tks.pop.1, d.fr, d.old, d.new, d.keep⟩
/-- A new variable of the call's own, marked. -/
theorem TopD.marked (d : TopD w0 G0 k p h last ts A c w G) (hb : Below w.heap.size w w') {q : Nat} (hq : w.heap.size ≤ q) (hq2 : q < w'.heap.size) : TopD w0 G0 k p h last ts A c w' (mark G k q) := by
  have hG : ∀ b, b < w.heap.size → mark G k q b = G b := fun b hb => if_neg (by omega)
  have hs := d.keep.size
  refine ⟨?_, ?_, fun b hb2 => ?_, fun b hb2 => ?_, fun b hb2 => ?_, d.keep.trans (C' := fun _ => False) (fun b e => e.elim) (Keep.of hb)⟩
  · obtain ⟨oA, oc, bA, bc, m, lA, lc, hh⟩ := d.heap
    exact ⟨_, _, _, _, _, _, _, (hh.regh hG).old hb⟩
  · exact d.tks.moved (Keep.of (C := fun _ => False) hb) (fun b e => e.elim) hG
  · unfold mark
    rw [if_neg (by omega)]
    exact d.fr b (by have := hb.size; omega)
  · rw [hG b (by omega)]; exact d.old b hb2
  · unfold mark
    split
    · exact .inr ⟨_, rfl⟩
    · exact d.new b hb2
end
theorem TopD.owned {w0 w w' : World} {G0 G : Gh} {k p : Nat} {h : Hp} {last : Array Value} {ts : List Tk} {A : Option Addr} {c : Nat} (d : TopD w0 G0 k p h last ts A c w G) (hb : Below w.heap.size w w') {A0 : Option Addr} {r : Role} (hA : ∀ g, A0 = some ⟨g, 0, none⟩ → w.heap.size ≤ g ∧ g < w'.heap.size) : TopD w0 G0 k p h last ts A c w' (own G A0 (k, r)) := by
  have hG : ∀ b, b < w.heap.size → own G A0 (k, r) b = G b := own_old fun g e => (hA g e).1
  have hs := d.keep.size
  refine ⟨?_, ?_, fun b hb2 => ?_, fun b hb2 => ?_, fun b hb2 => ?_, d.keep.trans (C' := fun _ => False) (fun b e => e.elim) (Keep.of hb)⟩
  · obtain ⟨oA, oc, bA, bc, m, lA, lc, hh⟩ := d.heap
    exact ⟨_, _, _, _, _, _, _, (hh.regh hG).old hb⟩
  · exact d.tks.moved (Keep.of (C := fun _ => False) hb) (fun b e => e.elim) hG
  · unfold own
    rw [if_neg (fun e => by have := (hA b e).2; omega)]
    exact d.fr b (by have := hb.size; omega)
  · rw [hG b (by omega)]; exact d.old b hb2
  · unfold own
    split
    · exact .inr ⟨_, rfl⟩
    · exact d.new b hb2
section
variable {w w' : World} {G : Gh} {k p : Nat} {h : Hp} {last : Array Value} {oA : Option Addr} {oc : Nat} {bA : Option Addr} {bc m : Nat} {lA : Option Addr} {lc : Nat}
/-- An object's fields' slice, loaded while the level's block changes. -/
theorem HTop.fldK {g i : Nat} (hh : HTop w G k p h last (some ⟨g, 0, none⟩) oc bA bc m lA lc) {o : Ob} (hi : h.obs[i]? = some o) {tr : Array Value} {fA : Option Addr} {fc : Nat} (hL : ObL w g i o tr fA fc) {C : Nat → Prop} (hk : Keep C w w') (hC : ∀ b, C b → (¬ Mine G k b ∨ G b = some (k, .lvl h.lev.length)) ∧ G b ≠ none) : OneAt w' 33 ⟨g, i * 8 + 7, none⟩ (.slice fA o.fields.length fc) := by
  obtain ⟨g', rows, e, hR⟩ := hh.obs.rows hi
  cases e
  obtain ⟨row, tr0, fA0, fc0, hr, hx⟩ := hR.get hi
  have h1 := (hR.own.loads hr hx).f
  have h2 := one_eq h1 hL.f
  cases h2
  have hne : ¬ C g := fun hc => by
    rcases (hC g hc).1 with h3 | h3
    · exact h3 ⟨.arr, hR.role, by simp⟩
    · rw [hR.role] at h3; cases h3
  refine one_of u33 rfl ((hR.own.same (w' := w') fun b e hb => by cases e; exact hk.block g hb hne).cell hr (j := 7) ?_)
  rw [hx.eq]
  exact (cell8_at hx.size o.state o.count o.weak fA o.fields.length fc).2.2.2.2
/-- One value of a list, loaded while other blocks change. -/
theorem ListV.atK {r : Nat × Role} {l : List Va} {A : Option Addr} {c i : Nat} (hl : ListV w G r l A c) (hi : i < l.length) : ∃ g v row, A = some ⟨g, 0, none⟩ ∧ G g = some r ∧ l[i]? = some v ∧ VAt w (Imm G) v row ∧ g < w.heap.size ∧ ∀ w', w'.heap[g]? = w.heap[g]? → RowAt w' 35 ⟨g, i * 9, none⟩ row := by
  obtain ⟨rows, ho, hlen, hr, hv⟩ := hl
  have h1 : rows[i]? = some (rows[i]'(by omega)) := List.getElem?_eq_getElem _
  have h2 := List.getElem?_eq_getElem hi
  obtain ⟨g, cur, e, hg0, -⟩ := ho.addr (i := i) (by omega)
  subst e
  have hva := hv i _ _ h2 h1
  refine ⟨g, _, _, rfl, hr g rfl, h2, hva, heap_lt hg0, fun w' hb => ?_⟩
  obtain ⟨cur, hg, -, -, hx, -⟩ := (ho.same (w' := w') fun g' e _ => by cases e; exact hb).at h1
  exact row_mid (n := 9) hg hx u35 rfl hva.size info35
end
theorem run_bs98t (a0 a1 a2 a3 a4 a5 a6 a7 a8 a9 a10 a11 b0 b1 b2 b3 b4 b5 b6 b7 b8 b9 b10 b11 : Value) (w : World) : (Instr.buildSlice 98 2 #[(0, .agg #[a0, a1, a2, a3, a4, a5, a6, a7, a8, a9, a10, a11]), (1, .agg #[b0, b1, b2, b3, b4, b5, b6, b7, b8, b9, b10, b11])]).run Try.prog w = .ok (.slice (some ⟨w.heap.size, 0, none⟩) 2 2) (w.alloc (.cells #[a0, a1, a2, a3, a4, a5, a6, a7, a8, a9, a10, a11, b0, b1, b2, b3, b4, b5, b6, b7, b8, b9, b10, b11] 101)) := by kernel_rfl
theorem ex_bs98t {ev : Operand → Value} {o : Oper} {w : World} (x y : Operand) (ho : o.op = .buildSlice 98 2 #[(0, x), (1, y)]) {r1 r2 : Array Value} (hx : ev x = .agg r1) (hy : ev y = .agg r2) (h1 : r1.size = 12) (h2 : r2.size = 12) :
    (execOp ev o).run Try.prog w = .ok (.value (.slice (some ⟨w.heap.size, 0, none⟩) 2 2)) (w.alloc (.cells (r1 ++ r2) 101)) := by
  obtain ⟨l1⟩ := r1
  obtain ⟨l2⟩ := r2
  match l1, h1, l2, h2 with
  | [a0, a1, a2, a3, a4, a5, a6, a7, a8, a9, a10, a11], _, [b0, b1, b2, b3, b4, b5, b6, b7, b8, b9, b10, b11], _ =>
    unfold execOp
    have := run_bs98t a0 a1 a2 a3 a4 a5 a6 a7 a8 a9 a10 a11 b0 b1 b2 b3 b4 b5 b6 b7 b8 b9 b10 b11 w
    simp [ho, hx, hy, this, Result.andThen]
theorem za_push2 {md : Region.Mode} {ops : Array Oper} {Q : Exit → Act → World → Prop} {S : World → Prop} {c fuel : Nat} {listed : Array Bool} {a : Act} {w : World} {i : Nat} {oi : Oper} {ty sty : TypeId} {sz by0 : Nat} {A : Option Addr} {cc : Nat} {rows : List (Array Value)} {z : Array Value} (he : Elt sty ty sz by0 z) (hr : Region.ready md ops listed = [i]) (ho : ops[i]? = some oi) (hg : Region.wanted oi (yielded ops a.tmps) = true) (s x : Operand) (hop : oi.op = .call { callee := .builtin .append, args := #[s, x], argTypes := #[sty, sty] }) {r1 r2 : Array Value} {q : Nat} {tq : TypeId} {fr : Nat × Nat}
    (hs : a.eval s = .slice A rows.length cc) (hx : a.eval x = .slice (some ⟨q, 0, none⟩) 2 2) (h : OwnL w ty sz A cc rows) (hq : w.heap[q]? = some (.cells (r1 ++ r2) tq fr)) (hs1 : r1.size = sz) (hs2 : r2.size = sz) (h1 : r1.all (·.oneCell') = true) (h2 : r2.all (·.oneCell') = true) (hlen : (rows.length + 2) * by0 ≤ 140737488355328) (hm : rows.length + 2 ≤ maxLen)
    (hS : ∀ w', Keep (fun b => A = some ⟨b, 0, none⟩) w w' → S w')
    (hK : ∀ A' c' w', OwnL w' ty sz A' c' (rows ++ [r1, r2]) → Keep (fun b => A = some ⟨b, 0, none⟩) w w' → (A' = A ∨ ∃ g, A' = some ⟨g, 0, none⟩ ∧ w.heap.size ≤ g) → S w' → wpAnyZ Try.prog md ops Q S c fuel (listed.setIfInBounds i true) (a.put oi.dst (.slice A' (rows.length + 2) c')) w') : wpAnyZ Try.prog md ops Q S c (fuel + 1) listed a w := by
  obtain ⟨hu, h0, hz, i0, z0, hi, hz0, hz1, hz2, hzl⟩ := he
  obtain ⟨A', c', w', a1, a2, a3, a4⟩ := run_catL (oty := oi.type) hu hi hz0 hz1 hz2 (by rw [hzl]; exact hz) h0 h (news := [r1, r2]) (fun r hr => by
    rcases List.mem_cons.1 hr with e | e
    · rw [e]; exact hs1
    · rw [List.mem_singleton.1 e]; exact hs2) (fun r hr u hu => by
    rcases List.mem_cons.1 hr with e | e
    · rw [e] at hu; exact one_list h1 u hu
    · rw [List.mem_singleton.1 e] at hu; exact one_list h2 u hu) (a := ⟨q, 0, none⟩) (cn := 2) (fun j u hj => by
      rw [show (Addr.add ⟨q, 0, none⟩ j) = ⟨q, j, none⟩ by rw [Addr.add_mid]; simp, cell_of_row _ _ _ _ _ _ hq]
      have hj2 : (r1.toList ++ r2.toList)[j]? = some u := by simpa using hj
      show (r1 ++ r2)[_]? = _
      rw [← Array.getElem?_toList, Array.toList_append]
      exact hj2) (by simpa using hm) (by simpa using hlen)
  refine za_do hr ho hg (w2 := w') (v := .slice A' (rows.length + 2) c') ?_ (fun _ => hS w' a3) (hK A' c' w' a2 a3 a4 (hS w' a3))
  have a1' : (Builtin.append_ #[sty, sty] oi.type #[.slice A rows.length cc, .slice (some ⟨q, 0, none⟩) 2 2]).run Try.prog w = .ok (.slice A' (rows.length + 2) c') w' := by simpa using a1
  unfold execOp
  simp only [hop, resolve, invoke, builtin, Sem.run_bind, Sem.run_pure, Result.andThen_ok, List.map_toArray, List.map_cons, List.map_nil, hs, hx, a1']
theorem built101g (o n : Int) : Try.prog.built 101 [(1, .int .i64 o), (2, .int .i64 n), (3, .int .i64 1)] = some (zrow ++ #[.int .i64 o, .int .i64 n, .int .i64 1]) := by kernel_rfl
theorem ex_build101g {ev : Operand → Value} {o : Oper} {w : World} (x y z : Operand) (ho : o.op = .build 101 #[(1, x), (2, y), (3, z)]) {a n : Int} (hx : ev x = .int .i64 a) (hy : ev y = .int .i64 n) (hz : ev z = .int .i64 1) :
    (execOp ev o).run Try.prog w = .ok (.value (.agg (zrow ++ #[.int .i64 a, .int .i64 n, .int .i64 1]))) w := ex_build 101 _ ho (by simp only [List.map_cons, List.map_nil, hx, hy, hz]) (built101g a n)
/-- The fields of objects are as many behind a task. -/
theorem step_fl {N : Nat} {h : Hp} {ts : List Tk} {t : Tk} (hf : ∀ o, o ∈ h.obs → o.fields.length ≤ N) : ∀ o, o ∈ (stepV' h ts t).1.obs → o.fields.length ≤ N := by
  have hm : ∀ (n : Nat) (f : Ob → Ob), (∀ o, (f o).fields.length = o.fields.length) → ∀ o, o ∈ h.obs.modify n f → o.fields.length ≤ N := fun n f hfe o ho => by
    obtain ⟨i, hi⟩ := List.mem_iff_getElem?.1 ho
    rw [List.getElem?_modify] at hi
    cases hx : h.obs[i]? with
    | none => rw [hx] at hi; simp at hi
    | some o1 =>
      rw [hx] at hi
      have h1 := hf o1 (List.mem_of_getElem? hx)
      split at hi <;> (simp at hi; subst hi)
      · rw [hfe]; exact h1
      · exact h1
  cases t with
  | flds o i =>
    simp only [stepV']
    split
    · split
      · exact hf
      · exact hm _ _ fun ob => by simp
    · exact hf
  | val v =>
    simp only [stepV']
    split
    · split
      · split
        · exact hm _ _ fun ob => rfl
        · exact hm _ _ fun ob => rfl
      · exact hf
    · split
      · exact hm _ _ fun ob => rfl
      · split
        · split
          · split
            · exact hf
            · exact hf
          · exact hf
        · split
          · exact hf
          · split <;> exact hf
/-- Levels do not matter to the tasks. -/
theorem step_setL (h : Hp) (L : List (List Tk)) (ts : List Tk) (t : Tk) : stepV' (h.setL L) ts t = ((stepV' h ts t).1.setL L, (stepV' h ts t).2.1, (stepV' h ts t).2.2) := by
  cases t with
  | flds o i =>
    simp only [stepV', Hp.setL]
    cases h.obs[o]? with
    | none => rfl
    | some ob =>
      simp only
      cases ob.fields[i]? <;> rfl
  | val v =>
    simp only [stepV', Hp.setL]
    split
    · cases h.obs[v.num.toNat]? with
      | none => rfl
      | some ob =>
        simp only
        split <;> rfl
    · split
      · rfl
      · split
        · cases h.bus[v.num.toNat]? with
          | none => rfl
          | some b =>
            simp only
            split <;> rfl
        · split
          · rfl
          · split <;> rfl
theorem weight_setL (h : Hp) (L : List (List Tk)) (ts : List Tk) : weight (h.setL L) ts = weight h ts := by
  have : wT (h.setL L) = wT h := funext fun t => by cases t <;> rfl
  unfold weight
  rw [this]
  rfl
end Go.Proofs.Ytpamocglecangaa
