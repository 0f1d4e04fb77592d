/- The steps of plain regions, one operation at a time. -/
import Derived.Test.YtclainfdeghgnaaK4
import Derived.Test.YtclainfdeghgnaaK5
namespace Go.Proofs.Ytclainfdeghgnaa
open Go.RowKit Nm

theorem ex_alloc75 {o : Oper} (ho : o.op = .alloc 75) (ev : Operand → Value) (w : World) : (execOp ev o).run Try.prog w = .ok (.value (.pointer (some ⟨w.heap.size, 0, none⟩))) (w.alloc (.cells (lv 0) 75)) := by
  rw [← zero_long]
  unfold execOp
  simp only [ho]
  simp [go_sem]
  rfl
theorem ex_alloc73 {o : Oper} (ho : o.op = .alloc 73) (ev : Operand → Value) (w : World) : (execOp ev o).run Try.prog w = .ok (.value (.pointer (some ⟨w.heap.size, 0, none⟩))) (w.alloc (.cells (dv 0) 73)) := by
  rw [← row_zero_dv, ← zero_row]
  unfold execOp
  simp only [ho]
  simp [go_sem]

section
variable {P : Program} {ops : Array Oper} {rest : List Oper} {dst : Option Tmp} {ty ty' : TypeId} {x y : Operand} {pos : String} {after : Array Edge} {g : Option (Nat × Bool)} {a : Act} {w : World} {Q : Exit → Act → World → Prop} {q : Act → Prop} {C : World → Prop} {ad : Addr} {D : Array Value} {v : Value} {o : Oper}

theorem wl_k (hg : Region.wanted o (yielded ops a.tmps) = true)
    (h : ∀ K : Act → Prop, (∀ a', wpList P ops Q rest a' w → K a') → ∃ v, (execOp a.eval o).run P w = .ok (.value v) w ∧ K (a.put o.dst v)) : wpList P ops Q (o :: rest) a w := by
  obtain ⟨v, hv, hk⟩ := h _ (fun _ h => h)
  refine wpList_step fun K hK => ?_
  rw [if_pos hg]
  unfold Oper.wp; rw [hv]; exact hK _ _ hk
theorem wl_skip (hg : Region.wanted o (yielded ops a.tmps) = false) (h : wpList P ops Q rest (a.put o.dst undef) w) : wpList P ops Q (o :: rest) a w := by
  refine wpList_step fun K hK => ?_
  rw [if_neg (by simp [hg])]
  exact hK _ _ h
theorem wl_ck (hg : Region.wanted o (yielded ops a.tmps) = true)
    (h : ∀ K : FuncId → Array Value → Prop, (∀ f args, (∃ R, Calls P f args w R ∧ ∀ e w1, R e w1 → ∃ v, e = .returned v ∧ wpList P ops Q rest (a.put o.dst v) w1) → K f args) → ∃ f args, (execOp a.eval o).run P w = .ok (.enter f args) w ∧ K f args) : wpList P ops Q (o :: rest) a w := by
  obtain ⟨f, args, hv, R, hc, hk⟩ := h _ (fun _ _ h => h)
  refine wpList_step fun K hK => ?_
  rw [if_pos hg]
  unfold Oper.wp; rw [hv]
  refine hc.mono fun e w1 hr => ?_
  obtain ⟨v, rfl, h2⟩ := hk e w1 hr
  exact hK _ _ h2

theorem ws_row (hg : Region.wanted ⟨dst, .load ty x, ty', pos, after, g⟩ (yielded ops a.tmps) = true) (hx : a.eval x = .pointer (some ad)) (hr : ∀ w', C w' → RowAt w' ty ad D) (h : wpStd Try.prog ops C q rest (a.put dst (.agg D))) : wpStd Try.prog ops C q (⟨dst, .load ty x, ty', pos, after, g⟩ :: rest) a := ws_val hg (fun w' hw' => ex_row hx (hr w' hw')) h
theorem ws_one (hg : Region.wanted ⟨dst, .load ty x, ty', pos, after, g⟩ (yielded ops a.tmps) = true) (hx : a.eval x = .pointer (some ad)) (hr : ∀ w', C w' → OneAt w' ty ad v) (h : wpStd Try.prog ops C q rest (a.put dst v)) : wpStd Try.prog ops C q (⟨dst, .load ty x, ty', pos, after, g⟩ :: rest) a := ws_val hg (fun w' hw' => ex_one hx (hr w' hw')) h
theorem wl_rowG (hg : Region.wanted ⟨dst, .load ty x, ty', pos, after, g⟩ (yielded ops a.tmps) = true) (hx : a.eval x = .pointer (some ad)) (hr : RowAt w ty ad D) (h : wpList Try.prog ops Q rest (a.put dst (.agg D)) w) : wpList Try.prog ops Q (⟨dst, .load ty x, ty', pos, after, g⟩ :: rest) a w := by
  refine wpList_step fun K hK => ?_
  rw [if_pos hg]
  unfold Oper.wp; rw [ex_row hx hr]; exact hK _ _ h
theorem wl_oneG (hg : Region.wanted ⟨dst, .load ty x, ty', pos, after, g⟩ (yielded ops a.tmps) = true) (hx : a.eval x = .pointer (some ad)) (hr : OneAt w ty ad v) (h : wpList Try.prog ops Q rest (a.put dst v) w) : wpList Try.prog ops Q (⟨dst, .load ty x, ty', pos, after, g⟩ :: rest) a w := by
  refine wpList_step fun K hK => ?_
  rw [if_pos hg]
  unfold Oper.wp; rw [ex_one hx hr]; exact hK _ _ h

/-- A new variable: behind it the world under a name. -/
theorem wl_new {z : Array Value} (hal : ∀ ev w, (execOp ev ⟨dst, .alloc ty, ty', pos, after, none⟩).run Try.prog w = .ok (.value (.pointer (some ⟨w.heap.size, 0, none⟩))) (w.alloc (.cells z ty)))
    (h : ∀ W p, Below w.heap.size w W → w.heap.size ≤ p → W.heap[p]? = some (.cells z ty (0, 0)) → wpList Try.prog ops Q rest (a.put dst (.pointer (some ⟨p, 0, none⟩))) W) : wpList Try.prog ops Q (⟨dst, .alloc ty, ty', pos, after, none⟩ :: rest) a w := by
  refine wpList_plain rfl fun K hK => ?_
  unfold Oper.wp; rw [hal]
  exact hK _ _ (h _ _ ((Below.refl _ w).alloc (Nat.le_refl _) _) (Nat.le_refl _) (ha_new rfl))
theorem wl_new75 (h : ∀ W p, Below w.heap.size w W → w.heap.size ≤ p → W.heap[p]? = some (.cells (lv 0) 75 (0, 0)) → wpList Try.prog ops Q rest (a.put dst (.pointer (some ⟨p, 0, none⟩))) W) : wpList Try.prog ops Q (⟨dst, .alloc 75, ty', pos, after, none⟩ :: rest) a w := wl_new (ex_alloc75 rfl) h
theorem wl_new73 (h : ∀ W p, Below w.heap.size w W → w.heap.size ≤ p → W.heap[p]? = some (.cells (dv 0) 73 (0, 0)) → wpList Try.prog ops Q rest (a.put dst (.pointer (some ⟨p, 0, none⟩))) W) : wpList Try.prog ops Q (⟨dst, .alloc 73, ty', pos, after, none⟩ :: rest) a w := wl_new (ex_alloc73 rfl) h
/-- A whole row stored: behind it the world under a name. -/
theorem wl_put75 {b : Nat} {z q0 : Int} (hx : a.eval x = .pointer (some ⟨b, 0, none⟩)) (hy : a.eval y = .agg (lv z)) (hb : w.heap[b]? = some (.cells (lv q0) 75 (0, 0)))
    (h : ∀ W, (∀ B w0, B ≤ b → Below B w0 w → Below B w0 W) → (∀ k o, k ≠ b → w.heap[k]? = some o → W.heap[k]? = some o) → W.heap[b]? = some (.cells (lv z) 75 (0, 0)) → wpList Try.prog ops Q rest a W) : wpList Try.prog ops Q (⟨none, .store 75 x y, ty', pos, after, none⟩ :: rest) a w :=
  wl_stL hx hy hb (h _ (fun _ _ hB h0 => below_setRow h0 hB _) (fun _ _ hne h0 => hr_old h0 hne) (hr_new hb))
theorem wl_put73 {b : Nat} {z n : Nat} (hx : a.eval x = .pointer (some ⟨b, 0, none⟩)) (hy : a.eval y = .agg (dv z)) (hb : w.heap[b]? = some (.cells (dv n) 73 (0, 0)))
    (h : ∀ W, (∀ B w0, B ≤ b → Below B w0 w → Below B w0 W) → (∀ k o, k ≠ b → w.heap[k]? = some o → W.heap[k]? = some o) → W.heap[b]? = some (.cells (dv z) 73 (0, 0)) → wpList Try.prog ops Q rest a W) : wpList Try.prog ops Q (⟨none, .store 73 x y, ty', pos, after, none⟩ :: rest) a w :=
  wl_stR hx hy hb (h _ (fun _ _ hB h0 => below_setRow h0 hB _) (fun _ _ hne h0 => hr_old h0 hne) (hr_new hb))
end

theorem res_long2 {fn : Func} {p q : Tmp} (h : fn.results = #[.cell p 75, .cell q 75]) (tmps : Array Value) (w : World) (g g' : Nat) (hp : tmps.getD p undef = .pointer (some ⟨g, 0, none⟩)) (hq : tmps.getD q undef = .pointer (some ⟨g', 0, none⟩)) {x y : Int}
    (hg : w.heap[g]? = some (.cells (lv x) 75 (0, 0))) (hg' : w.heap[g']? = some (.cells (lv y) 75 (0, 0))) : (results fn tmps).run Try.prog w = .ok (.tuple #[.agg (lv x), .agg (lv y)]) w := by
  have hp' : tmps[p]?.getD undef = .pointer (some ⟨g, 0, none⟩) := by simpa using hp
  have hq' : tmps[q]?.getD undef = .pointer (some ⟨g', 0, none⟩) := by simpa using hq
  have l1 : (loadVar 75 ⟨g, 0, none⟩).run Try.prog w = .ok (.agg (lv x)) w := by have := rowL hg; unfold RowAt at this; exact this
  have l2 : (loadVar 75 ⟨g', 0, none⟩).run Try.prog w = .ok (.agg (lv y)) w := by have := rowL hg'; unfold RowAt at this; exact this
  simp [results, h, hp', hq', asAddr, l1, l2]
end Go.Proofs.Ytclainfdeghgnaa
