/- An operation on two texts: the errors of its arguments. -/
import Derived.Test.YtclainfdeghgnaaW18
import Derived.Outline
namespace Go.Proofs.Ytclainfdeghgnaa
open Go.RowKit Go.Proofs.Ytclainfdeghgnaa.Nm

/-- Two numbers side by side in a block. -/
def TwoAt (w : World) (g : Nat) (x y : Int) : Prop := ∃ cur, w.heap[g]? = some (.cells cur 75 (0, 0)) ∧ cur.extract 0 (0 + 65) = lv x ∧ cur.extract 65 (65 + 65) = lv y
theorem TwoAt.lt {w : World} {g : Nat} {x y : Int} (h : TwoAt w g x y) : g < w.heap.size := by obtain ⟨_, h, _⟩ := h; exact heap_lt h
theorem TwoAt.below {w w' : World} {g : Nat} {x y : Int} (hb : Below w.heap.size w w') (h : TwoAt w g x y) : TwoAt w' g x y := by
  obtain ⟨cur, h1, h2⟩ := h; exact ⟨cur, below_look hb h1, h2⟩
theorem TwoAt.keep {w w' : World} {g p : Nat} {x y : Int} (hk : ∀ k o, k ≠ p → w.heap[k]? = some o → w'.heap[k]? = some o) (hne : g ≠ p) (h : TwoAt w g x y) : TwoAt w' g x y := by
  obtain ⟨cur, h1, h2⟩ := h; exact ⟨cur, hk _ _ hne h1, h2⟩
theorem two0 {w : World} {g : Nat} {x y : Int} (h : TwoAt w g x y) : RowAt w 75 ⟨g, 0, none⟩ (lv x) := by
  obtain ⟨cur, h1, h2, h3⟩ := h; exact row_mid h1 h2 u75 rfl (lv_size _) info75
theorem two1 {w : World} {g : Nat} {x y : Int} (h : TwoAt w g x y) : RowAt w 75 ⟨g, 65, none⟩ (lv y) := by
  obtain ⟨cur, h1, h2, h3⟩ := h; exact row_mid h1 h3 u75 rfl (lv_size _) info75
theorem two1n {w : World} {g : Nat} {x y : Int} (h : TwoAt w g x y) : OneAt w 4 ⟨g, 65, none⟩ (.bool (ng y)) := by
  obtain ⟨cur, h1, h2, h3⟩ := h
  refine one_of u4 rfl ?_
  rw [cell_of_row _ _ _ _ _ _ h1]
  have h4 : (cur.extract 65 (65 + 65))[0]? = (lv y)[0]? := by rw [h3]
  rw [lv_neg] at h4
  rw [Array.getElem?_extract] at h4
  split at h4
  · simpa using h4
  · cases h4
theorem flat_two (cur : Array Value) (x y : Int) (h : cur.toList.take (2 * 65) = flat [x, y]) : cur.extract 0 (0 + 65) = lv x ∧ cur.extract 65 (65 + 65) = lv y := by
  have h1 : flat [x, y] = (lv x).toList ++ (lv y).toList := by simp [flat]
  rw [h1] at h
  have lx : (lv x).toList.length = 65 := by simp [lv_size]
  have ly : (lv y).toList.length = 65 := by simp [lv_size]
  constructor
  · apply Array.toList_inj.1
    rw [Array.toList_extract, List.extract_eq_take_drop]
    have := congrArg (List.take 65) h
    rw [List.take_take, List.take_append_of_le_length (by omega), List.take_of_length_le (l := (lv x).toList) (by omega)] at this
    simpa using this
  · apply Array.toList_inj.1
    rw [Array.toList_extract, List.extract_eq_take_drop]
    have := congrArg (List.drop 65) h
    rw [List.drop_take, List.drop_append_of_le_length (by omega), List.drop_of_length_le (l := (lv x).toList) (by omega)] at this
    simpa using this
theorem map_two {xs : List Int} {x y : Int} (h : xs.map some = [some x, some y]) : xs = [x, y] := by
  match xs, h with
  | [p, q], h => simp at h; rw [h.1, h.2]
theorem map_none1 {xs : List Int} {r : Option Int} (h : xs.map some = [none, r]) : False := by
  match xs, h with
  | [p, q], h => simp at h
theorem map_none2 {xs : List Int} {r : Option Int} (h : xs.map some = [r, none]) : False := by
  match xs, h with
  | [p, q], h => simp at h
theorem reads2_ok (g c : Nat) (a b : ByteArray) (x y : Int) (hx : rdm a = some x) (hy : rdm b = some y) (w : World) (hg : w.heap[g]? = some (.cells #[.string a, .string b] 9 (0, 0))) :
    Calls Try.prog 52 #[.slice (some ⟨g, 0, none⟩) 2 c] w fun e w' => ∃ g' cap, e = .returned (.tuple #[.slice (some ⟨g', 0, none⟩) 2 cap, .bool true]) ∧ w.heap.size ≤ g' ∧ TwoAt w' g' x y ∧ Below w.heap.size w w' := by
  refine (reads_any g c [a, b] (by simp) w hg).mono ?_
  rintro e w' ⟨v, ok, rfl, hr, hb⟩
  rcases hr with ⟨_, m, hm, hn⟩ | ⟨rfl, xs, h1, h2⟩
  · simp only [List.mem_cons, List.not_mem_nil, or_false] at hm
    rcases hm with rfl | rfl
    · rw [hx] at hn; cases hn
    · rw [hy] at hn; cases hn
  · have e1 : xs = [x, y] := by
      have h3 : [rdm a, rdm b] = xs.map some := h1
      rw [hx, hy] at h3
      exact map_two h3.symm
    subst e1
    rcases h2.2 with ⟨_, h0⟩ | ⟨g', cap, cur, rfl, h3, h4, h5, h6, h7, h8⟩
    · simp at h0
    · exact ⟨g', cap, rfl, h3, ⟨cur, h4, flat_two cur x y h8⟩, hb⟩
theorem reads2_no (g c : Nat) (a b : ByteArray) (h : rdm a = none ∨ rdm b = none) (w : World) (hg : w.heap[g]? = some (.cells #[.string a, .string b] 9 (0, 0))) :
    Calls Try.prog 52 #[.slice (some ⟨g, 0, none⟩) 2 c] w fun e w' => ∃ v, e = .returned (.tuple #[v, .bool false]) ∧ Below w.heap.size w w' := by
  refine (reads_any g c [a, b] (by simp) w hg).mono ?_
  rintro e w' ⟨v, ok, rfl, hr, hb⟩
  rcases hr with ⟨rfl, _⟩ | ⟨rfl, xs, h1, h2⟩
  · exact ⟨v, rfl, hb⟩
  · have h3 : [rdm a, rdm b] = xs.map some := h1
    rcases h with h | h
    · rw [h] at h3; exact absurd h3.symm map_none1
    · rw [h] at h3; exact absurd h3.symm map_none2
def opTexts : List ByteArray := [⟨#[43]⟩, ⟨#[45]⟩, ⟨#[42]⟩, ⟨#[47]⟩, ⟨#[37]⟩, ⟨#[38]⟩, ⟨#[124]⟩, ⟨#[94]⟩, ⟨#[60, 60]⟩, ⟨#[62, 62]⟩]
def isOpL (l : List UInt8) : Bool := l == [43] || l == [45] || l == [42] || l == [47] || l == [37] || l == [38] || l == [124] || l == [94] || l == [60, 60] || l == [62, 62]
theorem isOp_mem (m : ByteArray) : Lib.containsS opTexts m = isOpL m.data.toList := by
  rw [Bool.eq_iff_iff, Lib.containsS_iff]
  unfold opTexts isOpL
  simp only [List.mem_cons, List.not_mem_nil, or_false, bytes_eq, Bool.or_eq_true, beq_iff_eq, or_assoc]

set_option maxHeartbeats 1000000 in
theorem Do_form (op a b md : ByteArray) (bits : Int) (s : Bool) (h : rdm a = none ∨ rdm b = none) (w : World) :
    Calls Try.prog 22 #[.string op, .string a, .string b, .int .i64 bits, .bool s, .string md] w fun e w' => e = .returned (.tuple #[.string ⟨#[]⟩, .int .i64 4]) ∧ Below w.heap.size w w' := by
  go_enter Try.func22, Try.ntmps22
  go_wp2_with (go_at_call 52; refine (reads2_no w.heap.size _ a b h _ (ha_new rfl)).mono ?_)
  rintro e w1 ⟨v, rfl, hb⟩
  go_wp2_with fail
  refine bodyPost_ret (results_tmp2 rfl _ _ _) rfl ⟨rfl, ((Below.refl _ _).alloc (Nat.le_refl _) _).trans (hb.mono (by simp))⟩
theorem rowWi {w : World} {b : Nat} {n : Int} {s : Bool} {t : TypeId} {fr : Nat × Nat} (hb : w.heap[b]? = some (.cells (wi n s) t fr)) : RowAt w 68 ⟨b, 0, none⟩ (wi n s) := row_mid hb (D := wi n s) (n := 2) rfl u68 rfl rfl info68
def opCells : Array Value := #[.string ⟨#[43]⟩, .string ⟨#[45]⟩, .string ⟨#[42]⟩, .string ⟨#[47]⟩, .string ⟨#[37]⟩, .string ⟨#[38]⟩, .string ⟨#[124]⟩, .string ⟨#[94]⟩, .string ⟨#[60, 60]⟩, .string ⟨#[62, 62]⟩]
theorem run_ops (w : World) : (Instr.buildSlice 70 10 #[(0, .string ⟨#[43]⟩), (1, .string ⟨#[45]⟩), (2, .string ⟨#[42]⟩), (3, .string ⟨#[47]⟩), (4, .string ⟨#[37]⟩), (5, .string ⟨#[38]⟩), (6, .string ⟨#[124]⟩), (7, .string ⟨#[94]⟩), (8, .string ⟨#[60, 60]⟩), (9, .string ⟨#[62, 62]⟩)]).run Try.prog w = .ok (.slice (some ⟨w.heap.size, 0, none⟩) 10 10) (w.alloc (.cells opCells 9)) := by kernel_rfl
theorem ex_ops {ev : Operand → Value} {o : Oper} {w : World} (ho : o.op = .buildSlice 70 10 #[(0, .const (.string ⟨#[43]⟩)), (1, .const (.string ⟨#[45]⟩)), (2, .const (.string ⟨#[42]⟩)), (3, .const (.string ⟨#[47]⟩)), (4, .const (.string ⟨#[37]⟩)), (5, .const (.string ⟨#[38]⟩)), (6, .const (.string ⟨#[124]⟩)), (7, .const (.string ⟨#[94]⟩)), (8, .const (.string ⟨#[60, 60]⟩)), (9, .const (.string ⟨#[62, 62]⟩))])
    (he : ∀ c, ev (.const c) = c) :
    (execOp ev o).run Try.prog w = .ok (.value (.slice (some ⟨w.heap.size, 0, none⟩) 10 10)) (w.alloc (.cells opCells 9)) := by
  have h := run_ops w
  unfold execOp
  simp only [ho]
  simp [he]
  rw [h]
  rfl
theorem wl_wG {P : Program} {ops : Array Oper} {rest : List Oper} {o : Oper} {a : Act} {w w2 : World} {Q : Exit → Act → World → Prop} {v : Value} (hg : Region.wanted o (yielded ops a.tmps) = true) (hx : (execOp a.eval o).run P w = .ok (.value v) w2)
    (h : wpList P ops Q rest (a.put o.dst v) w2) : wpList P ops Q (o :: rest) a w := by
  refine wpList_step fun K hK => ?_
  rw [if_pos hg]
  unfold Oper.wp; rw [hx]; exact hK _ _ h
theorem contains_ops (g : Nat) (m : ByteArray) (R : Bool) (HR : Hid (R = isOpL m.data.toList)) (w : World) (hg : w.heap[g]? = some (.cells opCells 9 (0, 0))) :
    Calls Try.prog 55 #[.slice (some ⟨g, 0, none⟩) 10 10, .string m] w fun e w' => e = .returned (.bool R) ∧ Below w.heap.size w w' := by
  refine (Try.slices_Contains_string g 0 10 10 opTexts m _ (by decide) (by decide) ?_).mono ?_
  · intro j hj
    rw [cell_of_row _ _ _ _ _ _ hg]
    match j, hj with
    | 0, _ | 1, _ | 2, _ | 3, _ | 4, _ | 5, _ | 6, _ | 7, _ | 8, _ | 9, _ => rfl
  · rintro e w1 ⟨rfl, rfl⟩
    rw [show opTexts.take 10 = opTexts from rfl, isOp_mem, ← HR.out]
    exact ⟨rfl, Below.refl _ _⟩

set_option maxHeartbeats 1000000 in
theorem Do_name1 (op a b md : ByteArray) (bits : Int) (s : Bool) (x y : Int) (hx : rdm a = some x) (hy : rdm b = some y) (hn : Hid (isRight bits = false)) (w : World) :
    Calls Try.prog 22 #[.string op, .string a, .string b, .int .i64 bits, .bool s, .string md] w fun e w' => e = .returned (.tuple #[.string ⟨#[]⟩, .int .i64 3]) ∧ Below w.heap.size w w' := by
  go_enter Try.func22, Try.ntmps22
  go_wp2_with (go_at_call 52; refine (reads2_ok w.heap.size _ a b x y hx hy _ (ha_new rfl)).mono ?_)
  rintro e w1 ⟨g, cap, rfl, hgl, hT, hb⟩
  replace hb := ((Below.refl w.heap.size w).alloc (Nat.le_refl _) _).trans (hb.mono (by simp))
  have hgl2 : w.heap.size ≤ g := by simp at hgl; omega
  clear hgl
  go_upto_region 5 with (fail)
  have ltg := hT.lt
  refine wp_world (fun W => W.heap[w1.heap.size]? = some (.cells (wi bits s) 68 (0, 0)) ∧ TwoAt W g x y ∧ Below w.heap.size w W) ⟨ha_new rfl, hT.below ((Below.refl _ _).alloc (Nat.le_refl _) _), hb.alloc hb.size _⟩ ?_
  obtain ⟨p, hp⟩ : ∃ p, p = w1.heap.size := ⟨_, rfl⟩
  rw [← hp] at ltg ⊢
  have hpl : w.heap.size ≤ p := by rw [hp]; exact hb.size
  clear hT hb hp
  rintro W ⟨h0, hT, hb⟩
  apply wp_region_lit
  ((with_reducible apply wl_rowG); exact rfl; exact rfl; exact rowWi (by with_reducible assumption))
  refine wl_ck rfl (fun K hK => ?_); go_simp; refine ⟨_, _, ⟨rfl, rfl⟩, hK _ _ ⟨_, right_any _ _ false (Lib.hid hn.out.symm) _, ?_⟩⟩; clear hK K; rintro e w2 ⟨rfl, hb1⟩; refine ⟨_, rfl, ?_⟩; simp only [put_lit, List.set_cons_zero, List.set_cons_succ]
  replace h0 := below_look hb1 h0; replace hT := hT.below hb1; replace hb := hb.trans (hb1.mono hb.size); clear hb1
  refine wl_k rfl (fun K hK => ?_); go_simp; refine hK _ ?_; clear hK K
  refine wl_k rfl (fun K hK => ?_); go_simp; refine hK _ ?_; clear hK K
  refine wl_skip rfl ?_
  refine wl_skip rfl ?_
  refine wl_skip rfl ?_
  refine wl_k rfl (fun K hK => ?_); go_simp; refine hK _ ?_; clear hK K
  refine wl_k rfl (fun K hK => ?_); go_simp; refine hK _ ?_; clear hK K
  refine wl_skip rfl ?_
  refine wl_skip rfl ?_
  refine wl_skip rfl ?_
  refine wl_skip rfl ?_
  refine wl_k rfl (fun K hK => ?_); go_simp; refine hK _ ?_; clear hK K
  go_wp2_with fail
  exact bodyPost_ret (results_tmp2 rfl _ _ _) rfl ⟨rfl, hb⟩
set_option maxHeartbeats 1000000 in
theorem Do_name2 (op a b md : ByteArray) (bits : Int) (s : Bool) (x y : Int) (hx : rdm a = some x) (hy : rdm b = some y) (hr : Hid (isRight bits = true)) (hn : Hid (isModeL md.data.toList = false)) (w : World) :
    Calls Try.prog 22 #[.string op, .string a, .string b, .int .i64 bits, .bool s, .string md] w fun e w' => e = .returned (.tuple #[.string ⟨#[]⟩, .int .i64 3]) ∧ Below w.heap.size w w' := by
  go_enter Try.func22, Try.ntmps22
  go_wp2_with (go_at_call 52; refine (reads2_ok w.heap.size _ a b x y hx hy _ (ha_new rfl)).mono ?_)
  rintro e w1 ⟨g, cap, rfl, hgl, hT, hb⟩
  replace hb := ((Below.refl w.heap.size w).alloc (Nat.le_refl _) _).trans (hb.mono (by simp))
  have hgl2 : w.heap.size ≤ g := by simp at hgl; omega
  clear hgl
  go_upto_region 5 with (fail)
  have ltg := hT.lt
  refine wp_world (fun W => W.heap[w1.heap.size]? = some (.cells (wi bits s) 68 (0, 0)) ∧ TwoAt W g x y ∧ Below w.heap.size w W) ⟨ha_new rfl, hT.below ((Below.refl _ _).alloc (Nat.le_refl _) _), hb.alloc hb.size _⟩ ?_
  obtain ⟨p, hp⟩ : ∃ p, p = w1.heap.size := ⟨_, rfl⟩
  rw [← hp] at ltg ⊢
  have hpl : w.heap.size ≤ p := by rw [hp]; exact hb.size
  clear hT hb hp
  rintro W ⟨h0, hT, hb⟩
  apply wp_region_lit
  ((with_reducible apply wl_rowG); exact rfl; exact rfl; exact rowWi (by with_reducible assumption))
  refine wl_ck rfl (fun K hK => ?_); go_simp; refine ⟨_, _, ⟨rfl, rfl⟩, hK _ _ ⟨_, right_any _ _ true (Lib.hid hr.out.symm) _, ?_⟩⟩; clear hK K; rintro e w2 ⟨rfl, hb1⟩; refine ⟨_, rfl, ?_⟩; simp only [put_lit, List.set_cons_zero, List.set_cons_succ]
  replace h0 := below_look hb1 h0; replace hT := hT.below hb1; replace hb := hb.trans (hb1.mono hb.size); clear hb1
  refine wl_k rfl (fun K hK => ?_); go_simp; refine hK _ ?_; clear hK K
  refine wl_k rfl (fun K hK => ?_); go_simp; refine hK _ ?_; clear hK K
  refine wl_k rfl (fun K hK => ?_); go_simp; refine hK _ ?_; clear hK K
  refine wl_ck rfl (fun K hK => ?_); go_simp; refine ⟨_, _, ⟨rfl, rfl⟩, hK _ _ ⟨_, isMode_any _ false (Lib.hid hn.out.symm) _, ?_⟩⟩; clear hK K; rintro e w2 ⟨rfl, hb1⟩; refine ⟨_, rfl, ?_⟩; simp only [put_lit, List.set_cons_zero, List.set_cons_succ]
  replace h0 := below_look hb1 h0; replace hT := hT.below hb1; replace hb := hb.trans (hb1.mono hb.size); clear hb1
  refine wl_k rfl (fun K hK => ?_); go_simp; refine hK _ ?_; clear hK K
  refine wl_k rfl (fun K hK => ?_); go_simp; refine hK _ ?_; clear hK K
  refine wl_k rfl (fun K hK => ?_); go_simp; refine hK _ ?_; clear hK K
  refine wl_skip rfl ?_
  refine wl_skip rfl ?_
  refine wl_skip rfl ?_
  refine wl_skip rfl ?_
  refine wl_k rfl (fun K hK => ?_); go_simp; refine hK _ ?_; clear hK K
  go_wp2_with fail
  exact bodyPost_ret (results_tmp2 rfl _ _ _) rfl ⟨rfl, hb⟩
set_option maxHeartbeats 1000000 in
theorem Do_name3 (op a b md : ByteArray) (bits : Int) (s : Bool) (x y : Int) (hx : rdm a = some x) (hy : rdm b = some y) (hr : Hid (isRight bits = true)) (hm : Hid (isModeL md.data.toList = true)) (hn : Hid (isOpL op.data.toList = false)) (w : World) :
    Calls Try.prog 22 #[.string op, .string a, .string b, .int .i64 bits, .bool s, .string md] w fun e w' => e = .returned (.tuple #[.string ⟨#[]⟩, .int .i64 3]) ∧ Below w.heap.size w w' := by
  go_enter Try.func22, Try.ntmps22
  go_wp2_with (go_at_call 52; refine (reads2_ok w.heap.size _ a b x y hx hy _ (ha_new rfl)).mono ?_)
  rintro e w1 ⟨g, cap, rfl, hgl, hT, hb⟩
  replace hb := ((Below.refl w.heap.size w).alloc (Nat.le_refl _) _).trans (hb.mono (by simp))
  have hgl2 : w.heap.size ≤ g := by simp at hgl; omega
  clear hgl
  go_upto_region 5 with (fail)
  have ltg := hT.lt
  refine wp_world (fun W => W.heap[w1.heap.size]? = some (.cells (wi bits s) 68 (0, 0)) ∧ TwoAt W g x y ∧ Below w.heap.size w W) ⟨ha_new rfl, hT.below ((Below.refl _ _).alloc (Nat.le_refl _) _), hb.alloc hb.size _⟩ ?_
  obtain ⟨p, hp⟩ : ∃ p, p = w1.heap.size := ⟨_, rfl⟩
  rw [← hp] at ltg ⊢
  have hpl : w.heap.size ≤ p := by rw [hp]; exact hb.size
  clear hT hb hp
  rintro W ⟨h0, hT, hb⟩
  apply wp_region_lit
  ((with_reducible apply wl_rowG); exact rfl; exact rfl; exact rowWi (by with_reducible assumption))
  refine wl_ck rfl (fun K hK => ?_); go_simp; refine ⟨_, _, ⟨rfl, rfl⟩, hK _ _ ⟨_, right_any _ _ true (Lib.hid hr.out.symm) _, ?_⟩⟩; clear hK K; rintro e w2 ⟨rfl, hb1⟩; refine ⟨_, rfl, ?_⟩; simp only [put_lit, List.set_cons_zero, List.set_cons_succ]
  replace h0 := below_look hb1 h0; replace hT := hT.below hb1; replace hb := hb.trans (hb1.mono hb.size); clear hb1
  refine wl_k rfl (fun K hK => ?_); go_simp; refine hK _ ?_; clear hK K
  refine wl_k rfl (fun K hK => ?_); go_simp; refine hK _ ?_; clear hK K
  refine wl_k rfl (fun K hK => ?_); go_simp; refine hK _ ?_; clear hK K
  refine wl_ck rfl (fun K hK => ?_); go_simp; refine ⟨_, _, ⟨rfl, rfl⟩, hK _ _ ⟨_, isMode_any _ true (Lib.hid hm.out.symm) _, ?_⟩⟩; clear hK K; rintro e w2 ⟨rfl, hb1⟩; refine ⟨_, rfl, ?_⟩; simp only [put_lit, List.set_cons_zero, List.set_cons_succ]
  replace h0 := below_look hb1 h0; replace hT := hT.below hb1; replace hb := hb.trans (hb1.mono hb.size); clear hb1
  refine wl_k rfl (fun K hK => ?_); go_simp; refine hK _ ?_; clear hK K
  refine wl_k rfl (fun K hK => ?_); go_simp; refine hK _ ?_; clear hK K
  refine wl_k rfl (fun K hK => ?_); go_simp; refine hK _ ?_; clear hK K
  refine wl_wG rfl (ex_ops rfl (fun _ => rfl)) ?_
  simp only [put_lit, List.set_cons_zero, List.set_cons_succ]
  have hb1 := (Below.refl w2.heap.size w2).alloc (Nat.le_refl _) (.cells opCells 9)
  have hg5 : (w2.alloc (.cells opCells 9)).heap[w2.heap.size]? = some (.cells opCells 9 (0, 0)) := ha_new rfl
  replace h0 := below_look hb1 h0; replace hT := hT.below hb1; replace hb := hb.trans (hb1.mono hb.size); clear hb1
  refine wl_k rfl (fun K hK => ?_); go_simp; refine hK _ ?_; clear hK K
  refine wl_ck rfl (fun K hK => ?_); go_simp; refine ⟨_, _, ⟨rfl, rfl⟩, hK _ _ ⟨_, contains_ops _ _ false (Lib.hid hn.out.symm) _ hg5, ?_⟩⟩; clear hK K; rintro e w4 ⟨rfl, hb1⟩; refine ⟨_, rfl, ?_⟩; simp only [put_lit, List.set_cons_zero, List.set_cons_succ]
  replace h0 := below_look hb1 h0; replace hT := hT.below hb1; replace hb := hb.trans (hb1.mono hb.size); clear hb1
  refine wl_k rfl (fun K hK => ?_); go_simp; refine hK _ ?_; clear hK K
  refine wl_k rfl (fun K hK => ?_); go_simp; refine hK _ ?_; clear hK K
  go_wp2_with fail
  exact bodyPost_ret (results_tmp2 rfl _ _ _) rfl ⟨rfl, hb⟩
end Go.Proofs.Ytclainfdeghgnaa
