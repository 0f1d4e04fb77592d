/- An operation on two texts: the ranges of its arguments. -/
import Derived.Test.YtclainfdeghgnaaW19
import Derived.Outline
namespace Go.Proofs.Ytclainfdeghgnaa
open Go.RowKit Go.Proofs.Ytclainfdeghgnaa.Nm
section
variable {ops : Array Oper} {rest : List Oper} {dst : Option Tmp} {ty ty' : TypeId} {x : Operand} {pos : String} {after : Array Edge} {g : Option (Nat × Bool)} {a : Act} {Q : Act → Prop} {C : World → Prop} {ad : Addr} {D : Array Value} {v : Value}
theorem wq_as {o o' : Oper} (h1 : o.guard = o'.guard) (h2 : o.dst = o'.dst) (he : ∀ w, C w → (execOp a.eval o).run Try.prog w = (execOp a.eval o').run Try.prog w) (h : wpQuiet Try.prog ops C Q (o' :: rest) a) : wpQuiet Try.prog ops C Q (o :: rest) a := by
  unfold wpQuiet at h ⊢
  have e : Region.wanted o (yielded ops a.tmps) = Region.wanted o' (yielded ops a.tmps) := by unfold Region.wanted; rw [h1]
  rw [e]
  split
  · rename_i hw
    rw [if_pos hw] at h
    obtain ⟨v', hq, hk⟩ := h
    refine ⟨v', fun w hw => ?_, by rw [h2]; exact hk⟩
    unfold Oper.quietAt
    rw [he w hw]
    exact hq w hw
  · rename_i hw
    rw [if_neg hw] at h
    rw [h2]; exact h
theorem wq_row_as (hx : a.eval x = .pointer (some ad)) (hr : ∀ w', C w' → RowAt w' ty ad D) (h : wpQuiet Try.prog ops C Q (⟨dst, .move (.const (.agg D)), ty', pos, after, g⟩ :: rest) a) : wpQuiet Try.prog ops C Q (⟨dst, .load ty x, ty', pos, after, g⟩ :: rest) a := by
  exact wq_as (o := ⟨dst, .load ty x, ty', pos, after, g⟩) (o' := ⟨dst, .move (.const (.agg D)), ty', pos, after, g⟩) rfl rfl (fun w hw => (ex_row hx (hr w hw)).trans rfl) h
theorem wq_one_as (hx : a.eval x = .pointer (some ad)) (hr : ∀ w', C w' → OneAt w' ty ad v) (h : wpQuiet Try.prog ops C Q (⟨dst, .move (.const v), ty', pos, after, g⟩ :: rest) a) : wpQuiet Try.prog ops C Q (⟨dst, .load ty x, ty', pos, after, g⟩ :: rest) a := by
  exact wq_as (o := ⟨dst, .load ty x, ty', pos, after, g⟩) (o' := ⟨dst, .move (.const v), ty', pos, after, g⟩) rfl rfl (fun w hw => (ex_one hx (hr w hw)).trans rfl) h
end
theorem right_bits {bits : Int} (h : isRight bits = true) : ∃ n : Nat, bits = n ∧ 1 ≤ n ∧ n ≤ 64 ∧ bits.toNat = n := by
  unfold isRight at h
  simp only [Bool.or_eq_true, beq_iff_eq] at h
  exact ⟨bits.toNat, by omega, by omega, by omega, rfl⟩
def hasI (bits : Int) (s : Bool) (x : Int) : Bool := hasW bits.toNat s x
theorem has_wi (bits : Int) (s : Bool) (x : Int) (hr : isRight bits = true) (hx : x.natAbs < 10 ^ 64) (R : Bool) (HR : Hid (hasI bits s x = R)) (w : World) :
    Calls Try.prog 56 #[.agg (wi bits s), .agg (lv x)] w fun e w' => e = .returned (.bool R) ∧ Below w.heap.size w w' := by
  obtain ⟨n, rfl, h1, h2, h3⟩ := right_bits hr
  rw [← HR.out, hasI, h3]
  exact has_any n s x h1 h2 hx w
theorem rdm_bd {m : ByteArray} {x : Int} (h : rdm m = some x) : x.natAbs < 10 ^ 64 := by
  have := rd_bd h
  have h2 : (10 : Nat) ^ 40 < 10 ^ 64 := by decide
  omega
def isShift (l : List UInt8) : Bool := l == [60, 60] || l == [62, 62]
theorem bring_wi (bits : Int) (s : Bool) (z : Int) (m : ByteArray) (hr : isRight bits = true) (hz : z.natAbs ≤ 100000000000000000000000000000000000000000000000000000000000) (r er : Int) (HR : Hid (bringW bits.toNat s m.toList z = (r, er))) (w : World) :
    Calls Try.prog 59 #[.agg (wi bits s), .agg (lv z), .string m] w fun e w' => e = .returned (.tuple #[.agg (lv r), .int .i64 er]) ∧ Below w.heap.size w w' := by
  obtain ⟨n, rfl, h1, h2, h3⟩ := right_bits hr
  have := bring_any n s z m h1 h2 hz w
  rw [h3] at HR
  rw [HR.out] at this
  exact this
set_option maxHeartbeats 1000000 in
theorem Do_range1 (op a b md : ByteArray) (bits : Int) (s : Bool) (x y : Int) (hx : rdm a = some x) (hy : rdm b = some y) (hr : Hid (isRight bits = true)) (hm : Hid (isModeL md.data.toList = true)) (ho : Hid (isOpL op.data.toList = true))
    (s1 s2 : Bool) (hs1 : (op.toList == [60, 60]) = s1) (hs2 : (op.toList == [62, 62]) = s2) (hn : Hid (hasI bits s x = false)) (w : World) :
    Calls Try.prog 22 #[.string op, .string a, .string b, .int .i64 bits, .bool s, .string md] w fun e w' => e = .returned (.tuple #[.string ⟨#[]⟩, .int .i64 1]) ∧ Below w.heap.size w w' := by
  have bx := Lib.hid (rdm_bd hx)
  cases s1 <;> cases s2
  all_goals
    go_enter Try.func22, Try.ntmps22
    go_wp2_with (go_at_call 52; refine (reads2_ok w.heap.size _ a b x y hx hy _ (ha_new rfl)).mono ?_)
    rintro e w1 ⟨g, cap, rfl, hgl, hT, hb⟩
    replace hb := ((Below.refl w.heap.size w).alloc (Nat.le_refl _) _).trans (hb.mono (by simp))
    have hgl2 : w.heap.size ≤ g := by simp at hgl; omega
    clear hgl
    go_upto_region 5 with (fail)
    have ltg := hT.lt
    refine wp_world (fun W => W.heap[w1.heap.size]? = some (.cells (wi bits s) 68 (0, 0)) ∧ TwoAt W g x y ∧ Below w.heap.size w W) ⟨ha_new rfl, hT.below ((Below.refl _ _).alloc (Nat.le_refl _) _), hb.alloc hb.size _⟩ ?_
    obtain ⟨p, hp⟩ : ∃ p, p = w1.heap.size := ⟨_, rfl⟩
    rw [← hp] at ltg ⊢
    have hpl : w.heap.size ≤ p := by rw [hp]; exact hb.size
    clear hT hb hp
    rintro W ⟨h0, hT, hb⟩
    apply wp_region_lit
    ((with_reducible apply wl_rowG); exact rfl; exact rfl; exact rowWi (by with_reducible assumption))
    refine wl_ck rfl (fun K hK => ?_); go_simp; refine ⟨_, _, ⟨rfl, rfl⟩, hK _ _ ⟨_, right_any _ _ true (Lib.hid hr.out.symm) _, ?_⟩⟩; clear hK K; rintro e w2 ⟨rfl, hb1⟩; refine ⟨_, rfl, ?_⟩; simp only [put_lit, List.set_cons_zero, List.set_cons_succ]
    replace h0 := below_look hb1 h0; replace hT := hT.below hb1; replace hb := hb.trans (hb1.mono hb.size); clear hb1
    refine wl_k rfl (fun K hK => ?_); go_simp; refine hK _ ?_; clear hK K
    refine wl_k rfl (fun K hK => ?_); go_simp; refine hK _ ?_; clear hK K
    refine wl_k rfl (fun K hK => ?_); go_simp; refine hK _ ?_; clear hK K
    refine wl_ck rfl (fun K hK => ?_); go_simp; refine ⟨_, _, ⟨rfl, rfl⟩, hK _ _ ⟨_, isMode_any _ true (Lib.hid hm.out.symm) _, ?_⟩⟩; clear hK K; rintro e w2 ⟨rfl, hb1⟩; refine ⟨_, rfl, ?_⟩; simp only [put_lit, List.set_cons_zero, List.set_cons_succ]
    replace h0 := below_look hb1 h0; replace hT := hT.below hb1; replace hb := hb.trans (hb1.mono hb.size); clear hb1
    refine wl_k rfl (fun K hK => ?_); go_simp; refine hK _ ?_; clear hK K
    refine wl_k rfl (fun K hK => ?_); go_simp; refine hK _ ?_; clear hK K
    refine wl_k rfl (fun K hK => ?_); go_simp; refine hK _ ?_; clear hK K
    refine wl_wG rfl (ex_ops rfl (fun _ => rfl)) ?_
    simp only [put_lit, List.set_cons_zero, List.set_cons_succ]
    have hb1 := (Below.refl w2.heap.size w2).alloc (Nat.le_refl _) (.cells opCells 9)
    have hg5 : (w2.alloc (.cells opCells 9)).heap[w2.heap.size]? = some (.cells opCells 9 (0, 0)) := ha_new rfl
    replace h0 := below_look hb1 h0; replace hT := hT.below hb1; replace hb := hb.trans (hb1.mono hb.size); clear hb1
    refine wl_k rfl (fun K hK => ?_); go_simp; refine hK _ ?_; clear hK K
    refine wl_ck rfl (fun K hK => ?_); go_simp; refine ⟨_, _, ⟨rfl, rfl⟩, hK _ _ ⟨_, contains_ops _ _ true (Lib.hid ho.out.symm) _ hg5, ?_⟩⟩; clear hK K; rintro e w4 ⟨rfl, hb1⟩; refine ⟨_, rfl, ?_⟩; simp only [put_lit, List.set_cons_zero, List.set_cons_succ]
    replace h0 := below_look hb1 h0; replace hT := hT.below hb1; replace hb := hb.trans (hb1.mono hb.size); clear hb1
    clear hg5
    refine wl_k rfl (fun K hK => ?_); go_simp; refine hK _ ?_; clear hK K
    refine wl_k rfl (fun K hK => ?_); go_simp; refine hK _ ?_; clear hK K
    go_upto_region 8 with (fail)
    have hdum : (2 : Nat) ≤ 2 := Nat.le_refl 2
    refine wp_region_belowAll mixed (by kernel_rfl) ?_
    (refine wq_row_as rfl (fun w' hw' => rowWi (below_look hw' h0)) ?_; go_big_quiet_want; go_big_quiet_op; go_big_quiet_on)
    (go_big_quiet_want; go_big_quiet_op; first | go_big_quiet_on | (refine ⟨_, fun _ _ => rfl, ?_⟩; go_big_quiet_on))
    (go_big_quiet_want; go_big_quiet_op; first | go_big_quiet_on | (refine ⟨_, fun _ _ => rfl, ?_⟩; go_big_quiet_on))
    (refine wq_row_as rfl (fun w' hw' => two0 (TwoAt.below hw' hT)) ?_; go_big_quiet_want; go_big_quiet_op; go_big_quiet_on)
    (go_big_quiet_want; go_big_quiet_op; refine ⟨_, fun w' hw' => calls_class hw' (has_wi _ _ _ hr.out bx.out false hn w'), ?_⟩; go_big_quiet_on)
    (go_big_quiet_want; go_big_quiet_op; first | go_big_quiet_on | (refine ⟨_, fun _ _ => rfl, ?_⟩; go_big_quiet_on))
    (go_big_quiet_want; go_big_quiet_op; first | go_big_quiet_on | (refine ⟨_, fun _ _ => rfl, ?_⟩; go_big_quiet_on))
    go_big_quiet_skip
    go_big_quiet_skip
    go_big_quiet_skip
    go_big_quiet_skip
    go_big_quiet_skip
    go_big_quiet_skip
    (go_big_quiet_want; go_big_quiet_op; first | go_big_quiet_on | (refine ⟨_, fun _ _ => rfl, ?_⟩; go_big_quiet_on))
    (go_big_quiet_want; go_big_quiet_op; first | go_big_quiet_on | (refine ⟨_, fun _ _ => rfl, ?_⟩; go_big_quiet_on))
    go_big_quiet_skip
    go_big_quiet_skip
    go_big_quiet_skip
    go_big_quiet_skip
    go_big_quiet_skip
    go_big_quiet_skip
    go_big_quiet_skip
    go_big_quiet_skip
    go_big_quiet_skip
    go_big_quiet_skip
    go_big_quiet_skip
    go_big_quiet_skip
    go_big_quiet_skip
    go_big_quiet_skip
    go_big_quiet_skip
    go_big_quiet_skip
    (go_big_quiet_want; go_big_quiet_op; first | go_big_quiet_on | (refine ⟨_, fun _ _ => rfl, ?_⟩; go_big_quiet_on))
    intro w6 hb1
    replace h0 := below_look hb1 h0; replace hT := hT.below hb1; replace hb := hb.trans (hb1.mono hb.size); clear hb1
    go_wp2_with fail
    exact bodyPost_ret (results_tmp2 rfl _ _ _) rfl ⟨rfl, hb⟩
set_option maxHeartbeats 1000000 in
theorem Do_range2 (op a b md : ByteArray) (bits : Int) (s : Bool) (x y : Int) (hx : rdm a = some x) (hy : rdm b = some y) (hr : Hid (isRight bits = true)) (hm : Hid (isModeL md.data.toList = true)) (ho : Hid (isOpL op.data.toList = true))
    (s1 s2 : Bool) (hs1 : (op.toList == [60, 60]) = s1) (hs2 : (op.toList == [62, 62]) = s2) (hhx : Hid (hasI bits s x = true)) (hn : Hid (hasI bits s y = false)) (w : World) :
    Calls Try.prog 22 #[.string op, .string a, .string b, .int .i64 bits, .bool s, .string md] w fun e w' => e = .returned (.tuple #[.string ⟨#[]⟩, .int .i64 1]) ∧ Below w.heap.size w w' := by
  have bx := Lib.hid (rdm_bd hx)
  have bY := Lib.hid (rdm_bd hy)
  cases s1 <;> cases s2
  all_goals
    go_enter Try.func22, Try.ntmps22
    go_wp2_with (go_at_call 52; refine (reads2_ok w.heap.size _ a b x y hx hy _ (ha_new rfl)).mono ?_)
    rintro e w1 ⟨g, cap, rfl, hgl, hT, hb⟩
    replace hb := ((Below.refl w.heap.size w).alloc (Nat.le_refl _) _).trans (hb.mono (by simp))
    have hgl2 : w.heap.size ≤ g := by simp at hgl; omega
    clear hgl
    go_upto_region 5 with (fail)
    have ltg := hT.lt
    refine wp_world (fun W => W.heap[w1.heap.size]? = some (.cells (wi bits s) 68 (0, 0)) ∧ TwoAt W g x y ∧ Below w.heap.size w W) ⟨ha_new rfl, hT.below ((Below.refl _ _).alloc (Nat.le_refl _) _), hb.alloc hb.size _⟩ ?_
    obtain ⟨p, hp⟩ : ∃ p, p = w1.heap.size := ⟨_, rfl⟩
    rw [← hp] at ltg ⊢
    have hpl : w.heap.size ≤ p := by rw [hp]; exact hb.size
    clear hT hb hp
    rintro W ⟨h0, hT, hb⟩
    apply wp_region_lit
    ((with_reducible apply wl_rowG); exact rfl; exact rfl; exact rowWi (by with_reducible assumption))
    refine wl_ck rfl (fun K hK => ?_); go_simp; refine ⟨_, _, ⟨rfl, rfl⟩, hK _ _ ⟨_, right_any _ _ true (Lib.hid hr.out.symm) _, ?_⟩⟩; clear hK K; rintro e w2 ⟨rfl, hb1⟩; refine ⟨_, rfl, ?_⟩; simp only [put_lit, List.set_cons_zero, List.set_cons_succ]
    replace h0 := below_look hb1 h0; replace hT := hT.below hb1; replace hb := hb.trans (hb1.mono hb.size); clear hb1
    refine wl_k rfl (fun K hK => ?_); go_simp; refine hK _ ?_; clear hK K
    refine wl_k rfl (fun K hK => ?_); go_simp; refine hK _ ?_; clear hK K
    refine wl_k rfl (fun K hK => ?_); go_simp; refine hK _ ?_; clear hK K
    refine wl_ck rfl (fun K hK => ?_); go_simp; refine ⟨_, _, ⟨rfl, rfl⟩, hK _ _ ⟨_, isMode_any _ true (Lib.hid hm.out.symm) _, ?_⟩⟩; clear hK K; rintro e w2 ⟨rfl, hb1⟩; refine ⟨_, rfl, ?_⟩; simp only [put_lit, List.set_cons_zero, List.set_cons_succ]
    replace h0 := below_look hb1 h0; replace hT := hT.below hb1; replace hb := hb.trans (hb1.mono hb.size); clear hb1
    refine wl_k rfl (fun K hK => ?_); go_simp; refine hK _ ?_; clear hK K
    refine wl_k rfl (fun K hK => ?_); go_simp; refine hK _ ?_; clear hK K
    refine wl_k rfl (fun K hK => ?_); go_simp; refine hK _ ?_; clear hK K
    refine wl_wG rfl (ex_ops rfl (fun _ => rfl)) ?_
    simp only [put_lit, List.set_cons_zero, List.set_cons_succ]
    have hb1 := (Below.refl w2.heap.size w2).alloc (Nat.le_refl _) (.cells opCells 9)
    have hg5 : (w2.alloc (.cells opCells 9)).heap[w2.heap.size]? = some (.cells opCells 9 (0, 0)) := ha_new rfl
    replace h0 := below_look hb1 h0; replace hT := hT.below hb1; replace hb := hb.trans (hb1.mono hb.size); clear hb1
    refine wl_k rfl (fun K hK => ?_); go_simp; refine hK _ ?_; clear hK K
    refine wl_ck rfl (fun K hK => ?_); go_simp; refine ⟨_, _, ⟨rfl, rfl⟩, hK _ _ ⟨_, contains_ops _ _ true (Lib.hid ho.out.symm) _ hg5, ?_⟩⟩; clear hK K; rintro e w4 ⟨rfl, hb1⟩; refine ⟨_, rfl, ?_⟩; simp only [put_lit, List.set_cons_zero, List.set_cons_succ]
    replace h0 := below_look hb1 h0; replace hT := hT.below hb1; replace hb := hb.trans (hb1.mono hb.size); clear hb1
    clear hg5
    refine wl_k rfl (fun K hK => ?_); go_simp; refine hK _ ?_; clear hK K
    refine wl_k rfl (fun K hK => ?_); go_simp; refine hK _ ?_; clear hK K
    go_upto_region 8 with (fail)
    have hdum : (2 : Nat) ≤ 2 := Nat.le_refl 2
    refine wp_region_belowAll mixed (by kernel_rfl) ?_
    (refine wq_row_as rfl (fun w' hw' => rowWi (below_look hw' h0)) ?_; go_big_quiet_want; go_big_quiet_op; go_big_quiet_on)
    (go_big_quiet_want; go_big_quiet_op; first | go_big_quiet_on | (refine ⟨_, fun _ _ => rfl, ?_⟩; go_big_quiet_on))
    (go_big_quiet_want; go_big_quiet_op; first | go_big_quiet_on | (refine ⟨_, fun _ _ => rfl, ?_⟩; go_big_quiet_on))
    (refine wq_row_as rfl (fun w' hw' => two0 (TwoAt.below hw' hT)) ?_; go_big_quiet_want; go_big_quiet_op; go_big_quiet_on)
    (go_big_quiet_want; go_big_quiet_op; refine ⟨_, fun w' hw' => calls_class hw' (has_wi _ _ _ hr.out bx.out true hhx w'), ?_⟩; go_big_quiet_on)
    (go_big_quiet_want; go_big_quiet_op; first | go_big_quiet_on | (refine ⟨_, fun _ _ => rfl, ?_⟩; go_big_quiet_on))
    (go_big_quiet_want; go_big_quiet_op; first | go_big_quiet_on | (refine ⟨_, fun _ _ => rfl, ?_⟩; go_big_quiet_on))
    (refine wq_row_as rfl (fun w' hw' => rowWi (below_look hw' h0)) ?_; go_big_quiet_want; go_big_quiet_op; go_big_quiet_on)
    (go_big_quiet_want; go_big_quiet_op; first | go_big_quiet_on | (refine ⟨_, fun _ _ => rfl, ?_⟩; go_big_quiet_on))
    (go_big_quiet_want; go_big_quiet_op; first | go_big_quiet_on | (refine ⟨_, fun _ _ => rfl, ?_⟩; go_big_quiet_on))
    (refine wq_row_as rfl (fun w' hw' => two1 (TwoAt.below hw' hT)) ?_; go_big_quiet_want; go_big_quiet_op; go_big_quiet_on)
    (go_big_quiet_want; go_big_quiet_op; refine ⟨_, fun w' hw' => calls_class hw' (has_wi _ _ _ hr.out bY.out false hn w'), ?_⟩; go_big_quiet_on)
    (go_big_quiet_want; go_big_quiet_op; first | go_big_quiet_on | (refine ⟨_, fun _ _ => rfl, ?_⟩; go_big_quiet_on))
    (go_big_quiet_want; go_big_quiet_op; first | go_big_quiet_on | (refine ⟨_, fun _ _ => rfl, ?_⟩; go_big_quiet_on))
    (go_big_quiet_want; go_big_quiet_op; first | go_big_quiet_on | (refine ⟨_, fun _ _ => rfl, ?_⟩; go_big_quiet_on))
    go_big_quiet_skip
    go_big_quiet_skip
    go_big_quiet_skip
    go_big_quiet_skip
    go_big_quiet_skip
    go_big_quiet_skip
    go_big_quiet_skip
    go_big_quiet_skip
    go_big_quiet_skip
    go_big_quiet_skip
    go_big_quiet_skip
    go_big_quiet_skip
    go_big_quiet_skip
    go_big_quiet_skip
    go_big_quiet_skip
    go_big_quiet_skip
    (go_big_quiet_want; go_big_quiet_op; first | go_big_quiet_on | (refine ⟨_, fun _ _ => rfl, ?_⟩; go_big_quiet_on))
    intro w6 hb1
    replace h0 := below_look hb1 h0; replace hT := hT.below hb1; replace hb := hb.trans (hb1.mono hb.size); clear hb1
    go_wp2_with fail
    exact bodyPost_ret (results_tmp2 rfl _ _ _) rfl ⟨rfl, hb⟩
end Go.Proofs.Ytclainfdeghgnaa
