/- Long division of two rows of digits. -/
import Derived.Test.YtclainfdeghgnaaW5
import Derived.Test.YtclainfdeghgnaaW6
import Derived.Laws.CopyOwn
namespace Go.Proofs.Ytclainfdeghgnaa
open Go.RowKit Nm

def shf (f : Nat → Nat) (i : Nat) : Nat := if i = 0 then f 0 else f (i - 1)
set_option maxRecDepth 10000 in
theorem shf_row (f : Nat → Nat) : ((row f).toList.take 1 ++ (((List.range 63).map fun i => Value.int .u8 (f i : Int)) ++ (row f).toList.drop (1 + ((List.range 63).map fun i => Value.int .u8 (f i : Int)).length))).toArray = row (shf f) := rfl
theorem u114 : Try.prog.underlying 114 = some (.slice 5) := by kernel_rfl

theorem wl_shift {ops : Array Oper} {rest : List Oper} {dst : Option Tmp} {ty' : TypeId} {d s : Operand} {pos : String} {after : Array Edge} {a : Act} {w : World} {Q : Exit → Act → World → Prop} {g : Nat} {f : Nat → Nat}
    (hd : a.eval d = .slice (some ⟨g, 1, none⟩) 63 63) (hs : a.eval s = .slice (some ⟨g, 0, none⟩) 63 64) (hg : w.heap[g]? = some (.cells (row f) 73 (0, 0)))
    (h : wpList Try.prog ops Q rest (a.put dst (goInt 63)) (w.setRow g (row (shf f)))) :
    wpList Try.prog ops Q (⟨dst, .call { callee := .builtin .copy, args := #[d, s], argTypes := #[114, 114] }, ty', pos, after, none⟩ :: rest) a w := by
  refine wpList_copy_own rfl d s 114 114 rfl 5 u114 info5 g 1 63 63 ⟨g, 0, none⟩ 63 64 hd hs (row f) 73 hg ((List.range 63).map fun i => Value.int .u8 (f i : Int)) (by simp) (fun j v hv => ?_) (by simp [row_size]) (fun v hv => ?_) ?_
  · have hj : j < 63 := by have := (List.getElem?_eq_some_iff.1 hv).1; simpa using this
    have : (⟨g, 0, none⟩ : Addr).add j = ⟨g, j, none⟩ := by unfold Addr.add; split <;> simp_all
    rw [this, cell_of_row _ _ _ _ _ _ hg, row_get _ _ (by omega)]
    simp [hj] at hv
    rw [← hv]
  · obtain ⟨i, _, rfl⟩ := List.mem_map.1 hv; rfl
  · rw [shf_row]
    simpa using h

theorem shift_dig {R d : Nat} (hd : d < 10) : row (fun i => if i = 0 then d else shf (dg R) i) = dv (10 * R + d) := by
  refine row_congr fun i _ => ?_
  by_cases h : i = 0
  · subst h; simp [dg]; omega
  · obtain ⟨j, rfl⟩ : ∃ j, i = j + 1 := ⟨i - 1, by omega⟩
    rw [if_neg h, shf, if_neg h, Nat.add_sub_cancel]
    unfold dg
    rw [Nat.pow_succ, Nat.mul_comm (10 ^ j) 10, ← Nat.div_div_eq_div_mul]
    have : (10 * R + d) / 10 = R := by omega
    rw [this]

def qf (q k j : Nat) : Nat := if k ≤ j then dg q j else 0
def qi (q i t j : Nat) : Nat := if j = i then t else if i < j then dg q j else 0
theorem qf_qi (q i : Nat) : row (qf q (i + 1)) = row (qi q i 0) := row_congr fun j _ => by
  unfold qf qi; by_cases h : j = i
  · rw [if_pos h, if_neg (by omega)]
  · rw [if_neg h]; by_cases h2 : i < j
    · rw [if_pos h2, if_pos (by omega)]
    · rw [if_neg h2, if_neg (by omega)]
theorem qi_qf {q i t : Nat} (h : dg q i = t) : row (qi q i t) = row (qf q i) := row_congr fun j _ => by
  unfold qf qi; by_cases h1 : j = i
  · subst h1; rw [if_pos rfl, if_pos (by omega), h]
  · rw [if_neg h1]; by_cases h2 : i < j
    · rw [if_pos h2, if_pos (by omega)]
    · rw [if_neg h2, if_neg (by omega)]
theorem qi_step (q i t : Nat) (hi : i < 64) (v : Value) (hv : v = .int .u8 ((t + 1 : Nat) : Int)) : (row (qi q i t)).setIfInBounds i v = row (qi q i (t + 1)) := by
  subst hv; rw [row_set _ _ _ hi]; apply row_congr; intro j _; unfold qi; split <;> simp_all
theorem qf_start (q : Nat) : row (qf q 64) = row fun _ => 0 := row_congr fun j h => by unfold qf; rw [if_neg (by omega)]
theorem qf_end (q : Nat) : row (qf q 0) = dv q := row_congr fun j h => by unfold qf; rw [if_pos (by omega)]

/-- One digit of the quotient: it is found by taking away. -/
structure DivInv (a b i t r : Nat) : Prop where
  ge : t * b ≤ 10 * (a / 10 ^ (i + 1) % b) + dg a i
  eq : r = 10 * (a / 10 ^ (i + 1) % b) + dg a i - t * b
theorem DivInv.lt {a b i t r : Nat} (hb : 0 < b) (h : DivInv a b i t r) : t < 10 := by
  have h1 := Nat.mod_lt (a / 10 ^ (i + 1)) hb
  have h2 := dg_lt a i
  have h3 := h.ge
  refine Nat.lt_of_not_le fun hle => ?_
  have := Nat.mul_le_mul_right b hle
  omega
theorem DivInv.next {a b i t r : Nat} (h : DivInv a b i t r) (hr : b ≤ r) : DivInv a b i (t + 1) (r - b) := by
  have h1 := h.ge
  have h2 := h.eq
  have e : (t + 1) * b = t * b + b := Nat.succ_mul t b
  exact ⟨by omega, by omega⟩
theorem DivInv.done {a b i t r : Nat} (hb : 0 < b) (h : DivInv a b i t r) (hr : r < b) : dg (a / b) i = t ∧ r = a / 10 ^ i % b := by
  rw [quo_dg a b i hb, ← rest_digit a b i]
  have h1 := h.ge
  have h2 := h.eq
  generalize 10 * (a / 10 ^ (i + 1) % b) + dg a i = x at *
  have e : x = r + b * t := by rw [Nat.mul_comm]; omega
  rw [e, Nat.add_mul_div_left _ _ hb, Nat.add_mul_mod_self_left, Nat.div_eq_of_lt hr, Nat.mod_eq_of_lt hr]
  omega
theorem res_dig2 {fn : Func} {p q : Tmp} (h : fn.results = #[.cell p 73, .cell q 73]) (tmps : Array Value) (w : World) (g g' : Nat) (hp : tmps.getD p undef = .pointer (some ⟨g, 0, none⟩)) (hq : tmps.getD q undef = .pointer (some ⟨g', 0, none⟩)) {x y : Nat}
    (hg : w.heap[g]? = some (.cells (dv x) 73 (0, 0))) (hg' : w.heap[g']? = some (.cells (dv y) 73 (0, 0))) : (results fn tmps).run Try.prog w = .ok (.tuple #[.agg (dv x), .agg (dv y)]) w := by
  have hp' : tmps[p]?.getD undef = .pointer (some ⟨g, 0, none⟩) := by simpa using hp
  have hq' : tmps[q]?.getD undef = .pointer (some ⟨g', 0, none⟩) := by simpa using hq
  have l1 : (loadVar 73 ⟨g, 0, none⟩).run Try.prog w = .ok (.agg (dv x)) w := by have := rowR hg; unfold RowAt at this; exact this
  have l2 : (loadVar 73 ⟨g', 0, none⟩).run Try.prog w = .ok (.agg (dv y)) w := by have := rowR hg'; unfold RowAt at this; exact this
  simp [results, h, hp', hq', asAddr, l1, l2]
theorem setRow_same {w : World} {g : Nat} {cs : Array Value} {t : TypeId} {fr : Nat × Nat} (h : w.heap[g]? = some (.cells cs t fr)) : w.setRow g cs = w := by
  have hlt := heap_lt h
  have hv : w.heap[g] = .cells cs t fr := (Array.getElem?_eq_some_iff.1 h).2
  unfold World.setRow
  congr 1
  apply Array.ext_getElem?
  intro i
  rw [Array.getElem?_modify]
  split
  · subst_vars; rw [h]; rfl
  · rfl
/-- A store of what is there already leaves the world. -/
theorem wq_same {ops : Array Oper} {rest : List Oper} {dst : Option Tmp} {ty' : TypeId} {x y : Operand} {pos : String} {after : Array Edge} {gd : Option (Nat × Bool)} {a : Act} {q : Act → Prop} {C : World → Prop} {b : Nat} {n : Nat}
    (hg : Region.wanted ⟨dst, .store 73 x y, ty', pos, after, gd⟩ (yielded ops a.tmps) = true) (hx : a.eval x = .pointer (some ⟨b, 0, none⟩)) (hy : a.eval y = .agg (dv n))
    (hb : ∀ w', C w' → w'.heap[b]? = some (.cells (dv n) 73 (0, 0))) (h : wpQuiet Try.prog ops C q rest (a.put dst undef)) : wpQuiet Try.prog ops C q (⟨dst, .store 73 x y, ty', pos, after, gd⟩ :: rest) a := by
  unfold wpQuiet
  rw [if_pos hg]
  refine ⟨undef, fun w hw => ?_, h⟩
  have h1 := run_storeVar_row (P := Try.prog) w b 73 73 (dv n) (dv n) (hb w hw) (by rw [info73, dv_size]) rfl (dv_one n)
  rw [setRow_same (hb w hw)] at h1
  unfold Oper.quietAt execOp
  simp only [hx, hy, Instr.storeAt, Instr.sureAddr, Sem.run_bind, Sem.run_pure, Result.andThen_ok, h1]
  exact ⟨rfl, rfl⟩
def mq (w : World) (ad : Addr) : Nat := 10 - (intOf ((w.cell? ad).getD undef)).toNat

set_option maxHeartbeats 1000000 in
theorem divDigits_any (a b : Nat) (ha : a < 10 ^ 64) (hb0 : 0 < b) (hb1 : b < 10 ^ 63) (w : World) :
    Calls Try.prog 120 #[.agg (dv a), .agg (dv b)] w fun e w' => e = .returned (.tuple #[.agg (dv (a / b)), .agg (dv (a % b))]) ∧ Below w.heap.size w w' := by
  have HA := Lib.hid ha
  have HB0 := Lib.hid hb0
  have HB1 := Lib.hid hb1
  clear ha hb0 hb1
  go_enter Try.func120, Try.ntmps120
  go_upto_region 1 with (fail)
  refine wp_world (fun W => W.heap[w.heap.size]? = some (.cells (dv a) 73 (0, 0)) ∧ W.heap[w.heap.size + 1]? = some (.cells (dv b) 73 (0, 0)) ∧ W.heap[w.heap.size + 1 + 1]? = some (.cells (row fun _ => 0) 73 (0, 0)) ∧ W.heap[w.heap.size + 1 + 1 + 1]? = some (.cells (row fun _ => 0) 73 (0, 0)) ∧ Below w.heap.size w W)
    ⟨ha_old (ha_old (ha_old (ha_new rfl))), ha_old (ha_old (ha_new (by simp))), by rw [← zero_row]; exact ha_old (ha_new (by simp)), by rw [← zero_row]; exact ha_new (by simp), ((((Below.refl _ _).alloc (Nat.le_refl _) _).alloc (by simp) _).alloc (by simp; omega) _).alloc (by simp; omega) _⟩ ?_
  rintro W ⟨h0, h1, h2, h3, hb⟩
  obtain ⟨B0, hB0⟩ : ∃ B, B = w.heap.size := ⟨_, rfl⟩
  rw [← hB0] at h0 h1 h2 h3 hb ⊢
  have HBW := Lib.hid hB0
  clear hB0
  go_wp2_with fail
  go_loopw [6] (fun i wr => ∃ k : Nat, k ≤ 64 ∧ i = .int .i64 ((k : Int) - 1) ∧ wr.heap[B0]? = some (.cells (dv a) 73 (0, 0)) ∧ wr.heap[B0 + 1]? = some (.cells (dv b) 73 (0, 0)) ∧ wr.heap[B0 + 1 + 1]? = some (.cells (row (qf (a / b) k)) 73 (0, 0)) ∧ wr.heap[B0 + 1 + 1 + 1]? = some (.cells (dv (a / 10 ^ k % b)) 73 (0, 0)) ∧ Below B0 w wr) (fun i _ => (intOf i + 1).toNat)
  case atStart =>
    refine ⟨64, by omega, rfl, h0, h1, by rw [qf_start]; exact h2, ?_, hb⟩
    rw [Nat.div_eq_of_lt HA.out, Nat.zero_mod, ← row_zero_dv]
    exact h3
  case round =>
    clear h0 h1 h2 h3 hb
    obtain ⟨k, hk, rfl, h0, h1, h2, h3, hb⟩ := hrel
    by_cases hlt : 0 < k
    · obtain ⟨i, rfl⟩ : ∃ i, k = i + 1 := ⟨k - 1, by omega⟩
      have ei : ((i + 1 : Nat) : Int) - 1 = (i : Int) := by omega
      rw [ei]
      clear ei
      have hi : (i : Int) < 64 := by omega
      have da := dg_lt a i
      obtain ⟨R, hR⟩ : ∃ R, R = a / 10 ^ (i + 1) % b := ⟨_, rfl⟩
      rw [← hR] at h3
      have HR := Lib.hid hR
      clear hR
      rw [dv] at h3
      go_wp2_with fail
      refine wp_region_below 2 mixed (by kernel_rfl) ?_; simp only [List.take_succ_cons, List.take_zero, List.drop_succ_cons, List.drop_zero]
      refine wq_k rfl (fun K hK => ?_); go_simp; refine hK _ ?_; clear hK K
      refine wq_k rfl (fun K hK => ?_); go_simp; refine hK _ ?_; clear hK K
      intro w' hw'
      replace h0 := below_look hw' h0
      replace h1 := below_look hw' h1
      replace h2 := below_look hw' h2
      replace h3 := below_look hw' h3
      replace hb := hb.trans (hw'.mono (by have := HBW.out; have := hb.size; omega))
      clear hw'
      (with_reducible apply wl_shift)
      exact rfl
      exact rfl
      exact h3
      refine wl_world (fun W => W.heap[B0]? = some (.cells (dv a) 73 (0, 0)) ∧ W.heap[B0 + 1]? = some (.cells (dv b) 73 (0, 0)) ∧ W.heap[B0 + 1 + 1]? = some (.cells (row (qf (a / b) (i + 1))) 73 (0, 0)) ∧ W.heap[B0 + 1 + 1 + 1]? = some (.cells (row (shf (dg R))) 73 (0, 0)) ∧ Below B0 w W)
        ⟨hr_old h0 (by omega), hr_old h1 (by omega), hr_old h2 (by omega), hr_new h3, below_setRow hb (by omega) _⟩ ?_
      clear h0 h1 h2 h3 hb
      rintro W ⟨h0, h1, h2, h3, hb⟩
      have ca : W.cell? ⟨B0, i, none⟩ = some (.int .u8 (dg a i)) := by rw [cell_of_row _ _ _ _ _ _ h0, dv, row_get _ _ (by omega)]
      have cr : W.cell? ⟨B0 + 1 + 1 + 1, 0, none⟩ = some (.int .u8 (shf (dg R) 0)) := by rw [cell_of_row _ _ _ _ _ _ h3, row_get _ _ (by omega)]
      have fr : W.frozen? ⟨B0 + 1 + 1 + 1, 0, none⟩ = false := frozen_of_row _ _ _ _ _ h3
      go_wp2_with fail
      go_loopw [] (fun wr => ∃ t r : Nat, Hid (DivInv a b i t r) ∧ wr.heap[B0]? = some (.cells (dv a) 73 (0, 0)) ∧ wr.heap[B0 + 1]? = some (.cells (dv b) 73 (0, 0)) ∧ wr.heap[B0 + 1 + 1]? = some (.cells (row (qi (a / b) i t)) 73 (0, 0)) ∧ wr.heap[B0 + 1 + 1 + 1]? = some (.cells (dv r) 73 (0, 0)) ∧ Below B0 w wr) (fun wr => mq wr ⟨B0 + 1 + 1, i, none⟩)
      case atStart =>
        refine ⟨0, 10 * R + dg a i, ⟨by omega, by rw [HR.out]; omega⟩, hs_old h0 (by simp; omega), hs_old h1 (by simp), by rw [← qf_qi]; exact hs_old h2 (by simp), ?_, hb.setCell (by simp; omega) _⟩
        rw [← shift_dig da]
        exact (hs_new h3).trans (by rw [row_set _ _ _ (by omega)])
      case round =>
        clear h0 h1 h2 h3 hb ca cr fr
        obtain ⟨t, r, hD, h0, h1, h2, h3, hb⟩ := hrel
        have hr64 : r < 10 ^ 64 := by
          have h1 := hD.out.eq
          have h2 := Nat.mod_lt (a / 10 ^ (i + 1)) HB0.out
          have h3 := HB1.out
          have : (10 : Nat) ^ 64 = 10 * 10 ^ 63 := by decide
          omega
        have hc := cmpD_spec hr64 (show b < 10 ^ 64 by have := HB1.out; have : (10 : Nat) ^ 64 = 10 * 10 ^ 63 := by decide
                                                       omega)
        have hcb := cmpD_bd r b
        have ht := hD.out.lt HB0.out
        by_cases hle : b ≤ r
        · have hge : 0 ≤ cmpD r b := by omega
          have HL := Lib.hid hle
          clear hc hle hr64
          have cq : wr.cell? ⟨B0 + 1 + 1, i, none⟩ = some (.int .u8 t) := by rw [cell_of_row _ _ _ _ _ _ h2, row_get _ _ (by omega)]; simp [qi]
          have Hm : Hid (mq wr ⟨B0 + 1 + 1, i, none⟩ = 10 - t) := by show _ = _; unfold mq; rw [cq]; simp [intOf]
          go_upto_region 7 with (go_big_may; first | ((with_reducible apply wl_row); exact rfl; (first | exact rowL (by with_reducible assumption) | exact rowD (by with_reducible assumption) | exact rowR (by with_reducible assumption))) | ((with_reducible apply wl_one); exact rfl; exact oneN (by with_reducible assumption)) | ((with_reducible apply wl_stL); exact rfl; exact rfl; with_reducible assumption) | ((with_reducible apply wl_stR); exact rfl; exact rfl; with_reducible assumption) | (go_at_call 100; refine (compareDigits_any _ _ _).mono ?_; rintro e w1 ⟨rfl, hb1⟩))
          have hB0 := HBW.out
          have hsz := hb.size
          replace h0 := below_look hb1 h0
          replace h1 := below_look hb1 h1
          replace h2 := below_look hb1 h2
          replace h3 := below_look hb1 h3
          replace hb := hb.trans (hb1.mono (by omega))
          have hsz := hb.size
          rw [← hB0] at hsz
          clear hB0 hb1 cq
          go_upto_region 8 with (go_big_may; first | ((with_reducible apply wl_row); exact rfl; (first | exact rowL (by with_reducible assumption) | exact rowD (by with_reducible assumption) | exact rowR (by with_reducible assumption))) | ((with_reducible apply wl_one); exact rfl; exact oneN (by with_reducible assumption)) | ((with_reducible apply wl_stL); exact rfl; exact rfl; with_reducible assumption) | ((with_reducible apply wl_stR); exact rfl; exact rfl; with_reducible assumption) | (go_at_call 131; refine (subDigits_any _ _ HL.out _).mono ?_; rintro e w2 ⟨rfl, hb2⟩; replace h0 := below_look hb2 h0; replace h1 := below_look hb2 h1; replace h2 := below_look hb2 h2; replace h3 := below_look hb2 h3; replace hb := hb.trans (hb2.mono hsz); clear hb2))
          refine wp_world (fun W => W.heap[B0]? = some (.cells (dv a) 73 (0, 0)) ∧ W.heap[B0 + 1]? = some (.cells (dv b) 73 (0, 0)) ∧ W.heap[B0 + 1 + 1]? = some (.cells (row (qi (a / b) i t)) 73 (0, 0)) ∧ W.heap[B0 + 1 + 1 + 1]? = some (.cells (dv (r - b)) 73 (0, 0)) ∧ Below B0 w W)
            ⟨hr_old h0 (by omega), hr_old h1 (by omega), hr_old h2 (by omega), hr_new h3, below_setRow hb (by omega) _⟩ ?_
          clear h0 h1 h2 h3 hb
          rintro W ⟨h0, h1, h2, h3, hb⟩
          have cq : W.cell? ⟨B0 + 1 + 1, i, none⟩ = some (.int .u8 t) := by rw [cell_of_row _ _ _ _ _ _ h2, row_get _ _ (by omega)]; simp [qi]
          have fq : W.frozen? ⟨B0 + 1 + 1, i, none⟩ = false := frozen_of_row _ _ _ _ _ h2
          go_wp2_with fail
          go_roundw
          case rel => exact ⟨t + 1, r - b, hD.out.next HL.out, hs_old h0 (by simp; omega), hs_old h1 (by simp), (hs_new h2).trans (by rw [qi_step _ _ _ (by omega) _ (by go_num)]), hs_old h3 (by simp), hb.setCell (by simp; omega) _⟩
          case measure =>
            rw [Hm.out]
            unfold mq
            rw [World.cell?_setCell_same _ _ _ cq]
            simp [intOf]; omega
        · have hge : cmpD r b < 0 := by omega
          have hdone := hD.out.done HB0.out (by omega)
          have HX := Lib.hid hdone
          clear hc hle hr64 hdone
          go_upto_region 3 with (go_big_may; first | ((with_reducible apply wl_row); exact rfl; (first | exact rowL (by with_reducible assumption) | exact rowD (by with_reducible assumption) | exact rowR (by with_reducible assumption))) | ((with_reducible apply wl_one); exact rfl; exact oneN (by with_reducible assumption)) | ((with_reducible apply wl_stL); exact rfl; exact rfl; with_reducible assumption) | ((with_reducible apply wl_stR); exact rfl; exact rfl; with_reducible assumption) | (go_at_call 100; refine (compareDigits_any _ _ _).mono ?_; rintro e w1 ⟨rfl, hb1⟩))
          have hB0 := HBW.out
          have hsz := hb.size
          replace h0 := below_look hb1 h0
          replace h1 := below_look hb1 h1
          replace h2 := below_look hb1 h2
          replace h3 := below_look hb1 h3
          replace hb := hb.trans (hb1.mono (by omega))
          clear hB0 hb1 hsz
          go_wp2_with fail
          go_roundw
          case rel => exact ⟨i, by omega, by go_num, h0, h1, by rw [← qi_qf HX.out.1]; exact h2, by rw [← HX.out.2]; exact h3, hb⟩
          case measure => simp [intOf]
    · obtain rfl : k = 0 := by omega
      simp only [Nat.pow_zero, Nat.div_one] at h3
      rw [qf_end] at h2
      go_wp2_with fail
      refine wp_region_belowAll mixed (by kernel_rfl) ?_
      ((with_reducible apply wq_row); exact rfl; exact rfl; (intro w' hw'; first | exact rowL (below_look hw' (by with_reducible assumption)) | exact rowD (below_look hw' (by with_reducible assumption)) | exact rowR (below_look hw' (by with_reducible assumption))))
      ((with_reducible apply wq_row); exact rfl; exact rfl; (intro w' hw'; first | exact rowL (below_look hw' (by with_reducible assumption)) | exact rowD (below_look hw' (by with_reducible assumption)) | exact rowR (below_look hw' (by with_reducible assumption))))
      ((with_reducible apply wq_same); exact rfl; exact rfl; exact rfl; (intro w' hw'; exact below_look hw' (by with_reducible assumption)))
      ((with_reducible apply wq_same); exact rfl; exact rfl; exact rfl; (intro w' hw'; exact below_look hw' (by with_reducible assumption)))
      intro w' hw'
      replace h2 := below_look hw' h2
      replace h3 := below_look hw' h3
      replace hb := hb.trans (hw'.mono (by have := HBW.out; have := hb.size; omega))
      clear hw'
      go_wp2_with fail
      refine bodyPost_ret (v := .tuple #[.agg (dv (a / b)), .agg (dv (a % b))]) (res_dig2 rfl _ _ (B0 + 1 + 1) (B0 + 1 + 1 + 1) rfl rfl h2 h3) rfl ⟨rfl, ?_⟩
      have := HBW.out
      subst this
      exact hb
end Go.Proofs.Ytclainfdeghgnaa
