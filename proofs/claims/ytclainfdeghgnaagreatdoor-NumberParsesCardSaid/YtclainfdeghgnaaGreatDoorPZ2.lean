/- The product of two rows of digits. Long division of two rows of digits. Long numbers: out of an int, compared, multiplied, divided. A region that draws its order and in which one new variable is made at whatever time, ahead of the last stores: all else reads, or calls functions that hand back one value and leave what is old. The steps of plain regions, one operation at a time. Long numbers divided; powers; back to an int. -/
import Derived.Outline
import Derived.Laws.CopyOwn
import Derived.Test.YtclainfdeghgnaaGreatDoorPZ1
namespace Go.Proofs.YtclainfdeghgnaaGreatDoor
open Go.RowKit Go.Proofs.YtclainfdeghgnaaGreatDoor.Nm

def mo (p k i : Nat) : Nat := if i < k then dg p i else 0
theorem mo_step (p k : Nat) (hk : k < 64) (v : Value) (hv : v = .int .u8 (dg p k)) : (row (mo p k)).setIfInBounds k v = row (mo p (k + 1)) := by
  subst hv; rw [row_set _ _ _ hk]; apply row_congr; intro i _; unfold mo; split
  · subst_vars; rw [if_pos (by omega)]
  · by_cases h : i < k
    · rw [if_pos h, if_pos (by omega)]
    · rw [if_neg h, if_neg (by omega)]
theorem mo_zero (p : Nat) : row (mo p 0) = row fun _ => 0 := row_congr fun i _ => by simp [mo]
theorem mo_end (p : Nat) : row (mo p 64) = dv p := row_congr fun i h => by simp [mo, h]

set_option maxHeartbeats 1000000 in
theorem mulDigits_any (a b : Nat) (w : World) :
    Calls Tryz.prog 61 #[.agg (dv a), .agg (dv b)] w fun e w' => e = .returned (.agg (dv (a * b))) ∧ Below w.heap.size w w' := by
  go_enter Tryz.func61, Tryz.ntmps61
  go_upto_region 2 with (fail)
  refine wp_world (fun W => W.heap[w.heap.size]? = some (.cells (dv a) 55 (0, 0)) ∧ W.heap[w.heap.size + 1]? = some (.cells (dv b) 55 (0, 0)) ∧ W.heap[w.heap.size + 1 + 1]? = some (.cells (row fun _ => 0) 55 (0, 0)) ∧ W.heap[w.heap.size + 1 + 1 + 1]? = some (.cells (rowI fun _ => 0) 122 (0, 0)) ∧ Below w.heap.size w W)
    ⟨ha_old (ha_old (ha_old (ha_new rfl))), ha_old (ha_old (ha_new (by simp))), by rw [← zero_row]; exact ha_old (ha_new (by simp)), by rw [← zero_rowI]; exact ha_new (by simp), ((((Below.refl _ _).alloc (Nat.le_refl _) _).alloc (by simp) _).alloc (by simp; omega) _).alloc (by simp; omega) _⟩ ?_
  rintro W ⟨h0, h1, h2, h3, hb⟩
  go_wp2_with (first | ((with_reducible apply wl_row); exact rfl; (first | exact rowL (by with_reducible assumption) | exact rowD (by with_reducible assumption) | exact rowR (by with_reducible assumption))) | ((with_reducible apply wl_one); exact rfl; exact oneN (by with_reducible assumption)) | ((with_reducible apply wl_stL); exact rfl; exact rfl; with_reducible assumption) | ((with_reducible apply wl_stR); exact rfl; exact rfl; with_reducible assumption))
  go_loopw [14] (fun i wr => ∃ (k : Nat) (s : Nat → Nat), k ≤ 64 ∧ i = .int .i64 k ∧ Hid (MulInv a b k 0 s) ∧ wr.heap[w.heap.size + 1]? = some (.cells (dv b) 55 (0, 0)) ∧ wr.heap[w.heap.size + 1 + 1]? = some (.cells (row fun _ => 0) 55 (0, 0)) ∧ wr.heap[w.heap.size + 1 + 1 + 1]? = some (.cells (rowI s) 122 (0, 0)) ∧ Below w.heap.size w wr) (fun i _ => 64 - (intOf i).toNat)
  case atStart => exact ⟨0, _, by omega, rfl, MulInv.start a b, h1, h2, h3, hb⟩
  case round =>
    clear h0 h1 h2 h3 hb
    obtain ⟨k, s, hk, rfl, hI, h1, h2, h3, hb⟩ := hrel
    by_cases hlt : k < 64
    · have hd := dg_lt a k
      go_wp2_with (((with_reducible apply wl_ix73); exact rfl; exact rfl; assumption))
      go_loopw [8] (fun i wr => ∃ (j : Nat) (s : Nat → Nat), k + j ≤ 64 ∧ i = .int .i64 j ∧ (dg a k = 0 → j = 0) ∧ Hid (MulInv a b k j s) ∧ wr.heap[w.heap.size + 1]? = some (.cells (dv b) 55 (0, 0)) ∧ wr.heap[w.heap.size + 1 + 1]? = some (.cells (row fun _ => 0) 55 (0, 0)) ∧ wr.heap[w.heap.size + 1 + 1 + 1]? = some (.cells (rowI s) 122 (0, 0)) ∧ Below w.heap.size w wr) (fun i _ => 64 - (intOf i).toNat)
      case atStart => exact ⟨0, s, by omega, rfl, fun _ => rfl, hI, h1, h2, h3, hb⟩
      case round =>
        clear h1 h2 h3 hb hI
        obtain ⟨j, s, hkj, rfl, hj0, hI, h1, h2, h3, hb⟩ := hrel
        have HJ := Lib.hid hj0
        clear hj0
        by_cases hc : 0 < dg a k ∧ k + j < 64
        · obtain ⟨hc1, hc2⟩ := hc
          have hs : s (k + j) ≤ 5184 := hI.out.le (by omega) _ hc2
          have db := dg_lt b j
          have hp0 : (0 : Int) ≤ (dg a k : Int) * (dg b j : Int) := Int.mul_nonneg (by omega) (by omega)
          have hp1 : (dg a k : Int) * (dg b j : Int) ≤ 81 := by
            have : dg a k * dg b j ≤ 9 * 9 := Nat.mul_le_mul (by omega) (by omega)
            have h2 : ((dg a k * dg b j : Nat) : Int) ≤ 81 := by omega
            rwa [Int.natCast_mul] at h2
          have cs : wr.cell? ⟨w.heap.size + 1 + 1 + 1, k + j, none⟩ = some (.int .i64 (s (k + j))) := by
            rw [cell_of_row _ _ _ _ _ _ h3, rowI_get _ _ hc2]
          have cb : wr.cell? ⟨w.heap.size + 1, j, none⟩ = some (.int .u8 (dg b j)) := by
            rw [cell_of_row _ _ _ _ _ _ h1, dv, row_get _ _ (by omega)]
          have e1 : IntKind.i64.wrap ((k : Int) + j) = (k : Int) + j := IntWalk.i64_in _ (by omega)
          have e2 : IntKind.i64.wrap ((dg a k : Int) * (dg b j : Int)) = (dg a k : Int) * (dg b j : Int) := IntWalk.i64_in _ (by omega)
          have e3 : IntKind.i64.wrap ((s (k + j) : Int) + (dg a k : Int) * (dg b j : Int)) = (s (k + j) : Int) + (dg a k : Int) * (dg b j : Int) := IntWalk.i64_in _ (by omega)
          have e4 : (0 : Int) ≤ (k : Int) + j := by omega
          have e5 : (k : Int) + j < 64 := by omega
          have e6 : ((k : Int) + j).toNat = k + j := by omega
          have hj64 : (j : Int) < 64 := by omega
          go_wp2_with fail
          refine wp_region_below 14 mixed (by kernel_rfl) ?_; simp only [List.take_succ_cons, List.take_zero, List.drop_succ_cons, List.drop_zero]
          refine wq_k rfl (fun K hK => ?_); go_simp; refine hK _ ?_; clear hK K
          refine wq_k rfl (fun K hK => ?_); go_simp; refine hK _ ?_; clear hK K
          refine wq_k rfl (fun K hK => ?_); go_simp; refine hK _ ?_; clear hK K
          refine wq_k rfl (fun K hK => ?_); go_simp; refine hK _ ?_; clear hK K
          ((with_reducible apply wq_one); exact rfl; exact rfl; (intro w' hw'; exact one_of u3 rfl (below_cell hw' (by with_reducible assumption))))
          refine wq_k rfl (fun K hK => ?_); go_simp; refine hK _ ?_; clear hK K
          refine wq_k rfl (fun K hK => ?_); go_simp; refine hK _ ?_; clear hK K
          refine wq_k rfl (fun K hK => ?_); go_simp; refine hK _ ?_; clear hK K
          refine wq_k rfl (fun K hK => ?_); go_simp; refine hK _ ?_; clear hK K
          ((with_reducible apply wq_one); exact rfl; exact rfl; (intro w' hw'; exact one_of u5 rfl (below_cell hw' (by with_reducible assumption))))
          refine wq_k rfl (fun K hK => ?_); go_simp; refine hK _ ?_; clear hK K
          refine wq_k rfl (fun K hK => ?_); go_simp; refine hK _ ?_; clear hK K
          refine wq_k rfl (fun K hK => ?_); go_simp; refine hK _ ?_; clear hK K
          refine wq_k rfl (fun K hK => ?_); go_simp; refine hK _ ?_; clear hK K
          intro w' hw'
          have cs' := below_cell hw' cs
          have fs' : w'.frozen? ⟨w.heap.size + 1 + 1 + 1, k + j, none⟩ = false := frozen_of_row _ _ _ _ _ (below_look hw' h3)
          go_wp2
          clear e1 e2 e3 e4 e5 e6
          go_roundw
          case rel =>
            have h3' := below_look hw' h3
            refine ⟨j + 1, upd s (k + j) (dg a k * dg b j), by omega, by go_num, by omega, hI.out.step hc2, hs_old (below_look hw' h1) (by simp), hs_old (below_look hw' h2) (by simp), ?_, ?_⟩
            · rw [← rowI_upd s (k + j) _ hc2 _ (by rw [Int.natCast_add, Int.natCast_mul])]
              exact hs_new h3'
            · exact (hb.trans (hw'.mono hb.size)).setCell (by simp; omega) _
          case measure => simp [intOf]; omega
        · go_wp2
          all_goals
            go_roundw
            case rel =>
              refine ⟨k + 1, s, hlt, by go_num, hI.out.next ?_, h1, h2, h3, hb⟩
              have := HJ.out
              omega
            case measure => simp [intOf]; omega
    · obtain rfl : k = 64 := by omega
      have hsz := heap_lt h3
      obtain ⟨B, hB⟩ : ∃ B, B = wr.heap.size := ⟨_, rfl⟩
      go_upto_region 12 with (fail)
      refine wp_world (fun W => W.heap[w.heap.size + 1 + 1]? = some (.cells (row fun _ => 0) 55 (0, 0)) ∧ W.heap[w.heap.size + 1 + 1 + 1]? = some (.cells (rowI s) 122 (0, 0)) ∧ W.heap[B]? = some (.cells (row (mo (a * b) 0)) 55 (0, 0)) ∧ Below w.heap.size w W)
        ⟨ha_old h2, ha_old h3, by rw [mo_zero, ← zero_row]; exact ha_new hB, hb.alloc (by omega) _⟩ ?_
      rintro W ⟨h2, h3, h4, hb⟩
      have hBB : w.heap.size + 1 + 1 + 1 < B := by omega
      rw [← hB]
      clear hB hsz
      go_wp2_with (((with_reducible apply wl_row); exact rfl; exact rowS (by with_reducible assumption)))
      go_loopw [10, 44] (fun c i wr => ∃ k : Nat, k ≤ 64 ∧ i = .int .i64 k ∧ c = .int .i64 (Nm.cs s k) ∧ wr.heap[w.heap.size + 1 + 1]? = some (.cells (row fun _ => 0) 55 (0, 0)) ∧ wr.heap[B]? = some (.cells (row (mo (a * b) k)) 55 (0, 0)) ∧ Below w.heap.size w wr) (fun _ i _ => 64 - (intOf i).toNat)
      case atStart => exact ⟨0, by omega, rfl, rfl, h2, h4, hb⟩
      case round =>
        clear h2 h3 h4 hb
        obtain ⟨k, hk, rfl, rfl, h2, h4, hb⟩ := hrel
        by_cases hlt : k < 64
        · have b1 := hI.out.le' k hlt
          have b2 := cs_le s 64 (fun m hm => hI.out.le' m hm) k (by omega)
          have cc : ∃ v, wr.cell? ⟨B, k, none⟩ = some v := ⟨_, by rw [cell_of_row _ _ _ _ _ _ h4, row_get _ _ hlt]⟩
          obtain ⟨v, cc⟩ := cc
          have fc : wr.frozen? ⟨B, k, none⟩ = false := frozen_of_row _ _ _ _ _ h4
          go_wp2_with (((with_reducible apply wl_ix156); exact rfl; exact rfl; assumption))
          go_roundw
          case rel =>
            refine ⟨k + 1, hlt, by go_num, by rw [Nm.cs]; go_num, hs_old h2 (by simp; omega), ?_, hb.setCell (by simp; omega) _⟩
            exact (hs_new h4).trans (by rw [mo_step _ _ hlt _ (by rw [hI.out.dig k hlt]; go_num)])
          case measure => simp [intOf]; omega
        · obtain rfl : k = 64 := by omega
          rw [mo_end] at h4
          rw [row_zero_dv] at h2
          go_wp2_with (first | ((with_reducible apply wl_row); exact rfl; (first | exact rowL (by with_reducible assumption) | exact rowD (by with_reducible assumption) | exact rowR (by with_reducible assumption))) | ((with_reducible apply wl_one); exact rfl; exact oneN (by with_reducible assumption)) | ((with_reducible apply wl_stL); exact rfl; exact rfl; with_reducible assumption) | ((with_reducible apply wl_stR); exact rfl; exact rfl; with_reducible assumption))
          refine bodyPost_ret (res_dig rfl _ _ (w.heap.size + 1 + 1) rfl (hr_new h2)) rfl ⟨rfl, ?_⟩
          exact below_setRow hb (by omega) _
end Go.Proofs.YtclainfdeghgnaaGreatDoor
namespace Go.Proofs.YtclainfdeghgnaaGreatDoor
open Go.RowKit Go.Proofs.YtclainfdeghgnaaGreatDoor.Nm

def shf (f : Nat → Nat) (i : Nat) : Nat := if i = 0 then f 0 else f (i - 1)
set_option maxRecDepth 10000 in
theorem shf_row (f : Nat → Nat) : ((row f).toList.take 1 ++ (((List.range 63).map fun i => Value.int .u8 (f i : Int)) ++ (row f).toList.drop (1 + ((List.range 63).map fun i => Value.int .u8 (f i : Int)).length))).toArray = row (shf f) := rfl
theorem u114 : Tryz.prog.underlying 94 = some (.slice 5) := by kernel_rfl

theorem wl_shift {ops : Array Oper} {rest : List Oper} {dst : Option Tmp} {ty' : TypeId} {d s : Operand} {pos : String} {after : Array Edge} {a : Act} {w : World} {Q : Exit → Act → World → Prop} {g : Nat} {f : Nat → Nat}
    (hd : a.eval d = .slice (some ⟨g, 1, none⟩) 63 63) (hs : a.eval s = .slice (some ⟨g, 0, none⟩) 63 64) (hg : w.heap[g]? = some (.cells (row f) 55 (0, 0)))
    (h : wpList Tryz.prog ops Q rest (a.put dst (goInt 63)) (w.setRow g (row (shf f)))) :
    wpList Tryz.prog ops Q (⟨dst, .call { callee := .builtin .copy, args := #[d, s], argTypes := #[94, 94] }, ty', pos, after, none⟩ :: rest) a w := by
  refine wpList_copy_own rfl d s 94 94 rfl 5 u114 info5 g 1 63 63 ⟨g, 0, none⟩ 63 64 hd hs (row f) 55 hg ((List.range 63).map fun i => Value.int .u8 (f i : Int)) (by simp) (fun j v hv => ?_) (by simp [row_size]) (fun v hv => ?_) ?_
  · have hj : j < 63 := by have := (List.getElem?_eq_some_iff.1 hv).1; simpa using this
    have : (⟨g, 0, none⟩ : Addr).add j = ⟨g, j, none⟩ := by unfold Addr.add; split <;> simp_all
    rw [this, cell_of_row _ _ _ _ _ _ hg, row_get _ _ (by omega)]
    simp [hj] at hv
    rw [← hv]
  · obtain ⟨i, _, rfl⟩ := List.mem_map.1 hv; rfl
  · rw [shf_row]
    simpa using h

theorem shift_dig {R d : Nat} (hd : d < 10) : row (fun i => if i = 0 then d else shf (dg R) i) = dv (10 * R + d) := by
  refine row_congr fun i _ => ?_
  by_cases h : i = 0
  · subst h; simp [dg]; omega
  · obtain ⟨j, rfl⟩ : ∃ j, i = j + 1 := ⟨i - 1, by omega⟩
    rw [if_neg h, shf, if_neg h, Nat.add_sub_cancel]
    unfold dg
    rw [Nat.pow_succ, Nat.mul_comm (10 ^ j) 10, ← Nat.div_div_eq_div_mul]
    have : (10 * R + d) / 10 = R := by omega
    rw [this]

def qf (q k j : Nat) : Nat := if k ≤ j then dg q j else 0
def qi (q i t j : Nat) : Nat := if j = i then t else if i < j then dg q j else 0
theorem qf_qi (q i : Nat) : row (qf q (i + 1)) = row (qi q i 0) := row_congr fun j _ => by
  unfold qf qi; by_cases h : j = i
  · rw [if_pos h, if_neg (by omega)]
  · rw [if_neg h]; by_cases h2 : i < j
    · rw [if_pos h2, if_pos (by omega)]
    · rw [if_neg h2, if_neg (by omega)]
theorem qi_qf {q i t : Nat} (h : dg q i = t) : row (qi q i t) = row (qf q i) := row_congr fun j _ => by
  unfold qf qi; by_cases h1 : j = i
  · subst h1; rw [if_pos rfl, if_pos (by omega), h]
  · rw [if_neg h1]; by_cases h2 : i < j
    · rw [if_pos h2, if_pos (by omega)]
    · rw [if_neg h2, if_neg (by omega)]
theorem qi_step (q i t : Nat) (hi : i < 64) (v : Value) (hv : v = .int .u8 ((t + 1 : Nat) : Int)) : (row (qi q i t)).setIfInBounds i v = row (qi q i (t + 1)) := by
  subst hv; rw [row_set _ _ _ hi]; apply row_congr; intro j _; unfold qi; split <;> simp_all
theorem qf_start (q : Nat) : row (qf q 64) = row fun _ => 0 := row_congr fun j h => by unfold qf; rw [if_neg (by omega)]
theorem qf_end (q : Nat) : row (qf q 0) = dv q := row_congr fun j h => by unfold qf; rw [if_pos (by omega)]

/-- One digit of the quotient: it is found by taking away. -/
structure DivInv (a b i t r : Nat) : Prop where
  ge : t * b ≤ 10 * (a / 10 ^ (i + 1) % b) + dg a i
  eq : r = 10 * (a / 10 ^ (i + 1) % b) + dg a i - t * b
theorem DivInv.lt {a b i t r : Nat} (hb : 0 < b) (h : DivInv a b i t r) : t < 10 := by
  have h1 := Nat.mod_lt (a / 10 ^ (i + 1)) hb
  have h2 := dg_lt a i
  have h3 := h.ge
  refine Nat.lt_of_not_le fun hle => ?_
  have := Nat.mul_le_mul_right b hle
  omega
theorem DivInv.next {a b i t r : Nat} (h : DivInv a b i t r) (hr : b ≤ r) : DivInv a b i (t + 1) (r - b) := by
  have h1 := h.ge
  have h2 := h.eq
  have e : (t + 1) * b = t * b + b := Nat.succ_mul t b
  exact ⟨by omega, by omega⟩
theorem DivInv.done {a b i t r : Nat} (hb : 0 < b) (h : DivInv a b i t r) (hr : r < b) : dg (a / b) i = t ∧ r = a / 10 ^ i % b := by
  rw [quo_dg a b i hb, ← rest_digit a b i]
  have h1 := h.ge
  have h2 := h.eq
  generalize 10 * (a / 10 ^ (i + 1) % b) + dg a i = x at *
  have e : x = r + b * t := by rw [Nat.mul_comm]; omega
  rw [e, Nat.add_mul_div_left _ _ hb, Nat.add_mul_mod_self_left, Nat.div_eq_of_lt hr, Nat.mod_eq_of_lt hr]
  omega
theorem res_dig2 {fn : Func} {p q : Tmp} (h : fn.results = #[.cell p 55, .cell q 55]) (tmps : Array Value) (w : World) (g g' : Nat) (hp : tmps.getD p undef = .pointer (some ⟨g, 0, none⟩)) (hq : tmps.getD q undef = .pointer (some ⟨g', 0, none⟩)) {x y : Nat}
    (hg : w.heap[g]? = some (.cells (dv x) 55 (0, 0))) (hg' : w.heap[g']? = some (.cells (dv y) 55 (0, 0))) : (results fn tmps).run Tryz.prog w = .ok (.tuple #[.agg (dv x), .agg (dv y)]) w := by
  have hp' : tmps[p]?.getD undef = .pointer (some ⟨g, 0, none⟩) := by simpa using hp
  have hq' : tmps[q]?.getD undef = .pointer (some ⟨g', 0, none⟩) := by simpa using hq
  have l1 : (loadVar 55 ⟨g, 0, none⟩).run Tryz.prog w = .ok (.agg (dv x)) w := by have := rowR hg; unfold RowAt at this; exact this
  have l2 : (loadVar 55 ⟨g', 0, none⟩).run Tryz.prog w = .ok (.agg (dv y)) w := by have := rowR hg'; unfold RowAt at this; exact this
  simp [results, h, hp', hq', asAddr, l1, l2]
theorem setRow_same {w : World} {g : Nat} {cs : Array Value} {t : TypeId} {fr : Nat × Nat} (h : w.heap[g]? = some (.cells cs t fr)) : w.setRow g cs = w := by
  have hlt := heap_lt h
  have hv : w.heap[g] = .cells cs t fr := (Array.getElem?_eq_some_iff.1 h).2
  unfold World.setRow
  congr 1
  apply Array.ext_getElem?
  intro i
  rw [Array.getElem?_modify]
  split
  · subst_vars; rw [h]; rfl
  · rfl
/-- A store of what is there already leaves the world. -/
theorem wq_same {ops : Array Oper} {rest : List Oper} {dst : Option Tmp} {ty' : TypeId} {x y : Operand} {pos : String} {after : Array Edge} {gd : Option (Nat × Bool)} {a : Act} {q : Act → Prop} {C : World → Prop} {b : Nat} {n : Nat}
    (hg : Region.wanted ⟨dst, .store 55 x y, ty', pos, after, gd⟩ (yielded ops a.tmps) = true) (hx : a.eval x = .pointer (some ⟨b, 0, none⟩)) (hy : a.eval y = .agg (dv n))
    (hb : ∀ w', C w' → w'.heap[b]? = some (.cells (dv n) 55 (0, 0))) (h : wpQuiet Tryz.prog ops C q rest (a.put dst undef)) : wpQuiet Tryz.prog ops C q (⟨dst, .store 55 x y, ty', pos, after, gd⟩ :: rest) a := by
  unfold wpQuiet
  rw [if_pos hg]
  refine ⟨undef, fun w hw => ?_, h⟩
  have h1 := run_storeVar_row (P := Tryz.prog) w b 55 55 (dv n) (dv n) (hb w hw) (by rw [info73, dv_size]) rfl (dv_one n)
  rw [setRow_same (hb w hw)] at h1
  unfold Oper.quietAt execOp
  simp only [hx, hy, Instr.storeAt, Instr.sureAddr, Sem.run_bind, Sem.run_pure, Result.andThen_ok, h1]
  exact ⟨rfl, rfl⟩
def mq (w : World) (ad : Addr) : Nat := 10 - (intOf ((w.cell? ad).getD undef)).toNat

set_option maxHeartbeats 1000000 in
theorem divDigits_any (a b : Nat) (ha : a < 10 ^ 64) (hb0 : 0 < b) (hb1 : b < 10 ^ 63) (w : World) :
    Calls Tryz.prog 62 #[.agg (dv a), .agg (dv b)] w fun e w' => e = .returned (.tuple #[.agg (dv (a / b)), .agg (dv (a % b))]) ∧ Below w.heap.size w w' := by
  have HA := Lib.hid ha
  have HB0 := Lib.hid hb0
  have HB1 := Lib.hid hb1
  clear ha hb0 hb1
  go_enter Tryz.func62, Tryz.ntmps62
  go_upto_region 1 with (fail)
  refine wp_world (fun W => W.heap[w.heap.size]? = some (.cells (dv a) 55 (0, 0)) ∧ W.heap[w.heap.size + 1]? = some (.cells (dv b) 55 (0, 0)) ∧ W.heap[w.heap.size + 1 + 1]? = some (.cells (row fun _ => 0) 55 (0, 0)) ∧ W.heap[w.heap.size + 1 + 1 + 1]? = some (.cells (row fun _ => 0) 55 (0, 0)) ∧ Below w.heap.size w W)
    ⟨ha_old (ha_old (ha_old (ha_new rfl))), ha_old (ha_old (ha_new (by simp))), by rw [← zero_row]; exact ha_old (ha_new (by simp)), by rw [← zero_row]; exact ha_new (by simp), ((((Below.refl _ _).alloc (Nat.le_refl _) _).alloc (by simp) _).alloc (by simp; omega) _).alloc (by simp; omega) _⟩ ?_
  rintro W ⟨h0, h1, h2, h3, hb⟩
  obtain ⟨B0, hB0⟩ : ∃ B, B = w.heap.size := ⟨_, rfl⟩
  rw [← hB0] at h0 h1 h2 h3 hb ⊢
  have HBW := Lib.hid hB0
  clear hB0
  go_wp2_with fail
  go_loopw [6] (fun i wr => ∃ k : Nat, k ≤ 64 ∧ i = .int .i64 ((k : Int) - 1) ∧ wr.heap[B0]? = some (.cells (dv a) 55 (0, 0)) ∧ wr.heap[B0 + 1]? = some (.cells (dv b) 55 (0, 0)) ∧ wr.heap[B0 + 1 + 1]? = some (.cells (row (qf (a / b) k)) 55 (0, 0)) ∧ wr.heap[B0 + 1 + 1 + 1]? = some (.cells (dv (a / 10 ^ k % b)) 55 (0, 0)) ∧ Below B0 w wr) (fun i _ => (intOf i + 1).toNat)
  case atStart =>
    refine ⟨64, by omega, rfl, h0, h1, by rw [qf_start]; exact h2, ?_, hb⟩
    rw [Nat.div_eq_of_lt HA.out, Nat.zero_mod, ← row_zero_dv]
    exact h3
  case round =>
    clear h0 h1 h2 h3 hb
    obtain ⟨k, hk, rfl, h0, h1, h2, h3, hb⟩ := hrel
    by_cases hlt : 0 < k
    · obtain ⟨i, rfl⟩ : ∃ i, k = i + 1 := ⟨k - 1, by omega⟩
      have ei : ((i + 1 : Nat) : Int) - 1 = (i : Int) := by omega
      rw [ei]
      clear ei
      have hi : (i : Int) < 64 := by omega
      have da := dg_lt a i
      obtain ⟨R, hR⟩ : ∃ R, R = a / 10 ^ (i + 1) % b := ⟨_, rfl⟩
      rw [← hR] at h3
      have HR := Lib.hid hR
      clear hR
      rw [dv] at h3
      go_wp2_with fail
      refine wp_region_below 2 mixed (by kernel_rfl) ?_; simp only [List.take_succ_cons, List.take_zero, List.drop_succ_cons, List.drop_zero]
      refine wq_k rfl (fun K hK => ?_); go_simp; refine hK _ ?_; clear hK K
      refine wq_k rfl (fun K hK => ?_); go_simp; refine hK _ ?_; clear hK K
      intro w' hw'
      replace h0 := below_look hw' h0
      replace h1 := below_look hw' h1
      replace h2 := below_look hw' h2
      replace h3 := below_look hw' h3
      replace hb := hb.trans (hw'.mono (by have := HBW.out; have := hb.size; omega))
      clear hw'
      (with_reducible apply wl_shift)
      exact rfl
      exact rfl
      exact h3
      refine wl_world (fun W => W.heap[B0]? = some (.cells (dv a) 55 (0, 0)) ∧ W.heap[B0 + 1]? = some (.cells (dv b) 55 (0, 0)) ∧ W.heap[B0 + 1 + 1]? = some (.cells (row (qf (a / b) (i + 1))) 55 (0, 0)) ∧ W.heap[B0 + 1 + 1 + 1]? = some (.cells (row (shf (dg R))) 55 (0, 0)) ∧ Below B0 w W)
        ⟨hr_old h0 (by omega), hr_old h1 (by omega), hr_old h2 (by omega), hr_new h3, below_setRow hb (by omega) _⟩ ?_
      clear h0 h1 h2 h3 hb
      rintro W ⟨h0, h1, h2, h3, hb⟩
      have ca : W.cell? ⟨B0, i, none⟩ = some (.int .u8 (dg a i)) := by rw [cell_of_row _ _ _ _ _ _ h0, dv, row_get _ _ (by omega)]
      have cr : W.cell? ⟨B0 + 1 + 1 + 1, 0, none⟩ = some (.int .u8 (shf (dg R) 0)) := by rw [cell_of_row _ _ _ _ _ _ h3, row_get _ _ (by omega)]
      have fr : W.frozen? ⟨B0 + 1 + 1 + 1, 0, none⟩ = false := frozen_of_row _ _ _ _ _ h3
      go_wp2_with fail
      go_loopw [] (fun wr => ∃ t r : Nat, Hid (DivInv a b i t r) ∧ wr.heap[B0]? = some (.cells (dv a) 55 (0, 0)) ∧ wr.heap[B0 + 1]? = some (.cells (dv b) 55 (0, 0)) ∧ wr.heap[B0 + 1 + 1]? = some (.cells (row (qi (a / b) i t)) 55 (0, 0)) ∧ wr.heap[B0 + 1 + 1 + 1]? = some (.cells (dv r) 55 (0, 0)) ∧ Below B0 w wr) (fun wr => mq wr ⟨B0 + 1 + 1, i, none⟩)
      case atStart =>
        refine ⟨0, 10 * R + dg a i, ⟨by omega, by rw [HR.out]; omega⟩, hs_old h0 (by simp; omega), hs_old h1 (by simp), by rw [← qf_qi]; exact hs_old h2 (by simp), ?_, hb.setCell (by simp; omega) _⟩
        rw [← shift_dig da]
        exact (hs_new h3).trans (by rw [row_set _ _ _ (by omega)])
      case round =>
        clear h0 h1 h2 h3 hb ca cr fr
        obtain ⟨t, r, hD, h0, h1, h2, h3, hb⟩ := hrel
        have hr64 : r < 10 ^ 64 := by
          have h1 := hD.out.eq
          have h2 := Nat.mod_lt (a / 10 ^ (i + 1)) HB0.out
          have h3 := HB1.out
          have : (10 : Nat) ^ 64 = 10 * 10 ^ 63 := by decide
          omega
        have hc := cmpD_spec hr64 (show b < 10 ^ 64 by have := HB1.out; have : (10 : Nat) ^ 64 = 10 * 10 ^ 63 := by decide
                                                       omega)
        have hcb := cmpD_bd r b
        have ht := hD.out.lt HB0.out
        by_cases hle : b ≤ r
        · have hge : 0 ≤ cmpD r b := by omega
          have HL := Lib.hid hle
          clear hc hle hr64
          have cq : wr.cell? ⟨B0 + 1 + 1, i, none⟩ = some (.int .u8 t) := by rw [cell_of_row _ _ _ _ _ _ h2, row_get _ _ (by omega)]; simp [qi]
          have Hm : Hid (mq wr ⟨B0 + 1 + 1, i, none⟩ = 10 - t) := by show _ = _; unfold mq; rw [cq]; simp [intOf]
          go_upto_region 7 with (go_big_may; first | ((with_reducible apply wl_row); exact rfl; (first | exact rowL (by with_reducible assumption) | exact rowD (by with_reducible assumption) | exact rowR (by with_reducible assumption))) | ((with_reducible apply wl_one); exact rfl; exact oneN (by with_reducible assumption)) | ((with_reducible apply wl_stL); exact rfl; exact rfl; with_reducible assumption) | ((with_reducible apply wl_stR); exact rfl; exact rfl; with_reducible assumption) | (go_at_call 47; refine (compareDigits_any _ _ _).mono ?_; rintro e w1 ⟨rfl, hb1⟩))
          have hB0 := HBW.out
          have hsz := hb.size
          replace h0 := below_look hb1 h0
          replace h1 := below_look hb1 h1
          replace h2 := below_look hb1 h2
          replace h3 := below_look hb1 h3
          replace hb := hb.trans (hb1.mono (by omega))
          have hsz := hb.size
          rw [← hB0] at hsz
          clear hB0 hb1 cq
          go_upto_region 8 with (go_big_may; first | ((with_reducible apply wl_row); exact rfl; (first | exact rowL (by with_reducible assumption) | exact rowD (by with_reducible assumption) | exact rowR (by with_reducible assumption))) | ((with_reducible apply wl_one); exact rfl; exact oneN (by with_reducible assumption)) | ((with_reducible apply wl_stL); exact rfl; exact rfl; with_reducible assumption) | ((with_reducible apply wl_stR); exact rfl; exact rfl; with_reducible assumption) | (go_at_call 81; refine (subDigits_any _ _ HL.out _).mono ?_; rintro e w2 ⟨rfl, hb2⟩; replace h0 := below_look hb2 h0; replace h1 := below_look hb2 h1; replace h2 := below_look hb2 h2; replace h3 := below_look hb2 h3; replace hb := hb.trans (hb2.mono hsz); clear hb2))
          refine wp_world (fun W => W.heap[B0]? = some (.cells (dv a) 55 (0, 0)) ∧ W.heap[B0 + 1]? = some (.cells (dv b) 55 (0, 0)) ∧ W.heap[B0 + 1 + 1]? = some (.cells (row (qi (a / b) i t)) 55 (0, 0)) ∧ W.heap[B0 + 1 + 1 + 1]? = some (.cells (dv (r - b)) 55 (0, 0)) ∧ Below B0 w W)
            ⟨hr_old h0 (by omega), hr_old h1 (by omega), hr_old h2 (by omega), hr_new h3, below_setRow hb (by omega) _⟩ ?_
          clear h0 h1 h2 h3 hb
          rintro W ⟨h0, h1, h2, h3, hb⟩
          have cq : W.cell? ⟨B0 + 1 + 1, i, none⟩ = some (.int .u8 t) := by rw [cell_of_row _ _ _ _ _ _ h2, row_get _ _ (by omega)]; simp [qi]
          have fq : W.frozen? ⟨B0 + 1 + 1, i, none⟩ = false := frozen_of_row _ _ _ _ _ h2
          go_wp2_with fail
          go_roundw
          case rel => exact ⟨t + 1, r - b, hD.out.next HL.out, hs_old h0 (by simp; omega), hs_old h1 (by simp), (hs_new h2).trans (by rw [qi_step _ _ _ (by omega) _ (by go_num)]), hs_old h3 (by simp), hb.setCell (by simp; omega) _⟩
          case measure =>
            rw [Hm.out]
            unfold mq
            rw [World.cell?_setCell_same _ _ _ cq]
            simp [intOf]; omega
        · have hge : cmpD r b < 0 := by omega
          have hdone := hD.out.done HB0.out (by omega)
          have HX := Lib.hid hdone
          clear hc hle hr64 hdone
          go_upto_region 3 with (go_big_may; first | ((with_reducible apply wl_row); exact rfl; (first | exact rowL (by with_reducible assumption) | exact rowD (by with_reducible assumption) | exact rowR (by with_reducible assumption))) | ((with_reducible apply wl_one); exact rfl; exact oneN (by with_reducible assumption)) | ((with_reducible apply wl_stL); exact rfl; exact rfl; with_reducible assumption) | ((with_reducible apply wl_stR); exact rfl; exact rfl; with_reducible assumption) | (go_at_call 47; refine (compareDigits_any _ _ _).mono ?_; rintro e w1 ⟨rfl, hb1⟩))
          have hB0 := HBW.out
          have hsz := hb.size
          replace h0 := below_look hb1 h0
          replace h1 := below_look hb1 h1
          replace h2 := below_look hb1 h2
          replace h3 := below_look hb1 h3
          replace hb := hb.trans (hb1.mono (by omega))
          clear hB0 hb1 hsz
          go_wp2_with fail
          go_roundw
          case rel => exact ⟨i, by omega, by go_num, h0, h1, by rw [← qi_qf HX.out.1]; exact h2, by rw [← HX.out.2]; exact h3, hb⟩
          case measure => simp [intOf]
    · obtain rfl : k = 0 := by omega
      simp only [Nat.pow_zero, Nat.div_one] at h3
      rw [qf_end] at h2
      go_wp2_with fail
      refine wp_region_belowAll mixed (by kernel_rfl) ?_
      ((with_reducible apply wq_row); exact rfl; exact rfl; (intro w' hw'; first | exact rowL (below_look hw' (by with_reducible assumption)) | exact rowD (below_look hw' (by with_reducible assumption)) | exact rowR (below_look hw' (by with_reducible assumption))))
      ((with_reducible apply wq_row); exact rfl; exact rfl; (intro w' hw'; first | exact rowL (below_look hw' (by with_reducible assumption)) | exact rowD (below_look hw' (by with_reducible assumption)) | exact rowR (below_look hw' (by with_reducible assumption))))
      ((with_reducible apply wq_same); exact rfl; exact rfl; exact rfl; (intro w' hw'; exact below_look hw' (by with_reducible assumption)))
      ((with_reducible apply wq_same); exact rfl; exact rfl; exact rfl; (intro w' hw'; exact below_look hw' (by with_reducible assumption)))
      intro w' hw'
      replace h2 := below_look hw' h2
      replace h3 := below_look hw' h3
      replace hb := hb.trans (hw'.mono (by have := HBW.out; have := hb.size; omega))
      clear hw'
      go_wp2_with fail
      refine bodyPost_ret (v := .tuple #[.agg (dv (a / b)), .agg (dv (a % b))]) (res_dig2 rfl _ _ (B0 + 1 + 1) (B0 + 1 + 1 + 1) rfl rfl h2 h3) rfl ⟨rfl, ?_⟩
      have := HBW.out
      subst this
      exact hb
end Go.Proofs.YtclainfdeghgnaaGreatDoor
namespace Go.Proofs.YtclainfdeghgnaaGreatDoor
open Go.RowKit Go.Proofs.YtclainfdeghgnaaGreatDoor.Nm


theorem mul_sg (a b : Int) : sg (ng a != ng b) (a.natAbs * b.natAbs) = a * b := by
  rw [ng_def, ng_def]; unfold sg
  have h := Int.natAbs_mul a b
  rw [← h]
  rcases Int.lt_or_le a 0 with h1 | h1 <;> rcases Int.lt_or_le b 0 with h2 | h2
  · have : 0 ≤ a * b := Int.mul_nonneg_of_nonpos_of_nonpos (by omega) (by omega)
    simp [h1, h2]; omega
  · have : a * b ≤ 0 := Int.mul_nonpos_of_nonpos_of_nonneg (by omega) (by omega)
    have e1 : ¬ b < 0 := by omega
    simp [h1, e1]; omega
  · have : a * b ≤ 0 := Int.mul_nonpos_of_nonneg_of_nonpos (by omega) (by omega)
    have e1 : ¬ a < 0 := by omega
    simp [h2, e1]; omega
  · have : 0 ≤ a * b := Int.mul_nonneg (by omega) (by omega)
    have e1 : ¬ a < 0 := by omega
    have e2 : ¬ b < 0 := by omega
    simp [e1, e2]; omega

set_option maxHeartbeats 400000 in
theorem mul_any (a b : Int) (hz : a.natAbs * b.natAbs < 10 ^ 64) (w : World) :
    Calls Tryz.prog 28 #[.agg (lv a), .agg (lv b)] w fun e w' => e = .returned (.agg (lv (a * b))) ∧ Below w.heap.size w w' := by
  have HZ := Lib.hid hz
  clear hz
  go_enter Tryz.func28, Tryz.ntmps28
  go_upto_region 1 with (fail)
  refine wp_world (fun W => W.heap[w.heap.size]? = some (.cells (lv a) 57 (0, 0)) ∧ W.heap[w.heap.size + 1]? = some (.cells (lv b) 57 (0, 0)) ∧ W.heap[w.heap.size + 1 + 1]? = some (.cells (lv 0) 57 (0, 0)) ∧ Below w.heap.size w W) ⟨ha_old (ha_old (ha_new rfl)), ha_old (ha_new (by simp)), by rw [← zero_long]; exact ha_new (by simp), (((Below.refl _ _).alloc (Nat.le_refl _) _).alloc (by simp) _).alloc (by simp; omega) _⟩ ?_
  rintro W ⟨h0, h1, h2, hb⟩
  refine wp_region_below 11 mixed (by kernel_rfl) ?_; simp only [List.take_succ_cons, List.take_zero, List.drop_succ_cons, List.drop_zero]
  refine wq_k rfl (fun K hK => ?_); go_simp; refine hK _ ?_; clear hK K
  ((with_reducible apply wq_row); exact rfl; exact rfl; (intro w' hw'; first | exact rowL (below_look hw' (by with_reducible assumption)) | exact rowD (below_look hw' (by with_reducible assumption)) | exact rowR (below_look hw' (by with_reducible assumption))))
  refine wq_k rfl (fun K hK => ?_); go_simp; refine hK _ ?_; clear hK K
  ((with_reducible apply wq_row); exact rfl; exact rfl; (intro w' hw'; first | exact rowL (below_look hw' (by with_reducible assumption)) | exact rowD (below_look hw' (by with_reducible assumption)) | exact rowR (below_look hw' (by with_reducible assumption))))
  refine wq_ck rfl (fun K hK => ?_); go_simp; refine ⟨_, _, ⟨rfl, rfl⟩, hK _ _ ⟨_, fun w' hw' => calls_class hw' (mulDigits_any _ _ w'), ?_⟩⟩; clear hK K; simp only [put_lit, List.set_cons_zero, List.set_cons_succ]
  refine wq_k rfl (fun K hK => ?_); go_simp; refine hK _ ?_; clear hK K
  ((with_reducible apply wq_one); exact rfl; exact rfl; (intro w' hw'; exact oneN (below_look hw' (by with_reducible assumption))))
  refine wq_k rfl (fun K hK => ?_); go_simp; refine hK _ ?_; clear hK K
  ((with_reducible apply wq_one); exact rfl; exact rfl; (intro w' hw'; exact oneN (below_look hw' (by with_reducible assumption))))
  refine wq_k rfl (fun K hK => ?_); go_simp; refine hK _ ?_; clear hK K
  refine wq_ck rfl (fun K hK => ?_); go_simp; refine ⟨_, _, ⟨rfl, rfl⟩, hK _ _ ⟨_, fun w' hw' => calls_class hw' (signed_any _ _ HZ.out w'), ?_⟩⟩; clear hK K; simp only [put_lit, List.set_cons_zero, List.set_cons_succ]
  intro w' hw'
  have h2' := below_look hw' h2
  go_wp2_with (first | ((with_reducible apply wl_row); exact rfl; (first | exact rowL (by with_reducible assumption) | exact rowD (by with_reducible assumption) | exact rowR (by with_reducible assumption))) | ((with_reducible apply wl_one); exact rfl; exact oneN (by with_reducible assumption)) | ((with_reducible apply wl_stL); exact rfl; exact rfl; with_reducible assumption) | ((with_reducible apply wl_stR); exact rfl; exact rfl; with_reducible assumption))
  refine bodyPost_ret (res_long rfl _ _ (w.heap.size + 1 + 1) rfl (hr_new h2')) rfl ⟨by rw [← mul_sg]; rfl, ?_⟩
  exact below_setRow (hb.trans (hw'.mono hb.size)) (by omega) _

def sml (m k i : Nat) : Nat := if i < k then dg m i else 0
theorem sml_step (m k : Nat) (hk : k < 64) (v : Value) (hv : v = .int .u8 (dg m k)) : (row (sml m k)).setIfInBounds k v = row (sml m (k + 1)) := by
  subst hv; rw [row_set _ _ _ hk]; apply row_congr; intro i _; unfold sml; split
  · subst_vars; rw [if_pos (by omega)]
  · by_cases h : i < k
    · rw [if_pos h, if_pos (by omega)]
    · rw [if_neg h, if_neg (by omega)]
theorem sml_zero (m : Nat) : row (sml m 0) = row fun _ => 0 := row_congr fun i _ => by simp [sml]
theorem sml_end {m k : Nat} (h : m / 10 ^ k = 0) : row (sml m k) = dv m := row_congr fun i _ => by
  unfold sml; split
  · rfl
  · have h1 : m < 10 ^ k := by
      rcases (Nat.div_eq_zero_iff).1 h with h | h
      · have := p10 k; omega
      · exact h
    have h2 : 10 ^ k ≤ 10 ^ i := Nat.pow_le_pow_right (by decide) (by omega)
    unfold dg; rw [Nat.div_eq_of_lt (by omega)]
theorem sml_lt {m k : Nat} (hm : m < 10 ^ 20) (h : 0 < m / 10 ^ k) : k < 20 := by
  refine Nat.lt_of_not_le fun hle => ?_
  have h2 : 10 ^ 20 ≤ 10 ^ k := Nat.pow_le_pow_right (by decide) hle
  rw [Nat.div_eq_of_lt (by omega)] at h
  omega
theorem neg_u64 {n : Int} (h1 : -9223372036854775808 ≤ n) (h2 : n < 0) : IntKind.u64.wrap (-(IntKind.u64.wrap n)) = (n.natAbs : Int) := by
  rw [IntKind.wrap_u64, IntKind.wrap_u64]; omega
theorem pos_u64 {n : Int} (h1 : 0 ≤ n) (h2 : n ≤ 9223372036854775807) : IntKind.u64.wrap n = (n.natAbs : Int) := by
  rw [IntKind.wrap_u64]; omega
theorem sg_int (n : Int) : sg (decide (n < 0)) n.natAbs = n := by unfold sg; by_cases h : n < 0 <;> simp [h] <;> omega

set_option maxHeartbeats 400000 in
theorem small_any (n : Int) (h1 : -9223372036854775808 ≤ n) (h2 : n ≤ 9223372036854775807) (w : World) :
    Calls Tryz.prog 23 #[.int .i64 n] w fun e w' => e = .returned (.agg (lv n)) ∧ Below w.heap.size w w' := by
  obtain ⟨m, hm⟩ : ∃ m, m = n.natAbs := ⟨_, rfl⟩
  have hm20 : m < 10 ^ 20 := by have : (10 : Nat) ^ 20 = 100000000000000000000 := by decide
                                omega
  have HM := Lib.hid hm
  have HM20 := Lib.hid hm20
  have hmu : (m : Int) ≤ 9223372036854775808 := by omega
  rcases Int.lt_or_le n 0 with hn | hn
  · have e1 := neg_u64 h1 hn
    rw [← hm] at e1
    clear hm hm20
    go_enter Tryz.func23, Tryz.ntmps23
    go_upto_region 2 with (fail)
    refine wp_world (fun W => W.heap[w.heap.size]? = some (.cells (lv 0) 57 (0, 0)) ∧ W.heap[w.heap.size + 1]? = some (.cells (row (sml m 0)) 55 (0, 0)) ∧ Below w.heap.size w W) ⟨by rw [← zero_long]; exact ha_old (ha_new rfl), by rw [sml_zero, ← zero_row]; exact ha_new (by simp), ((Below.refl _ _).alloc (Nat.le_refl _) _).alloc (by simp) _⟩ ?_
    rintro W ⟨h0, h1, hb⟩
    go_wp2_with fail
    clear e1
    go_loopw [4, 5] (fun u i wr => ∃ k q : Nat, i = .int .i64 k ∧ u = .int .u64 q ∧ Hid (q = m / 10 ^ k) ∧ wr.heap[w.heap.size]? = some (.cells (lv 0) 57 (0, 0)) ∧ wr.heap[w.heap.size + 1]? = some (.cells (row (sml m k)) 55 (0, 0)) ∧ Below w.heap.size w wr) (fun u _ _ => (intOf u).toNat)
    case atStart => exact ⟨0, m, rfl, rfl, Lib.hid (by simp), h0, h1, hb⟩
    case round =>
      clear h0 h1 hb
      obtain ⟨k, q, rfl, rfl, hq, h0, h1, hb⟩ := hrel
      by_cases hp : 0 < q
      · have hk20 : k < 20 := sml_lt HM20.out (by rw [← hq.out]; exact hp)
        have hmk : q ≤ m := by rw [hq.out]; exact Nat.div_le_self _ _
        have cd : ∃ v, wr.cell? ⟨w.heap.size + 1, k, none⟩ = some v := ⟨_, by rw [cell_of_row _ _ _ _ _ _ h1, row_get _ _ (by omega)]⟩
        obtain ⟨v, cd⟩ := cd
        have fd : wr.frozen? ⟨w.heap.size + 1, k, none⟩ = false := frozen_of_row _ _ _ _ _ h1
        go_wp2_with fail
        go_roundw
        case rel =>
          refine ⟨k + 1, q / 10, by go_num, by go_num, Lib.hid (by rw [hq.out, Nat.div_div_eq_div_mul, Nat.pow_succ]), hs_old h0 (by simp), (hs_new h1).trans (by rw [sml_step _ _ (by omega) _ (by unfold dg; rw [← hq.out]; go_num)]), hb.setCell (by simp) _⟩
        case measure => simp [intOf]; omega
      · obtain rfl : q = 0 := by omega
        rw [sml_end hq.out.symm] at h1
        go_wp2_with (first | ((with_reducible apply wl_row); exact rfl; (first | exact rowL (by with_reducible assumption) | exact rowD (by with_reducible assumption) | exact rowR (by with_reducible assumption))) | ((with_reducible apply wl_one); exact rfl; exact oneN (by with_reducible assumption)) | ((with_reducible apply wl_stL); exact rfl; exact rfl; with_reducible assumption) | ((with_reducible apply wl_stR); exact rfl; exact rfl; with_reducible assumption) | (go_at_call 48; refine (signed_any _ _ (Nat.lt_trans HM20.out (by decide)) _).mono ?_; rintro e w1 ⟨rfl, hb1⟩; replace h0 := below_look hb1 h0))
        refine bodyPost_ret (res_long rfl _ _ w.heap.size rfl (hr_new h0)) rfl ⟨?_, below_setRow (hb.trans (hb1.mono hb.size)) (by omega) _⟩
        have := sg_int n
        rw [← HM.out] at this
        first | rw [this] | (rw [show decide (n < 0) = true by simp; omega] at this; rw [this])
  · have e1 := pos_u64 hn h2
    rw [← hm] at e1
    clear hm hm20
    go_enter Tryz.func23, Tryz.ntmps23
    go_upto_region 2 with (fail)
    refine wp_world (fun W => W.heap[w.heap.size]? = some (.cells (lv 0) 57 (0, 0)) ∧ W.heap[w.heap.size + 1]? = some (.cells (row (sml m 0)) 55 (0, 0)) ∧ Below w.heap.size w W) ⟨by rw [← zero_long]; exact ha_old (ha_new rfl), by rw [sml_zero, ← zero_row]; exact ha_new (by simp), ((Below.refl _ _).alloc (Nat.le_refl _) _).alloc (by simp) _⟩ ?_
    rintro W ⟨h0, h1, hb⟩
    go_wp2_with fail
    clear e1
    go_loopw [4, 5] (fun u i wr => ∃ k q : Nat, i = .int .i64 k ∧ u = .int .u64 q ∧ Hid (q = m / 10 ^ k) ∧ wr.heap[w.heap.size]? = some (.cells (lv 0) 57 (0, 0)) ∧ wr.heap[w.heap.size + 1]? = some (.cells (row (sml m k)) 55 (0, 0)) ∧ Below w.heap.size w wr) (fun u _ _ => (intOf u).toNat)
    case atStart => exact ⟨0, m, rfl, rfl, Lib.hid (by simp), h0, h1, hb⟩
    case round =>
      clear h0 h1 hb
      obtain ⟨k, q, rfl, rfl, hq, h0, h1, hb⟩ := hrel
      by_cases hp : 0 < q
      · have hk20 : k < 20 := sml_lt HM20.out (by rw [← hq.out]; exact hp)
        have hmk : q ≤ m := by rw [hq.out]; exact Nat.div_le_self _ _
        have cd : ∃ v, wr.cell? ⟨w.heap.size + 1, k, none⟩ = some v := ⟨_, by rw [cell_of_row _ _ _ _ _ _ h1, row_get _ _ (by omega)]⟩
        obtain ⟨v, cd⟩ := cd
        have fd : wr.frozen? ⟨w.heap.size + 1, k, none⟩ = false := frozen_of_row _ _ _ _ _ h1
        go_wp2_with fail
        go_roundw
        case rel =>
          refine ⟨k + 1, q / 10, by go_num, by go_num, Lib.hid (by rw [hq.out, Nat.div_div_eq_div_mul, Nat.pow_succ]), hs_old h0 (by simp), (hs_new h1).trans (by rw [sml_step _ _ (by omega) _ (by unfold dg; rw [← hq.out]; go_num)]), hb.setCell (by simp) _⟩
        case measure => simp [intOf]; omega
      · obtain rfl : q = 0 := by omega
        rw [sml_end hq.out.symm] at h1
        go_wp2_with (first | ((with_reducible apply wl_row); exact rfl; (first | exact rowL (by with_reducible assumption) | exact rowD (by with_reducible assumption) | exact rowR (by with_reducible assumption))) | ((with_reducible apply wl_one); exact rfl; exact oneN (by with_reducible assumption)) | ((with_reducible apply wl_stL); exact rfl; exact rfl; with_reducible assumption) | ((with_reducible apply wl_stR); exact rfl; exact rfl; with_reducible assumption) | (go_at_call 48; refine (signed_any _ _ (Nat.lt_trans HM20.out (by decide)) _).mono ?_; rintro e w1 ⟨rfl, hb1⟩; replace h0 := below_look hb1 h0))
        refine bodyPost_ret (res_long rfl _ _ w.heap.size rfl (hr_new h0)) rfl ⟨?_, below_setRow (hb.trans (hb1.mono hb.size)) (by omega) _⟩
        have := sg_int n
        rw [← HM.out] at this
        first | rw [this] | (rw [show decide (n < 0) = true by simp; omega] at this; rw [this])

/-- Which of two numbers is greater. -/
@[irreducible] def cz (a b : Int) : Int := if a < b then -1 else if a = b then 0 else 1
theorem cz_def (a b : Int) : cz a b = if a < b then -1 else if a = b then 0 else 1 := by unfold cz; rfl

set_option maxHeartbeats 400000 in
theorem compare_any (a b : Int) (ha : a.natAbs < 10 ^ 64) (hb0 : b.natAbs < 10 ^ 64) (w : World) :
    Calls Tryz.prog 22 #[.agg (lv a), .agg (lv b)] w fun e w' => e = .returned (.int .i64 (cz a b)) ∧ Below w.heap.size w w' := by
  have HA := Lib.hid ha
  have HB := Lib.hid hb0
  clear ha hb0
  cases hna : ng a <;> cases hnb : ng b
  all_goals
    go_enter Tryz.func22, Tryz.ntmps22
    go_upto_region 1 with (fail)
    refine wp_world (fun W => W.heap[w.heap.size]? = some (.cells (lv a) 57 (0, 0)) ∧ W.heap[w.heap.size + 1]? = some (.cells (lv b) 57 (0, 0)) ∧ Below w.heap.size w W) ⟨ha_old (ha_new rfl), ha_new (by simp), ((Below.refl _ _).alloc (Nat.le_refl _) _).alloc (by simp) _⟩ ?_
    rintro W ⟨h0, h1, hb⟩
    have n0 : W.cell? ⟨w.heap.size, 0, none⟩ = some (.bool (ng a)) := by rw [cell_of_row _ _ _ _ _ _ h0]; exact lv_neg a
    have n1 : W.cell? ⟨w.heap.size + 1, 0, none⟩ = some (.bool (ng b)) := by rw [cell_of_row _ _ _ _ _ _ h1]; exact lv_neg b
    rw [hna] at n0
    rw [hnb] at n1
  · go_wp2_with (first | ((with_reducible apply wl_row); exact rfl; exact rowD (by with_reducible assumption)) | (go_at_call 47; refine (compareDigits_any _ _ _).mono ?_; rintro e w1 ⟨rfl, hb1⟩))
    all_goals
      go_ret
      refine ⟨congrArg (fun x => Ending.returned (.int .i64 x)) (?_ : _ = cz a b), hb.trans (hb1.mono hb.size)⟩
      have hc := cmpD_spec HA.out HB.out
      rw [ng_def] at hna hnb
      simp at hna hnb
      rw [cz_def]
      first
      | (have h' := ‹(1:Int) < if cmpD _ _ < -1 then -1 else cmpD _ _›; split at h' <;> split <;> (try split) <;> omega)
      | (have h' := ‹(if cmpD _ _ < -1 then -1 else cmpD _ _) ≤ (1:Int)›; split at h' <;> split <;> (try split) <;> omega)
  · go_wp2_with fail
    go_ret
    refine ⟨?_, hb⟩
    rw [cz_def, if_neg (by rw [ng_def] at hna hnb; simp at hna hnb; omega), if_neg (by rw [ng_def] at hna hnb; simp at hna hnb; omega)]
    rfl
  · go_wp2_with fail
    go_ret
    refine ⟨?_, hb⟩
    rw [cz_def, if_pos (by rw [ng_def] at hna hnb; simp at hna hnb; omega)]
    rfl
  · go_wp2_with (first | ((with_reducible apply wl_row); exact rfl; exact rowD (by with_reducible assumption)) | (go_at_call 47; refine (compareDigits_any _ _ _).mono ?_; rintro e w1 ⟨rfl, hb1⟩))
    all_goals
      go_ret
      refine ⟨congrArg (fun x => Ending.returned (.int .i64 x)) (?_ : _ = cz a b), hb.trans (hb1.mono hb.size)⟩
      have hc := cmpD_spec HB.out HA.out
      rw [ng_def] at hna hnb
      simp at hna hnb
      rw [cz_def]
      first
      | (have h' := ‹(1:Int) < if cmpD _ _ < -1 then -1 else cmpD _ _›; split at h' <;> split <;> (try split) <;> omega)
      | (have h' := ‹(if cmpD _ _ < -1 then -1 else cmpD _ _) ≤ (1:Int)›; split at h' <;> split <;> (try split) <;> omega)
end Go.Proofs.YtclainfdeghgnaaGreatDoor
namespace Go.Proofs.YtclainfdeghgnaaGreatDoor.Nm
open Go.RowKit

section
variable {P : Program} {ops : Array Oper} {md : Region.Mode} {C : World → Prop}

def stdUpon (P : Program) (w : World) (v : Value) : Result Next → Prop
  | .ok (.value u) w' => w' = w ∧ u = v
  | .ok .skip w' => w' = w ∧ v = undef
  | .ok (.enter f args) w' => w' = w ∧ Calls P f args w (fun e w'' => e = .returned v ∧ Below w.heap.size w w'')
  | _ => False
def stdAt (P : Program) (o : Oper) (a : Act) (C : World → Prop) (v : Value) : Prop := ∀ w, C w → stdUpon P w v ((execOp a.eval o).run P w)

def YieldsS (P : Program) (ops : Array Oper) (C : World → Prop) (o : Oper) (v : Value) (a : Act) : Prop :=
  (Region.wanted o (yielded ops a.tmps) = true ∧ stdAt P o a C v) ∨ (Region.wanted o (yielded ops a.tmps) = false ∧ v = undef)

def sOp (P : Program) (ops : Array Oper) (C : World → Prop) (i : Nat) (K : Act → Prop) (a : Act) : Prop :=
  ∃ o v, ops[i]? = some o ∧ YieldsS P ops C o v a ∧ K (a.put o.dst v)

theorem sOp_mono {i : Nat} {a : Act} {K K' : Act → Prop} (h : ∀ a, K a → K' a) (hh : sOp P ops C i K a) : sOp P ops C i K' a := by
  obtain ⟨o, v, h1, h2, h3⟩ := hh; exact ⟨o, v, h1, h2, h _ h3⟩

theorem YieldsS.of_same {o : Oper} {v : Value} {a a' : Act} (hy : YieldsS P ops C o v a) (he : execOp a'.eval o = execOp a.eval o)
    (hw : Region.wanted o (yielded ops a'.tmps) = Region.wanted o (yielded ops a.tmps)) : YieldsS P ops C o v a' := by
  unfold YieldsS stdAt at *
  rw [he, hw]
  exact hy

theorem sOp_put {j : Nat} {oi oj : Oper} {v : Value} (hj : ops[j]? = some oj) (hap : oi.apart ops oj = true)
    (hsi : ∀ cs b, oi.op ≠ .select cs b) (hsj : ∀ cs b, oj.op ≠ .select cs b) {K : Act → Prop} {a : Act}
    (hy : YieldsS P ops C oi v a) (h : sOp P ops C j K (a.put oi.dst v)) :
    sOp P ops C j (fun a' => YieldsS P ops C oi v a' ∧ K (a'.put oi.dst v)) a := by
  obtain ⟨h1, h2, h3⟩ := Oper.apart_spec hap
  obtain ⟨o, u, ho, hu, hk⟩ := h
  obtain rfl : oj = o := Option.some.inj (hj.symm.trans ho)
  refine ⟨oj, u, ho, hu.of_same (execOp_put oj hsj a oi.dst v h1).symm (wanted_put oj a oi.dst v h1).symm, ?_, ?_⟩
  · exact hy.of_same (execOp_put oi hsi a oj.dst u h3) (wanted_put oi a oj.dst u h3)
  · rw [← Act.put_comm a v u h2]; exact hk

def wpAnyS (P : Program) (md : Region.Mode) (ops : Array Oper) (C : World → Prop) (n : Nat) (L : Array Bool → Act → Prop) : Nat → Array Bool → Act → Prop
  | 0, listed, a => L listed a
  | f + 1, listed, a =>
    Region.ready md ops listed ≠ [] ∧ ∀ i ∈ Region.ready md ops listed, i < n ∧ sOp P ops C i (wpAnyS P md ops C n L f (listed.setIfInBounds i true)) a

theorem wpAnyS_first {n i : Nat} {oi : Oper} {v : Value} {L : Array Bool → Act → Prop} (hi : ops[i]? = some oi) (hsel : ∀ (j : Nat) (o : Oper) cs b, ops[j]? = some o → o.op ≠ .select cs b)
    (hs : Region.sinkB md ops n = true) (hc : Region.chainB md ops n = true) (hn : n < ops.size) (hin : i < n)
    (hdone : ∀ listed a, L listed a → ∀ j ∈ Region.ready md ops listed, n ≤ j) :
    ∀ (f : Nat) (listed : Array Bool) (a : Act), HeadInv md ops n listed →
      (∀ j oj, ops[j]? = some oj → j ≠ i → listed.getD j true = false → (∀ e ∈ oj.after, Region.binds md e = true → e.on ≠ i) → oi.apart ops oj = true) →
      i ∈ Region.ready md ops listed → YieldsS P ops C oi v a →
      wpAnyS P md ops C n L f (listed.setIfInBounds i true) (a.put oi.dst v) → wpAnyS P md ops C n L (f + 1) listed a := by
  intro f
  induction f with
  | zero =>
    intro listed a inv _ hr hy H
    have hun := (mem_ready.1 hr).1
    refine ⟨fun h => (by rw [h] at hr; cases hr), fun j hj => ?_⟩
    have hjn : j < n := by
      rcases Nat.lt_or_ge j n with h | h
      · exact h
      · exact absurd hj (tail_waits hs hc hn inv _ i rfl hin hun j h)
    refine ⟨hjn, ?_⟩
    by_cases hji : j = i
    · subst hji; exact ⟨oi, v, hi, hy, H⟩
    · have := hdone _ _ H j (ready_mono hj hji)
      omega
  | succ f ih =>
    intro listed a inv hfree hr hy H
    have hun := (mem_ready.1 hr).1
    refine ⟨fun h => (by rw [h] at hr; cases hr), fun j hj => ?_⟩
    have hjn : j < n := by
      rcases Nat.lt_or_ge j n with h | h
      · exact h
      · exact absurd hj (tail_waits hs hc hn inv _ i rfl hin hun j h)
    refine ⟨hjn, ?_⟩
    by_cases hji : j = i
    · subst hji; exact ⟨oi, v, hi, hy, H⟩
    · have h1 := (H.2 j (ready_mono hj hji)).2
      obtain ⟨hjun, oj, hoj, hall⟩ := mem_ready.1 hj
      have hnot : ∀ e ∈ oj.after, Region.binds md e = true → e.on ≠ i := fun e he hb heq => by
        have h1 := hall e he hb
        rw [heq, getD_both hun] at h1
        cases h1
      have h2 := sOp_put hoj (hfree j oj hoj hji hjun hnot) (fun cs b => hsel i oi cs b hi) (fun cs b => hsel j oj cs b hoj) hy h1
      have hfree' : ∀ k ok, ops[k]? = some ok → k ≠ i → (listed.setIfInBounds j true).getD k true = false →
          (∀ e ∈ ok.after, Region.binds md e = true → e.on ≠ i) → oi.apart ops ok = true := fun k ok hk hki hun hno => by
        refine hfree k ok hk hki ?_ hno
        by_cases hjk : j = k
        · subst hjk; exact hjun
        · rw [getD_set_ne true hjk] at hun; exact hun
      refine sOp_mono (fun a' h3 => ih (listed.setIfInBounds j true) a' (inv.set hj hjn) hfree' (ready_mono hr (Ne.symm hji)) h3.1 ?_) h2
      rw [Array.setIfInBounds_comm _ _ hji]
      exact h3.2

/-- The walk in the order of the text. -/
def wpStd (P : Program) (ops : Array Oper) (C : World → Prop) (Q : Act → Prop) : List Oper → Act → Prop
  | [], a => Q a
  | o :: rest, a => ∃ v, YieldsS P ops C o v a ∧ wpStd P ops C Q rest (a.put o.dst v)

def lexHeadF (md : Region.Mode) (ops : Array Oper) (g n : Nat) : Nat → Nat → Array Bool → Bool
  | 0, _, listed => Region.seqB md ops g n listed
  | f + 1, k, listed => (Region.ready md ops listed).contains k && Region.free md ops listed k && lexHeadF md ops g n f (k + 1) (listed.setIfInBounds k true)

theorem wpAnyS_lex {n g : Nat} {Lq : Act → Prop} (hsel : Region.noSelect ops = true) (hs : Region.sinkB md ops n = true) (hc : Region.chainB md ops n = true) (hn : n < ops.size) :
    ∀ (l : List Oper) (k : Nat) (listed : Array Bool) (a : Act), (∀ j, j < l.length → l[j]? = ops[k + j]?) → k + l.length ≤ n → HeadInv md ops n listed →
    lexHeadF md ops g n l.length k listed = true → wpStd P ops C Lq l a →
    wpAnyS P md ops C n (fun listed' a' => Region.seqB md ops g n listed' = true ∧ Lq a') l.length listed a
  | [], _, _, _, _, _, _, hB, h => ⟨by simpa [lexHeadF] using hB, h⟩
  | o :: l, k, listed, a, hl, hk, inv, hB, h => by
    have h0 : ops[k]? = some o := by simpa using (hl 0 (by simp)).symm
    simp only [List.length_cons, lexHeadF, Bool.and_eq_true] at hB
    obtain ⟨⟨hr, hf⟩, hB'⟩ := hB
    have hkn : k < n := by simp only [List.length_cons] at hk; omega
    have hr' : k ∈ Region.ready md ops listed := by simpa using hr
    obtain ⟨v, hy, hK⟩ := h
    exact wpAnyS_first h0 (Region.noSelect_spec hsel) hs hc hn hkn (fun listed' a' hL => seqB_ready hL.1) l.length listed a inv (Region.free_spec h0 hf) hr' hy
      (wpAnyS_lex hsel hs hc hn l (k + 1) _ _ (fun j hj => by have := hl (j + 1) (by simp; omega); simpa [Nat.add_assoc, Nat.add_comm 1 j] using this) (by simp only [List.length_cons] at hk; omega) (inv.set hr' hkn) hB' hK)

theorem wpOp_of_yields {C' : World → Prop} {i : Nat} {o : Oper} {v : Value} {a : Act} {w : World} {K : Act → World → Prop} {Q : Exit → Act → World → Prop} (hi : ops[i]? = some o) (hw : C w) (hcl : ∀ w'', Below w.heap.size w w'' → C' w'') (hw' : C' w)
    (hy : YieldsS P ops C o v a) (h : ∀ w'', C' w'' → K (a.put o.dst v) w'') : wpOp P ops Q i K a w := by
  unfold wpOp
  simp only [hi]
  rcases hy with ⟨h1, h2⟩ | ⟨h1, rfl⟩
  · rw [if_pos h1]
    refine .inl ?_
    have h3 := h2 w hw
    unfold Oper.wp
    generalize (execOp a.eval o).run P w = r at *
    cases r with
    | ok x w1 =>
      cases x <;> simp only [stdUpon] at h3 <;> simp only [Oper.upon]
      case value u => obtain ⟨rfl, rfl⟩ := h3; exact h _ hw'
      case skip => obtain ⟨rfl, rfl⟩ := h3; exact h _ hw'
      case enter f args => obtain ⟨rfl, hc⟩ := h3; exact hc.mono fun e w'' ⟨he, hb⟩ => by subst he; exact h _ (hcl _ hb)
    | halt x w1 => simp only [stdUpon] at h3
  · rw [if_neg (by simp [h1])]
    exact h _ hw'

/-- What stands behind the variable's making: the variable 'p' is there, with its first cells. -/
def Made (W : World) (z : Array Value) (ty : TypeId) (p : Nat) (w' : World) : Prop := Below W.heap.size W w' ∧ W.heap.size ≤ p ∧ w'.heap[p]? = some (.cells z ty (0, 0))
theorem Made.below {W : World} {z : Array Value} {ty : TypeId} {p : Nat} {w' w'' : World} (h : Made W z ty p w') (hb : Below w'.heap.size w' w'') : Made W z ty p w'' :=
  ⟨h.1.trans (hb.mono h.1.size), h.2.1, below_look hb h.2.2⟩

theorem phaseB {n m g : Nat} {om : Oper} {dm : Tmp} {L : Array Bool → Act → Prop} {Q' : Exit → Act → World → Prop} {W : World} {z : Array Value} {ty : TypeId} {p : Nat} (hsel : ∀ (j : Nat) (o : Oper) cs b, ops[j]? = some o → o.op ≠ .select cs b)
    (hmn : m < n) (hom : ops[m]? = some om) (hdm : om.dst = some dm) (hap : ∀ i o, i < n → i ≠ m → ops[i]? = some o → om.apart ops o = true)
    (hL : ∀ listed a w, Made W z ty p w → L listed a → wpAny P md ops Q' g listed (a.put (some dm) (.pointer (some ⟨p, 0, none⟩))) w) :
    ∀ (f : Nat) (listed : Array Bool) (a : Act) (w : World), listed.getD m true = true → Made W z ty p w → wpAnyS P md ops (fun w' => Below W.heap.size W w') n L f listed a →
      wpAny P md ops Q' (f + g) listed (a.put (some dm) (.pointer (some ⟨p, 0, none⟩))) w
  | 0, listed, a, w, _, hw, h => by rw [Nat.zero_add]; exact hL _ _ _ hw h
  | f + 1, listed, a, w, hm, hw, h => by
    rw [show f + 1 + g = (f + g) + 1 by omega]
    refine ⟨fun h0 => absurd h0 h.1, fun i hi => ?_⟩
    obtain ⟨hin, o, v, ho, hy, hk⟩ := h.2 i hi
    have hne : i ≠ m := fun e => by subst e; rw [(mem_ready.1 hi).1] at hm; cases hm
    obtain ⟨h1, h2, h3⟩ := Oper.apart_spec (hap i o hin hne ho)
    rw [hdm] at h1 h2
    have hy' : YieldsS P ops (fun w' => Below W.heap.size W w') o v (a.put (some dm) (.pointer (some ⟨p, 0, none⟩))) :=
      hy.of_same (execOp_put o (fun cs b => hsel i o cs b ho) a (some dm) _ h1) (wanted_put o a (some dm) _ h1)
    refine wpOp_of_yields (C' := Made W z ty p) ho hw.1 (fun w'' hb => hw.below hb) hw hy' fun w'' hw'' => ?_
    rw [Act.put_comm a _ v h2]
    refine phaseB hsel hmn hom hdm hap hL f _ _ w'' ?_ hw'' hk
    rw [getD_set_ne true hne]; exact hm

theorem phaseA {n m g : Nat} {om : Oper} {dm : Tmp} {Lq : Act → Prop} {Q' : Exit → Act → World → Prop} {W : World} {z : Array Value} {ty : TypeId} (hsel : ∀ (j : Nat) (o : Oper) cs b, ops[j]? = some o → o.op ≠ .select cs b)
    (hs : Region.sinkB md ops n = true) (hc : Region.chainB md ops n = true) (hn : n < ops.size)
    (hmn : m < n) (hom : ops[m]? = some om) (hdm : om.dst = some dm) (hgd : om.guard = none) (haf : om.after = #[]) (hap : ∀ i o, i < n → i ≠ m → ops[i]? = some o → om.apart ops o = true)
    (hal : ∀ ev w, (execOp ev om).run P w = .ok (.value (.pointer (some ⟨w.heap.size, 0, none⟩))) (w.alloc (.cells z ty)))
    (hL : ∀ p listed a w, Made W z ty p w → (Region.seqB md ops g n listed = true ∧ Lq a) → wpAny P md ops Q' g listed (a.put (some dm) (.pointer (some ⟨p, 0, none⟩))) w) :
    ∀ (f : Nat) (listed : Array Bool) (a : Act) (w : World), HeadInv md ops n listed → listed.getD m true = false → Below W.heap.size W w →
      wpAnyS P md ops (fun w' => Below W.heap.size W w') n (fun l a => Region.seqB md ops g n l = true ∧ Lq a) f (listed.setIfInBounds m true) a →
      wpAny P md ops Q' (f + 1 + g) listed a w := by
  intro f
  induction f with
  | zero =>
    intro listed a w inv hm hw h
    rw [show 0 + 1 + g = g + 1 by omega]
    have hmr : m ∈ Region.ready md ops listed := mem_ready.2 ⟨hm, om, hom, fun e he => by rw [haf] at he; simp at he⟩
    refine ⟨fun h0 => (by rw [h0] at hmr; cases hmr), fun i hi => ?_⟩
    by_cases hne : i = m
    · subst hne
      unfold wpOp
      simp only [hom]
      rw [if_pos (by simp [Region.wanted, hgd])]
      refine .inl ?_
      unfold Oper.wp
      rw [hal]
      simp only [Oper.upon, hdm]
      have := phaseB (g := g) (Q' := Q') hsel hmn hom hdm hap (hL w.heap.size) 0 (listed.setIfInBounds i true) a (w.alloc (.cells z ty)) (by
        have hlt : i < listed.size := by rw [inv.size]; omega
        simp [hlt]) ⟨hw.alloc hw.size _, hw.size, ha_new rfl⟩ h
      rwa [Nat.zero_add] at this
    · have h1 := seqB_ready h.1 i (ready_mono hi hne)
      exact absurd hi (tail_waits hs hc hn inv _ m rfl hmn hm i h1)
  | succ f ih =>
    intro listed a w inv hm hw h
    rw [show f + 1 + 1 + g = (f + 1 + g) + 1 by omega]
    have hmr : m ∈ Region.ready md ops listed := mem_ready.2 ⟨hm, om, hom, fun e he => by rw [haf] at he; simp at he⟩
    refine ⟨fun h0 => (by rw [h0] at hmr; cases hmr), fun i hi => ?_⟩
    by_cases hne : i = m
    · subst hne
      unfold wpOp
      simp only [hom]
      rw [if_pos (by simp [Region.wanted, hgd])]
      refine .inl ?_
      unfold Oper.wp
      rw [hal]
      simp only [Oper.upon, hdm]
      exact phaseB (g := g) (Q' := Q') hsel hmn hom hdm hap (hL w.heap.size) (f + 1) (listed.setIfInBounds i true) a (w.alloc (.cells z ty)) (by
        have hlt : i < listed.size := by rw [inv.size]; omega
        simp [hlt]) ⟨hw.alloc hw.size _, hw.size, ha_new rfl⟩ h
    · obtain ⟨hin, o, v, ho, hy, hk⟩ := h.2 i (ready_mono hi hne)
      refine wpOp_of_yields (C' := fun w' => Below W.heap.size W w') ho hw (fun w'' hb => hw.trans (hb.mono hw.size)) hw hy fun w'' hw'' => ?_
      refine ih _ _ _ (inv.set hi hin) ?_ hw'' ?_
      · rw [getD_set_ne true hne]; exact hm
      · rw [Array.setIfInBounds_comm _ _ hne]; exact hk

def floatB (ops : Array Oper) (m : Nat) : Bool :=
  Region.noSelect ops && decide (m + 1 < ops.size) && Region.sinkB .any ops (m + 1) && Region.chainB .any ops (m + 1) &&
  lexHeadF .any ops (ops.size - (m + 1)) (m + 1) m 0 ((Array.replicate ops.size false).setIfInBounds m true) &&
  (match ops[m]? with
   | some om => om.after.isEmpty && (List.range (m + 1)).all fun i => i == m || (match ops[i]? with | some o => om.apart ops o | none => true)
   | none => false)

/-- The law. -/
theorem wp_region_float {id : Nat} {Q : Exit → Act → World → Prop} {a : Act} {w : World} {l : List Oper} (m : Nat) (dm : Tmp) (z : Array Value) (ty : TypeId) (hm : P.follows .mixedOrders = true) (hB : floatB l.toArray m = true)
    (hom : ∃ om, l[m]? = some om ∧ om.dst = some dm ∧ om.guard = none ∧ ∀ ev w, (execOp ev om).run P w = .ok (.value (.pointer (some ⟨w.heap.size, 0, none⟩))) (w.alloc (.cells z ty)))
    (h : wpStd P l.toArray (fun w' => Below w.heap.size w w') (fun a' => ∀ p w', Made w z ty p w' → wpList P l.toArray Q (l.drop (m + 1)) (a'.put (some dm) (.pointer (some ⟨p, 0, none⟩))) w') (l.take m) a) : (Code.region id l.toArray true).wp P Q a w := by
  obtain ⟨om, hom, hdm, hgd, hal⟩ := hom
  have hom' : l.toArray[m]? = some om := by simpa using hom
  simp only [floatB, Bool.and_eq_true, decide_eq_true_eq, hom', List.all_eq_true, List.mem_range, Bool.or_eq_true, beq_iff_eq] at hB
  obtain ⟨⟨⟨⟨⟨hsel, hn⟩, hs⟩, hc⟩, hlex⟩, haf, hap⟩ := hB
  have haf' : om.after = #[] := by simpa using haf
  have hn' : m + 1 < l.length := by simpa using hn
  have htl : (l.take m).length = m := by simp; omega
  have hdl : (l.drop (m + 1)).length = l.toArray.size - (m + 1) := by simp
  have inv0 : HeadInv .any l.toArray (m + 1) (Array.replicate l.toArray.size false) :=
    ⟨by simp, fun j oj _ hl => (by rw [getD_replicate_false] at hl; cases hl), fun t _ ht => getD_in (by simpa using ht) (getD_replicate_false _ _)⟩
  have hm0 : (Array.replicate l.toArray.size false).getD m true = false := getD_in (by simp; omega) (getD_replicate_false _ _)
  have hmr : m ∈ Region.ready .any l.toArray (Array.replicate l.toArray.size false) := mem_ready.2 ⟨hm0, om, hom', fun e he => by rw [haf'] at he; simp at he⟩
  have inv1 := inv0.set hmr (by omega : m < m + 1)
  have H := wpAnyS_lex (P := P) (C := fun w' => Below w.heap.size w w') (md := .any) (g := l.toArray.size - (m + 1)) hsel hs hc hn (l.take m) 0 _ a (fun j hj => by
    have hj' : j < m := by rw [htl] at hj; exact hj
    simp [hj']) (by rw [htl]; omega) inv1 (by rw [htl]; exact hlex) h
  refine wp_region_any hm ?_
  have := phaseA (P := P) (Q' := Q) (g := l.toArray.size - (m + 1)) (W := w) (z := z) (ty := ty) (Region.noSelect_spec hsel) hs hc hn (by omega) hom' hdm hgd haf' (fun i o hi hne ho => by
      have := hap i hi
      rcases this with h | h
      · exact absurd h hne
      · simpa [ho] using h) hal (fun p listed a' w' hw' hL => by
    have := wpAny_of_seq (md := .any) (Q' := Q) (l.drop (m + 1)) (m + 1) listed _ w' (fun j => by simp [List.getElem?_drop]) (by rw [hdl]; exact hL.1) (hL.2 p w' hw')
    rwa [hdl] at this) _ _ a { w with drawn := w.drawn + 1 } inv0 hm0 ((Below.refl _ w).drew) H
  rw [htl, show m + 1 + (l.toArray.size - (m + 1)) = l.toArray.size by omega] at this
  exact this

/-- The steps of the walk. -/
theorem ws_k {Q : Act → Prop} {a : Act} {o : Oper} {rest : List Oper} (hg : Region.wanted o (yielded ops a.tmps) = true)
    (h : ∀ K : Act → Prop, (∀ a', wpStd P ops C Q rest a' → K a') → ∃ v, (∀ w, (execOp a.eval o).run P w = .ok (.value v) w) ∧ K (a.put o.dst v)) : wpStd P ops C Q (o :: rest) a := by
  obtain ⟨v, hv, hk⟩ := h _ (fun _ h => h)
  exact ⟨v, .inl ⟨hg, fun w _ => by rw [hv w]; exact ⟨rfl, rfl⟩⟩, hk⟩
theorem ws_val {Q : Act → Prop} {a : Act} {o : Oper} {rest : List Oper} {v : Value} (hg : Region.wanted o (yielded ops a.tmps) = true) (hv : ∀ w, C w → (execOp a.eval o).run P w = .ok (.value v) w)
    (h : wpStd P ops C Q rest (a.put o.dst v)) : wpStd P ops C Q (o :: rest) a :=
  ⟨v, .inl ⟨hg, fun w hw => by rw [hv w hw]; exact ⟨rfl, rfl⟩⟩, h⟩
theorem ws_ck {Q : Act → Prop} {a : Act} {o : Oper} {rest : List Oper} (hg : Region.wanted o (yielded ops a.tmps) = true)
    (h : ∀ K : FuncId → Array Value → Prop, (∀ f args, (∃ v, (∀ w, C w → Calls P f args w fun e w' => e = .returned v ∧ Below w.heap.size w w') ∧ wpStd P ops C Q rest (a.put o.dst v)) → K f args) → ∃ f args, (∀ w, (execOp a.eval o).run P w = .ok (.enter f args) w) ∧ K f args) : wpStd P ops C Q (o :: rest) a := by
  obtain ⟨f, args, hv, v, hc, hk⟩ := h _ (fun _ _ h => h)
  exact ⟨v, .inl ⟨hg, fun w hw => by rw [hv w]; exact ⟨rfl, hc w hw⟩⟩, hk⟩
end
end Go.Proofs.YtclainfdeghgnaaGreatDoor.Nm
namespace Go.Proofs.YtclainfdeghgnaaGreatDoor
open Go.RowKit Go.Proofs.YtclainfdeghgnaaGreatDoor.Nm

theorem ex_alloc75 {o : Oper} (ho : o.op = .alloc 57) (ev : Operand → Value) (w : World) : (execOp ev o).run Tryz.prog w = .ok (.value (.pointer (some ⟨w.heap.size, 0, none⟩))) (w.alloc (.cells (lv 0) 57)) := by
  rw [← zero_long]
  unfold execOp
  simp only [ho]
  simp [go_sem]
  rfl
theorem ex_alloc73 {o : Oper} (ho : o.op = .alloc 55) (ev : Operand → Value) (w : World) : (execOp ev o).run Tryz.prog w = .ok (.value (.pointer (some ⟨w.heap.size, 0, none⟩))) (w.alloc (.cells (dv 0) 55)) := by
  rw [← row_zero_dv, ← zero_row]
  unfold execOp
  simp only [ho]
  simp [go_sem]

section
variable {P : Program} {ops : Array Oper} {rest : List Oper} {dst : Option Tmp} {ty ty' : TypeId} {x y : Operand} {pos : String} {after : Array Edge} {g : Option (Nat × Bool)} {a : Act} {w : World} {Q : Exit → Act → World → Prop} {q : Act → Prop} {C : World → Prop} {ad : Addr} {D : Array Value} {v : Value} {o : Oper}

theorem wl_k (hg : Region.wanted o (yielded ops a.tmps) = true)
    (h : ∀ K : Act → Prop, (∀ a', wpList P ops Q rest a' w → K a') → ∃ v, (execOp a.eval o).run P w = .ok (.value v) w ∧ K (a.put o.dst v)) : wpList P ops Q (o :: rest) a w := by
  obtain ⟨v, hv, hk⟩ := h _ (fun _ h => h)
  refine wpList_step fun K hK => ?_
  rw [if_pos hg]
  unfold Oper.wp; rw [hv]; exact hK _ _ hk
theorem wl_skip (hg : Region.wanted o (yielded ops a.tmps) = false) (h : wpList P ops Q rest (a.put o.dst undef) w) : wpList P ops Q (o :: rest) a w := by
  refine wpList_step fun K hK => ?_
  rw [if_neg (by simp [hg])]
  exact hK _ _ h
theorem wl_ck (hg : Region.wanted o (yielded ops a.tmps) = true)
    (h : ∀ K : FuncId → Array Value → Prop, (∀ f args, (∃ R, Calls P f args w R ∧ ∀ e w1, R e w1 → ∃ v, e = .returned v ∧ wpList P ops Q rest (a.put o.dst v) w1) → K f args) → ∃ f args, (execOp a.eval o).run P w = .ok (.enter f args) w ∧ K f args) : wpList P ops Q (o :: rest) a w := by
  obtain ⟨f, args, hv, R, hc, hk⟩ := h _ (fun _ _ h => h)
  refine wpList_step fun K hK => ?_
  rw [if_pos hg]
  unfold Oper.wp; rw [hv]
  refine hc.mono fun e w1 hr => ?_
  obtain ⟨v, rfl, h2⟩ := hk e w1 hr
  exact hK _ _ h2

theorem ws_row (hg : Region.wanted ⟨dst, .load ty x, ty', pos, after, g⟩ (yielded ops a.tmps) = true) (hx : a.eval x = .pointer (some ad)) (hr : ∀ w', C w' → RowAt w' ty ad D) (h : wpStd Tryz.prog ops C q rest (a.put dst (.agg D))) : wpStd Tryz.prog ops C q (⟨dst, .load ty x, ty', pos, after, g⟩ :: rest) a := ws_val hg (fun w' hw' => ex_row hx (hr w' hw')) h
theorem ws_one (hg : Region.wanted ⟨dst, .load ty x, ty', pos, after, g⟩ (yielded ops a.tmps) = true) (hx : a.eval x = .pointer (some ad)) (hr : ∀ w', C w' → OneAt w' ty ad v) (h : wpStd Tryz.prog ops C q rest (a.put dst v)) : wpStd Tryz.prog ops C q (⟨dst, .load ty x, ty', pos, after, g⟩ :: rest) a := ws_val hg (fun w' hw' => ex_one hx (hr w' hw')) h
theorem wl_rowG (hg : Region.wanted ⟨dst, .load ty x, ty', pos, after, g⟩ (yielded ops a.tmps) = true) (hx : a.eval x = .pointer (some ad)) (hr : RowAt w ty ad D) (h : wpList Tryz.prog ops Q rest (a.put dst (.agg D)) w) : wpList Tryz.prog ops Q (⟨dst, .load ty x, ty', pos, after, g⟩ :: rest) a w := by
  refine wpList_step fun K hK => ?_
  rw [if_pos hg]
  unfold Oper.wp; rw [ex_row hx hr]; exact hK _ _ h
theorem wl_oneG (hg : Region.wanted ⟨dst, .load ty x, ty', pos, after, g⟩ (yielded ops a.tmps) = true) (hx : a.eval x = .pointer (some ad)) (hr : OneAt w ty ad v) (h : wpList Tryz.prog ops Q rest (a.put dst v) w) : wpList Tryz.prog ops Q (⟨dst, .load ty x, ty', pos, after, g⟩ :: rest) a w := by
  refine wpList_step fun K hK => ?_
  rw [if_pos hg]
  unfold Oper.wp; rw [ex_one hx hr]; exact hK _ _ h

/-- A new variable: behind it the world under a name. -/
theorem wl_new {z : Array Value} (hal : ∀ ev w, (execOp ev ⟨dst, .alloc ty, ty', pos, after, none⟩).run Tryz.prog w = .ok (.value (.pointer (some ⟨w.heap.size, 0, none⟩))) (w.alloc (.cells z ty)))
    (h : ∀ W p, Below w.heap.size w W → w.heap.size ≤ p → W.heap[p]? = some (.cells z ty (0, 0)) → wpList Tryz.prog ops Q rest (a.put dst (.pointer (some ⟨p, 0, none⟩))) W) : wpList Tryz.prog ops Q (⟨dst, .alloc ty, ty', pos, after, none⟩ :: rest) a w := by
  refine wpList_plain rfl fun K hK => ?_
  unfold Oper.wp; rw [hal]
  exact hK _ _ (h _ _ ((Below.refl _ w).alloc (Nat.le_refl _) _) (Nat.le_refl _) (ha_new rfl))
theorem wl_new75 (h : ∀ W p, Below w.heap.size w W → w.heap.size ≤ p → W.heap[p]? = some (.cells (lv 0) 57 (0, 0)) → wpList Tryz.prog ops Q rest (a.put dst (.pointer (some ⟨p, 0, none⟩))) W) : wpList Tryz.prog ops Q (⟨dst, .alloc 57, ty', pos, after, none⟩ :: rest) a w := wl_new (ex_alloc75 rfl) h
theorem wl_new73 (h : ∀ W p, Below w.heap.size w W → w.heap.size ≤ p → W.heap[p]? = some (.cells (dv 0) 55 (0, 0)) → wpList Tryz.prog ops Q rest (a.put dst (.pointer (some ⟨p, 0, none⟩))) W) : wpList Tryz.prog ops Q (⟨dst, .alloc 55, ty', pos, after, none⟩ :: rest) a w := wl_new (ex_alloc73 rfl) h
/-- A whole row stored: behind it the world under a name. -/
theorem wl_put75 {b : Nat} {z q0 : Int} (hx : a.eval x = .pointer (some ⟨b, 0, none⟩)) (hy : a.eval y = .agg (lv z)) (hb : w.heap[b]? = some (.cells (lv q0) 57 (0, 0)))
    (h : ∀ W, (∀ B w0, B ≤ b → Below B w0 w → Below B w0 W) → (∀ k o, k ≠ b → w.heap[k]? = some o → W.heap[k]? = some o) → W.heap[b]? = some (.cells (lv z) 57 (0, 0)) → wpList Tryz.prog ops Q rest a W) : wpList Tryz.prog ops Q (⟨none, .store 57 x y, ty', pos, after, none⟩ :: rest) a w :=
  wl_stL hx hy hb (h _ (fun _ _ hB h0 => below_setRow h0 hB _) (fun _ _ hne h0 => hr_old h0 hne) (hr_new hb))
theorem wl_put73 {b : Nat} {z n : Nat} (hx : a.eval x = .pointer (some ⟨b, 0, none⟩)) (hy : a.eval y = .agg (dv z)) (hb : w.heap[b]? = some (.cells (dv n) 55 (0, 0)))
    (h : ∀ W, (∀ B w0, B ≤ b → Below B w0 w → Below B w0 W) → (∀ k o, k ≠ b → w.heap[k]? = some o → W.heap[k]? = some o) → W.heap[b]? = some (.cells (dv z) 55 (0, 0)) → wpList Tryz.prog ops Q rest a W) : wpList Tryz.prog ops Q (⟨none, .store 55 x y, ty', pos, after, none⟩ :: rest) a w :=
  wl_stR hx hy hb (h _ (fun _ _ hB h0 => below_setRow h0 hB _) (fun _ _ hne h0 => hr_old h0 hne) (hr_new hb))
end

theorem res_long2 {fn : Func} {p q : Tmp} (h : fn.results = #[.cell p 57, .cell q 57]) (tmps : Array Value) (w : World) (g g' : Nat) (hp : tmps.getD p undef = .pointer (some ⟨g, 0, none⟩)) (hq : tmps.getD q undef = .pointer (some ⟨g', 0, none⟩)) {x y : Int}
    (hg : w.heap[g]? = some (.cells (lv x) 57 (0, 0))) (hg' : w.heap[g']? = some (.cells (lv y) 57 (0, 0))) : (results fn tmps).run Tryz.prog w = .ok (.tuple #[.agg (lv x), .agg (lv y)]) w := by
  have hp' : tmps[p]?.getD undef = .pointer (some ⟨g, 0, none⟩) := by simpa using hp
  have hq' : tmps[q]?.getD undef = .pointer (some ⟨g', 0, none⟩) := by simpa using hq
  have l1 : (loadVar 57 ⟨g, 0, none⟩).run Tryz.prog w = .ok (.agg (lv x)) w := by have := rowL hg; unfold RowAt at this; exact this
  have l2 : (loadVar 57 ⟨g', 0, none⟩).run Tryz.prog w = .ok (.agg (lv y)) w := by have := rowL hg'; unfold RowAt at this; exact this
  simp [results, h, hp', hq', asAddr, l1, l2]
end Go.Proofs.YtclainfdeghgnaaGreatDoor
namespace Go.Proofs.YtclainfdeghgnaaGreatDoor
open Go.RowKit Go.Proofs.YtclainfdeghgnaaGreatDoor.Nm

theorem tdiv_sg (a b : Int) : sg (ng a != ng b) (a.natAbs / b.natAbs) = a.tdiv b := by
  rw [ng_def, ng_def]; unfold sg
  obtain ⟨m, hm | hm⟩ := Int.eq_nat_or_neg a <;> obtain ⟨n, hn | hn⟩ := Int.eq_nat_or_neg b <;> subst hm <;> subst hn <;>
    simp only [Int.natAbs_neg, Int.natAbs_natCast, Int.neg_tdiv, Int.tdiv_neg, Int.neg_neg, ← Int.ofNat_tdiv]
  · have e1 : ¬ ((m : Int) < 0) := by omega
    have e2 : ¬ ((n : Int) < 0) := by omega
    simp [e1, e2]
  · have e1 : ¬ ((m : Int) < 0) := by omega
    by_cases h : n = 0
    · subst h; simp [e1]
    · have e2 : (-(n : Int) < 0) := by omega
      simp only [e1, e2]; rfl
  · have e2 : ¬ ((n : Int) < 0) := by omega
    by_cases h : m = 0
    · subst h; simp [e2]
    · have e1 : (-(m : Int) < 0) := by omega
      simp only [e1, e2]; rfl
  · by_cases h : m = 0
    · subst h; simp
    · have e1 : (-(m : Int) < 0) := by omega
      by_cases h2 : n = 0
      · subst h2; simp
      · have e2 : (-(n : Int) < 0) := by omega
        simp only [e1, e2]; rfl
theorem tmod_sg (a b : Int) : sg (ng a) (a.natAbs % b.natAbs) = a.tmod b := by
  rw [ng_def]; unfold sg
  obtain ⟨m, hm | hm⟩ := Int.eq_nat_or_neg a <;> obtain ⟨n, hn | hn⟩ := Int.eq_nat_or_neg b <;> subst hm <;> subst hn <;>
    simp only [Int.natAbs_neg, Int.natAbs_natCast, Int.neg_tmod, Int.tmod_neg, ← Int.ofNat_tmod]
  · have e1 : ¬ ((m : Int) < 0) := by omega
    simp [e1]
  · have e1 : ¬ ((m : Int) < 0) := by omega
    simp [e1]
  · by_cases h : m = 0
    · subst h; simp
    · have e1 : (-(m : Int) < 0) := by omega
      simp only [e1]; rfl
  · by_cases h : m = 0
    · subst h; simp
    · have e1 : (-(m : Int) < 0) := by omega
      simp only [e1]; rfl

set_option maxHeartbeats 400000 in
theorem div_any (a b : Int) (ha : a.natAbs < 10 ^ 64) (hb0 : 0 < b.natAbs) (hb1 : b.natAbs < 10 ^ 63) (w : World) :
    Calls Tryz.prog 52 #[.agg (lv a), .agg (lv b)] w fun e w' => e = .returned (.tuple #[.agg (lv (a.tdiv b)), .agg (lv (a.tmod b))]) ∧ Below w.heap.size w w' := by
  have HA := Lib.hid ha
  have HB0 := Lib.hid hb0
  have HB1 := Lib.hid hb1
  have HQ := Lib.hid (show a.natAbs / b.natAbs < 10 ^ 64 from Nat.lt_of_le_of_lt (Nat.div_le_self _ _) ha)
  have HR := Lib.hid (show a.natAbs % b.natAbs < 10 ^ 64 from Nat.lt_of_le_of_lt (Nat.mod_le _ _) ha)
  clear ha hb0 hb1
  go_enter Tryz.func52, Tryz.ntmps52
  go_upto_region 1 with (fail)
  refine wp_world (fun W => W.heap[w.heap.size]? = some (.cells (lv a) 57 (0, 0)) ∧ W.heap[w.heap.size + 1]? = some (.cells (lv b) 57 (0, 0)) ∧ W.heap[w.heap.size + 1 + 1]? = some (.cells (lv 0) 57 (0, 0)) ∧ W.heap[w.heap.size + 1 + 1 + 1]? = some (.cells (lv 0) 57 (0, 0)) ∧ Below w.heap.size w W)
    ⟨ha_old (ha_old (ha_old (ha_new rfl))), ha_old (ha_old (ha_new (by simp))), by rw [← zero_long]; exact ha_old (ha_new (by simp)), by rw [← zero_long]; exact ha_new (by simp), ((((Below.refl _ _).alloc (Nat.le_refl _) _).alloc (by simp) _).alloc (by simp; omega) _).alloc (by simp; omega) _⟩ ?_
  rintro W ⟨h0, h1, h2, h3, hb⟩
  apply wp_region_lit
  refine wl_k rfl (fun K hK => ?_); go_simp; refine hK _ ?_; clear hK K
  ((with_reducible apply wl_rowG); exact rfl; exact rfl; (first | exact rowL (by with_reducible assumption) | exact rowD (by with_reducible assumption) | exact rowR (by with_reducible assumption)))
  refine wl_k rfl (fun K hK => ?_); go_simp; refine hK _ ?_; clear hK K
  ((with_reducible apply wl_rowG); exact rfl; exact rfl; (first | exact rowL (by with_reducible assumption) | exact rowD (by with_reducible assumption) | exact rowR (by with_reducible assumption)))
  refine wl_ck rfl (fun K hK => ?_); go_simp; refine ⟨_, _, ⟨rfl, rfl⟩, hK _ _ ⟨_, divDigits_any _ _ HA.out HB0.out HB1.out _, ?_⟩⟩; clear hK K; rintro e w1 ⟨rfl, hb1⟩; refine ⟨_, rfl, ?_⟩; simp only [put_lit, List.set_cons_zero, List.set_cons_succ]
  have l3 := heap_lt h3
  replace h0 := below_look hb1 h0; replace h1 := below_look hb1 h1; replace h2 := below_look hb1 h2; replace h3 := below_look hb1 h3; replace hb := hb.trans (hb1.mono hb.size); clear hb1
  refine wl_k rfl (fun K hK => ?_); go_simp; refine hK _ ?_; clear hK K
  refine wl_k rfl (fun K hK => ?_); go_simp; refine hK _ ?_; clear hK K
  refine wl_k rfl (fun K hK => ?_); go_simp; refine hK _ ?_; clear hK K
  have l3 := heap_lt h3
  ((with_reducible apply wl_new73); intro w2 p2 hbn hlp2 hp2; replace h0 := below_look hbn h0; replace h1 := below_look hbn h1; replace h2 := below_look hbn h2; replace h3 := below_look hbn h3; replace hb := hb.trans (hbn.mono hb.size); clear hbn)
  have lp2 := heap_lt hp2
  ((with_reducible apply wl_new73); intro w3 p3 hbn hlp3 hp3; replace h0 := below_look hbn h0; replace h1 := below_look hbn h1; replace h2 := below_look hbn h2; replace h3 := below_look hbn h3; replace hp2 := below_look hbn hp2; replace hb := hb.trans (hbn.mono hb.size); clear hbn)
  ((with_reducible apply wl_put73); exact rfl; exact rfl; exact hp2; intro w4 hbx hk hq; replace h0 := hk _ _ (by omega) h0; replace h1 := hk _ _ (by omega) h1; replace h2 := hk _ _ (by omega) h2; replace h3 := hk _ _ (by omega) h3; replace hp3 := hk _ _ (by omega) hp3; replace hb := hbx _ _ (by omega) hb; clear hp2; have hp2 := hq; clear hbx hk hq)
  ((with_reducible apply wl_put73); exact rfl; exact rfl; exact hp3; intro w5 hbx hk hq; replace h0 := hk _ _ (by omega) h0; replace h1 := hk _ _ (by omega) h1; replace h2 := hk _ _ (by omega) h2; replace h3 := hk _ _ (by omega) h3; replace hp2 := hk _ _ (by omega) hp2; replace hb := hbx _ _ (by omega) hb; clear hp3; have hp3 := hq; clear hbx hk hq)
  go_wp2_with fail
  refine wp_region_below 11 mixed (by kernel_rfl) ?_; simp only [List.take_succ_cons, List.take_zero, List.drop_succ_cons, List.drop_zero]
  ((with_reducible apply wq_row); exact rfl; exact rfl; (intro w' hw'; first | exact rowL (below_look hw' (by with_reducible assumption)) | exact rowD (below_look hw' (by with_reducible assumption)) | exact rowR (below_look hw' (by with_reducible assumption))))
  refine wq_k rfl (fun K hK => ?_); go_simp; refine hK _ ?_; clear hK K
  ((with_reducible apply wq_one); exact rfl; exact rfl; (intro w' hw'; exact oneN (below_look hw' (by with_reducible assumption))))
  refine wq_k rfl (fun K hK => ?_); go_simp; refine hK _ ?_; clear hK K
  ((with_reducible apply wq_one); exact rfl; exact rfl; (intro w' hw'; exact oneN (below_look hw' (by with_reducible assumption))))
  refine wq_k rfl (fun K hK => ?_); go_simp; refine hK _ ?_; clear hK K
  refine wq_ck rfl (fun K hK => ?_); go_simp; refine ⟨_, _, ⟨rfl, rfl⟩, hK _ _ ⟨_, fun w' hw' => calls_class hw' (signed_any _ _ HQ.out w'), ?_⟩⟩; clear hK K; simp only [put_lit, List.set_cons_zero, List.set_cons_succ]
  ((with_reducible apply wq_row); exact rfl; exact rfl; (intro w' hw'; first | exact rowL (below_look hw' (by with_reducible assumption)) | exact rowD (below_look hw' (by with_reducible assumption)) | exact rowR (below_look hw' (by with_reducible assumption))))
  refine wq_k rfl (fun K hK => ?_); go_simp; refine hK _ ?_; clear hK K
  ((with_reducible apply wq_one); exact rfl; exact rfl; (intro w' hw'; exact oneN (below_look hw' (by with_reducible assumption))))
  refine wq_ck rfl (fun K hK => ?_); go_simp; refine ⟨_, _, ⟨rfl, rfl⟩, hK _ _ ⟨_, fun w' hw' => calls_class hw' (signed_any _ _ HR.out w'), ?_⟩⟩; clear hK K; simp only [put_lit, List.set_cons_zero, List.set_cons_succ]
  intro w6 hb1
  replace h0 := below_look hb1 h0; replace h1 := below_look hb1 h1; replace h2 := below_look hb1 h2; replace h3 := below_look hb1 h3; replace hb := hb.trans (hb1.mono hb.size); clear hb1
  ((with_reducible apply wl_put75); exact rfl; exact rfl; exact h2; intro w7 hbx hk hq; replace h0 := hk _ _ (by omega) h0; replace h1 := hk _ _ (by omega) h1; replace h3 := hk _ _ (by omega) h3; replace hb := hbx _ _ (by omega) hb; clear h2; have h2 := hq; clear hbx hk hq)
  ((with_reducible apply wl_put75); exact rfl; exact rfl; exact h3; intro w8 hbx hk hq; replace h0 := hk _ _ (by omega) h0; replace h1 := hk _ _ (by omega) h1; replace h2 := hk _ _ (by omega) h2; replace hb := hbx _ _ (by omega) hb; clear h3; have h3 := hq; clear hbx hk hq)
  go_wp2_with fail
  refine bodyPost_ret (res_long2 rfl _ _ (w.heap.size + 1 + 1) (w.heap.size + 1 + 1 + 1) rfl rfl h2 h3) rfl ⟨?_, hb⟩
  rw [← tdiv_sg, ← tmod_sg]; rfl
end Go.Proofs.YtclainfdeghgnaaGreatDoor
