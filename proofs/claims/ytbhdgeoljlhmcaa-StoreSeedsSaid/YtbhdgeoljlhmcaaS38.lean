/- Lists of texts, lists of entries and items compared, by the document's helpers. -/
import Derived.Test.YtbhdgeoljlhmcaaS34
import Derived.Test.YtbhdgeoljlhmcaaS25
import Derived.Outline
namespace Go.Proofs.Ytbhdgeoljlhmcaa
open Go.RowKit Go.Proofs.Ytbhdgeoljlhmcaa.Nm Go.Proofs.Ytbhdgeoljlhmcaa.St
set_option linter.unusedSimpArgs false
set_option maxHeartbeats 2000000 in
set_option maxRecDepth 100000 in
theorem EqStrings_any (A1 A2 : Option Addr) (n1 n2 c1 c2 : Nat) (l1 l2 : List ByteArray) (hn1 : n1 ≤ 1000000) (w : World) (h1 : StrAt w A1 n1 c1 l1) (h2 : StrAt w A2 n2 c2 l2) :
    Calls Try.prog 27 #[.slice A1 n1 c1, .slice A2 n2 c2] w fun e w' => e = .returned (.bool (decide (l1 = l2))) ∧ Below w.heap.size w w' := by
  have H1 := Lib.hid h1
  have H2 := Lib.hid h2
  clear h1 h2
  by_cases hn : n1 = n2
  · subst hn
    go_enter Try.func27, Try.ntmps27
    go_wp2_with fail
    go_loopw [5] (fun i wr => ∃ j : Nat, j ≤ n1 ∧ i = .int .i64 (j : Int) ∧ Hid (l1.take j = l2.take j) ∧ Below w.heap.size w wr) (fun i _ => n1 - (intOf i).toNat)
    case atStart => exact ⟨0, by omega, rfl, Lib.hid (by simp), Below.refl _ _⟩
    case round =>
      obtain ⟨j, hj, rfl, HT, hb⟩ := hrel
      by_cases hlt : j < n1
      · obtain ⟨a, ha⟩ : ∃ a, l1[j]? = some a := ⟨_, List.getElem?_eq_getElem (by rw [H1.out.1]; exact hlt)⟩
        obtain ⟨b, hb2⟩ : ∃ b, l2[j]? = some b := ⟨_, List.getElem?_eq_getElem (by rw [H2.out.1]; exact hlt)⟩
        obtain ⟨ad1, rfl, hca⟩ := H1.out.cell ha
        obtain ⟨ad2, rfl, hcb⟩ := H2.out.cell hb2
        have HCA := Lib.hid hca
        have HCB := Lib.hid hcb
        have HA := Lib.hid ha
        have HB := Lib.hid hb2
        have hltI : (j : Int) < (n1 : Int) := by omega
        clear hca hcb ha hb2
        go_upto_region 6 with (fail)
        refine wp_region_held_drew (S := Below w.heap.size w) mixed hb.drew (fun hS => ?_)
        refine ha_k (i := 0) rfl (by kernel_rfl) (by kernel_rfl) (by kernel_rfl) (fun _ _ _ _ h => h) hS rfl (fun K hK => ?_); go_simp; refine hK _ ?_; clear hK K; try simp only [put_lit, List.set_cons_zero, List.set_cons_succ]
        refine ha_k (i := 1) rfl (by kernel_rfl) (by kernel_rfl) (by kernel_rfl) (fun _ _ _ _ h => h) hS rfl (fun K hK => ?_); go_simp; refine hK _ ?_; clear hK K; try simp only [put_lit, List.set_cons_zero, List.set_cons_succ]
        (refine ha_val (i := 2) rfl (by kernel_rfl) (by kernel_rfl) (by kernel_rfl) (fun _ _ _ h => h) hS rfl (fun w' _ => ex_ixS (j := j) _ _ rfl rfl rfl hlt) ?_; try simp only [put_lit, List.set_cons_zero, List.set_cons_succ])
        (refine ha_val (i := 3) rfl (by kernel_rfl) (by kernel_rfl) (by kernel_rfl) (fun _ _ _ h => h) hS rfl (fun w' hw' => ex_one rfl (one9 (below_cell hw' HCA.out))) ?_; try simp only [put_lit, List.set_cons_zero, List.set_cons_succ])
        refine ha_k (i := 4) rfl (by kernel_rfl) (by kernel_rfl) (by kernel_rfl) (fun _ _ _ _ h => h) hS rfl (fun K hK => ?_); go_simp; refine hK _ ?_; clear hK K; try simp only [put_lit, List.set_cons_zero, List.set_cons_succ]
        refine ha_k (i := 5) rfl (by kernel_rfl) (by kernel_rfl) (by kernel_rfl) (fun _ _ _ _ h => h) hS rfl (fun K hK => ?_); go_simp; refine hK _ ?_; clear hK K; try simp only [put_lit, List.set_cons_zero, List.set_cons_succ]
        (refine ha_val (i := 6) rfl (by kernel_rfl) (by kernel_rfl) (by kernel_rfl) (fun _ _ _ h => h) hS rfl (fun w' _ => ex_ixS (j := j) _ _ rfl rfl rfl hlt) ?_; try simp only [put_lit, List.set_cons_zero, List.set_cons_succ])
        (refine ha_val (i := 7) rfl (by kernel_rfl) (by kernel_rfl) (by kernel_rfl) (fun _ _ _ h => h) hS rfl (fun w' hw' => ex_one rfl (one9 (below_cell hw' HCB.out))) ?_; try simp only [put_lit, List.set_cons_zero, List.set_cons_succ])
        refine ha_k (i := 8) rfl (by kernel_rfl) (by kernel_rfl) (by kernel_rfl) (fun _ _ _ _ h => h) hS rfl (fun K hK => ?_); go_simp; refine hK _ ?_; clear hK K; try simp only [put_lit, List.set_cons_zero, List.set_cons_succ]
        refine wpAnyH_done (by kernel_rfl) ?_ _
        rw [show (a.toList == b.toList) = decide (a = b) by rw [← Bool.coe_iff_coe]; simp only [decide_eq_true_eq, beq_iff_eq]; rw [ByteArray.toList_eq, ByteArray.toList_eq]; exact ⟨fun e => ByteArray.ext (Array.toList_inj.1 e), fun e => by rw [e]⟩]
        clear hb
        by_cases e : a = b
        · rw [decide_eq_true e]
          go_wp2_with fail
          go_roundw
          case rel => exact ⟨j + 1, by omega, by go_num, Lib.hid (by rw [List.take_add_one, List.take_add_one, HA.out, HB.out, HT.out, e]), hS⟩
          case measure => simp [intOf]; omega
        · rw [decide_eq_false e]
          have HN : Hid (decide (l1 = l2) = false) := Lib.hid (decide_eq_false (fun h => e (by have h1 := HA.out; rw [h, HB.out] at h1; cases h1; rfl)))
          go_wp2_with fail
          go_ret
          exact ⟨by rw [HN.out]; rfl, hS⟩
      · obtain rfl : j = n1 := by omega
        have HN : Hid (decide (l1 = l2) = true) := Lib.hid (decide_eq_true (by have h := HT.out; rw [List.take_of_length_le (by rw [H1.out.1]; exact Nat.le_refl _), List.take_of_length_le (by rw [H2.out.1]; exact Nat.le_refl _)] at h; exact h))
        go_wp2_with fail
        go_ret
        exact ⟨by rw [HN.out]; rfl, hb⟩
  · have hnI : ¬ (n1 : Int) = (n2 : Int) := by omega
    have hd : ((n1 : Int) == (n2 : Int)) = false := by simpa using hnI
    have HN : Hid (decide (l1 = l2) = false) := Lib.hid (decide_eq_false (fun h => hn (by rw [← H1.out.1, ← H2.out.1, h])))
    go_enter Try.func27, Try.ntmps27
    go_wp2_with fail
    go_ret
    exact ⟨by rw [HN.out]; rfl, Below.refl _ _⟩
/-- entries in memory -/
def PrAt (w : World) (A : Option Addr) (n : Nat) (l : List (ByteArray × Int)) : Prop := l.length = n ∧ ∀ (i : Nat) (k : ByteArray) (v : Int), l[i]? = some (k, v) → ∃ (q : Nat) (Cs : Array Value) (t : TypeId) (fr : Nat × Nat), A = some ⟨q, 0, none⟩ ∧ w.heap[q]? = some (.cells Cs t fr) ∧ Cs.extract (i * 2) (i * 2 + 2) = pair k v
theorem PrAt.below {w w' : World} {A : Option Addr} {n : Nat} {l : List (ByteArray × Int)} (h : PrAt w A n l) (hb : Below w.heap.size w w') : PrAt w' A n l :=
  ⟨h.1, fun i k v hi => by obtain ⟨q, Cs, t, fr, h1, h2, h3⟩ := h.2 i k v hi; exact ⟨q, Cs, t, fr, h1, below_look hb h2, h3⟩⟩
theorem PrAt.row {w : World} {q n : Nat} {l : List (ByteArray × Int)} (h : PrAt w (some ⟨q, 0, none⟩) n l) {i : Nat} {k : ByteArray} {v : Int} (hi : l[i]? = some (k, v)) : RowAt w 91 ⟨q, i * 2, none⟩ (pair k v) := by
  obtain ⟨q', Cs, t, fr, h1, h2, h3⟩ := h.2 i k v hi
  cases h1
  exact row_mid h2 h3 u91 rfl rfl info91
theorem PrAt.addr {w : World} {A : Option Addr} {n : Nat} {l : List (ByteArray × Int)} (h : PrAt w A n l) {i : Nat} (hi : i < n) : ∃ q, A = some ⟨q, 0, none⟩ := by
  obtain ⟨q, _, _, _, h1, _⟩ := h.2 i _ _ (List.getElem?_eq_getElem (show i < l.length by rw [h.1]; exact hi))
  exact ⟨q, h1⟩
theorem own_prAt {w : World} {B n : Nat} {v : Value} {l : List (ByteArray × Int)} (h : w.ownsRow B 91 2 v n (prow l)) (hl : l.length = n) : ∃ A c, v = .slice A n c ∧ PrAt w A n l := by
  rcases h.2 with ⟨rfl, h0⟩ | ⟨q, cap, cur, rfl, hB, hg, h1, h2, h3, h4⟩
  · subst h0
    obtain rfl := List.length_eq_zero_iff.1 hl
    exact ⟨none, 0, rfl, rfl, fun i k x hi => by simp at hi⟩
  · refine ⟨_, cap, rfl, hl, fun i k x hi => ⟨q, cur, 91, (0, 0), rfl, hg, ?_⟩⟩
    have hil := (List.getElem?_eq_some_iff.1 hi).1
    obtain ⟨g0, g1⟩ := prow_get hi
    have key : ∀ i u, (prow l)[i]? = some u → i < n * 2 → cur[i]? = some u := fun i u hq hl => by
      rw [← h4, List.getElem?_take_of_lt hl] at hq; simpa using hq
    exact extract2 (key _ _ g0 (by omega)) (key _ _ g1 (by omega))
theorem fields91 : (Try.prog.fieldsOf 91).toList.map (fun f => (decide (f.name = "_"), f.type, f.offset)) = [(false, 9, 0), (false, 3, 1)] := by kernel_rfl
theorem held91 : Try.prog.stoodInHeld 91 = false := by kernel_rfl
theorem part91_0 (w : World) (k : ByteArray) (v : Int) : (part 9 (pair k v) 0).run Try.prog w = .ok (.string k) w := run_part_plain w (by kernel_rfl) rfl
theorem part91_1 (w : World) (k : ByteArray) (v : Int) : (part 3 (pair k v) 1).run Try.prog w = .ok (.int .i64 v) w := run_part_plain w (by kernel_rfl) rfl
theorem run_eq91 (k k' : ByteArray) (v v' : Int) (w : World) : (Op.equalIn 10000 91 (.agg (pair k v)) (.agg (pair k' v'))).run Try.prog w = .ok (decide (k = k' ∧ v = v')) w := by
  rw [run_equalIn_struct w 9999 91 _ _ u91 held91]
  have hl := fields91
  generalize (Try.prog.fieldsOf 91).toList = l at *
  obtain ⟨f0, f1, rfl⟩ : ∃ f0 f1, l = [f0, f1] := by
    have := congrArg List.length hl
    simp only [List.length_map, List.length_cons, List.length_nil] at this
    obtain ⟨f0, l, rfl⟩ := List.exists_cons_of_length_eq_add_one this
    obtain ⟨f1, l, rfl⟩ := List.exists_cons_of_length_eq_add_one (by simpa using this : l.length = 0 + 1)
    have : l = [] := by simpa using this
    exact ⟨f0, f1, by rw [this]⟩
  · simp only [List.map_cons, List.map_nil, List.cons.injEq, Prod.mk.injEq, and_true, decide_eq_false_iff_not] at hl
    obtain ⟨⟨n0, t0, o0⟩, n1, t1, o1⟩ := hl
    simp only [Op.eqFields, n0, t0, o0, n1, t1, o1, Sem.run_bind, part91_0, part91_1, Result.andThen_ok, run_equalIn_string w 9998 9 _ _ u9, run_equalIn_int w 9998 3 .i64 .i64 _ _ u3d, Sem.run_ite, Sem.run_pure, ne_eq, not_false_eq_true, if_true, ba_beq]
    by_cases e : k = k'
    · by_cases e2 : v = v'
      · simp [e, e2]
      · have : (v == v') = false := by simpa using e2
        simp [e, e2, this]
    · simp [e]
theorem guard91 : Try.prog.eqGuardType Try.prog.depth 91 = false := by kernel_rfl
theorem ex_neq91 {ev : Operand → Value} {o : Oper} {w : World} (x y : Operand) (yt : TypeId) (ho : o.op = .binOp .neq 91 x y yt) {k k' : ByteArray} {v v' : Int} (hx : ev x = .agg (pair k v)) (hy : ev y = .agg (pair k' v')) :
    (execOp ev o).run Try.prog w = .ok (.value (.bool (!decide (k = k' ∧ v = v')))) w := by
  unfold execOp
  simp only [ho, hx, hy, Sem.run_bind, run_eqGuard_agg w .neq 91 x y _ _ guard91, run_neq_struct, run_eq91, Result.andThen_ok]
  rfl
set_option maxHeartbeats 2000000 in
set_option maxRecDepth 100000 in
theorem EqPairs_any (A1 A2 : Option Addr) (n1 n2 c1 c2 : Nat) (l1 l2 : List (ByteArray × Int)) (hn1 : n1 ≤ 1000000) (w : World) (h1 : PrAt w A1 n1 l1) (h2 : PrAt w A2 n2 l2) :
    Calls Try.prog 49 #[.slice A1 n1 c1, .slice A2 n2 c2] w fun e w' => e = .returned (.bool (decide (l1 = l2))) ∧ Below w.heap.size w w' := by
  have H1 := Lib.hid h1
  have H2 := Lib.hid h2
  clear h1 h2
  by_cases hn : n1 = n2
  · subst hn
    go_enter Try.func49, Try.ntmps49
    go_wp2_with fail
    go_loopw [5] (fun i wr => ∃ j : Nat, j ≤ n1 ∧ i = .int .i64 (j : Int) ∧ Hid (l1.take j = l2.take j) ∧ Below w.heap.size w wr) (fun i _ => n1 - (intOf i).toNat)
    case atStart => exact ⟨0, by omega, rfl, Lib.hid (by simp), Below.refl _ _⟩
    case round =>
      obtain ⟨j, hj, rfl, HT, hb⟩ := hrel
      by_cases hlt : j < n1
      · obtain ⟨⟨a, x⟩, ha⟩ : ∃ a, l1[j]? = some a := ⟨_, List.getElem?_eq_getElem (by rw [H1.out.1]; exact hlt)⟩
        obtain ⟨⟨b, y⟩, hb2⟩ : ∃ b, l2[j]? = some b := ⟨_, List.getElem?_eq_getElem (by rw [H2.out.1]; exact hlt)⟩
        obtain ⟨q1, rfl⟩ := H1.out.addr hlt
        obtain ⟨q2, rfl⟩ := H2.out.addr hlt
        have HA := Lib.hid ha
        have HB := Lib.hid hb2
        have hltI : (j : Int) < (n1 : Int) := by omega
        clear ha hb2
        go_upto_region 6 with (fail)
        refine wp_region_held_drew (S := Below w.heap.size w) mixed hb.drew (fun hS => ?_)
        refine ha_k (i := 0) rfl (by kernel_rfl) (by kernel_rfl) (by kernel_rfl) (fun _ _ _ _ h => h) hS rfl (fun K hK => ?_); go_simp; refine hK _ ?_; clear hK K; try simp only [put_lit, List.set_cons_zero, List.set_cons_succ]
        refine ha_k (i := 1) rfl (by kernel_rfl) (by kernel_rfl) (by kernel_rfl) (fun _ _ _ _ h => h) hS rfl (fun K hK => ?_); go_simp; refine hK _ ?_; clear hK K; try simp only [put_lit, List.set_cons_zero, List.set_cons_succ]
        refine ha_k (i := 2) rfl (by kernel_rfl) (by kernel_rfl) (by kernel_rfl) (fun _ _ _ _ h => h) hS rfl (fun K hK => ?_); go_simp; refine hK _ ?_; clear hK K; try simp only [put_lit, List.set_cons_zero, List.set_cons_succ]
        (refine ha_val (i := 3) rfl (by kernel_rfl) (by kernel_rfl) (by kernel_rfl) (fun _ _ _ h => h) hS rfl (fun w' hw' => ex_row rfl ((H1.out.below hw').row HA.out)) ?_; try simp only [put_lit, List.set_cons_zero, List.set_cons_succ])
        refine ha_k (i := 4) rfl (by kernel_rfl) (by kernel_rfl) (by kernel_rfl) (fun _ _ _ _ h => h) hS rfl (fun K hK => ?_); go_simp; refine hK _ ?_; clear hK K; try simp only [put_lit, List.set_cons_zero, List.set_cons_succ]
        refine ha_k (i := 5) rfl (by kernel_rfl) (by kernel_rfl) (by kernel_rfl) (fun _ _ _ _ h => h) hS rfl (fun K hK => ?_); go_simp; refine hK _ ?_; clear hK K; try simp only [put_lit, List.set_cons_zero, List.set_cons_succ]
        refine ha_k (i := 6) rfl (by kernel_rfl) (by kernel_rfl) (by kernel_rfl) (fun _ _ _ _ h => h) hS rfl (fun K hK => ?_); go_simp; refine hK _ ?_; clear hK K; try simp only [put_lit, List.set_cons_zero, List.set_cons_succ]
        (refine ha_val (i := 7) rfl (by kernel_rfl) (by kernel_rfl) (by kernel_rfl) (fun _ _ _ h => h) hS rfl (fun w' hw' => ex_row rfl ((H2.out.below hw').row HB.out)) ?_; try simp only [put_lit, List.set_cons_zero, List.set_cons_succ])
        (refine ha_val (i := 8) rfl (by kernel_rfl) (by kernel_rfl) (by kernel_rfl) (fun _ _ _ h => h) hS rfl (fun w' hw' => ex_neq91 _ _ 91 rfl rfl rfl) ?_; try simp only [put_lit, List.set_cons_zero, List.set_cons_succ])
        refine wpAnyH_done (by kernel_rfl) ?_ _
        clear hb
        by_cases e : a = b ∧ x = y
        · rw [decide_eq_true e]
          go_wp2_with fail
          go_roundw
          case rel => exact ⟨j + 1, by omega, by go_num, Lib.hid (by rw [List.take_add_one, List.take_add_one, HA.out, HB.out, HT.out, e.1, e.2]), hS⟩
          case measure => simp [intOf]; omega
        · rw [decide_eq_false e]
          have HN : Hid (decide (l1 = l2) = false) := Lib.hid (decide_eq_false (fun h => e (by have h1 := HA.out; rw [h, HB.out] at h1; cases h1; exact ⟨rfl, rfl⟩)))
          go_wp2_with fail
          go_ret
          exact ⟨by rw [HN.out]; rfl, hS⟩
      · obtain rfl : j = n1 := by omega
        have HN : Hid (decide (l1 = l2) = true) := Lib.hid (decide_eq_true (by have h := HT.out; rw [List.take_of_length_le (by rw [H1.out.1]; exact Nat.le_refl _), List.take_of_length_le (by rw [H2.out.1]; exact Nat.le_refl _)] at h; exact h))
        go_wp2_with fail
        go_ret
        exact ⟨by rw [HN.out]; rfl, hb⟩
  · have hnI : ¬ (n1 : Int) = (n2 : Int) := by omega
    have hd : ((n1 : Int) == (n2 : Int)) = false := by simpa using hnI
    have HN : Hid (decide (l1 = l2) = false) := Lib.hid (decide_eq_false (fun h => hn (by rw [← H1.out.1, ← H2.out.1, h])))
    go_enter Try.func49, Try.ntmps49
    go_wp2_with fail
    go_ret
    exact ⟨by rw [HN.out]; rfl, Below.refl _ _⟩
theorem EqStrings_refl (A1 A2 : Option Addr) (c1 c2 : Nat) (l : List ByteArray) (hn1 : l.length ≤ 1000000) (w : World) (h1 : StrAt w A1 l.length c1 l) (h2 : StrAt w A2 l.length c2 l) :
    Calls Try.prog 27 #[.slice A1 l.length c1, .slice A2 l.length c2] w fun e w' => e = .returned (.bool true) ∧ Below w.heap.size w w' := by
  have h := EqStrings_any A1 A2 l.length l.length c1 c2 l l hn1 w h1 h2
  rwa [decide_eq_true rfl] at h
theorem EqPairs_refl (A1 A2 : Option Addr) (c1 c2 : Nat) (l : List (ByteArray × Int)) (hn1 : l.length ≤ 1000000) (w : World) (h1 : PrAt w A1 l.length l) (h2 : PrAt w A2 l.length l) :
    Calls Try.prog 49 #[.slice A1 l.length c1, .slice A2 l.length c2] w fun e w' => e = .returned (.bool true) ∧ Below w.heap.size w w' := by
  have h := EqPairs_any A1 A2 l.length l.length c1 c2 l l hn1 w h1 h2
  rwa [decide_eq_true rfl] at h
theorem one30 {w : World} {ad : Addr} {v : Value} (h : w.cell? ad = some v) : OneAt w 30 ad v := one_of u30 rfl h
theorem ic_cell {w : World} {g : Nat} {kd seed : Int} {lv pv : Value} (h : w.heap[g]? = some (.cells (icells kd lv seed pv) 32 (0, 0))) :
    w.cell? ⟨g, 0, none⟩ = some (.int .i64 kd) ∧ w.cell? ⟨g, 1, none⟩ = some lv ∧ w.cell? ⟨g, 2, none⟩ = some (.int .i64 seed) ∧ w.cell? ⟨g, 3, none⟩ = some pv := by
  rw [cell_of_row _ _ _ _ _ _ h, cell_of_row _ _ _ _ _ _ h, cell_of_row _ _ _ _ _ _ h, cell_of_row _ _ _ _ _ _ h]
  exact ⟨rfl, rfl, rfl, rfl⟩
set_option maxHeartbeats 2000000 in
set_option maxRecDepth 100000 in

theorem EqItem_true (a b : Buf) (A1 : Option Addr) (c1 : Nat) (A2 : Option Addr) (c2 : Nat) (A3 : Option Addr) (c3 : Nat) (A4 : Option Addr) (c4 : Nat) (hl : a.l.length ≤ 1000000) (hp : (pairsT a.t).length ≤ 1000000) (w : World)
    (hkd : a.kd = b.kd) (hsd : a.seed = b.seed) (hel : a.l = b.l) (hep : pairsT a.t = pairsT b.t) (h1 : StrAt w A1 a.l.length c1 a.l) (h2 : PrAt w A2 (pairsT a.t).length (pairsT a.t)) (h3 : StrAt w A3 b.l.length c3 b.l) (h4 : PrAt w A4 (pairsT b.t).length (pairsT b.t)) :
    Calls Try.prog 16 #[.agg (icells a.kd (.slice A1 a.l.length c1) a.seed (.slice A2 (pairsT a.t).length c2)), .agg (icells b.kd (.slice A3 b.l.length c3) b.seed (.slice A4 (pairsT b.t).length c4))] w fun e w' => e = .returned (.bool true) ∧ Below w.heap.size w w' := by
  obtain ⟨kd, l, seed, t⟩ := a
  obtain ⟨kd', l', seed', t'⟩ := b
  simp only at hkd hsd hel hep h1 h2 h3 h4 hl hp ⊢
  subst hkd hsd hel
  rw [← hep] at h4 ⊢
  obtain ⟨P, hP⟩ : ∃ P, P = pairsT t := ⟨_, rfl⟩
  rw [← hP] at h2 h4 hp ⊢
  clear hep hP
  have H1 := Lib.hid h1
  have H2 := Lib.hid h2
  have H3 := Lib.hid h3
  have H4 := Lib.hid h4
  clear h1 h2 h3 h4
  go_enter Try.func16, Try.ntmps16
  go_upto_region 1 with (fail)
  have hb0 := (Below.refl w.heap.size w).alloc (Nat.le_refl _) (.cells (icells kd (.slice A1 l.length c1) seed (.slice A2 P.length c2)) 32)
  have hb1 := hb0.alloc (by simp) (.cells (icells kd (.slice A3 l.length c3) seed (.slice A4 P.length c4)) 32)
  refine wp_world (fun W => Below w.heap.size w W ∧ W.heap[w.heap.size]? = some (.cells (icells kd (.slice A1 l.length c1) seed (.slice A2 P.length c2)) 32 (0, 0)) ∧ W.heap[w.heap.size + 1]? = some (.cells (icells kd (.slice A3 l.length c3) seed (.slice A4 P.length c4)) 32 (0, 0))) ⟨hb1, ha_old (ha_new rfl), ha_new (by simp)⟩ ?_
  clear hb0 hb1
  rintro W ⟨hb, g1, g2⟩
  obtain ⟨x0, x1, x2, x3⟩ := ic_cell g1
  obtain ⟨y0, y1, y2, y3⟩ := ic_cell g2
  have HES := Lib.hid (EqStrings_refl A1 A3 c1 c3 l hl _ (H1.out.below hb) (H3.out.below hb))
  apply wp_region_lit
  refine wl_k rfl (fun K hK => ?_); go_simp; refine hK _ ?_; clear hK K
  ((with_reducible apply wl_oneG); exact rfl; exact rfl; exact one3 x0)
  refine wl_k rfl (fun K hK => ?_); go_simp; refine hK _ ?_; clear hK K
  ((with_reducible apply wl_oneG); exact rfl; exact rfl; exact one3 y0)
  refine wl_k rfl (fun K hK => ?_); go_simp; refine hK _ ?_; clear hK K
  refine wl_k rfl (fun K hK => ?_); go_simp; refine hK _ ?_; clear hK K
  refine wl_k rfl (fun K hK => ?_); go_simp; refine hK _ ?_; clear hK K
  ((with_reducible apply wl_oneG); exact rfl; exact rfl; exact one3 x2)
  refine wl_k rfl (fun K hK => ?_); go_simp; refine hK _ ?_; clear hK K
  ((with_reducible apply wl_oneG); exact rfl; exact rfl; exact one3 y2)
  refine wl_k rfl (fun K hK => ?_); go_simp; refine hK _ ?_; clear hK K
  refine wl_k rfl (fun K hK => ?_); go_simp; refine hK _ ?_; clear hK K
  refine wl_k rfl (fun K hK => ?_); go_simp; refine hK _ ?_; clear hK K
  refine wl_k rfl (fun K hK => ?_); go_simp; refine hK _ ?_; clear hK K
  ((with_reducible apply wl_oneG); exact rfl; exact rfl; exact one29 x1)
  refine wl_k rfl (fun K hK => ?_); go_simp; refine hK _ ?_; clear hK K
  ((with_reducible apply wl_oneG); exact rfl; exact rfl; exact one29 y1)
  refine wl_ck rfl (fun K hK => ?_); go_simp; refine ⟨_, _, ⟨rfl, rfl⟩, hK _ _ ⟨_, HES.out, ?_⟩⟩; clear hK K; rintro e w3 ⟨rfl, hb1⟩; refine ⟨_, rfl, ?_⟩; simp only [put_lit, List.set_cons_zero, List.set_cons_succ]
  replace x3 := below_cell hb1 x3
  replace y3 := below_cell hb1 y3
  replace hb := hb.trans (hb1.mono hb.size)
  have HEP := Lib.hid (EqPairs_refl A2 A4 c2 c4 P hp _ (H2.out.below hb) (H4.out.below hb))
  clear hb1 HES
  refine wl_k rfl (fun K hK => ?_); go_simp; refine hK _ ?_; clear hK K
  refine wl_k rfl (fun K hK => ?_); go_simp; refine hK _ ?_; clear hK K
  refine wl_k rfl (fun K hK => ?_); go_simp; refine hK _ ?_; clear hK K
  ((with_reducible apply wl_oneG); exact rfl; exact rfl; exact one30 x3)
  refine wl_k rfl (fun K hK => ?_); go_simp; refine hK _ ?_; clear hK K
  ((with_reducible apply wl_oneG); exact rfl; exact rfl; exact one30 y3)
  refine wl_ck rfl (fun K hK => ?_); go_simp; refine ⟨_, _, ⟨rfl, rfl⟩, hK _ _ ⟨_, HEP.out, ?_⟩⟩; clear hK K; rintro e w4 ⟨rfl, hb1⟩; refine ⟨_, rfl, ?_⟩; simp only [put_lit, List.set_cons_zero, List.set_cons_succ]
  replace hb := hb.trans (hb1.mono hb.size)
  clear hb1 HEP
  go_wp2_with fail
  go_ret
  exact ⟨rfl, hb⟩
end Go.Proofs.Ytbhdgeoljlhmcaa
