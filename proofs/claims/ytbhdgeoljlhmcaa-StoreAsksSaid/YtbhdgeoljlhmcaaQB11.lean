/- Lists of texts, lists of entries and items compared, by the document's helpers. A script played, by the program: the walk. The law's own check of a copied array, by the program. -/
import Derived.Outline
import Derived.Test.YtbhdgeoljlhmcaaQB10
import Derived.Test.YtbhdgeoljlhmcaaQB9
namespace Go.Proofs.Ytbhdgeoljlhmcaa
open Go.RowKit Go.Proofs.Ytbhdgeoljlhmcaa.Nm Go.Proofs.Ytbhdgeoljlhmcaa.St
set_option linter.unusedSimpArgs false
set_option maxHeartbeats 2000000 in
set_option maxRecDepth 100000 in
theorem EqStrings_any (A1 A2 : Option Addr) (n1 n2 c1 c2 : Nat) (l1 l2 : List ByteArray) (hn1 : n1 ≤ 1000000) (w : World) (h1 : StrAt w A1 n1 c1 l1) (h2 : StrAt w A2 n2 c2 l2) :
    Calls Try.prog 27 #[.slice A1 n1 c1, .slice A2 n2 c2] w fun e w' => e = .returned (.bool (decide (l1 = l2))) ∧ Below w.heap.size w w' := by
  have H1 := Lib.hid h1
  have H2 := Lib.hid h2
  clear h1 h2
  by_cases hn : n1 = n2
  · subst hn
    go_enter Try.func27, Try.ntmps27
    go_wp2_with fail
    go_loopw [5] (fun i wr => ∃ j : Nat, j ≤ n1 ∧ i = .int .i64 (j : Int) ∧ Hid (l1.take j = l2.take j) ∧ Below w.heap.size w wr) (fun i _ => n1 - (intOf i).toNat)
    case atStart => exact ⟨0, by omega, rfl, Lib.hid (by simp), Below.refl _ _⟩
    case round =>
      obtain ⟨j, hj, rfl, HT, hb⟩ := hrel
      by_cases hlt : j < n1
      · obtain ⟨a, ha⟩ : ∃ a, l1[j]? = some a := ⟨_, List.getElem?_eq_getElem (by rw [H1.out.1]; exact hlt)⟩
        obtain ⟨b, hb2⟩ : ∃ b, l2[j]? = some b := ⟨_, List.getElem?_eq_getElem (by rw [H2.out.1]; exact hlt)⟩
        obtain ⟨ad1, rfl, hca⟩ := H1.out.cell ha
        obtain ⟨ad2, rfl, hcb⟩ := H2.out.cell hb2
        have HCA := Lib.hid hca
        have HCB := Lib.hid hcb
        have HA := Lib.hid ha
        have HB := Lib.hid hb2
        have hltI : (j : Int) < (n1 : Int) := by omega
        clear hca hcb ha hb2
        go_upto_region 6 with (fail)
        refine wp_region_held_drew (S := Below w.heap.size w) mixed hb.drew (fun hS => ?_)
        refine hk3 (i := 0) rfl (by kernel_rfl) Zh hS rfl (fun K hK => ?_); go_simp; refine hK _ ?_; clear hK K; try simp only [Zq]
        refine hk3 (i := 1) rfl (by kernel_rfl) Zh hS rfl (fun K hK => ?_); go_simp; refine hK _ ?_; clear hK K; try simp only [Zq]
        (refine hv3 (i := 2) rfl (by kernel_rfl) Zg hS rfl (fun w' _ => ex_ixS (j := j) _ _ rfl rfl rfl hlt) ?_; try simp only [Zq])
        (refine hv3 (i := 3) rfl (by kernel_rfl) Zg hS rfl (fun w' hw' => ex_one rfl (one9 (below_cell hw' HCA.out))) ?_; try simp only [Zq])
        refine hk3 (i := 4) rfl (by kernel_rfl) Zh hS rfl (fun K hK => ?_); go_simp; refine hK _ ?_; clear hK K; try simp only [Zq]
        refine hk3 (i := 5) rfl (by kernel_rfl) Zh hS rfl (fun K hK => ?_); go_simp; refine hK _ ?_; clear hK K; try simp only [Zq]
        (refine hv3 (i := 6) rfl (by kernel_rfl) Zg hS rfl (fun w' _ => ex_ixS (j := j) _ _ rfl rfl rfl hlt) ?_; try simp only [Zq])
        (refine hv3 (i := 7) rfl (by kernel_rfl) Zg hS rfl (fun w' hw' => ex_one rfl (one9 (below_cell hw' HCB.out))) ?_; try simp only [Zq])
        refine hk3 (i := 8) rfl (by kernel_rfl) Zh hS rfl (fun K hK => ?_); go_simp; refine hK _ ?_; clear hK K; try simp only [Zq]
        refine wpAnyH_done (by kernel_rfl) ?_ _
        rw [show (a.toList == b.toList) = decide (a = b) by rw [← Bool.coe_iff_coe]; simp only [decide_eq_true_eq, beq_iff_eq]; rw [ByteArray.toList_eq, ByteArray.toList_eq]; exact ⟨fun e => ByteArray.ext (Array.toList_inj.1 e), fun e => by rw [e]⟩]
        clear hb
        by_cases e : a = b
        · rw [decide_eq_true e]
          go_wp2_with fail
          go_roundw
          case rel => exact ⟨j + 1, by omega, by go_num, Lib.hid (by rw [List.take_add_one, List.take_add_one, HA.out, HB.out, HT.out, e]), hS⟩
          case measure => simp [intOf]; omega
        · rw [decide_eq_false e]
          have HN : Hid (decide (l1 = l2) = false) := Lib.hid (decide_eq_false (fun h => e (by have h1 := HA.out; rw [h, HB.out] at h1; cases h1; rfl)))
          go_wp2_with fail
          go_ret
          exact ⟨by rw [HN.out]; rfl, hS⟩
      · obtain rfl : j = n1 := by omega
        have HN : Hid (decide (l1 = l2) = true) := Lib.hid (decide_eq_true (by have h := HT.out; rw [List.take_of_length_le (by rw [H1.out.1]; exact Nat.le_refl _), List.take_of_length_le (by rw [H2.out.1]; exact Nat.le_refl _)] at h; exact h))
        go_wp2_with fail
        go_ret
        exact ⟨by rw [HN.out]; rfl, hb⟩
  · have hnI : ¬ (n1 : Int) = (n2 : Int) := by omega
    have hd : ((n1 : Int) == (n2 : Int)) = false := by simpa using hnI
    have HN : Hid (decide (l1 = l2) = false) := Lib.hid (decide_eq_false (fun h => hn (by rw [← H1.out.1, ← H2.out.1, h])))
    go_enter Try.func27, Try.ntmps27
    go_wp2_with fail
    go_ret
    exact ⟨by rw [HN.out]; rfl, Below.refl _ _⟩
/-- entries in memory -/
def PrAt (w : World) (A : Option Addr) (n : Nat) (l : List (ByteArray × Int)) : Prop := l.length = n ∧ ∀ (i : Nat) (k : ByteArray) (v : Int), l[i]? = some (k, v) → ∃ (q : Nat) (Cs : Array Value) (t : TypeId) (fr : Nat × Nat), A = some ⟨q, 0, none⟩ ∧ w.heap[q]? = some (.cells Cs t fr) ∧ Cs.extract (i * 2) (i * 2 + 2) = pair k v
theorem PrAt.below {w w' : World} {A : Option Addr} {n : Nat} {l : List (ByteArray × Int)} (h : PrAt w A n l) (hb : Below w.heap.size w w') : PrAt w' A n l :=
  ⟨h.1, fun i k v hi => by obtain ⟨q, Cs, t, fr, h1, h2, h3⟩ := h.2 i k v hi; exact ⟨q, Cs, t, fr, h1, below_look hb h2, h3⟩⟩
theorem PrAt.row {w : World} {q n : Nat} {l : List (ByteArray × Int)} (h : PrAt w (some ⟨q, 0, none⟩) n l) {i : Nat} {k : ByteArray} {v : Int} (hi : l[i]? = some (k, v)) : RowAt w 91 ⟨q, i * 2, none⟩ (pair k v) := by
  obtain ⟨q', Cs, t, fr, h1, h2, h3⟩ := h.2 i k v hi
  cases h1
  exact row_mid h2 h3 u91 rfl rfl info91
theorem PrAt.addr {w : World} {A : Option Addr} {n : Nat} {l : List (ByteArray × Int)} (h : PrAt w A n l) {i : Nat} (hi : i < n) : ∃ q, A = some ⟨q, 0, none⟩ := by
  obtain ⟨q, _, _, _, h1, _⟩ := h.2 i _ _ (List.getElem?_eq_getElem (show i < l.length by rw [h.1]; exact hi))
  exact ⟨q, h1⟩
theorem own_prAt {w : World} {B n : Nat} {v : Value} {l : List (ByteArray × Int)} (h : w.ownsRow B 91 2 v n (prow l)) (hl : l.length = n) : ∃ A c, v = .slice A n c ∧ PrAt w A n l := by
  rcases h.2 with ⟨rfl, h0⟩ | ⟨q, cap, cur, rfl, hB, hg, h1, h2, h3, h4⟩
  · subst h0
    obtain rfl := List.length_eq_zero_iff.1 hl
    exact ⟨none, 0, rfl, rfl, fun i k x hi => by simp at hi⟩
  · refine ⟨_, cap, rfl, hl, fun i k x hi => ⟨q, cur, 91, (0, 0), rfl, hg, ?_⟩⟩
    have hil := (List.getElem?_eq_some_iff.1 hi).1
    obtain ⟨g0, g1⟩ := prow_get hi
    have key : ∀ i u, (prow l)[i]? = some u → i < n * 2 → cur[i]? = some u := fun i u hq hl => by
      rw [← h4, List.getElem?_take_of_lt hl] at hq; simpa using hq
    exact extract2 (key _ _ g0 (by omega)) (key _ _ g1 (by omega))
theorem fields91 : (Try.prog.fieldsOf 91).toList.map (fun f => (decide (f.name = "_"), f.type, f.offset)) = [(false, 9, 0), (false, 3, 1)] := by kernel_rfl
theorem held91 : Try.prog.stoodInHeld 91 = false := by kernel_rfl
theorem part91_0 (w : World) (k : ByteArray) (v : Int) : (part 9 (pair k v) 0).run Try.prog w = .ok (.string k) w := run_part_plain w (by kernel_rfl) rfl
theorem part91_1 (w : World) (k : ByteArray) (v : Int) : (part 3 (pair k v) 1).run Try.prog w = .ok (.int .i64 v) w := run_part_plain w (by kernel_rfl) rfl
theorem run_eq91 (k k' : ByteArray) (v v' : Int) (w : World) : (Op.equalIn 10000 91 (.agg (pair k v)) (.agg (pair k' v'))).run Try.prog w = .ok (decide (k = k' ∧ v = v')) w := by
  rw [run_equalIn_struct w 9999 91 _ _ u91 held91]
  have hl := fields91
  generalize (Try.prog.fieldsOf 91).toList = l at *
  obtain ⟨f0, f1, rfl⟩ : ∃ f0 f1, l = [f0, f1] := by
    have := congrArg List.length hl
    simp only [List.length_map, List.length_cons, List.length_nil] at this
    obtain ⟨f0, l, rfl⟩ := List.exists_cons_of_length_eq_add_one this
    obtain ⟨f1, l, rfl⟩ := List.exists_cons_of_length_eq_add_one (by simpa using this : l.length = 0 + 1)
    have : l = [] := by simpa using this
    exact ⟨f0, f1, by rw [this]⟩
  · simp only [List.map_cons, List.map_nil, List.cons.injEq, Prod.mk.injEq, and_true, decide_eq_false_iff_not] at hl
    obtain ⟨⟨n0, t0, o0⟩, n1, t1, o1⟩ := hl
    simp only [Op.eqFields, n0, t0, o0, n1, t1, o1, Sem.run_bind, part91_0, part91_1, Result.andThen_ok, run_equalIn_string w 9998 9 _ _ u9, run_equalIn_int w 9998 3 .i64 .i64 _ _ u3d, Sem.run_ite, Sem.run_pure, ne_eq, not_false_eq_true, if_true, ba_beq]
    by_cases e : k = k'
    · by_cases e2 : v = v'
      · simp [e, e2]
      · have : (v == v') = false := by simpa using e2
        simp [e, e2, this]
    · simp [e]
theorem guard91 : Try.prog.eqGuardType Try.prog.depth 91 = false := by kernel_rfl
theorem ex_neq91 {ev : Operand → Value} {o : Oper} {w : World} (x y : Operand) (yt : TypeId) (ho : o.op = .binOp .neq 91 x y yt) {k k' : ByteArray} {v v' : Int} (hx : ev x = .agg (pair k v)) (hy : ev y = .agg (pair k' v')) :
    (execOp ev o).run Try.prog w = .ok (.value (.bool (!decide (k = k' ∧ v = v')))) w := by
  unfold execOp
  simp only [ho, hx, hy, Sem.run_bind, run_eqGuard_agg w .neq 91 x y _ _ guard91, run_neq_struct, run_eq91, Result.andThen_ok]
  rfl
set_option maxHeartbeats 2000000 in
set_option maxRecDepth 100000 in
theorem EqPairs_any (A1 A2 : Option Addr) (n1 n2 c1 c2 : Nat) (l1 l2 : List (ByteArray × Int)) (hn1 : n1 ≤ 1000000) (w : World) (h1 : PrAt w A1 n1 l1) (h2 : PrAt w A2 n2 l2) :
    Calls Try.prog 49 #[.slice A1 n1 c1, .slice A2 n2 c2] w fun e w' => e = .returned (.bool (decide (l1 = l2))) ∧ Below w.heap.size w w' := by
  have H1 := Lib.hid h1
  have H2 := Lib.hid h2
  clear h1 h2
  by_cases hn : n1 = n2
  · subst hn
    go_enter Try.func49, Try.ntmps49
    go_wp2_with fail
    go_loopw [5] (fun i wr => ∃ j : Nat, j ≤ n1 ∧ i = .int .i64 (j : Int) ∧ Hid (l1.take j = l2.take j) ∧ Below w.heap.size w wr) (fun i _ => n1 - (intOf i).toNat)
    case atStart => exact ⟨0, by omega, rfl, Lib.hid (by simp), Below.refl _ _⟩
    case round =>
      obtain ⟨j, hj, rfl, HT, hb⟩ := hrel
      by_cases hlt : j < n1
      · obtain ⟨⟨a, x⟩, ha⟩ : ∃ a, l1[j]? = some a := ⟨_, List.getElem?_eq_getElem (by rw [H1.out.1]; exact hlt)⟩
        obtain ⟨⟨b, y⟩, hb2⟩ : ∃ b, l2[j]? = some b := ⟨_, List.getElem?_eq_getElem (by rw [H2.out.1]; exact hlt)⟩
        obtain ⟨q1, rfl⟩ := H1.out.addr hlt
        obtain ⟨q2, rfl⟩ := H2.out.addr hlt
        have HA := Lib.hid ha
        have HB := Lib.hid hb2
        have hltI : (j : Int) < (n1 : Int) := by omega
        clear ha hb2
        go_upto_region 6 with (fail)
        refine wp_region_held_drew (S := Below w.heap.size w) mixed hb.drew (fun hS => ?_)
        refine hk3 (i := 0) rfl (by kernel_rfl) Zh hS rfl (fun K hK => ?_); go_simp; refine hK _ ?_; clear hK K; try simp only [Zq]
        refine hk3 (i := 1) rfl (by kernel_rfl) Zh hS rfl (fun K hK => ?_); go_simp; refine hK _ ?_; clear hK K; try simp only [Zq]
        refine hk3 (i := 2) rfl (by kernel_rfl) Zh hS rfl (fun K hK => ?_); go_simp; refine hK _ ?_; clear hK K; try simp only [Zq]
        (refine hv3 (i := 3) rfl (by kernel_rfl) Zg hS rfl (fun w' hw' => ex_row rfl ((H1.out.below hw').row HA.out)) ?_; try simp only [Zq])
        refine hk3 (i := 4) rfl (by kernel_rfl) Zh hS rfl (fun K hK => ?_); go_simp; refine hK _ ?_; clear hK K; try simp only [Zq]
        refine hk3 (i := 5) rfl (by kernel_rfl) Zh hS rfl (fun K hK => ?_); go_simp; refine hK _ ?_; clear hK K; try simp only [Zq]
        refine hk3 (i := 6) rfl (by kernel_rfl) Zh hS rfl (fun K hK => ?_); go_simp; refine hK _ ?_; clear hK K; try simp only [Zq]
        (refine hv3 (i := 7) rfl (by kernel_rfl) Zg hS rfl (fun w' hw' => ex_row rfl ((H2.out.below hw').row HB.out)) ?_; try simp only [Zq])
        (refine hv3 (i := 8) rfl (by kernel_rfl) Zg hS rfl (fun w' hw' => ex_neq91 _ _ 91 rfl rfl rfl) ?_; try simp only [Zq])
        refine wpAnyH_done (by kernel_rfl) ?_ _
        clear hb
        by_cases e : a = b ∧ x = y
        · rw [decide_eq_true e]
          go_wp2_with fail
          go_roundw
          case rel => exact ⟨j + 1, by omega, by go_num, Lib.hid (by rw [List.take_add_one, List.take_add_one, HA.out, HB.out, HT.out, e.1, e.2]), hS⟩
          case measure => simp [intOf]; omega
        · rw [decide_eq_false e]
          have HN : Hid (decide (l1 = l2) = false) := Lib.hid (decide_eq_false (fun h => e (by have h1 := HA.out; rw [h, HB.out] at h1; cases h1; exact ⟨rfl, rfl⟩)))
          go_wp2_with fail
          go_ret
          exact ⟨by rw [HN.out]; rfl, hS⟩
      · obtain rfl : j = n1 := by omega
        have HN : Hid (decide (l1 = l2) = true) := Lib.hid (decide_eq_true (by have h := HT.out; rw [List.take_of_length_le (by rw [H1.out.1]; exact Nat.le_refl _), List.take_of_length_le (by rw [H2.out.1]; exact Nat.le_refl _)] at h; exact h))
        go_wp2_with fail
        go_ret
        exact ⟨by rw [HN.out]; rfl, hb⟩
  · have hnI : ¬ (n1 : Int) = (n2 : Int) := by omega
    have hd : ((n1 : Int) == (n2 : Int)) = false := by simpa using hnI
    have HN : Hid (decide (l1 = l2) = false) := Lib.hid (decide_eq_false (fun h => hn (by rw [← H1.out.1, ← H2.out.1, h])))
    go_enter Try.func49, Try.ntmps49
    go_wp2_with fail
    go_ret
    exact ⟨by rw [HN.out]; rfl, Below.refl _ _⟩
theorem EqStrings_refl (A1 A2 : Option Addr) (c1 c2 : Nat) (l : List ByteArray) (hn1 : l.length ≤ 1000000) (w : World) (h1 : StrAt w A1 l.length c1 l) (h2 : StrAt w A2 l.length c2 l) :
    Calls Try.prog 27 #[.slice A1 l.length c1, .slice A2 l.length c2] w fun e w' => e = .returned (.bool true) ∧ Below w.heap.size w w' := by
  have h := EqStrings_any A1 A2 l.length l.length c1 c2 l l hn1 w h1 h2
  rwa [decide_eq_true rfl] at h
theorem EqPairs_refl (A1 A2 : Option Addr) (c1 c2 : Nat) (l : List (ByteArray × Int)) (hn1 : l.length ≤ 1000000) (w : World) (h1 : PrAt w A1 l.length l) (h2 : PrAt w A2 l.length l) :
    Calls Try.prog 49 #[.slice A1 l.length c1, .slice A2 l.length c2] w fun e w' => e = .returned (.bool true) ∧ Below w.heap.size w w' := by
  have h := EqPairs_any A1 A2 l.length l.length c1 c2 l l hn1 w h1 h2
  rwa [decide_eq_true rfl] at h
theorem one30 {w : World} {ad : Addr} {v : Value} (h : w.cell? ad = some v) : OneAt w 30 ad v := one_of u30 rfl h
theorem ic_cell {w : World} {g : Nat} {kd seed : Int} {lv pv : Value} (h : w.heap[g]? = some (.cells (icells kd lv seed pv) 32 (0, 0))) :
    w.cell? ⟨g, 0, none⟩ = some (.int .i64 kd) ∧ w.cell? ⟨g, 1, none⟩ = some lv ∧ w.cell? ⟨g, 2, none⟩ = some (.int .i64 seed) ∧ w.cell? ⟨g, 3, none⟩ = some pv := by
  rw [cell_of_row _ _ _ _ _ _ h, cell_of_row _ _ _ _ _ _ h, cell_of_row _ _ _ _ _ _ h, cell_of_row _ _ _ _ _ _ h]
  exact ⟨rfl, rfl, rfl, rfl⟩
set_option maxHeartbeats 2000000 in
set_option maxRecDepth 100000 in

theorem EqItem_true (a b : Buf) (A1 : Option Addr) (c1 : Nat) (A2 : Option Addr) (c2 : Nat) (A3 : Option Addr) (c3 : Nat) (A4 : Option Addr) (c4 : Nat) (hl : a.l.length ≤ 1000000) (hp : (pairsT a.t).length ≤ 1000000) (w : World)
    (hkd : a.kd = b.kd) (hsd : a.seed = b.seed) (hel : a.l = b.l) (hep : pairsT a.t = pairsT b.t) (h1 : StrAt w A1 a.l.length c1 a.l) (h2 : PrAt w A2 (pairsT a.t).length (pairsT a.t)) (h3 : StrAt w A3 b.l.length c3 b.l) (h4 : PrAt w A4 (pairsT b.t).length (pairsT b.t)) :
    Calls Try.prog 16 #[.agg (icells a.kd (.slice A1 a.l.length c1) a.seed (.slice A2 (pairsT a.t).length c2)), .agg (icells b.kd (.slice A3 b.l.length c3) b.seed (.slice A4 (pairsT b.t).length c4))] w fun e w' => e = .returned (.bool true) ∧ Below w.heap.size w w' := by
  obtain ⟨kd, l, seed, t⟩ := a
  obtain ⟨kd', l', seed', t'⟩ := b
  simp only at hkd hsd hel hep h1 h2 h3 h4 hl hp ⊢
  subst hkd hsd hel
  rw [← hep] at h4 ⊢
  obtain ⟨P, hP⟩ : ∃ P, P = pairsT t := ⟨_, rfl⟩
  rw [← hP] at h2 h4 hp ⊢
  clear hep hP
  have H1 := Lib.hid h1
  have H2 := Lib.hid h2
  have H3 := Lib.hid h3
  have H4 := Lib.hid h4
  clear h1 h2 h3 h4
  go_enter Try.func16, Try.ntmps16
  go_upto_region 1 with (fail)
  have hb0 := (Below.refl w.heap.size w).alloc (Nat.le_refl _) (.cells (icells kd (.slice A1 l.length c1) seed (.slice A2 P.length c2)) 32)
  have hb1 := hb0.alloc (by simp) (.cells (icells kd (.slice A3 l.length c3) seed (.slice A4 P.length c4)) 32)
  refine wp_world (fun W => Below w.heap.size w W ∧ W.heap[w.heap.size]? = some (.cells (icells kd (.slice A1 l.length c1) seed (.slice A2 P.length c2)) 32 (0, 0)) ∧ W.heap[w.heap.size + 1]? = some (.cells (icells kd (.slice A3 l.length c3) seed (.slice A4 P.length c4)) 32 (0, 0))) ⟨hb1, ha_old (ha_new rfl), ha_new (by simp)⟩ ?_
  clear hb0 hb1
  rintro W ⟨hb, g1, g2⟩
  obtain ⟨x0, x1, x2, x3⟩ := ic_cell g1
  obtain ⟨y0, y1, y2, y3⟩ := ic_cell g2
  have HES := Lib.hid (EqStrings_refl A1 A3 c1 c3 l hl _ (H1.out.below hb) (H3.out.below hb))
  apply wp_region_lit
  refine wl_k rfl (fun K hK => ?_); go_simp; refine hK _ ?_; clear hK K
  ((with_reducible apply wl_oneG); exact rfl; exact rfl; exact one3 x0)
  refine wl_k rfl (fun K hK => ?_); go_simp; refine hK _ ?_; clear hK K
  ((with_reducible apply wl_oneG); exact rfl; exact rfl; exact one3 y0)
  iterate 3 (refine wl_k rfl (fun K hK => ?_); go_simp; refine hK _ ?_; clear hK K)
  ((with_reducible apply wl_oneG); exact rfl; exact rfl; exact one3 x2)
  refine wl_k rfl (fun K hK => ?_); go_simp; refine hK _ ?_; clear hK K
  ((with_reducible apply wl_oneG); exact rfl; exact rfl; exact one3 y2)
  iterate 4 (refine wl_k rfl (fun K hK => ?_); go_simp; refine hK _ ?_; clear hK K)
  ((with_reducible apply wl_oneG); exact rfl; exact rfl; exact one29 x1)
  refine wl_k rfl (fun K hK => ?_); go_simp; refine hK _ ?_; clear hK K
  ((with_reducible apply wl_oneG); exact rfl; exact rfl; exact one29 y1)
  refine wl_ck rfl (fun K hK => ?_); go_simp; refine ⟨_, _, ⟨rfl, rfl⟩, hK _ _ ⟨_, HES.out, ?_⟩⟩; clear hK K; rintro e w3 ⟨rfl, hb1⟩; refine ⟨_, rfl, ?_⟩; simp only [Zq]
  replace x3 := below_cell hb1 x3
  replace y3 := below_cell hb1 y3
  replace hb := hb.trans (hb1.mono hb.size)
  have HEP := Lib.hid (EqPairs_refl A2 A4 c2 c4 P hp _ (H2.out.below hb) (H4.out.below hb))
  clear hb1 HES
  iterate 3 (refine wl_k rfl (fun K hK => ?_); go_simp; refine hK _ ?_; clear hK K)
  ((with_reducible apply wl_oneG); exact rfl; exact rfl; exact one30 x3)
  refine wl_k rfl (fun K hK => ?_); go_simp; refine hK _ ?_; clear hK K
  ((with_reducible apply wl_oneG); exact rfl; exact rfl; exact one30 y3)
  refine wl_ck rfl (fun K hK => ?_); go_simp; refine ⟨_, _, ⟨rfl, rfl⟩, hK _ _ ⟨_, HEP.out, ?_⟩⟩; clear hK K; rintro e w4 ⟨rfl, hb1⟩; refine ⟨_, rfl, ?_⟩; simp only [Zq]
  replace hb := hb.trans (hb1.mono hb.size)
  clear hb1 HEP
  go_wp2_with fail
  go_ret
  exact ⟨rfl, hb⟩
def noOp : OpV := ⟨0, 0, 0, 0, 0, ⟨#[]⟩⟩
theorem ex_alloc39 {o : Oper} (ho : o.op = .alloc 39) (ev : Operand → Value) (w : World) : (execOp ev o).run Try.prog w = .ok (.value (.pointer (some ⟨w.heap.size, 0, none⟩))) (w.alloc (.cells noOp.cells 39)) := by
  unfold execOp
  simp only [ho]
  kernel_rfl
theorem op_one (o : OpV) : o.cells.all (·.oneCell') = true := by simp [OpV.cells, Value.oneCell']
/-- the blocks of a store are new since a world -/
def Since (B s : Nat) (rs : List Row) : Prop := ∀ q, Foot s rs q → B ≤ q
theorem Since.ran {B s : Nat} {rs rs' : List Row} {w w' : World} (h : Since B s rs) (hr : Ran s rs w rs' w') (hB : B ≤ w.heap.size) : Since B s rs' := fun q hq => (hr.foot q hq).elim (h q) (fun e => by omega)
theorem Ran.toBelow {B s : Nat} {rs rs' : List Row} {w w' : World} (hr : Ran s rs w rs' w') (h : Since B s rs) (hB : B ≤ w.heap.size) : Below B w w' :=
  ⟨hr.os, hr.tape, hr.output, hr.size, fun k hk => hr.block k (by omega) (fun hf => by have := h k hf; omega)⟩
theorem stA_step {l : List OpV} {j : Nat} {o : OpV} (h : l[j]? = some o) (hj : j < 200) : stA l (j + 1) = doA (stA l j) o ∧ errA l j = refA (stA l j) o := by
  constructor
  · show (match l[j]? with | none => stA l j | some o => if j < 200 then doA (stA l j) o else stA l j) = _
    rw [h]; simp only [if_pos hj]
  · unfold errA; rw [h]; simp only [if_pos hj]
theorem stA_stop {l : List OpV} {j : Nat} {o : OpV} (h : l[j]? = some o) (hj : ¬ j < 200) : stA l (j + 1) = stA l j ∧ errA l j = 2 := by
  constructor
  · show (match l[j]? with | none => stA l j | some o => if j < 200 then doA (stA l j) o else stA l j) = _
    rw [h]; simp only [if_neg hj]
  · unfold errA; rw [h]; simp only [if_neg hj]
theorem errs_snoc (l : List OpV) (j : Nat) : (List.range (j + 1)).map (errA l) = (List.range j).map (errA l) ++ [errA l j] := by rw [List.range_succ]; simp
set_option maxHeartbeats 4000000 in
set_option maxRecDepth 100000 in
theorem Play_any (A : Option Addr) (n c : Nat) (l : List OpV) (hn : n ≤ 1000) (w : World) (h : OpsAt w A n l) :
    Calls Try.prog 14 #[.slice A n c] w fun e w' => ∃ iv ev, e = .returned (.tuple #[iv, ev]) ∧ ItemsAt w' w.heap.size iv ((List.range 8).map fun (i : Nat) => (stA l n).buf (i : Int)) ∧ w'.ownsRow w.heap.size 33 1 ev n (ints ((List.range n).map (errA l))) ∧ Below w.heap.size w w' := by
  have HO := Lib.hid h
  clear h
  go_enter Try.func14, Try.ntmps14
  go_upto_region 1 with (fail)
  apply wp_region_lit
  refine wl_ck rfl (fun K hK => ?_); go_simp; refine ⟨_, _, ⟨rfl, rfl⟩, hK _ _ ⟨_, New_any _, ?_⟩⟩; clear hK K; rintro e w1 ⟨rfl, hst, hb1⟩; refine ⟨_, rfl, ?_⟩; simp only [Zq]
  have HS := Lib.hid hst
  have hsin : Since w.heap.size w.heap.size [] := fun q hq => by
    rcases hq with rfl | ⟨k, r, hr, _⟩
    · exact Nat.le_refl _
    · simp at hr
  obtain ⟨s, hs⟩ : ∃ s, s = w.heap.size := ⟨_, rfl⟩
  rw [← hs] at HS ⊢
  rw [show Since w.heap.size w.heap.size [] = Since w.heap.size s [] by rw [hs]] at hsin
  clear hst hs
  go_wp2_with fail
  have hpre : Hid (w1.ownsRow w.heap.size 33 1 (.slice none 0 0) 0 (ints ((List.range 0).map (errA l)))) := Lib.hid (own_nil _ _ _ _)
  have hcp : Hid (Clear s [] (.slice none 0 0)) := Lib.hid (fun q hq => by simp [Value.ownBlock] at hq)
  have HSI := Lib.hid hsin
  clear hsin
  go_loopw [5, 16] (fun ev i wr => ∃ (j : Nat) (rs : List Row), j ≤ n ∧ i = .int .i64 (j : Int) ∧ Hid (wr.ownsRow w.heap.size 33 1 ev j (ints ((List.range j).map (errA l)))) ∧ Hid (Clear s rs ev) ∧ Hid (StoreAt wr s (stA l j) rs) ∧ Hid (Since w.heap.size s rs) ∧ Below w.heap.size w wr) (fun _ i _ => n - (intOf i).toNat)
  case atStart => exact ⟨0, [], by omega, rfl, hpre, hcp, HS, HSI, hb1⟩
  case round =>
    clear hpre hcp HS HSI hb1
    obtain ⟨j, rs, hj, rfl, HE, HCL, HS, HSI, hbw⟩ := hrel
    by_cases hlt : j < n
    · have hltI : (j : Int) < (n : Int) := by omega
      obtain ⟨b, off, rfl⟩ := HO.out.addr hlt
      obtain ⟨o, ho⟩ : ∃ o, l[j]? = some o := ⟨_, List.getElem?_eq_getElem (by rw [HO.out.1]; exact hlt)⟩
      have HOJ := Lib.hid ho
      have HRO := Lib.hid ((HO.out.below hbw).row ho)
      clear ho
      go_upto_region 5 with (fail)
      apply wp_region_lit
      iterate 2 (refine wl_k rfl (fun K hK => ?_); go_simp; refine hK _ ?_; clear hK K)
      ((with_reducible apply wl_rowG); exact rfl; exact rfl; exact HRO.out)
      simp only [Zq]
      refine wl_new (fun ev w => ex_alloc39 rfl ev w) ?_
      intro W5 p5 hb5 hl5 h5
      refine wl_k rfl (fun K hK => ?_); go_simp; refine hK _ ?_; clear hK K
      refine wl_putG p5 o.cells rfl rfl 39 _ h5 info39 rfl (op_one _) ?_
      rw [put_noneA]
      have hbb := below_setRow hb5 (g := p5) hl5 o.cells
      replace HE := Lib.hid (own_below HE.out hbb)
      replace HS := Lib.hid (HS.out.below hbb)
      replace hbw := hbw.trans (hbb.mono hbw.size)
      have h5' := hr_new (cs := o.cells) h5
      clear hb5 h5 hbb HRO hl5
      generalize W5.setRow p5 o.cells = w6 at *
      by_cases h200 : (j : Int) < 200
      · have hd : decide ((j : Int) < 200) = true := by simpa using h200
        have HST := Lib.hid (stA_step HOJ.out (show j < 200 by omega))
        have hbd := stA_bound l j
        go_upto_region 8 with (fail)
        apply wp_region_lit
        refine wl_k rfl (fun K hK => ?_); go_simp; refine hK _ ?_; clear hK K
        ((with_reducible apply wl_rowG); exact rfl; exact rfl; exact rowO h5')
        simp only [Zq]
        have hz6 := hbw.size
        have hE6 := own_lt HE.out
        refine wl_ck rfl (fun K hK => ?_); go_simp; refine ⟨_, _, ⟨rfl, rfl⟩, hK _ _ ⟨_, Do_any s (stA l j) rs (stA_good l j) (by omega) hbd.2.1 (by omega) o _ HS.out, ?_⟩⟩; clear hK K; rintro e w7 ⟨rfl, rs2, hst2, hran⟩; refine ⟨_, rfl, ?_⟩; simp only [Zq]
        rw [← HST.out.2]
        rw [← HST.out.1] at hst2
        replace HS := Lib.hid hst2
        replace hbw := hbw.trans (hran.toBelow HSI.out hbw.size)
        have HSI2 := Lib.hid (HSI.out.ran hran hz6)
        replace HE := Lib.hid (own_ran HE.out HCL.out hran)
        replace HCL := Lib.hid (HCL.out.ran hE6 hran)
        clear hst2 hran h5' HST hbd hz6 hE6
        refine wl_k rfl (fun K hK => ?_); go_simp; refine hK _ ?_; clear hK K
        go_upto_region 9 with (fail)
        apply wp_region_lit
        iterate 2 (refine wl_k rfl (fun K hK => ?_); go_simp; refine hK _ ?_; clear hK K)
        obtain ⟨v', w', hr, hown, hgr, hloc⟩ := run_push25 (errA l j) 25 HE.out hbw.size (show j ≤ 1000000 by omega)
        refine wl_w rfl (ex_bs25_1 _ rfl rfl) ?_
        simp only [Zq]
        refine wl_w rfl (ex_app _ _ rfl rfl rfl hr) ?_
        simp only [Zq]
        have hal := (Below.refl w7.heap.size w7).alloc (Nat.le_refl _) (.cells #[.int .i64 (errA l j)] 33)
        have hsame : ∀ q, q < w7.heap.size → Foot s rs2 q → w'.heap[q]? = w7.heap[q]? := fun q hq hf => by
          rw [hgr.block q (Nat.lt_of_lt_of_le hq hal.size) (fun e => HCL.out q e.symm hf), hal.block q hq]
        have HS' := Lib.hid (HS.out.same hsame)
        have hcl' : Clear s rs2 v' := fun q hq hf => by
          rcases hloc with e | e
          · rw [e] at hq; exact HCL.out q hq hf
          · rw [e] at hq; cases hq; have := HS.out.lt hf; omega
        have hbw' := hbw.trans ((hal.mono hbw.size).grown hgr (by have := hal.size; have := hbw.size; omega) (fun q hq => (own_block HE.out hq).1))
        have HE' := Lib.hid hown
        have HCL' := Lib.hid hcl'
        clear hr hown hgr hloc hal hsame HE HCL HS hcl' hbw
        go_wp2_with fail
        go_roundw
        case rel => exact ⟨j + 1, rs2, by omega, by go_num, by rw [errs_snoc]; exact HE', HCL', HS', HSI2, hbw'⟩
        case measure => simp [intOf]; omega
      · have hd : decide ((j : Int) < 200) = false := by simpa using h200
        have HST := Lib.hid (stA_stop HOJ.out (show ¬ j < 200 by omega))
        rw [← HST.out.1] at HS
        clear h5'
        go_upto_region 9 with (fail)
        apply wp_region_lit
        iterate 2 (refine wl_k rfl (fun K hK => ?_); go_simp; refine hK _ ?_; clear hK K)
        obtain ⟨v', w', hr, hown, hgr, hloc⟩ := run_push25 2 25 HE.out hbw.size (show j ≤ 1000000 by omega)
        refine wl_w rfl (ex_bs25_1 _ rfl rfl) ?_
        simp only [Zq]
        refine wl_w rfl (ex_app _ _ rfl rfl rfl hr) ?_
        simp only [Zq]
        have hal := (Below.refl w6.heap.size w6).alloc (Nat.le_refl _) (.cells #[.int .i64 2] 33)
        have hsame : ∀ q, q < w6.heap.size → Foot s rs q → w'.heap[q]? = w6.heap[q]? := fun q hq hf => by
          rw [hgr.block q (Nat.lt_of_lt_of_le hq hal.size) (fun e => HCL.out q e.symm hf), hal.block q hq]
        have HS' := Lib.hid (HS.out.same hsame)
        have hcl' : Clear s rs v' := fun q hq hf => by
          rcases hloc with e | e
          · rw [e] at hq; exact HCL.out q hq hf
          · rw [e] at hq; cases hq; have := HS.out.lt hf; omega
        have hbw' := hbw.trans ((hal.mono hbw.size).grown hgr (by have := hal.size; have := hbw.size; omega) (fun q hq => (own_block HE.out hq).1))
        have HE' := Lib.hid hown
        have HCL' := Lib.hid hcl'
        clear hr hown hgr hloc hal hsame HE HCL HS hcl' hbw
        go_wp2_with fail
        go_roundw
        case rel => exact ⟨j + 1, rs, by omega, by go_num, by rw [errs_snoc, HST.out.2]; exact HE', HCL', HS', HSI, hbw'⟩
        case measure => simp [intOf]; omega
    · obtain rfl : j = n := by omega
      have HEF := Lib.hid HE.out
      clear HE HCL HSI
      go_wp2_with fail
      obtain ⟨W0, hW0⟩ : ∃ W0, W0 = wr := ⟨_, rfl⟩
      subst hW0
      have hpre2 := itemsAt_nil W0 W0.heap.size
      go_loopw [9, 31] (fun iv i wr2 => ∃ k : Nat, k ≤ 8 ∧ i = .int .i64 (k : Int) ∧ Hid (ItemsAt wr2 W0.heap.size iv ((List.range k).map fun (i : Nat) => (stA l j).buf (i : Int))) ∧ Hid (Below W0.heap.size W0 wr2)) (fun _ i _ => 8 - (intOf i).toNat)
      case atStart => exact ⟨0, by omega, rfl, Lib.hid hpre2, Lib.hid (Below.refl _ _)⟩
      case round =>
        clear hpre2
        obtain ⟨k, hk, rfl, HI, HB⟩ := hrel
        by_cases hlt2 : k < 8
        · have hk8 : (k : Int) < 8 := by omega
          have HS2 := Lib.hid (HS.out.below HB.out)
          have hzz := hbw.size
          have hzB := HB.out.size
          go_upto_region 15 with (fail)
          apply wp_region_lit
          iterate 2 (refine wl_k rfl (fun K hK => ?_); go_simp; refine hK _ ?_; clear hK K)
          refine wl_ck rfl (fun K hK => ?_); go_simp; refine ⟨_, _, ⟨rfl, rfl⟩, hK _ _ ⟨_, Item_yes s (stA l j) rs (stA_good l j) k hk8 _ HS2.out, ?_⟩⟩; clear hK K; rintro e w7 ⟨v, rfl, hit, hb1⟩; refine ⟨_, rfl, ?_⟩; simp only [Zq]
          obtain ⟨B1, d1, B2, d2, rfl, ho1, ho2⟩ := hit.shape
          replace HI := Lib.hid (HI.out.below hb1)
          replace HB := Lib.hid (HB.out.trans (hb1.mono HB.out.size))
          have HO1 := Lib.hid ho1
          have HO2 := Lib.hid ho2
          clear hit ho1 ho2 HS2
          iterate 3 (refine wl_k rfl (fun K hK => ?_); go_simp; refine hK _ ?_; clear hK K)
          refine wl_new (fun ev w => ex_alloc32 rfl ev w) ?_
          intro W5 p5 hb5 hl5 h5
          refine wl_putG p5 (icells ((stA l j).buf (k : Int)).kd (.slice B1 ((stA l j).buf (k : Int)).l.length d1) ((stA l j).buf (k : Int)).seed (.slice B2 (pairsT ((stA l j).buf (k : Int)).t).length d2)) rfl rfl 32 _ h5 info32 rfl (icells_one _ _ _ _ _ _ _ _) ?_
          rw [put_noneA]
          have hbb := below_setRow hb5 (g := p5) hl5 (icells ((stA l j).buf (k : Int)).kd (.slice B1 ((stA l j).buf (k : Int)).l.length d1) ((stA l j).buf (k : Int)).seed (.slice B2 (pairsT ((stA l j).buf (k : Int)).t).length d2))
          have hz8 := hb1.size
          replace HI := Lib.hid (HI.out.below hbb)
          replace HB := Lib.hid (HB.out.trans (hbb.mono HB.out.size))
          replace HO1 := Lib.hid (own_weak (own_below HO1.out hbb) hzB)
          replace HO2 := Lib.hid (own_weak (own_below HO2.out hbb) hzB)
          have h5' := hr_new (cs := icells ((stA l j).buf (k : Int)).kd (.slice B1 ((stA l j).buf (k : Int)).l.length d1) ((stA l j).buf (k : Int)).seed (.slice B2 (pairsT ((stA l j).buf (k : Int)).t).length d2)) h5
          clear hb5 h5 hbb hl5 hb1
          generalize W5.setRow p5 (icells ((stA l j).buf (k : Int)).kd (.slice B1 ((stA l j).buf (k : Int)).l.length d1) ((stA l j).buf (k : Int)).seed (.slice B2 (pairsT ((stA l j).buf (k : Int)).t).length d2)) = w8 at *
          refine wl_k rfl (fun K hK => ?_); go_simp; refine hK _ ?_; clear hK K
          go_upto_region 16 with (fail)
          apply wp_region_lit
          refine wl_k rfl (fun K hK => ?_); go_simp; refine hK _ ?_; clear hK K
          ((with_reducible apply wl_rowG); exact rfl; exact rfl; exact rowIt h5')
          simp only [Zq]
          obtain ⟨v', w', hr, hits, hbI⟩ := run_push24 24 HI.out HB.out.size (by simp; omega) HO1.out HO2.out
          refine wl_w rfl (ex_bs24_1 _ rfl rfl) ?_
          simp only [Zq]
          refine wl_w rfl (ex_app _ _ rfl rfl rfl hr) ?_
          simp only [Zq]
          have hsn : (List.range (k + 1)).map (fun (i : Nat) => (stA l j).buf (i : Int)) = (List.range k).map (fun (i : Nat) => (stA l j).buf (i : Int)) ++ [(stA l j).buf (k : Int)] := by rw [List.range_succ]; simp
          rw [← hsn] at hits
          have HITS := Lib.hid hits
          have HBN := Lib.hid (HB.out.trans hbI)
          clear hr hits hsn h5' HO1 HO2 HI hbI HB hzz hzB hz8
          go_wp2_with fail
          go_roundw
          case rel => exact ⟨k + 1, by omega, by go_num, HITS, HBN⟩
          case measure => simp [intOf]; omega
        · obtain rfl : k = 8 := by omega
          have HEF2 := Lib.hid (own_below HEF.out HB.out)
          have HBF := Lib.hid (hbw.trans (HB.out.mono hbw.size))
          have HIF := Lib.hid (HI.out.weak hbw.size)
          clear HI HB HEF HS hbw
          go_wp2_with fail
          go_ret2
          exact ⟨_, _, rfl, HIF.out, HEF2.out, HBF.out⟩
theorem itRow_get {b : Buf} {p : Value × Value} : ∀ {bs : List Buf} {ps : List (Value × Value)} {i : Nat}, bs[i]? = some b → ps[i]? = some p →
    (itRow bs ps)[i * 4]? = some (.int .i64 b.kd) ∧ (itRow bs ps)[i * 4 + 1]? = some p.1 ∧ (itRow bs ps)[i * 4 + 2]? = some (.int .i64 b.seed) ∧ (itRow bs ps)[i * 4 + 3]? = some p.2
  | [], _, i, h, _ => by simp at h
  | x :: bs, [], i, _, h => by simp at h
  | x :: bs, y :: ps, 0, h, h2 => by
    simp at h h2; subst h h2
    exact ⟨rfl, rfl, rfl, rfl⟩
  | x :: bs, y :: ps, i + 1, h, h2 => by
    have ih := itRow_get (bs := bs) (ps := ps) (i := i) (by simpa using h) (by simpa using h2)
    have e : ∀ n, (itRow (x :: bs) (y :: ps))[n + 4]? = (itRow bs ps)[n]? := fun n => rfl
    rw [show (i + 1) * 4 = i * 4 + 4 by omega, show i * 4 + 4 + 1 = i * 4 + 1 + 4 by omega, show i * 4 + 4 + 2 = i * 4 + 2 + 4 by omega, show i * 4 + 4 + 3 = i * 4 + 3 + 4 by omega, e, e, e, e]
    exact ih
/-- one item of a list of items -/
theorem ItemsAt.get {w : World} {B : Nat} {v : Value} {bs : List Buf} (h : ItemsAt w B v bs) (hn : 1 ≤ bs.length) : ∃ q cap, v = .slice (some ⟨q, 0, none⟩) bs.length cap ∧ B ≤ q ∧ bs.length ≤ cap ∧ ∀ (i : Nat) (b : Buf), bs[i]? = some b → ∃ lv pv,
    RowAt w 32 ⟨q, i * 4, none⟩ (icells b.kd lv b.seed pv) ∧ w.cell? ⟨q, i * 4, none⟩ = some (.int .i64 b.kd) ∧ w.cell? ⟨q, i * 4 + 1, none⟩ = some lv ∧ w.cell? ⟨q, i * 4 + 2, none⟩ = some (.int .i64 b.seed) ∧ w.cell? ⟨q, i * 4 + 3, none⟩ = some pv ∧
    w.ownsRow B 9 1 lv b.l.length (strs b.l) ∧ w.ownsRow B 91 2 pv (pairsT b.t).length (prow (pairsT b.t)) := by
  obtain ⟨ps, hps, hr, hall⟩ := h
  rcases hr.2 with ⟨_, h0⟩ | ⟨q, cap, cur, hv, hB, hg, h1, h2, h3, h4⟩
  · omega
  · refine ⟨q, cap, hv, hB, h1, fun i b hi => ?_⟩
    have hil := (List.getElem?_eq_some_iff.1 hi).1
    obtain ⟨p, hp⟩ : ∃ p, ps[i]? = some p := ⟨_, List.getElem?_eq_getElem (by omega)⟩
    obtain ⟨g0, g1, g2, g3⟩ := itRow_get hi hp
    have key : ∀ x u, x < bs.length * 4 → (itRow bs ps)[x]? = some u → cur[x]? = some u := fun x u hx hu => by
      rw [← h4, List.getElem?_take_of_lt hx] at hu; simpa using hu
    have k0 := key _ _ (by omega) g0
    have k1 := key _ _ (by omega) g1
    have k2 := key _ _ (by omega) g2
    have k3 := key _ _ (by omega) g3
    refine ⟨p.1, p.2, row_mid hg (D := icells b.kd p.1 b.seed p.2) (n := 4) ?_ u32 rfl rfl info32, ?_, ?_, ?_, ?_, hall i b p hi hp⟩
    · have hz : i * 4 + 4 ≤ cur.size := by omega
      apply Array.ext
      · simp [icells]; omega
      · intro j hj1 hj2
        have hj : j = 0 ∨ j = 1 ∨ j = 2 ∨ j = 3 := by simp [icells] at hj2; omega
        rw [Array.getElem_extract]
        rcases hj with rfl | rfl | rfl | rfl
        · have := (Array.getElem?_eq_some_iff.1 k0).2; simpa [icells] using this
        · have := (Array.getElem?_eq_some_iff.1 k1).2; simpa [icells] using this
        · have := (Array.getElem?_eq_some_iff.1 k2).2; simpa [icells] using this
        · have := (Array.getElem?_eq_some_iff.1 k3).2; simpa [icells] using this
    · rw [cell_of_row _ _ _ _ _ _ hg]; exact k0
    · rw [cell_of_row _ _ _ _ _ _ hg]; exact k1
    · rw [cell_of_row _ _ _ _ _ _ hg]; exact k2
    · rw [cell_of_row _ _ _ _ _ _ hg]; exact k3
def aw1 : OpV := ⟨1, 0, 0, 0, 0, ⟨#[]⟩⟩
def aw2 : OpV := ⟨3, 0, 0, 0, 0, ⟨#[97]⟩⟩
def aw3 : OpV := ⟨2, 0, 1, 0, 0, ⟨#[]⟩⟩
def aw4 : OpV := ⟨3, 1, 0, 0, 0, ⟨#[98]⟩⟩
def awL : List OpV := [aw1, aw2, aw3, aw4]
theorem aw_b1 : Try.prog.built 39 [(0, .int .i64 1)] = some aw1.cells := by kernel_rfl
theorem aw_b2 : Try.prog.built 39 [(0, .int .i64 3), (5, .string ⟨#[97]⟩)] = some aw2.cells := by kernel_rfl
theorem aw_b3 : Try.prog.built 39 [(0, .int .i64 2), (2, .int .i64 1)] = some aw3.cells := by kernel_rfl
theorem aw_b4 : Try.prog.built 39 [(0, .int .i64 3), (1, .int .i64 1), (5, .string ⟨#[98]⟩)] = some aw4.cells := by kernel_rfl
def awC : Array Value := aw1.cells ++ aw2.cells ++ aw3.cells ++ aw4.cells
theorem run_aw (w : World) : (Instr.buildSlice 22 4 #[(0, .agg aw1.cells), (1, .agg aw2.cells), (2, .agg aw3.cells), (3, .agg aw4.cells)]).run Try.prog w = .ok (.slice (some ⟨w.heap.size, 0, none⟩) 4 4) (w.alloc (.cells awC 39)) := by kernel_rfl
theorem ex_aw {ev : Operand → Value} {o : Oper} {w : World} (x y z t : Operand) (ho : o.op = .buildSlice 22 4 #[(0, x), (1, y), (2, z), (3, t)]) (hx : ev x = .agg aw1.cells) (hy : ev y = .agg aw2.cells) (hz : ev z = .agg aw3.cells) (ht : ev t = .agg aw4.cells) :
    (execOp ev o).run Try.prog w = .ok (.value (.slice (some ⟨w.heap.size, 0, none⟩) 4 4)) (w.alloc (.cells awC 39)) := by
  unfold execOp
  simp only [ho, List.map_toArray, List.map_cons, List.map_nil, hx, hy, hz, ht, run_aw w, Sem.run_bind, Result.andThen_ok]
  rfl
theorem aw_ops {w : World} {q : Nat} (h : w.heap[q]? = some (.cells awC 39 (0, 0))) : OpsAt w (some ⟨q, 0, none⟩) 4 awL := ⟨rfl, fun i o ho => by
  rcases i with _ | _ | _ | _ | i
  · simp [awL] at ho; subst ho; exact ⟨q, 0, _, _, _, rfl, h, rfl⟩
  · simp [awL] at ho; subst ho; exact ⟨q, 0, _, _, _, rfl, h, rfl⟩
  · simp [awL] at ho; subst ho; exact ⟨q, 0, _, _, _, rfl, h, rfl⟩
  · simp [awL] at ho; subst ho; exact ⟨q, 0, _, _, _, rfl, h, rfl⟩
  · simp [awL] at ho⟩
theorem aw_0 : (stA awL 4).buf 0 = ⟨1, [⟨#[97]⟩], 0, []⟩ := by kernel_rfl
theorem aw_1 : (stA awL 4).buf 1 = ⟨1, [⟨#[97]⟩, ⟨#[98]⟩], 0, []⟩ := by kernel_rfl
theorem aw_e : errA awL 3 = 0 := by kernel_rfl
set_option maxHeartbeats 2000000 in
set_option maxRecDepth 100000 in
theorem awake_any (w : World) : Calls Try.prog 17 #[] w fun e w' => e = .returned (.bool true) ∧ Below w.heap.size w w' := by
  go_enter Try.func17, Try.ntmps17
  go_upto_region 1 with (fail)
  apply wp_region_lit
  refine wl_val rfl (ex_build 39 _ rfl (L := [(0, .int .i64 1)]) rfl aw_b1) ?_
  simp only [Zq]
  refine wl_val rfl (ex_build 39 _ rfl (L := [(0, .int .i64 3), (5, .string ⟨#[97]⟩)]) rfl aw_b2) ?_
  simp only [Zq]
  refine wl_val rfl (ex_build 39 _ rfl (L := [(0, .int .i64 2), (2, .int .i64 1)]) rfl aw_b3) ?_
  simp only [Zq]
  refine wl_val rfl (ex_build 39 _ rfl (L := [(0, .int .i64 3), (1, .int .i64 1), (5, .string ⟨#[98]⟩)]) rfl aw_b4) ?_
  simp only [Zq]
  refine wl_w rfl (ex_aw _ _ _ _ rfl rfl rfl rfl rfl) ?_
  simp only [Zq]
  have hb := (Below.refl w.heap.size w).alloc (Nat.le_refl _) (.cells awC 39)
  have hops := aw_ops (w := w.alloc (.cells awC 39)) (q := w.heap.size) (ha_new rfl)
  have HP := Lib.hid (Play_any _ 4 4 awL (by omega) _ hops)
  have hzz := hb.size
  clear hops
  refine wl_ck rfl (fun K hK => ?_); go_simp; refine ⟨_, _, ⟨rfl, rfl⟩, hK _ _ ⟨_, HP.out, ?_⟩⟩; clear hK K; rintro e w1 ⟨iv, ev, rfl, hits, hes, hb1⟩; refine ⟨_, rfl, ?_⟩; simp only [Zq]
  obtain ⟨q, cap, rfl, -, -, hall⟩ := hits.get (by simp)
  obtain ⟨lv0, pv0, -, -, k0, -, -, o0, -⟩ := hall 0 _ rfl
  obtain ⟨lv1, pv1, -, -, k1, -, -, o1, -⟩ := hall 1 _ rfl
  replace o0 : w1.ownsRow _ 9 1 lv0 ((stA awL 4).buf 0).l.length (strs ((stA awL 4).buf 0).l) := o0
  replace o1 : w1.ownsRow _ 9 1 lv1 ((stA awL 4).buf 1).l.length (strs ((stA awL 4).buf 1).l) := o1
  rw [aw_0] at o0
  rw [aw_1] at o1
  obtain ⟨A0, d0, rfl⟩ := own_shape o0
  obtain ⟨p1, d1, rfl, -⟩ := own_s o1 (by simp)
  have kb := o1.cellAt 1 (by simp)
  rw [show (strs ([⟨#[97]⟩, ⟨#[98]⟩] : List ByteArray))[1]? = some (.string ⟨#[98]⟩) from rfl] at kb
  obtain ⟨z, d2, rfl⟩ : ∃ z d, ev = .slice (some ⟨z, 0, none⟩) 4 d := by
    rcases hes.2 with ⟨_, h0⟩ | ⟨z, d, cur, hv, _⟩
    · simp at h0
    · exact ⟨z, d, hv⟩
  have ke := hes.cellAt 3 (by simp)
  rw [show (ints ((List.range 4).map (errA awL)))[3]? = some (.int .i64 (errA awL 3)) from rfl, aw_e] at ke
  have HB := Lib.hid (hb.trans (hb1.mono hzz))
  clear hall hits hes o0 o1 HP hb hb1 hzz
  have k0' : w1.cell? ⟨q, 1, none⟩ = some (.slice A0 1 d0) := k0
  have k1' : w1.cell? ⟨q, 5, none⟩ = some (.slice (some ⟨p1, 0, none⟩) 2 d1) := k1
  clear k0 k1
  have hbb : ((⟨#[98]⟩ : ByteArray).toList == (⟨#[98]⟩ : ByteArray).toList) = true := by rw [ba_beq]; simp
  go_wp2_with fail
  go_ret
  exact ⟨rfl, HB.out⟩
end Go.Proofs.Ytbhdgeoljlhmcaa
