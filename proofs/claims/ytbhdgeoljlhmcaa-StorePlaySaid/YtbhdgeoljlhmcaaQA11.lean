/- Lists of texts, lists of entries and items compared, by the document's helpers. A script played, by the program: the walk. The law's own check of a copied array, by the program. All items of a store, by the law; a key's value, by the program. An operation changes no name but its own (plain). Helpers for the laws: fields of an operation, a store made anew, items held beside a store. Whether two names are the same, by the program. What a name is behind an operation: a function of what the operation's first name was (plain). Two stores whose dictionaries have other seeds: the same errors, the same arrays, the same entries (plain). T6, T7 in one text. Texts in order: merged, sorted, inserted, sought (plain). Lists of texts by the document's helpers and by the program: copied, sought, halved. A list sorted by insertion (the document's). Entries sorted by their keys, by the document's helper. The document's buffers in memory; find, count, order. The document's buffers: how many entries, the keys in order. Lists of numbers and of bools made and copied, by the document; an empty table. -/
import Derived.Outline
import Derived.Test.YtbhdgeoljlhmcaaQA10
import Derived.Test.YtbhdgeoljlhmcaaQA9
import Derived.Shelf.SlMaps.Equal
import Derived.Test.YtbhdgeoljlhmcaaQA7
namespace Go.Proofs.Ytbhdgeoljlhmcaa
open Go.RowKit Go.Proofs.Ytbhdgeoljlhmcaa.Nm Go.Proofs.Ytbhdgeoljlhmcaa.St
set_option linter.unusedSimpArgs false
set_option maxHeartbeats 2000000 in
set_option maxRecDepth 100000 in
theorem EqStrings_any (A1 A2 : Option Addr) (n1 n2 c1 c2 : Nat) (l1 l2 : List ByteArray) (hn1 : n1 ≤ 1000000) (w : World) (h1 : StrAt w A1 n1 c1 l1) (h2 : StrAt w A2 n2 c2 l2) :
    Calls Try.prog 27 #[.slice A1 n1 c1, .slice A2 n2 c2] w fun e w' => e = .returned (.bool (decide (l1 = l2))) ∧ Below w.heap.size w w' := by
  have H1 := Lib.hid h1
  have H2 := Lib.hid h2
  clear h1 h2
  by_cases hn : n1 = n2
  · subst hn
    go_enter Try.func27, Try.ntmps27
    go_wp2_with fail
    go_loopw [5] (fun i wr => ∃ j : Nat, j ≤ n1 ∧ i = .int .i64 (j : Int) ∧ Hid (l1.take j = l2.take j) ∧ Below w.heap.size w wr) (fun i _ => n1 - (intOf i).toNat)
    case atStart => exact ⟨0, by omega, rfl, Lib.hid (by simp), Below.refl _ _⟩
    case round =>
      obtain ⟨j, hj, rfl, HT, hb⟩ := hrel
      by_cases hlt : j < n1
      · obtain ⟨a, ha⟩ : ∃ a, l1[j]? = some a := ⟨_, List.getElem?_eq_getElem (by rw [H1.out.1]; exact hlt)⟩
        obtain ⟨b, hb2⟩ : ∃ b, l2[j]? = some b := ⟨_, List.getElem?_eq_getElem (by rw [H2.out.1]; exact hlt)⟩
        obtain ⟨ad1, rfl, hca⟩ := H1.out.cell ha
        obtain ⟨ad2, rfl, hcb⟩ := H2.out.cell hb2
        have HCA := Lib.hid hca
        have HCB := Lib.hid hcb
        have HA := Lib.hid ha
        have HB := Lib.hid hb2
        have hltI : (j : Int) < (n1 : Int) := by omega
        clear hca hcb ha hb2
        go_upto_region 6 with (fail)
        refine wp_region_held_drew (S := Below w.heap.size w) mixed hb.drew (fun hS => ?_)
        refine hk3 (i := 0) rfl (by kernel_rfl) (fun _ _ _ _ h => h) hS rfl (fun K hK => ?_); go_simp; refine hK _ ?_; clear hK K; try simp only [Zp, Zz, Zs]
        refine hk3 (i := 1) rfl (by kernel_rfl) (fun _ _ _ _ h => h) hS rfl (fun K hK => ?_); go_simp; refine hK _ ?_; clear hK K; try simp only [Zp, Zz, Zs]
        (refine hv3 (i := 2) rfl (by kernel_rfl) (fun _ _ _ h => h) hS rfl (fun w' _ => ex_ixS (j := j) _ _ rfl rfl rfl hlt) ?_; try simp only [Zp, Zz, Zs])
        (refine hv3 (i := 3) rfl (by kernel_rfl) (fun _ _ _ h => h) hS rfl (fun w' hw' => ex_one rfl (one9 (below_cell hw' HCA.out))) ?_; try simp only [Zp, Zz, Zs])
        refine hk3 (i := 4) rfl (by kernel_rfl) (fun _ _ _ _ h => h) hS rfl (fun K hK => ?_); go_simp; refine hK _ ?_; clear hK K; try simp only [Zp, Zz, Zs]
        refine hk3 (i := 5) rfl (by kernel_rfl) (fun _ _ _ _ h => h) hS rfl (fun K hK => ?_); go_simp; refine hK _ ?_; clear hK K; try simp only [Zp, Zz, Zs]
        (refine hv3 (i := 6) rfl (by kernel_rfl) (fun _ _ _ h => h) hS rfl (fun w' _ => ex_ixS (j := j) _ _ rfl rfl rfl hlt) ?_; try simp only [Zp, Zz, Zs])
        (refine hv3 (i := 7) rfl (by kernel_rfl) (fun _ _ _ h => h) hS rfl (fun w' hw' => ex_one rfl (one9 (below_cell hw' HCB.out))) ?_; try simp only [Zp, Zz, Zs])
        refine hk3 (i := 8) rfl (by kernel_rfl) (fun _ _ _ _ h => h) hS rfl (fun K hK => ?_); go_simp; refine hK _ ?_; clear hK K; try simp only [Zp, Zz, Zs]
        refine wpAnyH_done (by kernel_rfl) ?_ _
        rw [show (a.toList == b.toList) = decide (a = b) by rw [← Bool.coe_iff_coe]; simp only [decide_eq_true_eq, beq_iff_eq]; rw [ByteArray.toList_eq, ByteArray.toList_eq]; exact ⟨fun e => ByteArray.ext (Array.toList_inj.1 e), fun e => by rw [e]⟩]
        clear hb
        by_cases e : a = b
        · rw [decide_eq_true e]
          go_wp2_with fail
          go_roundw
          case rel => exact ⟨j + 1, by omega, by go_num, Lib.hid (by rw [List.take_add_one, List.take_add_one, HA.out, HB.out, HT.out, e]), hS⟩
          case measure => simp [intOf]; omega
        · rw [decide_eq_false e]
          have HN : Hid (decide (l1 = l2) = false) := Lib.hid (decide_eq_false (fun h => e (by have h1 := HA.out; rw [h, HB.out] at h1; cases h1; rfl)))
          go_wp2_with fail
          go_ret
          exact ⟨by rw [HN.out]; rfl, hS⟩
      · obtain rfl : j = n1 := by omega
        have HN : Hid (decide (l1 = l2) = true) := Lib.hid (decide_eq_true (by have h := HT.out; rw [List.take_of_length_le (by rw [H1.out.1]; exact Nat.le_refl _), List.take_of_length_le (by rw [H2.out.1]; exact Nat.le_refl _)] at h; exact h))
        go_wp2_with fail
        go_ret
        exact ⟨by rw [HN.out]; rfl, hb⟩
  · have hnI : ¬ (n1 : Int) = (n2 : Int) := by omega
    have hd : ((n1 : Int) == (n2 : Int)) = false := by simpa using hnI
    have HN : Hid (decide (l1 = l2) = false) := Lib.hid (decide_eq_false (fun h => hn (by rw [← H1.out.1, ← H2.out.1, h])))
    go_enter Try.func27, Try.ntmps27
    go_wp2_with fail
    go_ret
    exact ⟨by rw [HN.out]; rfl, Below.refl _ _⟩
/-- entries in memory -/
def PrAt (w : World) (A : Option Addr) (n : Nat) (l : List (ByteArray × Int)) : Prop := l.length = n ∧ ∀ (i : Nat) (k : ByteArray) (v : Int), l[i]? = some (k, v) → ∃ (q : Nat) (Cs : Array Value) (t : TypeId) (fr : Nat × Nat), A = some ⟨q, 0, none⟩ ∧ w.heap[q]? = some (.cells Cs t fr) ∧ Cs.extract (i * 2) (i * 2 + 2) = pair k v
theorem PrAt.below {w w' : World} {A : Option Addr} {n : Nat} {l : List (ByteArray × Int)} (h : PrAt w A n l) (hb : Below w.heap.size w w') : PrAt w' A n l :=
  ⟨h.1, fun i k v hi => by obtain ⟨q, Cs, t, fr, h1, h2, h3⟩ := h.2 i k v hi; exact ⟨q, Cs, t, fr, h1, below_look hb h2, h3⟩⟩
theorem PrAt.row {w : World} {q n : Nat} {l : List (ByteArray × Int)} (h : PrAt w (some ⟨q, 0, none⟩) n l) {i : Nat} {k : ByteArray} {v : Int} (hi : l[i]? = some (k, v)) : RowAt w 91 ⟨q, i * 2, none⟩ (pair k v) := by
  obtain ⟨q', Cs, t, fr, h1, h2, h3⟩ := h.2 i k v hi
  cases h1
  exact row_mid h2 h3 u91 rfl rfl info91
theorem PrAt.addr {w : World} {A : Option Addr} {n : Nat} {l : List (ByteArray × Int)} (h : PrAt w A n l) {i : Nat} (hi : i < n) : ∃ q, A = some ⟨q, 0, none⟩ := by
  obtain ⟨q, _, _, _, h1, _⟩ := h.2 i _ _ (List.getElem?_eq_getElem (show i < l.length by rw [h.1]; exact hi))
  exact ⟨q, h1⟩
theorem own_prAt {w : World} {B n : Nat} {v : Value} {l : List (ByteArray × Int)} (h : w.ownsRow B 91 2 v n (prow l)) (hl : l.length = n) : ∃ A c, v = .slice A n c ∧ PrAt w A n l := by
  rcases h.2 with ⟨rfl, h0⟩ | ⟨q, cap, cur, rfl, hB, hg, h1, h2, h3, h4⟩
  · subst h0
    obtain rfl := List.length_eq_zero_iff.1 hl
    exact ⟨none, 0, rfl, rfl, fun i k x hi => by simp at hi⟩
  · refine ⟨_, cap, rfl, hl, fun i k x hi => ⟨q, cur, 91, (0, 0), rfl, hg, ?_⟩⟩
    have hil := (List.getElem?_eq_some_iff.1 hi).1
    obtain ⟨g0, g1⟩ := prow_get hi
    have key : ∀ i u, (prow l)[i]? = some u → i < n * 2 → cur[i]? = some u := fun i u hq hl => by
      rw [← h4, List.getElem?_take_of_lt hl] at hq; simpa using hq
    exact extract2 (key _ _ g0 (by omega)) (key _ _ g1 (by omega))
theorem fields91 : (Try.prog.fieldsOf 91).toList.map (fun f => (decide (f.name = "_"), f.type, f.offset)) = [(false, 9, 0), (false, 3, 1)] := by kernel_rfl
theorem held91 : Try.prog.stoodInHeld 91 = false := by kernel_rfl
theorem part91_0 (w : World) (k : ByteArray) (v : Int) : (part 9 (pair k v) 0).run Try.prog w = .ok (.string k) w := run_part_plain w (by kernel_rfl) rfl
theorem part91_1 (w : World) (k : ByteArray) (v : Int) : (part 3 (pair k v) 1).run Try.prog w = .ok (.int .i64 v) w := run_part_plain w (by kernel_rfl) rfl
theorem run_eq91 (k k' : ByteArray) (v v' : Int) (w : World) : (Op.equalIn 10000 91 (.agg (pair k v)) (.agg (pair k' v'))).run Try.prog w = .ok (decide (k = k' ∧ v = v')) w := by
  rw [run_equalIn_struct w 9999 91 _ _ u91 held91]
  have hl := fields91
  generalize (Try.prog.fieldsOf 91).toList = l at *
  obtain ⟨f0, f1, rfl⟩ : ∃ f0 f1, l = [f0, f1] := by
    have := congrArg List.length hl
    simp only [List.length_map, List.length_cons, List.length_nil] at this
    obtain ⟨f0, l, rfl⟩ := List.exists_cons_of_length_eq_add_one this
    obtain ⟨f1, l, rfl⟩ := List.exists_cons_of_length_eq_add_one (by simpa using this : l.length = 0 + 1)
    have : l = [] := by simpa using this
    exact ⟨f0, f1, by rw [this]⟩
  · simp only [List.map_cons, List.map_nil, List.cons.injEq, Prod.mk.injEq, and_true, decide_eq_false_iff_not] at hl
    obtain ⟨⟨n0, t0, o0⟩, n1, t1, o1⟩ := hl
    simp only [Op.eqFields, n0, t0, o0, n1, t1, o1, Sem.run_bind, part91_0, part91_1, Result.andThen_ok, run_equalIn_string w 9998 9 _ _ u9, run_equalIn_int w 9998 3 .i64 .i64 _ _ u3d, Sem.run_ite, Sem.run_pure, ne_eq, not_false_eq_true, if_true, ba_beq]
    by_cases e : k = k'
    · by_cases e2 : v = v'
      · simp [e, e2]
      · have : (v == v') = false := by simpa using e2
        simp [e, e2, this]
    · simp [e]
theorem guard91 : Try.prog.eqGuardType Try.prog.depth 91 = false := by kernel_rfl
theorem ex_neq91 {ev : Operand → Value} {o : Oper} {w : World} (x y : Operand) (yt : TypeId) (ho : o.op = .binOp .neq 91 x y yt) {k k' : ByteArray} {v v' : Int} (hx : ev x = .agg (pair k v)) (hy : ev y = .agg (pair k' v')) :
    (execOp ev o).run Try.prog w = .ok (.value (.bool (!decide (k = k' ∧ v = v')))) w := by
  unfold execOp
  simp only [ho, hx, hy, Sem.run_bind, run_eqGuard_agg w .neq 91 x y _ _ guard91, run_neq_struct, run_eq91, Result.andThen_ok]
  rfl
set_option maxHeartbeats 2000000 in
set_option maxRecDepth 100000 in
theorem EqPairs_any (A1 A2 : Option Addr) (n1 n2 c1 c2 : Nat) (l1 l2 : List (ByteArray × Int)) (hn1 : n1 ≤ 1000000) (w : World) (h1 : PrAt w A1 n1 l1) (h2 : PrAt w A2 n2 l2) :
    Calls Try.prog 49 #[.slice A1 n1 c1, .slice A2 n2 c2] w fun e w' => e = .returned (.bool (decide (l1 = l2))) ∧ Below w.heap.size w w' := by
  have H1 := Lib.hid h1
  have H2 := Lib.hid h2
  clear h1 h2
  by_cases hn : n1 = n2
  · subst hn
    go_enter Try.func49, Try.ntmps49
    go_wp2_with fail
    go_loopw [5] (fun i wr => ∃ j : Nat, j ≤ n1 ∧ i = .int .i64 (j : Int) ∧ Hid (l1.take j = l2.take j) ∧ Below w.heap.size w wr) (fun i _ => n1 - (intOf i).toNat)
    case atStart => exact ⟨0, by omega, rfl, Lib.hid (by simp), Below.refl _ _⟩
    case round =>
      obtain ⟨j, hj, rfl, HT, hb⟩ := hrel
      by_cases hlt : j < n1
      · obtain ⟨⟨a, x⟩, ha⟩ : ∃ a, l1[j]? = some a := ⟨_, List.getElem?_eq_getElem (by rw [H1.out.1]; exact hlt)⟩
        obtain ⟨⟨b, y⟩, hb2⟩ : ∃ b, l2[j]? = some b := ⟨_, List.getElem?_eq_getElem (by rw [H2.out.1]; exact hlt)⟩
        obtain ⟨q1, rfl⟩ := H1.out.addr hlt
        obtain ⟨q2, rfl⟩ := H2.out.addr hlt
        have HA := Lib.hid ha
        have HB := Lib.hid hb2
        have hltI : (j : Int) < (n1 : Int) := by omega
        clear ha hb2
        go_upto_region 6 with (fail)
        refine wp_region_held_drew (S := Below w.heap.size w) mixed hb.drew (fun hS => ?_)
        refine hk3 (i := 0) rfl (by kernel_rfl) (fun _ _ _ _ h => h) hS rfl (fun K hK => ?_); go_simp; refine hK _ ?_; clear hK K; try simp only [Zp, Zz, Zs]
        refine hk3 (i := 1) rfl (by kernel_rfl) (fun _ _ _ _ h => h) hS rfl (fun K hK => ?_); go_simp; refine hK _ ?_; clear hK K; try simp only [Zp, Zz, Zs]
        refine hk3 (i := 2) rfl (by kernel_rfl) (fun _ _ _ _ h => h) hS rfl (fun K hK => ?_); go_simp; refine hK _ ?_; clear hK K; try simp only [Zp, Zz, Zs]
        (refine hv3 (i := 3) rfl (by kernel_rfl) (fun _ _ _ h => h) hS rfl (fun w' hw' => ex_row rfl ((H1.out.below hw').row HA.out)) ?_; try simp only [Zp, Zz, Zs])
        refine hk3 (i := 4) rfl (by kernel_rfl) (fun _ _ _ _ h => h) hS rfl (fun K hK => ?_); go_simp; refine hK _ ?_; clear hK K; try simp only [Zp, Zz, Zs]
        refine hk3 (i := 5) rfl (by kernel_rfl) (fun _ _ _ _ h => h) hS rfl (fun K hK => ?_); go_simp; refine hK _ ?_; clear hK K; try simp only [Zp, Zz, Zs]
        refine hk3 (i := 6) rfl (by kernel_rfl) (fun _ _ _ _ h => h) hS rfl (fun K hK => ?_); go_simp; refine hK _ ?_; clear hK K; try simp only [Zp, Zz, Zs]
        (refine hv3 (i := 7) rfl (by kernel_rfl) (fun _ _ _ h => h) hS rfl (fun w' hw' => ex_row rfl ((H2.out.below hw').row HB.out)) ?_; try simp only [Zp, Zz, Zs])
        (refine hv3 (i := 8) rfl (by kernel_rfl) (fun _ _ _ h => h) hS rfl (fun w' hw' => ex_neq91 _ _ 91 rfl rfl rfl) ?_; try simp only [Zp, Zz, Zs])
        refine wpAnyH_done (by kernel_rfl) ?_ _
        clear hb
        by_cases e : a = b ∧ x = y
        · rw [decide_eq_true e]
          go_wp2_with fail
          go_roundw
          case rel => exact ⟨j + 1, by omega, by go_num, Lib.hid (by rw [List.take_add_one, List.take_add_one, HA.out, HB.out, HT.out, e.1, e.2]), hS⟩
          case measure => simp [intOf]; omega
        · rw [decide_eq_false e]
          have HN : Hid (decide (l1 = l2) = false) := Lib.hid (decide_eq_false (fun h => e (by have h1 := HA.out; rw [h, HB.out] at h1; cases h1; exact ⟨rfl, rfl⟩)))
          go_wp2_with fail
          go_ret
          exact ⟨by rw [HN.out]; rfl, hS⟩
      · obtain rfl : j = n1 := by omega
        have HN : Hid (decide (l1 = l2) = true) := Lib.hid (decide_eq_true (by have h := HT.out; rw [List.take_of_length_le (by rw [H1.out.1]; exact Nat.le_refl _), List.take_of_length_le (by rw [H2.out.1]; exact Nat.le_refl _)] at h; exact h))
        go_wp2_with fail
        go_ret
        exact ⟨by rw [HN.out]; rfl, hb⟩
  · have hnI : ¬ (n1 : Int) = (n2 : Int) := by omega
    have hd : ((n1 : Int) == (n2 : Int)) = false := by simpa using hnI
    have HN : Hid (decide (l1 = l2) = false) := Lib.hid (decide_eq_false (fun h => hn (by rw [← H1.out.1, ← H2.out.1, h])))
    go_enter Try.func49, Try.ntmps49
    go_wp2_with fail
    go_ret
    exact ⟨by rw [HN.out]; rfl, Below.refl _ _⟩
theorem EqStrings_refl (A1 A2 : Option Addr) (c1 c2 : Nat) (l : List ByteArray) (hn1 : l.length ≤ 1000000) (w : World) (h1 : StrAt w A1 l.length c1 l) (h2 : StrAt w A2 l.length c2 l) :
    Calls Try.prog 27 #[.slice A1 l.length c1, .slice A2 l.length c2] w fun e w' => e = .returned (.bool true) ∧ Below w.heap.size w w' := by
  have h := EqStrings_any A1 A2 l.length l.length c1 c2 l l hn1 w h1 h2
  rwa [decide_eq_true rfl] at h
theorem EqPairs_refl (A1 A2 : Option Addr) (c1 c2 : Nat) (l : List (ByteArray × Int)) (hn1 : l.length ≤ 1000000) (w : World) (h1 : PrAt w A1 l.length l) (h2 : PrAt w A2 l.length l) :
    Calls Try.prog 49 #[.slice A1 l.length c1, .slice A2 l.length c2] w fun e w' => e = .returned (.bool true) ∧ Below w.heap.size w w' := by
  have h := EqPairs_any A1 A2 l.length l.length c1 c2 l l hn1 w h1 h2
  rwa [decide_eq_true rfl] at h
theorem one30 {w : World} {ad : Addr} {v : Value} (h : w.cell? ad = some v) : OneAt w 30 ad v := one_of u30 rfl h
theorem ic_cell {w : World} {g : Nat} {kd seed : Int} {lv pv : Value} (h : w.heap[g]? = some (.cells (icells kd lv seed pv) 32 (0, 0))) :
    w.cell? ⟨g, 0, none⟩ = some (.int .i64 kd) ∧ w.cell? ⟨g, 1, none⟩ = some lv ∧ w.cell? ⟨g, 2, none⟩ = some (.int .i64 seed) ∧ w.cell? ⟨g, 3, none⟩ = some pv := by
  rw [cell_of_row _ _ _ _ _ _ h, cell_of_row _ _ _ _ _ _ h, cell_of_row _ _ _ _ _ _ h, cell_of_row _ _ _ _ _ _ h]
  exact ⟨rfl, rfl, rfl, rfl⟩
set_option maxHeartbeats 2000000 in
set_option maxRecDepth 100000 in

theorem EqItem_true (a b : Buf) (A1 : Option Addr) (c1 : Nat) (A2 : Option Addr) (c2 : Nat) (A3 : Option Addr) (c3 : Nat) (A4 : Option Addr) (c4 : Nat) (hl : a.l.length ≤ 1000000) (hp : (pairsT a.t).length ≤ 1000000) (w : World)
    (hkd : a.kd = b.kd) (hsd : a.seed = b.seed) (hel : a.l = b.l) (hep : pairsT a.t = pairsT b.t) (h1 : StrAt w A1 a.l.length c1 a.l) (h2 : PrAt w A2 (pairsT a.t).length (pairsT a.t)) (h3 : StrAt w A3 b.l.length c3 b.l) (h4 : PrAt w A4 (pairsT b.t).length (pairsT b.t)) :
    Calls Try.prog 16 #[.agg (icells a.kd (.slice A1 a.l.length c1) a.seed (.slice A2 (pairsT a.t).length c2)), .agg (icells b.kd (.slice A3 b.l.length c3) b.seed (.slice A4 (pairsT b.t).length c4))] w fun e w' => e = .returned (.bool true) ∧ Below w.heap.size w w' := by
  obtain ⟨kd, l, seed, t⟩ := a
  obtain ⟨kd', l', seed', t'⟩ := b
  simp only at hkd hsd hel hep h1 h2 h3 h4 hl hp ⊢
  subst hkd hsd hel
  rw [← hep] at h4 ⊢
  obtain ⟨P, hP⟩ : ∃ P, P = pairsT t := ⟨_, rfl⟩
  rw [← hP] at h2 h4 hp ⊢
  clear hep hP
  have H1 := Lib.hid h1
  have H2 := Lib.hid h2
  have H3 := Lib.hid h3
  have H4 := Lib.hid h4
  clear h1 h2 h3 h4
  go_enter Try.func16, Try.ntmps16
  go_upto_region 1 with (fail)
  have hb0 := (Below.refl w.heap.size w).alloc (Nat.le_refl _) (.cells (icells kd (.slice A1 l.length c1) seed (.slice A2 P.length c2)) 32)
  have hb1 := hb0.alloc (by simp) (.cells (icells kd (.slice A3 l.length c3) seed (.slice A4 P.length c4)) 32)
  refine wp_world (fun W => Below w.heap.size w W ∧ W.heap[w.heap.size]? = some (.cells (icells kd (.slice A1 l.length c1) seed (.slice A2 P.length c2)) 32 (0, 0)) ∧ W.heap[w.heap.size + 1]? = some (.cells (icells kd (.slice A3 l.length c3) seed (.slice A4 P.length c4)) 32 (0, 0))) ⟨hb1, ha_old (ha_new rfl), ha_new (by simp)⟩ ?_
  clear hb0 hb1
  rintro W ⟨hb, g1, g2⟩
  obtain ⟨x0, x1, x2, x3⟩ := ic_cell g1
  obtain ⟨y0, y1, y2, y3⟩ := ic_cell g2
  have HES := Lib.hid (EqStrings_refl A1 A3 c1 c3 l hl _ (H1.out.below hb) (H3.out.below hb))
  apply wp_region_lit
  refine wl_k rfl (fun K hK => ?_); go_simp; refine hK _ ?_; clear hK K
  ((with_reducible apply wl_oneG); exact rfl; exact rfl; exact one3 x0)
  refine wl_k rfl (fun K hK => ?_); go_simp; refine hK _ ?_; clear hK K
  ((with_reducible apply wl_oneG); exact rfl; exact rfl; exact one3 y0)
  refine wl_k rfl (fun K hK => ?_); go_simp; refine hK _ ?_; clear hK K
  refine wl_k rfl (fun K hK => ?_); go_simp; refine hK _ ?_; clear hK K
  refine wl_k rfl (fun K hK => ?_); go_simp; refine hK _ ?_; clear hK K
  ((with_reducible apply wl_oneG); exact rfl; exact rfl; exact one3 x2)
  refine wl_k rfl (fun K hK => ?_); go_simp; refine hK _ ?_; clear hK K
  ((with_reducible apply wl_oneG); exact rfl; exact rfl; exact one3 y2)
  refine wl_k rfl (fun K hK => ?_); go_simp; refine hK _ ?_; clear hK K
  refine wl_k rfl (fun K hK => ?_); go_simp; refine hK _ ?_; clear hK K
  refine wl_k rfl (fun K hK => ?_); go_simp; refine hK _ ?_; clear hK K
  refine wl_k rfl (fun K hK => ?_); go_simp; refine hK _ ?_; clear hK K
  ((with_reducible apply wl_oneG); exact rfl; exact rfl; exact one29 x1)
  refine wl_k rfl (fun K hK => ?_); go_simp; refine hK _ ?_; clear hK K
  ((with_reducible apply wl_oneG); exact rfl; exact rfl; exact one29 y1)
  refine wl_ck rfl (fun K hK => ?_); go_simp; refine ⟨_, _, ⟨rfl, rfl⟩, hK _ _ ⟨_, HES.out, ?_⟩⟩; clear hK K; rintro e w3 ⟨rfl, hb1⟩; refine ⟨_, rfl, ?_⟩; simp only [Zp, Zz, Zs]
  replace x3 := below_cell hb1 x3
  replace y3 := below_cell hb1 y3
  replace hb := hb.trans (hb1.mono hb.size)
  have HEP := Lib.hid (EqPairs_refl A2 A4 c2 c4 P hp _ (H2.out.below hb) (H4.out.below hb))
  clear hb1 HES
  refine wl_k rfl (fun K hK => ?_); go_simp; refine hK _ ?_; clear hK K
  refine wl_k rfl (fun K hK => ?_); go_simp; refine hK _ ?_; clear hK K
  refine wl_k rfl (fun K hK => ?_); go_simp; refine hK _ ?_; clear hK K
  ((with_reducible apply wl_oneG); exact rfl; exact rfl; exact one30 x3)
  refine wl_k rfl (fun K hK => ?_); go_simp; refine hK _ ?_; clear hK K
  ((with_reducible apply wl_oneG); exact rfl; exact rfl; exact one30 y3)
  refine wl_ck rfl (fun K hK => ?_); go_simp; refine ⟨_, _, ⟨rfl, rfl⟩, hK _ _ ⟨_, HEP.out, ?_⟩⟩; clear hK K; rintro e w4 ⟨rfl, hb1⟩; refine ⟨_, rfl, ?_⟩; simp only [Zp, Zz, Zs]
  replace hb := hb.trans (hb1.mono hb.size)
  clear hb1 HEP
  go_wp2_with fail
  go_ret
  exact ⟨rfl, hb⟩
end Go.Proofs.Ytbhdgeoljlhmcaa
namespace Go.Proofs.Ytbhdgeoljlhmcaa
open Go.RowKit Go.Proofs.Ytbhdgeoljlhmcaa.Nm Go.Proofs.Ytbhdgeoljlhmcaa.St
set_option linter.unusedSimpArgs false
def noOp : OpV := ⟨0, 0, 0, 0, 0, ⟨#[]⟩⟩
theorem ex_alloc39 {o : Oper} (ho : o.op = .alloc 39) (ev : Operand → Value) (w : World) : (execOp ev o).run Try.prog w = .ok (.value (.pointer (some ⟨w.heap.size, 0, none⟩))) (w.alloc (.cells noOp.cells 39)) := by
  unfold execOp
  simp only [ho]
  kernel_rfl
theorem op_one (o : OpV) : o.cells.all (·.oneCell') = true := by simp [OpV.cells, Value.oneCell']
/-- the blocks of a store are new since a world -/
def Since (B s : Nat) (rs : List Row) : Prop := ∀ q, Foot s rs q → B ≤ q
theorem Since.ran {B s : Nat} {rs rs' : List Row} {w w' : World} (h : Since B s rs) (hr : Ran s rs w rs' w') (hB : B ≤ w.heap.size) : Since B s rs' := fun q hq => (hr.foot q hq).elim (h q) (fun e => by omega)
theorem Ran.toBelow {B s : Nat} {rs rs' : List Row} {w w' : World} (hr : Ran s rs w rs' w') (h : Since B s rs) (hB : B ≤ w.heap.size) : Below B w w' :=
  ⟨hr.os, hr.tape, hr.output, hr.size, fun k hk => hr.block k (by omega) (fun hf => by have := h k hf; omega)⟩
theorem stA_step {l : List OpV} {j : Nat} {o : OpV} (h : l[j]? = some o) (hj : j < 200) : stA l (j + 1) = doA (stA l j) o ∧ errA l j = refA (stA l j) o := by
  constructor
  · show (match l[j]? with | none => stA l j | some o => if j < 200 then doA (stA l j) o else stA l j) = _
    rw [h]; simp only [if_pos hj]
  · unfold errA; rw [h]; simp only [if_pos hj]
theorem stA_stop {l : List OpV} {j : Nat} {o : OpV} (h : l[j]? = some o) (hj : ¬ j < 200) : stA l (j + 1) = stA l j ∧ errA l j = 2 := by
  constructor
  · show (match l[j]? with | none => stA l j | some o => if j < 200 then doA (stA l j) o else stA l j) = _
    rw [h]; simp only [if_neg hj]
  · unfold errA; rw [h]; simp only [if_neg hj]
theorem errs_snoc (l : List OpV) (j : Nat) : (List.range (j + 1)).map (errA l) = (List.range j).map (errA l) ++ [errA l j] := by rw [List.range_succ]; simp
set_option maxHeartbeats 4000000 in
set_option maxRecDepth 100000 in
theorem Play_any (A : Option Addr) (n c : Nat) (l : List OpV) (hn : n ≤ 1000) (w : World) (h : OpsAt w A n l) :
    Calls Try.prog 14 #[.slice A n c] w fun e w' => ∃ iv ev, e = .returned (.tuple #[iv, ev]) ∧ ItemsAt w' w.heap.size iv ((List.range 8).map fun (i : Nat) => (stA l n).buf (i : Int)) ∧ w'.ownsRow w.heap.size 33 1 ev n (ints ((List.range n).map (errA l))) ∧ Below w.heap.size w w' := by
  have HO := Lib.hid h
  clear h
  go_enter Try.func14, Try.ntmps14
  go_upto_region 1 with (fail)
  apply wp_region_lit
  refine wl_ck rfl (fun K hK => ?_); go_simp; refine ⟨_, _, ⟨rfl, rfl⟩, hK _ _ ⟨_, New_any _, ?_⟩⟩; clear hK K; rintro e w1 ⟨rfl, hst, hb1⟩; refine ⟨_, rfl, ?_⟩; simp only [Zp, Zz, Zs]
  have HS := Lib.hid hst
  have hsin : Since w.heap.size w.heap.size [] := fun q hq => by
    rcases hq with rfl | ⟨k, r, hr, _⟩
    · exact Nat.le_refl _
    · simp at hr
  obtain ⟨s, hs⟩ : ∃ s, s = w.heap.size := ⟨_, rfl⟩
  rw [← hs] at HS ⊢
  rw [show Since w.heap.size w.heap.size [] = Since w.heap.size s [] by rw [hs]] at hsin
  clear hst hs
  go_wp2_with fail
  have hpre : Hid (w1.ownsRow w.heap.size 33 1 (.slice none 0 0) 0 (ints ((List.range 0).map (errA l)))) := Lib.hid (own_nil _ _ _ _)
  have hcp : Hid (Clear s [] (.slice none 0 0)) := Lib.hid (fun q hq => by simp [Value.ownBlock] at hq)
  have HSI := Lib.hid hsin
  clear hsin
  go_loopw [5, 16] (fun ev i wr => ∃ (j : Nat) (rs : List Row), j ≤ n ∧ i = .int .i64 (j : Int) ∧ Hid (wr.ownsRow w.heap.size 33 1 ev j (ints ((List.range j).map (errA l)))) ∧ Hid (Clear s rs ev) ∧ Hid (StoreAt wr s (stA l j) rs) ∧ Hid (Since w.heap.size s rs) ∧ Below w.heap.size w wr) (fun _ i _ => n - (intOf i).toNat)
  case atStart => exact ⟨0, [], by omega, rfl, hpre, hcp, HS, HSI, hb1⟩
  case round =>
    clear hpre hcp HS HSI hb1
    obtain ⟨j, rs, hj, rfl, HE, HCL, HS, HSI, hbw⟩ := hrel
    by_cases hlt : j < n
    · have hltI : (j : Int) < (n : Int) := by omega
      obtain ⟨b, off, rfl⟩ := HO.out.addr hlt
      obtain ⟨o, ho⟩ : ∃ o, l[j]? = some o := ⟨_, List.getElem?_eq_getElem (by rw [HO.out.1]; exact hlt)⟩
      have HOJ := Lib.hid ho
      have HRO := Lib.hid ((HO.out.below hbw).row ho)
      clear ho
      go_upto_region 5 with (fail)
      apply wp_region_lit
      refine wl_k rfl (fun K hK => ?_); go_simp; refine hK _ ?_; clear hK K
      refine wl_k rfl (fun K hK => ?_); go_simp; refine hK _ ?_; clear hK K
      ((with_reducible apply wl_rowG); exact rfl; exact rfl; exact HRO.out)
      simp only [Zp, Zz, Zs]
      refine wl_new (fun ev w => ex_alloc39 rfl ev w) ?_
      intro W5 p5 hb5 hl5 h5
      refine wl_k rfl (fun K hK => ?_); go_simp; refine hK _ ?_; clear hK K
      refine wl_putG p5 o.cells rfl rfl 39 _ h5 info39 rfl (op_one _) ?_
      rw [put_noneA]
      have hbb := below_setRow hb5 (g := p5) hl5 o.cells
      replace HE := Lib.hid (own_below HE.out hbb)
      replace HS := Lib.hid (HS.out.below hbb)
      replace hbw := hbw.trans (hbb.mono hbw.size)
      have h5' := hr_new (cs := o.cells) h5
      clear hb5 h5 hbb HRO hl5
      generalize W5.setRow p5 o.cells = w6 at *
      by_cases h200 : (j : Int) < 200
      · have hd : decide ((j : Int) < 200) = true := by simpa using h200
        have HST := Lib.hid (stA_step HOJ.out (show j < 200 by omega))
        have hbd := stA_bound l j
        go_upto_region 8 with (fail)
        apply wp_region_lit
        refine wl_k rfl (fun K hK => ?_); go_simp; refine hK _ ?_; clear hK K
        ((with_reducible apply wl_rowG); exact rfl; exact rfl; exact rowO h5')
        simp only [Zp, Zz, Zs]
        have hz6 := hbw.size
        have hE6 := own_lt HE.out
        refine wl_ck rfl (fun K hK => ?_); go_simp; refine ⟨_, _, ⟨rfl, rfl⟩, hK _ _ ⟨_, Do_any s (stA l j) rs (stA_good l j) (by omega) hbd.2.1 (by omega) o _ HS.out, ?_⟩⟩; clear hK K; rintro e w7 ⟨rfl, rs2, hst2, hran⟩; refine ⟨_, rfl, ?_⟩; simp only [Zp, Zz, Zs]
        rw [← HST.out.2]
        rw [← HST.out.1] at hst2
        replace HS := Lib.hid hst2
        replace hbw := hbw.trans (hran.toBelow HSI.out hbw.size)
        have HSI2 := Lib.hid (HSI.out.ran hran hz6)
        replace HE := Lib.hid (own_ran HE.out HCL.out hran)
        replace HCL := Lib.hid (HCL.out.ran hE6 hran)
        clear hst2 hran h5' HST hbd hz6 hE6
        refine wl_k rfl (fun K hK => ?_); go_simp; refine hK _ ?_; clear hK K
        go_upto_region 9 with (fail)
        apply wp_region_lit
        refine wl_k rfl (fun K hK => ?_); go_simp; refine hK _ ?_; clear hK K
        refine wl_k rfl (fun K hK => ?_); go_simp; refine hK _ ?_; clear hK K
        obtain ⟨v', w', hr, hown, hgr, hloc⟩ := run_push25 (errA l j) 25 HE.out hbw.size (show j ≤ 1000000 by omega)
        refine wl_w rfl (ex_bs25_1 _ rfl rfl) ?_
        simp only [Zp, Zz, Zs]
        refine wl_w rfl (ex_app _ _ rfl rfl rfl hr) ?_
        simp only [Zp, Zz, Zs]
        have hal := (Below.refl w7.heap.size w7).alloc (Nat.le_refl _) (.cells #[.int .i64 (errA l j)] 33)
        have hsame : ∀ q, q < w7.heap.size → Foot s rs2 q → w'.heap[q]? = w7.heap[q]? := fun q hq hf => by
          rw [hgr.block q (Nat.lt_of_lt_of_le hq hal.size) (fun e => HCL.out q e.symm hf), hal.block q hq]
        have HS' := Lib.hid (HS.out.same hsame)
        have hcl' : Clear s rs2 v' := fun q hq hf => by
          rcases hloc with e | e
          · rw [e] at hq; exact HCL.out q hq hf
          · rw [e] at hq; cases hq; have := HS.out.lt hf; omega
        have hbw' := hbw.trans ((hal.mono hbw.size).grown hgr (by have := hal.size; have := hbw.size; omega) (fun q hq => (own_block HE.out hq).1))
        have HE' := Lib.hid hown
        have HCL' := Lib.hid hcl'
        clear hr hown hgr hloc hal hsame HE HCL HS hcl' hbw
        go_wp2_with fail
        go_roundw
        case rel => exact ⟨j + 1, rs2, by omega, by go_num, by rw [errs_snoc]; exact HE', HCL', HS', HSI2, hbw'⟩
        case measure => simp [intOf]; omega
      · have hd : decide ((j : Int) < 200) = false := by simpa using h200
        have HST := Lib.hid (stA_stop HOJ.out (show ¬ j < 200 by omega))
        rw [← HST.out.1] at HS
        clear h5'
        go_upto_region 9 with (fail)
        apply wp_region_lit
        refine wl_k rfl (fun K hK => ?_); go_simp; refine hK _ ?_; clear hK K
        refine wl_k rfl (fun K hK => ?_); go_simp; refine hK _ ?_; clear hK K
        obtain ⟨v', w', hr, hown, hgr, hloc⟩ := run_push25 2 25 HE.out hbw.size (show j ≤ 1000000 by omega)
        refine wl_w rfl (ex_bs25_1 _ rfl rfl) ?_
        simp only [Zp, Zz, Zs]
        refine wl_w rfl (ex_app _ _ rfl rfl rfl hr) ?_
        simp only [Zp, Zz, Zs]
        have hal := (Below.refl w6.heap.size w6).alloc (Nat.le_refl _) (.cells #[.int .i64 2] 33)
        have hsame : ∀ q, q < w6.heap.size → Foot s rs q → w'.heap[q]? = w6.heap[q]? := fun q hq hf => by
          rw [hgr.block q (Nat.lt_of_lt_of_le hq hal.size) (fun e => HCL.out q e.symm hf), hal.block q hq]
        have HS' := Lib.hid (HS.out.same hsame)
        have hcl' : Clear s rs v' := fun q hq hf => by
          rcases hloc with e | e
          · rw [e] at hq; exact HCL.out q hq hf
          · rw [e] at hq; cases hq; have := HS.out.lt hf; omega
        have hbw' := hbw.trans ((hal.mono hbw.size).grown hgr (by have := hal.size; have := hbw.size; omega) (fun q hq => (own_block HE.out hq).1))
        have HE' := Lib.hid hown
        have HCL' := Lib.hid hcl'
        clear hr hown hgr hloc hal hsame HE HCL HS hcl' hbw
        go_wp2_with fail
        go_roundw
        case rel => exact ⟨j + 1, rs, by omega, by go_num, by rw [errs_snoc, HST.out.2]; exact HE', HCL', HS', HSI, hbw'⟩
        case measure => simp [intOf]; omega
    · obtain rfl : j = n := by omega
      have HEF := Lib.hid HE.out
      clear HE HCL HSI
      go_wp2_with fail
      obtain ⟨W0, hW0⟩ : ∃ W0, W0 = wr := ⟨_, rfl⟩
      subst hW0
      have hpre2 := itemsAt_nil W0 W0.heap.size
      go_loopw [9, 31] (fun iv i wr2 => ∃ k : Nat, k ≤ 8 ∧ i = .int .i64 (k : Int) ∧ Hid (ItemsAt wr2 W0.heap.size iv ((List.range k).map fun (i : Nat) => (stA l j).buf (i : Int))) ∧ Hid (Below W0.heap.size W0 wr2)) (fun _ i _ => 8 - (intOf i).toNat)
      case atStart => exact ⟨0, by omega, rfl, Lib.hid hpre2, Lib.hid (Below.refl _ _)⟩
      case round =>
        clear hpre2
        obtain ⟨k, hk, rfl, HI, HB⟩ := hrel
        by_cases hlt2 : k < 8
        · have hk8 : (k : Int) < 8 := by omega
          have HS2 := Lib.hid (HS.out.below HB.out)
          have hzz := hbw.size
          have hzB := HB.out.size
          go_upto_region 15 with (fail)
          apply wp_region_lit
          refine wl_k rfl (fun K hK => ?_); go_simp; refine hK _ ?_; clear hK K
          refine wl_k rfl (fun K hK => ?_); go_simp; refine hK _ ?_; clear hK K
          refine wl_ck rfl (fun K hK => ?_); go_simp; refine ⟨_, _, ⟨rfl, rfl⟩, hK _ _ ⟨_, Item_yes s (stA l j) rs (stA_good l j) k hk8 _ HS2.out, ?_⟩⟩; clear hK K; rintro e w7 ⟨v, rfl, hit, hb1⟩; refine ⟨_, rfl, ?_⟩; simp only [Zp, Zz, Zs]
          obtain ⟨B1, d1, B2, d2, rfl, ho1, ho2⟩ := hit.shape
          replace HI := Lib.hid (HI.out.below hb1)
          replace HB := Lib.hid (HB.out.trans (hb1.mono HB.out.size))
          have HO1 := Lib.hid ho1
          have HO2 := Lib.hid ho2
          clear hit ho1 ho2 HS2
          refine wl_k rfl (fun K hK => ?_); go_simp; refine hK _ ?_; clear hK K
          refine wl_k rfl (fun K hK => ?_); go_simp; refine hK _ ?_; clear hK K
          refine wl_k rfl (fun K hK => ?_); go_simp; refine hK _ ?_; clear hK K
          refine wl_new (fun ev w => ex_alloc32 rfl ev w) ?_
          intro W5 p5 hb5 hl5 h5
          refine wl_putG p5 (icells ((stA l j).buf (k : Int)).kd (.slice B1 ((stA l j).buf (k : Int)).l.length d1) ((stA l j).buf (k : Int)).seed (.slice B2 (pairsT ((stA l j).buf (k : Int)).t).length d2)) rfl rfl 32 _ h5 info32 rfl (icells_one _ _ _ _ _ _ _ _) ?_
          rw [put_noneA]
          have hbb := below_setRow hb5 (g := p5) hl5 (icells ((stA l j).buf (k : Int)).kd (.slice B1 ((stA l j).buf (k : Int)).l.length d1) ((stA l j).buf (k : Int)).seed (.slice B2 (pairsT ((stA l j).buf (k : Int)).t).length d2))
          have hz8 := hb1.size
          replace HI := Lib.hid (HI.out.below hbb)
          replace HB := Lib.hid (HB.out.trans (hbb.mono HB.out.size))
          replace HO1 := Lib.hid (own_weak (own_below HO1.out hbb) hzB)
          replace HO2 := Lib.hid (own_weak (own_below HO2.out hbb) hzB)
          have h5' := hr_new (cs := icells ((stA l j).buf (k : Int)).kd (.slice B1 ((stA l j).buf (k : Int)).l.length d1) ((stA l j).buf (k : Int)).seed (.slice B2 (pairsT ((stA l j).buf (k : Int)).t).length d2)) h5
          clear hb5 h5 hbb hl5 hb1
          generalize W5.setRow p5 (icells ((stA l j).buf (k : Int)).kd (.slice B1 ((stA l j).buf (k : Int)).l.length d1) ((stA l j).buf (k : Int)).seed (.slice B2 (pairsT ((stA l j).buf (k : Int)).t).length d2)) = w8 at *
          refine wl_k rfl (fun K hK => ?_); go_simp; refine hK _ ?_; clear hK K
          go_upto_region 16 with (fail)
          apply wp_region_lit
          refine wl_k rfl (fun K hK => ?_); go_simp; refine hK _ ?_; clear hK K
          ((with_reducible apply wl_rowG); exact rfl; exact rfl; exact rowIt h5')
          simp only [Zp, Zz, Zs]
          obtain ⟨v', w', hr, hits, hbI⟩ := run_push24 24 HI.out HB.out.size (by simp; omega) HO1.out HO2.out
          refine wl_w rfl (ex_bs24_1 _ rfl rfl) ?_
          simp only [Zp, Zz, Zs]
          refine wl_w rfl (ex_app _ _ rfl rfl rfl hr) ?_
          simp only [Zp, Zz, Zs]
          have hsn : (List.range (k + 1)).map (fun (i : Nat) => (stA l j).buf (i : Int)) = (List.range k).map (fun (i : Nat) => (stA l j).buf (i : Int)) ++ [(stA l j).buf (k : Int)] := by rw [List.range_succ]; simp
          rw [← hsn] at hits
          have HITS := Lib.hid hits
          have HBN := Lib.hid (HB.out.trans hbI)
          clear hr hits hsn h5' HO1 HO2 HI hbI HB hzz hzB hz8
          go_wp2_with fail
          go_roundw
          case rel => exact ⟨k + 1, by omega, by go_num, HITS, HBN⟩
          case measure => simp [intOf]; omega
        · obtain rfl : k = 8 := by omega
          have HEF2 := Lib.hid (own_below HEF.out HB.out)
          have HBF := Lib.hid (hbw.trans (HB.out.mono hbw.size))
          have HIF := Lib.hid (HI.out.weak hbw.size)
          clear HI HB HEF HS hbw
          go_wp2_with fail
          go_ret2
          exact ⟨_, _, rfl, HIF.out, HEF2.out, HBF.out⟩
end Go.Proofs.Ytbhdgeoljlhmcaa
namespace Go.Proofs.Ytbhdgeoljlhmcaa
open Go.RowKit Go.Proofs.Ytbhdgeoljlhmcaa.Nm Go.Proofs.Ytbhdgeoljlhmcaa.St
set_option linter.unusedSimpArgs false
theorem itRow_get {b : Buf} {p : Value × Value} : ∀ {bs : List Buf} {ps : List (Value × Value)} {i : Nat}, bs[i]? = some b → ps[i]? = some p →
    (itRow bs ps)[i * 4]? = some (.int .i64 b.kd) ∧ (itRow bs ps)[i * 4 + 1]? = some p.1 ∧ (itRow bs ps)[i * 4 + 2]? = some (.int .i64 b.seed) ∧ (itRow bs ps)[i * 4 + 3]? = some p.2
  | [], _, i, h, _ => by simp at h
  | x :: bs, [], i, _, h => by simp at h
  | x :: bs, y :: ps, 0, h, h2 => by
    simp at h h2; subst h h2
    exact ⟨rfl, rfl, rfl, rfl⟩
  | x :: bs, y :: ps, i + 1, h, h2 => by
    have ih := itRow_get (bs := bs) (ps := ps) (i := i) (by simpa using h) (by simpa using h2)
    have e : ∀ n, (itRow (x :: bs) (y :: ps))[n + 4]? = (itRow bs ps)[n]? := fun n => rfl
    rw [show (i + 1) * 4 = i * 4 + 4 by omega, show i * 4 + 4 + 1 = i * 4 + 1 + 4 by omega, show i * 4 + 4 + 2 = i * 4 + 2 + 4 by omega, show i * 4 + 4 + 3 = i * 4 + 3 + 4 by omega, e, e, e, e]
    exact ih
/-- one item of a list of items -/
theorem ItemsAt.get {w : World} {B : Nat} {v : Value} {bs : List Buf} (h : ItemsAt w B v bs) (hn : 1 ≤ bs.length) : ∃ q cap, v = .slice (some ⟨q, 0, none⟩) bs.length cap ∧ B ≤ q ∧ bs.length ≤ cap ∧ ∀ (i : Nat) (b : Buf), bs[i]? = some b → ∃ lv pv,
    RowAt w 32 ⟨q, i * 4, none⟩ (icells b.kd lv b.seed pv) ∧ w.cell? ⟨q, i * 4, none⟩ = some (.int .i64 b.kd) ∧ w.cell? ⟨q, i * 4 + 1, none⟩ = some lv ∧ w.cell? ⟨q, i * 4 + 2, none⟩ = some (.int .i64 b.seed) ∧ w.cell? ⟨q, i * 4 + 3, none⟩ = some pv ∧
    w.ownsRow B 9 1 lv b.l.length (strs b.l) ∧ w.ownsRow B 91 2 pv (pairsT b.t).length (prow (pairsT b.t)) := by
  obtain ⟨ps, hps, hr, hall⟩ := h
  rcases hr.2 with ⟨_, h0⟩ | ⟨q, cap, cur, hv, hB, hg, h1, h2, h3, h4⟩
  · omega
  · refine ⟨q, cap, hv, hB, h1, fun i b hi => ?_⟩
    have hil := (List.getElem?_eq_some_iff.1 hi).1
    obtain ⟨p, hp⟩ : ∃ p, ps[i]? = some p := ⟨_, List.getElem?_eq_getElem (by omega)⟩
    obtain ⟨g0, g1, g2, g3⟩ := itRow_get hi hp
    have key : ∀ x u, x < bs.length * 4 → (itRow bs ps)[x]? = some u → cur[x]? = some u := fun x u hx hu => by
      rw [← h4, List.getElem?_take_of_lt hx] at hu; simpa using hu
    have k0 := key _ _ (by omega) g0
    have k1 := key _ _ (by omega) g1
    have k2 := key _ _ (by omega) g2
    have k3 := key _ _ (by omega) g3
    refine ⟨p.1, p.2, row_mid hg (D := icells b.kd p.1 b.seed p.2) (n := 4) ?_ u32 rfl rfl info32, ?_, ?_, ?_, ?_, hall i b p hi hp⟩
    · have hz : i * 4 + 4 ≤ cur.size := by omega
      apply Array.ext
      · simp [icells]; omega
      · intro j hj1 hj2
        have hj : j = 0 ∨ j = 1 ∨ j = 2 ∨ j = 3 := by simp [icells] at hj2; omega
        rw [Array.getElem_extract]
        rcases hj with rfl | rfl | rfl | rfl
        · have := (Array.getElem?_eq_some_iff.1 k0).2; simpa [icells] using this
        · have := (Array.getElem?_eq_some_iff.1 k1).2; simpa [icells] using this
        · have := (Array.getElem?_eq_some_iff.1 k2).2; simpa [icells] using this
        · have := (Array.getElem?_eq_some_iff.1 k3).2; simpa [icells] using this
    · rw [cell_of_row _ _ _ _ _ _ hg]; exact k0
    · rw [cell_of_row _ _ _ _ _ _ hg]; exact k1
    · rw [cell_of_row _ _ _ _ _ _ hg]; exact k2
    · rw [cell_of_row _ _ _ _ _ _ hg]; exact k3
def aw1 : OpV := ⟨1, 0, 0, 0, 0, ⟨#[]⟩⟩
def aw2 : OpV := ⟨3, 0, 0, 0, 0, ⟨#[97]⟩⟩
def aw3 : OpV := ⟨2, 0, 1, 0, 0, ⟨#[]⟩⟩
def aw4 : OpV := ⟨3, 1, 0, 0, 0, ⟨#[98]⟩⟩
def awL : List OpV := [aw1, aw2, aw3, aw4]
theorem aw_b1 : Try.prog.built 39 [(0, .int .i64 1)] = some aw1.cells := by kernel_rfl
theorem aw_b2 : Try.prog.built 39 [(0, .int .i64 3), (5, .string ⟨#[97]⟩)] = some aw2.cells := by kernel_rfl
theorem aw_b3 : Try.prog.built 39 [(0, .int .i64 2), (2, .int .i64 1)] = some aw3.cells := by kernel_rfl
theorem aw_b4 : Try.prog.built 39 [(0, .int .i64 3), (1, .int .i64 1), (5, .string ⟨#[98]⟩)] = some aw4.cells := by kernel_rfl
def awC : Array Value := aw1.cells ++ aw2.cells ++ aw3.cells ++ aw4.cells
theorem run_aw (w : World) : (Instr.buildSlice 22 4 #[(0, .agg aw1.cells), (1, .agg aw2.cells), (2, .agg aw3.cells), (3, .agg aw4.cells)]).run Try.prog w = .ok (.slice (some ⟨w.heap.size, 0, none⟩) 4 4) (w.alloc (.cells awC 39)) := by kernel_rfl
theorem ex_aw {ev : Operand → Value} {o : Oper} {w : World} (x y z t : Operand) (ho : o.op = .buildSlice 22 4 #[(0, x), (1, y), (2, z), (3, t)]) (hx : ev x = .agg aw1.cells) (hy : ev y = .agg aw2.cells) (hz : ev z = .agg aw3.cells) (ht : ev t = .agg aw4.cells) :
    (execOp ev o).run Try.prog w = .ok (.value (.slice (some ⟨w.heap.size, 0, none⟩) 4 4)) (w.alloc (.cells awC 39)) := by
  unfold execOp
  simp only [ho, List.map_toArray, List.map_cons, List.map_nil, hx, hy, hz, ht, run_aw w, Sem.run_bind, Result.andThen_ok]
  rfl
theorem aw_ops {w : World} {q : Nat} (h : w.heap[q]? = some (.cells awC 39 (0, 0))) : OpsAt w (some ⟨q, 0, none⟩) 4 awL := ⟨rfl, fun i o ho => by
  rcases i with _ | _ | _ | _ | i
  · simp [awL] at ho; subst ho; exact ⟨q, 0, _, _, _, rfl, h, rfl⟩
  · simp [awL] at ho; subst ho; exact ⟨q, 0, _, _, _, rfl, h, rfl⟩
  · simp [awL] at ho; subst ho; exact ⟨q, 0, _, _, _, rfl, h, rfl⟩
  · simp [awL] at ho; subst ho; exact ⟨q, 0, _, _, _, rfl, h, rfl⟩
  · simp [awL] at ho⟩
theorem aw_0 : (stA awL 4).buf 0 = ⟨1, [⟨#[97]⟩], 0, []⟩ := by kernel_rfl
theorem aw_1 : (stA awL 4).buf 1 = ⟨1, [⟨#[97]⟩, ⟨#[98]⟩], 0, []⟩ := by kernel_rfl
theorem aw_e : errA awL 3 = 0 := by kernel_rfl
set_option maxHeartbeats 2000000 in
set_option maxRecDepth 100000 in
theorem awake_any (w : World) : Calls Try.prog 17 #[] w fun e w' => e = .returned (.bool true) ∧ Below w.heap.size w w' := by
  go_enter Try.func17, Try.ntmps17
  go_upto_region 1 with (fail)
  apply wp_region_lit
  refine wl_val rfl (ex_build 39 _ rfl (L := [(0, .int .i64 1)]) rfl aw_b1) ?_
  simp only [Zp, Zz, Zs]
  refine wl_val rfl (ex_build 39 _ rfl (L := [(0, .int .i64 3), (5, .string ⟨#[97]⟩)]) rfl aw_b2) ?_
  simp only [Zp, Zz, Zs]
  refine wl_val rfl (ex_build 39 _ rfl (L := [(0, .int .i64 2), (2, .int .i64 1)]) rfl aw_b3) ?_
  simp only [Zp, Zz, Zs]
  refine wl_val rfl (ex_build 39 _ rfl (L := [(0, .int .i64 3), (1, .int .i64 1), (5, .string ⟨#[98]⟩)]) rfl aw_b4) ?_
  simp only [Zp, Zz, Zs]
  refine wl_w rfl (ex_aw _ _ _ _ rfl rfl rfl rfl rfl) ?_
  simp only [Zp, Zz, Zs]
  have hb := (Below.refl w.heap.size w).alloc (Nat.le_refl _) (.cells awC 39)
  have hops := aw_ops (w := w.alloc (.cells awC 39)) (q := w.heap.size) (ha_new rfl)
  have HP := Lib.hid (Play_any _ 4 4 awL (by omega) _ hops)
  have hzz := hb.size
  clear hops
  refine wl_ck rfl (fun K hK => ?_); go_simp; refine ⟨_, _, ⟨rfl, rfl⟩, hK _ _ ⟨_, HP.out, ?_⟩⟩; clear hK K; rintro e w1 ⟨iv, ev, rfl, hits, hes, hb1⟩; refine ⟨_, rfl, ?_⟩; simp only [Zp, Zz, Zs]
  obtain ⟨q, cap, rfl, -, -, hall⟩ := hits.get (by simp)
  obtain ⟨lv0, pv0, -, -, k0, -, -, o0, -⟩ := hall 0 _ rfl
  obtain ⟨lv1, pv1, -, -, k1, -, -, o1, -⟩ := hall 1 _ rfl
  replace o0 : w1.ownsRow _ 9 1 lv0 ((stA awL 4).buf 0).l.length (strs ((stA awL 4).buf 0).l) := o0
  replace o1 : w1.ownsRow _ 9 1 lv1 ((stA awL 4).buf 1).l.length (strs ((stA awL 4).buf 1).l) := o1
  rw [aw_0] at o0
  rw [aw_1] at o1
  obtain ⟨A0, d0, rfl⟩ := own_shape o0
  obtain ⟨p1, d1, rfl, -⟩ := own_s o1 (by simp)
  have kb := o1.cellAt 1 (by simp)
  rw [show (strs ([⟨#[97]⟩, ⟨#[98]⟩] : List ByteArray))[1]? = some (.string ⟨#[98]⟩) from rfl] at kb
  obtain ⟨z, d2, rfl⟩ : ∃ z d, ev = .slice (some ⟨z, 0, none⟩) 4 d := by
    rcases hes.2 with ⟨_, h0⟩ | ⟨z, d, cur, hv, _⟩
    · simp at h0
    · exact ⟨z, d, hv⟩
  have ke := hes.cellAt 3 (by simp)
  rw [show (ints ((List.range 4).map (errA awL)))[3]? = some (.int .i64 (errA awL 3)) from rfl, aw_e] at ke
  have HB := Lib.hid (hb.trans (hb1.mono hzz))
  clear hall hits hes o0 o1 HP hb hb1 hzz
  have k0' : w1.cell? ⟨q, 1, none⟩ = some (.slice A0 1 d0) := k0
  have k1' : w1.cell? ⟨q, 5, none⟩ = some (.slice (some ⟨p1, 0, none⟩) 2 d1) := k1
  clear k0 k1
  have hbb : ((⟨#[98]⟩ : ByteArray).toList == (⟨#[98]⟩ : ByteArray).toList) = true := by rw [ba_beq]; simp
  go_wp2_with fail
  go_ret
  exact ⟨rfl, HB.out⟩
end Go.Proofs.Ytbhdgeoljlhmcaa
namespace Go.Proofs.Ytbhdgeoljlhmcaa
open Go.RowKit Go.Proofs.Ytbhdgeoljlhmcaa.Nm Go.Proofs.Ytbhdgeoljlhmcaa.St
set_option linter.unusedSimpArgs false
/-- the buffers of the first names -/
def bufsTo (A : Sto) (k : Nat) : List Buf := (List.range k).map fun (i : Nat) => A.buf (i : Int)
theorem bufsTo_length (A : Sto) (k : Nat) : (bufsTo A k).length = k := by simp [bufsTo]
theorem bufsTo_get (A : Sto) {k i : Nat} (h : i < k) : (bufsTo A k)[i]? = some (A.buf (i : Int)) := by simp [bufsTo, h]
/-- EqItem of two rows of items that hold alike -/
theorem EqItem_at (a b : Buf) {w : World} {B B' : Nat} {v v' : Value} (hl : a.l.length ≤ 1000000) (hp : (pairsT a.t).length ≤ 1000000) (hkd : a.kd = b.kd) (hsd : a.seed = b.seed) (hel : a.l = b.l) (hep : pairsT a.t = pairsT b.t) (h1 : ItemAt w B v a) (h2 : ItemAt w B' v' b) :
    Calls Try.prog 16 #[v, v'] w fun e w' => e = .returned (.bool true) ∧ Below w.heap.size w w' := by
  obtain ⟨A1, c1, A2, c2, rfl, o1, o2⟩ := h1.shape
  obtain ⟨A3, c3, A4, c4, rfl, o3, o4⟩ := h2.shape
  obtain ⟨x1, y1, e1, s1⟩ := own_str o1 rfl
  obtain ⟨x3, y3, e3, s3⟩ := own_str o3 rfl
  obtain ⟨x2, y2, e2, s2⟩ := own_prAt o2 rfl
  obtain ⟨x4, y4, e4, s4⟩ := own_prAt o4 rfl
  cases e1; cases e2; cases e3; cases e4
  exact EqItem_true a b _ _ _ _ _ _ _ _ hl hp w hkd hsd hel hep s1 s2 s3 s4
end Go.Proofs.Ytbhdgeoljlhmcaa
namespace Go.Proofs.Ytbhdgeoljlhmcaa
open Go.RowKit Go.Proofs.Ytbhdgeoljlhmcaa.Nm Go.Proofs.Ytbhdgeoljlhmcaa.St
theorem buf_some {A : Sto} {n : Int} {k : Nat} (h : A.id n = some k) : A.buf n = A.bufs.getD k noBuf := by unfold Sto.buf; rw [h]; rfl
theorem id_lt {A : Sto} (hA : Good A) {n : Int} {k : Nat} (h : A.id n = some k) : k < A.bufs.length := by
  unfold Sto.id at h
  cases hq : A.names[n.toNat]? with
  | none => rw [hq] at h; simp at h
  | some o => rw [hq] at h; simp at h; exact hA.there n.toNat k (by rw [hq, h])
/-- the name that an operation changes -/
def aim (o : OpV) : Int := if o.kind = 1 ∨ o.kind = 2 ∨ o.kind = 6 ∨ o.kind = 8 ∨ o.kind = 11 then o.to else o.fr
end Go.Proofs.Ytbhdgeoljlhmcaa
namespace Go.Proofs.Ytbhdgeoljlhmcaa
open Go.RowKit Go.Proofs.Ytbhdgeoljlhmcaa.Nm Go.Proofs.Ytbhdgeoljlhmcaa.St
theorem wl_valG {ops : Array Oper} {rest : List Oper} {o : Oper} {a : Act} {w : World} {Q : Exit → Act → World → Prop} {v : Value} (hg : Region.wanted o (yielded ops a.tmps) = true) (hv : (execOp a.eval o).run Try.prog w = .ok (.value v) w) (h : wpList Try.prog ops Q rest (a.put o.dst v) w) : wpList Try.prog ops Q (o :: rest) a w :=
  wl_k hg (fun _ hK => ⟨v, hv, hK _ h⟩)
/-- an item held beside a store -/
def HeldI (w : World) (s : Nat) (rs : List Row) (p : Nat) (b : Buf) (A : Option Addr) (c : Nat) (A2 : Option Addr) (c2 : Nat) : Prop :=
  w.heap[p]? = some (.cells (icells b.kd (.slice A b.l.length c) b.seed (.slice A2 (pairsT b.t).length c2)) 32 (0, 0)) ∧ ¬ Foot s rs p ∧ w.ownsRow 0 9 1 (.slice A b.l.length c) b.l.length (strs b.l) ∧ Clear s rs (.slice A b.l.length c) ∧
    w.ownsRow 0 91 2 (.slice A2 (pairsT b.t).length c2) (pairsT b.t).length (prow (pairsT b.t)) ∧ Clear s rs (.slice A2 (pairsT b.t).length c2)
theorem HeldI.below {w w' : World} {s : Nat} {rs : List Row} {p : Nat} {b : Buf} {A : Option Addr} {c : Nat} {A2 : Option Addr} {c2 : Nat} (h : HeldI w s rs p b A c A2 c2) (hb : Below w.heap.size w w') : HeldI w' s rs p b A c A2 c2 :=
  ⟨below_look hb h.1, h.2.1, own_below h.2.2.1 hb, h.2.2.2.1, own_below h.2.2.2.2.1 hb, h.2.2.2.2.2⟩
theorem HeldI.ran {w w' : World} {s : Nat} {rs rs' : List Row} {p : Nat} {b : Buf} {A : Option Addr} {c : Nat} {A2 : Option Addr} {c2 : Nat} (h : HeldI w s rs p b A c A2 c2) (hr : Ran s rs w rs' w') : HeldI w' s rs' p b A c A2 c2 :=
  ⟨(hr.block p (heap_lt h.1) h.2.1).trans h.1, fun hf => (hr.foot p hf).elim h.2.1 (fun e => by have := heap_lt h.1; omega), own_ran h.2.2.1 h.2.2.2.1 hr, h.2.2.2.1.ran (own_lt h.2.2.1) hr, own_ran h.2.2.2.2.1 h.2.2.2.2.2 hr, h.2.2.2.2.2.ran (own_lt h.2.2.2.2.1) hr⟩
theorem HeldI.item {w : World} {s : Nat} {rs : List Row} {p : Nat} {b : Buf} {A : Option Addr} {c : Nat} {A2 : Option Addr} {c2 : Nat} (h : HeldI w s rs p b A c A2 c2) : ItemAt w 0 (.agg (icells b.kd (.slice A b.l.length c) b.seed (.slice A2 (pairsT b.t).length c2))) b :=
  ⟨_, _, rfl, h.2.2.1, h.2.2.2.2.1⟩
theorem buf_small {A : Sto} (hA : Good A) (n : Int) : (A.buf n).l.length ≤ 1000 ∧ (A.buf n).t.length ≤ 1000 := by
  cases hq : A.id n with
  | none => rw [buf_none hq]; exact ⟨Nat.zero_le _, Nat.zero_le _⟩
  | some k =>
    have hl := id_lt hA hq
    have := (hA.bufs k (A.buf n) (by rw [buf_some hq, List.getD_eq_getElem?_getD, List.getElem?_eq_getElem hl]; rfl)).len
    omega
end Go.Proofs.Ytbhdgeoljlhmcaa
namespace Go.Proofs.Ytbhdgeoljlhmcaa
open Go.RowKit Go.Proofs.Ytbhdgeoljlhmcaa.Nm Go.Proofs.Ytbhdgeoljlhmcaa.St
set_option linter.unusedSimpArgs false
theorem GoodB.short {b : Buf} (h : GoodB b) : Short b.t := by
  rcases h with ⟨_, _, h, _⟩ | ⟨_, _, _, _, _, h, _⟩
  · rw [h]; exact fun j => by simp [pl, ek]; decide
  · exact h
end Go.Proofs.Ytbhdgeoljlhmcaa
namespace Go.Proofs.Ytbhdgeoljlhmcaa
open Go.RowKit Go.Proofs.Ytbhdgeoljlhmcaa.Nm Go.Proofs.Ytbhdgeoljlhmcaa.St
/-- what the aim of an operation is behind it -/
def newB (b : Buf) (o : OpV) : Buf :=
  if o.kind = 1 then ⟨1, [], 0, []⟩ else
  if o.kind = 2 then b else
  if o.kind = 3 then { b with l := b.l ++ [o.key] } else
  if o.kind = 4 then (if b.l.getD o.at_.toNat ByteArray.empty = o.key then b else { b with l := b.l.set o.at_.toNat o.key }) else
  if o.kind = 5 then { b with l := b.l.eraseIdx o.at_.toNat } else
  if o.kind = 6 then ⟨1, (b.l.drop o.at_.toNat).take o.n.toNat, 0, []⟩ else
  if o.kind = 7 then (if sortedB b.l then b else { b with l := sortL b.l }) else
  if o.kind = 8 then ⟨2, [], o.n, List.replicate 4 none⟩ else
  if o.kind = 9 then
    (match findT (HH b.seed) b.t o.key with
    | none => { b with t := addT (HH b.seed) b.t o.key o.n }
    | some i => if ev (pl b.t i) = o.n then b else { b with t := setT b.t i o.key o.n }) else
  if o.kind = 10 then
    (match findT (HH b.seed) b.t o.key with
    | none => b
    | some i => { b with t := removeT (HH b.seed) b.t i }) else
  ⟨1, (pairsT b.t).map (·.1), 0, []⟩
/-- the error is a function of what the operation's first name is -/
def refB (b : Buf) (o : OpV) : Int :=
  if formS o = false then 4 else
  if (useG o.kind).kind ≠ 0 ∧ b.kd ≠ (useG o.kind).kind then 141 else
  if ((useG o.kind).key = true ∧ 24 < o.key.size) ∨ (o.kind = 8 ∧ (o.n < 0 ∨ 2147483647 < o.n)) then 4 else
  if (o.kind = 4 ∨ o.kind = 5) ∧ (o.at_ < 0 ∨ (b.l.length : Int) ≤ o.at_) then 241 else
  if o.kind = 6 ∧ (o.at_ < 0 ∨ o.n < 0 ∨ (b.l.length : Int) < o.at_ ∨ (b.l.length : Int) - o.at_ < o.n) then 241 else
  if o.kind = 10 ∧ fnd b.seed b.t o.key < 0 then 250 else
  if o.kind = 3 ∧ 100 ≤ b.l.length then 2 else
  if o.kind = 9 ∧ 100 ≤ cn b.t ∧ fnd b.seed b.t o.key < 0 then 2 else 0
theorem refA_eq (A : Sto) (o : OpV) : refA A o = refB (A.buf o.fr) o := rfl
end Go.Proofs.Ytbhdgeoljlhmcaa
namespace Go.Proofs.Ytbhdgeoljlhmcaa
open Go.RowKit Go.Proofs.Ytbhdgeoljlhmcaa.Nm Go.Proofs.Ytbhdgeoljlhmcaa.St
/-- two buffers with the same value -/
structure SimB (x y : Buf) : Prop where
  kd : x.kd = y.kd
  l : x.l = y.l
  has : ∀ k v, Has x.t k v ↔ Has y.t k v
theorem SimB.refl (x : Buf) : SimB x x := ⟨rfl, rfl, fun _ _ => Iff.rfl⟩
/-- an operation with another seed -/
def Alt (o o' : OpV) : Prop := o' = o ∨ (o.kind = 8 ∧ 0 ≤ o.n ∧ o.n ≤ 2147483647 ∧ ∃ n, o' = { o with n := n } ∧ 0 ≤ n ∧ n ≤ 2147483647)
theorem Alt.same {o o' : OpV} (h : Alt o o') : o'.kind = o.kind ∧ o'.fr = o.fr ∧ o'.to = o.to ∧ o'.at_ = o.at_ ∧ o'.key = o.key := by
  rcases h with rfl | ⟨_, _, _, n, rfl, _⟩ <;> exact ⟨rfl, rfl, rfl, rfl, rfl⟩
end Go.Proofs.Ytbhdgeoljlhmcaa
/- Two stores side by side (plain). -/
namespace Go.Proofs.Ytbhdgeoljlhmcaa
open Go.RowKit Go.Proofs.Ytbhdgeoljlhmcaa.Nm Go.Proofs.Ytbhdgeoljlhmcaa.St
/-- no block of the one store is a block of the other one -/
def Dis (s : Nat) (rs : List Row) (t : Nat) (rt : List Row) : Prop := ∀ q, Foot s rs q → ¬ Foot t rt q
theorem Dis.symm {s t : Nat} {rs rt : List Row} (h : Dis s rs t rt) : Dis t rt s rs := fun q h1 h2 => h q h2 h1
theorem StoreAt.beside {w w' : World} {s t : Nat} {A : Sto} {rs rt rt' : List Row} (h : StoreAt w s A rs) (hr : Ran t rt w rt' w') (hd : Dis s rs t rt) : StoreAt w' s A rs :=
  h.same (fun q hq hf => hr.block q hq (hd q hf))
theorem Dis.ran {w w' : World} {s t : Nat} {A : Sto} {rs rt rt' : List Row} (hd : Dis s rs t rt) (h : StoreAt w s A rs) (hr : Ran t rt w rt' w') : Dis s rs t rt' := fun q h1 h2 => by
  rcases hr.foot q h2 with e | e
  · exact hd q h1 e
  · have := h.lt h1; omega
theorem Nm.Kept.ran {D : List Nat} {W w w' : World} {s : Nat} {rs rs' : List Row} (h : Kept D W w) (hr : Ran s rs w rs' w') (hd : ∀ q, Foot s rs q → q ∈ D ∨ W.heap.size ≤ q) : Kept D W w' :=
  ⟨Nat.le_trans h.size hr.size, fun k hk hn => by
    rw [hr.block k (Nat.lt_of_lt_of_le hk h.size) (fun hf => (hd k hf).elim hn (fun e => by omega))]; exact h.block k hk hn, hr.os.trans h.os, hr.tape.trans h.tape, hr.output.trans h.output⟩
end Go.Proofs.Ytbhdgeoljlhmcaa
/- A store cloned: only the buffers in use, each once (plain). -/
namespace Go.Proofs.Ytbhdgeoljlhmcaa
open Go.RowKit Go.Proofs.Ytbhdgeoljlhmcaa.Nm Go.Proofs.Ytbhdgeoljlhmcaa.St
end Go.Proofs.Ytbhdgeoljlhmcaa
namespace Go.Proofs.Ytbhdgeoljlhmcaa
open Go.RowKit Go.Proofs.Ytbhdgeoljlhmcaa.Nm Go.Proofs.Ytbhdgeoljlhmcaa.St
theorem ltB_iff (x y : ByteArray) : ltB x y = true ↔ x.data.toList < y.data.toList := by
  unfold ltB
  rw [Proofs.bytesLess_eq, ByteArray.toList_eq, ByteArray.toList_eq]
  simp
theorem ltB_irrefl (x : ByteArray) : ltB x x = false := by
  rw [Bool.eq_false_iff]; intro h; exact List.lt_irrefl _ ((ltB_iff x x).1 h)
theorem ltB_trans {x y z : ByteArray} (h1 : ltB x y = true) (h2 : ltB y z = true) : ltB x z = true := (ltB_iff x z).2 (List.lt_trans ((ltB_iff x y).1 h1) ((ltB_iff y z).1 h2))
theorem ltB_asymm {x y : ByteArray} (h : ltB x y = true) : ltB y x = false := by
  rw [Bool.eq_false_iff]; intro h2
  have := ltB_trans h h2
  rw [ltB_irrefl] at this; cases this
theorem ltB_anti {x y : ByteArray} (h1 : ltB x y = false) (h2 : ltB y x = false) : x = y := by
  have a : ¬ x.data.toList < y.data.toList := fun h => by rw [(ltB_iff x y).2 h] at h1; cases h1
  have b : ¬ y.data.toList < x.data.toList := fun h => by rw [(ltB_iff y x).2 h] at h2; cases h2
  have := List.le_antisymm (List.not_lt.1 b) (List.not_lt.1 a)
  exact ByteArray.ext (Array.toList_inj.1 this)
/-- not greater -/
def leB (x y : ByteArray) : Prop := ltB y x = false
theorem leB_trans {x y z : ByteArray} (h1 : leB x y) (h2 : leB y z) : leB x z := by
  unfold leB at *
  rw [Bool.eq_false_iff]; intro h
  by_cases hy : ltB y x = true
  · rw [hy] at h1; cases h1
  · by_cases hzy : ltB x y = true
    · have := ltB_trans h hzy; rw [h2] at this; cases this
    · have e := ltB_anti (Bool.eq_false_iff.2 hzy) h1
      subst e
      rw [h2] at h; cases h
theorem leB_of_lt {x y : ByteArray} (h : ltB x y = true) : leB x y := ltB_asymm h
abbrev Srt (l : List ByteArray) : Prop := l.Pairwise leB
theorem srt_uniq {a b : List ByteArray} (ha : Srt a) (hb : Srt b) (h : a.Perm b) : a = b :=
  List.Perm.eq_of_pairwise (fun _ _ _ _ h1 h2 => ltB_anti h2 h1) ha hb h
theorem mergeL_perm : ∀ (n : Nat) (a b : List ByteArray), a.length + b.length ≤ n → (mergeL a b).Perm (a ++ b)
  | 0, a, b, h => by
    obtain rfl : a = [] := List.length_eq_zero_iff.1 (by omega)
    obtain rfl : b = [] := List.length_eq_zero_iff.1 (by omega)
    rw [mergeL]; simp
  | n + 1, [], b, _ => by rw [mergeL]; simp
  | n + 1, x :: a, [], _ => by rw [mergeL]; simp
  | n + 1, x :: a, y :: b, h => by
    simp only [List.length_cons] at h
    rw [mergeL]
    split
    · have ih := mergeL_perm n (x :: a) b (by simp; omega)
      exact (ih.cons y).trans (List.perm_middle.symm)
    · exact (mergeL_perm n a (y :: b) (by simp; omega)).cons x
theorem mergeL_srt : ∀ (n : Nat) (a b : List ByteArray), a.length + b.length ≤ n → Srt a → Srt b → Srt (mergeL a b)
  | 0, a, b, h, _, _ => by
    obtain rfl : a = [] := List.length_eq_zero_iff.1 (by omega)
    obtain rfl : b = [] := List.length_eq_zero_iff.1 (by omega)
    rw [mergeL]; exact List.Pairwise.nil
  | n + 1, [], b, _, _, hb => by rw [mergeL]; exact hb
  | n + 1, x :: a, [], _, ha, _ => by rw [mergeL]; exact ha
  | n + 1, x :: a, y :: b, h, ha, hb => by
    simp only [List.length_cons] at h
    have ha' := List.pairwise_cons.1 ha
    have hb' := List.pairwise_cons.1 hb
    rw [mergeL]
    split
    · rename_i hlt
      refine List.pairwise_cons.2 ⟨fun z hz => ?_, mergeL_srt n (x :: a) b (by simp; omega) ha hb'.2⟩
      have hz2 := (mergeL_perm _ (x :: a) b (Nat.le_refl _)).mem_iff.1 hz
      rcases List.mem_append.1 hz2 with hz2 | hz2
      · rcases List.mem_cons.1 hz2 with rfl | hz2
        · exact leB_of_lt hlt
        · exact leB_trans (leB_of_lt hlt) (ha'.1 z hz2)
      · exact hb'.1 z hz2
    · rename_i hlt
      have hle : leB x y := Bool.eq_false_iff.2 hlt
      refine List.pairwise_cons.2 ⟨fun z hz => ?_, mergeL_srt n a (y :: b) (by simp; omega) ha'.2 hb⟩
      have hz2 := (mergeL_perm _ a (y :: b) (Nat.le_refl _)).mem_iff.1 hz
      rcases List.mem_append.1 hz2 with hz2 | hz2
      · exact ha'.1 z hz2
      · rcases List.mem_cons.1 hz2 with rfl | hz2
        · exact hle
        · exact leB_trans hle (hb'.1 z hz2)
theorem sortL_both : ∀ (n : Nat) (l : List ByteArray), l.length ≤ n → (sortL l).Perm l ∧ Srt (sortL l)
  | 0, l, h => by
    obtain rfl : l = [] := List.length_eq_zero_iff.1 (by omega)
    rw [sortL]; simp
  | n + 1, l, h => by
    rw [sortL]
    split
    · rename_i h2
      refine ⟨List.Perm.refl _, ?_⟩
      match l, h2 with
      | [], _ => exact List.Pairwise.nil
      | [x], _ => exact List.pairwise_singleton _ _
    · have h1 := sortL_both n (l.take (l.length / 2)) (by rw [List.length_take]; omega)
      have h2 := sortL_both n (l.drop (l.length / 2)) (by rw [List.length_drop]; omega)
      refine ⟨(mergeL_perm _ _ _ (Nat.le_refl _)).trans ((h1.1.append h2.1).trans (by rw [List.take_append_drop])), mergeL_srt _ _ _ (Nat.le_refl _) h1.2 h2.2⟩
theorem sortL_perm (l : List ByteArray) : (sortL l).Perm l := (sortL_both _ l (Nat.le_refl _)).1
theorem sortL_srt (l : List ByteArray) : Srt (sortL l) := (sortL_both _ l (Nat.le_refl _)).2
theorem sortL_of {l m : List ByteArray} (hm : Srt m) (h : m.Perm l) : m = sortL l := srt_uniq hm (sortL_srt l) (h.trans (sortL_perm l).symm)
theorem srt_adj {l : List ByteArray} (h : ∀ i (h2 : i + 1 < l.length), leB l[i] l[i + 1]) : Srt l := by
  induction l with
  | nil => exact List.Pairwise.nil
  | cons x l ih =>
    have ih' := ih (fun i h2 => h (i + 1) (by simp; omega))
    refine List.pairwise_cons.2 ⟨fun z hz => ?_, ih'⟩
    cases l with
    | nil => cases hz
    | cons y l =>
      have h0 := h 0 (by simp)
      rcases List.mem_cons.1 hz with rfl | hz
      · exact h0
      · exact leB_trans h0 ((List.pairwise_cons.1 ih').1 z hz)
theorem sortedB_iff (l : List ByteArray) : sortedB l = true ↔ Srt l := by
  unfold sortedB
  rw [Lib.downOK_iff]
  have hz : l.toArray.size = l.length := by simp
  have hg : ∀ i (h : i < l.length), l.toArray[i]! = l[i] := fun i h => by simp [h]
  constructor
  · intro h
    refine srt_adj (fun i h2 => ?_)
    have h3 := h i (by omega)
    rw [hg i (by omega), hg (i + 1) h2, decide_eq_false_iff_not, ← ltB_iff] at h3
    exact Bool.eq_false_iff.2 h3
  · intro h i h1
    have h3 := List.pairwise_iff_getElem.1 h i (i + 1) (by omega) (by omega) (by omega)
    rw [hg i (by omega), hg (i + 1) (by omega), decide_eq_false_iff_not, ← ltB_iff]
    exact Bool.eq_false_iff.1 h3
theorem sortL_self {l : List ByteArray} (h : Srt l) : sortL l = l := (sortL_of h (List.Perm.refl _)).symm
/-- a list is sorted exactly if sorting does not change it -/
theorem sortedB_eq (l : List ByteArray) : sortedB l = decide (sortL l = l) := by
  rw [← Bool.coe_iff_coe, sortedB_iff, decide_eq_true_eq]
  exact ⟨sortL_self, fun h => h ▸ sortL_srt l⟩
end Go.Proofs.Ytbhdgeoljlhmcaa
namespace Go.Proofs.Ytbhdgeoljlhmcaa
open Go.RowKit Go.Proofs.Ytbhdgeoljlhmcaa.Nm Go.Proofs.Ytbhdgeoljlhmcaa.St
set_option linter.unusedSimpArgs false
theorem run_mk29 {w : World} {n B : Nat} (hn : n ≤ 1000000) (hB : B ≤ w.heap.size) :
    ∃ w', (Instr.makeSlice 29 (.int .i64 0) (.int .i64 (n : Int))).run Try.prog w = .ok (.slice (some ⟨w.heap.size, 0, none⟩) 0 n) w' ∧ w'.ownsRow B 9 1 (.slice (some ⟨w.heap.size, 0, none⟩) 0 n) 0 (strs []) ∧ w.grownBy w' none := by
  obtain ⟨i0, hi, hz0, hz1, hz2⟩ := info_parts info9
  exact run_make_own (P := Try.prog) w B 29 9 i0 _ 1 u29 hi hz0 hz1 .i64 .i64 n (by rw [hz2]; omega) (by unfold maxLen; omega) hB
theorem ex_mkS {ev : Operand → Value} {o : Oper} {w w' : World} {v a b : Value} {T : TypeId} (x y : Operand) (ho : o.op = .makeSlice T x y) (hx : ev x = a) (hy : ev y = b) (hr : (Instr.makeSlice T a b).run Try.prog w = .ok v w') :
    (execOp ev o).run Try.prog w = .ok (.value v) w' := by
  unfold execOp
  simp [ho, hx, hy, hr, Result.andThen]
set_option maxHeartbeats 2000000 in
set_option maxRecDepth 100000 in
theorem CopyStrings_any (A : Option Addr) (n c : Nat) (l : List ByteArray) (hn : n ≤ 1000000) (w : World) (h : StrAt w A n c l) :
    Calls Try.prog 33 #[.slice A n c] w fun e w' => ∃ v', e = .returned v' ∧ w'.ownsRow w.heap.size 9 1 v' n (strs l) ∧ Below w.heap.size w w' := by
  have H := Lib.hid h
  clear h
  go_enter Try.func33, Try.ntmps33
  go_upto_region 1 with (fail)
  apply wp_region_lit
  refine wl_k rfl (fun K hK => ?_); go_simp; refine hK _ ?_; clear hK K
  refine wl_k rfl (fun K hK => ?_); go_simp; refine hK _ ?_; clear hK K
  obtain ⟨w1, hr, ho, hg⟩ := run_mk29 (w := w) hn (Nat.le_refl w.heap.size)
  refine wl_w rfl (ex_mkS _ _ rfl rfl rfl hr) ?_
  simp only [Zp, Zz, Zs]
  have hb := (Below.refl w.heap.size w).grown hg (Nat.le_refl _) (fun q hq => by cases hq)
  have HO := Lib.hid ho
  have HB := Lib.hid hb
  clear hr ho hg hb
  refine wl_k rfl (fun K hK => ?_); go_simp; refine hK _ ?_; clear hK K
  go_wp2_with fail
  go_loopw [3, 4] (fun v i wr => ∃ j : Nat, j ≤ n ∧ i = .int .i64 (j : Int) ∧ Hid (wr.ownsRow w.heap.size 9 1 v j (strs (l.take j))) ∧ Hid (Below w.heap.size w wr)) (fun _ i _ => n - (intOf i).toNat)
  case atStart => exact ⟨0, by omega, rfl, HO, HB⟩
  case round =>
    clear HO HB
    obtain ⟨j, hj, rfl, HO, HB⟩ := hrel
    by_cases hlt : j < n
    · have hltI : (j : Int) < (n : Int) := by omega
      obtain ⟨o, ho⟩ : ∃ o, l[j]? = some o := ⟨_, List.getElem?_eq_getElem (by rw [H.out.1]; exact hlt)⟩
      obtain ⟨ad, rfl, hca⟩ := H.out.cell ho
      have hkey := below_cell HB.out hca
      have HOJ := Lib.hid ho
      clear ho hca
      go_upto_region 5 with (fail)
      apply wp_region_lit
      refine wl_k rfl (fun K hK => ?_); go_simp; refine hK _ ?_; clear hK K
      refine wl_k rfl (fun K hK => ?_); go_simp; refine hK _ ?_; clear hK K
      refine wl_k rfl (fun K hK => ?_); go_simp; refine hK _ ?_; clear hK K
      refine wl_k rfl (fun K hK => ?_); go_simp; refine hK _ ?_; clear hK K
      ((with_reducible apply wl_oneG); exact rfl; exact rfl; exact one9 hkey)
      simp only [Zp, Zz, Zs]
      obtain ⟨v', w', hr, hown, hgr, -⟩ := run_push29 o 29 HO.out HB.out.size (show j ≤ 1000000 by omega)
      have hba := HB.out.alloc (by have := HB.out.size; omega) (.cells #[.string o] 9)
      have hbg := hba.grown hgr hba.size (fun q hq => (HO.out.lt q hq).1)
      refine wl_w rfl (ex_bs29_1 _ rfl rfl) ?_
      simp only [Zp, Zz, Zs]
      refine wl_w rfl (ex_app29 _ _ rfl rfl rfl hr) ?_
      simp only [Zp, Zz, Zs]
      have HO2 : Hid (w'.ownsRow w.heap.size 9 1 v' (j + 1) (strs (l.take (j + 1)))) := Lib.hid (by rw [List.take_add_one, HOJ.out]; exact hown)
      have HB2 := Lib.hid hbg
      clear hr hown hgr hba hbg HO HB
      go_wp2_with fail
      go_roundw
      case rel => exact ⟨j + 1, by omega, by go_num, HO2, HB2⟩
      case measure => simp [intOf]; omega
    · obtain rfl : j = n := by omega
      go_wp2_with fail
      go_ret
      refine ⟨_, rfl, ?_, HB.out⟩
      have h := HO.out
      rwa [List.take_of_length_le (by rw [H.out.1]; exact Nat.le_refl _)] at h
end Go.Proofs.Ytbhdgeoljlhmcaa
namespace Go.Proofs.Ytbhdgeoljlhmcaa
open Go.RowKit Go.Proofs.Ytbhdgeoljlhmcaa.Nm Go.Proofs.Ytbhdgeoljlhmcaa.St
set_option linter.unusedSimpArgs false
section
variable {α : Type} (d : α) (le : α → α → Prop)
/-- insertion under way: the element at k belongs no further right than it stands -/
def Ins (L : List α) (i k : Nat) : Prop := k ≤ i ∧ (∀ a b, a < b → b ≤ i → a ≠ k → b ≠ k → le (L.getD a d) (L.getD b d)) ∧ ∀ b, k < b → b ≤ i → le (L.getD k d) (L.getD b d)
def swp (L : List α) (k : Nat) : List α := (L.set k (L.getD (k - 1) d)).set (k - 1) (L.getD k d)
theorem swp_get {L : List α} {k : Nat} (hk : 0 < k) (hl : k < L.length) (j : Nat) : (swp d L k).getD j d = if j = k - 1 then L.getD k d else if j = k then L.getD (k - 1) d else L.getD j d := by
  unfold swp
  simp only [List.getD_eq_getElem?_getD, List.getElem?_set]
  by_cases h1 : j = k - 1
  · subst h1
    rw [if_pos rfl, if_pos rfl, if_pos (by rw [List.length_set]; omega)]; rfl
  · rw [if_neg (fun e => h1 e.symm), if_neg h1]
    by_cases h2 : j = k
    · subst h2
      rw [if_pos rfl, if_pos rfl, if_pos hl]; rfl
    · rw [if_neg (fun e => h2 e.symm), if_neg h2]
theorem swp_perm {L : List α} {k : Nat} (hk : 0 < k) (hl : k < L.length) : (swp d L k).Perm L := by
  obtain ⟨m, rfl⟩ : ∃ m, k = m + 1 := ⟨k - 1, by omega⟩
  have e1 : L.getD m d = L[m] := by rw [List.getD_eq_getElem?_getD, List.getElem?_eq_getElem (by omega)]; rfl
  have e2 : L.getD (m + 1) d = L[m + 1] := by rw [List.getD_eq_getElem?_getD, List.getElem?_eq_getElem hl]; rfl
  have hL : L = L.take m ++ L[m] :: L[m + 1] :: L.drop (m + 2) := by
    rw [← List.drop_eq_getElem_cons hl, ← List.drop_eq_getElem_cons (by omega), List.take_append_drop]
  have hs : swp d L (m + 1) = L.take m ++ L[m + 1] :: L[m] :: L.drop (m + 2) := by
    unfold swp
    rw [Nat.add_sub_cancel, e1, e2]
    apply List.ext_getElem?
    intro j
    rw [List.getElem?_set, List.getElem?_set, List.length_set]
    have ht : (L.take m).length = m := by rw [List.length_take]; omega
    by_cases h1 : m = j
    · subst h1
      rw [if_pos rfl, if_pos (by omega), List.getElem?_append_right (by omega), ht, Nat.sub_self]; rfl
    · rw [if_neg h1]
      by_cases h2 : m + 1 = j
      · subst h2
        rw [if_pos rfl, if_pos hl, List.getElem?_append_right (by omega), ht, show m + 1 - m = 1 by omega]; rfl
      · rw [if_neg h2]
        by_cases h3 : j < m
        · rw [List.getElem?_append_left (by omega), List.getElem?_take_of_lt h3]
        · rw [List.getElem?_append_right (by omega), ht, show j - m = (j - m - 2) + 2 by omega, List.getElem?_cons_succ, List.getElem?_cons_succ, List.getElem?_drop]
          congr 1; omega
  rw [hs]
  conv => rhs; rw [hL]
  exact (List.Perm.swap _ _ _).append_left _
variable {d le}
theorem ins_start {L : List α} {i : Nat} (h : ∀ a b, a < b → b < i → le (L.getD a d) (L.getD b d)) : Ins d le L i i :=
  ⟨Nat.le_refl _, fun a b h1 h2 h3 h4 => h a b h1 (by omega), fun b h1 h2 => by omega⟩
theorem ins_step {L : List α} {i k : Nat} (h : Ins d le L i k) (hk : 0 < k) (hi : i < L.length) (hle : le (L.getD k d) (L.getD (k - 1) d)) : Ins d le (swp d L k) i (k - 1) := by
  obtain ⟨h1, h2, h3⟩ := h
  have g := fun j => swp_get d (L := L) hk (by omega) j
  refine ⟨by omega, fun a b hab hb ha1 hb1 => ?_, fun b hb1 hb2 => ?_⟩
  · rw [g, g, if_neg ha1, if_neg hb1]
    by_cases ea : a = k
    · rw [if_pos ea, if_neg (by omega)]; exact h2 (k - 1) b (by omega) hb (by omega) (by omega)
    · rw [if_neg ea]
      by_cases eb : b = k
      · rw [if_pos eb]; exact h2 a (k - 1) (by omega) (by omega) ea (by omega)
      · rw [if_neg eb]; exact h2 a b hab hb ea eb
  · rw [g, g, if_pos rfl, if_neg (by omega)]
    by_cases eb : b = k
    · rw [if_pos eb]; exact hle
    · rw [if_neg eb]; exact h3 b (by omega) hb2
theorem ins_end (ht : ∀ x y z, le x y → le y z → le x z) {L : List α} {i k : Nat} (h : Ins d le L i k) (he : k = 0 ∨ le (L.getD (k - 1) d) (L.getD k d)) : ∀ a b, a < b → b < i + 1 → le (L.getD a d) (L.getD b d) := fun a b hab hb => by
  obtain ⟨h1, h2, h3⟩ := h
  by_cases ea : a = k
  · subst ea; exact h3 b hab (by omega)
  · by_cases eb : b = k
    · subst eb
      have he' := he.resolve_left (by omega)
      by_cases e : a = b - 1
      · subst e; exact he'
      · exact ht _ _ _ (h2 a (b - 1) (by omega) (by omega) ea (by omega)) he'
    · exact h2 a b hab (by omega) ea eb
theorem ins_all {L : List α} (h : ∀ a b, a < b → b < L.length → le (L.getD a d) (L.getD b d)) : L.Pairwise le :=
  List.pairwise_iff_getElem.2 fun a b ha hb hab => by
    have h1 := h a b hab hb
    rwa [List.getD_eq_getElem?_getD, List.getD_eq_getElem?_getD, List.getElem?_eq_getElem ha, List.getElem?_eq_getElem hb] at h1
end
theorem own_setN {w : World} {B p cap n : Nat} {l : List ByteArray} (h : w.ownsRow B 9 1 (.slice (some ⟨p, 0, none⟩) n cap) n (strs l)) (hl : l.length = n) (i : Nat) (k : ByteArray) :
    (w.setCell ⟨p, i, none⟩ (.string k)).ownsRow B 9 1 (.slice (some ⟨p, 0, none⟩) n cap) n (strs (l.set i k)) := by
  subst hl
  have := own_setS h i k
  rwa [List.length_set] at this
theorem own_there {w : World} {B p cap n : Nat} {l : List ByteArray} (h : w.ownsRow B 9 1 (.slice (some ⟨p, 0, none⟩) n cap) n (strs l)) (hl : l.length = n) {i : Nat} (hi : i < n) : (w.cell? ⟨p, i, none⟩).isSome = true := by
  rw [h.cellAt i (by omega)]
  unfold strs
  rw [List.getElem?_map, List.getElem?_eq_getElem (by omega)]; rfl
set_option maxHeartbeats 4000000 in
set_option maxRecDepth 100000 in
theorem SortedI_any (A : Option Addr) (n c : Nat) (l : List ByteArray) (hn : n ≤ 100000) (w : World) (h : StrAt w A n c l) :
    Calls Try.prog 28 #[.slice A n c] w fun e w' => ∃ v', e = .returned v' ∧ w'.ownsRow w.heap.size 9 1 v' n (strs (sortL l)) ∧ Below w.heap.size w w' := by
  have H := Lib.hid h
  have HN := Lib.hid h.1
  clear h
  go_enter Try.func28, Try.ntmps28
  go_upto_region 1 with (fail)
  apply wp_region_lit
  refine wl_k rfl (fun K hK => ?_); go_simp; refine hK _ ?_; clear hK K
  refine wl_ck rfl (fun K hK => ?_); go_simp; refine ⟨_, _, ⟨rfl, rfl⟩, hK _ _ ⟨_, CopyStrings_any A n c l (by omega) _ H.out, ?_⟩⟩; clear hK K; rintro e w1 ⟨v', rfl, ho, hb⟩; refine ⟨_, rfl, ?_⟩; simp only [Zp, Zz, Zs]
  have HO := Lib.hid ho
  have HB := Lib.hid hb
  obtain ⟨P, d, rfl⟩ := own_shape ho
  clear ho hb
  go_wp2_with fail
  go_loopw [4] (fun i wr => ∃ (j : Nat) (L : List ByteArray), j ≤ n ∧ i = .int .i64 (j : Int) ∧ Hid (L.Perm l) ∧ Hid (∀ a b, a < b → b < j → leB (L.getD a ByteArray.empty) (L.getD b ByteArray.empty)) ∧ Hid (wr.ownsRow w.heap.size 9 1 (.slice P n d) n (strs L)) ∧ Hid (Below w.heap.size w wr)) (fun i _ => n - (intOf i).toNat)
  case atStart => exact ⟨0, l, by omega, rfl, Lib.hid (List.Perm.refl _), Lib.hid (fun a b h1 h2 => by omega), HO, HB⟩
  case round =>
    clear HO HB
    obtain ⟨i, L0, hi, rfl, HP0, HS0, HO, HB⟩ := hrel
    by_cases hin : i < n
    · have hiI : (i : Int) < (n : Int) := by omega
      obtain ⟨p, d', e, hcap⟩ := own_s HO.out (by omega)
      simp only [Value.slice.injEq] at e
      obtain ⟨rfl, -, rfl⟩ := e
      have HI := Lib.hid (ins_start HS0.out)
      go_upto_region 5 with (fail)
      apply wp_region_lit
      refine wl_k rfl (fun K hK => ?_); go_simp; refine hK _ ?_; clear hK K
      refine wl_k rfl (fun K hK => ?_); go_simp; refine hK _ ?_; clear hK K
      clear HS0
      go_wp2_with fail
      go_loopw [5] (fun kv wr2 => ∃ (k : Nat) (L : List ByteArray), kv = .int .i64 (k : Int) ∧ k ≤ i ∧ Hid (L.Perm l) ∧ Hid (Ins ByteArray.empty leB L i k) ∧ Hid (wr2.ownsRow w.heap.size 9 1 (.slice (some ⟨p, 0, none⟩) n d) n (strs L)) ∧ Hid (Below w.heap.size w wr2)) (fun kv _ => (intOf kv).toNat)
      case atStart => exact ⟨i, L0, rfl, Nat.le_refl _, HP0, HI, HO, HB⟩
      case round =>
        clear HP0 HI HO HB
        obtain ⟨k, L, rfl, hki, HP, HI, HO, HB⟩ := hrel
        have hLn := HP.out.length_eq.trans HN.out
        have hzp := (HO.out.lt p rfl).1
        by_cases hk0 : k = 0
        · subst hk0
          have HE := Lib.hid (ins_end (le := leB) (fun _ _ _ h1 h2 => leB_trans h1 h2) HI.out (Or.inl rfl))
          go_upto_region 6 with (fail)
          refine wp_region_held_drew (S := Below w.heap.size w) mixed HB.out.drew (fun hS => ?_)
          refine hk3 (i := 0) rfl (by kernel_rfl) (fun _ _ _ _ h => h) hS rfl (fun K hK => ?_); go_simp; refine hK _ ?_; clear hK K; try simp only [Zp, Zz, Zs]
          refine hk3 (i := 1) rfl (by kernel_rfl) (fun _ _ _ _ h => h) hS rfl (fun K hK => ?_); go_simp; refine hK _ ?_; clear hK K; try simp only [Zp, Zz, Zs]
          refine hk3 (i := 2) rfl (by kernel_rfl) (fun _ _ _ _ h => h) hS rfl (fun K hK => ?_); go_simp; refine hK _ ?_; clear hK K; try simp only [Zp, Zz, Zs]
          refine hs3 (i := 3) rfl (by kernel_rfl) (fun _ _ _ h => h) hS rfl ?_; simp only [Za, Zb, Zc, Zp, Zz, Zs]
          refine hs3 (i := 4) rfl (by kernel_rfl) (fun _ _ _ h => h) hS rfl ?_; simp only [Za, Zb, Zc, Zp, Zz, Zs]
          refine hs3 (i := 5) rfl (by kernel_rfl) (fun _ _ _ h => h) hS rfl ?_; simp only [Za, Zb, Zc, Zp, Zz, Zs]
          refine hs3 (i := 6) rfl (by kernel_rfl) (fun _ _ _ h => h) hS rfl ?_; simp only [Za, Zb, Zc, Zp, Zz, Zs]
          refine hs3 (i := 7) rfl (by kernel_rfl) (fun _ _ _ h => h) hS rfl ?_; simp only [Za, Zb, Zc, Zp, Zz, Zs]
          refine hs3 (i := 8) rfl (by kernel_rfl) (fun _ _ _ h => h) hS rfl ?_; simp only [Za, Zb, Zc, Zp, Zz, Zs]
          refine hs3 (i := 9) rfl (by kernel_rfl) (fun _ _ _ h => h) hS rfl ?_; simp only [Za, Zb, Zc, Zp, Zz, Zs]
          refine hs3 (i := 10) rfl (by kernel_rfl) (fun _ _ _ h => h) hS rfl ?_; simp only [Za, Zb, Zc, Zp, Zz, Zs]
          refine hs3 (i := 11) rfl (by kernel_rfl) (fun _ _ _ h => h) hS rfl ?_; simp only [Za, Zb, Zc, Zp, Zz, Zs]
          refine hs3 (i := 12) rfl (by kernel_rfl) (fun _ _ _ h => h) hS rfl ?_; simp only [Za, Zb, Zc, Zp, Zz, Zs]
          refine hk3 (i := 13) rfl (by kernel_rfl) (fun _ _ _ _ h => h) hS rfl (fun K hK => ?_); go_simp; refine hK _ ?_; clear hK K; try simp only [Zp, Zz, Zs]
          refine wpAnyH_done (by kernel_rfl) ?_ _
          have HO2 := Lib.hid (own_below HO.out (Below.refl _ wr).drew)
          have HB2 := Lib.hid hS
          go_wp2_with fail
          go_roundw
          case rel => exact ⟨i + 1, L, by omega, by go_num, HP, HE, HO2, HB2⟩
          case measure => simp [intOf]; omega
        · have hkI : (0 : Int) < (k : Int) := by omega
          have hkN : 0 < k := by omega
          have hdN : decide (0 < k) = true := by simpa using hkN
          have hk1 : IntKind.i64.wrap ((k : Int) - 1) = ((k - 1 : Nat) : Int) := by rw [wrap_small _ (by omega) (by omega)]; omega
          have hkn : k < n := by omega
          have hkn1 : k - 1 < n := by omega
          have hxk : L[k]? = some (L.getD k ByteArray.empty) := by rw [List.getD_eq_getElem?_getD, List.getElem?_eq_getElem (by omega)]; rfl
          have hxk1 : L[k - 1]? = some (L.getD (k - 1) ByteArray.empty) := by rw [List.getD_eq_getElem?_getD, List.getElem?_eq_getElem (by omega)]; rfl
          obtain ⟨x, hx⟩ : ∃ x, x = L.getD k ByteArray.empty := ⟨_, rfl⟩
          obtain ⟨y, hy⟩ : ∃ y, y = L.getD (k - 1) ByteArray.empty := ⟨_, rfl⟩
          have HX := Lib.hid hx
          have HY := Lib.hid hy
          have hc1 : wr.cell? ⟨p, k, none⟩ = some (.string x) := by rw [HO.out.cellAt k (by omega), hx]; exact strs_get hxk
          have hc2 : wr.cell? ⟨p, k - 1, none⟩ = some (.string y) := by rw [HO.out.cellAt (k - 1) (by omega), hy]; exact strs_get hxk1
          clear hxk hxk1 hx hy
          go_upto_region 6 with (fail)
          refine wp_region_held_drew (S := Kept [] wr) mixed (Kept.drew [] wr) (fun hS => ?_)
          refine hk3 (i := 0) rfl (by kernel_rfl) (fun _ _ _ _ h => h) hS rfl (fun K hK => ?_); go_simp; refine hK _ ?_; clear hK K; try simp only [Zp, Zz, Zs]
          refine hk3 (i := 1) rfl (by kernel_rfl) (fun _ _ _ _ h => h) hS rfl (fun K hK => ?_); go_simp; refine hK _ ?_; clear hK K; try simp only [Zp, Zz, Zs]
          refine hk3 (i := 2) rfl (by kernel_rfl) (fun _ _ _ _ h => h) hS rfl (fun K hK => ?_); go_simp; refine hK _ ?_; clear hK K; try simp only [Zp, Zz, Zs]
          refine hk3 (i := 3) rfl (by kernel_rfl) (fun _ _ _ _ h => h) hS rfl (fun K hK => ?_); go_simp; refine hK _ ?_; clear hK K; try simp only [Zp, Zz, Zs]
          refine hk3 (i := 4) rfl (by kernel_rfl) (fun _ _ _ _ h => h) hS rfl (fun K hK => ?_); go_simp; refine hK _ ?_; clear hK K; try simp only [Zp, Zz, Zs]
          refine ha_val (i := 5) (v := .pointer (some ⟨p, k, none⟩)) rfl (by kernel_rfl) (by kernel_rfl) (by kernel_rfl) (fun _ _ _ h => h) hS (by kernel_rfl) (fun w' _ => (ex_ixS (j := k) _ _ rfl rfl rfl hkn).trans (by rw [Addr.add_mid, Nat.zero_add])) ?_; try simp only [Zp, Zz, Zs]
          refine hv3 (i := 6) rfl (by kernel_rfl) (fun _ _ _ h => h) hS (by kernel_rfl) (fun w' hw' => ex_one rfl (one9 (hw'.cell hc1 (by simp)))) ?_; try simp only [Zp, Zz, Zs]
          refine hk3 (i := 7) rfl (by kernel_rfl) (fun _ _ _ _ h => h) hS rfl (fun K hK => ?_); go_simp; refine hK _ ?_; clear hK K; try simp only [Zp, Zz, Zs]
          refine hk3 (i := 8) rfl (by kernel_rfl) (fun _ _ _ _ h => h) hS rfl (fun K hK => ?_); go_simp; refine hK _ ?_; clear hK K; try simp only [Zp, Zz, Zs]
          refine hk3 (i := 9) rfl (by kernel_rfl) (fun _ _ _ _ h => h) hS rfl (fun K hK => ?_); go_simp; refine hK _ ?_; clear hK K; try simp only [Zp, Zz, Zs]
          try rw [hk1]
          refine ha_val (i := 10) (v := .pointer (some ⟨p, k - 1, none⟩)) rfl (by kernel_rfl) (by kernel_rfl) (by kernel_rfl) (fun _ _ _ h => h) hS (by kernel_rfl) (fun w' _ => (ex_ixS (j := k - 1) _ _ rfl rfl rfl hkn1).trans (by rw [Addr.add_mid, Nat.zero_add])) ?_; try simp only [Zp, Zz, Zs]
          refine hv3 (i := 11) rfl (by kernel_rfl) (fun _ _ _ h => h) hS (by kernel_rfl) (fun w' hw' => ex_one rfl (one9 (hw'.cell hc2 (by simp)))) ?_; try simp only [Zp, Zz, Zs]
          refine hk3 (i := 12) rfl (by kernel_rfl) (fun _ _ _ _ h => h) hS rfl (fun K hK => ?_); go_simp; refine hK _ ?_; clear hK K; try simp only [Zp, Zz, Zs]
          rw [show Op.bytesLess x.toList y.toList = ltB x y from rfl]
          refine hk3 (i := 13) rfl (by kernel_rfl) (fun _ _ _ _ h => h) hS rfl (fun K hK => ?_); go_simp; refine hK _ ?_; clear hK K; try simp only [Zp, Zz, Zs]
          refine wpAnyH_done (by kernel_rfl) ?_ _
          have HOd := Lib.hid (own_below HO.out (Below.refl _ wr).drew)
          replace HB := Lib.hid HB.out.drew
          replace hc1 : wr.drew.cell? _ = _ := hc1
          replace hc2 : wr.drew.cell? _ = _ := hc2
          clear hS HO
          generalize wr.drew = wr at *
          obtain ⟨q, hq⟩ : ∃ q, q = ltB x y := ⟨_, rfl⟩
          have HQ := Lib.hid hq
          rw [← hq]
          clear hq
          cases q with
          | true =>
            have hth1 : (wr.cell? ⟨p, k, none⟩).isSome = true := by rw [hc1]; rfl
            have hfr1 := HOd.out.frozenAt k
            have HLE : Hid (leB (L.getD k ByteArray.empty) (L.getD (k - 1) ByteArray.empty)) := Lib.hid (leB_of_lt (by rw [← HX.out, ← HY.out]; exact HQ.out.symm))
            have HIS := Lib.hid (ins_step HI.out (by omega) (by omega) HLE.out)
            have HPS := Lib.hid ((swp_perm ByteArray.empty (L := L) (k := k) (by omega) (by omega)).trans HP.out)
            have HSW : Hid (swp ByteArray.empty L k = (L.set k y).set (k - 1) x) := Lib.hid (by unfold swp; rw [← HX.out, ← HY.out])
            clear HLE HQ HI HP
            go_upto_region 8 with (fail)
            refine wp_region_held_drew (S := Kept [p] wr) mixed (Kept.drew [p] wr) (fun hS => ?_)
            refine hk3 (i := 0) rfl (by kernel_rfl) (fun _ _ _ _ h => h) hS rfl (fun K hK => ?_); go_simp; refine hK _ ?_; clear hK K; try simp only [Zp, Zz, Zs]
            refine hk3 (i := 1) rfl (by kernel_rfl) (fun _ _ _ _ h => h) hS rfl (fun K hK => ?_); go_simp; refine hK _ ?_; clear hK K; try simp only [Zp, Zz, Zs]
            refine hk3 (i := 2) rfl (by kernel_rfl) (fun _ _ _ _ h => h) hS rfl (fun K hK => ?_); go_simp; refine hK _ ?_; clear hK K; try simp only [Zp, Zz, Zs]
            refine hk3 (i := 3) rfl (by kernel_rfl) (fun _ _ _ _ h => h) hS rfl (fun K hK => ?_); go_simp; refine hK _ ?_; clear hK K; try simp only [Zp, Zz, Zs]
            refine hk3 (i := 4) rfl (by kernel_rfl) (fun _ _ _ _ h => h) hS rfl (fun K hK => ?_); go_simp; refine hK _ ?_; clear hK K; try simp only [Zp, Zz, Zs]
            refine hk3 (i := 5) rfl (by kernel_rfl) (fun _ _ _ _ h => h) hS rfl (fun K hK => ?_); go_simp; refine hK _ ?_; clear hK K; try simp only [Zp, Zz, Zs]
            refine hk3 (i := 6) rfl (by kernel_rfl) (fun _ _ _ _ h => h) hS rfl (fun K hK => ?_); go_simp; refine hK _ ?_; clear hK K; try simp only [Zp, Zz, Zs]
            refine hk3 (i := 7) rfl (by kernel_rfl) (fun _ _ _ _ h => h) hS rfl (fun K hK => ?_); go_simp; refine hK _ ?_; clear hK K; try simp only [Zp, Zz, Zs]
            try rw [hk1]
            refine ha_val (i := 8) (v := .pointer (some ⟨p, k - 1, none⟩)) rfl (by kernel_rfl) (by kernel_rfl) (by kernel_rfl) (fun _ _ _ h => h) hS (by kernel_rfl) (fun w' _ => (ex_ixS (j := k - 1) _ _ rfl rfl rfl hkn1).trans (by rw [Addr.add_mid, Nat.zero_add])) ?_; try simp only [Zp, Zz, Zs]
            refine hk3 (i := 10) rfl (by kernel_rfl) (fun _ _ _ _ h => h) hS rfl (fun K hK => ?_); go_simp; refine hK _ ?_; clear hK K; try simp only [Zp, Zz, Zs]
            refine hk3 (i := 11) rfl (by kernel_rfl) (fun _ _ _ _ h => h) hS rfl (fun K hK => ?_); go_simp; refine hK _ ?_; clear hK K; try simp only [Zp, Zz, Zs]
            refine ha_val (i := 12) (v := .pointer (some ⟨p, k, none⟩)) rfl (by kernel_rfl) (by kernel_rfl) (by kernel_rfl) (fun _ _ _ h => h) hS (by kernel_rfl) (fun w' _ => (ex_ixS (j := k) _ _ rfl rfl rfl hkn).trans (by rw [Addr.add_mid, Nat.zero_add])) ?_; try simp only [Zp, Zz, Zs]
            have hd1 : wr.drew.cell? ⟨p, k, none⟩ = some (.string x) := hc1
            have hd2 : wr.drew.cell? ⟨p, k - 1, none⟩ = some (.string y) := hc2
            refine ha_two (i := 9) (j := 13) (by kernel_rfl) ?_ ?_
            · refine sh_val (i := 9) rfl rfl (ex_one rfl (one9 hd2)) hS ?_; try simp only [Zp, Zz, Zs]
              refine ha_do (i := 13) (by kernel_rfl) rfl rfl (ex_one rfl (one9 hd1)) hS ?_; try simp only [Zp, Zz, Zs]
              refine ha_val (i := 14) (v := .pointer (some ⟨p, k, none⟩)) rfl (by kernel_rfl) (by kernel_rfl) (by kernel_rfl) (fun _ _ _ h => h) hS (by kernel_rfl) (fun w' _ => (ex_ixS (j := k) _ _ rfl rfl rfl hkn).trans (by rw [Addr.add_mid, Nat.zero_add])) ?_; try simp only [Zp, Zz, Zs]
              have hown1 : (wr.drew.setCell ⟨p, k, none⟩ (.string y)).ownsRow w.heap.size 9 1 (.slice (some ⟨p, 0, none⟩) n d) n (strs (L.set k y)) := own_setN HOd.out hLn k y
              have hth2 : ((wr.drew.setCell ⟨p, k, none⟩ (.string y)).cell? ⟨p, k - 1, none⟩).isSome = true := own_there hown1 (by rw [List.length_set, hLn]) (by omega)
              have hfr2 := hown1.frozenAt (k - 1)
              refine ha_storeC (i := 15) (by kernel_rfl) rfl rfl 9 _ _ rfl p k (.string y) rfl rfl (by kernel_rfl) rfl hth1 hfr1 (hS.setCell (by simp) k _) (fun hS => ?_); try simp only [Zp, Zz, Zs]
              refine ha_val (i := 16) (v := .pointer (some ⟨p, k - 1, none⟩)) rfl (by kernel_rfl) (by kernel_rfl) (by kernel_rfl) (fun _ _ _ h => h) hS (by kernel_rfl) (fun w' _ => (ex_ixS (j := k - 1) _ _ rfl rfl rfl hkn1).trans (by rw [Addr.add_mid, Nat.zero_add])) ?_; try simp only [Zp, Zz, Zs]
              refine ha_storeC (i := 17) (by kernel_rfl) rfl rfl 9 _ _ rfl p (k - 1) (.string x) rfl rfl (by kernel_rfl) rfl hth2 hfr2 (hS.setCell (by simp) (k - 1) _) (fun hS => ?_); try simp only [Zp, Zz, Zs]
              refine wpAnyH_done (by kernel_rfl) ?_ _
              have HO2 : Hid (World.ownsRow _ w.heap.size 9 1 (.slice (some ⟨p, 0, none⟩) n d) n (strs (swp ByteArray.empty L k))) := Lib.hid (by rw [HSW.out]; exact own_setN hown1 (by rw [List.length_set, hLn]) (k - 1) x)
              have HB2 := Lib.hid (HB.out.trans (hS.toBelow HB.out.size (fun q hq => by simp at hq; omega)))
              clear hown1 hth2 hfr2 hS
              go_wp2_with fail
              go_roundw
              case rel => exact ⟨k - 1, swp ByteArray.empty L k, rfl, by omega, HPS, HIS, HO2, HB2⟩
              case measure => simp [intOf]; omega
            · refine sh_val (i := 13) rfl rfl (ex_one rfl (one9 hd1)) hS ?_; try simp only [Zp, Zz, Zs]
              refine ha_do (i := 9) (by kernel_rfl) rfl rfl (ex_one rfl (one9 hd2)) hS ?_; try simp only [Zp, Zz, Zs]
              refine ha_val (i := 14) (v := .pointer (some ⟨p, k, none⟩)) rfl (by kernel_rfl) (by kernel_rfl) (by kernel_rfl) (fun _ _ _ h => h) hS (by kernel_rfl) (fun w' _ => (ex_ixS (j := k) _ _ rfl rfl rfl hkn).trans (by rw [Addr.add_mid, Nat.zero_add])) ?_; try simp only [Zp, Zz, Zs]
              have hown1 : (wr.drew.setCell ⟨p, k, none⟩ (.string y)).ownsRow w.heap.size 9 1 (.slice (some ⟨p, 0, none⟩) n d) n (strs (L.set k y)) := own_setN HOd.out hLn k y
              have hth2 : ((wr.drew.setCell ⟨p, k, none⟩ (.string y)).cell? ⟨p, k - 1, none⟩).isSome = true := own_there hown1 (by rw [List.length_set, hLn]) (by omega)
              have hfr2 := hown1.frozenAt (k - 1)
              refine ha_storeC (i := 15) (by kernel_rfl) rfl rfl 9 _ _ rfl p k (.string y) rfl rfl (by kernel_rfl) rfl hth1 hfr1 (hS.setCell (by simp) k _) (fun hS => ?_); try simp only [Zp, Zz, Zs]
              refine ha_val (i := 16) (v := .pointer (some ⟨p, k - 1, none⟩)) rfl (by kernel_rfl) (by kernel_rfl) (by kernel_rfl) (fun _ _ _ h => h) hS (by kernel_rfl) (fun w' _ => (ex_ixS (j := k - 1) _ _ rfl rfl rfl hkn1).trans (by rw [Addr.add_mid, Nat.zero_add])) ?_; try simp only [Zp, Zz, Zs]
              refine ha_storeC (i := 17) (by kernel_rfl) rfl rfl 9 _ _ rfl p (k - 1) (.string x) rfl rfl (by kernel_rfl) rfl hth2 hfr2 (hS.setCell (by simp) (k - 1) _) (fun hS => ?_); try simp only [Zp, Zz, Zs]
              refine wpAnyH_done (by kernel_rfl) ?_ _
              have HO2 : Hid (World.ownsRow _ w.heap.size 9 1 (.slice (some ⟨p, 0, none⟩) n d) n (strs (swp ByteArray.empty L k))) := Lib.hid (by rw [HSW.out]; exact own_setN hown1 (by rw [List.length_set, hLn]) (k - 1) x)
              have HB2 := Lib.hid (HB.out.trans (hS.toBelow HB.out.size (fun q hq => by simp at hq; omega)))
              clear hown1 hth2 hfr2 hS
              go_wp2_with fail
              go_roundw
              case rel => exact ⟨k - 1, swp ByteArray.empty L k, rfl, by omega, HPS, HIS, HO2, HB2⟩
              case measure => simp [intOf]; omega
          | false =>
            have HE := Lib.hid (ins_end (le := leB) (fun _ _ _ h1 h2 => leB_trans h1 h2) HI.out (Or.inr (by unfold leB; rw [← HX.out, ← HY.out]; exact HQ.out.symm)))
            go_wp2_with fail
            go_roundw
            case rel => exact ⟨i + 1, L, by omega, by go_num, HP, HE, HOd, HB⟩
            case measure => simp [intOf]; omega
    · obtain rfl : i = n := by omega
      go_wp2_with fail
      go_ret
      refine ⟨_, rfl, ?_, HB.out⟩
      rw [← sortL_of (ins_all (d := ByteArray.empty) (fun a b h1 h2 => HS0.out a b h1 (by rw [HP0.out.length_eq, HN.out] at h2; exact h2))) HP0.out]
      exact HO.out
end Go.Proofs.Ytbhdgeoljlhmcaa
namespace Go.Proofs.Ytbhdgeoljlhmcaa
open Go.RowKit Go.Proofs.Ytbhdgeoljlhmcaa.Nm Go.Proofs.Ytbhdgeoljlhmcaa.St
set_option linter.unusedSimpArgs false
abbrev Ent := ByteArray × Int
theorem prow_one (l : List Ent) : ∀ u ∈ prow l, u.oneCell' = true := by
  intro u hu
  simp only [prow, List.mem_flatMap] at hu
  obtain ⟨e, _, he⟩ := hu
  simp at he
  rcases he with rfl | rfl <;> rfl
theorem prow_append (l m : List Ent) : prow (l ++ m) = prow l ++ prow m := by simp [prow]
theorem own_cells {w : World} {B n e size : Nat} {v : Value} {xs : List Value} (h : w.ownsRow B e size v n xs) {p cap : Nat} (hv : v = .slice (some ⟨p, 0, none⟩) n cap) : ∀ j u, xs[j]? = some u → w.cell? ((⟨p, 0, none⟩ : Addr).add j) = some u := fun j u hj => by
  rcases h.2 with ⟨h0, _⟩ | ⟨g, cap0, cur, hv2, hB, hg, h1, h2, h3, h4⟩
  · rw [hv] at h0; cases h0
  · rw [hv] at hv2
    cases hv2
    have hjl := (List.getElem?_eq_some_iff.1 hj).1
    rw [Addr.add_mid, Nat.zero_add, cell_of_row _ _ _ _ _ _ hg, ← Array.getElem?_toList]
    rw [← h4, List.getElem?_take_of_lt (by rw [h.1] at hjl; exact hjl)] at hj
    exact hj
/-- entries appended -/
theorem run_app30 {w : World} {B B2 n m : Nat} {v v2 : Value} {l l2 : List Ent} (ty : TypeId) (ho : w.ownsRow B 91 2 v n (prow l)) (hs : w.ownsRow B2 91 2 v2 m (prow l2)) (hB : B ≤ w.heap.size) (h1 : n ≤ 1000000) (h2 : m ≤ 1000000) :
    ∃ v' w', (Builtin.append_ #[30, 30] ty #[v, v2]).run Try.prog w = .ok v' w' ∧ w'.ownsRow B 91 2 v' (n + m) (prow (l ++ l2)) ∧ w.grownBy w' v.ownBlock := by
  obtain ⟨i0, hi, hz0, hz1, hz2⟩ := info_parts infoP
  rcases hs.2 with ⟨rfl, rfl⟩ | ⟨g, cap, cur, hv, hB2, hg, g1, g2, g3, g4⟩
  · have hl : l2 = [] := by
      have h9 := hs.1
      rw [prow_length] at h9
      exact List.length_eq_zero_iff.1 (by omega)
    subst hl
    exact ⟨v, w, run_append_owned_none w B 30 ty 91 i0 2 u30 hi v n _ ho, by simpa using ho, ⟨rfl, rfl, rfl, Nat.le_refl _, fun _ _ _ => rfl⟩⟩
  · subst hv
    obtain ⟨v', w', hr, h3, h4, _, _⟩ := run_append_own_at (P := Try.prog) w B 30 ty 91 i0 _ 2 24 u30 hi hz0 hz1 hz2 rfl (by decide) v n (prow l) ho ⟨g, 0, none⟩ m cap (prow l2) hs.1 (own_cells hs rfl) (prow_one _) (by unfold maxLen; omega) (by omega) hB
    exact ⟨v', w', hr, by rw [prow_append]; exact h3, h4⟩
/-- a cell of a row of one's own changed -/
theorem own_setG {w : World} {B p cap n e size : Nat} {xs : List Value} (h : w.ownsRow B e size (.slice (some ⟨p, 0, none⟩) n cap) n xs) (i : Nat) (v : Value) :
    (w.setCell ⟨p, i, none⟩ v).ownsRow B e size (.slice (some ⟨p, 0, none⟩) n cap) n (xs.set i v) := by
  rcases h.2 with ⟨h0, _⟩ | ⟨p0, cap0, cur, hv, hB, hg, h1, h2, h3, h4⟩
  · cases h0
  · cases hv
    refine ⟨by rw [List.length_set]; exact h.1, Or.inr ⟨p, cap, cur.setIfInBounds i v, rfl, hB, hs_new hg, h1, h2, by simpa using h3, ?_⟩⟩
    rw [Array.toList_setIfInBounds, List.take_set, h4]
end Go.Proofs.Ytbhdgeoljlhmcaa
namespace Go.Proofs.Ytbhdgeoljlhmcaa
open Go.RowKit Go.Proofs.Ytbhdgeoljlhmcaa.Nm Go.Proofs.Ytbhdgeoljlhmcaa.St
set_option linter.unusedSimpArgs false
def bools (l : List Bool) : List Value := l.map .bool
def isD (b : Buf) : Bool := b.kd == 2
def rcells (lv : Value) (seed : Int) (kv vv uv : Value) (d : Bool) : Array Value := #[lv, .int .i64 seed, kv, vv, uv, .bool d]
/-- the rows of a buffer of the document -/
structure RSl (w : World) (B : Nat) (lv kv vv uv : Value) (l : List ByteArray) (t : Tab) : Prop where
  l : w.ownsRow B 9 1 lv l.length (strs l)
  k : w.ownsRow B 9 1 kv t.length (strs (t.map ek))
  v : w.ownsRow B 3 1 vv t.length (ints (t.map ev))
  u : w.ownsRow B 4 1 uv t.length (bools (t.map eb))
  ne : ∀ q, lv.ownBlock = some q → kv.ownBlock ≠ some q
theorem RSl.below {w w' : World} {B : Nat} {lv kv vv uv : Value} {l : List ByteArray} {t : Tab} (h : RSl w B lv kv vv uv l t) (hb : Below w.heap.size w w') : RSl w' B lv kv vv uv l t :=
  ⟨own_below h.l hb, own_below h.k hb, own_below h.v hb, own_below h.u hb, h.ne⟩
theorem RSl.weak {w : World} {B B' : Nat} {lv kv vv uv : Value} {l : List ByteArray} {t : Tab} (h : RSl w B lv kv vv uv l t) (hb : B' ≤ B) : RSl w B' lv kv vv uv l t :=
  ⟨own_weak h.l hb, own_weak h.k hb, own_weak h.v hb, own_weak h.u hb, h.ne⟩
def RAt (w : World) (B : Nat) (v : Value) (b : Buf) : Prop := ∃ lv kv vv uv, v = .agg (rcells lv b.seed kv vv uv (isD b)) ∧ RSl w B lv kv vv uv b.l b.t
theorem RAt.below {w w' : World} {B : Nat} {v : Value} {b : Buf} (h : RAt w B v b) (hb : Below w.heap.size w w') : RAt w' B v b := by
  obtain ⟨lv, kv, vv, uv, e, h⟩ := h
  exact ⟨lv, kv, vv, uv, e, h.below hb⟩
theorem RAt.weak {w : World} {B B' : Nat} {v : Value} {b : Buf} (h : RAt w B v b) (hb : B' ≤ B) : RAt w B' v b := by
  obtain ⟨lv, kv, vv, uv, e, h⟩ := h
  exact ⟨lv, kv, vv, uv, e, h.weak hb⟩
/-- a column of cells -/
def ColAt (w : World) (A : Option Addr) (xs : List Value) : Prop := ∀ j u, xs[j]? = some u → ∃ p, A = some ⟨p, 0, none⟩ ∧ w.cell? ⟨p, j, none⟩ = some u
theorem own_col {w : World} {B e n : Nat} {v : Value} {xs : List Value} (h : w.ownsRow B e 1 v n xs) : ∃ A c, v = .slice A n c ∧ ColAt w A xs := by
  rcases h.2 with ⟨rfl, rfl⟩ | ⟨p, cap, cur, hv, hB, hg, h1, h2, h3, h4⟩
  · have := h.1
    refine ⟨none, 0, rfl, fun j u hj => ?_⟩
    have := (List.getElem?_eq_some_iff.1 hj).1
    omega
  · refine ⟨_, cap, hv, fun j u hj => ⟨p, rfl, ?_⟩⟩
    have := own_cells h hv j u hj
    rwa [Addr.add_mid, Nat.zero_add] at this
theorem ColAt.below {w w' : World} {A : Option Addr} {xs : List Value} (h : ColAt w A xs) (hb : Below w.heap.size w w') : ColAt w' A xs := fun j u hj => by
  obtain ⟨p, e, hc⟩ := h j u hj
  exact ⟨p, e, below_cell hb hc⟩
theorem RAt.cols {w : World} {B : Nat} {v : Value} {b : Buf} (h : RAt w B v b) : ∃ A1 c1 A2 c2 A3 c3 A4 c4, v = .agg (rcells (.slice A1 b.l.length c1) b.seed (.slice A2 b.t.length c2) (.slice A3 b.t.length c3) (.slice A4 b.t.length c4) (isD b)) ∧
    RSl w B (.slice A1 b.l.length c1) (.slice A2 b.t.length c2) (.slice A3 b.t.length c3) (.slice A4 b.t.length c4) b.l b.t ∧ ColAt w A1 (strs b.l) ∧ ColAt w A2 (strs (b.t.map ek)) ∧ ColAt w A3 (ints (b.t.map ev)) ∧ ColAt w A4 (bools (b.t.map eb)) := by
  obtain ⟨lv, kv, vv, uv, e, h⟩ := h
  obtain ⟨A1, c1, rfl, d1⟩ := own_col h.l
  obtain ⟨A2, c2, rfl, d2⟩ := own_col h.k
  obtain ⟨A3, c3, rfl, d3⟩ := own_col h.v
  obtain ⟨A4, c4, rfl, d4⟩ := own_col h.u
  exact ⟨A1, c1, A2, c2, A3, c3, A4, c4, e, h, d1, d2, d3, d4⟩
theorem col_k {w : World} {A : Option Addr} {t : Tab} (h : ColAt w A (strs (t.map ek))) {j : Nat} (hj : j < t.length) : ∃ p, A = some ⟨p, 0, none⟩ ∧ w.cell? ⟨p, j, none⟩ = some (.string (ek (pl t j))) := h j _ (by unfold strs; rw [List.getElem?_map, List.getElem?_map, pl_get hj]; rfl)
theorem col_v {w : World} {A : Option Addr} {t : Tab} (h : ColAt w A (ints (t.map ev))) {j : Nat} (hj : j < t.length) : ∃ p, A = some ⟨p, 0, none⟩ ∧ w.cell? ⟨p, j, none⟩ = some (.int .i64 (ev (pl t j))) := h j _ (by unfold ints; rw [List.getElem?_map, List.getElem?_map, pl_get hj]; rfl)
theorem col_u {w : World} {A : Option Addr} {t : Tab} (h : ColAt w A (bools (t.map eb))) {j : Nat} (hj : j < t.length) : ∃ p, A = some ⟨p, 0, none⟩ ∧ w.cell? ⟨p, j, none⟩ = some (.bool (eb (pl t j))) := h j _ (by unfold bools; rw [List.getElem?_map, List.getElem?_map, pl_get hj]; rfl)
theorem u105 : Try.prog.underlying 105 = some (.struct (Try.prog.fieldsOf 105)) := by kernel_rfl
theorem info105 : (Try.prog.info? 105).map (·.size) = some 6 := by kernel_rfl
theorem rc_cell {w : World} {g : Nat} {lv kv vv uv : Value} {seed : Int} {d : Bool} (h : w.heap[g]? = some (.cells (rcells lv seed kv vv uv d) 105 (0, 0))) :
    w.cell? ⟨g, 0, none⟩ = some lv ∧ w.cell? ⟨g, 1, none⟩ = some (.int .i64 seed) ∧ w.cell? ⟨g, 2, none⟩ = some kv ∧ w.cell? ⟨g, 3, none⟩ = some vv ∧ w.cell? ⟨g, 4, none⟩ = some uv ∧ w.cell? ⟨g, 5, none⟩ = some (.bool d) := by
  rw [cell_of_row _ _ _ _ _ _ h, cell_of_row _ _ _ _ _ _ h, cell_of_row _ _ _ _ _ _ h, cell_of_row _ _ _ _ _ _ h, cell_of_row _ _ _ _ _ _ h, cell_of_row _ _ _ _ _ _ h]
  exact ⟨rfl, rfl, rfl, rfl, rfl, rfl⟩
theorem rowR {w : World} {g : Nat} {lv kv vv uv : Value} {seed : Int} {d : Bool} (h : w.heap[g]? = some (.cells (rcells lv seed kv vv uv d) 105 (0, 0))) : RowAt w 105 ⟨g, 0, none⟩ (rcells lv seed kv vv uv d) := row_mid h (D := rcells lv seed kv vv uv d) (n := 6) rfl u105 rfl rfl info105
theorem eb_some {o : Option (ByteArray × Int)} (h : eb o = true) : o = some (ek o, ev o) := by
  cases o with
  | none => cases h
  | some x => rfl
theorem key_beq (a b : ByteArray) : (a.toList == b.toList) = decide (a = b) := by
  rw [← Bool.coe_iff_coe]; simp only [decide_eq_true_eq, beq_iff_eq]; rw [ByteArray.toList_eq, ByteArray.toList_eq]; exact ⟨fun e => ByteArray.ext (Array.toList_inj.1 e), fun e => by rw [e]⟩
theorem fnd_at {seed : Int} {t : Tab} (hw : t = [] ∨ Wf (HH seed) t) {j : Nat} (hj : j < t.length) {k : ByteArray} (h1 : eb (pl t j) = true) (h2 : ek (pl t j) = k) : fnd seed t k = (j : Int) := by
  have hp := eb_some h1
  rw [h2] at hp
  rcases hw with rfl | hw
  · simp at hj
  · unfold fnd; rw [find_some (HH seed) hw hj hp]
theorem fnd_no {seed : Int} {t : Tab} (hw : t = [] ∨ Wf (HH seed) t) {k : ByteArray} (h : ∀ i, i < t.length → ¬ (eb (pl t i) = true ∧ ek (pl t i) = k)) : fnd seed t k = -1 := by
  unfold fnd
  rcases hw with rfl | hw
  · rfl
  · rw [find_none (HH seed) hw.gap (fun i v hi hp => h i hi (by rw [hp]; exact ⟨rfl, rfl⟩))]
theorem GoodB.wf {b : Buf} (h : GoodB b) : b.t = [] ∨ Wf (HH b.seed) b.t := by
  rcases h with ⟨_, _, h, _⟩ | ⟨_, _, _, _, h, _⟩
  · exact Or.inl h
  · exact Or.inr h
set_option maxHeartbeats 2000000 in
set_option maxRecDepth 100000 in
theorem findI_any (v : Value) (b : Buf) (B : Nat) (key : ByteArray) (hw : b.t = [] ∨ Wf (HH b.seed) b.t) (hn : b.t.length ≤ 100000) (w : World) (h : RAt w B v b) :
    Calls Try.prog 70 #[v, .string key] w fun e w' => e = .returned (.int .i64 (fnd b.seed b.t key)) ∧ Below w.heap.size w w' := by
  obtain ⟨A1, c1, A2, c2, A3, c3, A4, c4, rfl, -, -, d2, -, d4⟩ := h.cols
  have HW := Lib.hid hw
  have D2 := Lib.hid d2
  have D4 := Lib.hid d4
  obtain ⟨G, hG⟩ : ∃ G, G = fnd b.seed b.t key := ⟨_, rfl⟩
  rw [← hG]
  have HG := Lib.hid hG
  obtain ⟨kd, l, seed, t⟩ := b
  simp only at HW D2 D4 HG hn ⊢
  obtain ⟨dd, hdd⟩ : ∃ dd, dd = isD ⟨kd, l, seed, t⟩ := ⟨_, rfl⟩
  rw [← hdd]
  obtain ⟨n, hnn⟩ : ∃ n, n = t.length := ⟨_, rfl⟩
  rw [← hnn] at hn ⊢
  have HN := Lib.hid hnn
  obtain ⟨nl, hnl⟩ : ∃ n, n = l.length := ⟨_, rfl⟩
  rw [← hnl]
  clear h hw d2 d4 hG hdd hnn hnl
  go_enter Try.func70, Try.ntmps70
  go_upto_region 1 with (fail)
  refine wp_world (fun W => Below w.heap.size w W ∧ W.heap[w.heap.size]? = some (.cells (rcells (.slice A1 nl c1) seed (.slice A2 n c2) (.slice A3 n c3) (.slice A4 n c4) dd) 105 (0, 0))) ⟨(Below.refl w.heap.size w).alloc (Nat.le_refl _) _, ha_new rfl⟩ ?_
  rintro W ⟨hb, g1⟩
  obtain ⟨x0, x1, x2, x3, x4, x5⟩ := rc_cell g1
  replace D2 := Lib.hid (D2.out.below hb)
  replace D4 := Lib.hid (D4.out.below hb)
  clear x0 x1 x3 x5 g1
  go_wp2_with fail
  go_loopw [5] (fun i wr => ∃ j : Nat, j ≤ n ∧ i = .int .i64 (j : Int) ∧ wr = W ∧ Hid (∀ i, i < j → ¬ (eb (pl t i) = true ∧ ek (pl t i) = key))) (fun i _ => n - (intOf i).toNat)
  case atStart => exact ⟨0, by omega, rfl, rfl, Lib.hid (fun i hi => by omega)⟩
  case round =>
    obtain ⟨j, hj, rfl, rfl, HI⟩ := hrel
    by_cases hlt : j < n
    · have hltI : (j : Int) < (n : Int) := by omega
      obtain ⟨p4, rfl, cu⟩ := col_u D4.out (show j < t.length by rw [← HN.out]; exact hlt)
      obtain ⟨p2, rfl, ck⟩ := col_k D2.out (show j < t.length by rw [← HN.out]; exact hlt)
      obtain ⟨U, hU⟩ : ∃ U, U = eb (pl t j) := ⟨_, rfl⟩
      obtain ⟨K, hK⟩ : ∃ K, K = ek (pl t j) := ⟨_, rfl⟩
      rw [← hU] at cu
      rw [← hK] at ck
      have HU := Lib.hid hU
      have HK := Lib.hid hK
      clear hU hK
      cases U with
      | false =>
        have HI2 : Hid (∀ i, i < j + 1 → ¬ (eb (pl t i) = true ∧ ek (pl t i) = key)) := Lib.hid (fun i hi hc => by
          by_cases e : i = j
          · subst e; rw [← HU.out] at hc; cases hc.1
          · exact HI.out i (by omega) hc)
        go_wp2_with fail
        go_roundw
        case rel => exact ⟨j + 1, by omega, by go_num, by trivial, HI2⟩
        case measure => simp [intOf]; omega
      | true =>
        have hkb := key_beq K key
        by_cases e : K = key
        · rw [decide_eq_true e] at hkb
          have HG2 : Hid (G = (j : Int)) := Lib.hid (by rw [HG.out]; exact fnd_at HW.out (by rw [← HN.out]; exact hlt) HU.out.symm (by rw [← HK.out]; exact e))
          go_wp2_with fail
          go_ret
          exact ⟨by rw [HG2.out]; rfl, hb⟩
        · rw [decide_eq_false e] at hkb
          have HI2 : Hid (∀ i, i < j + 1 → ¬ (eb (pl t i) = true ∧ ek (pl t i) = key)) := Lib.hid (fun i hi hc => by
            by_cases e2 : i = j
            · subst e2; rw [← HK.out] at hc; exact e hc.2
            · exact HI.out i (by omega) hc)
          clear e
          go_wp2_with fail
          go_roundw
          case rel => exact ⟨j + 1, by omega, by go_num, by trivial, HI2⟩
          case measure => simp [intOf]; omega
    · obtain rfl : j = n := by omega
      have HG2 : Hid (G = -1) := Lib.hid (by rw [HG.out]; exact fnd_no HW.out (fun i hi => HI.out i (by rw [HN.out]; exact hi)))
      go_wp2_with fail
      go_ret
      exact ⟨by rw [HG2.out]; rfl, hb⟩
end Go.Proofs.Ytbhdgeoljlhmcaa
namespace Go.Proofs.Ytbhdgeoljlhmcaa
open Go.RowKit Go.Proofs.Ytbhdgeoljlhmcaa.Nm Go.Proofs.Ytbhdgeoljlhmcaa.St
set_option linter.unusedSimpArgs false
theorem cn_take {t : Tab} {j : Nat} (hj : j < t.length) : cn (t.take (j + 1)) = cn (t.take j) + (if eb (pl t j) then 1 else 0) := by
  unfold cn
  rw [List.take_add_one, pl_get hj, List.countP_append]
  cases pl t j <;> rfl
theorem keys_takeR {t : Tab} {j : Nat} (hj : j < t.length) : (pairsT (t.take (j + 1))).map (·.1) = (pairsT (t.take j)).map (·.1) ++ (if eb (pl t j) then [ek (pl t j)] else []) := by
  rw [pairsT_take hj, List.map_append]
  cases pl t j <;> rfl
set_option maxHeartbeats 2000000 in
set_option maxRecDepth 100000 in
theorem countI_any (v : Value) (b : Buf) (B : Nat) (hn : b.t.length ≤ 100000) (w : World) (h : RAt w B v b) :
    Calls Try.prog 84 #[v] w fun e w' => e = .returned (.int .i64 (cn b.t : Int)) ∧ Below w.heap.size w w' := by
  obtain ⟨A1, c1, A2, c2, A3, c3, A4, c4, rfl, -, -, -, -, d4⟩ := h.cols
  have D4 := Lib.hid d4
  obtain ⟨G, hG⟩ : ∃ G, G = cn b.t := ⟨_, rfl⟩
  rw [← hG]
  have HG := Lib.hid hG
  obtain ⟨kd, l, seed, t⟩ := b
  simp only at D4 HG hn ⊢
  obtain ⟨dd, hdd⟩ : ∃ dd, dd = isD ⟨kd, l, seed, t⟩ := ⟨_, rfl⟩
  rw [← hdd]
  obtain ⟨n, hnn⟩ : ∃ n, n = t.length := ⟨_, rfl⟩
  rw [← hnn] at hn ⊢
  have HN := Lib.hid hnn
  obtain ⟨nl, hnl⟩ : ∃ n, n = l.length := ⟨_, rfl⟩
  rw [← hnl]
  clear h d4 hG hdd hnn hnl
  go_enter Try.func84, Try.ntmps84
  go_upto_region 1 with (fail)
  refine wp_world (fun W => Below w.heap.size w W ∧ W.heap[w.heap.size]? = some (.cells (rcells (.slice A1 nl c1) seed (.slice A2 n c2) (.slice A3 n c3) (.slice A4 n c4) dd) 105 (0, 0))) ⟨(Below.refl w.heap.size w).alloc (Nat.le_refl _) _, ha_new rfl⟩ ?_
  rintro W ⟨hb, g1⟩
  obtain ⟨x0, x1, x2, x3, x4, x5⟩ := rc_cell g1
  replace D4 := Lib.hid (D4.out.below hb)
  clear x0 x1 x2 x3 x5 g1
  go_wp2_with fail
  go_loopw [3, 4] (fun m i wr => ∃ (j k : Nat), j ≤ n ∧ k ≤ j ∧ m = .int .i64 (k : Int) ∧ i = .int .i64 (j : Int) ∧ wr = W ∧ Hid (k = cn (t.take j))) (fun _ i _ => n - (intOf i).toNat)
  case atStart => exact ⟨0, 0, by omega, by omega, rfl, rfl, rfl, Lib.hid (by simp [cn])⟩
  case round =>
    obtain ⟨j, k, hj, hk, rfl, rfl, rfl, HI⟩ := hrel
    by_cases hlt : j < n
    · have hltI : (j : Int) < (n : Int) := by omega
      obtain ⟨p4, rfl, cu⟩ := col_u D4.out (show j < t.length by rw [← HN.out]; exact hlt)
      have HT := Lib.hid (cn_take (show j < t.length by rw [← HN.out]; exact hlt))
      obtain ⟨U, hU⟩ : ∃ U, U = eb (pl t j) := ⟨_, rfl⟩
      rw [← hU] at cu
      have HU := Lib.hid hU
      clear hU
      cases U with
      | false =>
        have HI2 : Hid (k = cn (t.take (j + 1))) := Lib.hid (by rw [HT.out, ← HU.out, HI.out]; rfl)
        go_wp2_with fail
        go_roundw
        case rel => exact ⟨j + 1, k, by omega, by omega, rfl, by go_num, by trivial, HI2⟩
        case measure => simp [intOf]; omega
      | true =>
        have HI2 : Hid (k + 1 = cn (t.take (j + 1))) := Lib.hid (by rw [HT.out, ← HU.out, HI.out]; rfl)
        go_wp2_with fail
        go_roundw
        case rel => exact ⟨j + 1, k + 1, by omega, by omega, by go_num, by go_num, by trivial, HI2⟩
        case measure => simp [intOf]; omega
    · obtain rfl : j = n := by omega
      have HG2 : Hid (G = k) := Lib.hid (by rw [HG.out, HI.out, HN.out, List.take_length])
      go_wp2_with fail
      go_ret
      exact ⟨by rw [HG2.out]; rfl, hb⟩
set_option maxHeartbeats 2000000 in
set_option maxRecDepth 100000 in
theorem orderI_any (v : Value) (b : Buf) (B : Nat) (hn : b.t.length ≤ 100000) (w : World) (h : RAt w B v b) :
    Calls Try.prog 67 #[v] w fun e w' => ∃ v', e = .returned v' ∧ w'.ownsRow w.heap.size 9 1 v' ((pairsT b.t).map (·.1)).length (strs ((pairsT b.t).map (·.1))) ∧ Below w.heap.size w w' := by
  obtain ⟨A1, c1, A2, c2, A3, c3, A4, c4, rfl, -, -, d2, -, d4⟩ := h.cols
  have D2 := Lib.hid d2
  have D4 := Lib.hid d4
  obtain ⟨G, hG⟩ : ∃ G, G = (pairsT b.t).map (·.1) := ⟨_, rfl⟩
  rw [← hG]
  have HG := Lib.hid hG
  obtain ⟨kd, l, seed, t⟩ := b
  simp only at D2 D4 HG hn ⊢
  obtain ⟨dd, hdd⟩ : ∃ dd, dd = isD ⟨kd, l, seed, t⟩ := ⟨_, rfl⟩
  rw [← hdd]
  obtain ⟨n, hnn⟩ : ∃ n, n = t.length := ⟨_, rfl⟩
  rw [← hnn] at hn ⊢
  have HN := Lib.hid hnn
  obtain ⟨nl, hnl⟩ : ∃ n, n = l.length := ⟨_, rfl⟩
  rw [← hnl]
  clear h d2 d4 hG hdd hnn hnl
  go_enter Try.func67, Try.ntmps67
  go_upto_region 1 with (fail)
  refine wp_world (fun W => Below w.heap.size w W ∧ W.heap[w.heap.size]? = some (.cells (rcells (.slice A1 nl c1) seed (.slice A2 n c2) (.slice A3 n c3) (.slice A4 n c4) dd) 105 (0, 0))) ⟨(Below.refl w.heap.size w).alloc (Nat.le_refl _) _, ha_new rfl⟩ ?_
  rintro W ⟨hb, g1⟩
  obtain ⟨x0, x1, x2, x3, x4, x5⟩ := rc_cell g1
  replace D2 := Lib.hid (D2.out.below hb)
  replace D4 := Lib.hid (D4.out.below hb)
  have X2 := Lib.hid x2
  have X4 := Lib.hid x4
  have HB := Lib.hid hb
  clear x0 x1 x2 x3 x4 x5 g1 hb
  go_wp2_with fail
  go_loopw [3, 4] (fun ov i wr => ∃ (j : Nat) (m : List ByteArray), j ≤ n ∧ m.length ≤ j ∧ i = .int .i64 (j : Int) ∧ Hid (m = (pairsT (t.take j)).map (·.1)) ∧ Hid (wr.ownsRow W.heap.size 9 1 ov m.length (strs m)) ∧ Hid (Below W.heap.size W wr)) (fun _ i _ => n - (intOf i).toNat)
  case atStart => exact ⟨0, [], by omega, by simp, rfl, Lib.hid rfl, Lib.hid (own_nil W _ 9 1), Lib.hid (Below.refl _ _)⟩
  case round =>
    obtain ⟨j, m, hj, hm, rfl, HI, HO, HW⟩ := hrel
    by_cases hlt : j < n
    · have hltI : (j : Int) < (n : Int) := by omega
      have hjt : j < t.length := by rw [← HN.out]; exact hlt
      obtain ⟨p4, rfl, cu⟩ := col_u (D4.out.below HW.out) hjt
      obtain ⟨p2, rfl, ck⟩ := col_k (D2.out.below HW.out) hjt
      have y2 := below_cell HW.out X2.out
      have y4 := below_cell HW.out X4.out
      have HT := Lib.hid (keys_takeR hjt)
      obtain ⟨U, hU⟩ : ∃ U, U = eb (pl t j) := ⟨_, rfl⟩
      obtain ⟨K, hK⟩ : ∃ K, K = ek (pl t j) := ⟨_, rfl⟩
      rw [← hU] at cu
      rw [← hK] at ck
      have HU := Lib.hid hU
      have HK := Lib.hid hK
      clear hU hK hjt
      cases U with
      | false =>
        have HI2 : Hid (m = (pairsT (t.take (j + 1))).map (·.1)) := Lib.hid (by rw [HT.out, ← HU.out, HI.out]; simp)
        go_wp2_with fail
        go_roundw
        case rel => exact ⟨j + 1, m, by omega, by omega, by go_num, HI2, HO, HW⟩
        case measure => simp [intOf]; omega
      | true =>
        have HI2 : Hid (m ++ [K] = (pairsT (t.take (j + 1))).map (·.1)) := Lib.hid (by rw [HT.out, ← HU.out, HI.out, ← HK.out]; rfl)
        go_upto_region 6 with (fail)
        apply wp_region_lit
        refine wl_k rfl (fun K hK => ?_); go_simp; refine hK _ ?_; clear hK K
        refine wl_k rfl (fun K hK => ?_); go_simp; refine hK _ ?_; clear hK K
        ((with_reducible apply wl_oneG); exact rfl; exact rfl; exact one29 y2)
        refine wl_k rfl (fun K hK => ?_); go_simp; refine hK _ ?_; clear hK K
        refine wl_k rfl (fun K hK => ?_); go_simp; refine hK _ ?_; clear hK K
        ((with_reducible apply wl_oneG); exact rfl; exact rfl; exact one9 ck)
        simp only [Zp, Zz, Zs]
        obtain ⟨v', w', hr, hown, hgr, -⟩ := run_push29 K 29 HO.out HW.out.size (by omega)
        have hba := HW.out.alloc HW.out.size (.cells #[.string K] 9)
        have hbg := hba.grown hgr hba.size (fun q hq => (HO.out.lt q hq).1)
        refine wl_w rfl (ex_bs29_1 _ rfl rfl) ?_
        simp only [Zp, Zz, Zs]
        refine wl_w rfl (ex_app29 _ _ rfl rfl rfl hr) ?_
        simp only [Zp, Zz, Zs]
        have HO2 : Hid (w'.ownsRow W.heap.size 9 1 v' (m ++ [K]).length (strs (m ++ [K]))) := Lib.hid (by rw [List.length_append]; exact hown)
        have HW2 := Lib.hid hbg
        clear hr hown hgr hba hbg HO HW cu ck y2 y4
        go_wp2_with fail
        go_roundw
        case rel => exact ⟨j + 1, m ++ [K], by omega, by simp; omega, by go_num, HI2, HO2, HW2⟩
        case measure => simp [intOf]; omega
    · obtain rfl : j = n := by omega
      have HG2 : Hid (m = G) := Lib.hid (by rw [HG.out, HI.out, HN.out, List.take_length])
      rw [HG2.out] at HO
      have y2 := below_cell HW.out X2.out
      go_wp2_with fail
      go_ret
      exact ⟨_, rfl, own_weak HO.out HB.out.size, HB.out.trans (HW.out.mono HB.out.size)⟩
end Go.Proofs.Ytbhdgeoljlhmcaa
namespace Go.Proofs.Ytbhdgeoljlhmcaa
open Go.RowKit Go.Proofs.Ytbhdgeoljlhmcaa.Nm Go.Proofs.Ytbhdgeoljlhmcaa.St
set_option linter.unusedSimpArgs false
theorem u63 : Try.prog.underlying 63 = some (.slice 3) := by kernel_rfl
theorem u103 : Try.prog.underlying 103 = some (.slice 4) := by kernel_rfl
theorem info3b : (Try.prog.info? 3).map (fun i => (i.zero, i.size, i.bytes)) = some (some (.int .i64 0), 1, 8) := by kernel_rfl
theorem info4b : (Try.prog.info? 4).map (fun i => (i.zero, i.size, i.bytes)) = some (some (.bool false), 1, 1) := by kernel_rfl
theorem one63 {w : World} {ad : Addr} {v : Value} (h : w.cell? ad = some v) : OneAt w 63 ad v := one_of u63 rfl h
theorem one103 {w : World} {ad : Addr} {v : Value} (h : w.cell? ad = some v) : OneAt w 103 ad v := one_of u103 rfl h
theorem run_mk63 {w : World} {n B : Nat} (hn : n ≤ 1000000) (hB : B ≤ w.heap.size) :
    ∃ w', (Instr.makeSlice 63 (.int .i64 0) (.int .i64 (n : Int))).run Try.prog w = .ok (.slice (some ⟨w.heap.size, 0, none⟩) 0 n) w' ∧ w'.ownsRow B 3 1 (.slice (some ⟨w.heap.size, 0, none⟩) 0 n) 0 (ints []) ∧ w.grownBy w' none := by
  obtain ⟨i0, hi, hz0, hz1, hz2⟩ := info_parts info3b
  exact run_make_own (P := Try.prog) w B 63 3 i0 _ 1 u63 hi hz0 hz1 .i64 .i64 n (by rw [hz2]; omega) (by unfold maxLen; omega) hB
theorem run_bs63_1 (k : Int) (w : World) : (Instr.buildSlice 63 1 #[(0, .int .i64 k)]).run Try.prog w = .ok (.slice (some ⟨w.heap.size, 0, none⟩) 1 1) (w.alloc (.cells #[.int .i64 k] 3)) := by kernel_rfl
theorem ex_bs63_1 {ev : Operand → Value} {o : Oper} {w : World} (x : Operand) (ho : o.op = .buildSlice 63 1 #[(0, x)]) {k : Int} (hx : ev x = .int .i64 k) :
    (execOp ev o).run Try.prog w = .ok (.value (.slice (some ⟨w.heap.size, 0, none⟩) 1 1)) (w.alloc (.cells #[.int .i64 k] 3)) := by
  unfold execOp
  simp [ho, hx, run_bs63_1 k w, Result.andThen]
theorem run_push63 {w : World} {B n : Nat} {v : Value} {l : List Int} (k : Int) (ty : TypeId) (ho : w.ownsRow B 3 1 v n (ints l)) (hB : B ≤ w.heap.size) (h1 : n ≤ 1000000) :
    ∃ v' w', (Builtin.append_ #[63, 63] ty #[v, .slice (some ⟨w.heap.size, 0, none⟩) 1 1]).run Try.prog (w.alloc (.cells #[.int .i64 k] 3)) = .ok v' w' ∧ w'.ownsRow B 3 1 v' (n + 1) (ints (l ++ [k])) ∧ (w.alloc (.cells #[.int .i64 k] 3)).grownBy w' v.ownBlock := by
  obtain ⟨i0, hi, hz0, hz1, hz2⟩ := info_parts info3b
  have hb := (Below.refl w.heap.size w).alloc (Nat.le_refl _) (.cells #[.int .i64 k] 3)
  obtain ⟨v', w', hr, h3, h4, _, _⟩ := run_append_own_at (P := Try.prog) (w.alloc (.cells #[.int .i64 k] 3)) B 63 ty 3 i0 _ 1 8 u63 hi hz0 hz1 hz2 rfl (by decide) v n (ints l) (own_below ho hb) ⟨w.heap.size, 0, none⟩ 1 1 [.int .i64 k] rfl (cells_at (ha_new rfl)) (by intro u hu; simp at hu; subst hu; rfl) (by unfold maxLen; omega) (by omega) (by have := hb.size; omega)
  exact ⟨v', w', hr, by unfold ints at *; rw [List.map_append]; exact h3, h4⟩
set_option maxHeartbeats 2000000 in
set_option maxRecDepth 100000 in
theorem CopyInts_any (v : Value) (n : Nat) (l : List Int) (B : Nat) (hn : n ≤ 1000000) (w : World) (h : w.ownsRow B 3 1 v n (ints l)) :
    Calls Try.prog 85 #[v] w fun e w' => ∃ v', e = .returned v' ∧ w'.ownsRow w.heap.size 3 1 v' n (ints l) ∧ Below w.heap.size w w' := by
  have hl : l.length = n := by have := h.1; rw [ints_length] at this; omega
  obtain ⟨A, c, rfl, hc⟩ := own_col h
  have H := Lib.hid hc
  have HL := Lib.hid hl
  clear h hc hl
  go_enter Try.func85, Try.ntmps85
  go_upto_region 1 with (fail)
  apply wp_region_lit
  refine wl_k rfl (fun K hK => ?_); go_simp; refine hK _ ?_; clear hK K
  refine wl_k rfl (fun K hK => ?_); go_simp; refine hK _ ?_; clear hK K
  obtain ⟨w1, hr, ho, hg⟩ := run_mk63 (w := w) hn (Nat.le_refl w.heap.size)
  refine wl_w rfl (ex_mkS _ _ rfl rfl rfl hr) ?_
  simp only [Zp, Zz, Zs]
  have hb := (Below.refl w.heap.size w).grown hg (Nat.le_refl _) (fun q hq => by cases hq)
  have HO := Lib.hid ho
  have HB := Lib.hid hb
  clear hr ho hg hb
  refine wl_k rfl (fun K hK => ?_); go_simp; refine hK _ ?_; clear hK K
  go_wp2_with fail
  go_loopw [3, 4] (fun v i wr => ∃ j : Nat, j ≤ n ∧ i = .int .i64 (j : Int) ∧ Hid (wr.ownsRow w.heap.size 3 1 v j (ints (l.take j))) ∧ Hid (Below w.heap.size w wr)) (fun _ i _ => n - (intOf i).toNat)
  case atStart => exact ⟨0, by omega, rfl, HO, HB⟩
  case round =>
    clear HO HB
    obtain ⟨j, hj, rfl, HO, HB⟩ := hrel
    by_cases hlt : j < n
    · have hltI : (j : Int) < (n : Int) := by omega
      obtain ⟨o, ho⟩ : ∃ o, l[j]? = some o := ⟨_, List.getElem?_eq_getElem (by rw [HL.out]; exact hlt)⟩
      obtain ⟨p, rfl, hca⟩ := H.out j (.int .i64 o) (by unfold ints; rw [List.getElem?_map, ho]; rfl)
      have hkey := below_cell HB.out hca
      have HOJ := Lib.hid ho
      clear ho hca
      go_upto_region 5 with (fail)
      apply wp_region_lit
      refine wl_k rfl (fun K hK => ?_); go_simp; refine hK _ ?_; clear hK K
      refine wl_k rfl (fun K hK => ?_); go_simp; refine hK _ ?_; clear hK K
      refine wl_k rfl (fun K hK => ?_); go_simp; refine hK _ ?_; clear hK K
      refine wl_k rfl (fun K hK => ?_); go_simp; refine hK _ ?_; clear hK K
      ((with_reducible apply wl_oneG); exact rfl; exact rfl; exact one3 hkey)
      simp only [Zp, Zz, Zs]
      obtain ⟨v', w', hr, hown, hgr⟩ := run_push63 o 63 HO.out HB.out.size (show j ≤ 1000000 by omega)
      have hba := HB.out.alloc (by have := HB.out.size; omega) (.cells #[.int .i64 o] 3)
      have hbg := hba.grown hgr hba.size (fun q hq => (HO.out.lt q hq).1)
      refine wl_w rfl (ex_bs63_1 _ rfl rfl) ?_
      simp only [Zp, Zz, Zs]
      refine wl_w rfl (ex_app _ _ rfl rfl rfl hr) ?_
      simp only [Zp, Zz, Zs]
      have HO2 : Hid (w'.ownsRow w.heap.size 3 1 v' (j + 1) (ints (l.take (j + 1)))) := Lib.hid (by rw [List.take_add_one, HOJ.out]; exact hown)
      have HB2 := Lib.hid hbg
      clear hr hown hgr hba hbg HO HB hkey
      go_wp2_with fail
      go_roundw
      case rel => exact ⟨j + 1, by omega, by go_num, HO2, HB2⟩
      case measure => simp [intOf]; omega
    · obtain rfl : j = n := by omega
      have HO2 : Hid (wr.ownsRow w.heap.size 3 1 _ j (ints l)) := Lib.hid (by have := HO.out; rwa [List.take_of_length_le (by rw [HL.out]; exact Nat.le_refl _)] at this)
      go_wp2_with fail
      go_ret
      exact ⟨_, rfl, HO2.out, HB.out⟩
end Go.Proofs.Ytbhdgeoljlhmcaa
