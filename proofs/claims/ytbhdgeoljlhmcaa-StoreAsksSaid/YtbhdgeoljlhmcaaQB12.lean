/- S51, S52, S53 in one text. -/
import Derived.Shelf.SlMaps.Equal
import Derived.Outline
import Derived.Test.YtbhdgeoljlhmcaaQB11
/- Lists compared, entries as a map, by the program. -/
namespace Go.Proofs
open Go.Shelf
def Try.laysMe_ren : Go.Shelf.Ren := ⟨fun | 6 => 73 | n => n, fun | 0 => 0 | 3 => 3 | 4 => 4 | 23 => 115 | 24 => 115 | 26 => 9 | 27 => 3 | 36 => 54 | n => n, fun | n => n⟩
theorem Try.laysMe : Go.Proofs.SlLaysEq.n6 Try.prog Try.laysMe_ren := {
  mixed := by kernel_rfl
  f6 := ⟨Try.f73.name, by kernel_rfl, Try.func73.trans (congrArg some (by kernel_rfl))⟩
  t0 := Try.underlying0
  a0 := Try.isAgg0
  z0 := Try.sizeOf0
  v0 := Try.zeroValue0
  t3 := Try.underlying3
  a3 := Try.isAgg3
  z3 := Try.sizeOf3
  v3 := Try.zeroValue3
  t4 := Try.underlying4
  a4 := Try.isAgg4
  z4 := Try.sizeOf4
  v4 := Try.zeroValue4
  t23 := Try.underlying115
  a23 := Try.isAgg115
  z23 := Try.sizeOf115
  v23 := Try.zeroValue115
  t24 := Try.underlying115
  a24 := Try.isAgg115
  z24 := Try.sizeOf115
  v24 := Try.zeroValue115
  a26 := Try.isAgg9
  z26 := Try.sizeOf9
  a27 := Try.isAgg3
  z27 := Try.sizeOf3
  t36 := Try.underlying54
  a36 := Try.isAgg54
  z36 := Try.sizeOf54 }
end Go.Proofs
namespace Go.Proofs.Ytbhdgeoljlhmcaa
open Go.RowKit Go.Proofs.Ytbhdgeoljlhmcaa.Nm Go.Proofs.Ytbhdgeoljlhmcaa.St
set_option linter.unusedSimpArgs false
set_option maxHeartbeats 2000000 in
set_option maxRecDepth 100000 in
theorem Equal_any (A1 A2 : Option Addr) (n1 n2 c1 c2 : Nat) (l1 l2 : List ByteArray) (hn1 : n1 ≤ 1000000) (w : World) (h1 : StrAt w A1 n1 c1 l1) (h2 : StrAt w A2 n2 c2 l2) :
    Calls Try.prog 72 #[.slice A1 n1 c1, .slice A2 n2 c2] w fun e w' => e = .returned (.bool (decide (l1 = l2))) ∧ Below w.heap.size w w' := by
  have H1 := Lib.hid h1
  have H2 := Lib.hid h2
  clear h1 h2
  by_cases hn : n1 = n2
  · subst hn
    go_enter Try.func72, Try.ntmps72
    go_wp2_with fail
    go_loopw [13] (fun i wr => ∃ j : Nat, j ≤ n1 ∧ i = .int .i64 (j : Int) ∧ Hid (l1.take j = l2.take j) ∧ Below w.heap.size w wr) (fun i _ => n1 - (intOf i).toNat)
    case atStart => exact ⟨0, by omega, rfl, Lib.hid (by simp), Below.refl _ _⟩
    case round =>
      obtain ⟨j, hj, rfl, HT, hb⟩ := hrel
      by_cases hlt : j < n1
      · obtain ⟨a, ha⟩ : ∃ a, l1[j]? = some a := ⟨_, List.getElem?_eq_getElem (by rw [H1.out.1]; exact hlt)⟩
        obtain ⟨b, hb2⟩ : ∃ b, l2[j]? = some b := ⟨_, List.getElem?_eq_getElem (by rw [H2.out.1]; exact hlt)⟩
        obtain ⟨ad1, rfl, hca⟩ := H1.out.cell ha
        obtain ⟨ad2, rfl, hcb⟩ := H2.out.cell hb2
        have HCA := Lib.hid hca
        have HCB := Lib.hid hcb
        have HA := Lib.hid ha
        have HB := Lib.hid hb2
        have hltI : (j : Int) < (n1 : Int) := by omega
        clear hca hcb ha hb2
        go_upto_region 6 with (fail)
        refine wp_region_held_drew (S := Below w.heap.size w) mixed hb.drew (fun hS => ?_)
        refine hk3 (i := 0) rfl (by kernel_rfl) Zh hS rfl (fun K hK => ?_); go_simp; refine hK _ ?_; clear hK K; try simp only [Zq]
        refine hk3 (i := 1) rfl (by kernel_rfl) Zh hS rfl (fun K hK => ?_); go_simp; refine hK _ ?_; clear hK K; try simp only [Zq]
        (refine hv3 (i := 2) rfl (by kernel_rfl) Zg hS rfl (fun w' _ => ex_ixS (j := j) _ _ rfl rfl rfl hlt) ?_; try simp only [Zq])
        (refine hv3 (i := 3) rfl (by kernel_rfl) Zg hS rfl (fun w' hw' => ex_one rfl (one9 (below_cell hw' HCA.out))) ?_; try simp only [Zq])
        refine hk3 (i := 4) rfl (by kernel_rfl) Zh hS rfl (fun K hK => ?_); go_simp; refine hK _ ?_; clear hK K; try simp only [Zq]
        refine hk3 (i := 5) rfl (by kernel_rfl) Zh hS rfl (fun K hK => ?_); go_simp; refine hK _ ?_; clear hK K; try simp only [Zq]
        (refine hv3 (i := 6) rfl (by kernel_rfl) Zg hS rfl (fun w' _ => ex_ixS (j := j) _ _ rfl rfl rfl hlt) ?_; try simp only [Zq])
        (refine hv3 (i := 7) rfl (by kernel_rfl) Zg hS rfl (fun w' hw' => ex_one rfl (one9 (below_cell hw' HCB.out))) ?_; try simp only [Zq])
        refine hk3 (i := 8) rfl (by kernel_rfl) Zh hS rfl (fun K hK => ?_); go_simp; refine hK _ ?_; clear hK K; try simp only [Zq]
        refine wpAnyH_done (by kernel_rfl) ?_ _
        rw [show (a.toList == b.toList) = decide (a = b) by rw [← Bool.coe_iff_coe]; simp only [decide_eq_true_eq, beq_iff_eq]; rw [ByteArray.toList_eq, ByteArray.toList_eq]; exact ⟨fun e => ByteArray.ext (Array.toList_inj.1 e), fun e => by rw [e]⟩]
        clear hb
        by_cases e : a = b
        · rw [decide_eq_true e]
          go_wp2_with fail
          go_roundw
          case rel => exact ⟨j + 1, by omega, by go_num, Lib.hid (by rw [List.take_add_one, List.take_add_one, HA.out, HB.out, HT.out, e]), hS⟩
          case measure => simp [intOf]; omega
        · rw [decide_eq_false e]
          have HN : Hid (decide (l1 = l2) = false) := Lib.hid (decide_eq_false (fun h => e (by have h1 := HA.out; rw [h, HB.out] at h1; cases h1; rfl)))
          go_wp2_with fail
          go_ret
          exact ⟨by rw [HN.out]; rfl, hS⟩
      · obtain rfl : j = n1 := by omega
        have HN : Hid (decide (l1 = l2) = true) := Lib.hid (decide_eq_true (by have h := HT.out; rw [List.take_of_length_le (by rw [H1.out.1]; exact Nat.le_refl _), List.take_of_length_le (by rw [H2.out.1]; exact Nat.le_refl _)] at h; exact h))
        go_wp2_with fail
        go_ret
        exact ⟨by rw [HN.out]; rfl, hb⟩
  · have hnI : ¬ (n1 : Int) = (n2 : Int) := by omega
    have hd : ((n1 : Int) == (n2 : Int)) = false := by simpa using hnI
    have HN : Hid (decide (l1 = l2) = false) := Lib.hid (decide_eq_false (fun h => hn (by rw [← H1.out.1, ← H2.out.1, h])))
    go_enter Try.func72, Try.ntmps72
    go_wp2_with fail
    go_ret
    exact ⟨by rw [HN.out]; rfl, Below.refl _ _⟩
/-- how an element reads -/
def valR (v : Value) : Option (DataW Unit × List MemPlace) := match v with | .int .i64 a => some (.lit (.int .i64 a), []) | _ => none
def klit (k : ByteArray) : Lit := .string k.data.toList
/-- entries as a map's datum -/
def mapD (l : List (ByteArray × Int)) : DataW Unit := l.foldl (fun D p => D.put (klit p.1) (.lit (.int .i64 p.2))) (.map [])
theorem mapD_snoc (l : List (ByteArray × Int)) (p : ByteArray × Int) : mapD (l ++ [p]) = (mapD l).put (klit p.1) (.lit (.int .i64 p.2)) := by unfold mapD; rw [List.foldl_append]; rfl
theorem K9 : Maps.Keyed Try.prog 9 := Maps.string_keyed u9
theorem u115 : Try.prog.underlying 115 = some (.map 9 3) := by kernel_rfl
theorem valR_int (a : Int) : valR (.int .i64 a) = some (.lit (.int .i64 a), []) := rfl
theorem pairsT_short {t : Tab} (h : Short t) : ∀ p ∈ pairsT t, p.1.size ≤ 1000000000 := fun p hp => by
  obtain ⟨k, v⟩ := p
  exact short_has h (has_mem.2 hp)
theorem prAt_look {w w' : World} {q n : Nat} {l : List (ByteArray × Int)} (h : PrAt w (some ⟨q, 0, none⟩) n l) (hq : w'.heap[q]? = w.heap[q]?) : PrAt w' (some ⟨q, 0, none⟩) n l :=
  ⟨h.1, fun i k v hi => by obtain ⟨q', Cs, t, fr, h1, h2, h3⟩ := h.2 i k v hi; cases h1; exact ⟨q, Cs, t, fr, rfl, hq.trans h2, h3⟩⟩
theorem prAt_lt {w : World} {q n : Nat} {l : List (ByteArray × Int)} (h : PrAt w (some ⟨q, 0, none⟩) n l) {i : Nat} (hi : i < l.length) : q < w.heap.size := by
  obtain ⟨q', Cs, t, fr, h1, h2, h3⟩ := h.2 i _ _ (List.getElem?_eq_getElem hi)
  cases h1
  exact heap_lt h2
theorem ex_mmT {ev : Operand → Value} {o : Oper} {w : World} {T : TypeId} (ho : o.op = .makeMap T none) : (execOp ev o).run Try.prog w = .ok (.value (.map (some w.heap.size))) (w.alloc (.map #[] 0)) := by
  unfold execOp
  simp [ho, run_makeMap, Result.andThen]
theorem ownsMap_below {w w' : World} {k : TypeId} {R : Value → Option (DataW Unit × List MemPlace)} {b n : Nat} {D : DataW Unit} (h : w.ownsMap Try.prog k R b n D) (hb : Below w.heap.size w w') : w'.ownsMap Try.prog k R b n D := by
  obtain ⟨es, clock, h1, h2⟩ := h
  exact ⟨es, clock, below_look hb h1, h2⟩
set_option maxHeartbeats 2000000 in
set_option maxRecDepth 100000 in
theorem values_any (g : Nat) (A : Option Addr) (cap : Nat) (t : Tab) (kd seed cnt : Int) (lv : Value) (hn2 : t.length ≤ 1000000) (hsh : Short t) (w : World)
    (h0 : w.heap[g]? = some (.cells (bcells kd lv seed cnt (.slice A t.length cap)) 87 (0, 0))) {B : Nat} (hv : VT B w A cap t) :
    Calls Try.prog 74 #[.pointer (some ⟨g, 0, none⟩)] w fun e w' => ∃ b n, e = .returned (.map (some b)) ∧ w'.ownsMap Try.prog 9 valR b n (mapD (pairsT t)) ∧ Below w.heap.size w w' := by
  have HV := Lib.hid hv
  have H0 := Lib.hid h0
  have HSH := Lib.hid (pairsT_short hsh)
  have hpl := pairsT_le t
  clear hv h0 hsh
  go_enter Try.func74, Try.ntmps74
  go_upto_region 1 with (fail)
  apply wp_region_lit
  refine wl_w rfl (ex_mmT rfl) ?_
  simp only [Zq]
  have hM0 := World.ownsMap_made w Try.prog 9 valR
  have hb0 := (Below.refl w.heap.size w).alloc (Nat.le_refl _) (.map #[] 0)
  have HM := Lib.hid hM0
  have HB := Lib.hid hb0
  have hzb := hM0.lt
  clear hM0 hb0
  generalize w.alloc (.map #[] 0) = w1 at *
  refine wl_k rfl (fun K hK => ?_); go_simp; refine hK _ ?_; clear hK K
  go_upto_region 2 with (fail)
  apply wp_region_lit
  refine wl_k rfl (fun K hK => ?_); go_simp; refine hK _ ?_; clear hK K
  refine wl_ck rfl (fun K hK => ?_); go_simp; refine ⟨_, _, ⟨rfl, rfl⟩, hK _ _ ⟨_, pairs_any g A cap t kd seed cnt lv hn2 _ (below_look HB.out H0.out) (HV.out.below HB.out), ?_⟩⟩; clear hK K; rintro e w2 ⟨sv, rfl, hsv, hb1⟩; refine ⟨_, rfl, ?_⟩; simp only [Zq]
  obtain ⟨P, c, rfl, hpr⟩ := own_prAt hsv rfl
  have HPR := Lib.hid hpr
  have HSV := Lib.hid hsv
  replace HM : Hid (w2.ownsMap Try.prog 9 valR w.heap.size 0 (mapD ((pairsT t).take 0))) := Lib.hid (ownsMap_below HM.out hb1)
  replace HB := Lib.hid (HB.out.trans (hb1.mono HB.out.size))
  obtain ⟨l, hl⟩ : ∃ l, l = pairsT t := ⟨_, rfl⟩
  rw [← hl] at HSH hpl HPR HSV HM ⊢
  have HL := Lib.hid hl
  clear hpr hsv hb1 hl
  iterate 2 (refine wl_k rfl (fun K hK => ?_); go_simp; refine hK _ ?_; clear hK K)
  go_wp2_with fail
  go_loopw [10] (fun i wr => ∃ j : Nat, j ≤ l.length ∧ i = .int .i64 (j : Int) ∧ Hid (wr.ownsMap Try.prog 9 valR w.heap.size j (mapD (l.take j))) ∧ Hid (PrAt wr P l.length l) ∧ Hid (Below w.heap.size w wr)) (fun i _ => l.length - (intOf i).toNat)
  case atStart => exact ⟨0, by omega, rfl, HM, HPR, HB⟩
  case round =>
    clear HM HPR HB
    obtain ⟨j, hj, rfl, HM, HPR, HB⟩ := hrel
    by_cases hlt : j < l.length
    · have hltI : (j : Int) < (l.length : Int) := by omega
      obtain ⟨⟨k, v⟩, ha⟩ : ∃ a, l[j]? = some a := ⟨_, List.getElem?_eq_getElem hlt⟩
      obtain ⟨q, rfl⟩ := HPR.out.addr hlt
      have HA := Lib.hid ha
      have hks : k.size ≤ 1000000000 := HSH.out (k, v) (List.mem_of_getElem? ha)
      have hqb : q ≠ w.heap.size := fun e => by have := (own_block HSV.out (q := q) rfl).1; omega
      have HTK : Hid (mapD (l.take (j + 1)) = (mapD (l.take j)).put (klit k) (.lit (.int .i64 v))) := Lib.hid (by rw [List.take_add_one, ha]; exact mapD_snoc _ (k, v))
      clear ha
      go_upto_region 4 with (fail)
      apply wp_region_lit
      refine wl_k rfl (fun K hK => ?_); go_simp; refine hK _ ?_; clear hK K
      ((with_reducible apply wl_rowG); exact rfl; exact rfl; exact HPR.out.row HA.out)
      simp only [Zq]
      refine wl_new (fun ev w => ex_alloc91 rfl ev w) ?_
      intro W2 pp hb2 hl2 h3
      refine wl_putG pp (pair k v) rfl rfl 91 _ h3 info91 rfl (pair_one _ _) ?_
      rw [put_noneA]
      have hbb := below_setRow hb2 (g := pp) hl2 (pair k v)
      have h3' := hr_new (cs := pair k v) h3
      replace HM := Lib.hid (ownsMap_below HM.out hbb)
      replace HPR := Lib.hid (HPR.out.below hbb)
      replace HB := Lib.hid (HB.out.trans (hbb.mono HB.out.size))
      clear hb2 h3 hbb hl2
      generalize W2.setRow pp (pair k v) = w3 at *
      have k0 : w3.cell? ⟨pp, 0, none⟩ = some (.string k) := by rw [cell_of_row _ _ _ _ _ _ h3']; rfl
      have k1 : w3.cell? ⟨pp, 1, none⟩ = some (.int .i64 v) := by rw [cell_of_row _ _ _ _ _ _ h3']; rfl
      clear h3'
      go_upto_region 5 with (fail)
      apply wp_region_lit
      iterate 2 (refine wl_k rfl (fun K hK => ?_); go_simp; refine hK _ ?_; clear hK K)
      ((with_reducible apply wl_oneG); exact rfl; exact rfl; exact one9 k0)
      refine wl_k rfl (fun K hK => ?_); go_simp; refine hK _ ?_; clear hK K
      ((with_reducible apply wl_oneG); exact rfl; exact rfl; exact one3 k1)
      simp only [Zq]
      refine wpList_mapUpdate_own _ rfl _ _ _ 115 rfl 9 3 K9 u115 valR w.heap.size j _ rfl HM.out (by unfold maxLen; omega) _ _ (klit k) rfl rfl (WideMaps.keyOf_string_mk u9 (by unfold maxLen; omega)) _ [] (valR_int v) ?_
      intro w4 hM4 hg4
      rw [put_noneA]
      have HM4 : Hid (w4.ownsMap Try.prog 9 valR w.heap.size (j + 1) (mapD (l.take (j + 1)))) := Lib.hid (by rw [HTK.out]; exact hM4)
      have HB4 := Lib.hid (HB.out.grown hg4 HB.out.size (fun q hq => by cases hq; exact Nat.le_refl _))
      have HPR4 := Lib.hid (prAt_look HPR.out (hg4.block q (prAt_lt HPR.out hlt) (fun e => hqb (by cases e; rfl)) ))
      clear hM4 hg4 HM HPR HB HTK k0 k1
      go_wp2_with fail
      go_roundw
      case rel => exact ⟨j + 1, by omega, by go_num, HM4, HPR4, HB4⟩
      case measure => simp [intOf]; omega
    · obtain rfl : j = l.length := by omega
      go_wp2_with fail
      go_ret
      refine ⟨w.heap.size, l.length, rfl, ?_, HB.out⟩
      rw [← HL.out]
      have h9 := HM.out
      rw [List.take_length] at h9
      exact h9
def entL (p : ByteArray × Int) : Lit × DataW Unit := (klit p.1, .lit (.int .i64 p.2))
theorem klit_inj {a b : ByteArray} (h : klit a = klit b) : a = b := by
  unfold klit at h
  simp only [Lit.string.injEq] at h
  exact ByteArray.ext (Array.toList_inj.1 h)
theorem same_iff (a b : ByteArray) : (klit a).sameKey (klit b) = true ↔ a = b :=
  ⟨fun h => klit_inj (WideAt.sameKey_eq h), fun h => by subst h; exact WideAt.sameKey_self (by first | trivial | exact ⟨_, rfl⟩ | simp [WideAt.IsKeyLit, klit])⟩
theorem insert_perm {H : Type} (x : Lit × DataW H) : ∀ l : List (Lit × DataW H), (DataW.insert x l).Perm (x :: l)
  | [] => List.Perm.refl _
  | y :: r => by
    unfold DataW.insert
    split
    · exact List.Perm.refl _
    · exact ((insert_perm x r).cons y).trans (List.Perm.swap _ _ _)
/-- keys apart -/
def Apt (l : List (ByteArray × Int)) : Prop := l.Pairwise (fun a b => a.1 ≠ b.1)
theorem mapD_rev : ∀ (l : List (ByteArray × Int)), Apt l.reverse → ∃ es, mapD l.reverse = .map es ∧ es.Perm (l.map entL)
  | [], _ => ⟨[], rfl, List.Perm.refl _⟩
  | p :: l, h => by
    rw [List.reverse_cons] at h ⊢
    have h' := List.pairwise_append.1 h
    obtain ⟨es, e1, e2⟩ := mapD_rev l h'.1
    rw [mapD_snoc, e1]
    refine ⟨_, rfl, (insert_perm _ _).trans ?_⟩
    rw [List.filter_eq_self.2 (fun q hq => ?_)]
    · exact e2.cons _
    · obtain ⟨r, hr, rfl⟩ := List.mem_map.1 (e2.mem_iff.1 hq)
      have hne := h'.2.2 r (by simpa using hr) p (by simp)
      show (!(klit r.1).sameKey (klit p.1)) = true
      rw [Bool.not_eq_true', Bool.eq_false_iff]
      exact fun h9 => hne ((same_iff _ _).1 h9)
theorem mapD_perm {l : List (ByteArray × Int)} (h : Apt l) : ∃ es, mapD l = .map es ∧ es.Perm (l.map entL) := by
  obtain ⟨es, e1, e2⟩ := mapD_rev l.reverse (by rw [List.reverse_reverse]; exact h)
  rw [List.reverse_reverse] at e1
  exact ⟨es, e1, e2.trans ((List.reverse_perm l).map _)⟩
/-- whether two elements are equal -/
def eqdI (a b : DataW Unit) : Bool := match a, b with | .lit (.int .i64 x), .lit (.int .i64 y) => x == y | _, _ => false
theorem apt_one {l : List (ByteArray × Int)} (h : Apt l) {k : ByteArray} {v v' : Int} (h1 : (k, v) ∈ l) (h2 : (k, v') ∈ l) : v = v' := by
  obtain ⟨i, hi, e1⟩ := List.getElem_of_mem h1
  obtain ⟨j, hj, e2⟩ := List.getElem_of_mem h2
  have hp := List.pairwise_iff_getElem.1 h
  rcases Nat.lt_trichotomy i j with h9 | h9 | h9
  · have := hp i j hi hj h9; rw [e1, e2] at this; exact absurd rfl this
  · subst h9; rw [e1] at e2; cases e2; rfl
  · have := hp j i hj hi h9; rw [e1, e2] at this; exact absurd rfl this
theorem good_iff {l2 : List (ByteArray × Int)} (h : Apt l2) (p : ByteArray × Int) : Lib.goodD eqdI (mapD l2) (entL p) = true ↔ p ∈ l2 := by
  obtain ⟨es, e1, e2⟩ := mapD_perm h
  obtain ⟨k, v⟩ := p
  rw [e1]
  have hfind : ∀ q ∈ es, q.1.sameKey (klit k) = true → ∃ v', (k, v') ∈ l2 ∧ q = entL (k, v') := fun q hq hs => by
    obtain ⟨r, hr, rfl⟩ := List.mem_map.1 (e2.mem_iff.1 hq)
    have := (same_iff _ _).1 hs
    obtain ⟨k', v'⟩ := r
    simp only at this; subst this
    exact ⟨v', hr, rfl⟩
  show ((es.any fun q => q.1.sameKey (klit k)) && eqdI (.lit (.int .i64 v)) ((DataW.map es).atKey (klit k) .nil)) = true ↔ _
  simp only [DataW.atKey]
  cases hf : es.find? (fun q => q.1.sameKey (klit k)) with
  | none =>
    simp only [eqdI, Bool.and_false, Bool.false_eq_true, false_iff]
    intro hm
    exact List.find?_eq_none.1 hf (entL (k, v)) (e2.mem_iff.2 (List.mem_map.2 ⟨_, hm, rfl⟩)) ((same_iff k k).2 rfl)
  | some q =>
    have hq := List.mem_of_find?_eq_some hf
    have hs := List.find?_some hf
    obtain ⟨v', hm, rfl⟩ := hfind q hq hs
    have ha : (es.any fun q => q.1.sameKey (klit k)) = true := List.any_eq_true.2 ⟨_, hq, hs⟩
    rw [ha, Bool.true_and]
    show (v == v') = true ↔ _
    rw [beq_iff_eq]
    exact ⟨fun e => by rw [e]; exact hm, fun h9 => apt_one h h9 hm⟩
theorem mapD_equal {l1 l2 : List (ByteArray × Int)} (h1 : Apt l1) (h2 : Apt l2) : Lib.equalFuncD eqdI (mapD l1) (mapD l2) = true ↔ l1.length = l2.length ∧ ∀ p ∈ l1, p ∈ l2 := by
  obtain ⟨es1, e1, p1⟩ := mapD_perm h1
  obtain ⟨es2, e2, p2⟩ := mapD_perm h2
  unfold Lib.equalFuncD
  rw [Bool.and_eq_true, decide_eq_true_eq]
  have s1 : Maps.size (mapD l1) = l1.length := by rw [e1]; show es1.length = _; rw [p1.length_eq, List.length_map]
  have s2 : Maps.size (mapD l2) = l2.length := by rw [e2]; show es2.length = _; rw [p2.length_eq, List.length_map]
  rw [s1, s2]
  refine and_congr Iff.rfl ?_
  rw [show Lib.entriesD (mapD l1) = es1 by rw [e1]; rfl, List.all_eq_true]
  constructor
  · intro h p hp
    exact (good_iff h2 p).1 (h (entL p) (p1.mem_iff.2 (List.mem_map.2 ⟨p, hp, rfl⟩)))
  · intro h q hq
    obtain ⟨p, hp, rfl⟩ := List.mem_map.1 (p1.mem_iff.1 hq)
    exact (good_iff h2 p).2 (h p hp)
theorem mapD_self {l : List (ByteArray × Int)} (h : Apt l) : Lib.equalFuncD eqdI (mapD l) (mapD l) = true := (mapD_equal h h).2 ⟨rfl, fun _ hp => hp⟩
theorem apt_pairs {H : ByteArray → Nat} {t : Tab} (hw : Wf H t) : Apt (pairsT t) := ents_one H hw
end Go.Proofs.Ytbhdgeoljlhmcaa
