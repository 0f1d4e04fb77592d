/- Entries as a map, by the program; two such maps compared. -/
import Derived.Test.YtbhdgeoljlhmcaaS51
import Derived.Outline
namespace Go.Proofs.Ytbhdgeoljlhmcaa
open Go.RowKit Go.Proofs.Ytbhdgeoljlhmcaa.Nm Go.Proofs.Ytbhdgeoljlhmcaa.St
set_option linter.unusedSimpArgs false
/-- how an element reads -/
def valR (v : Value) : Option (DataW Unit × List MemPlace) := match v with | .int .i64 a => some (.lit (.int .i64 a), []) | _ => none
def klit (k : ByteArray) : Lit := .string k.data.toList
/-- entries as a map's datum -/
def mapD (l : List (ByteArray × Int)) : DataW Unit := l.foldl (fun D p => D.put (klit p.1) (.lit (.int .i64 p.2))) (.map [])
theorem mapD_snoc (l : List (ByteArray × Int)) (p : ByteArray × Int) : mapD (l ++ [p]) = (mapD l).put (klit p.1) (.lit (.int .i64 p.2)) := by unfold mapD; rw [List.foldl_append]; rfl
theorem K9 : Maps.Keyed Try.prog 9 := Maps.string_keyed u9
theorem u115 : Try.prog.underlying 115 = some (.map 9 3) := by kernel_rfl
theorem valR_int (a : Int) : valR (.int .i64 a) = some (.lit (.int .i64 a), []) := rfl
theorem pairsT_short {t : Tab} (h : Short t) : ∀ p ∈ pairsT t, p.1.size ≤ 1000000000 := fun p hp => by
  obtain ⟨k, v⟩ := p
  exact short_has h (has_mem.2 hp)
theorem prAt_look {w w' : World} {q n : Nat} {l : List (ByteArray × Int)} (h : PrAt w (some ⟨q, 0, none⟩) n l) (hq : w'.heap[q]? = w.heap[q]?) : PrAt w' (some ⟨q, 0, none⟩) n l :=
  ⟨h.1, fun i k v hi => by obtain ⟨q', Cs, t, fr, h1, h2, h3⟩ := h.2 i k v hi; cases h1; exact ⟨q, Cs, t, fr, rfl, hq.trans h2, h3⟩⟩
theorem prAt_lt {w : World} {q n : Nat} {l : List (ByteArray × Int)} (h : PrAt w (some ⟨q, 0, none⟩) n l) {i : Nat} (hi : i < l.length) : q < w.heap.size := by
  obtain ⟨q', Cs, t, fr, h1, h2, h3⟩ := h.2 i _ _ (List.getElem?_eq_getElem hi)
  cases h1
  exact heap_lt h2
theorem ex_mmT {ev : Operand → Value} {o : Oper} {w : World} {T : TypeId} (ho : o.op = .makeMap T none) : (execOp ev o).run Try.prog w = .ok (.value (.map (some w.heap.size))) (w.alloc (.map #[] 0)) := by
  unfold execOp
  simp [ho, run_makeMap, Result.andThen]
theorem ownsMap_below {w w' : World} {k : TypeId} {R : Value → Option (DataW Unit × List MemPlace)} {b n : Nat} {D : DataW Unit} (h : w.ownsMap Try.prog k R b n D) (hb : Below w.heap.size w w') : w'.ownsMap Try.prog k R b n D := by
  obtain ⟨es, clock, h1, h2⟩ := h
  exact ⟨es, clock, below_look hb h1, h2⟩
set_option maxHeartbeats 2000000 in
set_option maxRecDepth 100000 in
theorem values_any (g : Nat) (A : Option Addr) (cap : Nat) (t : Tab) (kd seed cnt : Int) (lv : Value) (hn2 : t.length ≤ 1000000) (hsh : Short t) (w : World)
    (h0 : w.heap[g]? = some (.cells (bcells kd lv seed cnt (.slice A t.length cap)) 87 (0, 0))) {B : Nat} (hv : VT B w A cap t) :
    Calls Try.prog 74 #[.pointer (some ⟨g, 0, none⟩)] w fun e w' => ∃ b n, e = .returned (.map (some b)) ∧ w'.ownsMap Try.prog 9 valR b n (mapD (pairsT t)) ∧ Below w.heap.size w w' := by
  have HV := Lib.hid hv
  have H0 := Lib.hid h0
  have HSH := Lib.hid (pairsT_short hsh)
  have hpl := pairsT_le t
  clear hv h0 hsh
  go_enter Try.func74, Try.ntmps74
  go_upto_region 1 with (fail)
  apply wp_region_lit
  refine wl_w rfl (ex_mmT rfl) ?_
  simp only [put_lit, List.set_cons_zero, List.set_cons_succ]
  have hM0 := World.ownsMap_made w Try.prog 9 valR
  have hb0 := (Below.refl w.heap.size w).alloc (Nat.le_refl _) (.map #[] 0)
  have HM := Lib.hid hM0
  have HB := Lib.hid hb0
  have hzb := hM0.lt
  clear hM0 hb0
  generalize w.alloc (.map #[] 0) = w1 at *
  refine wl_k rfl (fun K hK => ?_); go_simp; refine hK _ ?_; clear hK K
  go_upto_region 2 with (fail)
  apply wp_region_lit
  refine wl_k rfl (fun K hK => ?_); go_simp; refine hK _ ?_; clear hK K
  refine wl_ck rfl (fun K hK => ?_); go_simp; refine ⟨_, _, ⟨rfl, rfl⟩, hK _ _ ⟨_, pairs_any g A cap t kd seed cnt lv hn2 _ (below_look HB.out H0.out) (HV.out.below HB.out), ?_⟩⟩; clear hK K; rintro e w2 ⟨sv, rfl, hsv, hb1⟩; refine ⟨_, rfl, ?_⟩; simp only [put_lit, List.set_cons_zero, List.set_cons_succ]
  obtain ⟨P, c, rfl, hpr⟩ := own_prAt hsv rfl
  have HPR := Lib.hid hpr
  have HSV := Lib.hid hsv
  replace HM : Hid (w2.ownsMap Try.prog 9 valR w.heap.size 0 (mapD ((pairsT t).take 0))) := Lib.hid (ownsMap_below HM.out hb1)
  replace HB := Lib.hid (HB.out.trans (hb1.mono HB.out.size))
  obtain ⟨l, hl⟩ : ∃ l, l = pairsT t := ⟨_, rfl⟩
  rw [← hl] at HSH hpl HPR HSV HM ⊢
  have HL := Lib.hid hl
  clear hpr hsv hb1 hl
  refine wl_k rfl (fun K hK => ?_); go_simp; refine hK _ ?_; clear hK K
  refine wl_k rfl (fun K hK => ?_); go_simp; refine hK _ ?_; clear hK K
  go_wp2_with fail
  go_loopw [10] (fun i wr => ∃ j : Nat, j ≤ l.length ∧ i = .int .i64 (j : Int) ∧ Hid (wr.ownsMap Try.prog 9 valR w.heap.size j (mapD (l.take j))) ∧ Hid (PrAt wr P l.length l) ∧ Hid (Below w.heap.size w wr)) (fun i _ => l.length - (intOf i).toNat)
  case atStart => exact ⟨0, by omega, rfl, HM, HPR, HB⟩
  case round =>
    clear HM HPR HB
    obtain ⟨j, hj, rfl, HM, HPR, HB⟩ := hrel
    by_cases hlt : j < l.length
    · have hltI : (j : Int) < (l.length : Int) := by omega
      obtain ⟨⟨k, v⟩, ha⟩ : ∃ a, l[j]? = some a := ⟨_, List.getElem?_eq_getElem hlt⟩
      obtain ⟨q, rfl⟩ := HPR.out.addr hlt
      have HA := Lib.hid ha
      have hks : k.size ≤ 1000000000 := HSH.out (k, v) (List.mem_of_getElem? ha)
      have hqb : q ≠ w.heap.size := fun e => by have := (own_block HSV.out (q := q) rfl).1; omega
      have HTK : Hid (mapD (l.take (j + 1)) = (mapD (l.take j)).put (klit k) (.lit (.int .i64 v))) := Lib.hid (by rw [List.take_add_one, ha]; exact mapD_snoc _ (k, v))
      clear ha
      go_upto_region 4 with (fail)
      apply wp_region_lit
      refine wl_k rfl (fun K hK => ?_); go_simp; refine hK _ ?_; clear hK K
      ((with_reducible apply wl_rowG); exact rfl; exact rfl; exact HPR.out.row HA.out)
      simp only [put_lit, List.set_cons_zero, List.set_cons_succ]
      refine wl_new (fun ev w => ex_alloc91 rfl ev w) ?_
      intro W2 pp hb2 hl2 h3
      refine wl_putG pp (pair k v) rfl rfl 91 _ h3 info91 rfl (pair_one _ _) ?_
      rw [put_noneA]
      have hbb := below_setRow hb2 (g := pp) hl2 (pair k v)
      have h3' := hr_new (cs := pair k v) h3
      replace HM := Lib.hid (ownsMap_below HM.out hbb)
      replace HPR := Lib.hid (HPR.out.below hbb)
      replace HB := Lib.hid (HB.out.trans (hbb.mono HB.out.size))
      clear hb2 h3 hbb hl2
      generalize W2.setRow pp (pair k v) = w3 at *
      have k0 : w3.cell? ⟨pp, 0, none⟩ = some (.string k) := by rw [cell_of_row _ _ _ _ _ _ h3']; rfl
      have k1 : w3.cell? ⟨pp, 1, none⟩ = some (.int .i64 v) := by rw [cell_of_row _ _ _ _ _ _ h3']; rfl
      clear h3'
      go_upto_region 5 with (fail)
      apply wp_region_lit
      refine wl_k rfl (fun K hK => ?_); go_simp; refine hK _ ?_; clear hK K
      refine wl_k rfl (fun K hK => ?_); go_simp; refine hK _ ?_; clear hK K
      ((with_reducible apply wl_oneG); exact rfl; exact rfl; exact one9 k0)
      refine wl_k rfl (fun K hK => ?_); go_simp; refine hK _ ?_; clear hK K
      ((with_reducible apply wl_oneG); exact rfl; exact rfl; exact one3 k1)
      simp only [put_lit, List.set_cons_zero, List.set_cons_succ]
      refine wpList_mapUpdate_own _ rfl _ _ _ 115 rfl 9 3 K9 u115 valR w.heap.size j _ rfl HM.out (by unfold maxLen; omega) _ _ (klit k) rfl rfl (WideMaps.keyOf_string_mk u9 (by unfold maxLen; omega)) _ [] (valR_int v) ?_
      intro w4 hM4 hg4
      rw [put_noneA]
      have HM4 : Hid (w4.ownsMap Try.prog 9 valR w.heap.size (j + 1) (mapD (l.take (j + 1)))) := Lib.hid (by rw [HTK.out]; exact hM4)
      have HB4 := Lib.hid (HB.out.grown hg4 HB.out.size (fun q hq => by cases hq; exact Nat.le_refl _))
      have HPR4 := Lib.hid (prAt_look HPR.out (hg4.block q (prAt_lt HPR.out hlt) (fun e => hqb (by cases e; rfl)) ))
      clear hM4 hg4 HM HPR HB HTK k0 k1
      go_wp2_with fail
      go_roundw
      case rel => exact ⟨j + 1, by omega, by go_num, HM4, HPR4, HB4⟩
      case measure => simp [intOf]; omega
    · obtain rfl : j = l.length := by omega
      go_wp2_with fail
      go_ret
      refine ⟨w.heap.size, l.length, rfl, ?_, HB.out⟩
      rw [← HL.out]
      have h9 := HM.out
      rw [List.take_length] at h9
      exact h9
end Go.Proofs.Ytbhdgeoljlhmcaa
