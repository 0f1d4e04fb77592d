/- A list sorted by insertion (the document's). -/
import Derived.Test.YtbhdgeoljlhmcaaS47
import Derived.Test.YtbhdgeoljlhmcaaS25
import Derived.Outline
namespace Go.Proofs.Ytbhdgeoljlhmcaa
open Go.RowKit Go.Proofs.Ytbhdgeoljlhmcaa.Nm Go.Proofs.Ytbhdgeoljlhmcaa.St
set_option linter.unusedSimpArgs false
section
variable {α : Type} (d : α) (le : α → α → Prop)
/-- insertion under way: the element at k belongs no further right than it stands -/
def Ins (L : List α) (i k : Nat) : Prop := k ≤ i ∧ (∀ a b, a < b → b ≤ i → a ≠ k → b ≠ k → le (L.getD a d) (L.getD b d)) ∧ ∀ b, k < b → b ≤ i → le (L.getD k d) (L.getD b d)
def swp (L : List α) (k : Nat) : List α := (L.set k (L.getD (k - 1) d)).set (k - 1) (L.getD k d)
theorem swp_length (L : List α) (k : Nat) : (swp d L k).length = L.length := by simp [swp]
theorem swp_get {L : List α} {k : Nat} (hk : 0 < k) (hl : k < L.length) (j : Nat) : (swp d L k).getD j d = if j = k - 1 then L.getD k d else if j = k then L.getD (k - 1) d else L.getD j d := by
  unfold swp
  simp only [List.getD_eq_getElem?_getD, List.getElem?_set]
  by_cases h1 : j = k - 1
  · subst h1
    rw [if_pos rfl, if_pos rfl, if_pos (by rw [List.length_set]; omega)]; rfl
  · rw [if_neg (fun e => h1 e.symm), if_neg h1]
    by_cases h2 : j = k
    · subst h2
      rw [if_pos rfl, if_pos rfl, if_pos hl]; rfl
    · rw [if_neg (fun e => h2 e.symm), if_neg h2]
theorem swp_perm {L : List α} {k : Nat} (hk : 0 < k) (hl : k < L.length) : (swp d L k).Perm L := by
  obtain ⟨m, rfl⟩ : ∃ m, k = m + 1 := ⟨k - 1, by omega⟩
  have e1 : L.getD m d = L[m] := by rw [List.getD_eq_getElem?_getD, List.getElem?_eq_getElem (by omega)]; rfl
  have e2 : L.getD (m + 1) d = L[m + 1] := by rw [List.getD_eq_getElem?_getD, List.getElem?_eq_getElem hl]; rfl
  have hL : L = L.take m ++ L[m] :: L[m + 1] :: L.drop (m + 2) := by
    rw [← List.drop_eq_getElem_cons hl, ← List.drop_eq_getElem_cons (by omega), List.take_append_drop]
  have hs : swp d L (m + 1) = L.take m ++ L[m + 1] :: L[m] :: L.drop (m + 2) := by
    unfold swp
    rw [Nat.add_sub_cancel, e1, e2]
    apply List.ext_getElem?
    intro j
    rw [List.getElem?_set, List.getElem?_set, List.length_set]
    have ht : (L.take m).length = m := by rw [List.length_take]; omega
    by_cases h1 : m = j
    · subst h1
      rw [if_pos rfl, if_pos (by omega), List.getElem?_append_right (by omega), ht, Nat.sub_self]; rfl
    · rw [if_neg h1]
      by_cases h2 : m + 1 = j
      · subst h2
        rw [if_pos rfl, if_pos hl, List.getElem?_append_right (by omega), ht, show m + 1 - m = 1 by omega]; rfl
      · rw [if_neg h2]
        by_cases h3 : j < m
        · rw [List.getElem?_append_left (by omega), List.getElem?_take_of_lt h3]
        · rw [List.getElem?_append_right (by omega), ht, show j - m = (j - m - 2) + 2 by omega, List.getElem?_cons_succ, List.getElem?_cons_succ, List.getElem?_drop]
          congr 1; omega
  rw [hs]
  conv => rhs; rw [hL]
  exact (List.Perm.swap _ _ _).append_left _
variable {d le}
theorem ins_start {L : List α} {i : Nat} (h : ∀ a b, a < b → b < i → le (L.getD a d) (L.getD b d)) : Ins d le L i i :=
  ⟨Nat.le_refl _, fun a b h1 h2 h3 h4 => h a b h1 (by omega), fun b h1 h2 => by omega⟩
theorem ins_step {L : List α} {i k : Nat} (h : Ins d le L i k) (hk : 0 < k) (hi : i < L.length) (hle : le (L.getD k d) (L.getD (k - 1) d)) : Ins d le (swp d L k) i (k - 1) := by
  obtain ⟨h1, h2, h3⟩ := h
  have g := fun j => swp_get d (L := L) hk (by omega) j
  refine ⟨by omega, fun a b hab hb ha1 hb1 => ?_, fun b hb1 hb2 => ?_⟩
  · rw [g, g, if_neg ha1, if_neg hb1]
    by_cases ea : a = k
    · rw [if_pos ea, if_neg (by omega)]; exact h2 (k - 1) b (by omega) hb (by omega) (by omega)
    · rw [if_neg ea]
      by_cases eb : b = k
      · rw [if_pos eb]; exact h2 a (k - 1) (by omega) (by omega) ea (by omega)
      · rw [if_neg eb]; exact h2 a b hab hb ea eb
  · rw [g, g, if_pos rfl, if_neg (by omega)]
    by_cases eb : b = k
    · rw [if_pos eb]; exact hle
    · rw [if_neg eb]; exact h3 b (by omega) hb2
theorem ins_end (ht : ∀ x y z, le x y → le y z → le x z) {L : List α} {i k : Nat} (h : Ins d le L i k) (he : k = 0 ∨ le (L.getD (k - 1) d) (L.getD k d)) : ∀ a b, a < b → b < i + 1 → le (L.getD a d) (L.getD b d) := fun a b hab hb => by
  obtain ⟨h1, h2, h3⟩ := h
  by_cases ea : a = k
  · subst ea; exact h3 b hab (by omega)
  · by_cases eb : b = k
    · subst eb
      have he' := he.resolve_left (by omega)
      by_cases e : a = b - 1
      · subst e; exact he'
      · exact ht _ _ _ (h2 a (b - 1) (by omega) (by omega) ea (by omega)) he'
    · exact h2 a b hab (by omega) ea eb
theorem ins_all {L : List α} (h : ∀ a b, a < b → b < L.length → le (L.getD a d) (L.getD b d)) : L.Pairwise le :=
  List.pairwise_iff_getElem.2 fun a b ha hb hab => by
    have h1 := h a b hab hb
    rwa [List.getD_eq_getElem?_getD, List.getD_eq_getElem?_getD, List.getElem?_eq_getElem ha, List.getElem?_eq_getElem hb] at h1
end
theorem own_setN {w : World} {B p cap n : Nat} {l : List ByteArray} (h : w.ownsRow B 9 1 (.slice (some ⟨p, 0, none⟩) n cap) n (strs l)) (hl : l.length = n) (i : Nat) (k : ByteArray) :
    (w.setCell ⟨p, i, none⟩ (.string k)).ownsRow B 9 1 (.slice (some ⟨p, 0, none⟩) n cap) n (strs (l.set i k)) := by
  subst hl
  have := own_setS h i k
  rwa [List.length_set] at this
theorem own_there {w : World} {B p cap n : Nat} {l : List ByteArray} (h : w.ownsRow B 9 1 (.slice (some ⟨p, 0, none⟩) n cap) n (strs l)) (hl : l.length = n) {i : Nat} (hi : i < n) : (w.cell? ⟨p, i, none⟩).isSome = true := by
  rw [h.cellAt i (by omega)]
  unfold strs
  rw [List.getElem?_map, List.getElem?_eq_getElem (by omega)]; rfl
set_option maxHeartbeats 4000000 in
set_option maxRecDepth 100000 in
theorem SortedI_any (A : Option Addr) (n c : Nat) (l : List ByteArray) (hn : n ≤ 100000) (w : World) (h : StrAt w A n c l) :
    Calls Try.prog 28 #[.slice A n c] w fun e w' => ∃ v', e = .returned v' ∧ w'.ownsRow w.heap.size 9 1 v' n (strs (sortL l)) ∧ Below w.heap.size w w' := by
  have H := Lib.hid h
  have HN := Lib.hid h.1
  clear h
  go_enter Try.func28, Try.ntmps28
  go_upto_region 1 with (fail)
  apply wp_region_lit
  refine wl_k rfl (fun K hK => ?_); go_simp; refine hK _ ?_; clear hK K
  refine wl_ck rfl (fun K hK => ?_); go_simp; refine ⟨_, _, ⟨rfl, rfl⟩, hK _ _ ⟨_, CopyStrings_any A n c l (by omega) _ H.out, ?_⟩⟩; clear hK K; rintro e w1 ⟨v', rfl, ho, hb⟩; refine ⟨_, rfl, ?_⟩; simp only [put_lit, List.set_cons_zero, List.set_cons_succ]
  have HO := Lib.hid ho
  have HB := Lib.hid hb
  obtain ⟨P, d, rfl⟩ := own_shape ho
  clear ho hb
  go_wp2_with fail
  go_loopw [4] (fun i wr => ∃ (j : Nat) (L : List ByteArray), j ≤ n ∧ i = .int .i64 (j : Int) ∧ Hid (L.Perm l) ∧ Hid (∀ a b, a < b → b < j → leB (L.getD a ByteArray.empty) (L.getD b ByteArray.empty)) ∧ Hid (wr.ownsRow w.heap.size 9 1 (.slice P n d) n (strs L)) ∧ Hid (Below w.heap.size w wr)) (fun i _ => n - (intOf i).toNat)
  case atStart => exact ⟨0, l, by omega, rfl, Lib.hid (List.Perm.refl _), Lib.hid (fun a b h1 h2 => by omega), HO, HB⟩
  case round =>
    clear HO HB
    obtain ⟨i, L0, hi, rfl, HP0, HS0, HO, HB⟩ := hrel
    by_cases hin : i < n
    · have hiI : (i : Int) < (n : Int) := by omega
      obtain ⟨p, d', e, hcap⟩ := own_s HO.out (by omega)
      simp only [Value.slice.injEq] at e
      obtain ⟨rfl, -, rfl⟩ := e
      have HI := Lib.hid (ins_start HS0.out)
      go_upto_region 5 with (fail)
      apply wp_region_lit
      refine wl_k rfl (fun K hK => ?_); go_simp; refine hK _ ?_; clear hK K
      refine wl_k rfl (fun K hK => ?_); go_simp; refine hK _ ?_; clear hK K
      clear HS0
      go_wp2_with fail
      go_loopw [5] (fun kv wr2 => ∃ (k : Nat) (L : List ByteArray), kv = .int .i64 (k : Int) ∧ k ≤ i ∧ Hid (L.Perm l) ∧ Hid (Ins ByteArray.empty leB L i k) ∧ Hid (wr2.ownsRow w.heap.size 9 1 (.slice (some ⟨p, 0, none⟩) n d) n (strs L)) ∧ Hid (Below w.heap.size w wr2)) (fun kv _ => (intOf kv).toNat)
      case atStart => exact ⟨i, L0, rfl, Nat.le_refl _, HP0, HI, HO, HB⟩
      case round =>
        clear HP0 HI HO HB
        obtain ⟨k, L, rfl, hki, HP, HI, HO, HB⟩ := hrel
        have hLn := HP.out.length_eq.trans HN.out
        have hzp := (HO.out.lt p rfl).1
        by_cases hk0 : k = 0
        · subst hk0
          have HE := Lib.hid (ins_end (le := leB) (fun _ _ _ h1 h2 => leB_trans h1 h2) HI.out (Or.inl rfl))
          go_upto_region 6 with (fail)
          refine wp_region_held_drew (S := Below w.heap.size w) mixed HB.out.drew (fun hS => ?_)
          refine ha_k (i := 0) rfl (by kernel_rfl) (by kernel_rfl) (by kernel_rfl) (fun _ _ _ _ h => h) hS rfl (fun K hK => ?_); go_simp; refine hK _ ?_; clear hK K; try simp only [put_lit, List.set_cons_zero, List.set_cons_succ]
          refine ha_k (i := 1) rfl (by kernel_rfl) (by kernel_rfl) (by kernel_rfl) (fun _ _ _ _ h => h) hS rfl (fun K hK => ?_); go_simp; refine hK _ ?_; clear hK K; try simp only [put_lit, List.set_cons_zero, List.set_cons_succ]
          refine ha_k (i := 2) rfl (by kernel_rfl) (by kernel_rfl) (by kernel_rfl) (fun _ _ _ _ h => h) hS rfl (fun K hK => ?_); go_simp; refine hK _ ?_; clear hK K; try simp only [put_lit, List.set_cons_zero, List.set_cons_succ]
          refine ha_skip (i := 3) rfl (by kernel_rfl) (by kernel_rfl) (by kernel_rfl) (fun _ _ _ h => h) hS rfl ?_; simp only [List.getElem_toArray, List.getElem_cons_succ, List.getElem_cons_zero, put_lit, List.set_cons_zero, List.set_cons_succ]
          refine ha_skip (i := 4) rfl (by kernel_rfl) (by kernel_rfl) (by kernel_rfl) (fun _ _ _ h => h) hS rfl ?_; simp only [List.getElem_toArray, List.getElem_cons_succ, List.getElem_cons_zero, put_lit, List.set_cons_zero, List.set_cons_succ]
          refine ha_skip (i := 5) rfl (by kernel_rfl) (by kernel_rfl) (by kernel_rfl) (fun _ _ _ h => h) hS rfl ?_; simp only [List.getElem_toArray, List.getElem_cons_succ, List.getElem_cons_zero, put_lit, List.set_cons_zero, List.set_cons_succ]
          refine ha_skip (i := 6) rfl (by kernel_rfl) (by kernel_rfl) (by kernel_rfl) (fun _ _ _ h => h) hS rfl ?_; simp only [List.getElem_toArray, List.getElem_cons_succ, List.getElem_cons_zero, put_lit, List.set_cons_zero, List.set_cons_succ]
          refine ha_skip (i := 7) rfl (by kernel_rfl) (by kernel_rfl) (by kernel_rfl) (fun _ _ _ h => h) hS rfl ?_; simp only [List.getElem_toArray, List.getElem_cons_succ, List.getElem_cons_zero, put_lit, List.set_cons_zero, List.set_cons_succ]
          refine ha_skip (i := 8) rfl (by kernel_rfl) (by kernel_rfl) (by kernel_rfl) (fun _ _ _ h => h) hS rfl ?_; simp only [List.getElem_toArray, List.getElem_cons_succ, List.getElem_cons_zero, put_lit, List.set_cons_zero, List.set_cons_succ]
          refine ha_skip (i := 9) rfl (by kernel_rfl) (by kernel_rfl) (by kernel_rfl) (fun _ _ _ h => h) hS rfl ?_; simp only [List.getElem_toArray, List.getElem_cons_succ, List.getElem_cons_zero, put_lit, List.set_cons_zero, List.set_cons_succ]
          refine ha_skip (i := 10) rfl (by kernel_rfl) (by kernel_rfl) (by kernel_rfl) (fun _ _ _ h => h) hS rfl ?_; simp only [List.getElem_toArray, List.getElem_cons_succ, List.getElem_cons_zero, put_lit, List.set_cons_zero, List.set_cons_succ]
          refine ha_skip (i := 11) rfl (by kernel_rfl) (by kernel_rfl) (by kernel_rfl) (fun _ _ _ h => h) hS rfl ?_; simp only [List.getElem_toArray, List.getElem_cons_succ, List.getElem_cons_zero, put_lit, List.set_cons_zero, List.set_cons_succ]
          refine ha_skip (i := 12) rfl (by kernel_rfl) (by kernel_rfl) (by kernel_rfl) (fun _ _ _ h => h) hS rfl ?_; simp only [List.getElem_toArray, List.getElem_cons_succ, List.getElem_cons_zero, put_lit, List.set_cons_zero, List.set_cons_succ]
          refine ha_k (i := 13) rfl (by kernel_rfl) (by kernel_rfl) (by kernel_rfl) (fun _ _ _ _ h => h) hS rfl (fun K hK => ?_); go_simp; refine hK _ ?_; clear hK K; try simp only [put_lit, List.set_cons_zero, List.set_cons_succ]
          refine wpAnyH_done (by kernel_rfl) ?_ _
          have HO2 := Lib.hid (own_below HO.out (Below.refl _ wr).drew)
          have HB2 := Lib.hid hS
          go_wp2_with fail
          go_roundw
          case rel => exact ⟨i + 1, L, by omega, by go_num, HP, HE, HO2, HB2⟩
          case measure => simp [intOf]; omega
        · have hkI : (0 : Int) < (k : Int) := by omega
          have hkN : 0 < k := by omega
          have hdN : decide (0 < k) = true := by simpa using hkN
          have hk1 : IntKind.i64.wrap ((k : Int) - 1) = ((k - 1 : Nat) : Int) := by rw [wrap_small _ (by omega) (by omega)]; omega
          have hkn : k < n := by omega
          have hkn1 : k - 1 < n := by omega
          have hxk : L[k]? = some (L.getD k ByteArray.empty) := by rw [List.getD_eq_getElem?_getD, List.getElem?_eq_getElem (by omega)]; rfl
          have hxk1 : L[k - 1]? = some (L.getD (k - 1) ByteArray.empty) := by rw [List.getD_eq_getElem?_getD, List.getElem?_eq_getElem (by omega)]; rfl
          obtain ⟨x, hx⟩ : ∃ x, x = L.getD k ByteArray.empty := ⟨_, rfl⟩
          obtain ⟨y, hy⟩ : ∃ y, y = L.getD (k - 1) ByteArray.empty := ⟨_, rfl⟩
          have HX := Lib.hid hx
          have HY := Lib.hid hy
          have hc1 : wr.cell? ⟨p, k, none⟩ = some (.string x) := by rw [HO.out.cellAt k (by omega), hx]; exact strs_get hxk
          have hc2 : wr.cell? ⟨p, k - 1, none⟩ = some (.string y) := by rw [HO.out.cellAt (k - 1) (by omega), hy]; exact strs_get hxk1
          clear hxk hxk1 hx hy
          go_upto_region 6 with (fail)
          refine wp_region_held_drew (S := Kept [] wr) mixed (Kept.drew [] wr) (fun hS => ?_)
          refine ha_k (i := 0) rfl (by kernel_rfl) (by kernel_rfl) (by kernel_rfl) (fun _ _ _ _ h => h) hS rfl (fun K hK => ?_); go_simp; refine hK _ ?_; clear hK K; try simp only [put_lit, List.set_cons_zero, List.set_cons_succ]
          refine ha_k (i := 1) rfl (by kernel_rfl) (by kernel_rfl) (by kernel_rfl) (fun _ _ _ _ h => h) hS rfl (fun K hK => ?_); go_simp; refine hK _ ?_; clear hK K; try simp only [put_lit, List.set_cons_zero, List.set_cons_succ]
          refine ha_k (i := 2) rfl (by kernel_rfl) (by kernel_rfl) (by kernel_rfl) (fun _ _ _ _ h => h) hS rfl (fun K hK => ?_); go_simp; refine hK _ ?_; clear hK K; try simp only [put_lit, List.set_cons_zero, List.set_cons_succ]
          refine ha_k (i := 3) rfl (by kernel_rfl) (by kernel_rfl) (by kernel_rfl) (fun _ _ _ _ h => h) hS rfl (fun K hK => ?_); go_simp; refine hK _ ?_; clear hK K; try simp only [put_lit, List.set_cons_zero, List.set_cons_succ]
          refine ha_k (i := 4) rfl (by kernel_rfl) (by kernel_rfl) (by kernel_rfl) (fun _ _ _ _ h => h) hS rfl (fun K hK => ?_); go_simp; refine hK _ ?_; clear hK K; try simp only [put_lit, List.set_cons_zero, List.set_cons_succ]
          refine ha_val (i := 5) (v := .pointer (some ⟨p, k, none⟩)) rfl (by kernel_rfl) (by kernel_rfl) (by kernel_rfl) (fun _ _ _ h => h) hS (by kernel_rfl) (fun w' _ => (ex_ixS (j := k) _ _ rfl rfl rfl hkn).trans (by rw [Addr.add_mid, Nat.zero_add])) ?_; try simp only [put_lit, List.set_cons_zero, List.set_cons_succ]
          refine ha_val (i := 6) rfl (by kernel_rfl) (by kernel_rfl) (by kernel_rfl) (fun _ _ _ h => h) hS (by kernel_rfl) (fun w' hw' => ex_one rfl (one9 (hw'.cell hc1 (by simp)))) ?_; try simp only [put_lit, List.set_cons_zero, List.set_cons_succ]
          refine ha_k (i := 7) rfl (by kernel_rfl) (by kernel_rfl) (by kernel_rfl) (fun _ _ _ _ h => h) hS rfl (fun K hK => ?_); go_simp; refine hK _ ?_; clear hK K; try simp only [put_lit, List.set_cons_zero, List.set_cons_succ]
          refine ha_k (i := 8) rfl (by kernel_rfl) (by kernel_rfl) (by kernel_rfl) (fun _ _ _ _ h => h) hS rfl (fun K hK => ?_); go_simp; refine hK _ ?_; clear hK K; try simp only [put_lit, List.set_cons_zero, List.set_cons_succ]
          refine ha_k (i := 9) rfl (by kernel_rfl) (by kernel_rfl) (by kernel_rfl) (fun _ _ _ _ h => h) hS rfl (fun K hK => ?_); go_simp; refine hK _ ?_; clear hK K; try simp only [put_lit, List.set_cons_zero, List.set_cons_succ]
          try rw [hk1]
          refine ha_val (i := 10) (v := .pointer (some ⟨p, k - 1, none⟩)) rfl (by kernel_rfl) (by kernel_rfl) (by kernel_rfl) (fun _ _ _ h => h) hS (by kernel_rfl) (fun w' _ => (ex_ixS (j := k - 1) _ _ rfl rfl rfl hkn1).trans (by rw [Addr.add_mid, Nat.zero_add])) ?_; try simp only [put_lit, List.set_cons_zero, List.set_cons_succ]
          refine ha_val (i := 11) rfl (by kernel_rfl) (by kernel_rfl) (by kernel_rfl) (fun _ _ _ h => h) hS (by kernel_rfl) (fun w' hw' => ex_one rfl (one9 (hw'.cell hc2 (by simp)))) ?_; try simp only [put_lit, List.set_cons_zero, List.set_cons_succ]
          refine ha_k (i := 12) rfl (by kernel_rfl) (by kernel_rfl) (by kernel_rfl) (fun _ _ _ _ h => h) hS rfl (fun K hK => ?_); go_simp; refine hK _ ?_; clear hK K; try simp only [put_lit, List.set_cons_zero, List.set_cons_succ]
          rw [show Op.bytesLess x.toList y.toList = ltB x y from rfl]
          refine ha_k (i := 13) rfl (by kernel_rfl) (by kernel_rfl) (by kernel_rfl) (fun _ _ _ _ h => h) hS rfl (fun K hK => ?_); go_simp; refine hK _ ?_; clear hK K; try simp only [put_lit, List.set_cons_zero, List.set_cons_succ]
          refine wpAnyH_done (by kernel_rfl) ?_ _
          have HOd := Lib.hid (own_below HO.out (Below.refl _ wr).drew)
          replace HB := Lib.hid HB.out.drew
          replace hc1 : wr.drew.cell? _ = _ := hc1
          replace hc2 : wr.drew.cell? _ = _ := hc2
          clear hS HO
          generalize wr.drew = wr at *
          obtain ⟨q, hq⟩ : ∃ q, q = ltB x y := ⟨_, rfl⟩
          have HQ := Lib.hid hq
          rw [← hq]
          clear hq
          cases q with
          | true =>
            have hth1 : (wr.cell? ⟨p, k, none⟩).isSome = true := by rw [hc1]; rfl
            have hfr1 := HOd.out.frozenAt k
            have HLE : Hid (leB (L.getD k ByteArray.empty) (L.getD (k - 1) ByteArray.empty)) := Lib.hid (leB_of_lt (by rw [← HX.out, ← HY.out]; exact HQ.out.symm))
            have HIS := Lib.hid (ins_step HI.out (by omega) (by omega) HLE.out)
            have HPS := Lib.hid ((swp_perm ByteArray.empty (L := L) (k := k) (by omega) (by omega)).trans HP.out)
            have HSW : Hid (swp ByteArray.empty L k = (L.set k y).set (k - 1) x) := Lib.hid (by unfold swp; rw [← HX.out, ← HY.out])
            clear HLE HQ HI HP
            go_upto_region 8 with (fail)
            refine wp_region_held_drew (S := Kept [p] wr) mixed (Kept.drew [p] wr) (fun hS => ?_)
            refine ha_k (i := 0) rfl (by kernel_rfl) (by kernel_rfl) (by kernel_rfl) (fun _ _ _ _ h => h) hS rfl (fun K hK => ?_); go_simp; refine hK _ ?_; clear hK K; try simp only [put_lit, List.set_cons_zero, List.set_cons_succ]
            refine ha_k (i := 1) rfl (by kernel_rfl) (by kernel_rfl) (by kernel_rfl) (fun _ _ _ _ h => h) hS rfl (fun K hK => ?_); go_simp; refine hK _ ?_; clear hK K; try simp only [put_lit, List.set_cons_zero, List.set_cons_succ]
            refine ha_k (i := 2) rfl (by kernel_rfl) (by kernel_rfl) (by kernel_rfl) (fun _ _ _ _ h => h) hS rfl (fun K hK => ?_); go_simp; refine hK _ ?_; clear hK K; try simp only [put_lit, List.set_cons_zero, List.set_cons_succ]
            refine ha_k (i := 3) rfl (by kernel_rfl) (by kernel_rfl) (by kernel_rfl) (fun _ _ _ _ h => h) hS rfl (fun K hK => ?_); go_simp; refine hK _ ?_; clear hK K; try simp only [put_lit, List.set_cons_zero, List.set_cons_succ]
            refine ha_k (i := 4) rfl (by kernel_rfl) (by kernel_rfl) (by kernel_rfl) (fun _ _ _ _ h => h) hS rfl (fun K hK => ?_); go_simp; refine hK _ ?_; clear hK K; try simp only [put_lit, List.set_cons_zero, List.set_cons_succ]
            refine ha_k (i := 5) rfl (by kernel_rfl) (by kernel_rfl) (by kernel_rfl) (fun _ _ _ _ h => h) hS rfl (fun K hK => ?_); go_simp; refine hK _ ?_; clear hK K; try simp only [put_lit, List.set_cons_zero, List.set_cons_succ]
            refine ha_k (i := 6) rfl (by kernel_rfl) (by kernel_rfl) (by kernel_rfl) (fun _ _ _ _ h => h) hS rfl (fun K hK => ?_); go_simp; refine hK _ ?_; clear hK K; try simp only [put_lit, List.set_cons_zero, List.set_cons_succ]
            refine ha_k (i := 7) rfl (by kernel_rfl) (by kernel_rfl) (by kernel_rfl) (fun _ _ _ _ h => h) hS rfl (fun K hK => ?_); go_simp; refine hK _ ?_; clear hK K; try simp only [put_lit, List.set_cons_zero, List.set_cons_succ]
            try rw [hk1]
            refine ha_val (i := 8) (v := .pointer (some ⟨p, k - 1, none⟩)) rfl (by kernel_rfl) (by kernel_rfl) (by kernel_rfl) (fun _ _ _ h => h) hS (by kernel_rfl) (fun w' _ => (ex_ixS (j := k - 1) _ _ rfl rfl rfl hkn1).trans (by rw [Addr.add_mid, Nat.zero_add])) ?_; try simp only [put_lit, List.set_cons_zero, List.set_cons_succ]
            refine ha_k (i := 10) rfl (by kernel_rfl) (by kernel_rfl) (by kernel_rfl) (fun _ _ _ _ h => h) hS rfl (fun K hK => ?_); go_simp; refine hK _ ?_; clear hK K; try simp only [put_lit, List.set_cons_zero, List.set_cons_succ]
            refine ha_k (i := 11) rfl (by kernel_rfl) (by kernel_rfl) (by kernel_rfl) (fun _ _ _ _ h => h) hS rfl (fun K hK => ?_); go_simp; refine hK _ ?_; clear hK K; try simp only [put_lit, List.set_cons_zero, List.set_cons_succ]
            refine ha_val (i := 12) (v := .pointer (some ⟨p, k, none⟩)) rfl (by kernel_rfl) (by kernel_rfl) (by kernel_rfl) (fun _ _ _ h => h) hS (by kernel_rfl) (fun w' _ => (ex_ixS (j := k) _ _ rfl rfl rfl hkn).trans (by rw [Addr.add_mid, Nat.zero_add])) ?_; try simp only [put_lit, List.set_cons_zero, List.set_cons_succ]
            have hd1 : wr.drew.cell? ⟨p, k, none⟩ = some (.string x) := hc1
            have hd2 : wr.drew.cell? ⟨p, k - 1, none⟩ = some (.string y) := hc2
            refine ha_two (i := 9) (j := 13) (by kernel_rfl) ?_ ?_
            · refine sh_val (i := 9) rfl rfl (ex_one rfl (one9 hd2)) hS ?_; try simp only [put_lit, List.set_cons_zero, List.set_cons_succ]
              refine ha_do (i := 13) (by kernel_rfl) rfl rfl (ex_one rfl (one9 hd1)) hS ?_; try simp only [put_lit, List.set_cons_zero, List.set_cons_succ]
              refine ha_val (i := 14) (v := .pointer (some ⟨p, k, none⟩)) rfl (by kernel_rfl) (by kernel_rfl) (by kernel_rfl) (fun _ _ _ h => h) hS (by kernel_rfl) (fun w' _ => (ex_ixS (j := k) _ _ rfl rfl rfl hkn).trans (by rw [Addr.add_mid, Nat.zero_add])) ?_; try simp only [put_lit, List.set_cons_zero, List.set_cons_succ]
              have hown1 : (wr.drew.setCell ⟨p, k, none⟩ (.string y)).ownsRow w.heap.size 9 1 (.slice (some ⟨p, 0, none⟩) n d) n (strs (L.set k y)) := own_setN HOd.out hLn k y
              have hth2 : ((wr.drew.setCell ⟨p, k, none⟩ (.string y)).cell? ⟨p, k - 1, none⟩).isSome = true := own_there hown1 (by rw [List.length_set, hLn]) (by omega)
              have hfr2 := hown1.frozenAt (k - 1)
              refine ha_storeC (i := 15) (by kernel_rfl) rfl rfl 9 _ _ rfl p k (.string y) rfl rfl (by kernel_rfl) rfl hth1 hfr1 (hS.setCell (by simp) k _) (fun hS => ?_); try simp only [put_lit, List.set_cons_zero, List.set_cons_succ]
              refine ha_val (i := 16) (v := .pointer (some ⟨p, k - 1, none⟩)) rfl (by kernel_rfl) (by kernel_rfl) (by kernel_rfl) (fun _ _ _ h => h) hS (by kernel_rfl) (fun w' _ => (ex_ixS (j := k - 1) _ _ rfl rfl rfl hkn1).trans (by rw [Addr.add_mid, Nat.zero_add])) ?_; try simp only [put_lit, List.set_cons_zero, List.set_cons_succ]
              refine ha_storeC (i := 17) (by kernel_rfl) rfl rfl 9 _ _ rfl p (k - 1) (.string x) rfl rfl (by kernel_rfl) rfl hth2 hfr2 (hS.setCell (by simp) (k - 1) _) (fun hS => ?_); try simp only [put_lit, List.set_cons_zero, List.set_cons_succ]
              refine wpAnyH_done (by kernel_rfl) ?_ _
              have HO2 : Hid (World.ownsRow _ w.heap.size 9 1 (.slice (some ⟨p, 0, none⟩) n d) n (strs (swp ByteArray.empty L k))) := Lib.hid (by rw [HSW.out]; exact own_setN hown1 (by rw [List.length_set, hLn]) (k - 1) x)
              have HB2 := Lib.hid (HB.out.trans (hS.toBelow HB.out.size (fun q hq => by simp at hq; omega)))
              clear hown1 hth2 hfr2 hS
              go_wp2_with fail
              go_roundw
              case rel => exact ⟨k - 1, swp ByteArray.empty L k, rfl, by omega, HPS, HIS, HO2, HB2⟩
              case measure => simp [intOf]; omega
            · refine sh_val (i := 13) rfl rfl (ex_one rfl (one9 hd1)) hS ?_; try simp only [put_lit, List.set_cons_zero, List.set_cons_succ]
              refine ha_do (i := 9) (by kernel_rfl) rfl rfl (ex_one rfl (one9 hd2)) hS ?_; try simp only [put_lit, List.set_cons_zero, List.set_cons_succ]
              refine ha_val (i := 14) (v := .pointer (some ⟨p, k, none⟩)) rfl (by kernel_rfl) (by kernel_rfl) (by kernel_rfl) (fun _ _ _ h => h) hS (by kernel_rfl) (fun w' _ => (ex_ixS (j := k) _ _ rfl rfl rfl hkn).trans (by rw [Addr.add_mid, Nat.zero_add])) ?_; try simp only [put_lit, List.set_cons_zero, List.set_cons_succ]
              have hown1 : (wr.drew.setCell ⟨p, k, none⟩ (.string y)).ownsRow w.heap.size 9 1 (.slice (some ⟨p, 0, none⟩) n d) n (strs (L.set k y)) := own_setN HOd.out hLn k y
              have hth2 : ((wr.drew.setCell ⟨p, k, none⟩ (.string y)).cell? ⟨p, k - 1, none⟩).isSome = true := own_there hown1 (by rw [List.length_set, hLn]) (by omega)
              have hfr2 := hown1.frozenAt (k - 1)
              refine ha_storeC (i := 15) (by kernel_rfl) rfl rfl 9 _ _ rfl p k (.string y) rfl rfl (by kernel_rfl) rfl hth1 hfr1 (hS.setCell (by simp) k _) (fun hS => ?_); try simp only [put_lit, List.set_cons_zero, List.set_cons_succ]
              refine ha_val (i := 16) (v := .pointer (some ⟨p, k - 1, none⟩)) rfl (by kernel_rfl) (by kernel_rfl) (by kernel_rfl) (fun _ _ _ h => h) hS (by kernel_rfl) (fun w' _ => (ex_ixS (j := k - 1) _ _ rfl rfl rfl hkn1).trans (by rw [Addr.add_mid, Nat.zero_add])) ?_; try simp only [put_lit, List.set_cons_zero, List.set_cons_succ]
              refine ha_storeC (i := 17) (by kernel_rfl) rfl rfl 9 _ _ rfl p (k - 1) (.string x) rfl rfl (by kernel_rfl) rfl hth2 hfr2 (hS.setCell (by simp) (k - 1) _) (fun hS => ?_); try simp only [put_lit, List.set_cons_zero, List.set_cons_succ]
              refine wpAnyH_done (by kernel_rfl) ?_ _
              have HO2 : Hid (World.ownsRow _ w.heap.size 9 1 (.slice (some ⟨p, 0, none⟩) n d) n (strs (swp ByteArray.empty L k))) := Lib.hid (by rw [HSW.out]; exact own_setN hown1 (by rw [List.length_set, hLn]) (k - 1) x)
              have HB2 := Lib.hid (HB.out.trans (hS.toBelow HB.out.size (fun q hq => by simp at hq; omega)))
              clear hown1 hth2 hfr2 hS
              go_wp2_with fail
              go_roundw
              case rel => exact ⟨k - 1, swp ByteArray.empty L k, rfl, by omega, HPS, HIS, HO2, HB2⟩
              case measure => simp [intOf]; omega
          | false =>
            have HE := Lib.hid (ins_end (le := leB) (fun _ _ _ h1 h2 => leB_trans h1 h2) HI.out (Or.inr (by unfold leB; rw [← HX.out, ← HY.out]; exact HQ.out.symm)))
            go_wp2_with fail
            go_roundw
            case rel => exact ⟨i + 1, L, by omega, by go_num, HP, HE, HOd, HB⟩
            case measure => simp [intOf]; omega
    · obtain rfl : i = n := by omega
      go_wp2_with fail
      go_ret
      refine ⟨_, rfl, ?_, HB.out⟩
      rw [← sortL_of (ins_all (d := ByteArray.empty) (fun a b h1 h2 => HS0.out a b h1 (by rw [HP0.out.length_eq, HN.out] at h2; exact h2))) HP0.out]
      exact HO.out
end Go.Proofs.Ytbhdgeoljlhmcaa
