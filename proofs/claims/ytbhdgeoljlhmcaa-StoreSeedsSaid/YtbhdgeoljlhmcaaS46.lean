/- Texts in order: merged, sorted, inserted, sought (plain). -/
import Derived.Test.YtbhdgeoljlhmcaaS16
namespace Go.Proofs.Ytbhdgeoljlhmcaa
open Go.RowKit Go.Proofs.Ytbhdgeoljlhmcaa.Nm Go.Proofs.Ytbhdgeoljlhmcaa.St
theorem ltB_iff (x y : ByteArray) : ltB x y = true ↔ x.data.toList < y.data.toList := by
  unfold ltB
  rw [Proofs.bytesLess_eq, ByteArray.toList_eq, ByteArray.toList_eq]
  simp
theorem ltB_irrefl (x : ByteArray) : ltB x x = false := by
  rw [Bool.eq_false_iff]; intro h; exact List.lt_irrefl _ ((ltB_iff x x).1 h)
theorem ltB_trans {x y z : ByteArray} (h1 : ltB x y = true) (h2 : ltB y z = true) : ltB x z = true := (ltB_iff x z).2 (List.lt_trans ((ltB_iff x y).1 h1) ((ltB_iff y z).1 h2))
theorem ltB_asymm {x y : ByteArray} (h : ltB x y = true) : ltB y x = false := by
  rw [Bool.eq_false_iff]; intro h2
  have := ltB_trans h h2
  rw [ltB_irrefl] at this; cases this
theorem ltB_anti {x y : ByteArray} (h1 : ltB x y = false) (h2 : ltB y x = false) : x = y := by
  have a : ¬ x.data.toList < y.data.toList := fun h => by rw [(ltB_iff x y).2 h] at h1; cases h1
  have b : ¬ y.data.toList < x.data.toList := fun h => by rw [(ltB_iff y x).2 h] at h2; cases h2
  have := List.le_antisymm (List.not_lt.1 b) (List.not_lt.1 a)
  exact ByteArray.ext (Array.toList_inj.1 this)
/-- not greater -/
def leB (x y : ByteArray) : Prop := ltB y x = false
theorem leB_trans {x y z : ByteArray} (h1 : leB x y) (h2 : leB y z) : leB x z := by
  unfold leB at *
  rw [Bool.eq_false_iff]; intro h
  by_cases hy : ltB y x = true
  · rw [hy] at h1; cases h1
  · by_cases hzy : ltB x y = true
    · have := ltB_trans h hzy; rw [h2] at this; cases this
    · have e := ltB_anti (Bool.eq_false_iff.2 hzy) h1
      subst e
      rw [h2] at h; cases h
theorem leB_of_lt {x y : ByteArray} (h : ltB x y = true) : leB x y := ltB_asymm h
theorem leB_refl (x : ByteArray) : leB x x := ltB_irrefl x
abbrev Srt (l : List ByteArray) : Prop := l.Pairwise leB
theorem srt_uniq {a b : List ByteArray} (ha : Srt a) (hb : Srt b) (h : a.Perm b) : a = b :=
  List.Perm.eq_of_pairwise (fun _ _ _ _ h1 h2 => ltB_anti h2 h1) ha hb h
theorem mergeL_perm : ∀ (n : Nat) (a b : List ByteArray), a.length + b.length ≤ n → (mergeL a b).Perm (a ++ b)
  | 0, a, b, h => by
    obtain rfl : a = [] := List.length_eq_zero_iff.1 (by omega)
    obtain rfl : b = [] := List.length_eq_zero_iff.1 (by omega)
    rw [mergeL]; simp
  | n + 1, [], b, _ => by rw [mergeL]; simp
  | n + 1, x :: a, [], _ => by rw [mergeL]; simp
  | n + 1, x :: a, y :: b, h => by
    simp only [List.length_cons] at h
    rw [mergeL]
    split
    · have ih := mergeL_perm n (x :: a) b (by simp; omega)
      exact (ih.cons y).trans (List.perm_middle.symm)
    · exact (mergeL_perm n a (y :: b) (by simp; omega)).cons x
theorem mergeL_srt : ∀ (n : Nat) (a b : List ByteArray), a.length + b.length ≤ n → Srt a → Srt b → Srt (mergeL a b)
  | 0, a, b, h, _, _ => by
    obtain rfl : a = [] := List.length_eq_zero_iff.1 (by omega)
    obtain rfl : b = [] := List.length_eq_zero_iff.1 (by omega)
    rw [mergeL]; exact List.Pairwise.nil
  | n + 1, [], b, _, _, hb => by rw [mergeL]; exact hb
  | n + 1, x :: a, [], _, ha, _ => by rw [mergeL]; exact ha
  | n + 1, x :: a, y :: b, h, ha, hb => by
    simp only [List.length_cons] at h
    have ha' := List.pairwise_cons.1 ha
    have hb' := List.pairwise_cons.1 hb
    rw [mergeL]
    split
    · rename_i hlt
      refine List.pairwise_cons.2 ⟨fun z hz => ?_, mergeL_srt n (x :: a) b (by simp; omega) ha hb'.2⟩
      have hz2 := (mergeL_perm _ (x :: a) b (Nat.le_refl _)).mem_iff.1 hz
      rcases List.mem_append.1 hz2 with hz2 | hz2
      · rcases List.mem_cons.1 hz2 with rfl | hz2
        · exact leB_of_lt hlt
        · exact leB_trans (leB_of_lt hlt) (ha'.1 z hz2)
      · exact hb'.1 z hz2
    · rename_i hlt
      have hle : leB x y := Bool.eq_false_iff.2 hlt
      refine List.pairwise_cons.2 ⟨fun z hz => ?_, mergeL_srt n a (y :: b) (by simp; omega) ha'.2 hb⟩
      have hz2 := (mergeL_perm _ a (y :: b) (Nat.le_refl _)).mem_iff.1 hz
      rcases List.mem_append.1 hz2 with hz2 | hz2
      · exact ha'.1 z hz2
      · rcases List.mem_cons.1 hz2 with rfl | hz2
        · exact hle
        · exact leB_trans hle (hb'.1 z hz2)
theorem sortL_both : ∀ (n : Nat) (l : List ByteArray), l.length ≤ n → (sortL l).Perm l ∧ Srt (sortL l)
  | 0, l, h => by
    obtain rfl : l = [] := List.length_eq_zero_iff.1 (by omega)
    rw [sortL]; simp
  | n + 1, l, h => by
    rw [sortL]
    split
    · rename_i h2
      refine ⟨List.Perm.refl _, ?_⟩
      match l, h2 with
      | [], _ => exact List.Pairwise.nil
      | [x], _ => exact List.pairwise_singleton _ _
    · have h1 := sortL_both n (l.take (l.length / 2)) (by rw [List.length_take]; omega)
      have h2 := sortL_both n (l.drop (l.length / 2)) (by rw [List.length_drop]; omega)
      refine ⟨(mergeL_perm _ _ _ (Nat.le_refl _)).trans ((h1.1.append h2.1).trans (by rw [List.take_append_drop])), mergeL_srt _ _ _ (Nat.le_refl _) h1.2 h2.2⟩
theorem sortL_perm (l : List ByteArray) : (sortL l).Perm l := (sortL_both _ l (Nat.le_refl _)).1
theorem sortL_srt (l : List ByteArray) : Srt (sortL l) := (sortL_both _ l (Nat.le_refl _)).2
theorem sortL_of {l m : List ByteArray} (hm : Srt m) (h : m.Perm l) : m = sortL l := srt_uniq hm (sortL_srt l) (h.trans (sortL_perm l).symm)
/-- sorted lists merged are both together sorted -/
theorem merge_sorted (a b : List ByteArray) : mergeL (sortL a) (sortL b) = sortL (a ++ b) :=
  sortL_of (mergeL_srt _ _ _ (Nat.le_refl _) (sortL_srt a) (sortL_srt b)) ((mergeL_perm _ _ _ (Nat.le_refl _)).trans ((sortL_perm a).append (sortL_perm b)))
theorem srt_adj {l : List ByteArray} (h : ∀ i (h2 : i + 1 < l.length), leB l[i] l[i + 1]) : Srt l := by
  induction l with
  | nil => exact List.Pairwise.nil
  | cons x l ih =>
    have ih' := ih (fun i h2 => h (i + 1) (by simp; omega))
    refine List.pairwise_cons.2 ⟨fun z hz => ?_, ih'⟩
    cases l with
    | nil => cases hz
    | cons y l =>
      have h0 := h 0 (by simp)
      rcases List.mem_cons.1 hz with rfl | hz
      · exact h0
      · exact leB_trans h0 ((List.pairwise_cons.1 ih').1 z hz)
theorem sortedB_iff (l : List ByteArray) : sortedB l = true ↔ Srt l := by
  unfold sortedB
  rw [Lib.downOK_iff]
  have hz : l.toArray.size = l.length := by simp
  have hg : ∀ i (h : i < l.length), l.toArray[i]! = l[i] := fun i h => by simp [h]
  constructor
  · intro h
    refine srt_adj (fun i h2 => ?_)
    have h3 := h i (by omega)
    rw [hg i (by omega), hg (i + 1) h2, decide_eq_false_iff_not, ← ltB_iff] at h3
    exact Bool.eq_false_iff.2 h3
  · intro h i h1
    have h3 := List.pairwise_iff_getElem.1 h i (i + 1) (by omega) (by omega) (by omega)
    rw [hg i (by omega), hg (i + 1) (by omega), decide_eq_false_iff_not, ← ltB_iff]
    exact Bool.eq_false_iff.1 h3
theorem sortL_self {l : List ByteArray} (h : Srt l) : sortL l = l := (sortL_of h (List.Perm.refl _)).symm
/-- a list is sorted exactly if sorting does not change it -/
theorem sortedB_eq (l : List ByteArray) : sortedB l = decide (sortL l = l) := by
  rw [← Bool.coe_iff_coe, sortedB_iff, decide_eq_true_eq]
  exact ⟨sortL_self, fun h => h ▸ sortL_srt l⟩
/-- halving -/
def srch (l : List ByteArray) (k : ByteArray) (lo hi : Nat) : Nat :=
  if _h : lo < hi then (if ltB (l.getD ((lo + hi) / 2) ByteArray.empty) k then srch l k ((lo + hi) / 2 + 1) hi else srch l k lo ((lo + hi) / 2)) else lo
termination_by hi - lo
theorem srch_srt {l : List ByteArray} (hs : Srt l) (k : ByteArray) : ∀ (n lo hi : Nat), hi - lo ≤ n → lo ≤ hi → hi ≤ l.length → (∀ i, i < lo → ltB (l.getD i ByteArray.empty) k = true) → (∀ i, hi ≤ i → i < l.length → ltB (l.getD i ByteArray.empty) k = false) →
    lo ≤ srch l k lo hi ∧ srch l k lo hi ≤ hi ∧ (∀ i, i < srch l k lo hi → ltB (l.getD i ByteArray.empty) k = true) ∧ (∀ i, srch l k lo hi ≤ i → i < l.length → ltB (l.getD i ByteArray.empty) k = false)
  | 0, lo, hi, h, h1, h2, h3, h4 => by
    rw [srch, dif_neg (by omega)]
    obtain rfl : lo = hi := by omega
    exact ⟨Nat.le_refl _, Nat.le_refl _, h3, h4⟩
  | n + 1, lo, hi, h, h1, h2, h3, h4 => by
    by_cases hlt : lo < hi
    · have hmid : (lo + hi) / 2 < hi := by omega
      have hg : ∀ i, i < l.length → ∃ (h9 : i < l.length), l.getD i ByteArray.empty = l[i] := fun i h9 => ⟨h9, by rw [List.getD_eq_getElem?_getD, List.getElem?_eq_getElem h9]; rfl⟩
      have hle : ∀ i j, i ≤ j → j < l.length → leB (l.getD i ByteArray.empty) (l.getD j ByteArray.empty) := fun i j hij hj => by
        obtain ⟨p1, e1⟩ := hg i (by omega)
        obtain ⟨p2, e2⟩ := hg j hj
        rw [e1, e2]
        by_cases e : i = j
        · subst e; exact leB_refl _
        · exact List.pairwise_iff_getElem.1 hs i j p1 p2 (by omega)
      rw [srch, dif_pos hlt]
      split
      · rename_i hl
        have := srch_srt hs k n ((lo + hi) / 2 + 1) hi (by omega) (by omega) h2 (fun i hi2 => ?_) h4
        · exact ⟨by omega, this.2.1, this.2.2⟩
        · have h9 := hle i ((lo + hi) / 2) (by omega) (by omega)
          by_cases h10 : ltB (l.getD i ByteArray.empty) k = true
          · exact h10
          · have := leB_trans (show leB k (l.getD i ByteArray.empty) from Bool.eq_false_iff.2 h10) h9
            unfold leB at this; rw [hl] at this; cases this
      · rename_i hl
        have := srch_srt hs k n lo ((lo + hi) / 2) (by omega) (by omega) (by omega) h3 (fun i hi2 hi3 => ?_)
        · exact ⟨this.1, by omega, this.2.2⟩
        · exact leB_trans (show leB k (l.getD ((lo + hi) / 2) ByteArray.empty) from Bool.eq_false_iff.2 hl) (hle _ _ hi2 hi3)
    · rw [srch, dif_neg hlt]
      obtain rfl : lo = hi := by omega
      exact ⟨Nat.le_refl _, Nat.le_refl _, h3, h4⟩
/-- halving finds what is there -/
theorem srch_mem {l : List ByteArray} (hs : Srt l) (k : ByteArray) : l[srch l k 0 l.length]? = some k ↔ k ∈ l := by
  refine ⟨fun h => List.mem_of_getElem? h, fun h => ?_⟩
  obtain ⟨h1, h2, h3, h4⟩ := srch_srt hs k l.length 0 l.length (by omega) (by omega) (Nat.le_refl _) (fun i hi => by omega) (fun i h1 h2 => by omega)
  obtain ⟨j, hj, e⟩ := List.getElem_of_mem h
  obtain ⟨p, hp⟩ : ∃ p, p = srch l k 0 l.length := ⟨_, rfl⟩
  rw [← hp] at h1 h2 h3 h4 ⊢
  have hge : ∀ i (h9 : i < l.length), l.getD i ByteArray.empty = l[i] := fun i h9 => by rw [List.getD_eq_getElem?_getD, List.getElem?_eq_getElem h9]; rfl
  have hpj : p ≤ j := by
    by_cases h9 : j < p
    · have := h3 j h9
      rw [hge j hj, e, ltB_irrefl] at this; cases this
    · omega
  have hpl : p < l.length := by omega
  have h5 := h4 p (Nat.le_refl _) hpl
  rw [hge p hpl] at h5
  rw [List.getElem?_eq_getElem hpl]
  congr 1
  by_cases e2 : p = j
  · subst e2; exact e
  · have h6 := List.pairwise_iff_getElem.1 hs p j hpl hj (by omega)
    rw [e] at h6
    exact ltB_anti h5 h6
end Go.Proofs.Ytbhdgeoljlhmcaa
