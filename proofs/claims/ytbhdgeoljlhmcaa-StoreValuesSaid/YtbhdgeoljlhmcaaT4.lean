/- Tables: how many entries, a table grown; plain facts. -/
import Derived.Test.YtbhdgeoljlhmcaaT3
namespace Go.Proofs.Ytbhdgeoljlhmcaa.St
section
variable (H : ByteArray → Nat)
/-- how many entries -/
def cn (t : Tab) : Nat := t.countP (·.isSome)
/-- the entries in order -/
def ents (t : Tab) : List (ByteArray × Int) := t.filterMap id
theorem ents_length (t : Tab) : (ents t).length = cn t := by
  unfold ents cn
  induction t with
  | nil => rfl
  | cons o t ih => cases o <;> simp [ih]
theorem pl_getE {t : Tab} {i : Nat} (hi : i < t.length) : pl t i = t[i] := by unfold pl; rw [Nat.mod_eq_of_lt hi, List.getElem?_eq_getElem hi]; rfl
theorem cn_set {t : Tab} {i : Nat} (hi : i < t.length) (o : Option (ByteArray × Int)) : cn (t.set i o) + (if occ t i then 1 else 0) = cn t + (if o.isSome then 1 else 0) := by
  unfold cn occ
  rw [List.countP_set hi, pl_getE hi]
  by_cases h : (t[i]).isSome = true
  · have : 1 ≤ t.countP (·.isSome) := List.countP_pos_iff.2 ⟨t[i], List.getElem_mem hi, h⟩
    simp only [h, if_true]
    omega
  · simp [h]
theorem cn_le (t : Tab) : cn t ≤ t.length := List.countP_le_length
theorem cn_gap {t : Tab} (h : cn t < t.length) : ∃ i, i < t.length ∧ occ t i = false := by
  apply Classical.byContradiction
  intro hn
  have : cn t = t.length := by
    unfold cn
    rw [List.countP_eq_length]
    intro o ho
    obtain ⟨i, hi, rfl⟩ := List.mem_iff_getElem.1 ho
    cases hq : occ t i with
    | false => exact absurd ⟨i, hi, hq⟩ hn
    | true => unfold occ at hq; rwa [pl_getE hi] at hq
  omega
theorem gap_cn {t : Tab} (h : ∃ i, i < t.length ∧ occ t i = false) : cn t < t.length := by
  obtain ⟨i, hi, ho⟩ := h
  have h1 := cn_set hi (some (⟨#[]⟩, 0))
  have h2 := cn_le (t.set i (some (⟨#[]⟩, 0)))
  simp only [List.length_set, ho, Option.isSome] at h1 h2
  simp at h1
  omega
theorem cn_two {t : Tab} (h : cn t + 1 < t.length) : ∃ i j, i < t.length ∧ j < t.length ∧ i ≠ j ∧ occ t i = false ∧ occ t j = false := by
  obtain ⟨i, hi, ho⟩ := cn_gap (t := t) (by omega)
  have h1 := cn_set hi (some (⟨#[]⟩, 0))
  simp only [ho, Option.isSome] at h1
  simp at h1
  obtain ⟨j, hj, hjo⟩ := cn_gap (t := t.set i (some (⟨#[]⟩, 0))) (by simp; omega)
  simp only [List.length_set] at hj
  rw [occ_set hi, Nat.mod_eq_of_lt hj] at hjo
  simp only [Bool.or_eq_false_iff, decide_eq_false_iff_not] at hjo
  exact ⟨i, j, hi, hj, fun e => hjo.2 e.symm, ho, hjo.1⟩
theorem cn_lay {t : Tab} (hg : ∃ i, i < t.length ∧ occ t i = false) (k : ByteArray) (v : Int) : cn (layT H t k v) = cn t + 1 := by
  obtain ⟨hs, hso, _⟩ := slot_free H hg k
  have h1 := cn_set hs (some (k, v))
  simp only [hso, Option.isSome] at h1
  unfold layT
  simpa using h1
theorem sweep_cn (f k : Nat) (t : Tab) : cn (sweep H t k f) = cn t := by
  induction f generalizing k t with
  | zero => rfl
  | succ f ih =>
    unfold sweep
    cases hp : pl t k with
    | none => rfl
    | some x =>
      obtain ⟨k', v⟩ := x
      simp only
      rw [ih]
      have hn : 0 < t.length := by
        apply Classical.byContradiction; intro h
        have : t = [] := List.length_eq_zero_iff.1 (by omega)
        subst this; simp [pl] at hp
      have hm : k % t.length < t.length := Nat.mod_lt _ hn
      have h1 := cn_set hm none
      have ho : occ t (k % t.length) = true := by rw [occ_mod]; unfold occ; rw [hp]; rfl
      simp only [ho] at h1
      simp at h1
      rw [cn_lay H ⟨k % t.length, by simpa using hm, by rw [occ_unset hm]; simp⟩]
      omega
theorem cn_remove {t : Tab} {i : Nat} (hi : i < t.length) (ho : occ t i = true) : cn (removeT H t i) + 1 = cn t := by
  unfold removeT
  rw [sweep_cn]
  have h1 := cn_set hi none
  simp only [ho] at h1
  simpa using h1
theorem wf_none {n : Nat} (hn : 1 ≤ n) : Wf H (List.replicate n none) := by
  have hp : ∀ i, pl (List.replicate n none) i = none := fun i => by
    unfold pl
    rw [List.getElem?_replicate]
    split <;> rfl
  exact ⟨fun i k v _ h => absurd (hp i) (by rw [h]; simp), fun i j k v1 v2 _ _ h _ => absurd (hp i) (by rw [h]; simp), ⟨0, by simp; omega, by unfold occ; rw [hp]; rfl⟩⟩
theorem cn_none (n : Nat) : cn (List.replicate n none) = 0 := by unfold cn; simp [List.countP_replicate]
theorem has_none (n : Nat) (k : ByteArray) (v : Int) : ¬ Has (List.replicate n none) k v := by
  rintro ⟨i, _, h⟩
  unfold pl at h
  rw [List.getElem?_replicate] at h
  split at h <;> cases h
theorem has_mem {t : Tab} {k : ByteArray} {v : Int} : Has t k v ↔ (k, v) ∈ ents t := by
  unfold ents
  simp only [List.mem_filterMap, id]
  constructor
  · rintro ⟨i, hi, h⟩
    rw [pl_getE hi] at h
    exact ⟨t[i], List.getElem_mem hi, h⟩
  · rintro ⟨o, ho, rfl⟩
    obtain ⟨i, hi, h⟩ := List.mem_iff_getElem.1 ho
    exact ⟨i, hi, by rw [pl_getE hi]; exact h⟩
/-- no key twice -/
theorem ents_one {t : Tab} (hw : Wf H t) : (ents t).Pairwise (fun a b => a.1 ≠ b.1) := by
  unfold ents
  rw [List.pairwise_filterMap, List.pairwise_iff_getElem]
  intro i j hi hj hij a ha b hb hab
  simp only [id] at ha hb
  have := hw.one i j a.1 a.2 b.2 hi hj (by rw [pl_getE hi]; exact ha) (by rw [pl_getE hj, hab]; exact hb)
  omega
theorem layAll_length (t : Tab) (l : List (ByteArray × Int)) : (layAll H t l).length = t.length := by
  unfold layAll
  induction l generalizing t with
  | nil => rfl
  | cons e l ih => simp only [List.foldl_cons, ih, layT_length]
theorem layAll_snoc (t : Tab) (l : List (ByteArray × Int)) (e : ByteArray × Int) : layAll H t (l ++ [e]) = layT H (layAll H t l) e.1 e.2 := by
  unfold layAll; rw [List.foldl_append]; rfl
theorem layAll_good {t : Tab} (hw : Wf H t) (l : List (ByteArray × Int)) (hl : l.Pairwise (fun a b => a.1 ≠ b.1)) (hd : ∀ e ∈ l, ∀ v, ¬ Has t e.1 v) (hc : cn t + l.length < t.length) :
    Wf H (layAll H t l) ∧ cn (layAll H t l) = cn t + l.length ∧ ∀ k v, Has (layAll H t l) k v ↔ (k, v) ∈ l ∨ Has t k v := by
  induction l generalizing t with
  | nil => exact ⟨hw, rfl, fun k v => by simp [layAll]⟩
  | cons e l ih =>
    simp only [List.length_cons] at hc
    have hg := cn_gap (t := t) (by omega)
    have h1 := lay_wf H hw (k := e.1) e.2 (fun i v hi h => hd e (by simp) v ⟨i, hi, h⟩) (cn_two (t := t) (by omega))
    have h2 := cn_lay H hg e.1 e.2
    have h3 := lay_has H hg e.1 e.2
    rw [List.pairwise_cons] at hl
    obtain ⟨a, b, c⟩ := ih h1 hl.2 (fun x hx v hh => by
      rcases (h3 x.1 v).1 hh with ⟨e1, _⟩ | hh
      · exact hl.1 x hx e1.symm
      · exact hd x (by simp [hx]) v hh) (by rw [h2, layT_length]; omega)
    refine ⟨a, by show cn (layAll H (layT H t e.1 e.2) l) = _; rw [b, h2]; simp; omega, fun k v => ?_⟩
    show Has (layAll H (layT H t e.1 e.2) l) k v ↔ _
    rw [c, h3, List.mem_cons, Prod.ext_iff]
    simp only
    constructor
    · rintro (h | h | h)
      · exact Or.inl (Or.inr h)
      · exact Or.inl (Or.inl h)
      · exact Or.inr h
    · rintro ((h | h) | h)
      · exact Or.inr (Or.inl h)
      · exact Or.inl h
      · exact Or.inr (Or.inr h)
/-- a table of twice the places with the same entries -/
def growT (t : Tab) : Tab := layAll H (List.replicate (2 * t.length) none) (ents t)
theorem growT_length (t : Tab) : (growT H t).length = 2 * t.length := by unfold growT; rw [layAll_length]; simp
theorem grow_good {t : Tab} (hw : Wf H t) : Wf H (growT H t) ∧ cn (growT H t) = cn t ∧ ∀ k v, Has (growT H t) k v ↔ Has t k v := by
  have hlt := gap_cn hw.gap
  obtain ⟨a, b, c⟩ := layAll_good H (wf_none H (n := 2 * t.length) (by omega)) (ents t) (ents_one H hw) (fun _ _ _ => has_none _ _ _) (by rw [cn_none, ents_length]; simp; omega)
  refine ⟨a, by unfold growT; rw [b, cn_none, ents_length]; simp, fun k v => ?_⟩
  unfold growT
  rw [c, ← has_mem]
  exact ⟨fun h => h.elim id (fun h => absurd h (has_none _ _ _)), Or.inl⟩
/-- an entry put in, the table grown first if it has to -/
def addT (t : Tab) (k : ByteArray) (v : Int) : Tab := layT H (if 3 * t.length ≤ 4 * cn t then growT H t else t) k v
theorem add_good {t : Tab} (hw : Wf H t) (hn : 4 ≤ t.length) {k : ByteArray} (v : Int) (hk : ∀ v, ¬ Has t k v) :
    Wf H (addT H t k v) ∧ cn (addT H t k v) = cn t + 1 ∧ 4 ≤ (addT H t k v).length ∧ ∀ k' v', Has (addT H t k v) k' v' ↔ (k' = k ∧ v' = v) ∨ Has t k' v' := by
  have hlt := gap_cn hw.gap
  unfold addT
  split
  · obtain ⟨a, b, c⟩ := grow_good H hw
    have hl := growT_length H t
    have hg := cn_gap (t := growT H t) (by omega)
    refine ⟨lay_wf H a v (fun i v hi h => hk v ((c k v).1 ⟨i, hi, h⟩)) (cn_two (by omega)), by rw [cn_lay H hg, b], by rw [layT_length]; omega, fun k' v' => by rw [lay_has H hg, c]⟩
  · rename_i h
    have hg := hw.gap
    refine ⟨lay_wf H hw v (fun i v hi h => hk v ⟨i, hi, h⟩) (cn_two (by omega)), cn_lay H hg _ _, by rw [layT_length]; exact hn, fun k' v' => lay_has H hg _ _ _ _⟩
end
end Go.Proofs.Ytbhdgeoljlhmcaa.St
