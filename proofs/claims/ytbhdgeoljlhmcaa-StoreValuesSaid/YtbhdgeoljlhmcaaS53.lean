/- Two maps of entries compared (plain). -/
import Derived.Test.YtbhdgeoljlhmcaaS52
namespace Go.Proofs.Ytbhdgeoljlhmcaa
open Go.RowKit Go.Proofs.Ytbhdgeoljlhmcaa.Nm Go.Proofs.Ytbhdgeoljlhmcaa.St
def entL (p : ByteArray × Int) : Lit × DataW Unit := (klit p.1, .lit (.int .i64 p.2))
theorem klit_inj {a b : ByteArray} (h : klit a = klit b) : a = b := by
  unfold klit at h
  simp only [Lit.string.injEq] at h
  exact ByteArray.ext (Array.toList_inj.1 h)
theorem same_iff (a b : ByteArray) : (klit a).sameKey (klit b) = true ↔ a = b :=
  ⟨fun h => klit_inj (WideAt.sameKey_eq h), fun h => by subst h; exact WideAt.sameKey_self (by first | trivial | exact ⟨_, rfl⟩ | simp [WideAt.IsKeyLit, klit])⟩
theorem insert_perm {H : Type} (x : Lit × DataW H) : ∀ l : List (Lit × DataW H), (DataW.insert x l).Perm (x :: l)
  | [] => List.Perm.refl _
  | y :: r => by
    unfold DataW.insert
    split
    · exact List.Perm.refl _
    · exact ((insert_perm x r).cons y).trans (List.Perm.swap _ _ _)
/-- keys apart -/
def Apt (l : List (ByteArray × Int)) : Prop := l.Pairwise (fun a b => a.1 ≠ b.1)
theorem mapD_rev : ∀ (l : List (ByteArray × Int)), Apt l.reverse → ∃ es, mapD l.reverse = .map es ∧ es.Perm (l.map entL)
  | [], _ => ⟨[], rfl, List.Perm.refl _⟩
  | p :: l, h => by
    rw [List.reverse_cons] at h ⊢
    have h' := List.pairwise_append.1 h
    obtain ⟨es, e1, e2⟩ := mapD_rev l h'.1
    rw [mapD_snoc, e1]
    refine ⟨_, rfl, (insert_perm _ _).trans ?_⟩
    rw [List.filter_eq_self.2 (fun q hq => ?_)]
    · exact e2.cons _
    · obtain ⟨r, hr, rfl⟩ := List.mem_map.1 (e2.mem_iff.1 hq)
      have hne := h'.2.2 r (by simpa using hr) p (by simp)
      show (!(klit r.1).sameKey (klit p.1)) = true
      rw [Bool.not_eq_true', Bool.eq_false_iff]
      exact fun h9 => hne ((same_iff _ _).1 h9)
theorem mapD_perm {l : List (ByteArray × Int)} (h : Apt l) : ∃ es, mapD l = .map es ∧ es.Perm (l.map entL) := by
  obtain ⟨es, e1, e2⟩ := mapD_rev l.reverse (by rw [List.reverse_reverse]; exact h)
  rw [List.reverse_reverse] at e1
  exact ⟨es, e1, e2.trans ((List.reverse_perm l).map _)⟩
/-- whether two elements are equal -/
def eqdI (a b : DataW Unit) : Bool := match a, b with | .lit (.int .i64 x), .lit (.int .i64 y) => x == y | _, _ => false
theorem apt_one {l : List (ByteArray × Int)} (h : Apt l) {k : ByteArray} {v v' : Int} (h1 : (k, v) ∈ l) (h2 : (k, v') ∈ l) : v = v' := by
  obtain ⟨i, hi, e1⟩ := List.getElem_of_mem h1
  obtain ⟨j, hj, e2⟩ := List.getElem_of_mem h2
  have hp := List.pairwise_iff_getElem.1 h
  rcases Nat.lt_trichotomy i j with h9 | h9 | h9
  · have := hp i j hi hj h9; rw [e1, e2] at this; exact absurd rfl this
  · subst h9; rw [e1] at e2; cases e2; rfl
  · have := hp j i hj hi h9; rw [e1, e2] at this; exact absurd rfl this
theorem good_iff {l2 : List (ByteArray × Int)} (h : Apt l2) (p : ByteArray × Int) : Lib.goodD eqdI (mapD l2) (entL p) = true ↔ p ∈ l2 := by
  obtain ⟨es, e1, e2⟩ := mapD_perm h
  obtain ⟨k, v⟩ := p
  rw [e1]
  have hfind : ∀ q ∈ es, q.1.sameKey (klit k) = true → ∃ v', (k, v') ∈ l2 ∧ q = entL (k, v') := fun q hq hs => by
    obtain ⟨r, hr, rfl⟩ := List.mem_map.1 (e2.mem_iff.1 hq)
    have := (same_iff _ _).1 hs
    obtain ⟨k', v'⟩ := r
    simp only at this; subst this
    exact ⟨v', hr, rfl⟩
  show ((es.any fun q => q.1.sameKey (klit k)) && eqdI (.lit (.int .i64 v)) ((DataW.map es).atKey (klit k) .nil)) = true ↔ _
  simp only [DataW.atKey]
  cases hf : es.find? (fun q => q.1.sameKey (klit k)) with
  | none =>
    simp only [eqdI, Bool.and_false, Bool.false_eq_true, false_iff]
    intro hm
    exact List.find?_eq_none.1 hf (entL (k, v)) (e2.mem_iff.2 (List.mem_map.2 ⟨_, hm, rfl⟩)) ((same_iff k k).2 rfl)
  | some q =>
    have hq := List.mem_of_find?_eq_some hf
    have hs := List.find?_some hf
    obtain ⟨v', hm, rfl⟩ := hfind q hq hs
    have ha : (es.any fun q => q.1.sameKey (klit k)) = true := List.any_eq_true.2 ⟨_, hq, hs⟩
    rw [ha, Bool.true_and]
    show (v == v') = true ↔ _
    rw [beq_iff_eq]
    exact ⟨fun e => by rw [e]; exact hm, fun h9 => apt_one h h9 hm⟩
theorem mapD_equal {l1 l2 : List (ByteArray × Int)} (h1 : Apt l1) (h2 : Apt l2) : Lib.equalFuncD eqdI (mapD l1) (mapD l2) = true ↔ l1.length = l2.length ∧ ∀ p ∈ l1, p ∈ l2 := by
  obtain ⟨es1, e1, p1⟩ := mapD_perm h1
  obtain ⟨es2, e2, p2⟩ := mapD_perm h2
  unfold Lib.equalFuncD
  rw [Bool.and_eq_true, decide_eq_true_eq]
  have s1 : Maps.size (mapD l1) = l1.length := by rw [e1]; show es1.length = _; rw [p1.length_eq, List.length_map]
  have s2 : Maps.size (mapD l2) = l2.length := by rw [e2]; show es2.length = _; rw [p2.length_eq, List.length_map]
  rw [s1, s2]
  refine and_congr Iff.rfl ?_
  rw [show Lib.entriesD (mapD l1) = es1 by rw [e1]; rfl, List.all_eq_true]
  constructor
  · intro h p hp
    exact (good_iff h2 p).1 (h (entL p) (p1.mem_iff.2 (List.mem_map.2 ⟨p, hp, rfl⟩)))
  · intro h q hq
    obtain ⟨p, hp, rfl⟩ := List.mem_map.1 (p1.mem_iff.1 hq)
    exact (good_iff h2 p).2 (h p hp)
theorem mapD_self {l : List (ByteArray × Int)} (h : Apt l) : Lib.equalFuncD eqdI (mapD l) (mapD l) = true := (mapD_equal h h).2 ⟨rfl, fun _ hp => hp⟩
theorem apt_pairs {H : ByteArray → Nat} {t : Tab} (hw : Wf H t) : Apt (pairsT t) := ents_one H hw
end Go.Proofs.Ytbhdgeoljlhmcaa
