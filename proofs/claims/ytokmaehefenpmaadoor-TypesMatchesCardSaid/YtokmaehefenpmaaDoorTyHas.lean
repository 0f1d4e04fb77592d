/- More plain laws of matching: how many nodes the trees found have; whether a pattern has a name. No program in sight. -/
import Derived.Test.YtokmaehefenpmaaDoorTyMatch
import Derived.Test.YtokmaehefenpmaaDoorTyCount
namespace Go.Proofs.YtokmaehefenpmaaDoor
def NodesLe (N : Nat) (out : List (Option Ty)) : Prop := ∀ (i : Nat) (u : Ty), out[i]? = some (some u) → u.nodes ≤ N
theorem mem_nodes_le {t : Ty} : ∀ {l : List Ty}, t ∈ l → t.nodes ≤ nodesL l
  | [], h => by simp at h
  | a :: l, h => by
    simp only [nodesL]
    rcases List.mem_cons.1 h with rfl | h
    · omega
    · have := mem_nodes_le h; omega
theorem matchTys_nodes {names : List ByteArray} {N : Nat} : ∀ (l : List Ty), (∀ p, p ∈ l → ∀ t out out', matchTy names p t out = some out' → t.nodes ≤ N → NodesLe N out → NodesLe N out') →
    ∀ m out out', matchTys names l m out = some out' → nodesL m ≤ N → NodesLe N out → NodesLe N out'
  | [], _, m, out, out', h, _, hN => by simp [matchTys] at h; subst h; exact hN
  | a :: l, ih, [], out, out', h, _, _ => by simp [matchTys] at h
  | a :: l, ih, b :: m, out, out', h, hm, hN => by
    simp only [matchTys] at h
    simp only [nodesL] at hm
    split at h
    · rename_i o ho
      exact matchTys_nodes l (fun p hp => ih p (by simp [hp])) m o out' h (by omega) (ih a (by simp) b out o ho (by omega) hN)
    · cases h
theorem match_nodes {names : List ByteArray} {N : Nat} : ∀ p t out out', matchTy names p t out = some out' → t.nodes ≤ N → NodesLe N out → NodesLe N out' :=
  Ty.ind fun k s n l ih t out out' h ht hN => by
    simp only [matchTy] at h
    split at h
    · rename_i i hp
      split at h
      · split at h
        · cases h; exact hN
        · cases h
      · cases h
        intro j u hj
        by_cases e : i = j
        · subst e
          by_cases hl : i < out.length
          · rw [List.getElem?_set_self hl] at hj; cases hj; exact ht
          · rw [List.getElem?_eq_none (by rw [List.length_set]; omega)] at hj; cases hj
        · rw [List.getElem?_set_ne e] at hj; exact hN j u hj
    · split at h
      · refine matchTys_nodes l ih t.args out out' h ?_ hN
        cases t; simp only [Ty.nodes, Ty.args] at ht ⊢; omega
      · cases h
theorem nodes_none (N n : Nat) : NodesLe N (List.replicate n none) := fun i u h => by
  rw [List.getElem?_replicate] at h
  split at h
  · cases h
  · cases h
theorem tysOf_nodes {N : Nat} {out : List (Option Ty)} (h : NodesLe N out) (hN : 1 ≤ N) : ∀ u, u ∈ tysOf out → u.nodes ≤ N := fun u hu => by
  obtain ⟨i, hi⟩ := List.mem_iff_getElem?.1 hu
  simp only [tysOf, List.getElem?_map, Option.map_eq_some_iff] at hi
  obtain ⟨o, ho, rfl⟩ := hi
  cases o with
  | some u => exact h i u ho
  | none => show zeroTy.nodes ≤ N; simp [zeroTy, Ty.nodes, nodesL]; exact hN
mutual
/-- What the law's function has says. -/
def hasTy (names : List ByteArray) (x : ByteArray) : Ty → Bool
  | .node k s _ l => match place names k s with | some _ => decide (s = x) | none => hasTys names x l
def hasTys (names : List ByteArray) (x : ByteArray) : List Ty → Bool
  | [] => false
  | t :: l => hasTy names x t || hasTys names x l
end
theorem hasTys_eq {names : List ByteArray} {x : ByteArray} {j : Nat} : ∀ l : List Ty, (∀ t, t ∈ l → hasTy names x t = hasAt names j t) → hasTys names x l = hasAts names j l
  | [], _ => by simp [hasTys, hasAts]
  | t :: l, h => by simp only [hasTys, hasAts]; rw [h t (by simp), hasTys_eq l fun t ht => h t (by simp [ht])]
/-- Of a name at its first place. -/
theorem hasTy_first {names : List ByteArray} {x : ByteArray} {j : Nat} (hx : idx names x = some j) : ∀ t, hasTy names x t = hasAt names j t :=
  Ty.ind fun k s n l ih => by
    obtain ⟨i, hp⟩ | hp : (∃ i, place names k s = some i) ∨ place names k s = none := by
      cases place names k s with
      | some i => exact Or.inl ⟨i, rfl⟩
      | none => exact Or.inr rfl
    · simp only [hasTy, hasAt, hp]
      have hi : idx names s = some i := by
        unfold place at hp
        split at hp
        · exact hp
        · cases hp
      by_cases e : s = x
      · subst e
        rw [hx] at hi
        cases hi
        simp
      · have : i ≠ j := fun h => e (by
          subst h
          have h1 := idx_lt hi
          have h2 := idx_lt hx
          rw [h1] at h2; cases h2; rfl)
        rw [beq_false_of_ne this, decide_eq_false e]
    · simp only [hasTy, hasAt, hp]
      exact hasTys_eq l ih
theorem hasAts_other {names : List ByteArray} {j : Nat} : ∀ l : List Ty, (∀ t, t ∈ l → hasAt names j t = false) → hasAts names j l = false
  | [], _ => by simp [hasAts]
  | t :: l, h => by simp only [hasAts]; rw [h t (by simp), hasAts_other l fun t ht => h t (by simp [ht])]; rfl
/-- A place that is no name's first one is in no pattern. -/
theorem hasAt_other {names : List ByteArray} {x : ByteArray} {j : Nat} (hj : names[j]? = some x) (hx : idx names x ≠ some j) : ∀ t, hasAt names j t = false :=
  Ty.ind fun k s n l ih => by
    obtain ⟨i, hp⟩ | hp : (∃ i, place names k s = some i) ∨ place names k s = none := by
      cases place names k s with
      | some i => exact Or.inl ⟨i, rfl⟩
      | none => exact Or.inr rfl
    · simp only [hasAt, hp]
      have hi : idx names s = some i := by
        unfold place at hp
        split at hp
        · exact hp
        · cases hp
      refine beq_false_of_ne fun e => ?_
      subst e
      have h1 := idx_lt hi
      rw [hj] at h1; cases h1
      exact hx hi
    · simp only [hasAt, hp]
      exact hasAts_other l ih
/-- What a match of a pattern that others were put into finds. -/
def wantTy (names : List ByteArray) (ts : List Ty) (p : Ty) (j : Nat) (x : ByteArray) : Ty := if idx names x = some j ∧ hasTy names x p = true then (ts[j]?).getD zeroTy else zeroTy
theorem want_found {names : List ByteArray} {ts : List Ty} (hts : names.length ≤ ts.length) (p : Ty) : ∃ out', matchTy names p (substTy names ts p) (List.replicate names.length none) = some out' ∧ out'.length = names.length ∧
    ∀ (j : Nat) (x : ByteArray), names[j]? = some x → (tysOf out')[j]? = some (wantTy names ts p j x) := by
  obtain ⟨o, h1, h2, h3⟩ := match_does hts p (List.replicate names.length none) (by simp) (fun j u h => by
    rw [List.getElem?_replicate] at h
    split at h
    · cases h
    · cases h)
  refine ⟨o, h1, by rw [h2, List.length_replicate], fun j x hx => ?_⟩
  have hj := (List.getElem?_eq_some_iff.1 hx).1
  have := h3 j hj
  unfold wantTy
  simp only [tysOf, List.getElem?_map, this]
  by_cases hi : idx names x = some j
  · rw [hasTy_first hi]
    cases hasAt names j p with
    | true =>
      rw [if_pos ⟨hi, rfl⟩, cond_true, List.getElem?_eq_getElem (by omega)]
      rfl
    | false =>
      rw [if_neg (by simp), cond_false, List.getElem?_replicate, if_pos hj]
      rfl
  · rw [hasAt_other hx hi, if_neg (fun e => hi e.1), cond_false, List.getElem?_replicate, if_pos hj]
    rfl
end Go.Proofs.YtokmaehefenpmaaDoor
