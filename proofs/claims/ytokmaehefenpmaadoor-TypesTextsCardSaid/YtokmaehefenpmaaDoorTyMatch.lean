/- The plain laws of matching (TypesMatch, TypesMatches). No program in sight. -/
import Derived.Test.YtokmaehefenpmaaDoorTyOrd
namespace Go.Proofs.YtokmaehefenpmaaDoor
instance : DecidableEq Ty := fun a b => decidable_of_iff _ (cmpTy_eq a b)
def zeroTy : Ty := .node 0 ByteArray.empty 0 []
/-- The place of a node's name, if the node is a parameter that has one. -/
def place (names : List ByteArray) (k : Int) (s : ByteArray) : Option Nat := if k = 7 then idx names s else none
mutual
/-- What is known behind a pattern's node; none: it does not match. -/
def matchTy (names : List ByteArray) : Ty → Ty → List (Option Ty) → Option (List (Option Ty))
  | .node k s n l, t, out =>
    match place names k s with
    | some i => match out[i]? with
      | some (some u) => if u = t then some out else none
      | _ => some (out.set i (some t))
    | none => if k = t.kind ∧ s = t.name ∧ n = t.num ∧ l.length = t.args.length then matchTys names l t.args out else none
def matchTys (names : List ByteArray) : List Ty → List Ty → List (Option Ty) → Option (List (Option Ty))
  | [], _, out => some out
  | _ :: _, [], _ => none
  | a :: l, b :: m, out => match matchTy names a b out with | some o => matchTys names l m o | none => none
end
def Ext (out out' : List (Option Ty)) : Prop := out'.length = out.length ∧ ∀ (j : Nat) (u : Ty), out[j]? = some (some u) → out'[j]? = some (some u)
theorem Ext.refl (o : List (Option Ty)) : Ext o o := ⟨rfl, fun _ _ h => h⟩
theorem Ext.trans {a b c : List (Option Ty)} (h1 : Ext a b) (h2 : Ext b c) : Ext a c := ⟨h2.1.trans h1.1, fun j u h => h2.2 j u (h1.2 j u h)⟩
theorem idx_lt {names : List ByteArray} {s : ByteArray} {i : Nat} (h : idx names s = some i) : names[i]? = some s := by
  rw [idx, List.findIdx?_eq_some_iff_getElem] at h
  obtain ⟨h1, h2, _⟩ := h
  rw [List.getElem?_eq_getElem h1]
  simpa using h2
theorem idx_first {names : List ByteArray} {s : ByteArray} {i j : Nat} (h : idx names s = some i) (hj : j < i) : names[j]? ≠ some s := by
  rw [idx, List.findIdx?_eq_some_iff_getElem] at h
  obtain ⟨h1, _, h3⟩ := h
  intro hs
  have := h3 j hj
  rw [List.getElem?_eq_getElem (by omega)] at hs
  simp only [Option.some.injEq] at hs
  simp [hs] at this
theorem place_sel {names : List ByteArray} {ts : List Ty} {k : Int} {s : ByteArray} {n : Int} {l : List Ty} : selName names ts (.node k s n l) = (place names k s).bind fun i => ts[i]? := by
  unfold selName place
  by_cases h : k = 7 <;> simp [Ty.kind, Ty.name, h]
def tysOf (o : List (Option Ty)) : List Ty := o.map fun x => x.getD zeroTy
theorem tysOf_get {o : List (Option Ty)} {i : Nat} {u : Ty} (h : o[i]? = some (some u)) : (tysOf o)[i]? = some u := by simp [tysOf, h]
theorem matchTys_put {names : List ByteArray} : ∀ (l : List Ty), (∀ p, p ∈ l → ∀ t out out', matchTy names p t out = some out' → out.length = names.length → Ext out out' ∧ ∀ o2, Ext out' o2 → substTy names (tysOf o2) p = t) →
    ∀ m out out', l.length = m.length → matchTys names l m out = some out' → out.length = names.length → Ext out out' ∧ ∀ o2, Ext out' o2 → l.map (substTy names (tysOf o2)) = m
  | [], _, m, out, out', hm, h, _ => by
    simp [matchTys] at h; subst h
    exact ⟨Ext.refl _, fun _ _ => by cases m <;> simp_all⟩
  | a :: l, ih, [], out, out', hm, _, _ => by simp at hm
  | a :: l, ih, b :: m, out, out', hm, h, hl => by
    simp only [matchTys] at h
    split at h
    · rename_i o ho
      obtain ⟨e1, g1⟩ := ih a (by simp) b out o ho hl
      obtain ⟨e2, g2⟩ := matchTys_put l (fun p hp => ih p (by simp [hp])) m o out' (by simpa using hm) h (e1.1.trans hl)
      exact ⟨e1.trans e2, fun o2 h2 => by rw [List.map_cons, g1 o2 (e2.trans h2), g2 o2 h2]⟩
    · cases h
/-- What a match finds makes, put in, the tree. -/
theorem match_put {names : List ByteArray} : ∀ p t out out', matchTy names p t out = some out' → out.length = names.length → Ext out out' ∧ ∀ o2, Ext out' o2 → substTy names (tysOf o2) p = t :=
  Ty.ind fun k s n l ih t out out' h hl => by
    unfold substTy
    simp only [matchTy] at h
    cases hp : place names k s with
    | some i =>
      have hi : i < out.length := by
        unfold place at hp
        split at hp
        · have := idx_lt hp
          rw [hl]; exact (List.getElem?_eq_some_iff.1 this).1
        · cases hp
      rw [hp] at h
      simp only at h
      have hsel : ∀ ts : List Ty, selName names ts (.node k s n l) = ts[i]? := fun ts => by rw [place_sel, hp]; rfl
      split at h
      · rename_i u hu
        split at h
        · rename_i hut
          cases h; subst hut
          exact ⟨Ext.refl _, fun o2 h2 => repl_some (by rw [hsel]; exact tysOf_get (h2.2 i u hu))⟩
        · cases h
      · rename_i hu
        cases h
        have hn : ∀ u, out[i]? ≠ some (some u) := fun u hc => hu u hc
        refine ⟨⟨by simp, fun j u hj => ?_⟩, fun o2 h2 => repl_some (by rw [hsel]; exact tysOf_get (h2.2 i t (by simp [hi])))⟩
        by_cases e : i = j
        · subst e; exact absurd hj (hn u)
        · rw [List.getElem?_set_ne e]; exact hj
    | none =>
      rw [hp] at h
      simp only at h
      split at h
      · rename_i hc
        obtain ⟨e, g⟩ := matchTys_put l (fun p hp => ih p hp) t.args out out' hc.2.2.2 h hl
        refine ⟨e, fun o2 h2 => ?_⟩
        rw [repl_none (by rw [place_sel, hp]; rfl)]
        have := g o2 h2
        unfold substTy at this
        rw [this]
        cases t with
        | node k' s' n' l' => simp only [Ty.kind, Ty.name, Ty.num, Ty.args] at hc ⊢; rw [hc.1, hc.2.1, hc.2.2.1]
      · cases h
mutual
/-- Whether a pattern has a parameter whose place is j, not within another one that has a place. -/
def hasAt (names : List ByteArray) (j : Nat) : Ty → Bool
  | .node k s _ l => match place names k s with | some i => i == j | none => hasAts names j l
def hasAts (names : List ByteArray) (j : Nat) : List Ty → Bool
  | [] => false
  | t :: l => hasAt names j t || hasAts names j l
end
def Agree (out : List (Option Ty)) (ts : List Ty) : Prop := ∀ (j : Nat) (u : Ty), out[j]? = some (some u) → ts[j]? = some u
theorem matchTys_does {names : List ByteArray} {ts : List Ty} : ∀ (l : List Ty), (∀ p, p ∈ l → ∀ out, out.length = names.length → Agree out ts → ∃ out', matchTy names p (substTy names ts p) out = some out' ∧ out'.length = out.length ∧
      ∀ j, j < names.length → out'[j]? = bif hasAt names j p then (ts[j]?).map some else out[j]?) →
    ∀ out, out.length = names.length → Agree out ts → ∃ out', matchTys names l (l.map (substTy names ts)) out = some out' ∧ out'.length = out.length ∧
      ∀ j, j < names.length → out'[j]? = bif hasAts names j l then (ts[j]?).map some else out[j]?
  | [], _, out, _, _ => ⟨out, by simp [matchTys], rfl, fun j _ => by simp [hasAts]⟩
  | a :: l, ih, out, hl, hA => by
    obtain ⟨o1, h1, h2, h3⟩ := ih a (by simp) out hl hA
    have hA1 : Agree o1 ts := fun j u hj => by
      have hlt : j < names.length := by rw [← hl, ← h2]; exact (List.getElem?_eq_some_iff.1 hj).1
      rw [h3 j hlt] at hj
      cases hb : hasAt names j a with
      | true =>
        rw [hb, cond_true] at hj
        cases ht : ts[j]? with
        | none => rw [ht] at hj; cases hj
        | some v => rw [ht] at hj; simp at hj; rw [hj]
      | false => rw [hb, cond_false] at hj; exact hA j u hj
    obtain ⟨o2, g1, g2, g3⟩ := matchTys_does l (fun p hp => ih p (by simp [hp])) o1 (h2.trans hl) hA1
    refine ⟨o2, by simp only [List.map_cons, matchTys, h1, g1], g2.trans h2, fun j hj => ?_⟩
    rw [g3 j hj, h3 j hj]
    simp only [hasAts]
    cases hasAt names j a <;> cases hasAts names j l <;> simp
/-- A pattern matches what it becomes, by just the trees that were put in for the names that it has. -/
theorem match_does {names : List ByteArray} {ts : List Ty} (hts : names.length ≤ ts.length) : ∀ p out, out.length = names.length → Agree out ts → ∃ out', matchTy names p (substTy names ts p) out = some out' ∧ out'.length = out.length ∧
    ∀ j, j < names.length → out'[j]? = bif hasAt names j p then (ts[j]?).map some else out[j]? :=
  Ty.ind fun k s n l ih out hl hA => by
    unfold substTy
    obtain ⟨i, hp⟩ | hp : (∃ i, place names k s = some i) ∨ place names k s = none := by
      cases place names k s with
      | some i => exact Or.inl ⟨i, rfl⟩
      | none => exact Or.inr rfl
    · have hi : i < names.length := by
        unfold place at hp
        split at hp
        · exact (List.getElem?_eq_some_iff.1 (idx_lt hp)).1
        · cases hp
      have hsel : selName names ts (.node k s n l) = some ts[i] := by rw [place_sel, hp]; simp [show i < ts.length by omega]
      rw [repl_some hsel]
      simp only [matchTy, hasAt, hp]
      split
      · rename_i u hu
        have := hA i u hu
        rw [List.getElem?_eq_getElem (by omega)] at this
        simp only [Option.some.injEq] at this
        rw [if_pos this.symm]
        refine ⟨out, rfl, rfl, fun j hj => ?_⟩
        by_cases e : i = j
        · subst e; rw [hu]; simp [show i < ts.length by omega, this]
        · have e2 : (i == j) = false := beq_false_of_ne e
          rw [e2, cond_false]
      · refine ⟨_, rfl, by simp, fun j hj => ?_⟩
        by_cases e : i = j
        · subst e; simp [show i < out.length by omega, show i < ts.length by omega]
        · have e2 : (i == j) = false := beq_false_of_ne e
          rw [List.getElem?_set_ne e, e2, cond_false]
    · rw [repl_none (by rw [place_sel, hp]; rfl)]
      simp only [matchTy, hasAt, hp, Ty.kind, Ty.name, Ty.num, Ty.args, List.length_map, and_self, if_true]
      exact matchTys_does l (fun p hp => ih p hp) out hl hA
end Go.Proofs.YtokmaehefenpmaaDoor
