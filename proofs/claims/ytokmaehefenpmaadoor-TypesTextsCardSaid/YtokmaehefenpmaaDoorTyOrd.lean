/- The order of trees: two are equal or one is less, and less goes on. No program in sight. -/
import Derived.Test.YtokmaehefenpmaaDoorTyLaw
namespace Go.Proofs.YtokmaehefenpmaaDoor
def ltB (x y : ByteArray) : Bool := Op.bytesLess x.toList y.toList
theorem bytesLess_lt : ∀ (x y : List UInt8), Op.bytesLess x y = decide (x < y)
  | [], [] => by simp [Op.bytesLess]
  | _ :: _, [] => by simp [Op.bytesLess]
  | [], _ :: _ => by simp [Op.bytesLess]
  | a :: x, b :: y => by
    rw [Op.bytesLess, bytesLess_lt x y]
    simp only [List.cons_lt_cons_iff]
    by_cases h1 : a < b <;> by_cases h2 : a = b <;> by_cases h3 : x < y <;> simp [h1, h2, h3]
theorem ltB_iff (x y : ByteArray) : ltB x y = true ↔ x.data.toList < y.data.toList := by
  unfold ltB
  rw [bytesLess_lt, ByteArray.toList_eq, ByteArray.toList_eq]
  simp
def cB (x y : ByteArray) : Ordering := if x.data.toList < y.data.toList then .lt else if y.data.toList < x.data.toList then .gt else .eq
def cI (a b : Int) : Ordering := if a < b then .lt else if b < a then .gt else .eq
mutual
def cmpTy : Ty → Ty → Ordering
  | .node k s n l, .node k' s' n' l' => (cI k k').then ((cB s s').then ((cI n n').then (cmpTys l l')))
def cmpTys : List Ty → List Ty → Ordering
  | [], [] => .eq
  | [], _ :: _ => .lt
  | _ :: _, [] => .gt
  | a :: l, b :: m => (cmpTy a b).then (cmpTys l m)
end
theorem then_lt {a b : Ordering} : a.then b = .lt ↔ a = .lt ∨ (a = .eq ∧ b = .lt) := by cases a <;> simp [Ordering.then]
theorem then_eq {a b : Ordering} : a.then b = .eq ↔ a = .eq ∧ b = .eq := by cases a <;> simp [Ordering.then]
theorem then_swap {a b : Ordering} : (a.then b).swap = a.swap.then b.swap := by cases a <;> simp [Ordering.then, Ordering.swap]
/-- What makes a comparison of x an order. -/
structure Fine {α : Type} (c : α → α → Ordering) (x : α) : Prop where
  sw : ∀ y, c y x = (c x y).swap
  eq : ∀ y, c x y = .eq ↔ x = y
  tr : ∀ y z, c x y = .lt → c y z = .lt → c x z = .lt
theorem cI_fine (x : Int) : Fine cI x where
  sw y := by unfold cI; split <;> split <;> simp_all [Ordering.swap] <;> omega
  eq y := by
    unfold cI
    constructor
    · intro h
      split at h
      · cases h
      · split at h
        · cases h
        · omega
    · rintro rfl
      simp
  tr y z h1 h2 := by
    unfold cI at *
    split at h1
    · split at h2
      · rw [if_pos (by omega)]
      · split at h2 <;> cases h2
    · split at h1 <;> cases h1
theorem cB_fine (x : ByteArray) : Fine cB x where
  sw y := by
    unfold cB
    by_cases h1 : x.data.toList < y.data.toList
    · rw [if_pos h1, if_neg (fun h => List.lt_irrefl _ (List.lt_trans h h1)), if_pos h1]; rfl
    · by_cases h2 : y.data.toList < x.data.toList
      · rw [if_pos h2, if_neg h1, if_pos h2]; rfl
      · rw [if_neg h2, if_neg h1, if_neg h1, if_neg h2]; rfl
  eq y := by
    unfold cB
    constructor
    · intro h
      split at h
      · cases h
      · rename_i h1
        split at h
        · cases h
        · rename_i h2
          have := List.le_antisymm (List.not_lt.1 h2) (List.not_lt.1 h1)
          cases x with | mk dx => cases y with | mk dy => exact congrArg _ (Array.toList_inj.1 this)
    · rintro rfl
      simp [List.lt_irrefl]
  tr y z h1 h2 := by
    unfold cB at *
    split at h1
    · rename_i g1
      split at h2
      · rename_i g2
        rw [if_pos (List.lt_trans g1 g2)]
      · split at h2 <;> cases h2
    · split at h1 <;> cases h1
theorem cmpTys_eq : ∀ (l : List Ty), (∀ t, t ∈ l → ∀ u, cmpTy t u = .eq ↔ t = u) → ∀ m, cmpTys l m = .eq ↔ l = m
  | [], _, m => by cases m <;> simp [cmpTys]
  | a :: l, h, m => by
    cases m with
    | nil => simp [cmpTys]
    | cons b m => simp only [cmpTys, then_eq, h a (by simp) b, cmpTys_eq l (fun t ht => h t (by simp [ht])) m, List.cons.injEq]
theorem cmpTy_eq : ∀ t u, cmpTy t u = .eq ↔ t = u := Ty.ind fun k s n l ih u => by
  cases u with
  | node k' s' n' l' => simp only [cmpTy, then_eq, (cI_fine k).eq, (cB_fine s).eq, (cI_fine n).eq, cmpTys_eq l ih, Ty.node.injEq]
theorem cmpTys_sw : ∀ (l : List Ty), (∀ t, t ∈ l → ∀ u, cmpTy u t = (cmpTy t u).swap) → ∀ m, cmpTys m l = (cmpTys l m).swap
  | [], _, m => by cases m <;> simp [cmpTys, Ordering.swap]
  | a :: l, h, m => by
    cases m with
    | nil => simp [cmpTys, Ordering.swap]
    | cons b m => simp only [cmpTys, then_swap, h a (by simp) b, cmpTys_sw l (fun t ht => h t (by simp [ht])) m]
theorem cmpTy_sw : ∀ t u, cmpTy u t = (cmpTy t u).swap := Ty.ind fun k s n l ih u => by
  cases u with
  | node k' s' n' l' => simp only [cmpTy, then_swap, (cI_fine k).sw k', (cB_fine s).sw s', (cI_fine n).sw n', cmpTys_sw l ih]
theorem then_tr {a b c a' b' c' : Ordering} (h1 : a.then a' = .lt) (h2 : b.then b' = .lt) (tr : a = .lt → b = .lt → c = .lt) (le : a = .eq → c = b) (re : b = .eq → c = a) (tr' : a = .eq → b = .eq → a' = .lt → b' = .lt → c' = .lt) : c.then c' = .lt := by
  rw [then_lt] at *
  rcases h1 with h1 | ⟨h1, g1⟩
  · rcases h2 with h2 | ⟨h2, g2⟩
    · exact Or.inl (tr h1 h2)
    · exact Or.inl (by rw [re h2, h1])
  · rcases h2 with h2 | ⟨h2, g2⟩
    · exact Or.inl (by rw [le h1, h2])
    · exact Or.inr ⟨by rw [le h1, h2], tr' h1 h2 g1 g2⟩
theorem cmpTys_tr : ∀ (l : List Ty), (∀ t, t ∈ l → ∀ u v, cmpTy t u = .lt → cmpTy u v = .lt → cmpTy t v = .lt) → ∀ m n, cmpTys l m = .lt → cmpTys m n = .lt → cmpTys l n = .lt
  | [], _, m, n, h1, h2 => by
    cases m with
    | nil => simp [cmpTys] at h1
    | cons b m => cases n with
      | nil => simp [cmpTys] at h2
      | cons c n => simp [cmpTys]
  | a :: l, h, m, n, h1, h2 => by
    cases m with
    | nil => simp [cmpTys] at h1
    | cons b m => cases n with
      | nil => simp [cmpTys] at h2
      | cons c n =>
        simp only [cmpTys] at h1 h2 ⊢
        exact then_tr h1 h2 (h a (by simp) b c) (fun e => by rw [(cmpTy_eq a b).1 e]) (fun e => by rw [(cmpTy_eq b c).1 e]) (fun _ _ => cmpTys_tr l (fun t ht => h t (by simp [ht])) m n)
theorem cmpTy_tr : ∀ t u v, cmpTy t u = .lt → cmpTy u v = .lt → cmpTy t v = .lt := Ty.ind fun k s n l ih u v h1 h2 => by
  cases u with
  | node k' s' n' l' => cases v with
    | node k2 s2 n2 l2 =>
      simp only [cmpTy] at h1 h2 ⊢
      exact then_tr h1 h2 ((cI_fine k).tr k' k2) (fun e => by rw [((cI_fine k).eq k').1 e]) (fun e => by rw [((cI_fine k').eq k2).1 e]) fun _ _ h1 h2 =>
        then_tr h1 h2 ((cB_fine s).tr s' s2) (fun e => by rw [((cB_fine s).eq s').1 e]) (fun e => by rw [((cB_fine s').eq s2).1 e]) fun _ _ h1 h2 =>
          then_tr h1 h2 ((cI_fine n).tr n' n2) (fun e => by rw [((cI_fine n).eq n').1 e]) (fun e => by rw [((cI_fine n').eq n2).1 e]) fun _ _ h1 h2 => cmpTys_tr l ih l' l2 h1 h2
/-- The law of the order, as TypesOrder asks it. -/
theorem order_law (a b c : Ty) : ¬ (cmpTy a b = .lt ∧ cmpTy b a = .lt) ∧ ¬ (cmpTy a b = .lt ∧ a = b) ∧ ¬ (cmpTy b a = .lt ∧ a = b) ∧ (cmpTy a b = .lt ∨ cmpTy b a = .lt ∨ a = b) ∧
    (cmpTy a b = .lt → cmpTy b c = .lt → cmpTy a c = .lt) ∧ cmpTy a a = .eq := by
  have hs := cmpTy_sw a b
  have he := cmpTy_eq a b
  refine ⟨fun h => ?_, fun h => ?_, fun h => ?_, ?_, cmpTy_tr a b c, (cmpTy_eq a a).2 rfl⟩
  · rw [hs, h.1] at h; exact absurd h.2 (by simp [Ordering.swap])
  · rw [he.2 h.2] at h; exact absurd h.1 (by simp)
  · rw [hs, he.2 h.2] at h; exact absurd h.1 (by simp [Ordering.swap])
  · cases h : cmpTy a b with
    | lt => exact Or.inl rfl
    | eq => exact Or.inr (Or.inr (he.1 h))
    | gt => right; left; rw [hs, h]; rfl
end Go.Proofs.YtokmaehefenpmaaDoor
