/- The plain laws of the lists of names and numbers: two strictly rising lists with the same members are one; a list put in order one by one (the reference's loops); a list in order of which equal neighbours are left out (sort and compact). No program in sight. -/
import Derived.Test.YtokmaehefenpmaaDoorTyCount
namespace Go.Proofs.YtokmaehefenpmaaDoor
section
variable {α : Type} {R : α → α → Prop}
theorem rising_same (irr : ∀ x, ¬ R x x) (tr : ∀ x y z, R x y → R y z → R x z) : ∀ {l m : List α}, l.Pairwise R → m.Pairwise R → (∀ x, x ∈ l ↔ x ∈ m) → l = m
  | [], [], _, _, _ => rfl
  | [], b :: m, _, _, h => absurd ((h b).2 (by simp)) (by simp)
  | a :: l, [], _, _, h => absurd ((h a).1 (by simp)) (by simp)
  | a :: l, b :: m, hl, hm, h => by
    rw [List.pairwise_cons] at hl hm
    have hab : a = b := by
      rcases List.mem_cons.1 ((h a).1 (by simp)) with e | e
      · exact e
      · rcases List.mem_cons.1 ((h b).2 (by simp)) with e2 | e2
        · exact e2.symm
        · exact absurd (tr _ _ _ (hl.1 b e2) (hm.1 a e)) (irr a)
    subst hab
    rw [rising_same irr tr hl.2 hm.2 fun x => ?_]
    constructor
    · intro hx
      rcases List.mem_cons.1 ((h x).1 (by simp [hx])) with e | e
      · subst e; exact absurd (hl.1 x hx) (irr x)
      · exact e
    · intro hx
      rcases List.mem_cons.1 ((h x).2 (by simp [hx])) with e | e
      · subst e; exact absurd (hm.1 x hx) (irr x)
      · exact e
/-- One more element put into a list in order, from behind. -/
def putIn (lt : α → α → Bool) (x : α) : List α → List α
  | [] => [x]
  | y :: l => if lt x y then x :: y :: l else y :: putIn lt x l
theorem mem_putIn {lt : α → α → Bool} {x z : α} : ∀ {l : List α}, z ∈ putIn lt x l ↔ z = x ∨ z ∈ l
  | [] => by simp [putIn]
  | y :: l => by
    simp only [putIn]
    split
    · simp
    · simp only [List.mem_cons, mem_putIn (l := l)]
      constructor
      · rintro (h | h | h) <;> simp [h]
      · rintro (h | h | h) <;> simp [h]
theorem rising_putIn {lt : α → α → Bool} (tr : ∀ x y z, lt x y = true → lt y z = true → lt x z = true) {x : α} : ∀ {l : List α}, l.Pairwise (fun a b => lt a b = true) → (∀ y, y ∈ l → lt x y = true ∨ lt y x = true) → (putIn lt x l).Pairwise fun a b => lt a b = true
  | [], _, _ => by simp [putIn]
  | y :: l, hl, hx => by
    rw [List.pairwise_cons] at hl
    simp only [putIn]
    split
    · rename_i h
      rw [List.pairwise_cons]
      refine ⟨fun z hz => ?_, List.pairwise_cons.2 hl⟩
      rcases List.mem_cons.1 hz with e | e
      · rw [e]; exact h
      · exact tr _ _ _ h (hl.1 z e)
    · rename_i h
      rw [List.pairwise_cons]
      refine ⟨fun z hz => ?_, rising_putIn tr hl.2 fun z hz => hx z (by simp [hz])⟩
      rcases mem_putIn.1 hz with e | e
      · rw [e]
        rcases hx y (by simp) with h2 | h2
        · exact absurd h2 h
        · exact h2
      · exact hl.1 z e
/-- Where an element comes to rest that is carried ahead past all that are greater. -/
theorem putIn_split {lt : α → α → Bool} {x : α} : ∀ {a b : List α}, (∀ y, y ∈ a → lt x y = false) → (∀ y, b.head? = some y → lt x y = true) → putIn lt x (a ++ b) = a ++ x :: b
  | [], [], _, _ => rfl
  | [], y :: b, _, h => by simp only [List.nil_append, putIn]; rw [if_pos (h y rfl)]
  | z :: a, b, h1, h2 => by
    simp only [List.cons_append, putIn]
    rw [if_neg (by rw [h1 z (by simp)]; simp), putIn_split (fun y hy => h1 y (by simp [hy])) h2]
/-- In a list in order, what is not above the last one ahead is above none of them. -/
theorem none_above {lt : α → α → Bool} (tr : ∀ x y z, lt x y = true → lt y z = true → lt x z = true) {x z : α} {a : List α} (h : (a ++ [z]).Pairwise fun p q => lt p q = true) (hx : lt x z = false) : ∀ y, y ∈ a ++ [z] → lt x y = false := by
  intro y hy
  rcases List.mem_append.1 hy with e | e
  · cases hxy : lt x y with
    | false => rfl
    | true =>
      have := (List.pairwise_append.1 h).2.2 y e z (by simp)
      rw [tr _ _ _ hxy this] at hx; cases hx
  · simp at e; rw [e]; exact hx
/-- Equal neighbours left out. -/
def compactL [DecidableEq α] : List α → List α
  | [] => []
  | [a] => [a]
  | a :: b :: l => if a = b then compactL (b :: l) else a :: compactL (b :: l)
theorem mem_compactL [DecidableEq α] {z : α} : ∀ {l : List α}, z ∈ compactL l ↔ z ∈ l
  | [] => by simp [compactL]
  | [a] => by simp [compactL]
  | a :: b :: l => by
    simp only [compactL]
    split
    · rename_i h; subst h
      rw [mem_compactL (l := a :: l)]; simp
    · simp only [List.mem_cons, mem_compactL (l := b :: l)]
/-- A list in order (no element less than one ahead of it) is strictly rising once equal neighbours are left out. -/
theorem rising_compactL [DecidableEq α] {lt : α → α → Bool} (anti : ∀ x y, lt x y = false → lt y x = false → x = y) : ∀ {l : List α}, l.Pairwise (fun a b => lt b a = false) → (∀ x, lt x x = false) → (∀ x y z, lt x y = true → lt y z = true → lt x z = true) → (compactL l).Pairwise fun a b => lt a b = true
  | [], _, _, _ => by simp [compactL]
  | [a], _, _, _ => by simp [compactL]
  | a :: b :: l, h, irr, tr => by
    have hc := h
    rw [List.pairwise_cons] at h
    simp only [compactL]
    split
    · exact rising_compactL anti h.2 irr tr
    · rename_i hne
      rw [List.pairwise_cons]
      refine ⟨fun z hz => ?_, rising_compactL anti h.2 irr tr⟩
      have hz2 := mem_compactL.1 hz
      have hab : lt a b = true := by
        cases hab : lt a b with
        | true => rfl
        | false => exact absurd (anti a b hab (h.1 b (by simp))) hne
      rcases List.mem_cons.1 hz2 with e | e
      · rw [e]; exact hab
      · have hbz := (List.pairwise_cons.1 h.2).1 z e
        cases haz : lt a z with
        | true => rfl
        | false =>
          have haz2 := anti a z haz (h.1 z (by simp [e]))
          subst haz2
          rw [hab] at hbz; cases hbz
end
end Go.Proofs.YtokmaehefenpmaaDoor
