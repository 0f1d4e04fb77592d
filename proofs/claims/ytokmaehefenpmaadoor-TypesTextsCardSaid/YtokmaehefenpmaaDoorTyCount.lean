/- The plain laws of counting: TypeNodes with its bound, 'each' with a counter, a substitution of names by themselves. No program in sight. -/
import Derived.Test.YtokmaehefenpmaaDoorTyMatch
namespace Go.Proofs.YtokmaehefenpmaaDoor
theorem nodes_pos (t : Ty) : 1 ≤ t.nodes := by cases t; simp only [Ty.nodes]; omega
/-- The loop of TypeNodes over what is left of the arguments, n nodes being counted. -/
def tnLoop (most : Nat) : Nat → List Ty → Nat
  | n, [] => n
  | n, t :: l => if n ≤ most then tnLoop most (n + min t.nodes (most + 1)) l else n
theorem tnLoop_min (most : Nat) : ∀ (l : List Ty) (n : Nat), min (tnLoop most n l) (most + 1) = min (n + nodesL l) (most + 1)
  | [], n => by simp [tnLoop, nodesL]
  | t :: l, n => by
    simp only [tnLoop, nodesL]
    split
    · rw [tnLoop_min most l]; omega
    · omega
/-- What TypeNodes returns: by the values that its calls for the arguments return. -/
theorem typeNodes (most : Nat) (k : Int) (s : ByteArray) (n : Int) (l : List Ty) : min (tnLoop most 1 l) (most + 1) = min (Ty.node k s n l).nodes (most + 1) := by
  rw [tnLoop_min]; simp only [Ty.nodes]
theorem tnLoop_le (most : Nat) : ∀ (l : List Ty) (n : Nat), n ≤ most + 1 → tnLoop most n l ≤ 2 * (most + 1)
  | [], n, h => by simp only [tnLoop]; omega
  | t :: l, n, h => by
    simp only [tnLoop]
    split
    · rename_i h2
      by_cases h3 : n + min t.nodes (most + 1) ≤ most + 1
      · exact tnLoop_le most l _ h3
      · cases l with
        | nil => simp only [tnLoop]; omega
        | cons a l => simp only [tnLoop]; rw [if_neg (by omega)]; omega
    · omega
mutual
def Ty.all (f : Ty → Bool) : Ty → Bool
  | .node k s n l => f (.node k s n l) && alls f l
def alls (f : Ty → Bool) : List Ty → Bool
  | [] => true
  | t :: l => t.all f && alls f l
end
mutual
/-- 'each' with the function of 'right': one is taken off the counter at each node. -/
def chk (f : Ty → Bool) : Ty → Int → Bool × Int
  | .node k s n l, left => if 0 ≤ left - 1 ∧ f (.node k s n l) = true then chks f l (left - 1) else (false, left - 1)
def chks (f : Ty → Bool) : List Ty → Int → Bool × Int
  | [], left => (true, left)
  | t :: l, left => match chk f t left with | (true, x) => chks f l x | (false, x) => (false, x)
end
def ChkOk (f : Ty → Bool) (t : Ty) : Prop := ∀ left : Int, 0 ≤ left → (((chk f t left).1 = true ↔ (t.nodes : Int) ≤ left ∧ t.all f = true) ∧ ((chk f t left).1 = true → (chk f t left).2 = left - t.nodes))
theorem chks_ok (f : Ty → Bool) : ∀ l : List Ty, (∀ t, t ∈ l → ChkOk f t) → ∀ left : Int, 0 ≤ left → (((chks f l left).1 = true ↔ (nodesL l : Int) ≤ left ∧ alls f l = true) ∧ ((chks f l left).1 = true → (chks f l left).2 = left - nodesL l))
  | [], _, left, h => by simp [chks, nodesL, alls, h]
  | t :: l, ih, left, h => by
    obtain ⟨h1, h2⟩ := ih t (by simp) left h
    simp only [chks, nodesL, alls, Bool.and_eq_true]
    cases hc : chk f t left with
    | mk b x =>
      rw [hc] at h1 h2
      cases b with
      | false =>
        simp only [Bool.false_eq_true, false_iff, false_implies, and_true] at h1 ⊢
        intro hh
        exact h1 ⟨by omega, hh.2.1⟩
      | true =>
        simp only [true_iff, true_implies] at h1 h2 ⊢
        obtain ⟨g1, g2⟩ := chks_ok f l (fun t ht => ih t (by simp [ht])) x (by omega)
        refine ⟨⟨fun hh => ?_, fun hh => g1.2 ⟨by omega, hh.2.2⟩⟩, fun hh => by rw [g2 hh]; omega⟩
        have := g1.1 hh
        exact ⟨by omega, h1.2, this.2⟩
theorem chk_ok (f : Ty → Bool) : ∀ t, ChkOk f t := Ty.ind fun k s n l ih left h => by
  simp only [chk, Ty.nodes, Ty.all, Bool.and_eq_true]
  by_cases hc : 0 ≤ left - 1 ∧ f (.node k s n l) = true
  · rw [if_pos hc]
    obtain ⟨g1, g2⟩ := chks_ok f l ih (left - 1) hc.1
    refine ⟨⟨fun hh => ?_, fun hh => g1.2 ⟨by omega, hh.2.2⟩⟩, fun hh => by rw [g2 hh]; omega⟩
    have := g1.1 hh
    exact ⟨by omega, hc.2, this.2⟩
  · rw [if_neg hc]
    refine ⟨⟨fun hh => by simp at hh, fun hh => ?_⟩, fun hh => by simp at hh⟩
    exact absurd ⟨by omega, hh.2.1⟩ hc
/-- 'right' is the chapter's Valid or Open: at most so many nodes, and each as the table says. -/
theorem right_law (f : Ty → Bool) (t : Ty) (most : Nat) : (chk f t most).1 = true ↔ t.nodes ≤ most ∧ t.all f = true := by
  rw [(chk_ok f t most (by omega)).1, Int.ofNat_le]
/-- Names put in for themselves change nothing where parameters have nothing but their names. -/
theorem subst_same {names : List ByteArray} : ∀ t : Ty, t.all (fun u => decide (u.kind = 7 → u.num = 0) && (decide (u.kind ≠ 7) || u.args.isEmpty)) = true → substTy names (names.map fun s => .node 7 s 0 []) t = t :=
  Ty.ind fun k s n l ih h => by
    simp only [Ty.all, Bool.and_eq_true, Ty.kind, Ty.num, Ty.args, Bool.or_eq_true] at h
    unfold substTy
    obtain ⟨⟨h1, h2⟩, h3⟩ := h
    have h1 := of_decide_eq_true h1
    obtain ⟨i, hp⟩ | hp : (∃ i, place names k s = some i) ∨ place names k s = none := by
      cases place names k s with
      | some i => exact Or.inl ⟨i, rfl⟩
      | none => exact Or.inr rfl
    · have hk : k = 7 := by
        unfold place at hp
        split at hp
        · assumption
        · cases hp
      have hi : names[i]? = some s := by
        unfold place at hp
        rw [if_pos hk] at hp
        exact idx_lt hp
      rw [repl_some (u := .node 7 s 0 []) (by rw [place_sel, hp]; simp [hi])]
      have hl : l = [] := by
        rcases h2 with h2 | h2
        · exact absurd hk (of_decide_eq_true h2)
        · simpa using h2
      rw [hk, h1 hk, hl]
    · rw [repl_none (by rw [place_sel, hp]; rfl)]
      congr 1
      have ha : ∀ (l : List Ty), alls (fun u => decide (u.kind = 7 → u.num = 0) && (decide (u.kind ≠ 7) || u.args.isEmpty)) l = true → ∀ t, t ∈ l → t.all (fun u => decide (u.kind = 7 → u.num = 0) && (decide (u.kind ≠ 7) || u.args.isEmpty)) = true := by
        intro l
        induction l with
        | nil => intro _ t ht; cases ht
        | cons a l ihl =>
          intro hh t ht
          simp only [alls, Bool.and_eq_true] at hh
          rcases List.mem_cons.1 ht with rfl | ht
          · exact hh.1
          · exact ihl hh.2 t ht
      exact (List.map_congr_left fun t ht => ih t ht (ha l h3 t ht)).trans (List.map_id' l)
end Go.Proofs.YtokmaehefenpmaaDoor
