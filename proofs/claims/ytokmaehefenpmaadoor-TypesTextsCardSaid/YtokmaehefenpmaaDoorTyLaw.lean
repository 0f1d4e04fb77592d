/- The plain laws of trees: what 'replaced' gives (repl), what is put in for names and for variables, and that to put in twice is to put in once. No program in sight. -/
import Derived.Test.YtokmaehefenpmaaDoorTyTree
namespace Go.Proofs.YtokmaehefenpmaaDoor
def Ty.kind : Ty → Int | .node k _ _ _ => k
def Ty.name : Ty → ByteArray | .node _ s _ _ => s
def Ty.num : Ty → Int | .node _ _ n _ => n
def Ty.args : Ty → List Ty | .node _ _ _ l => l
theorem Ty.ind {Q : Ty → Prop} (h : ∀ k s n l, (∀ t, t ∈ l → Q t) → Q (.node k s n l)) : ∀ t, Q t := fun t => by
  induction t using Ty.rec (motive_2 := fun l => ∀ t, t ∈ l → Q t) with
  | node k s n l ih => exact h k s n l ih
  | nil => rename_i ht; cases ht
  | cons a l ha hl =>
    rename_i t ht
    rcases List.mem_cons.1 ht with rfl | ht
    · exact ha
    · exact hl t ht
mutual
/-- A tree in which each node for which f has a tree is replaced by it, from above. -/
def repl (f : Ty → Option Ty) : Ty → Ty
  | .node k s n l => match f (.node k s n l) with | some u => u | none => .node k s n (repls f l)
def repls (f : Ty → Option Ty) : List Ty → List Ty
  | [] => []
  | t :: l => repl f t :: repls f l
end
theorem repls_eq (f : Ty → Option Ty) : ∀ l, repls f l = l.map (repl f)
  | [] => by simp [repls]
  | t :: l => by simp [repls, repls_eq f l]
theorem repl_some {f : Ty → Option Ty} {t u : Ty} (h : f t = some u) : repl f t = u := by
  cases t with
  | node k s n l => simp [repl, h]
theorem repl_none {f : Ty → Option Ty} {k : Int} {s : ByteArray} {n : Int} {l : List Ty} (h : f (.node k s n l) = none) : repl f (.node k s n l) = .node k s n (l.map (repl f)) := by
  simp [repl, h, repls_eq]
/-- A copy is the tree itself. -/
theorem repl_id : ∀ t, repl (fun _ => none) t = t := Ty.ind fun k s n l ih => by
  rw [repl_none rfl]
  congr 1
  exact (List.map_congr_left ih).trans (List.map_id' l)
mutual
def Ty.nodes : Ty → Nat
  | .node _ _ _ l => 1 + nodesL l
def nodesL : List Ty → Nat
  | [] => 0
  | t :: l => Ty.nodes t + nodesL l
end
mutual
/-- The names of the parameters, in the order of the nodes, as often as they stand there. -/
def Ty.pars : Ty → List ByteArray
  | .node k s _ l => (if k = 7 then [s] else []) ++ parsL l
def parsL : List Ty → List ByteArray
  | [] => []
  | t :: l => Ty.pars t ++ parsL l
end
theorem mem_parsL {x : ByteArray} : ∀ {l : List Ty}, x ∈ parsL l ↔ ∃ t, t ∈ l ∧ x ∈ t.pars
  | [] => by simp [parsL]
  | t :: l => by simp [parsL, mem_parsL (l := l)]
/-- The first place of a name in a list. -/
def idx (names : List ByteArray) (s : ByteArray) : Option Nat := names.findIdx? fun x => decide (x = s)
/-- What is put in for a node's name. -/
def selName (names : List ByteArray) (ts : List Ty) (t : Ty) : Option Ty := if t.kind = 7 then (idx names t.name).bind fun i => ts[i]? else none
/-- What is put in for a node's variable. -/
def selVar (sol : List Ty) (t : Ty) : Option Ty := if t.kind = 12 ∧ 0 ≤ t.num then (sol[t.num.toNat]?).bind fun u => if u.kind = 0 then none else some u else none
def substTy (names : List ByteArray) (ts : List Ty) (t : Ty) : Ty := repl (selName names ts) t
def applyTy (sol : List Ty) (t : Ty) : Ty := repl (selVar sol) t
/-- To put in twice is to put in once the trees in which the second ones are put in, unless the first leaves a name that the second one has. -/
theorem subst_twice {xn yn : List ByteArray} {xt yt : List Ty} : ∀ t : Ty, (∀ s, s ∈ t.pars → ((idx xn s).bind fun i => xt[i]?) = none → idx yn s = none) →
    substTy yn yt (substTy xn xt t) = substTy xn (xt.map (substTy yn yt)) t := Ty.ind fun k s n l ih hp => by
  unfold substTy
  by_cases hk : k = 7
  · subst hk
    have hs : s ∈ (Ty.node 7 s n l).pars := by simp [Ty.pars]
    cases hx : (idx xn s).bind fun i => xt[i]? with
    | none =>
      have h1 : selName xn xt (.node 7 s n l) = none := by simpa [selName, Ty.kind, Ty.name] using hx
      have h2 : selName xn (xt.map (repl (selName yn yt))) (.node 7 s n l) = none := by
        simp only [selName, Ty.kind, Ty.name, if_true]
        cases hi : idx xn s with
        | none => rfl
        | some i => rw [hi] at hx; simp at hx; simp [hx]
      have h3 : selName yn yt (.node 7 s n (l.map (repl (selName xn xt)))) = none := by
        simp [selName, Ty.kind, Ty.name, hp s hs hx]
      rw [repl_none h1, repl_none h2, repl_none h3, List.map_map]
      congr 1
      exact List.map_congr_left fun t ht => ih t ht fun x hx => hp x (by simp only [Ty.pars]; exact List.mem_append_right _ (mem_parsL.2 ⟨t, ht, hx⟩))
    | some u =>
      have h1 : selName xn xt (.node 7 s n l) = some u := by simpa [selName, Ty.kind, Ty.name] using hx
      have h2 : selName xn (xt.map (repl (selName yn yt))) (.node 7 s n l) = some (repl (selName yn yt) u) := by
        simp only [selName, Ty.kind, Ty.name, if_true]
        cases hi : idx xn s with
        | none => rw [hi] at hx; cases hx
        | some i => rw [hi] at hx; simp at hx; simp [hx]
      rw [repl_some h1, repl_some h2]
  · have h1 : selName xn xt (.node k s n l) = none := by simp [selName, Ty.kind, hk]
    have h2 : selName xn (xt.map (repl (selName yn yt))) (.node k s n l) = none := by simp [selName, Ty.kind, hk]
    have h3 : selName yn yt (.node k s n (l.map (repl (selName xn xt)))) = none := by simp [selName, Ty.kind, hk]
    rw [repl_none h1, repl_none h2, repl_none h3, List.map_map]
    congr 1
    exact List.map_congr_left fun t ht => ih t ht fun x hx => hp x (by simp only [Ty.pars]; exact List.mem_append_right _ (mem_parsL.2 ⟨t, ht, hx⟩))
end Go.Proofs.YtokmaehefenpmaaDoor
