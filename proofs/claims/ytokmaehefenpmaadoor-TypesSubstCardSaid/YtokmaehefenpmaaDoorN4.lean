/- For the law TypesTwice: substitutions in memory; sizes; which names are good. -/
import Derived.Test.YtokmaehefenpmaaDoorW12
import Derived.Test.YtokmaehefenpmaaDoorN3
namespace Go.Proofs.YtokmaehefenpmaaDoor
open Go.RowKit Go.Proofs.YtokmaehefenpmaaDoor.Nm
set_option linter.unusedSimpArgs false
def cell2 (An : Option Addr) (ln cn : Nat) (A : Option Addr) (l c : Nat) : Array Value := #[.slice An ln cn, .slice A l c]
theorem run_box27 (An : Option Addr) (ln cn : Nat) (A : Option Addr) (l c : Nat) (w : World) : (Instr.box 27 (.agg (cell2 An ln cn A l c))).run Tryd.prog w = .ok (.pointer (some ⟨w.heap.size, 0, none⟩)) (w.alloc (.cells (cell2 An ln cn A l c) 27)) := by kernel_rfl
section
variable {ops : Array Oper} {rest : List Oper} {dst : Option Tmp} {ty' : TypeId} {x : Operand} {pos : String} {after : Array Edge} {a : Act} {w : World} {Q : Exit → Act → World → Prop}
theorem wl_box27 {An : Option Addr} {ln cn : Nat} {A : Option Addr} {l c : Nat} (hx : a.eval x = .agg (cell2 An ln cn A l c))
    (h : ∀ W p, Below w.heap.size w W → w.heap.size ≤ p → W.heap[p]? = some (.cells (cell2 An ln cn A l c) 27 (0, 0)) → wpList Tryd.prog ops Q rest (a.put dst (.pointer (some ⟨p, 0, none⟩))) W) :
    wpList Tryd.prog ops Q (⟨dst, .box 27 x, ty', pos, after, none⟩ :: rest) a w :=
  wl_w rfl (by unfold execOp; simp [hx, run_box27 An ln cn A l c w, Result.andThen]) (h _ _ ((Below.refl _ w).alloc (Nat.le_refl _) _) (Nat.le_refl _) (ha_new rfl))
end
section
variable {w : World} {p : Nat} {An A : Option Addr} {ln cn l c : Nat} {t : TypeId} {fr : Nat × Nat}
theorem s0 (h : w.heap[p]? = some (.cells (cell2 An ln cn A l c) t fr)) : OneAt w 25 ⟨p, 0, none⟩ (.slice An ln cn) := one_of u25 rfl (by rw [cell_of_row _ _ _ _ _ _ h]; rfl)
theorem s1 (h : w.heap[p]? = some (.cells (cell2 An ln cn A l c) t fr)) : OneAt w 22 ⟨p, 1, none⟩ (.slice A l c) := one_of u22 rfl (by rw [cell_of_row _ _ _ _ _ _ h]; rfl)
end
theorem sel_mem {ns : List ByteArray} {ts : List Ty} {t u : Ty} (h : selName ns ts t = some u) : u ∈ ts := by
  unfold selName at h
  split at h
  · cases hi : idx ns t.name with
    | none => rw [hi] at h; cases h
    | some i => rw [hi] at h; exact List.mem_of_getElem? h
  · cases h
theorem nodesL_map {K : Nat} {f : Ty → Ty} : ∀ {l : List Ty}, (∀ t, t ∈ l → (f t).nodes ≤ t.nodes * K) → nodesL (l.map f) ≤ nodesL l * K
  | [], _ => by simp [nodesL]
  | t :: l, h => by
    have h1 := h t (by simp)
    have h2 := nodesL_map (l := l) fun t ht => h t (by simp [ht])
    simp only [List.map_cons, nodesL, Nat.add_mul]
    omega
theorem subst_nodes {ns : List ByteArray} {ts : List Ty} {K : Nat} (hK : 1 ≤ K) (h : ∀ u, u ∈ ts → u.nodes ≤ K) : ∀ t : Ty, (substTy ns ts t).nodes ≤ t.nodes * K := Ty.ind fun k s n l ih => by
  unfold substTy at *
  cases hg : selName ns ts (.node k s n l) with
  | some u =>
    rw [repl_some hg]
    have h1 := h u (sel_mem hg)
    have h2 : 1 * K ≤ (Ty.node k s n l).nodes * K := Nat.mul_le_mul_right K (nodes_pos _)
    omega
  | none =>
    rw [repl_none hg]
    have h1 := nodesL_map ih
    simp only [Ty.nodes, Nat.add_mul]
    omega
/-- A name of which what is asked in the law's first loop holds. -/
def Good (xn yn : List ByteArray) (xt : List Ty) (s : ByteArray) : Prop := ((idx xn s).bind fun i => xt[i]?) = none → idx yn s = none
theorem good_in {xn yn : List ByteArray} {xt : List Ty} {s : ByteArray} (h0 : ¬ idxI xn s < 0) (h1 : ¬ idxI xn s ≥ (xt.length : Int)) : Good xn yn xt s := fun h => by
  unfold idxI at h0 h1
  cases hi : idx xn s with
  | none => rw [hi] at h0; exact absurd (by simp) h0
  | some i =>
    rw [hi] at h h1
    simp only [ge_iff_le, Int.ofNat_le, Nat.not_le] at h1
    rw [Option.bind_some, List.getElem?_eq_getElem h1] at h
    cases h
theorem good_not {xn yn : List ByteArray} {xt : List Ty} {s : ByteArray} (h : ¬ idxI yn s ≥ 0) : Good xn yn xt s := fun _ => by
  unfold idxI at h
  cases hi : idx yn s with
  | none => rfl
  | some i => rw [hi] at h; exact absurd (by simp) h
theorem OwnS.txAt {w : World} {B : Nat} {A : Option Addr} {l c : Nat} {ns : List ByteArray} (h : OwnS w B (.slice A l c) ns) : TxAt w ns A l c := by
  obtain ⟨A', l', c', e, htx⟩ := h.tx
  cases e; exact htx
/-- A name's cell in all later worlds. -/
theorem TxAt.ones {w : World} {ns : List ByteArray} {b off : Nat} {l c : Nat} (h : TxAt w ns (some ⟨b, off, none⟩) l c) {i : Nat} {s : ByteArray} (hi : ns[i]? = some s) : ∀ w', Below w.heap.size w w' → OneAt w' 9 ⟨b, off + i, none⟩ (.string s) := fun _ hw => (h.old hw).one hi
end Go.Proofs.YtokmaehefenpmaaDoor
