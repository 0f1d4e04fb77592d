/- An operation changes no name but its own (plain). Helpers for the laws: fields of an operation, a store made anew, items held beside a store. -/
import Derived.Test.YtbhdgeoljlhmcaaQB10
import Derived.Test.YtbhdgeoljlhmcaaQB11
import Derived.Test.YtbhdgeoljlhmcaaQB13
namespace Go.Proofs.Ytbhdgeoljlhmcaa
open Go.RowKit Go.Proofs.Ytbhdgeoljlhmcaa.Nm Go.Proofs.Ytbhdgeoljlhmcaa.St
theorem buf_some {A : Sto} {n : Int} {k : Nat} (h : A.id n = some k) : A.buf n = A.bufs.getD k noBuf := by unfold Sto.buf; rw [h]; rfl
theorem id_lt {A : Sto} (hA : Good A) {n : Int} {k : Nat} (h : A.id n = some k) : k < A.bufs.length := by
  unfold Sto.id at h
  cases hq : A.names[n.toNat]? with
  | none => rw [hq] at h; simp at h
  | some o => rw [hq] at h; simp at h; exact hA.there n.toNat k (by rw [hq, h])
/-- the name that an operation changes -/
def aim (o : OpV) : Int := if o.kind = 1 ∨ o.kind = 2 ∨ o.kind = 6 ∨ o.kind = 8 ∨ o.kind = 11 then o.to else o.fr
theorem since_new (w : World) : Since w.heap.size w.heap.size [] := fun q hq => by
  rcases hq with rfl | ⟨k, r, hr, _⟩
  · exact Nat.le_refl _
  · simp at hr
/-- an item held beside a store -/
def HeldI (w : World) (s : Nat) (rs : List Row) (p : Nat) (b : Buf) (A : Option Addr) (c : Nat) (A2 : Option Addr) (c2 : Nat) : Prop :=
  w.heap[p]? = some (.cells (icells b.kd (.slice A b.l.length c) b.seed (.slice A2 (pairsT b.t).length c2)) 32 (0, 0)) ∧ ¬ Foot s rs p ∧ w.ownsRow 0 9 1 (.slice A b.l.length c) b.l.length (strs b.l) ∧ Clear s rs (.slice A b.l.length c) ∧
    w.ownsRow 0 91 2 (.slice A2 (pairsT b.t).length c2) (pairsT b.t).length (prow (pairsT b.t)) ∧ Clear s rs (.slice A2 (pairsT b.t).length c2)
theorem HeldI.below {w w' : World} {s : Nat} {rs : List Row} {p : Nat} {b : Buf} {A : Option Addr} {c : Nat} {A2 : Option Addr} {c2 : Nat} (h : HeldI w s rs p b A c A2 c2) (hb : Below w.heap.size w w') : HeldI w' s rs p b A c A2 c2 :=
  ⟨below_look hb h.1, h.2.1, own_below h.2.2.1 hb, h.2.2.2.1, own_below h.2.2.2.2.1 hb, h.2.2.2.2.2⟩
theorem HeldI.ran {w w' : World} {s : Nat} {rs rs' : List Row} {p : Nat} {b : Buf} {A : Option Addr} {c : Nat} {A2 : Option Addr} {c2 : Nat} (h : HeldI w s rs p b A c A2 c2) (hr : Ran s rs w rs' w') : HeldI w' s rs' p b A c A2 c2 :=
  ⟨(hr.block p (heap_lt h.1) h.2.1).trans h.1, fun hf => (hr.foot p hf).elim h.2.1 (fun e => by have := heap_lt h.1; omega), own_ran h.2.2.1 h.2.2.2.1 hr, h.2.2.2.1.ran (own_lt h.2.2.1) hr, own_ran h.2.2.2.2.1 h.2.2.2.2.2 hr, h.2.2.2.2.2.ran (own_lt h.2.2.2.2.1) hr⟩
theorem HeldI.item {w : World} {s : Nat} {rs : List Row} {p : Nat} {b : Buf} {A : Option Addr} {c : Nat} {A2 : Option Addr} {c2 : Nat} (h : HeldI w s rs p b A c A2 c2) : ItemAt w 0 (.agg (icells b.kd (.slice A b.l.length c) b.seed (.slice A2 (pairsT b.t).length c2))) b :=
  ⟨_, _, rfl, h.2.2.1, h.2.2.2.2.1⟩
theorem buf_small {A : Sto} (hA : Good A) (n : Int) : (A.buf n).l.length ≤ 1000 ∧ (A.buf n).t.length ≤ 1000 := by
  cases hq : A.id n with
  | none => rw [buf_none hq]; exact ⟨Nat.zero_le _, Nat.zero_le _⟩
  | some k =>
    have hl := id_lt hA hq
    have := (hA.bufs k (A.buf n) (by rw [buf_some hq, List.getD_eq_getElem?_getD, List.getElem?_eq_getElem hl]; rfl)).len
    omega
end Go.Proofs.Ytbhdgeoljlhmcaa
