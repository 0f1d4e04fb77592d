/- T6, T7 in one text. -/
import Derived.Test.YtbhdgeoljlhmcaaT5
import Derived.Test.YtbhdgeoljlhmcaaN1
/- Two stores side by side (plain). -/
namespace Go.Proofs.Ytbhdgeoljlhmcaa
open Go.RowKit Go.Proofs.Ytbhdgeoljlhmcaa.Nm Go.Proofs.Ytbhdgeoljlhmcaa.St
/-- no block of the one store is a block of the other one -/
def Dis (s : Nat) (rs : List Row) (t : Nat) (rt : List Row) : Prop := ∀ q, Foot s rs q → ¬ Foot t rt q
theorem Dis.symm {s t : Nat} {rs rt : List Row} (h : Dis s rs t rt) : Dis t rt s rs := fun q h1 h2 => h q h2 h1
theorem StoreAt.beside {w w' : World} {s t : Nat} {A : Sto} {rs rt rt' : List Row} (h : StoreAt w s A rs) (hr : Ran t rt w rt' w') (hd : Dis s rs t rt) : StoreAt w' s A rs :=
  h.same (fun q hq hf => hr.block q hq (hd q hf))
theorem Dis.ran {w w' : World} {s t : Nat} {A : Sto} {rs rt rt' : List Row} (hd : Dis s rs t rt) (h : StoreAt w s A rs) (hr : Ran t rt w rt' w') : Dis s rs t rt' := fun q h1 h2 => by
  rcases hr.foot q h2 with e | e
  · exact hd q h1 e
  · have := h.lt h1; omega
/-- the blocks of a store, as a list -/
def footL (s : Nat) (rs : List Row) : List Nat := s :: rs.flatMap fun r => r.g :: (r.lv.ownBlock.toList ++ r.pv.ownBlock.toList)
theorem mem_footL {s : Nat} {rs : List Row} {q : Nat} : q ∈ footL s rs ↔ Foot s rs q := by
  unfold footL Foot
  simp only [List.mem_cons, List.mem_flatMap, List.mem_append, Option.mem_toList]
  constructor
  · rintro (h | ⟨r, hr, h⟩)
    · exact Or.inl h
    · obtain ⟨k, hk⟩ := List.mem_iff_getElem?.1 hr
      exact Or.inr ⟨k, r, hk, h⟩
  · rintro (h | ⟨k, r, hr, h⟩)
    · exact Or.inl h
    · exact Or.inr ⟨r, List.mem_of_getElem? hr, h⟩
theorem Nm.Kept.ran {D : List Nat} {W w w' : World} {s : Nat} {rs rs' : List Row} (h : Kept D W w) (hr : Ran s rs w rs' w') (hd : ∀ q, Foot s rs q → q ∈ D ∨ W.heap.size ≤ q) : Kept D W w' :=
  ⟨Nat.le_trans h.size hr.size, fun k hk hn => by
    rw [hr.block k (Nat.lt_of_lt_of_le hk h.size) (fun hf => (hd k hf).elim hn (fun e => by omega))]; exact h.block k hk hn, hr.os.trans h.os, hr.tape.trans h.tape, hr.output.trans h.output⟩
theorem doA_made2 {A : Sto} {m : Nat} (h : A.bufs.length ≤ m ∧ 0 ≤ A.shared ∧ A.shared ≤ (m : Int)) (o : OpV) : (doA A o).bufs.length ≤ m + 1 ∧ 0 ≤ (doA A o).shared ∧ (doA A o).shared ≤ ((m + 1 : Nat) : Int) := by
  have := doA_bound A o
  omega
theorem put_off (A : Sto) (n : Int) (b : Buf) : (A.put n b).off = A.off := by
  unfold Sto.put
  split <;> rfl
theorem own_off (A : Sto) (n : Int) : (A.own n).off = A.off := by
  unfold Sto.own
  split <;> rfl
theorem do_off (A : Sto) (o : OpV) : (doA A o).off = A.off := by
  unfold doA
  split
  · exact does_cases (Φ := fun X => X.off = A.off) A o (fun _ _ => rfl) rfl (fun b => by unfold Sto.change; rw [put_off, own_off]) rfl
  · rfl
theorem stA_off (l : List OpV) (j : Nat) : (stA l j).off = 0 := by
  induction j with
  | zero => rfl
  | succ j ih =>
    unfold stA
    split
    · exact ih
    · split
      · rw [do_off]; exact ih
      · exact ih
theorem stA_made (l : List OpV) (j : Nat) : (stA l j).made = ((stA l j).bufs.length : Int) := by unfold Sto.made; rw [stA_off]; omega
end Go.Proofs.Ytbhdgeoljlhmcaa
/- A store cloned: only the buffers in use, each once (plain). -/
namespace Go.Proofs.Ytbhdgeoljlhmcaa
open Go.RowKit Go.Proofs.Ytbhdgeoljlhmcaa.Nm Go.Proofs.Ytbhdgeoljlhmcaa.St
/-- the clone under way: the first names, the buffers that they refer to -/
def cl (A : Sto) (ks : List Nat) (i : Nat) : Sto :=
  ⟨(List.range 8).map (fun j => if j < i then ((A.names[j]?).join).map (fun k => ks.idxOf k) else none), ks.map A.at_, A.shared, A.made - (ks.length : Int)⟩
structure ClI (A : Sto) (ks : List Nat) (i : Nat) : Prop where
  nd : ks.Nodup
  le : i ≤ 8
  lt : ∀ k ∈ ks, k < A.bufs.length
  has : ∀ j k, j < i → A.names[j]? = some (some k) → k ∈ ks
theorem cl_made (A : Sto) (ks : List Nat) (i : Nat) : (cl A ks i).made = A.made := by unfold Sto.made cl; simp only [List.length_map]; unfold Sto.made; omega
theorem cl_name {A : Sto} {ks : List Nat} {i j : Nat} (h : j < 8) : (cl A ks i).names[j]? = some (if j < i then ((A.names[j]?).join).map (fun k => ks.idxOf k) else none) := by
  unfold cl
  simp [h]
theorem cl_len (A : Sto) (ks : List Nat) (i : Nat) : (cl A ks i).names.length = 8 := by simp [cl]
theorem cl_good {A : Sto} (hA : Good A) (hm : A.made ≤ 1000) {ks : List Nat} {i : Nat} (h : ClI A ks i) : Good (cl A ks i) := by
  refine ⟨by simp [cl], fun j k hj => ?_, fun k b hk => ?_, ⟨by rw [cl_made]; exact hA.off.1, by unfold cl; simp only; omega⟩⟩
  · have hj8 : j < 8 := by have := (List.getElem?_eq_some_iff.1 hj).1; simpa [cl] using this
    rw [cl_name hj8] at hj
    simp only [Option.some.injEq] at hj
    split at hj
    · rename_i hji
      cases hq : A.names[j]? with
      | none => rw [hq] at hj; simp at hj
      | some o =>
        cases o with
        | none => rw [hq] at hj; simp at hj
        | some k0 =>
          rw [hq] at hj
          simp only [Option.join_some, Option.map_some, Option.some.injEq] at hj
          subst hj
          have := List.idxOf_lt_length_of_mem (h.has j k0 hji hq)
          simpa [cl] using this
    · cases hj
  · simp only [cl, List.getElem?_map] at hk
    cases hq : ks[k]? with
    | none => rw [hq] at hk; simp at hk
    | some k0 =>
      rw [hq] at hk
      simp only [Option.map_some, Option.some.injEq] at hk
      subst hk
      have hl := h.lt k0 (List.mem_of_getElem? hq)
      exact hA.bufs k0 _ (by unfold Sto.at_; rw [List.getD_eq_getElem?_getD, List.getElem?_eq_getElem hl]; rfl)
theorem cl_buf {A : Sto} (hA : Good A) {ks : List Nat} (h : ClI A ks 8) {m : Int} (h0 : 0 ≤ m) (h8 : m < 8) : (cl A ks 8).buf m = A.buf m := by
  have hn := id_names hA h0 h8
  have hid : (cl A ks 8).id m = (A.id m).map (fun k => ks.idxOf k) := by
    unfold Sto.id
    rw [cl_name (by omega), if_pos (by omega), hn]
    rfl
  cases hq : A.id m with
  | none => rw [hq] at hid; rw [buf_none hid, buf_none hq]
  | some k =>
    rw [hq] at hid hn
    have hk := h.has m.toNat k (by omega) hn
    have hi := List.idxOf_lt_length_of_mem hk
    rw [buf_some hid, buf_some hq]
    show (ks.map A.at_).getD (ks.idxOf k) noBuf = _
    rw [List.getD_eq_getElem?_getD, List.getElem?_map, List.getElem?_eq_getElem hi]
    simp only [Option.map_some, Option.getD_some]
    rw [List.getElem_idxOf hi]
    rfl
theorem clI_zero (A : Sto) : ClI A [] 0 := ⟨List.nodup_nil, by omega, by simp, fun j k h => by omega⟩
theorem cl_zero (A : Sto) : (cl A [] 0).names = List.replicate 8 none ∧ (cl A [] 0).bufs = [] ∧ (cl A [] 0).shared = A.shared := ⟨rfl, rfl, rfl⟩
theorem idxOf_app {ks : List Nat} {k k' : Nat} (h : k ∈ ks) : (ks ++ [k']).idxOf k = ks.idxOf k := by rw [List.idxOf_append, if_pos h]
/-- one more name that refers to what is there already, or to nothing -/
theorem cl_step {A : Sto} {ks : List Nat} {i : Nat} (h : ClI A ks i) (hi : i < 8) {o : Option Nat} (ho : A.names[i]? = some o) (hk : ∀ k, o = some k → k ∈ ks) :
    ClI A ks (i + 1) ∧ cl A ks (i + 1) = { cl A ks i with names := (cl A ks i).names.set i (o.map fun k => ks.idxOf k) } := by
  refine ⟨⟨h.nd, by omega, h.lt, fun j k hj hn => ?_⟩, ?_⟩
  · by_cases e : j = i
    · subst e; rw [ho] at hn; exact hk k (by simpa using hn)
    · exact h.has j k (by omega) hn
  · have : (cl A ks (i + 1)).names = (cl A ks i).names.set i (o.map fun k => ks.idxOf k) := by
      apply List.ext_getElem?
      intro j
      rw [List.getElem?_set]
      by_cases hj : j < 8
      · rw [cl_name hj, cl_name hj]
        by_cases e : i = j
        · subst e
          rw [if_pos rfl, if_pos (by omega), if_pos (by rw [cl_len]; omega), ho]
          simp
        · rw [if_neg e]
          by_cases hji : j < i
          · rw [if_pos (by omega), if_pos hji]
          · rw [if_neg (by omega), if_neg hji]
      · rw [List.getElem?_eq_none (by rw [cl_len]; omega), List.getElem?_eq_none (by rw [cl_len]; omega)]
        by_cases e : i = j
        · omega
        · rw [if_neg e]
    unfold cl at this ⊢
    simp only at this ⊢
    rw [this]
/-- one more buffer -/
theorem cl_more {A : Sto} {ks : List Nat} {i : Nat} (h : ClI A ks i) {k : Nat} (hk : k ∉ ks) (hl : k < A.bufs.length) :
    ClI A (ks ++ [k]) i ∧ cl A (ks ++ [k]) i = { cl A ks i with bufs := (cl A ks i).bufs ++ [A.at_ k], off := (cl A ks i).off - 1 } := by
  refine ⟨⟨?_, h.le, fun x hx => ?_, fun j x hj hn => List.mem_append_left _ (h.has j x hj hn)⟩, ?_⟩
  · rw [List.nodup_append]
    exact ⟨h.nd, by simp, fun a ha b hb e => by simp at hb; subst hb; subst e; exact hk ha⟩
  · rcases List.mem_append.1 hx with hx | hx
    · exact h.lt x hx
    · simp at hx; subst hx; exact hl
  · have hn : (cl A (ks ++ [k]) i).names = (cl A ks i).names := by
      unfold cl
      simp only
      refine List.map_congr_left (fun j hj => ?_)
      split
      · rename_i hji
        cases hq : A.names[j]? with
        | none => rfl
        | some o =>
          cases o with
          | none => rfl
          | some x =>
            have hx := h.has j x hji hq
            simp [idxOf_app hx]
      · rfl
    unfold cl at hn ⊢
    simp only [Sto.mk.injEq] at hn ⊢
    exact ⟨hn, by simp, trivial, by simp only [List.length_append, List.length_singleton]; omega⟩
/-- a new buffer in memory that no name refers to yet -/
theorem StoreAt.extra {w w' : World} {s : Nat} {A : Sto} {rs : List Row} (h : StoreAt w s A rs) {r : Row} {b : Buf} (hk : Below w.heap.size w w') (hB : BufAt w' r b) (hg : w.heap.size ≤ r.g)
    (hl : ∀ q, r.lv.ownBlock = some q → w.heap.size ≤ q) (hp : ∀ q, r.pv.ownBlock = some q → w.heap.size ≤ q) (hA : Good A) :
    StoreAt w' s { A with bufs := A.bufs ++ [b], off := A.off - 1 } (rs ++ [r]) := by
  have h' := h.below hk
  have hlen := h.len
  have hold : ∀ (j : Nat) (x : Row), j < rs.length → (rs ++ [r])[j]? = some x → rs[j]? = some x := fun j x hj hx => by rwa [List.getElem?_append_left hj] at hx
  have hnew : ∀ (j : Nat) (x : Row), ¬ j < rs.length → (rs ++ [r])[j]? = some x → j = rs.length ∧ x = r := fun j x hj hx => by
    rw [List.getElem?_append_right (by omega)] at hx
    rcases (show j - rs.length = 0 ∨ 0 < j - rs.length by omega) with e | e
    · rw [e] at hx; simp at hx; exact ⟨by omega, hx.symm⟩
    · rw [List.getElem?_eq_none (by simp; omega)] at hx; cases hx
  have hns : nsOf { A with bufs := A.bufs ++ [b], off := A.off - 1 } (rs ++ [r]) = nsOf A rs := by
    unfold nsOf
    simp only
    refine List.map_congr_left (fun o ho => ?_)
    cases o with
    | none => rfl
    | some k =>
      obtain ⟨i, hi⟩ := List.mem_iff_getElem?.1 ho
      have := hA.there i k hi
      simp only [Option.map_some, Option.some.injEq]
      unfold gAt
      rw [List.getD_eq_getElem?_getD, List.getD_eq_getElem?_getD, List.getElem?_append_left (by omega)]
  have hmade : ({ A with bufs := A.bufs ++ [b], off := A.off - 1 } : Sto).made = A.made := by unfold Sto.made; simp only [List.length_append, List.length_singleton]; omega
  refine ⟨?_, by simp [hlen], ?_, ?_, ?_, ?_⟩
  · rw [hns, hmade]; exact h'.main
  · intro j x y hx hy
    by_cases e : j < rs.length
    · simp only [List.getElem?_append_left (show j < A.bufs.length by omega)] at hy
      exact h'.rows j x y (hold j x e hx) hy
    · obtain ⟨e1, e2⟩ := hnew j x e hx
      subst e2
      simp only [e1, hlen, List.getElem?_append_right (Nat.le_refl _), Nat.sub_self, List.getElem?_cons_zero, Option.some.injEq] at hy
      subst hy
      exact hB
  · intro i j x y hx hy e
    by_cases e1 : i < rs.length
    · by_cases e2 : j < rs.length
      · exact h.gs i j x y (hold i x e1 hx) (hold j y e2 hy) e
      · obtain ⟨_, e3⟩ := hnew j y e2 hy
        have := h.lt (Or.inr ⟨i, x, hold i x e1 hx, Or.inl rfl⟩); rw [e, e3] at this; omega
    · obtain ⟨e0, e3⟩ := hnew i x e1 hx
      by_cases e2 : j < rs.length
      · have := h.lt (Or.inr ⟨j, y, hold j y e2 hy, Or.inl rfl⟩); rw [← e, e3] at this; omega
      · obtain ⟨e4, _⟩ := hnew j y e2 hy; omega
  · intro i j x y q hx hy e e'
    by_cases e1 : i < rs.length
    · by_cases e2 : j < rs.length
      · exact h.ls i j x y q (hold i x e1 hx) (hold j y e2 hy) e e'
      · obtain ⟨_, e3⟩ := hnew j y e2 hy
        have := h.lt (Or.inr ⟨i, x, hold i x e1 hx, Or.inr (Or.inl e)⟩); rw [e3] at e'; have := hl q e'; omega
    · obtain ⟨e0, e3⟩ := hnew i x e1 hx
      by_cases e2 : j < rs.length
      · have := h.lt (Or.inr ⟨j, y, hold j y e2 hy, Or.inr (Or.inl e')⟩); rw [e3] at e; have := hl q e; omega
      · obtain ⟨e4, _⟩ := hnew j y e2 hy; omega
  · intro i j x y q hx hy e e'
    by_cases e1 : i < rs.length
    · by_cases e2 : j < rs.length
      · exact h.ps i j x y q (hold i x e1 hx) (hold j y e2 hy) e e'
      · obtain ⟨_, e3⟩ := hnew j y e2 hy
        have := h.lt (Or.inr ⟨i, x, hold i x e1 hx, Or.inr (Or.inr e)⟩); rw [e3] at e'; have := hp q e'; omega
    · obtain ⟨e0, e3⟩ := hnew i x e1 hx
      by_cases e2 : j < rs.length
      · have := h.lt (Or.inr ⟨j, y, hold j y e2 hy, Or.inr (Or.inr e')⟩); rw [e3] at e; have := hp q e; omega
      · obtain ⟨e4, _⟩ := hnew j y e2 hy; omega
end Go.Proofs.Ytbhdgeoljlhmcaa
