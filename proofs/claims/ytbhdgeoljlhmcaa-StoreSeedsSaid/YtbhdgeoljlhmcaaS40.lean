/- An operation changes no name but its own (plain). -/
import Derived.Test.YtbhdgeoljlhmcaaS31
namespace Go.Proofs.Ytbhdgeoljlhmcaa
open Go.RowKit Go.Proofs.Ytbhdgeoljlhmcaa.Nm Go.Proofs.Ytbhdgeoljlhmcaa.St
theorem buf_some {A : Sto} {n : Int} {k : Nat} (h : A.id n = some k) : A.buf n = A.bufs.getD k noBuf := by unfold Sto.buf; rw [h]; rfl
theorem id_set_ne {ns : List (Option Nat)} {a b : Nat} (h : a ≠ b) (o : Option Nat) : ((ns.set a o)[b]?).join = (ns[b]?).join := by rw [List.getElem?_set_ne h]
theorem id_lt {A : Sto} (hA : Good A) {n : Int} {k : Nat} (h : A.id n = some k) : k < A.bufs.length := by
  unfold Sto.id at h
  cases hq : A.names[n.toNat]? with
  | none => rw [hq] at h; simp at h
  | some o => rw [hq] at h; simp at h; exact hA.there n.toNat k (by rw [hq, h])
theorem buf_fresh_ne {A : Sto} (hA : Good A) {n m : Int} (hnm : n.toNat ≠ m.toNat) (b : Buf) (sh : Int) : ({ A.fresh n b with shared := sh } : Sto).buf m = A.buf m := by
  have hid : ({ A.fresh n b with shared := sh } : Sto).id m = A.id m := by unfold Sto.id Sto.fresh; exact id_set_ne hnm _
  cases hq : A.id m with
  | none => rw [buf_none (hid.trans hq), buf_none hq]
  | some k =>
    rw [buf_some (hid.trans hq), buf_some hq]
    have hl := id_lt hA hq
    show (A.bufs ++ [b]).getD k noBuf = _
    rw [List.getD_eq_getElem?_getD, List.getD_eq_getElem?_getD, List.getElem?_append_left hl]
theorem buf_change_ne {A : Sto} (hA : Good A) {n m : Int} (hn : 0 ≤ n) (hn8 : n < 8) (hm : 0 ≤ m) (hm8 : m < 8) (hnm : n ≠ m) (b : Buf) : (A.change n b).buf m = A.buf m := by
  have hne : n.toNat ≠ m.toNat := by omega
  unfold Sto.change Sto.own
  by_cases ho : A.others n.toNat
  · rw [if_pos ho]
    have h8 := hA.eight
    have hidn : ({ A.fresh n (A.buf n) with shared := A.shared + 1 } : Sto).id n = some A.bufs.length := by
      unfold Sto.id Sto.fresh
      simp only
      rw [List.getElem?_set_self (by omega)]; rfl
    unfold Sto.put
    rw [hidn]
    have hid : ({ A.fresh n (A.buf n) with shared := A.shared + 1, bufs := (A.bufs ++ [A.buf n]).set A.bufs.length b } : Sto).id m = A.id m := by unfold Sto.id Sto.fresh; exact id_set_ne hne _
    show ({ A.fresh n (A.buf n) with shared := A.shared + 1, bufs := (A.bufs ++ [A.buf n]).set A.bufs.length b } : Sto).buf m = _
    cases hq : A.id m with
    | none => rw [buf_none (hid.trans hq), buf_none hq]
    | some k =>
      rw [buf_some (hid.trans hq), buf_some hq]
      have hl := id_lt hA hq
      show ((A.bufs ++ [A.buf n]).set A.bufs.length b).getD k noBuf = _
      rw [List.getD_eq_getElem?_getD, List.getD_eq_getElem?_getD, List.getElem?_set_ne (by omega), List.getElem?_append_left hl]
  · rw [if_neg ho]
    unfold Sto.put
    cases hq : A.id n with
    | none => rfl
    | some k =>
      show ({ A with bufs := A.bufs.set k b } : Sto).buf m = A.buf m
      have hid : ({ A with bufs := A.bufs.set k b } : Sto).id m = A.id m := rfl
      cases hq2 : A.id m with
      | none => rw [buf_none (hid.trans hq2), buf_none hq2]
      | some k2 =>
        rw [buf_some (hid.trans hq2), buf_some hq2]
        have hkk : k ≠ k2 := fun e => by
          subst e
          exact ho ⟨m.toNat, by omega, fun e => hne e.symm, by rw [id_names hA hm hm8, id_names hA hn hn8, hq, hq2]⟩
        show (A.bufs.set k b).getD k2 noBuf = _
        rw [List.getD_eq_getElem?_getD, List.getD_eq_getElem?_getD, List.getElem?_set_ne hkk]
/-- the name that an operation changes -/
def aim (o : OpV) : Int := if o.kind = 1 ∨ o.kind = 2 ∨ o.kind = 6 ∨ o.kind = 8 ∨ o.kind = 11 then o.to else o.fr
theorem form_to' {o : OpV} (h : formS o = true) : 0 ≤ o.to ∧ o.to < 8 := by
  unfold formS at h
  simp only [Bool.and_eq_true] at h
  have := h.1.1.1.2
  unfold nmOk isNm at this
  simp only [Bool.or_eq_true, Bool.and_eq_true, Bool.not_eq_true', decide_eq_true_eq] at this
  omega
theorem does_aim {Φ : Sto → Prop} (A : Sto) (o : OpV) (hf : formS o = true) (h1 : aim o = o.to → ∀ b, Φ (A.fresh o.to b)) (h2 : aim o = o.to → Φ { A with names := A.names.set o.to.toNat (A.id o.fr) }) (h3 : aim o = o.fr → ∀ b, Φ (A.change o.fr b)) (h4 : Φ A) : Φ (A.does o) := by
  unfold Sto.does
  rcases formS_kind hf with hk | hk | hk | hk | hk | hk | hk | hk | hk | hk | hk
  · rw [if_pos hk]; exact h1 (if_pos (Or.inl hk)) _
  · rw [if_neg (by omega), if_pos hk]; exact h2 (if_pos (by omega))
  · rw [if_neg (by omega), if_neg (by omega), if_pos hk]; exact h3 (if_neg (by omega)) _
  · rw [if_neg (by omega), if_neg (by omega), if_neg (by omega), if_pos hk]
    split
    · exact h4
    · exact h3 (if_neg (by omega)) _
  · rw [if_neg (by omega), if_neg (by omega), if_neg (by omega), if_neg (by omega), if_pos hk]; exact h3 (if_neg (by omega)) _
  · rw [if_neg (by omega), if_neg (by omega), if_neg (by omega), if_neg (by omega), if_neg (by omega), if_pos hk]; exact h1 (if_pos (by omega)) _
  · rw [if_neg (by omega), if_neg (by omega), if_neg (by omega), if_neg (by omega), if_neg (by omega), if_neg (by omega), if_pos hk]
    split
    · exact h4
    · exact h3 (if_neg (by omega)) _
  · rw [if_neg (by omega), if_neg (by omega), if_neg (by omega), if_neg (by omega), if_neg (by omega), if_neg (by omega), if_neg (by omega), if_pos hk]; exact h1 (if_pos (by omega)) _
  · rw [if_neg (by omega), if_neg (by omega), if_neg (by omega), if_neg (by omega), if_neg (by omega), if_neg (by omega), if_neg (by omega), if_neg (by omega), if_pos hk]
    split
    · exact h3 (if_neg (by omega)) _
    · split
      · exact h4
      · exact h3 (if_neg (by omega)) _
  · rw [if_neg (by omega), if_neg (by omega), if_neg (by omega), if_neg (by omega), if_neg (by omega), if_neg (by omega), if_neg (by omega), if_neg (by omega), if_neg (by omega), if_pos hk]
    split
    · exact h4
    · exact h3 (if_neg (by omega)) _
  · rw [if_neg (by omega), if_neg (by omega), if_neg (by omega), if_neg (by omega), if_neg (by omega), if_neg (by omega), if_neg (by omega), if_neg (by omega), if_neg (by omega), if_neg (by omega)]; exact h1 (if_pos (by omega)) _
/-- an operation changes no other name; with an error none -/
theorem do_other {A : Sto} (hA : Good A) (o : OpV) {m : Int} (hm : 0 ≤ m) (hm8 : m < 8) (h : refA A o = 0 → m ≠ aim o) : (doA A o).buf m = A.buf m := by
  unfold doA
  by_cases hr : refA A o = 0
  · rw [if_pos hr]
    have hf := ref_form hr
    have hfr := form_fr hf
    have hto := form_to' hf
    have hne := h hr
    refine does_aim (Φ := fun X => X.buf m = A.buf m) A o hf (fun e b => ?_) (fun e => ?_) (fun e b => ?_) rfl
    · rw [e] at hne; exact buf_fresh_ne hA (by omega) b A.shared
    · rw [e] at hne
      have hid : ({ A with names := A.names.set o.to.toNat (A.id o.fr) } : Sto).id m = A.id m := by unfold Sto.id; exact id_set_ne (by omega) _
      unfold Sto.buf
      rw [hid]
      rfl
    · rw [e] at hne; exact buf_change_ne hA hfr.1 hfr.2 hm hm8 (Ne.symm hne) b
  · rw [if_neg hr]
theorem ref_copy (A : Sto) {f t : Int} (hf : 0 ≤ f) (hf8 : f < 8) (ht : 0 ≤ t) (ht8 : t < 8) : refA A ⟨2, f, t, 0, 0, ⟨#[]⟩⟩ = 0 := by
  have hform : formS ⟨2, f, t, 0, 0, ⟨#[]⟩⟩ = true := by
    unfold formS
    simp only [show useS 2 = some ⟨true, true, false, false, false, 0⟩ from rfl, show useG 2 = ⟨true, true, false, false, false, 0⟩ from rfl, nmOk, isNm]
    simp [hf, hf8, ht, ht8]
  unfold refA
  simp [hform, show useG 2 = ⟨true, true, false, false, false, 0⟩ from rfl]
theorem do_copy (A : Sto) {f t : Int} (hf : 0 ≤ f) (hf8 : f < 8) (ht : 0 ≤ t) (ht8 : t < 8) : doA A ⟨2, f, t, 0, 0, ⟨#[]⟩⟩ = { A with names := A.names.set t.toNat (A.id f) } := by
  unfold doA
  rw [if_pos (ref_copy A hf hf8 ht ht8)]
  unfold Sto.does
  rw [if_neg (show ¬ ((2 : Int) = 1) by decide), if_pos rfl]
end Go.Proofs.Ytbhdgeoljlhmcaa
