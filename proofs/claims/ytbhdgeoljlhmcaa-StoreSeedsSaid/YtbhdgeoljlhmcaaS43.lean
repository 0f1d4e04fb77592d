/- What a name is behind an operation: a function of what the operation's first name was (plain). -/
import Derived.Test.YtbhdgeoljlhmcaaS40
namespace Go.Proofs.Ytbhdgeoljlhmcaa
open Go.RowKit Go.Proofs.Ytbhdgeoljlhmcaa.Nm Go.Proofs.Ytbhdgeoljlhmcaa.St
/-- what the aim of an operation is behind it -/
def newB (b : Buf) (o : OpV) : Buf :=
  if o.kind = 1 then ⟨1, [], 0, []⟩ else
  if o.kind = 2 then b else
  if o.kind = 3 then { b with l := b.l ++ [o.key] } else
  if o.kind = 4 then (if b.l.getD o.at_.toNat ByteArray.empty = o.key then b else { b with l := b.l.set o.at_.toNat o.key }) else
  if o.kind = 5 then { b with l := b.l.eraseIdx o.at_.toNat } else
  if o.kind = 6 then ⟨1, (b.l.drop o.at_.toNat).take o.n.toNat, 0, []⟩ else
  if o.kind = 7 then (if sortedB b.l then b else { b with l := sortL b.l }) else
  if o.kind = 8 then ⟨2, [], o.n, List.replicate 4 none⟩ else
  if o.kind = 9 then
    (match findT (HH b.seed) b.t o.key with
    | none => { b with t := addT (HH b.seed) b.t o.key o.n }
    | some i => if ev (pl b.t i) = o.n then b else { b with t := setT b.t i o.key o.n }) else
  if o.kind = 10 then
    (match findT (HH b.seed) b.t o.key with
    | none => b
    | some i => { b with t := removeT (HH b.seed) b.t i }) else
  ⟨1, (pairsT b.t).map (·.1), 0, []⟩
theorem buf_fresh_self {A : Sto} (hA : Good A) {n : Int} (h0 : 0 ≤ n) (h8 : n < 8) (b : Buf) : (A.fresh n b).buf n = b := by
  have h9 := hA.eight
  refine buf_of (k := A.bufs.length) ?_ ?_
  · unfold Sto.id Sto.fresh
    simp only
    rw [List.getElem?_set_self (by omega)]; rfl
  · simp [Sto.fresh]
theorem buf_change_self {A : Sto} (hA : Good A) {n : Int} (h0 : 0 ≤ n) (h8 : n < 8) (hk : (A.buf n).kd ≠ 0) (b : Buf) : (A.change n b).buf n = b := by
  obtain ⟨k, hid⟩ := id_of_kd hk
  obtain ⟨k', h1, h2, _⟩ := own_change hA h0 h8 hid
  rw [change_eq h1]
  refine buf_of (k := k') h1 ?_
  rw [List.getElem?_set_self (by have := (List.getElem?_eq_some_iff.1 h2).1; exact this)]
theorem buf_names {A : Sto} (hA : Good A) {f t : Int} (h0 : 0 ≤ t) (h8 : t < 8) : ({ A with names := A.names.set t.toNat (A.id f) } : Sto).buf t = A.buf f := by
  have h9 := hA.eight
  have hid : ({ A with names := A.names.set t.toNat (A.id f) } : Sto).id t = A.id f := by
    unfold Sto.id
    simp only
    rw [List.getElem?_set_self (by omega)]; rfl
  unfold Sto.buf
  rw [hid]
  rfl
/-- the aim of an operation that succeeds -/
theorem does_new {A : Sto} (hA : Good A) {o : OpV} (hr : refA A o = 0) : (A.does o).buf (aim o) = newB (A.buf o.fr) o := by
  have hf := ref_form hr
  have hfr := form_fr hf
  have hto := form_to' hf
  have hkd : (useG o.kind).kind ≠ 0 → (A.buf o.fr).kd ≠ 0 := fun hk => by rw [ref_kd hr hk]; exact hk
  have hself := fun b => buf_fresh_self hA hto.1 hto.2 (n := o.to) b
  have hch : (useG o.kind).kind ≠ 0 → ∀ b, (A.change o.fr b).buf o.fr = b := fun h b => buf_change_self hA hfr.1 hfr.2 (hkd h) b
  rcases formS_kind hf with hk | hk | hk | hk | hk | hk | hk | hk | hk | hk | hk
  all_goals rw [hk] at hch
  all_goals simp only [Sto.does, newB, aim, hk, Int.reduceEq, or_false, or_true, reduceIte]
  all_goals try replace hch := hch (by decide)
  · exact hself _
  · exact buf_names hA hto.1 hto.2
  · exact hch _
  · split
    · rfl
    · exact hch _
  · exact hch _
  · exact hself _
  · split
    · rfl
    · exact hch _
  · exact hself _
  · cases findT (HH (A.buf o.fr).seed) (A.buf o.fr).t o.key with
    | none => exact hch _
    | some i =>
      simp only
      split
      · rfl
      · exact hch _
  · cases findT (HH (A.buf o.fr).seed) (A.buf o.fr).t o.key with
    | none => rfl
    | some i => exact hch _
  · exact hself _
/-- the name level: every name behind an operation -/
theorem do_buf {A : Sto} (hA : Good A) (o : OpV) {m : Int} (hm : 0 ≤ m) (hm8 : m < 8) : (doA A o).buf m = if refA A o = 0 ∧ m = aim o then newB (A.buf o.fr) o else A.buf m := by
  by_cases h : refA A o = 0 ∧ m = aim o
  · rw [if_pos h, h.2]
    unfold doA
    rw [if_pos h.1]
    exact does_new hA h.1
  · rw [if_neg h]
    exact do_other hA o hm hm8 (fun hr e => h ⟨hr, e⟩)
/-- the error is a function of what the operation's first name is -/
def refB (b : Buf) (o : OpV) : Int :=
  if formS o = false then 4 else
  if (useG o.kind).kind ≠ 0 ∧ b.kd ≠ (useG o.kind).kind then 141 else
  if ((useG o.kind).key = true ∧ 24 < o.key.size) ∨ (o.kind = 8 ∧ (o.n < 0 ∨ 2147483647 < o.n)) then 4 else
  if (o.kind = 4 ∨ o.kind = 5) ∧ (o.at_ < 0 ∨ (b.l.length : Int) ≤ o.at_) then 241 else
  if o.kind = 6 ∧ (o.at_ < 0 ∨ o.n < 0 ∨ (b.l.length : Int) < o.at_ ∨ (b.l.length : Int) - o.at_ < o.n) then 241 else
  if o.kind = 10 ∧ fnd b.seed b.t o.key < 0 then 250 else
  if o.kind = 3 ∧ 100 ≤ b.l.length then 2 else
  if o.kind = 9 ∧ 100 ≤ cn b.t ∧ fnd b.seed b.t o.key < 0 then 2 else 0
theorem refA_eq (A : Sto) (o : OpV) : refA A o = refB (A.buf o.fr) o := rfl
/-- whether a key is there -/
theorem fnd_iff {b : Buf} (hw : Wf (HH b.seed) b.t) (k : ByteArray) : fnd b.seed b.t k < 0 ↔ ∀ v, ¬ Has b.t k v := by
  unfold fnd
  cases h : findT (HH b.seed) b.t k with
  | none =>
    simp only
    refine ⟨fun _ v hv => ?_, fun _ => by decide⟩
    obtain ⟨j, hj, hp⟩ := hv
    rw [find_some (HH b.seed) hw hj hp] at h
    cases h
  | some i =>
    obtain ⟨hi, v0, hp⟩ := find_of (HH b.seed) hw.gap h
    simp only
    exact ⟨fun h9 => by omega, fun h9 => absurd ⟨i, hi, hp⟩ (h9 v0)⟩
theorem has_one {b : Buf} (hw : Wf (HH b.seed) b.t) {k : ByteArray} {v v' : Int} (h1 : Has b.t k v) (h2 : Has b.t k v') : v = v' := by
  obtain ⟨i, hi, hp⟩ := h1
  obtain ⟨j, hj, hq⟩ := h2
  have e1 := find_some (HH b.seed) hw hi hp
  have e2 := find_some (HH b.seed) hw hj hq
  rw [e1] at e2
  cases e2
  rw [hp] at hq
  cases hq
  rfl
/-- the entries behind a value put in -/
theorem new_set {b : Buf} (hG : GoodB b) (hk : b.kd = 2) {o : OpV} (ho : o.kind = 9) (hr : refB b o = 0) :
    (newB b o).kd = 2 ∧ (newB b o).seed = b.seed ∧ (newB b o).l = b.l ∧ GoodB (newB b o) ∧ (cn (newB b o).t = if fnd b.seed b.t o.key < 0 then cn b.t + 1 else cn b.t) ∧ ∀ k v, Has (newB b o).t k v ↔ (k = o.key ∧ v = o.n) ∨ (k ≠ o.key ∧ Has b.t k v) := by
  obtain ⟨h0, h1, h2, hw, hs, h4, h264, hcn⟩ := hG.dict hk
  simp only [newB, ho, Int.reduceEq, reduceIte]
  have hlim : o.key.size ≤ 24 ∧ ¬ (100 ≤ cn b.t ∧ fnd b.seed b.t o.key < 0) := by
    unfold refB at hr
    split at hr; cases hr
    split at hr; cases hr
    split at hr; cases hr
    rename_i h9
    split at hr; cases hr
    split at hr; cases hr
    split at hr; cases hr
    split at hr; cases hr
    split at hr; cases hr
    rename_i h10
    refine ⟨?_, fun h => h10 ⟨ho, h⟩⟩
    by_cases h24 : 24 < o.key.size
    · exact absurd (Or.inl ⟨by rw [ho]; rfl, h24⟩) h9
    · omega
  cases hfi : findT (HH b.seed) b.t o.key with
  | none =>
    have hf : fnd b.seed b.t o.key < 0 := fnd_neg hfi
    have hno := (fnd_iff hw o.key).1 hf
    obtain ⟨g1, g2, g3, g4⟩ := add_good (HH b.seed) hw h4 o.n hno
    simp only
    refine ⟨hk, by trivial, by trivial, good_add hG hk (by omega) o.n hlim.1 hno, by rw [if_pos hf]; exact g2, fun k v => ?_⟩
    rw [g4]
    refine ⟨fun h => h.elim Or.inl (fun h => Or.inr ⟨fun e => hno v (by rw [← e]; exact h), h⟩), fun h => h.elim Or.inl (fun h => Or.inr h.2)⟩
  | some i =>
    obtain ⟨hi, v0, hp⟩ := find_of (HH b.seed) hw.gap hfi
    have hf : ¬ fnd b.seed b.t o.key < 0 := fun h => (fnd_iff hw o.key).1 h v0 ⟨i, hi, hp⟩
    simp only
    rw [if_neg hf]
    have hv : ∀ k v, Has b.t k v ↔ (k = o.key ∧ v = v0) ∨ (k ≠ o.key ∧ Has b.t k v) := fun k v => by
      by_cases e : k = o.key
      · subst e
        exact ⟨fun h => Or.inl ⟨rfl, has_one hw h ⟨i, hi, hp⟩⟩, fun h => h.elim (fun h => by rw [h.2]; exact ⟨i, hi, hp⟩) (fun h => h.2)⟩
      · exact ⟨fun h => Or.inr ⟨e, h⟩, fun h => h.elim (fun h => absurd h.1 e) (fun h => h.2)⟩
    by_cases hvn : ev (pl b.t i) = o.n
    · rw [if_pos hvn]
      rw [hp] at hvn
      have hvn' : v0 = o.n := hvn
      exact ⟨hk, by trivial, by trivial, hG, by trivial, fun k v => by have h9 := hv k v; rw [hvn'] at h9; exact h9⟩
    · rw [if_neg hvn]
      have hc := cn_set hi (some (o.key, o.n))
      rw [show occ b.t i = true by unfold occ; rw [hp]; rfl] at hc
      simp at hc
      refine ⟨hk, by trivial, by trivial, good_setv hG hk hi hp o.n, hc, fun k v => ?_⟩
      simp only [setT]
      constructor
      · rintro ⟨j, hj, hq⟩
        rw [List.length_set] at hj
        rw [pl_set hi hj] at hq
        by_cases e : j = i
        · rw [if_pos e] at hq; cases hq; exact Or.inl ⟨rfl, rfl⟩
        · rw [if_neg e] at hq
          refine Or.inr ⟨fun e2 => e ?_, j, hj, hq⟩
          subst e2
          have e3 := find_some (HH b.seed) hw hj hq
          rw [hfi] at e3; cases e3; rfl
      · rintro (⟨rfl, rfl⟩ | ⟨hne, j, hj, hq⟩)
        · exact ⟨i, by rw [List.length_set]; exact hi, by rw [pl_set hi hi, if_pos rfl]⟩
        · refine ⟨j, by rw [List.length_set]; exact hj, ?_⟩
          rw [pl_set hi hj, if_neg (fun e => ?_)]
          · exact hq
          · subst e; rw [hp] at hq; cases hq; exact hne rfl
/-- the entries behind a key taken out -/
theorem new_del {b : Buf} (hG : GoodB b) (hk : b.kd = 2) {o : OpV} (ho : o.kind = 10) (hr : refB b o = 0) :
    (newB b o).kd = 2 ∧ (newB b o).seed = b.seed ∧ (newB b o).l = b.l ∧ GoodB (newB b o) ∧ cn (newB b o).t + 1 = cn b.t ∧ ∀ k v, Has (newB b o).t k v ↔ (k ≠ o.key ∧ Has b.t k v) := by
  obtain ⟨h0, h1, h2, hw, hs, h4, h264, hcn⟩ := hG.dict hk
  simp only [newB, ho, Int.reduceEq, reduceIte]
  have hlim : ¬ fnd b.seed b.t o.key < 0 := by
    unfold refB at hr
    split at hr; cases hr
    split at hr; cases hr
    split at hr; cases hr
    split at hr; cases hr
    split at hr; cases hr
    split at hr; cases hr
    rename_i h10
    exact fun h => h10 ⟨ho, h⟩
  cases hfi : findT (HH b.seed) b.t o.key with
  | none => exact absurd (fnd_neg hfi) hlim
  | some i =>
    obtain ⟨hi, v0, hp⟩ := find_of (HH b.seed) hw.gap hfi
    simp only
    have hoc : occ b.t i = true := by unfold occ; rw [hp]; rfl
    exact ⟨hk, by trivial, by trivial, good_rem hG hk hi hp, cn_remove (HH b.seed) hi hoc, fun k v => by rw [remove_has (HH b.seed) hw hi hp]; exact And.comm⟩
end Go.Proofs.Ytbhdgeoljlhmcaa
