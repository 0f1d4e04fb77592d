/- Two stores whose dictionaries have other seeds: the same errors, the same arrays, the same entries (plain). -/
import Derived.Test.YtbhdgeoljlhmcaaS54
import Derived.Test.YtbhdgeoljlhmcaaS43
namespace Go.Proofs.Ytbhdgeoljlhmcaa
open Go.RowKit Go.Proofs.Ytbhdgeoljlhmcaa.Nm Go.Proofs.Ytbhdgeoljlhmcaa.St
theorem buf_apt {A : Sto} (hA : Good A) (n : Int) : Apt (pairsT (A.buf n).t) := by
  cases hq : A.id n with
  | none => rw [buf_none hq]; exact List.Pairwise.nil
  | some k =>
    have hl := id_lt hA hq
    exact (hA.bufs k (A.buf n) (by rw [buf_some hq, List.getD_eq_getElem?_getD, List.getElem?_eq_getElem hl]; rfl)).apt
/-- two buffers with the same value -/
structure SimB (x y : Buf) : Prop where
  kd : x.kd = y.kd
  l : x.l = y.l
  has : ∀ k v, Has x.t k v ↔ Has y.t k v
theorem SimB.refl (x : Buf) : SimB x x := ⟨rfl, rfl, fun _ _ => Iff.rfl⟩
theorem apt_nodup {l : List (ByteArray × Int)} (h : Apt l) : l.Nodup := h.imp (fun h e => h (by rw [e]))
theorem SimB.perm {x y : Buf} (h : SimB x y) (hx : Apt (pairsT x.t)) (hy : Apt (pairsT y.t)) : (pairsT x.t).Perm (pairsT y.t) := by
  refine (List.perm_ext_iff_of_nodup (apt_nodup hx) (apt_nodup hy)).2 (fun p => ?_)
  obtain ⟨k, v⟩ := p
  exact (has_mem (t := x.t)).symm.trans ((h.has k v).trans (has_mem (t := y.t)))
theorem SimB.cnE {x y : Buf} (h : SimB x y) (hx : Apt (pairsT x.t)) (hy : Apt (pairsT y.t)) : cn x.t = cn y.t := by
  have := (h.perm hx hy).length_eq
  rwa [show (pairsT x.t).length = cn x.t from ents_length x.t, show (pairsT y.t).length = cn y.t from ents_length y.t] at this
/-- an operation with another seed -/
def Alt (o o' : OpV) : Prop := o' = o ∨ (o.kind = 8 ∧ 0 ≤ o.n ∧ o.n ≤ 2147483647 ∧ ∃ n, o' = { o with n := n } ∧ 0 ≤ n ∧ n ≤ 2147483647)
theorem Alt.same {o o' : OpV} (h : Alt o o') : o'.kind = o.kind ∧ o'.fr = o.fr ∧ o'.to = o.to ∧ o'.at_ = o.at_ ∧ o'.key = o.key := by
  rcases h with rfl | ⟨_, _, _, n, rfl, _⟩ <;> exact ⟨rfl, rfl, rfl, rfl, rfl⟩
theorem refB_same {b c : Buf} (h : SimB b c) (hn : cn b.t = cn c.t) (hf : b.kd = 2 → ∀ k, (fnd b.seed b.t k < 0 ↔ fnd c.seed c.t k < 0)) (o : OpV) : refB b o = refB c o := by
  unfold refB
  rw [h.kd, h.l, hn]
  by_cases hfo : formS o = false
  · rw [if_pos hfo, if_pos hfo]
  rw [if_neg hfo, if_neg hfo]
  by_cases h2 : (useG o.kind).kind ≠ 0 ∧ c.kd ≠ (useG o.kind).kind
  · rw [if_pos h2, if_pos h2]
  rw [if_neg h2, if_neg h2]
  by_cases h9 : o.kind = 9
  · have hkd : b.kd = 2 := by
      rw [h.kd]
      rw [h9] at h2
      apply Classical.byContradiction
      intro hne
      exact h2 ⟨by decide, hne⟩
    simp only [h9, hf hkd]
  · by_cases h10 : o.kind = 10
    · have hkd : b.kd = 2 := by
        rw [h.kd]
        rw [h10] at h2
        apply Classical.byContradiction
        intro hne
        exact h2 ⟨by decide, hne⟩
      simp only [h10, hf hkd]
    · simp only [h9, h10, false_and]
theorem refB_alt {b : Buf} {o o' : OpV} (h : Alt o o') : refB b o' = refB b o := by
  rcases h with rfl | ⟨hk, h0, h1, n, rfl, h2, h3⟩
  · rfl
  · obtain ⟨kd, fr, to, at_, nn, key⟩ := o
    simp only at hk h0 h1
    subst hk
    unfold refB formS
    simp only [show useS 8 = some ⟨false, true, false, true, false, 0⟩ from rfl, show useG 8 = ⟨false, true, false, true, false, 0⟩ from rfl]
    simp
    have e1 : ¬ (n < 0 ∨ 2147483647 < n) := by omega
    have e2 : ¬ (nn < 0 ∨ 2147483647 < nn) := by omega
    simp [e1, e2]
theorem aim_alt {o o' : OpV} (h : Alt o o') : aim o' = aim o := by
  obtain ⟨h1, h2, h3, _⟩ := h.same
  unfold aim
  rw [h1, h2, h3]
/-- what a name becomes -/
theorem newB_sim {b c : Buf} (h : SimB b c) (hG : b.kd = 2 → GoodB b ∧ GoodB c) {o o' : OpV} (ha : Alt o o') (hr : refB b o = 0) (hr2 : refB c o = 0) (hk : o.kind ≠ 11) : SimB (newB b o) (newB c o') := by
  have hf : formS o = true := by
    cases hq : formS o with
    | true => rfl
    | false => unfold refB at hr; rw [hq] at hr; simp at hr
  have hkd2 : (useG o.kind).kind = 2 → b.kd = 2 := fun h9 => by
    apply Classical.byContradiction
    intro hne
    unfold refB at hr
    rw [hf] at hr
    simp only [Bool.true_eq_false, if_false] at hr
    rw [if_pos ⟨by rw [h9]; decide, by rw [h9]; exact hne⟩] at hr
    cases hr
  rcases ha with rfl | ⟨h8, h0, h1, n, rfl, h2, h3⟩
  · rcases formS_kind hf with h9 | h9 | h9 | h9 | h9 | h9 | h9 | h9 | h9 | h9 | h9
    · simp only [newB, h9, Int.reduceEq, reduceIte]; exact SimB.refl _
    · simp only [newB, h9, Int.reduceEq, reduceIte]; exact h
    · simp only [newB, h9, Int.reduceEq, reduceIte]; exact ⟨h.kd, by simp only [h.l], h.has⟩
    · simp only [newB, h9, Int.reduceEq, reduceIte, h.l]
      split
      · exact h
      · exact ⟨h.kd, rfl, h.has⟩
    · simp only [newB, h9, Int.reduceEq, reduceIte]; exact ⟨h.kd, by simp only [h.l], h.has⟩
    · simp only [newB, h9, Int.reduceEq, reduceIte, h.l]; exact SimB.refl _
    · simp only [newB, h9, Int.reduceEq, reduceIte, h.l]
      split
      · exact h
      · exact ⟨h.kd, rfl, h.has⟩
    · simp only [newB, h9, Int.reduceEq, reduceIte]; exact SimB.refl _
    · have hb := hkd2 (by rw [h9]; rfl)
      obtain ⟨g1, g2⟩ := hG hb
      obtain ⟨a1, a2, a3, a4, a5, a6⟩ := new_set g1 hb h9 hr
      obtain ⟨b1, b2, b3, b4, b5, b6⟩ := new_set g2 (h.kd ▸ hb) h9 hr2
      exact ⟨by rw [a1, b1], by rw [a3, b3, h.l], fun k v => by rw [a6, b6, h.has]⟩
    · have hb := hkd2 (by rw [h9]; rfl)
      obtain ⟨g1, g2⟩ := hG hb
      obtain ⟨a1, a2, a3, a4, a5, a6⟩ := new_del g1 hb h9 hr
      obtain ⟨b1, b2, b3, b4, b5, b6⟩ := new_del g2 (h.kd ▸ hb) h9 hr2
      exact ⟨by rw [a1, b1], by rw [a3, b3, h.l], fun k v => by rw [a6, b6, h.has]⟩
    · exact absurd h9 hk
  · simp only [newB, h8, Int.reduceEq, reduceIte]
    exact ⟨rfl, rfl, fun _ _ => Iff.rfl⟩
/-- two stores of the same values -/
def Sim (A B : Sto) : Prop := ∀ m : Int, 0 ≤ m → m < 8 → SimB (A.buf m) (B.buf m)
theorem sim_new : Sim newA newA := fun _ _ _ => SimB.refl _
theorem sim_ref {A B : Sto} (hA : Good A) (hB : Good B) (h : Sim A B) {o o' : OpV} (ha : Alt o o') : refA A o = refA B o' := by
  rw [refA_eq, refA_eq, ha.same.2.1, refB_alt ha]
  by_cases hf : formS o = true
  · have hfr := form_fr hf
    have hs := h o.fr hfr.1 hfr.2
    refine refB_same hs (hs.cnE (buf_apt hA _) (buf_apt hB _)) (fun hk k => ?_) o
    have g1 := hA.buf hfr.1 hfr.2 (by rw [hk]; decide)
    have g2 := hB.buf hfr.1 hfr.2 (by rw [← hs.kd, hk]; decide)
    rw [fnd_iff (g1.dict hk).2.2.2.1, fnd_iff (g2.dict (hs.kd ▸ hk)).2.2.2.1]
    exact forall_congr' fun v => not_congr (hs.has k v)
  · unfold refB
    rw [Bool.eq_false_iff.2 hf]
    rfl
theorem sim_do {A B : Sto} (hA : Good A) (hB : Good B) (h : Sim A B) {o o' : OpV} (ha : Alt o o') (hk : o.kind ≠ 11) : Sim (doA A o) (doA B o') := fun m h0 h8 => by
  have hr := sim_ref hA hB h ha
  rw [do_buf hA o h0 h8, do_buf hB o' h0 h8, aim_alt ha, ← hr, ha.same.2.1]
  by_cases hc : refA A o = 0 ∧ m = aim o
  · rw [if_pos hc, if_pos hc]
    have hf := ref_form hc.1
    have hfr := form_fr hf
    have hs := h o.fr hfr.1 hfr.2
    refine newB_sim hs (fun hkd => ⟨hA.buf hfr.1 hfr.2 (by rw [hkd]; decide), hB.buf hfr.1 hfr.2 (by rw [← hs.kd, hkd]; decide)⟩) ha hc.1 ?_ hk
    have := hr.symm.trans hc.1
    rw [refA_eq, ha.same.2.1, refB_alt ha] at this
    exact this
  · rw [if_neg hc, if_neg hc]; exact h m h0 h8
end Go.Proofs.Ytbhdgeoljlhmcaa
