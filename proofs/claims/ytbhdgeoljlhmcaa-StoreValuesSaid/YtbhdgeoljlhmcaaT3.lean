/- Tables: an entry taken out as the document does it is the same; plain facts. -/
import Derived.Test.YtbhdgeoljlhmcaaT2
namespace Go.Proofs.Ytbhdgeoljlhmcaa.St
section
variable (H : ByteArray → Nat)
theorem clearC_length (t : Tab) (k f : Nat) : (clearC t k f).1.length = t.length := by
  induction f generalizing t k with
  | zero => rfl
  | succ f ih => unfold clearC; split; rfl; simp only; rw [ih]; simp
theorem clearC_len {t : Tab} {k f c : Nat} (h : occ t (k + c) = false) : (clearC t k f).2.length ≤ c := by
  induction f generalizing t k c with
  | zero => simp [clearC]
  | succ f ih =>
    unfold clearC
    split
    · simp
    · rename_i e hp
      rcases c with _ | c
      · rw [Nat.add_zero] at h; unfold occ at h; rw [hp] at h; cases h
      · simp only [List.length_cons]
        have hn : 0 < t.length := by
          rcases Nat.eq_zero_or_pos t.length with h0 | h0
          · unfold pl at hp; rw [List.length_eq_zero_iff.1 h0] at hp; simp at hp
          · exact h0
        have := ih (t := t.set (k % t.length) none) (k := k + 1) (c := c) (by rw [occ_unset (Nat.mod_lt _ hn), show k + 1 + c = k + (c + 1) by omega, h]; rfl)
        omega
theorem clearC_pl (t : Tab) (k f j : Nat) : pl (clearC t k f).1 j = pl t j ∨ pl (clearC t k f).1 j = none := by
  induction f generalizing t k with
  | zero => exact Or.inl rfl
  | succ f ih =>
    unfold clearC
    split
    · exact Or.inl rfl
    · rename_i e hp
      simp only
      rcases ih (t.set (k % t.length) none) (k + 1) with h | h
      · rw [h]
        by_cases hj : j % t.length = k % t.length
        · right
          have hn : 0 < t.length := by
            rcases Nat.eq_zero_or_pos t.length with h0 | h0
            · unfold pl at hp; rw [List.length_eq_zero_iff.1 h0] at hp; simp at hp
            · exact h0
          have := occ_unset (t := t) (i := k % t.length) (j := j) (Nat.mod_lt _ hn)
          rw [hj] at this
          simp only [decide_true, Bool.not_true, Bool.and_false] at this
          unfold occ at this
          cases hq : pl (t.set (k % t.length) none) j with
          | none => rfl
          | some x => rw [hq] at this; cases this
        · left; exact pl_set_ne hj _
      · exact Or.inr h
theorem clearC_off {t : Tab} {k f j : Nat} (h : ∀ u, u < (clearC t k f).2.length → (k + u) % t.length ≠ j % t.length) : pl (clearC t k f).1 j = pl t j := by
  induction f generalizing t k with
  | zero => rfl
  | succ f ih =>
    unfold clearC at h ⊢
    split
    · rfl
    · rename_i e hp
      rw [hp] at h
      simp only [List.length_cons] at h ⊢
      rw [ih (fun u hu => by
        have := h (u + 1) (by omega)
        simp only [List.length_set]
        rwa [show k + (u + 1) = k + 1 + u by omega] at this)]
      exact pl_set_ne (fun e => h 0 (by omega) (by rw [Nat.add_zero]; exact e.symm)) _
theorem clearC_set {t : Tab} {k f sl : Nat} {x : ByteArray × Int} (h : ∀ u, u ≤ (clearC t k f).2.length → (k + u) % t.length ≠ sl) :
    clearC (t.set sl (some x)) k f = ((clearC t k f).1.set sl (some x), (clearC t k f).2) := by
  induction f generalizing t k with
  | zero => rfl
  | succ f ih =>
    have h0 := h 0 (by omega)
    rw [Nat.add_zero] at h0
    unfold clearC at h ⊢
    rw [pl_set_ne h0]
    split
    · rfl
    · rename_i e hp
      rw [hp] at h
      simp only [List.length_cons, List.length_set] at h ⊢
      rw [List.set_comm _ _ (fun e => h0 e.symm), ih (fun u hu => by
        have := h (u + 1) (by omega)
        simp only [List.length_set]
        rwa [show k + (u + 1) = k + 1 + u by omega] at this)]
theorem Mid.lay {t : Tab} {i s m : Nat} (h : Mid H t i s m) (hs : s < m) {k : ByteArray} {v : Int} (hp : pl t (i + s) = some (k, v)) {t' : Tab} (ht' : t' = t.set ((i + s) % t.length) none) :
    slot H t' k < t.length ∧ occ t' (slot H t' k) = false ∧ slot H t' k ≠ (i + m) % t.length ∧ far t' free (H k) t.length < t.length ∧
    (∀ e, e < far t' free (H k) t.length → occ t' (H k + e) = true) ∧ (∀ e u, e < far t' free (H k) t.length → s < u → u < m → (H k + e) % t.length ≠ (i + u) % t.length) := by
  have hn : 0 < t.length := by have := h.ln; omega
  have hmn := h.m1
  obtain ⟨p, hpp⟩ : ∃ p, p = (i + s) % t.length := ⟨_, rfl⟩
  have hpl : p < t.length := by rw [hpp]; exact Nat.mod_lt _ hn
  rw [← hpp] at ht'
  have hln : t'.length = t.length := by rw [ht']; simp
  have hmp : (i + m) % t.length ≠ p := fun e => by
    rw [hpp] at e
    have := off_one (n := t.length) (j := i) (d := m) (e := s) (by omega) (by omega) e
    omega
  obtain ⟨d, hd, hdj, hpath⟩ := h.home H hp
  have hfree : free (pl t' (H k + d)) = true := by
    have := occ_unset (t := t) (i := p) (j := H k + d) hpl
    rw [← ht', hdj, ← hpp] at this
    simp only [decide_true, Bool.not_true, Bool.and_false] at this
    unfold occ at this
    rw [free_iff]; simpa using this
  have hat := far_at (t := t') (p := free) (i := H k) (f := t.length) hd hfree
  have hbe := far_before (t := t') (p := free) (i := H k) (f := t.length)
  have hsl : slot H t' k = (H k + far t' free (H k) t.length) % t.length := by unfold slot; rw [hln]
  have hocc : ∀ j, occ t' j = (occ t j && !decide (j % t.length = p)) := fun j => by rw [ht', occ_unset hpl]
  have hlt : slot H t' k < t.length := by rw [hsl]; exact Nat.mod_lt _ hn
  refine ⟨hlt, ?_, fun e => ?_, by omega, fun e he => free_not.1 (hbe e he), fun e u he h1 h2 h3 => ?_⟩
  · have : occ t' (slot H t' k) = occ t' (H k + far t' free (H k) t.length) := by rw [hsl, ← hln, occ_mod]
    rw [this]; unfold occ; rw [free_iff.1 hat.2]; rfl
  · rw [hsl] at e
    rcases Nat.lt_or_ge (far t' free (H k) t.length) d with hl | hg
    · rcases hpath _ hl with h1 | ⟨u, hu, h2⟩
      · rw [← occ_mod, e, occ_mod, h.top] at h1; cases h1
      · rw [e] at h2
        have := off_one (n := t.length) (j := i) (d := m) (e := u) (by omega) (by omega) h2
        omega
    · have : far t' free (H k) t.length = d := by omega
      rw [this, hdj, ← hpp] at e
      exact hmp e.symm
  · -- from offset u the way goes on to offset s, past offset m
    have hstep : ∀ x, (H k + (e + x)) % t.length = (i + (u + x)) % t.length := fun x => by
      rw [show H k + (e + x) = H k + e + x by omega, ← Nat.mod_add_mod (H k + e), h3, Nat.mod_add_mod, Nat.add_assoc]
    have h4 : e + (m - u) < d := by
      rcases Nat.lt_or_ge (e + (m - u)) d with h | h
      · exact h
      · exfalso
        have h5 := hstep (d - e)
        rw [show e + (d - e) = d by omega, hdj] at h5
        have := off_one (n := t.length) (j := i) (d := s) (e := u + (d - e)) (by omega) (by omega) h5
        omega
    have h6 := hstep (m - u)
    rw [show u + (m - u) = m by omega] at h6
    rcases hpath _ h4 with h7 | ⟨u', h7, h8⟩
    · rw [← occ_mod, h6, occ_mod, h.top] at h7; cases h7
    · rw [h6] at h8
      have := off_one (n := t.length) (j := i) (d := m) (e := u') (by omega) (by omega) h8
      omega
theorem removeR_sweep {i m : Nat} : ∀ (f s : Nat) (t : Tab), m - s ≤ f → Mid H t i s m → layAll H (clearC t (i + s) f).1 (clearC t (i + s) f).2 = sweep H t (i + s) f := by
  intro f
  induction f with
  | zero => intro s t _ _; rfl
  | succ f ih =>
    intro s t hf h
    have hn : 0 < t.length := by have := h.ln; omega
    have hmn := h.m1
    rcases Nat.lt_or_ge s m with hs | hs
    · obtain ⟨k, v, hp⟩ := occ_iff.1 (h.full s (Nat.le_refl _) hs)
      obtain ⟨t', ht'⟩ : ∃ t', t' = t.set ((i + s) % t.length) none := ⟨_, rfl⟩
      have hln : t'.length = t.length := by rw [ht']; simp
      obtain ⟨hsl, hso, hsm, hfl, hpath, hzone⟩ := h.lay H hs hp ht'
      have hpl := Nat.mod_lt (i + s) hn
      have hocc : ∀ j, occ t' j = (occ t j && !decide (j % t.length = (i + s) % t.length)) := fun j => by rw [ht', occ_unset hpl]
      have htop : occ t' (i + m) = false := by rw [hocc, h.top]; rfl
      have hlen : (clearC t' (i + (s + 1)) f).2.length ≤ m - (s + 1) := clearC_len (by rw [show i + (s + 1) + (m - (s + 1)) = i + m by omega]; exact htop)
      have hzo : ∀ u, s < u → u < m → occ t' (i + u) = true := fun u h1 h2 => by
        rw [hocc, h.full u (by omega) h2]
        have : (i + u) % t.length ≠ (i + s) % t.length := fun e => by
          have := off_one (n := t.length) (j := i) (d := u) (e := s) (by omega) (by omega) e
          omega
        simp [this]
      obtain ⟨C, hC⟩ : ∃ C, C = (clearC t' (i + (s + 1)) f).1 := ⟨_, rfl⟩
      have hCl : C.length = t.length := by rw [hC, clearC_length, hln]
      have hfar : far C free (H k) t.length = far t' free (H k) t.length := by
        refine far_eq hfl ?_ (fun e he => ?_)
        · have h1 : pl t' (H k + far t' free (H k) t.length) = none := by
            have : occ t' (slot H t' k) = occ t' (H k + far t' free (H k) t.length) := by unfold slot; rw [occ_mod, hln]
            rw [this] at hso
            unfold occ at hso; simpa using hso
          rw [free_iff]
          rcases clearC_pl t' (i + (s + 1)) f (H k + far t' free (H k) t.length) with h2 | h2
          · rw [hC, h2, h1]
          · rw [hC, h2]
        · rw [free_not, hC, clearC_off (fun u hu e' => hzone e (s + 1 + u) he (by omega) (by omega) (by rw [hln] at e'; rw [show i + (s + 1 + u) = i + (s + 1) + u by omega]; exact e'.symm))]
          exact hpath e he
      have hslot : slot H C k = slot H t' k := by unfold slot; rw [hCl, hln, hfar]
      have hset := clearC_set (t := t') (k := i + (s + 1)) (f := f) (sl := slot H t' k) (x := (k, v)) (fun u hu e => by
        rw [hln] at e
        rcases Nat.lt_or_ge (s + 1 + u) m with h1 | h1
        · have h2 := hzo (s + 1 + u) (by omega) h1
          rw [show i + (s + 1 + u) = i + (s + 1) + u by omega, ← occ_mod, hln, e, hso] at h2
          cases h2
        · have : s + 1 + u = m := by omega
          rw [show i + (s + 1) + u = i + (s + 1 + u) by omega, this] at e
          exact hsm e.symm)
      have hstepM := h.step H hs hp
      rw [← ht'] at hstepM
      have hih := ih (s + 1) _ (by omega) hstepM
      unfold sweep clearC
      rw [hp]
      simp only
      rw [← ht', show i + s + 1 = i + (s + 1) by omega, ← hih]
      unfold layAll
      rw [List.foldl_cons]
      simp only
      rw [show layT H t' k v = t'.set (slot H t' k) (some (k, v)) from rfl, hset, ← hC]
      simp only
      rw [show layT H C k v = C.set (slot H t' k) (some (k, v)) by unfold layT; rw [hslot]]
    · have : s = m := by have := h.s1; omega
      subst this
      have := h.top
      unfold occ at this
      unfold sweep clearC
      cases hp : pl t (i + s) with
      | none => rfl
      | some x => rw [hp] at this; cases this
theorem removeR_eq {t : Tab} (hw : Wf H t) {i : Nat} (hi : i < t.length) (ho : occ t i = true) : removeR H t i = removeT H t i := by
  obtain ⟨m, hm, h⟩ := Mid.start H hw hi ho
  unfold removeR removeT
  exact removeR_sweep H t.length 1 (t.set i none) (by have := h.m1; simp at this; omega) h
end
end Go.Proofs.Ytbhdgeoljlhmcaa.St
