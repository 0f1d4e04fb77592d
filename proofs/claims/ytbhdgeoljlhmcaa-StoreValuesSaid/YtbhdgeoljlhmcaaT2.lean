/- Tables: an entry laid, an entry taken out; plain facts. -/
import Derived.Test.YtbhdgeoljlhmcaaT1
namespace Go.Proofs.Ytbhdgeoljlhmcaa.St
section
variable (H : ByteArray → Nat)
theorem occ_set {t : Tab} {i j : Nat} (hi : i < t.length) (x : ByteArray × Int) : occ (t.set i (some x)) j = (occ t j || decide (j % t.length = i)) := by
  unfold occ
  by_cases h : j % t.length = i
  · subst h
    have : pl (t.set (j % t.length) (some x)) j = some x := by
      rw [← pl_mod]; simp only [List.length_set]; exact pl_set_self hi _
    rw [this]; simp
  · rw [pl_set_ne h]; simp [h]
theorem occ_unset {t : Tab} {i j : Nat} (hi : i < t.length) : occ (t.set i none) j = (occ t j && !decide (j % t.length = i)) := by
  unfold occ
  by_cases h : j % t.length = i
  · subst h
    have : pl (t.set (j % t.length) none) j = none := by
      rw [← pl_mod]; simp only [List.length_set]; exact pl_set_self hi _
    rw [this]; simp
  · rw [pl_set_ne h]; simp [h]
theorem pl_set {t : Tab} {i j : Nat} (hi : i < t.length) (hj : j < t.length) (o : Option (ByteArray × Int)) : pl (t.set i o) j = if j = i then o else pl t j := by
  split
  · rename_i h; subst h; exact pl_set_self hi o
  · rename_i h; exact pl_set_ne (by rw [Nat.mod_eq_of_lt hj]; exact h) o
theorem lay_wf {t : Tab} (hw : Wf H t) {k : ByteArray} (v : Int) (hk : ∀ i v, i < t.length → pl t i ≠ some (k, v)) (hg : ∃ i j, i < t.length ∧ j < t.length ∧ i ≠ j ∧ occ t i = false ∧ occ t j = false) : Wf H (layT H t k v) := by
  obtain ⟨hs, hso, d, hd, hds, hp⟩ := slot_free H hw.gap k
  unfold layT
  refine ⟨fun i k' v' hi h => ?_, fun i j k' v1 v2 hi hj h1 h2 => ?_, ?_⟩
  · simp only [List.length_set] at hi ⊢
    rw [pl_set hs hi] at h
    split at h
    · rename_i e
      simp only [Option.some.injEq, Prod.mk.injEq] at h
      obtain ⟨rfl, rfl⟩ := h
      exact ⟨d, hd, by rw [hds, e], fun e he => by rw [occ_set hs, hp e he]; rfl⟩
    · obtain ⟨d', hd', hdi, hp'⟩ := hw.way i k' v' hi h
      exact ⟨d', hd', hdi, fun e he => by rw [occ_set hs, hp' e he]; rfl⟩
  · simp only [List.length_set] at hi hj
    rw [pl_set hs hi] at h1
    rw [pl_set hs hj] at h2
    split at h1
    · split at h2
      · omega
      · simp only [Option.some.injEq, Prod.mk.injEq] at h1
        obtain ⟨rfl, rfl⟩ := h1
        exact absurd h2 (hk j v2 hj)
    · split at h2
      · simp only [Option.some.injEq, Prod.mk.injEq] at h2
        obtain ⟨rfl, rfl⟩ := h2
        exact absurd h1 (hk i v1 hi)
      · exact hw.one i j k' v1 v2 hi hj h1 h2
  · obtain ⟨i, j, hi, hj, hne, h1, h2⟩ := hg
    by_cases e : i = slot H t k
    · refine ⟨j, by simpa using hj, ?_⟩
      rw [occ_set hs, h2, Nat.mod_eq_of_lt hj]; simp; omega
    · refine ⟨i, by simpa using hi, ?_⟩
      rw [occ_set hs, h1, Nat.mod_eq_of_lt hi]; simp [e]
/-- the entries behind a place, each taken out and laid anew -/
def sweep (t : Tab) (k : Nat) : Nat → Tab
  | 0 => t
  | f + 1 => match pl t k with
    | none => t
    | some (key, v) => sweep (layT H (t.set (k % t.length) none) key v) (k + 1) f
def removeT (t : Tab) (i : Nat) : Tab := sweep H (t.set i none) (i + 1) t.length
/-- while entries behind place i are laid anew: those from offset s to offset m may have gaps on their way, at offsets below s -/
structure Mid (t : Tab) (i s m : Nat) : Prop where
  ln : i < t.length
  s1 : s ≤ m
  m1 : m < t.length
  top : occ t (i + m) = false
  full : ∀ u, s ≤ u → u < m → occ t (i + u) = true
  way : ∀ j k v, j < t.length → pl t j = some (k, v) → ∃ d, d < t.length ∧ (H k + d) % t.length = j ∧ ((∀ e, e < d → occ t (H k + e) = true) ∨ (∃ u, s ≤ u ∧ u < m ∧ (i + u) % t.length = j) ∧ ∀ e, e < d → occ t (H k + e) = true ∨ ∃ u, u < s ∧ (H k + e) % t.length = (i + u) % t.length)
  one : ∀ i j k v v', i < t.length → j < t.length → pl t i = some (k, v) → pl t j = some (k, v') → i = j
theorem Mid.wf {t : Tab} {i m : Nat} (h : Mid H t i m m) : Wf H t :=
  ⟨fun j k v hj hp => by
    obtain ⟨d, hd, hdj, h1 | ⟨⟨u, h2, h3, _⟩, _⟩⟩ := h.way j k v hj hp
    · exact ⟨d, hd, hdj, h1⟩
    · omega, h.one, ⟨(i + m) % t.length, Nat.mod_lt _ (by have := h.ln; omega), by rw [occ_mod]; exact h.top⟩⟩
theorem Mid.start {t : Tab} (hw : Wf H t) {i : Nat} (hi : i < t.length) (ho : occ t i = true) : ∃ m, 1 ≤ m ∧ Mid H (t.set i none) i 1 m := by
  obtain ⟨g, hg, hgo⟩ := hw.gap
  obtain ⟨m0, hm0, hmg⟩ := off_of i hg
  have hm1 : 1 ≤ m0 := by
    rcases Nat.eq_zero_or_pos m0 with h | h
    · subst h; rw [Nat.add_zero, Nat.mod_eq_of_lt hi] at hmg; subst hmg; rw [ho] at hgo; cases hgo
    · exact h
  have hfr : free (pl t (i + 1 + (m0 - 1))) = true := by
    rw [show i + 1 + (m0 - 1) = i + m0 by omega, ← pl_mod, hmg, free_iff]; unfold occ at hgo; simpa using hgo
  obtain ⟨hle, hat⟩ := far_at (t := t) (p := free) (i := i + 1) (f := t.length) (d := m0 - 1) (by omega) hfr
  have hb := far_before (t := t) (p := free) (i := i + 1) (f := t.length)
  obtain ⟨m, hm⟩ : ∃ m, m = far t free (i + 1) t.length + 1 := ⟨_, rfl⟩
  have hmt : occ t (i + m) = false := by
    rw [hm, show i + (far t free (i + 1) t.length + 1) = i + 1 + far t free (i + 1) t.length by omega]
    unfold occ; rw [free_iff.1 hat]; rfl
  have hmf : ∀ u, 1 ≤ u → u < m → occ t (i + u) = true := fun u h1 h2 => by
    have := free_not.1 (hb (u - 1) (by omega))
    rwa [show i + 1 + (u - 1) = i + u by omega] at this
  have hmn : m < t.length := by omega
  have hii : i % t.length = i := Nat.mod_eq_of_lt hi
  refine ⟨m, by omega, by simpa using hi, by omega, by simpa using hmn, by rw [occ_unset hi, hmt]; rfl, fun u h1 h2 => ?_, fun j k v hj hp => ?_, fun a b k v v' ha hb h1 h2 => ?_⟩
  · rw [occ_unset hi, hmf u h1 h2]
    have : (i + u) % t.length ≠ i := fun e => by
      have := off_one (n := t.length) (j := i) (d := u) (e := 0) (by omega) (by omega) (by rw [e, Nat.add_zero, hii])
      omega
    simp [this]
  · simp only [List.length_set] at hj ⊢
    rw [pl_set hi hj] at hp
    split at hp
    · cases hp
    · rename_i hji
      obtain ⟨d, hd, hdj, hpath⟩ := hw.way j k v hj hp
      refine ⟨d, hd, hdj, ?_⟩
      by_cases hex : ∃ e0, e0 < d ∧ (H k + e0) % t.length = i
      · right
        obtain ⟨e0, he0, hei⟩ := hex
        have hstep : ∀ x, (i + x) % t.length = (H k + (e0 + x)) % t.length := fun x => by
          rw [show H k + (e0 + x) = H k + e0 + x by omega, ← Nat.mod_add_mod (H k + e0), hei]
        have hlt : d - e0 < m := by
          rcases Nat.lt_or_ge (d - e0) m with h | h
          · exact h
          · exfalso
            have h3 : occ t (H k + (e0 + m)) = false := by rw [← occ_mod, ← hstep m, occ_mod]; exact hmt
            rcases Nat.lt_or_ge (e0 + m) d with h4 | h4
            · rw [hpath _ h4] at h3; cases h3
            · have : e0 + m = d := by omega
              rw [this, ← occ_mod, hdj] at h3
              rw [occ_iff.2 ⟨k, v, hp⟩] at h3; cases h3
        refine ⟨⟨d - e0, by omega, hlt, ?_⟩, fun e he => ?_⟩
        · rw [hstep, show e0 + (d - e0) = d by omega, hdj]
        · by_cases h5 : (H k + e) % t.length = i
          · exact Or.inr ⟨0, by omega, by rw [h5, Nat.add_zero, hii]⟩
          · left; rw [occ_unset hi, hpath e he]; simp [h5]
      · left
        intro e he
        rw [occ_unset hi, hpath e he]
        have : (H k + e) % t.length ≠ i := fun h => hex ⟨e, he, h⟩
        simp [this]
  · simp only [List.length_set] at ha hb
    rw [pl_set hi ha] at h1
    rw [pl_set hi hb] at h2
    split at h1
    · cases h1
    · split at h2
      · cases h2
      · exact hw.one a b k v v' ha hb h1 h2
/-- what one step does: the entry at offset s is laid anew -/
theorem Mid.home {t : Tab} {i s m : Nat} (h : Mid H t i s m) {k : ByteArray} {v : Int} (hp : pl t (i + s) = some (k, v)) :
    ∃ d, d < t.length ∧ (H k + d) % t.length = (i + s) % t.length ∧ (∀ e, e < d → occ t (H k + e) = true ∨ ∃ u, u < s ∧ (H k + e) % t.length = (i + u) % t.length) := by
  have hn : 0 < t.length := by have := h.ln; omega
  obtain ⟨d, hd, hdj, h1 | ⟨_, h1⟩⟩ := h.way ((i + s) % t.length) k v (Nat.mod_lt _ hn) (by rw [pl_mod]; exact hp)
  · exact ⟨d, hd, hdj, fun e he => Or.inl (h1 e he)⟩
  · exact ⟨d, hd, hdj, h1⟩
theorem Mid.step {t : Tab} {i s m : Nat} (h : Mid H t i s m) (hs : s < m) {k : ByteArray} {v : Int} (hp : pl t (i + s) = some (k, v)) :
    Mid H (layT H (t.set ((i + s) % t.length) none) k v) i (s + 1) m := by
  have hn : 0 < t.length := by have := h.ln; omega
  have hmn := h.m1
  obtain ⟨p, hpp⟩ : ∃ p, p = (i + s) % t.length := ⟨_, rfl⟩
  have hpl : p < t.length := by rw [hpp]; exact Nat.mod_lt _ hn
  have hpk : pl t p = some (k, v) := by rw [hpp, pl_mod]; exact hp
  rw [← hpp]
  have hmp : (i + m) % t.length ≠ p := fun e => by
    rw [hpp] at e
    have := off_one (n := t.length) (j := i) (d := m) (e := s) (by omega) (by omega) e
    omega
  have hgap : ∃ x, x < (t.set p none).length ∧ occ (t.set p none) x = false := ⟨(i + m) % t.length, by simpa using Nat.mod_lt _ hn, by rw [occ_unset hpl, occ_mod, h.top]; rfl⟩
  obtain ⟨hsl, hso, d2, hd2, hds, hpath2⟩ := slot_free H hgap k
  obtain ⟨d, hd, hdj, hpath⟩ := h.home H hp
  simp only [List.length_set] at hsl hd2 hds
  obtain ⟨sl, hsle⟩ : ∃ sl, sl = slot H (t.set p none) k := ⟨_, rfl⟩
  rw [← hsle] at hsl hso hds
  have hle : d2 ≤ d := by
    rcases Nat.lt_or_ge d d2 with hlt | hge
    · have := hpath2 d hlt
      rw [occ_unset hpl] at this
      rw [hdj, ← hpp] at this
      simp at this
    · exact hge
  have hslm : sl ≠ (i + m) % t.length := fun e => by
    rcases Nat.lt_or_ge d2 d with hlt | hge
    · rcases hpath d2 hlt with h1 | ⟨u, hu, h2⟩
      · rw [← occ_mod, hds, e, occ_mod, h.top] at h1; cases h1
      · rw [hds, e] at h2
        have := off_one (n := t.length) (j := i) (d := m) (e := u) (by omega) (by omega) h2
        omega
    · have : d2 = d := by omega
      rw [this, hdj, ← hpp] at hds
      rw [← hds] at e; exact hmp e.symm
  have hocc : ∀ j, occ (layT H (t.set p none) k v) j = ((occ t j && !decide (j % t.length = p)) || decide (j % t.length = sl)) := fun j => by
    unfold layT
    rw [← hsle, occ_set (by simpa using hsl), occ_unset hpl]; simp
  have hpln : ∀ j, j < t.length → pl (layT H (t.set p none) k v) j = if j = sl then some (k, v) else if j = p then none else pl t j := fun j hj => by
    unfold layT
    rw [← hsle, pl_set (by simpa using hsl) (by simpa using hj), pl_set hpl hj]
  have hln : (layT H (t.set p none) k v).length = t.length := by rw [layT_length]; simp
  refine ⟨by rw [hln]; exact h.ln, by omega, by rw [hln]; exact hmn, ?_, fun u h1 h2 => ?_, fun j k1 v1 hj hp1 => ?_, fun a b k1 v1 v2 ha hb h1 h2 => ?_⟩
  · rw [hocc, h.top]; simp; exact fun e => hslm e.symm
  · rw [hocc, h.full u (by omega) h2]
    have : (i + u) % t.length ≠ p := fun e => by
      rw [hpp] at e
      have := off_one (n := t.length) (j := i) (d := u) (e := s) (by omega) (by omega) e
      omega
    simp [this]
  · rw [hln] at hj ⊢
    rw [hpln j hj] at hp1
    split at hp1
    · rename_i e
      simp only [Option.some.injEq, Prod.mk.injEq] at hp1
      obtain ⟨rfl, rfl⟩ := hp1
      refine ⟨d2, hd2, by rw [hds, e], Or.inl fun e' he => ?_⟩
      have := hpath2 e' he
      rw [occ_unset hpl] at this
      rw [hocc, this]; rfl
    · split at hp1
      · cases hp1
      · rename_i hjs hjp
        obtain ⟨d1, hd1, hdj1, hway⟩ := h.way j k1 v1 hj hp1
        refine ⟨d1, hd1, hdj1, ?_⟩
        rcases hway with hl | ⟨⟨u, hu1, hu2, huj⟩, hr⟩
        · by_cases hex : ∃ e0, e0 < d1 ∧ (H k1 + e0) % t.length = p
          · right
            obtain ⟨e0, he0, hei⟩ := hex
            have hstep : ∀ x, (i + (s + x)) % t.length = (H k1 + (e0 + x)) % t.length := fun x => by
              rw [show H k1 + (e0 + x) = H k1 + e0 + x by omega, ← Nat.mod_add_mod (H k1 + e0), hei, hpp, Nat.mod_add_mod, Nat.add_assoc]
            have hlt : s + (d1 - e0) < m := by
              rcases Nat.lt_or_ge (s + (d1 - e0)) m with h' | h'
              · exact h'
              · exfalso
                have h3 : occ t (H k1 + (e0 + (m - s))) = false := by
                  rw [← occ_mod, ← hstep (m - s), occ_mod, show i + (s + (m - s)) = i + m by omega]; exact h.top
                rcases Nat.lt_or_ge (e0 + (m - s)) d1 with h4 | h4
                · rw [hl _ h4] at h3; cases h3
                · have : e0 + (m - s) = d1 := by omega
                  rw [this, ← occ_mod, hdj1] at h3
                  rw [occ_iff.2 ⟨k1, v1, hp1⟩] at h3; cases h3
            refine ⟨⟨s + (d1 - e0), by omega, hlt, ?_⟩, fun e he => ?_⟩
            · rw [hstep, show e0 + (d1 - e0) = d1 by omega, hdj1]
            · by_cases h5 : (H k1 + e) % t.length = p
              · exact Or.inr ⟨s, by omega, by rw [h5, hpp]⟩
              · left; rw [hocc, hl e he]; simp [h5]
          · left
            intro e he
            have : (H k1 + e) % t.length ≠ p := fun h' => hex ⟨e, he, h'⟩
            rw [hocc, hl e he]; simp [this]
        · right
          have hus : u ≠ s := fun e => hjp (by rw [← huj, e, hpp])
          refine ⟨⟨u, by omega, hu2, huj⟩, fun e he => ?_⟩
          by_cases h5 : (H k1 + e) % t.length = p
          · exact Or.inr ⟨s, by omega, by rw [h5, hpp]⟩
          · rcases hr e he with h6 | ⟨u', h6, h7⟩
            · left; rw [hocc, h6]; simp [h5]
            · exact Or.inr ⟨u', by omega, h7⟩
  · rw [hln] at ha hb
    rw [hpln a ha] at h1
    rw [hpln b hb] at h2
    have cross : ∀ x w, x < t.length → x ≠ p → pl t x = some (k, w) → False := fun x w hx hne hx2 => hne (h.one x p k w v hx hpl hx2 hpk)
    split at h1
    · split at h2
      · omega
      · split at h2
        · cases h2
        · simp only [Option.some.injEq, Prod.mk.injEq] at h1
          obtain ⟨rfl, rfl⟩ := h1
          rename_i hq
          exact (cross b v2 hb hq h2).elim
    · split at h1
      · cases h1
      · rename_i hap
        split at h2
        · simp only [Option.some.injEq, Prod.mk.injEq] at h2
          obtain ⟨rfl, rfl⟩ := h2
          exact (cross a v1 ha hap h1).elim
        · split at h2
          · cases h2
          · exact h.one a b k1 v1 v2 ha hb h1 h2
theorem sweep_wf {i m : Nat} : ∀ (f s : Nat) (t : Tab), m - s ≤ f → Mid H t i s m → Wf H (sweep H t (i + s) f) := by
  intro f
  induction f with
  | zero =>
    intro s t hf h
    have : s = m := by have := h.s1; omega
    subst this
    exact h.wf
  | succ f ih =>
    intro s t hf h
    unfold sweep
    rcases Nat.lt_or_ge s m with hs | hs
    · obtain ⟨k, v, hp⟩ := occ_iff.1 (h.full s (Nat.le_refl _) hs)
      rw [hp]
      exact ih (s + 1) _ (by omega) (h.step H hs hp)
    · have : s = m := by have := h.s1; omega
      subst this
      have := h.top
      unfold occ at this
      cases hp : pl t (i + s) with
      | none => exact h.wf
      | some x => rw [hp] at this; cases this
theorem remove_wf {t : Tab} (hw : Wf H t) {i : Nat} (hi : i < t.length) (ho : occ t i = true) : Wf H (removeT H t i) := by
  obtain ⟨m, hm, h⟩ := Mid.start H hw hi ho
  unfold removeT
  exact sweep_wf H t.length 1 (t.set i none) (by have := h.m1; simp at this; omega) h
theorem sweep_length (t : Tab) (k f : Nat) : (sweep H t k f).length = t.length := by
  induction f generalizing t k with
  | zero => rfl
  | succ f ih =>
    unfold sweep
    split
    · rfl
    · rw [ih, layT_length]; simp
theorem removeT_length (t : Tab) (i : Nat) : (removeT H t i).length = t.length := by unfold removeT; rw [sweep_length]; simp
/-- an entry is there -/
def Has (t : Tab) (k : ByteArray) (v : Int) : Prop := ∃ i, i < t.length ∧ pl t i = some (k, v)
theorem lay_has {t : Tab} (hg : ∃ i, i < t.length ∧ occ t i = false) (k : ByteArray) (v : Int) (k' : ByteArray) (v' : Int) : Has (layT H t k v) k' v' ↔ (k' = k ∧ v' = v) ∨ Has t k' v' := by
  obtain ⟨hs, hso, _⟩ := slot_free H hg k
  unfold Has
  rw [layT_length]
  unfold layT
  constructor
  · rintro ⟨i, hi, h⟩
    rw [pl_set hs hi] at h
    split at h
    · simp only [Option.some.injEq, Prod.mk.injEq] at h
      exact Or.inl ⟨h.1.symm, h.2.symm⟩
    · exact Or.inr ⟨i, hi, h⟩
  · rintro (⟨rfl, rfl⟩ | ⟨i, hi, h⟩)
    · exact ⟨_, hs, pl_set_self hs _⟩
    · refine ⟨i, hi, ?_⟩
      rw [pl_set hs hi, if_neg]
      · exact h
      · rintro rfl
        rw [occ_iff.2 ⟨k', v', h⟩] at hso; cases hso
theorem unset_has {t : Tab} (h1 : ∀ i j k v v', i < t.length → j < t.length → pl t i = some (k, v) → pl t j = some (k, v') → i = j) {i : Nat} (hi : i < t.length) {k : ByteArray} {v : Int} (hp : pl t i = some (k, v)) (k' : ByteArray) (v' : Int) : Has (t.set i none) k' v' ↔ Has t k' v' ∧ k' ≠ k := by
  unfold Has
  simp only [List.length_set]
  constructor
  · rintro ⟨j, hj, h⟩
    rw [pl_set hi hj] at h
    split at h
    · cases h
    · rename_i hne
      refine ⟨⟨j, hj, h⟩, ?_⟩
      rintro rfl
      exact hne (h1 _ _ _ _ _ hj hi h hp)
  · rintro ⟨⟨j, hj, h⟩, hne⟩
    refine ⟨j, hj, ?_⟩
    rw [pl_set hi hj, if_neg]
    · exact h
    · rintro rfl
      rw [hp] at h
      simp only [Option.some.injEq, Prod.mk.injEq] at h
      exact hne h.1.symm
theorem sweep_has {i m : Nat} (k' : ByteArray) (v' : Int) : ∀ (f s : Nat) (t : Tab), Mid H t i s m → (Has (sweep H t (i + s) f) k' v' ↔ Has t k' v') := by
  intro f
  induction f with
  | zero => intro s t _; rfl
  | succ f ih =>
    intro s t h
    unfold sweep
    rcases Nat.lt_or_ge s m with hs | hs
    · obtain ⟨k, v, hp⟩ := occ_iff.1 (h.full s (Nat.le_refl _) hs)
      rw [hp]
      simp only
      have hn : 0 < t.length := by have := h.ln; omega
      have hpl := Nat.mod_lt (i + s) hn
      have hpk : pl t ((i + s) % t.length) = some (k, v) := by rw [pl_mod]; exact hp
      have hgap : ∃ x, x < (t.set ((i + s) % t.length) none).length ∧ occ (t.set ((i + s) % t.length) none) x = false :=
        ⟨(i + s) % t.length, by simpa using hpl, by rw [occ_unset hpl]; simp⟩
      rw [show i + s + 1 = i + (s + 1) by omega, ih (s + 1) _ (h.step H hs hp), lay_has H hgap, unset_has h.one hpl hpk]
      constructor
      · rintro (⟨rfl, rfl⟩ | h)
        · exact ⟨_, hpl, hpk⟩
        · exact h.1
      · intro hh
        by_cases e : k' = k
        · subst e
          obtain ⟨j, hj, hjp⟩ := hh
          have := h.one _ _ _ _ _ hj hpl hjp hpk
          subst this
          rw [hpk] at hjp
          simp only [Option.some.injEq, Prod.mk.injEq, true_and] at hjp
          exact Or.inl ⟨rfl, hjp.symm⟩
        · exact Or.inr ⟨hh, e⟩
    · have : s = m := by have := h.s1; omega
      subst this
      have := h.top
      unfold occ at this
      cases hp : pl t (i + s) with
      | none => rfl
      | some x => rw [hp] at this; cases this
theorem remove_has {t : Tab} (hw : Wf H t) {i : Nat} (hi : i < t.length) {k : ByteArray} {v : Int} (hp : pl t i = some (k, v)) (k' : ByteArray) (v' : Int) : Has (removeT H t i) k' v' ↔ Has t k' v' ∧ k' ≠ k := by
  obtain ⟨m, hm, h⟩ := Mid.start H hw hi (occ_iff.2 ⟨k, v, hp⟩)
  unfold removeT
  rw [sweep_has H k' v' _ 1 _ h, unset_has hw.one hi hp]
/-- the entries behind a place, all taken out, in order -/
def clearC (t : Tab) (k : Nat) : Nat → Tab × List (ByteArray × Int)
  | 0 => (t, [])
  | f + 1 => match pl t k with
    | none => (t, [])
    | some e => ((clearC (t.set (k % t.length) none) (k + 1) f).1, e :: (clearC (t.set (k % t.length) none) (k + 1) f).2)
def layAll (t : Tab) (l : List (ByteArray × Int)) : Tab := l.foldl (fun t e => layT H t e.1 e.2) t
def removeR (t : Tab) (i : Nat) : Tab := layAll H (clearC (t.set i none) (i + 1) t.length).1 (clearC (t.set i none) (i + 1) t.length).2
end
end Go.Proofs.Ytbhdgeoljlhmcaa.St
