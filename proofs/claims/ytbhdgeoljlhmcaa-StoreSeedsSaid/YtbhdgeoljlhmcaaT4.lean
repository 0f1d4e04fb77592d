/- T1, T2, T3, T4 in one text. -/
/- Tables with open addressing: an entry lies at the first free place behind its home; plain facts. -/
namespace Go.Proofs.Ytbhdgeoljlhmcaa.St
section
variable (H : ByteArray → Nat)
/-- a table: at each place nothing, or a key and its value -/
abbrev Tab := List (Option (ByteArray × Int))
/-- what lies at a place, counted round the table -/
def pl (t : Tab) (i : Nat) : Option (ByteArray × Int) := (t[i % t.length]?).join
def occ (t : Tab) (i : Nat) : Bool := (pl t i).isSome
/-- how far the first place from i on is that holds nothing, or the key -/
def far (t : Tab) (p : Option (ByteArray × Int) → Bool) (i : Nat) : Nat → Nat
  | 0 => 0
  | f + 1 => if p (pl t i) then 0 else far t p (i + 1) f + 1
theorem far_le (t : Tab) (p : Option (ByteArray × Int) → Bool) (i f : Nat) : far t p i f ≤ f := by
  induction f generalizing i with
  | zero => simp [far]
  | succ f ih => simp only [far]; split; omega; have := ih (i + 1); omega
theorem far_before {t : Tab} {p : Option (ByteArray × Int) → Bool} {i f : Nat} : ∀ e, e < far t p i f → p (pl t (i + e)) = false := by
  induction f generalizing i with
  | zero => intro e he; simp [far] at he
  | succ f ih =>
    intro e he
    simp only [far] at he
    split at he
    · omega
    · rename_i hp
      rcases e with _ | e
      · simpa using hp
      · have := ih (i := i + 1) e (by omega)
        rwa [show i + (e + 1) = i + 1 + e by omega]
theorem far_at {t : Tab} {p : Option (ByteArray × Int) → Bool} {i f d : Nat} (hd : d < f) (h : p (pl t (i + d)) = true) : far t p i f ≤ d ∧ p (pl t (i + far t p i f)) = true := by
  induction f generalizing i d with
  | zero => omega
  | succ f ih =>
    simp only [far]
    split
    · rename_i hp; exact ⟨by omega, by simpa using hp⟩
    · rename_i hp
      rcases d with _ | d
      · exact absurd h hp
      · have := ih (i := i + 1) (d := d) (by omega) (by rwa [show i + 1 + d = i + (d + 1) by omega])
        refine ⟨by omega, ?_⟩
        rw [show i + (far t p (i + 1) f + 1) = i + 1 + far t p (i + 1) f by omega]; exact this.2
theorem far_eq {t : Tab} {p : Option (ByteArray × Int) → Bool} {i f d : Nat} (hd : d < f) (h : p (pl t (i + d)) = true) (hb : ∀ e, e < d → p (pl t (i + e)) = false) : far t p i f = d := by
  have h1 := far_at hd h
  rcases Nat.lt_or_ge (far t p i f) d with h2 | h2
  · rw [hb _ h2] at h1; exact absurd h1.2 (by simp)
  · omega
def free (o : Option (ByteArray × Int)) : Bool := !o.isSome
theorem free_iff {o : Option (ByteArray × Int)} : free o = true ↔ o = none := by unfold free; cases o <;> simp
theorem free_not {o : Option (ByteArray × Int)} : free o = false ↔ o.isSome = true := by unfold free; cases o <;> simp
def hit (k : ByteArray) (o : Option (ByteArray × Int)) : Bool := match o with | none => true | some (k', _) => decide (k' = k)
/-- the place where an entry is laid -/
def slot (t : Tab) (k : ByteArray) : Nat := (H k + far t free (H k) t.length) % t.length
def layT (t : Tab) (k : ByteArray) (v : Int) : Tab := t.set (slot H t k) (some (k, v))
/-- the place where a key is looked for -/
def seek (t : Tab) (k : ByteArray) : Nat := (H k + far t (hit k) (H k) t.length) % t.length
def findT (t : Tab) (k : ByteArray) : Option Nat := if occ t (seek H t k) then some (seek H t k) else none
theorem layT_length (t : Tab) (k : ByteArray) (v : Int) : (layT H t k v).length = t.length := by unfold layT; simp
/-- every entry is reached from its home without a gap; keys are there once; a place is free -/
structure Wf (t : Tab) : Prop where
  way : ∀ i k v, i < t.length → pl t i = some (k, v) → ∃ d, d < t.length ∧ (H k + d) % t.length = i ∧ ∀ e, e < d → occ t (H k + e) = true
  one : ∀ i j k v v', i < t.length → j < t.length → pl t i = some (k, v) → pl t j = some (k, v') → i = j
  gap : ∃ i, i < t.length ∧ occ t i = false
theorem pl_mod (t : Tab) (i : Nat) : pl t (i % t.length) = pl t i := by unfold pl; rw [Nat.mod_mod]
theorem occ_mod (t : Tab) (i : Nat) : occ t (i % t.length) = occ t i := by unfold occ; rw [pl_mod]
theorem off_of {n i : Nat} (j : Nat) (hi : i < n) : ∃ d, d < n ∧ (j + d) % n = i := by
  have hj := Nat.mod_lt j (show 0 < n by omega)
  by_cases h : j % n ≤ i
  · refine ⟨i - j % n, by omega, ?_⟩
    rw [← Nat.mod_add_mod, show j % n + (i - j % n) = i by omega, Nat.mod_eq_of_lt hi]
  · refine ⟨i + n - j % n, by omega, ?_⟩
    rw [← Nat.mod_add_mod, show j % n + (i + n - j % n) = i + n by omega, Nat.add_mod_right, Nat.mod_eq_of_lt hi]
theorem off_one {n j d e : Nat} (hd : d < n) (he : e < n) (h : (j + d) % n = (j + e) % n) : d = e := by
  have key : ∀ d e, d ≤ e → e < n → (j + d) % n = (j + e) % n → d = e := by
    intro d e hle he h
    have h0 : (e - d) % n = 0 := by
      have := Nat.sub_mod_eq_zero_of_mod_eq h.symm
      rwa [show j + e - (j + d) = e - d by omega] at this
    rw [Nat.mod_eq_of_lt (by omega)] at h0
    omega
  rcases Nat.le_total d e with hle | hle
  · exact key d e hle he h
  · exact (key e d hle hd h.symm).symm
theorem occ_iff {t : Tab} {i : Nat} : occ t i = true ↔ ∃ k v, pl t i = some (k, v) := by
  unfold occ
  cases h : pl t i with
  | none => simp
  | some x => obtain ⟨k, v⟩ := x; simp
/-- the place where an entry is laid is free, and the way to it is full -/
theorem slot_free {t : Tab} (hg : ∃ i, i < t.length ∧ occ t i = false) (k : ByteArray) :
    slot H t k < t.length ∧ occ t (slot H t k) = false ∧ ∃ d, d < t.length ∧ (H k + d) % t.length = slot H t k ∧ ∀ e, e < d → occ t (H k + e) = true := by
  obtain ⟨i, hi, ho⟩ := hg
  obtain ⟨d, hd, hdi⟩ := off_of (H k) hi
  have hf : free (pl t (H k + d)) = true := by
    rw [← pl_mod, hdi]; unfold free; unfold occ at ho; simp [ho]
  have h1 := far_at hd hf
  have hb := far_before (t := t) (p := free) (i := H k) (f := t.length)
  refine ⟨Nat.mod_lt _ (by omega), ?_, far t free (H k) t.length, by omega, rfl, fun e he => ?_⟩
  · unfold slot
    rw [occ_mod]; unfold occ; rw [free_iff.1 h1.2]; rfl
  · exact free_not.1 (hb e he)
theorem pl_set_self {t : Tab} {i : Nat} (hi : i < t.length) (o : Option (ByteArray × Int)) : pl (t.set i o) i = o := by
  unfold pl; simp [Nat.mod_eq_of_lt hi, List.getElem?_set_self hi]
theorem pl_set_ne {t : Tab} {i j : Nat} (hj : j % t.length ≠ i) (o : Option (ByteArray × Int)) : pl (t.set i o) j = pl t j := by
  unfold pl; simp [List.getElem?_set_ne (fun e => hj e.symm)]
/-- a key that is there is found, and only such a one -/
theorem find_some {t : Tab} (hw : Wf H t) {k : ByteArray} {v : Int} {i : Nat} (hi : i < t.length) (h : pl t i = some (k, v)) : findT H t k = some i := by
  obtain ⟨d, hd, hdi, hp⟩ := hw.way i k v hi h
  have hat : hit k (pl t (H k + d)) = true := by rw [← pl_mod, hdi, h]; simp [hit]
  have hfar : far t (hit k) (H k) t.length = d := far_eq hd hat (fun e he => by
    obtain ⟨k', v', he'⟩ := occ_iff.1 (hp e he)
    rw [he']
    simp only [hit, decide_eq_false_iff_not]
    rintro rfl
    have h2 : pl t ((H k' + e) % t.length) = some (k', v') := by rw [pl_mod]; exact he'
    have := hw.one i ((H k' + e) % t.length) k' v v' hi (Nat.mod_lt _ (by omega)) h h2
    rw [← hdi] at this
    have := off_one hd (by omega) this
    omega)
  unfold findT seek
  rw [hfar, hdi]
  have : occ t i = true := occ_iff.2 ⟨k, v, h⟩
  rw [if_pos this]
theorem find_none {t : Tab} (hg : ∃ i, i < t.length ∧ occ t i = false) {k : ByteArray} (h : ∀ i v, i < t.length → pl t i ≠ some (k, v)) : findT H t k = none := by
  obtain ⟨i, hi, ho⟩ := hg
  obtain ⟨d, hd, hdi⟩ := off_of (H k) hi
  have hf : hit k (pl t (H k + d)) = true := by
    rw [← pl_mod, hdi]; unfold occ at ho; cases hp : pl t i with
    | none => rfl
    | some x => rw [hp] at ho; cases ho
  have h1 := (far_at hd hf).2
  unfold findT
  have hs : seek H t k < t.length := Nat.mod_lt _ (by omega)
  have hp : hit k (pl t (seek H t k)) = true := by unfold seek; rw [pl_mod]; exact h1
  rw [if_neg]
  intro hocc
  obtain ⟨k', v', he⟩ := occ_iff.1 hocc
  rw [he] at hp
  simp only [hit, decide_eq_true_eq] at hp
  subst hp
  exact h _ _ hs he
theorem find_of {t : Tab} (hg : ∃ i, i < t.length ∧ occ t i = false) {k : ByteArray} {i : Nat} (h : findT H t k = some i) : i < t.length ∧ ∃ v, pl t i = some (k, v) := by
  unfold findT at h
  split at h
  · rename_i hocc
    simp only [Option.some.injEq] at h
    subst h
    have hg' := hg
    obtain ⟨j, hj, _⟩ := hg'
    have hs : seek H t k < t.length := Nat.mod_lt _ (by omega)
    refine ⟨hs, ?_⟩
    obtain ⟨k', v', he⟩ := occ_iff.1 hocc
    obtain ⟨i, hi, ho⟩ := hg
    obtain ⟨d, hd, hdi⟩ := off_of (H k) hi
    have hf : hit k (pl t (H k + d)) = true := by
      rw [← pl_mod, hdi]; unfold occ at ho; cases hp : pl t i with
      | none => rfl
      | some x => rw [hp] at ho; cases ho
    have h1 := (far_at hd hf).2
    have hp : hit k (pl t (seek H t k)) = true := by unfold seek; rw [pl_mod]; exact h1
    rw [he] at hp
    simp only [hit, decide_eq_true_eq] at hp
    subst hp
    exact ⟨v', he⟩
  · cases h
end
end Go.Proofs.Ytbhdgeoljlhmcaa.St
/- Tables: an entry laid, an entry taken out; plain facts. -/
namespace Go.Proofs.Ytbhdgeoljlhmcaa.St
section
variable (H : ByteArray → Nat)
theorem occ_set {t : Tab} {i j : Nat} (hi : i < t.length) (x : ByteArray × Int) : occ (t.set i (some x)) j = (occ t j || decide (j % t.length = i)) := by
  unfold occ
  by_cases h : j % t.length = i
  · subst h
    have : pl (t.set (j % t.length) (some x)) j = some x := by
      rw [← pl_mod]; simp only [List.length_set]; exact pl_set_self hi _
    rw [this]; simp
  · rw [pl_set_ne h]; simp [h]
theorem occ_unset {t : Tab} {i j : Nat} (hi : i < t.length) : occ (t.set i none) j = (occ t j && !decide (j % t.length = i)) := by
  unfold occ
  by_cases h : j % t.length = i
  · subst h
    have : pl (t.set (j % t.length) none) j = none := by
      rw [← pl_mod]; simp only [List.length_set]; exact pl_set_self hi _
    rw [this]; simp
  · rw [pl_set_ne h]; simp [h]
theorem pl_set {t : Tab} {i j : Nat} (hi : i < t.length) (hj : j < t.length) (o : Option (ByteArray × Int)) : pl (t.set i o) j = if j = i then o else pl t j := by
  split
  · rename_i h; subst h; exact pl_set_self hi o
  · rename_i h; exact pl_set_ne (by rw [Nat.mod_eq_of_lt hj]; exact h) o
theorem lay_wf {t : Tab} (hw : Wf H t) {k : ByteArray} (v : Int) (hk : ∀ i v, i < t.length → pl t i ≠ some (k, v)) (hg : ∃ i j, i < t.length ∧ j < t.length ∧ i ≠ j ∧ occ t i = false ∧ occ t j = false) : Wf H (layT H t k v) := by
  obtain ⟨hs, hso, d, hd, hds, hp⟩ := slot_free H hw.gap k
  unfold layT
  refine ⟨fun i k' v' hi h => ?_, fun i j k' v1 v2 hi hj h1 h2 => ?_, ?_⟩
  · simp only [List.length_set] at hi ⊢
    rw [pl_set hs hi] at h
    split at h
    · rename_i e
      simp only [Option.some.injEq, Prod.mk.injEq] at h
      obtain ⟨rfl, rfl⟩ := h
      exact ⟨d, hd, by rw [hds, e], fun e he => by rw [occ_set hs, hp e he]; rfl⟩
    · obtain ⟨d', hd', hdi, hp'⟩ := hw.way i k' v' hi h
      exact ⟨d', hd', hdi, fun e he => by rw [occ_set hs, hp' e he]; rfl⟩
  · simp only [List.length_set] at hi hj
    rw [pl_set hs hi] at h1
    rw [pl_set hs hj] at h2
    split at h1
    · split at h2
      · omega
      · simp only [Option.some.injEq, Prod.mk.injEq] at h1
        obtain ⟨rfl, rfl⟩ := h1
        exact absurd h2 (hk j v2 hj)
    · split at h2
      · simp only [Option.some.injEq, Prod.mk.injEq] at h2
        obtain ⟨rfl, rfl⟩ := h2
        exact absurd h1 (hk i v1 hi)
      · exact hw.one i j k' v1 v2 hi hj h1 h2
  · obtain ⟨i, j, hi, hj, hne, h1, h2⟩ := hg
    by_cases e : i = slot H t k
    · refine ⟨j, by simpa using hj, ?_⟩
      rw [occ_set hs, h2, Nat.mod_eq_of_lt hj]; simp; omega
    · refine ⟨i, by simpa using hi, ?_⟩
      rw [occ_set hs, h1, Nat.mod_eq_of_lt hi]; simp [e]
/-- the entries behind a place, each taken out and laid anew -/
def sweep (t : Tab) (k : Nat) : Nat → Tab
  | 0 => t
  | f + 1 => match pl t k with
    | none => t
    | some (key, v) => sweep (layT H (t.set (k % t.length) none) key v) (k + 1) f
def removeT (t : Tab) (i : Nat) : Tab := sweep H (t.set i none) (i + 1) t.length
/-- while entries behind place i are laid anew: those from offset s to offset m may have gaps on their way, at offsets below s -/
structure Mid (t : Tab) (i s m : Nat) : Prop where
  ln : i < t.length
  s1 : s ≤ m
  m1 : m < t.length
  top : occ t (i + m) = false
  full : ∀ u, s ≤ u → u < m → occ t (i + u) = true
  way : ∀ j k v, j < t.length → pl t j = some (k, v) → ∃ d, d < t.length ∧ (H k + d) % t.length = j ∧ ((∀ e, e < d → occ t (H k + e) = true) ∨ (∃ u, s ≤ u ∧ u < m ∧ (i + u) % t.length = j) ∧ ∀ e, e < d → occ t (H k + e) = true ∨ ∃ u, u < s ∧ (H k + e) % t.length = (i + u) % t.length)
  one : ∀ i j k v v', i < t.length → j < t.length → pl t i = some (k, v) → pl t j = some (k, v') → i = j
theorem Mid.wf {t : Tab} {i m : Nat} (h : Mid H t i m m) : Wf H t :=
  ⟨fun j k v hj hp => by
    obtain ⟨d, hd, hdj, h1 | ⟨⟨u, h2, h3, _⟩, _⟩⟩ := h.way j k v hj hp
    · exact ⟨d, hd, hdj, h1⟩
    · omega, h.one, ⟨(i + m) % t.length, Nat.mod_lt _ (by have := h.ln; omega), by rw [occ_mod]; exact h.top⟩⟩
theorem Mid.start {t : Tab} (hw : Wf H t) {i : Nat} (hi : i < t.length) (ho : occ t i = true) : ∃ m, 1 ≤ m ∧ Mid H (t.set i none) i 1 m := by
  obtain ⟨g, hg, hgo⟩ := hw.gap
  obtain ⟨m0, hm0, hmg⟩ := off_of i hg
  have hm1 : 1 ≤ m0 := by
    rcases Nat.eq_zero_or_pos m0 with h | h
    · subst h; rw [Nat.add_zero, Nat.mod_eq_of_lt hi] at hmg; subst hmg; rw [ho] at hgo; cases hgo
    · exact h
  have hfr : free (pl t (i + 1 + (m0 - 1))) = true := by
    rw [show i + 1 + (m0 - 1) = i + m0 by omega, ← pl_mod, hmg, free_iff]; unfold occ at hgo; simpa using hgo
  obtain ⟨hle, hat⟩ := far_at (t := t) (p := free) (i := i + 1) (f := t.length) (d := m0 - 1) (by omega) hfr
  have hb := far_before (t := t) (p := free) (i := i + 1) (f := t.length)
  obtain ⟨m, hm⟩ : ∃ m, m = far t free (i + 1) t.length + 1 := ⟨_, rfl⟩
  have hmt : occ t (i + m) = false := by
    rw [hm, show i + (far t free (i + 1) t.length + 1) = i + 1 + far t free (i + 1) t.length by omega]
    unfold occ; rw [free_iff.1 hat]; rfl
  have hmf : ∀ u, 1 ≤ u → u < m → occ t (i + u) = true := fun u h1 h2 => by
    have := free_not.1 (hb (u - 1) (by omega))
    rwa [show i + 1 + (u - 1) = i + u by omega] at this
  have hmn : m < t.length := by omega
  have hii : i % t.length = i := Nat.mod_eq_of_lt hi
  refine ⟨m, by omega, by simpa using hi, by omega, by simpa using hmn, by rw [occ_unset hi, hmt]; rfl, fun u h1 h2 => ?_, fun j k v hj hp => ?_, fun a b k v v' ha hb h1 h2 => ?_⟩
  · rw [occ_unset hi, hmf u h1 h2]
    have : (i + u) % t.length ≠ i := fun e => by
      have := off_one (n := t.length) (j := i) (d := u) (e := 0) (by omega) (by omega) (by rw [e, Nat.add_zero, hii])
      omega
    simp [this]
  · simp only [List.length_set] at hj ⊢
    rw [pl_set hi hj] at hp
    split at hp
    · cases hp
    · rename_i hji
      obtain ⟨d, hd, hdj, hpath⟩ := hw.way j k v hj hp
      refine ⟨d, hd, hdj, ?_⟩
      by_cases hex : ∃ e0, e0 < d ∧ (H k + e0) % t.length = i
      · right
        obtain ⟨e0, he0, hei⟩ := hex
        have hstep : ∀ x, (i + x) % t.length = (H k + (e0 + x)) % t.length := fun x => by
          rw [show H k + (e0 + x) = H k + e0 + x by omega, ← Nat.mod_add_mod (H k + e0), hei]
        have hlt : d - e0 < m := by
          rcases Nat.lt_or_ge (d - e0) m with h | h
          · exact h
          · exfalso
            have h3 : occ t (H k + (e0 + m)) = false := by rw [← occ_mod, ← hstep m, occ_mod]; exact hmt
            rcases Nat.lt_or_ge (e0 + m) d with h4 | h4
            · rw [hpath _ h4] at h3; cases h3
            · have : e0 + m = d := by omega
              rw [this, ← occ_mod, hdj] at h3
              rw [occ_iff.2 ⟨k, v, hp⟩] at h3; cases h3
        refine ⟨⟨d - e0, by omega, hlt, ?_⟩, fun e he => ?_⟩
        · rw [hstep, show e0 + (d - e0) = d by omega, hdj]
        · by_cases h5 : (H k + e) % t.length = i
          · exact Or.inr ⟨0, by omega, by rw [h5, Nat.add_zero, hii]⟩
          · left; rw [occ_unset hi, hpath e he]; simp [h5]
      · left
        intro e he
        rw [occ_unset hi, hpath e he]
        have : (H k + e) % t.length ≠ i := fun h => hex ⟨e, he, h⟩
        simp [this]
  · simp only [List.length_set] at ha hb
    rw [pl_set hi ha] at h1
    rw [pl_set hi hb] at h2
    split at h1
    · cases h1
    · split at h2
      · cases h2
      · exact hw.one a b k v v' ha hb h1 h2
/-- what one step does: the entry at offset s is laid anew -/
theorem Mid.home {t : Tab} {i s m : Nat} (h : Mid H t i s m) {k : ByteArray} {v : Int} (hp : pl t (i + s) = some (k, v)) :
    ∃ d, d < t.length ∧ (H k + d) % t.length = (i + s) % t.length ∧ (∀ e, e < d → occ t (H k + e) = true ∨ ∃ u, u < s ∧ (H k + e) % t.length = (i + u) % t.length) := by
  have hn : 0 < t.length := by have := h.ln; omega
  obtain ⟨d, hd, hdj, h1 | ⟨_, h1⟩⟩ := h.way ((i + s) % t.length) k v (Nat.mod_lt _ hn) (by rw [pl_mod]; exact hp)
  · exact ⟨d, hd, hdj, fun e he => Or.inl (h1 e he)⟩
  · exact ⟨d, hd, hdj, h1⟩
theorem Mid.step {t : Tab} {i s m : Nat} (h : Mid H t i s m) (hs : s < m) {k : ByteArray} {v : Int} (hp : pl t (i + s) = some (k, v)) :
    Mid H (layT H (t.set ((i + s) % t.length) none) k v) i (s + 1) m := by
  have hn : 0 < t.length := by have := h.ln; omega
  have hmn := h.m1
  obtain ⟨p, hpp⟩ : ∃ p, p = (i + s) % t.length := ⟨_, rfl⟩
  have hpl : p < t.length := by rw [hpp]; exact Nat.mod_lt _ hn
  have hpk : pl t p = some (k, v) := by rw [hpp, pl_mod]; exact hp
  rw [← hpp]
  have hmp : (i + m) % t.length ≠ p := fun e => by
    rw [hpp] at e
    have := off_one (n := t.length) (j := i) (d := m) (e := s) (by omega) (by omega) e
    omega
  have hgap : ∃ x, x < (t.set p none).length ∧ occ (t.set p none) x = false := ⟨(i + m) % t.length, by simpa using Nat.mod_lt _ hn, by rw [occ_unset hpl, occ_mod, h.top]; rfl⟩
  obtain ⟨hsl, hso, d2, hd2, hds, hpath2⟩ := slot_free H hgap k
  obtain ⟨d, hd, hdj, hpath⟩ := h.home H hp
  simp only [List.length_set] at hsl hd2 hds
  obtain ⟨sl, hsle⟩ : ∃ sl, sl = slot H (t.set p none) k := ⟨_, rfl⟩
  rw [← hsle] at hsl hso hds
  have hle : d2 ≤ d := by
    rcases Nat.lt_or_ge d d2 with hlt | hge
    · have := hpath2 d hlt
      rw [occ_unset hpl] at this
      rw [hdj, ← hpp] at this
      simp at this
    · exact hge
  have hslm : sl ≠ (i + m) % t.length := fun e => by
    rcases Nat.lt_or_ge d2 d with hlt | hge
    · rcases hpath d2 hlt with h1 | ⟨u, hu, h2⟩
      · rw [← occ_mod, hds, e, occ_mod, h.top] at h1; cases h1
      · rw [hds, e] at h2
        have := off_one (n := t.length) (j := i) (d := m) (e := u) (by omega) (by omega) h2
        omega
    · have : d2 = d := by omega
      rw [this, hdj, ← hpp] at hds
      rw [← hds] at e; exact hmp e.symm
  have hocc : ∀ j, occ (layT H (t.set p none) k v) j = ((occ t j && !decide (j % t.length = p)) || decide (j % t.length = sl)) := fun j => by
    unfold layT
    rw [← hsle, occ_set (by simpa using hsl), occ_unset hpl]; simp
  have hpln : ∀ j, j < t.length → pl (layT H (t.set p none) k v) j = if j = sl then some (k, v) else if j = p then none else pl t j := fun j hj => by
    unfold layT
    rw [← hsle, pl_set (by simpa using hsl) (by simpa using hj), pl_set hpl hj]
  have hln : (layT H (t.set p none) k v).length = t.length := by rw [layT_length]; simp
  refine ⟨by rw [hln]; exact h.ln, by omega, by rw [hln]; exact hmn, ?_, fun u h1 h2 => ?_, fun j k1 v1 hj hp1 => ?_, fun a b k1 v1 v2 ha hb h1 h2 => ?_⟩
  · rw [hocc, h.top]; simp; exact fun e => hslm e.symm
  · rw [hocc, h.full u (by omega) h2]
    have : (i + u) % t.length ≠ p := fun e => by
      rw [hpp] at e
      have := off_one (n := t.length) (j := i) (d := u) (e := s) (by omega) (by omega) e
      omega
    simp [this]
  · rw [hln] at hj ⊢
    rw [hpln j hj] at hp1
    split at hp1
    · rename_i e
      simp only [Option.some.injEq, Prod.mk.injEq] at hp1
      obtain ⟨rfl, rfl⟩ := hp1
      refine ⟨d2, hd2, by rw [hds, e], Or.inl fun e' he => ?_⟩
      have := hpath2 e' he
      rw [occ_unset hpl] at this
      rw [hocc, this]; rfl
    · split at hp1
      · cases hp1
      · rename_i hjs hjp
        obtain ⟨d1, hd1, hdj1, hway⟩ := h.way j k1 v1 hj hp1
        refine ⟨d1, hd1, hdj1, ?_⟩
        rcases hway with hl | ⟨⟨u, hu1, hu2, huj⟩, hr⟩
        · by_cases hex : ∃ e0, e0 < d1 ∧ (H k1 + e0) % t.length = p
          · right
            obtain ⟨e0, he0, hei⟩ := hex
            have hstep : ∀ x, (i + (s + x)) % t.length = (H k1 + (e0 + x)) % t.length := fun x => by
              rw [show H k1 + (e0 + x) = H k1 + e0 + x by omega, ← Nat.mod_add_mod (H k1 + e0), hei, hpp, Nat.mod_add_mod, Nat.add_assoc]
            have hlt : s + (d1 - e0) < m := by
              rcases Nat.lt_or_ge (s + (d1 - e0)) m with h' | h'
              · exact h'
              · exfalso
                have h3 : occ t (H k1 + (e0 + (m - s))) = false := by
                  rw [← occ_mod, ← hstep (m - s), occ_mod, show i + (s + (m - s)) = i + m by omega]; exact h.top
                rcases Nat.lt_or_ge (e0 + (m - s)) d1 with h4 | h4
                · rw [hl _ h4] at h3; cases h3
                · have : e0 + (m - s) = d1 := by omega
                  rw [this, ← occ_mod, hdj1] at h3
                  rw [occ_iff.2 ⟨k1, v1, hp1⟩] at h3; cases h3
            refine ⟨⟨s + (d1 - e0), by omega, hlt, ?_⟩, fun e he => ?_⟩
            · rw [hstep, show e0 + (d1 - e0) = d1 by omega, hdj1]
            · by_cases h5 : (H k1 + e) % t.length = p
              · exact Or.inr ⟨s, by omega, by rw [h5, hpp]⟩
              · left; rw [hocc, hl e he]; simp [h5]
          · left
            intro e he
            have : (H k1 + e) % t.length ≠ p := fun h' => hex ⟨e, he, h'⟩
            rw [hocc, hl e he]; simp [this]
        · right
          have hus : u ≠ s := fun e => hjp (by rw [← huj, e, hpp])
          refine ⟨⟨u, by omega, hu2, huj⟩, fun e he => ?_⟩
          by_cases h5 : (H k1 + e) % t.length = p
          · exact Or.inr ⟨s, by omega, by rw [h5, hpp]⟩
          · rcases hr e he with h6 | ⟨u', h6, h7⟩
            · left; rw [hocc, h6]; simp [h5]
            · exact Or.inr ⟨u', by omega, h7⟩
  · rw [hln] at ha hb
    rw [hpln a ha] at h1
    rw [hpln b hb] at h2
    have cross : ∀ x w, x < t.length → x ≠ p → pl t x = some (k, w) → False := fun x w hx hne hx2 => hne (h.one x p k w v hx hpl hx2 hpk)
    split at h1
    · split at h2
      · omega
      · split at h2
        · cases h2
        · simp only [Option.some.injEq, Prod.mk.injEq] at h1
          obtain ⟨rfl, rfl⟩ := h1
          rename_i hq
          exact (cross b v2 hb hq h2).elim
    · split at h1
      · cases h1
      · rename_i hap
        split at h2
        · simp only [Option.some.injEq, Prod.mk.injEq] at h2
          obtain ⟨rfl, rfl⟩ := h2
          exact (cross a v1 ha hap h1).elim
        · split at h2
          · cases h2
          · exact h.one a b k1 v1 v2 ha hb h1 h2
theorem sweep_wf {i m : Nat} : ∀ (f s : Nat) (t : Tab), m - s ≤ f → Mid H t i s m → Wf H (sweep H t (i + s) f) := by
  intro f
  induction f with
  | zero =>
    intro s t hf h
    have : s = m := by have := h.s1; omega
    subst this
    exact h.wf
  | succ f ih =>
    intro s t hf h
    unfold sweep
    rcases Nat.lt_or_ge s m with hs | hs
    · obtain ⟨k, v, hp⟩ := occ_iff.1 (h.full s (Nat.le_refl _) hs)
      rw [hp]
      exact ih (s + 1) _ (by omega) (h.step H hs hp)
    · have : s = m := by have := h.s1; omega
      subst this
      have := h.top
      unfold occ at this
      cases hp : pl t (i + s) with
      | none => exact h.wf
      | some x => rw [hp] at this; cases this
theorem remove_wf {t : Tab} (hw : Wf H t) {i : Nat} (hi : i < t.length) (ho : occ t i = true) : Wf H (removeT H t i) := by
  obtain ⟨m, hm, h⟩ := Mid.start H hw hi ho
  unfold removeT
  exact sweep_wf H t.length 1 (t.set i none) (by have := h.m1; simp at this; omega) h
theorem sweep_length (t : Tab) (k f : Nat) : (sweep H t k f).length = t.length := by
  induction f generalizing t k with
  | zero => rfl
  | succ f ih =>
    unfold sweep
    split
    · rfl
    · rw [ih, layT_length]; simp
theorem removeT_length (t : Tab) (i : Nat) : (removeT H t i).length = t.length := by unfold removeT; rw [sweep_length]; simp
/-- an entry is there -/
def Has (t : Tab) (k : ByteArray) (v : Int) : Prop := ∃ i, i < t.length ∧ pl t i = some (k, v)
theorem lay_has {t : Tab} (hg : ∃ i, i < t.length ∧ occ t i = false) (k : ByteArray) (v : Int) (k' : ByteArray) (v' : Int) : Has (layT H t k v) k' v' ↔ (k' = k ∧ v' = v) ∨ Has t k' v' := by
  obtain ⟨hs, hso, _⟩ := slot_free H hg k
  unfold Has
  rw [layT_length]
  unfold layT
  constructor
  · rintro ⟨i, hi, h⟩
    rw [pl_set hs hi] at h
    split at h
    · simp only [Option.some.injEq, Prod.mk.injEq] at h
      exact Or.inl ⟨h.1.symm, h.2.symm⟩
    · exact Or.inr ⟨i, hi, h⟩
  · rintro (⟨rfl, rfl⟩ | ⟨i, hi, h⟩)
    · exact ⟨_, hs, pl_set_self hs _⟩
    · refine ⟨i, hi, ?_⟩
      rw [pl_set hs hi, if_neg]
      · exact h
      · rintro rfl
        rw [occ_iff.2 ⟨k', v', h⟩] at hso; cases hso
theorem unset_has {t : Tab} (h1 : ∀ i j k v v', i < t.length → j < t.length → pl t i = some (k, v) → pl t j = some (k, v') → i = j) {i : Nat} (hi : i < t.length) {k : ByteArray} {v : Int} (hp : pl t i = some (k, v)) (k' : ByteArray) (v' : Int) : Has (t.set i none) k' v' ↔ Has t k' v' ∧ k' ≠ k := by
  unfold Has
  simp only [List.length_set]
  constructor
  · rintro ⟨j, hj, h⟩
    rw [pl_set hi hj] at h
    split at h
    · cases h
    · rename_i hne
      refine ⟨⟨j, hj, h⟩, ?_⟩
      rintro rfl
      exact hne (h1 _ _ _ _ _ hj hi h hp)
  · rintro ⟨⟨j, hj, h⟩, hne⟩
    refine ⟨j, hj, ?_⟩
    rw [pl_set hi hj, if_neg]
    · exact h
    · rintro rfl
      rw [hp] at h
      simp only [Option.some.injEq, Prod.mk.injEq] at h
      exact hne h.1.symm
theorem sweep_has {i m : Nat} (k' : ByteArray) (v' : Int) : ∀ (f s : Nat) (t : Tab), Mid H t i s m → (Has (sweep H t (i + s) f) k' v' ↔ Has t k' v') := by
  intro f
  induction f with
  | zero => intro s t _; rfl
  | succ f ih =>
    intro s t h
    unfold sweep
    rcases Nat.lt_or_ge s m with hs | hs
    · obtain ⟨k, v, hp⟩ := occ_iff.1 (h.full s (Nat.le_refl _) hs)
      rw [hp]
      simp only
      have hn : 0 < t.length := by have := h.ln; omega
      have hpl := Nat.mod_lt (i + s) hn
      have hpk : pl t ((i + s) % t.length) = some (k, v) := by rw [pl_mod]; exact hp
      have hgap : ∃ x, x < (t.set ((i + s) % t.length) none).length ∧ occ (t.set ((i + s) % t.length) none) x = false :=
        ⟨(i + s) % t.length, by simpa using hpl, by rw [occ_unset hpl]; simp⟩
      rw [show i + s + 1 = i + (s + 1) by omega, ih (s + 1) _ (h.step H hs hp), lay_has H hgap, unset_has h.one hpl hpk]
      constructor
      · rintro (⟨rfl, rfl⟩ | h)
        · exact ⟨_, hpl, hpk⟩
        · exact h.1
      · intro hh
        by_cases e : k' = k
        · subst e
          obtain ⟨j, hj, hjp⟩ := hh
          have := h.one _ _ _ _ _ hj hpl hjp hpk
          subst this
          rw [hpk] at hjp
          simp only [Option.some.injEq, Prod.mk.injEq, true_and] at hjp
          exact Or.inl ⟨rfl, hjp.symm⟩
        · exact Or.inr ⟨hh, e⟩
    · have : s = m := by have := h.s1; omega
      subst this
      have := h.top
      unfold occ at this
      cases hp : pl t (i + s) with
      | none => rfl
      | some x => rw [hp] at this; cases this
theorem remove_has {t : Tab} (hw : Wf H t) {i : Nat} (hi : i < t.length) {k : ByteArray} {v : Int} (hp : pl t i = some (k, v)) (k' : ByteArray) (v' : Int) : Has (removeT H t i) k' v' ↔ Has t k' v' ∧ k' ≠ k := by
  obtain ⟨m, hm, h⟩ := Mid.start H hw hi (occ_iff.2 ⟨k, v, hp⟩)
  unfold removeT
  rw [sweep_has H k' v' _ 1 _ h, unset_has hw.one hi hp]
/-- the entries behind a place, all taken out, in order -/
def clearC (t : Tab) (k : Nat) : Nat → Tab × List (ByteArray × Int)
  | 0 => (t, [])
  | f + 1 => match pl t k with
    | none => (t, [])
    | some e => ((clearC (t.set (k % t.length) none) (k + 1) f).1, e :: (clearC (t.set (k % t.length) none) (k + 1) f).2)
def layAll (t : Tab) (l : List (ByteArray × Int)) : Tab := l.foldl (fun t e => layT H t e.1 e.2) t
def removeR (t : Tab) (i : Nat) : Tab := layAll H (clearC (t.set i none) (i + 1) t.length).1 (clearC (t.set i none) (i + 1) t.length).2
end
end Go.Proofs.Ytbhdgeoljlhmcaa.St
/- Tables: an entry taken out as the document does it is the same; plain facts. -/
namespace Go.Proofs.Ytbhdgeoljlhmcaa.St
section
variable (H : ByteArray → Nat)
theorem clearC_length (t : Tab) (k f : Nat) : (clearC t k f).1.length = t.length := by
  induction f generalizing t k with
  | zero => rfl
  | succ f ih => unfold clearC; split; rfl; simp only; rw [ih]; simp
theorem clearC_len {t : Tab} {k f c : Nat} (h : occ t (k + c) = false) : (clearC t k f).2.length ≤ c := by
  induction f generalizing t k c with
  | zero => simp [clearC]
  | succ f ih =>
    unfold clearC
    split
    · simp
    · rename_i e hp
      rcases c with _ | c
      · rw [Nat.add_zero] at h; unfold occ at h; rw [hp] at h; cases h
      · simp only [List.length_cons]
        have hn : 0 < t.length := by
          rcases Nat.eq_zero_or_pos t.length with h0 | h0
          · unfold pl at hp; rw [List.length_eq_zero_iff.1 h0] at hp; simp at hp
          · exact h0
        have := ih (t := t.set (k % t.length) none) (k := k + 1) (c := c) (by rw [occ_unset (Nat.mod_lt _ hn), show k + 1 + c = k + (c + 1) by omega, h]; rfl)
        omega
theorem clearC_pl (t : Tab) (k f j : Nat) : pl (clearC t k f).1 j = pl t j ∨ pl (clearC t k f).1 j = none := by
  induction f generalizing t k with
  | zero => exact Or.inl rfl
  | succ f ih =>
    unfold clearC
    split
    · exact Or.inl rfl
    · rename_i e hp
      simp only
      rcases ih (t.set (k % t.length) none) (k + 1) with h | h
      · rw [h]
        by_cases hj : j % t.length = k % t.length
        · right
          have hn : 0 < t.length := by
            rcases Nat.eq_zero_or_pos t.length with h0 | h0
            · unfold pl at hp; rw [List.length_eq_zero_iff.1 h0] at hp; simp at hp
            · exact h0
          have := occ_unset (t := t) (i := k % t.length) (j := j) (Nat.mod_lt _ hn)
          rw [hj] at this
          simp only [decide_true, Bool.not_true, Bool.and_false] at this
          unfold occ at this
          cases hq : pl (t.set (k % t.length) none) j with
          | none => rfl
          | some x => rw [hq] at this; cases this
        · left; exact pl_set_ne hj _
      · exact Or.inr h
theorem clearC_off {t : Tab} {k f j : Nat} (h : ∀ u, u < (clearC t k f).2.length → (k + u) % t.length ≠ j % t.length) : pl (clearC t k f).1 j = pl t j := by
  induction f generalizing t k with
  | zero => rfl
  | succ f ih =>
    unfold clearC at h ⊢
    split
    · rfl
    · rename_i e hp
      rw [hp] at h
      simp only [List.length_cons] at h ⊢
      rw [ih (fun u hu => by
        have := h (u + 1) (by omega)
        simp only [List.length_set]
        rwa [show k + (u + 1) = k + 1 + u by omega] at this)]
      exact pl_set_ne (fun e => h 0 (by omega) (by rw [Nat.add_zero]; exact e.symm)) _
theorem clearC_set {t : Tab} {k f sl : Nat} {x : ByteArray × Int} (h : ∀ u, u ≤ (clearC t k f).2.length → (k + u) % t.length ≠ sl) :
    clearC (t.set sl (some x)) k f = ((clearC t k f).1.set sl (some x), (clearC t k f).2) := by
  induction f generalizing t k with
  | zero => rfl
  | succ f ih =>
    have h0 := h 0 (by omega)
    rw [Nat.add_zero] at h0
    unfold clearC at h ⊢
    rw [pl_set_ne h0]
    split
    · rfl
    · rename_i e hp
      rw [hp] at h
      simp only [List.length_cons, List.length_set] at h ⊢
      rw [List.set_comm _ _ (fun e => h0 e.symm), ih (fun u hu => by
        have := h (u + 1) (by omega)
        simp only [List.length_set]
        rwa [show k + (u + 1) = k + 1 + u by omega] at this)]
theorem Mid.lay {t : Tab} {i s m : Nat} (h : Mid H t i s m) (hs : s < m) {k : ByteArray} {v : Int} (hp : pl t (i + s) = some (k, v)) {t' : Tab} (ht' : t' = t.set ((i + s) % t.length) none) :
    slot H t' k < t.length ∧ occ t' (slot H t' k) = false ∧ slot H t' k ≠ (i + m) % t.length ∧ far t' free (H k) t.length < t.length ∧
    (∀ e, e < far t' free (H k) t.length → occ t' (H k + e) = true) ∧ (∀ e u, e < far t' free (H k) t.length → s < u → u < m → (H k + e) % t.length ≠ (i + u) % t.length) := by
  have hn : 0 < t.length := by have := h.ln; omega
  have hmn := h.m1
  obtain ⟨p, hpp⟩ : ∃ p, p = (i + s) % t.length := ⟨_, rfl⟩
  have hpl : p < t.length := by rw [hpp]; exact Nat.mod_lt _ hn
  rw [← hpp] at ht'
  have hln : t'.length = t.length := by rw [ht']; simp
  have hmp : (i + m) % t.length ≠ p := fun e => by
    rw [hpp] at e
    have := off_one (n := t.length) (j := i) (d := m) (e := s) (by omega) (by omega) e
    omega
  obtain ⟨d, hd, hdj, hpath⟩ := h.home H hp
  have hfree : free (pl t' (H k + d)) = true := by
    have := occ_unset (t := t) (i := p) (j := H k + d) hpl
    rw [← ht', hdj, ← hpp] at this
    simp only [decide_true, Bool.not_true, Bool.and_false] at this
    unfold occ at this
    rw [free_iff]; simpa using this
  have hat := far_at (t := t') (p := free) (i := H k) (f := t.length) hd hfree
  have hbe := far_before (t := t') (p := free) (i := H k) (f := t.length)
  have hsl : slot H t' k = (H k + far t' free (H k) t.length) % t.length := by unfold slot; rw [hln]
  have hocc : ∀ j, occ t' j = (occ t j && !decide (j % t.length = p)) := fun j => by rw [ht', occ_unset hpl]
  have hlt : slot H t' k < t.length := by rw [hsl]; exact Nat.mod_lt _ hn
  refine ⟨hlt, ?_, fun e => ?_, by omega, fun e he => free_not.1 (hbe e he), fun e u he h1 h2 h3 => ?_⟩
  · have : occ t' (slot H t' k) = occ t' (H k + far t' free (H k) t.length) := by rw [hsl, ← hln, occ_mod]
    rw [this]; unfold occ; rw [free_iff.1 hat.2]; rfl
  · rw [hsl] at e
    rcases Nat.lt_or_ge (far t' free (H k) t.length) d with hl | hg
    · rcases hpath _ hl with h1 | ⟨u, hu, h2⟩
      · rw [← occ_mod, e, occ_mod, h.top] at h1; cases h1
      · rw [e] at h2
        have := off_one (n := t.length) (j := i) (d := m) (e := u) (by omega) (by omega) h2
        omega
    · have : far t' free (H k) t.length = d := by omega
      rw [this, hdj, ← hpp] at e
      exact hmp e.symm
  · -- from offset u the way goes on to offset s, past offset m
    have hstep : ∀ x, (H k + (e + x)) % t.length = (i + (u + x)) % t.length := fun x => by
      rw [show H k + (e + x) = H k + e + x by omega, ← Nat.mod_add_mod (H k + e), h3, Nat.mod_add_mod, Nat.add_assoc]
    have h4 : e + (m - u) < d := by
      rcases Nat.lt_or_ge (e + (m - u)) d with h | h
      · exact h
      · exfalso
        have h5 := hstep (d - e)
        rw [show e + (d - e) = d by omega, hdj] at h5
        have := off_one (n := t.length) (j := i) (d := s) (e := u + (d - e)) (by omega) (by omega) h5
        omega
    have h6 := hstep (m - u)
    rw [show u + (m - u) = m by omega] at h6
    rcases hpath _ h4 with h7 | ⟨u', h7, h8⟩
    · rw [← occ_mod, h6, occ_mod, h.top] at h7; cases h7
    · rw [h6] at h8
      have := off_one (n := t.length) (j := i) (d := m) (e := u') (by omega) (by omega) h8
      omega
theorem removeR_sweep {i m : Nat} : ∀ (f s : Nat) (t : Tab), m - s ≤ f → Mid H t i s m → layAll H (clearC t (i + s) f).1 (clearC t (i + s) f).2 = sweep H t (i + s) f := by
  intro f
  induction f with
  | zero => intro s t _ _; rfl
  | succ f ih =>
    intro s t hf h
    have hn : 0 < t.length := by have := h.ln; omega
    have hmn := h.m1
    rcases Nat.lt_or_ge s m with hs | hs
    · obtain ⟨k, v, hp⟩ := occ_iff.1 (h.full s (Nat.le_refl _) hs)
      obtain ⟨t', ht'⟩ : ∃ t', t' = t.set ((i + s) % t.length) none := ⟨_, rfl⟩
      have hln : t'.length = t.length := by rw [ht']; simp
      obtain ⟨hsl, hso, hsm, hfl, hpath, hzone⟩ := h.lay H hs hp ht'
      have hpl := Nat.mod_lt (i + s) hn
      have hocc : ∀ j, occ t' j = (occ t j && !decide (j % t.length = (i + s) % t.length)) := fun j => by rw [ht', occ_unset hpl]
      have htop : occ t' (i + m) = false := by rw [hocc, h.top]; rfl
      have hlen : (clearC t' (i + (s + 1)) f).2.length ≤ m - (s + 1) := clearC_len (by rw [show i + (s + 1) + (m - (s + 1)) = i + m by omega]; exact htop)
      have hzo : ∀ u, s < u → u < m → occ t' (i + u) = true := fun u h1 h2 => by
        rw [hocc, h.full u (by omega) h2]
        have : (i + u) % t.length ≠ (i + s) % t.length := fun e => by
          have := off_one (n := t.length) (j := i) (d := u) (e := s) (by omega) (by omega) e
          omega
        simp [this]
      obtain ⟨C, hC⟩ : ∃ C, C = (clearC t' (i + (s + 1)) f).1 := ⟨_, rfl⟩
      have hCl : C.length = t.length := by rw [hC, clearC_length, hln]
      have hfar : far C free (H k) t.length = far t' free (H k) t.length := by
        refine far_eq hfl ?_ (fun e he => ?_)
        · have h1 : pl t' (H k + far t' free (H k) t.length) = none := by
            have : occ t' (slot H t' k) = occ t' (H k + far t' free (H k) t.length) := by unfold slot; rw [occ_mod, hln]
            rw [this] at hso
            unfold occ at hso; simpa using hso
          rw [free_iff]
          rcases clearC_pl t' (i + (s + 1)) f (H k + far t' free (H k) t.length) with h2 | h2
          · rw [hC, h2, h1]
          · rw [hC, h2]
        · rw [free_not, hC, clearC_off (fun u hu e' => hzone e (s + 1 + u) he (by omega) (by omega) (by rw [hln] at e'; rw [show i + (s + 1 + u) = i + (s + 1) + u by omega]; exact e'.symm))]
          exact hpath e he
      have hslot : slot H C k = slot H t' k := by unfold slot; rw [hCl, hln, hfar]
      have hset := clearC_set (t := t') (k := i + (s + 1)) (f := f) (sl := slot H t' k) (x := (k, v)) (fun u hu e => by
        rw [hln] at e
        rcases Nat.lt_or_ge (s + 1 + u) m with h1 | h1
        · have h2 := hzo (s + 1 + u) (by omega) h1
          rw [show i + (s + 1 + u) = i + (s + 1) + u by omega, ← occ_mod, hln, e, hso] at h2
          cases h2
        · have : s + 1 + u = m := by omega
          rw [show i + (s + 1) + u = i + (s + 1 + u) by omega, this] at e
          exact hsm e.symm)
      have hstepM := h.step H hs hp
      rw [← ht'] at hstepM
      have hih := ih (s + 1) _ (by omega) hstepM
      unfold sweep clearC
      rw [hp]
      simp only
      rw [← ht', show i + s + 1 = i + (s + 1) by omega, ← hih]
      unfold layAll
      rw [List.foldl_cons]
      simp only
      rw [show layT H t' k v = t'.set (slot H t' k) (some (k, v)) from rfl, hset, ← hC]
      simp only
      rw [show layT H C k v = C.set (slot H t' k) (some (k, v)) by unfold layT; rw [hslot]]
    · have : s = m := by have := h.s1; omega
      subst this
      have := h.top
      unfold occ at this
      unfold sweep clearC
      cases hp : pl t (i + s) with
      | none => rfl
      | some x => rw [hp] at this; cases this
theorem removeR_eq {t : Tab} (hw : Wf H t) {i : Nat} (hi : i < t.length) (ho : occ t i = true) : removeR H t i = removeT H t i := by
  obtain ⟨m, hm, h⟩ := Mid.start H hw hi ho
  unfold removeR removeT
  exact removeR_sweep H t.length 1 (t.set i none) (by have := h.m1; simp at this; omega) h
end
end Go.Proofs.Ytbhdgeoljlhmcaa.St
/- Tables: how many entries, a table grown; plain facts. -/
namespace Go.Proofs.Ytbhdgeoljlhmcaa.St
section
variable (H : ByteArray → Nat)
/-- how many entries -/
def cn (t : Tab) : Nat := t.countP (·.isSome)
/-- the entries in order -/
def ents (t : Tab) : List (ByteArray × Int) := t.filterMap id
theorem ents_length (t : Tab) : (ents t).length = cn t := by
  unfold ents cn
  induction t with
  | nil => rfl
  | cons o t ih => cases o <;> simp [ih]
theorem pl_getE {t : Tab} {i : Nat} (hi : i < t.length) : pl t i = t[i] := by unfold pl; rw [Nat.mod_eq_of_lt hi, List.getElem?_eq_getElem hi]; rfl
theorem cn_set {t : Tab} {i : Nat} (hi : i < t.length) (o : Option (ByteArray × Int)) : cn (t.set i o) + (if occ t i then 1 else 0) = cn t + (if o.isSome then 1 else 0) := by
  unfold cn occ
  rw [List.countP_set hi, pl_getE hi]
  by_cases h : (t[i]).isSome = true
  · have : 1 ≤ t.countP (·.isSome) := List.countP_pos_iff.2 ⟨t[i], List.getElem_mem hi, h⟩
    simp only [h, if_true]
    omega
  · simp [h]
theorem cn_le (t : Tab) : cn t ≤ t.length := List.countP_le_length
theorem cn_gap {t : Tab} (h : cn t < t.length) : ∃ i, i < t.length ∧ occ t i = false := by
  apply Classical.byContradiction
  intro hn
  have : cn t = t.length := by
    unfold cn
    rw [List.countP_eq_length]
    intro o ho
    obtain ⟨i, hi, rfl⟩ := List.mem_iff_getElem.1 ho
    cases hq : occ t i with
    | false => exact absurd ⟨i, hi, hq⟩ hn
    | true => unfold occ at hq; rwa [pl_getE hi] at hq
  omega
theorem gap_cn {t : Tab} (h : ∃ i, i < t.length ∧ occ t i = false) : cn t < t.length := by
  obtain ⟨i, hi, ho⟩ := h
  have h1 := cn_set hi (some (⟨#[]⟩, 0))
  have h2 := cn_le (t.set i (some (⟨#[]⟩, 0)))
  simp only [List.length_set, ho, Option.isSome] at h1 h2
  simp at h1
  omega
theorem cn_two {t : Tab} (h : cn t + 1 < t.length) : ∃ i j, i < t.length ∧ j < t.length ∧ i ≠ j ∧ occ t i = false ∧ occ t j = false := by
  obtain ⟨i, hi, ho⟩ := cn_gap (t := t) (by omega)
  have h1 := cn_set hi (some (⟨#[]⟩, 0))
  simp only [ho, Option.isSome] at h1
  simp at h1
  obtain ⟨j, hj, hjo⟩ := cn_gap (t := t.set i (some (⟨#[]⟩, 0))) (by simp; omega)
  simp only [List.length_set] at hj
  rw [occ_set hi, Nat.mod_eq_of_lt hj] at hjo
  simp only [Bool.or_eq_false_iff, decide_eq_false_iff_not] at hjo
  exact ⟨i, j, hi, hj, fun e => hjo.2 e.symm, ho, hjo.1⟩
theorem cn_lay {t : Tab} (hg : ∃ i, i < t.length ∧ occ t i = false) (k : ByteArray) (v : Int) : cn (layT H t k v) = cn t + 1 := by
  obtain ⟨hs, hso, _⟩ := slot_free H hg k
  have h1 := cn_set hs (some (k, v))
  simp only [hso, Option.isSome] at h1
  unfold layT
  simpa using h1
theorem sweep_cn (f k : Nat) (t : Tab) : cn (sweep H t k f) = cn t := by
  induction f generalizing k t with
  | zero => rfl
  | succ f ih =>
    unfold sweep
    cases hp : pl t k with
    | none => rfl
    | some x =>
      obtain ⟨k', v⟩ := x
      simp only
      rw [ih]
      have hn : 0 < t.length := by
        apply Classical.byContradiction; intro h
        have : t = [] := List.length_eq_zero_iff.1 (by omega)
        subst this; simp [pl] at hp
      have hm : k % t.length < t.length := Nat.mod_lt _ hn
      have h1 := cn_set hm none
      have ho : occ t (k % t.length) = true := by rw [occ_mod]; unfold occ; rw [hp]; rfl
      simp only [ho] at h1
      simp at h1
      rw [cn_lay H ⟨k % t.length, by simpa using hm, by rw [occ_unset hm]; simp⟩]
      omega
theorem cn_remove {t : Tab} {i : Nat} (hi : i < t.length) (ho : occ t i = true) : cn (removeT H t i) + 1 = cn t := by
  unfold removeT
  rw [sweep_cn]
  have h1 := cn_set hi none
  simp only [ho] at h1
  simpa using h1
theorem wf_none {n : Nat} (hn : 1 ≤ n) : Wf H (List.replicate n none) := by
  have hp : ∀ i, pl (List.replicate n none) i = none := fun i => by
    unfold pl
    rw [List.getElem?_replicate]
    split <;> rfl
  exact ⟨fun i k v _ h => absurd (hp i) (by rw [h]; simp), fun i j k v1 v2 _ _ h _ => absurd (hp i) (by rw [h]; simp), ⟨0, by simp; omega, by unfold occ; rw [hp]; rfl⟩⟩
theorem cn_none (n : Nat) : cn (List.replicate n none) = 0 := by unfold cn; simp [List.countP_replicate]
theorem has_none (n : Nat) (k : ByteArray) (v : Int) : ¬ Has (List.replicate n none) k v := by
  rintro ⟨i, _, h⟩
  unfold pl at h
  rw [List.getElem?_replicate] at h
  split at h <;> cases h
theorem has_mem {t : Tab} {k : ByteArray} {v : Int} : Has t k v ↔ (k, v) ∈ ents t := by
  unfold ents
  simp only [List.mem_filterMap, id]
  constructor
  · rintro ⟨i, hi, h⟩
    rw [pl_getE hi] at h
    exact ⟨t[i], List.getElem_mem hi, h⟩
  · rintro ⟨o, ho, rfl⟩
    obtain ⟨i, hi, h⟩ := List.mem_iff_getElem.1 ho
    exact ⟨i, hi, by rw [pl_getE hi]; exact h⟩
/-- no key twice -/
theorem ents_one {t : Tab} (hw : Wf H t) : (ents t).Pairwise (fun a b => a.1 ≠ b.1) := by
  unfold ents
  rw [List.pairwise_filterMap, List.pairwise_iff_getElem]
  intro i j hi hj hij a ha b hb hab
  simp only [id] at ha hb
  have := hw.one i j a.1 a.2 b.2 hi hj (by rw [pl_getE hi]; exact ha) (by rw [pl_getE hj, hab]; exact hb)
  omega
theorem layAll_length (t : Tab) (l : List (ByteArray × Int)) : (layAll H t l).length = t.length := by
  unfold layAll
  induction l generalizing t with
  | nil => rfl
  | cons e l ih => simp only [List.foldl_cons, ih, layT_length]
theorem layAll_snoc (t : Tab) (l : List (ByteArray × Int)) (e : ByteArray × Int) : layAll H t (l ++ [e]) = layT H (layAll H t l) e.1 e.2 := by
  unfold layAll; rw [List.foldl_append]; rfl
theorem layAll_good {t : Tab} (hw : Wf H t) (l : List (ByteArray × Int)) (hl : l.Pairwise (fun a b => a.1 ≠ b.1)) (hd : ∀ e ∈ l, ∀ v, ¬ Has t e.1 v) (hc : cn t + l.length < t.length) :
    Wf H (layAll H t l) ∧ cn (layAll H t l) = cn t + l.length ∧ ∀ k v, Has (layAll H t l) k v ↔ (k, v) ∈ l ∨ Has t k v := by
  induction l generalizing t with
  | nil => exact ⟨hw, rfl, fun k v => by simp [layAll]⟩
  | cons e l ih =>
    simp only [List.length_cons] at hc
    have hg := cn_gap (t := t) (by omega)
    have h1 := lay_wf H hw (k := e.1) e.2 (fun i v hi h => hd e (by simp) v ⟨i, hi, h⟩) (cn_two (t := t) (by omega))
    have h2 := cn_lay H hg e.1 e.2
    have h3 := lay_has H hg e.1 e.2
    rw [List.pairwise_cons] at hl
    obtain ⟨a, b, c⟩ := ih h1 hl.2 (fun x hx v hh => by
      rcases (h3 x.1 v).1 hh with ⟨e1, _⟩ | hh
      · exact hl.1 x hx e1.symm
      · exact hd x (by simp [hx]) v hh) (by rw [h2, layT_length]; omega)
    refine ⟨a, by show cn (layAll H (layT H t e.1 e.2) l) = _; rw [b, h2]; simp; omega, fun k v => ?_⟩
    show Has (layAll H (layT H t e.1 e.2) l) k v ↔ _
    rw [c, h3, List.mem_cons, Prod.ext_iff]
    simp only
    constructor
    · rintro (h | h | h)
      · exact Or.inl (Or.inr h)
      · exact Or.inl (Or.inl h)
      · exact Or.inr h
    · rintro ((h | h) | h)
      · exact Or.inr (Or.inl h)
      · exact Or.inl h
      · exact Or.inr (Or.inr h)
/-- a table of twice the places with the same entries -/
def growT (t : Tab) : Tab := layAll H (List.replicate (2 * t.length) none) (ents t)
theorem growT_length (t : Tab) : (growT H t).length = 2 * t.length := by unfold growT; rw [layAll_length]; simp
theorem grow_good {t : Tab} (hw : Wf H t) : Wf H (growT H t) ∧ cn (growT H t) = cn t ∧ ∀ k v, Has (growT H t) k v ↔ Has t k v := by
  have hlt := gap_cn hw.gap
  obtain ⟨a, b, c⟩ := layAll_good H (wf_none H (n := 2 * t.length) (by omega)) (ents t) (ents_one H hw) (fun _ _ _ => has_none _ _ _) (by rw [cn_none, ents_length]; simp; omega)
  refine ⟨a, by unfold growT; rw [b, cn_none, ents_length]; simp, fun k v => ?_⟩
  unfold growT
  rw [c, ← has_mem]
  exact ⟨fun h => h.elim id (fun h => absurd h (has_none _ _ _)), Or.inl⟩
/-- an entry put in, the table grown first if it has to -/
def addT (t : Tab) (k : ByteArray) (v : Int) : Tab := layT H (if 3 * t.length ≤ 4 * cn t then growT H t else t) k v
theorem add_good {t : Tab} (hw : Wf H t) (hn : 4 ≤ t.length) {k : ByteArray} (v : Int) (hk : ∀ v, ¬ Has t k v) :
    Wf H (addT H t k v) ∧ cn (addT H t k v) = cn t + 1 ∧ 4 ≤ (addT H t k v).length ∧ ∀ k' v', Has (addT H t k v) k' v' ↔ (k' = k ∧ v' = v) ∨ Has t k' v' := by
  have hlt := gap_cn hw.gap
  unfold addT
  split
  · obtain ⟨a, b, c⟩ := grow_good H hw
    have hl := growT_length H t
    have hg := cn_gap (t := growT H t) (by omega)
    refine ⟨lay_wf H a v (fun i v hi h => hk v ((c k v).1 ⟨i, hi, h⟩)) (cn_two (by omega)), by rw [cn_lay H hg, b], by rw [layT_length]; omega, fun k' v' => by rw [lay_has H hg, c]⟩
  · rename_i h
    have hg := hw.gap
    refine ⟨lay_wf H hw v (fun i v hi h => hk v ⟨i, hi, h⟩) (cn_two (by omega)), cn_lay H hg _ _, by rw [layT_length]; exact hn, fun k' v' => lay_has H hg _ _ _ _⟩
end
end Go.Proofs.Ytbhdgeoljlhmcaa.St
