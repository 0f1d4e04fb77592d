/- Tables with open addressing: an entry lies at the first free place behind its home; plain facts. -/
namespace Go.Proofs.Ytbhdgeoljlhmcaa.St
section
variable (H : ByteArray → Nat)
/-- a table: at each place nothing, or a key and its value -/
abbrev Tab := List (Option (ByteArray × Int))
/-- what lies at a place, counted round the table -/
def pl (t : Tab) (i : Nat) : Option (ByteArray × Int) := (t[i % t.length]?).join
def occ (t : Tab) (i : Nat) : Bool := (pl t i).isSome
/-- how far the first place from i on is that holds nothing, or the key -/
def far (t : Tab) (p : Option (ByteArray × Int) → Bool) (i : Nat) : Nat → Nat
  | 0 => 0
  | f + 1 => if p (pl t i) then 0 else far t p (i + 1) f + 1
theorem far_le (t : Tab) (p : Option (ByteArray × Int) → Bool) (i f : Nat) : far t p i f ≤ f := by
  induction f generalizing i with
  | zero => simp [far]
  | succ f ih => simp only [far]; split; omega; have := ih (i + 1); omega
theorem far_before {t : Tab} {p : Option (ByteArray × Int) → Bool} {i f : Nat} : ∀ e, e < far t p i f → p (pl t (i + e)) = false := by
  induction f generalizing i with
  | zero => intro e he; simp [far] at he
  | succ f ih =>
    intro e he
    simp only [far] at he
    split at he
    · omega
    · rename_i hp
      rcases e with _ | e
      · simpa using hp
      · have := ih (i := i + 1) e (by omega)
        rwa [show i + (e + 1) = i + 1 + e by omega]
theorem far_at {t : Tab} {p : Option (ByteArray × Int) → Bool} {i f d : Nat} (hd : d < f) (h : p (pl t (i + d)) = true) : far t p i f ≤ d ∧ p (pl t (i + far t p i f)) = true := by
  induction f generalizing i d with
  | zero => omega
  | succ f ih =>
    simp only [far]
    split
    · rename_i hp; exact ⟨by omega, by simpa using hp⟩
    · rename_i hp
      rcases d with _ | d
      · exact absurd h hp
      · have := ih (i := i + 1) (d := d) (by omega) (by rwa [show i + 1 + d = i + (d + 1) by omega])
        refine ⟨by omega, ?_⟩
        rw [show i + (far t p (i + 1) f + 1) = i + 1 + far t p (i + 1) f by omega]; exact this.2
theorem far_eq {t : Tab} {p : Option (ByteArray × Int) → Bool} {i f d : Nat} (hd : d < f) (h : p (pl t (i + d)) = true) (hb : ∀ e, e < d → p (pl t (i + e)) = false) : far t p i f = d := by
  have h1 := far_at hd h
  rcases Nat.lt_or_ge (far t p i f) d with h2 | h2
  · rw [hb _ h2] at h1; exact absurd h1.2 (by simp)
  · omega
def free (o : Option (ByteArray × Int)) : Bool := !o.isSome
theorem free_iff {o : Option (ByteArray × Int)} : free o = true ↔ o = none := by unfold free; cases o <;> simp
theorem free_not {o : Option (ByteArray × Int)} : free o = false ↔ o.isSome = true := by unfold free; cases o <;> simp
def hit (k : ByteArray) (o : Option (ByteArray × Int)) : Bool := match o with | none => true | some (k', _) => decide (k' = k)
/-- the place where an entry is laid -/
def slot (t : Tab) (k : ByteArray) : Nat := (H k + far t free (H k) t.length) % t.length
def layT (t : Tab) (k : ByteArray) (v : Int) : Tab := t.set (slot H t k) (some (k, v))
/-- the place where a key is looked for -/
def seek (t : Tab) (k : ByteArray) : Nat := (H k + far t (hit k) (H k) t.length) % t.length
def findT (t : Tab) (k : ByteArray) : Option Nat := if occ t (seek H t k) then some (seek H t k) else none
theorem layT_length (t : Tab) (k : ByteArray) (v : Int) : (layT H t k v).length = t.length := by unfold layT; simp
/-- every entry is reached from its home without a gap; keys are there once; a place is free -/
structure Wf (t : Tab) : Prop where
  way : ∀ i k v, i < t.length → pl t i = some (k, v) → ∃ d, d < t.length ∧ (H k + d) % t.length = i ∧ ∀ e, e < d → occ t (H k + e) = true
  one : ∀ i j k v v', i < t.length → j < t.length → pl t i = some (k, v) → pl t j = some (k, v') → i = j
  gap : ∃ i, i < t.length ∧ occ t i = false
theorem pl_mod (t : Tab) (i : Nat) : pl t (i % t.length) = pl t i := by unfold pl; rw [Nat.mod_mod]
theorem occ_mod (t : Tab) (i : Nat) : occ t (i % t.length) = occ t i := by unfold occ; rw [pl_mod]
theorem off_of {n i : Nat} (j : Nat) (hi : i < n) : ∃ d, d < n ∧ (j + d) % n = i := by
  have hj := Nat.mod_lt j (show 0 < n by omega)
  by_cases h : j % n ≤ i
  · refine ⟨i - j % n, by omega, ?_⟩
    rw [← Nat.mod_add_mod, show j % n + (i - j % n) = i by omega, Nat.mod_eq_of_lt hi]
  · refine ⟨i + n - j % n, by omega, ?_⟩
    rw [← Nat.mod_add_mod, show j % n + (i + n - j % n) = i + n by omega, Nat.add_mod_right, Nat.mod_eq_of_lt hi]
theorem off_one {n j d e : Nat} (hd : d < n) (he : e < n) (h : (j + d) % n = (j + e) % n) : d = e := by
  have key : ∀ d e, d ≤ e → e < n → (j + d) % n = (j + e) % n → d = e := by
    intro d e hle he h
    have h0 : (e - d) % n = 0 := by
      have := Nat.sub_mod_eq_zero_of_mod_eq h.symm
      rwa [show j + e - (j + d) = e - d by omega] at this
    rw [Nat.mod_eq_of_lt (by omega)] at h0
    omega
  rcases Nat.le_total d e with hle | hle
  · exact key d e hle he h
  · exact (key e d hle hd h.symm).symm
theorem occ_iff {t : Tab} {i : Nat} : occ t i = true ↔ ∃ k v, pl t i = some (k, v) := by
  unfold occ
  cases h : pl t i with
  | none => simp
  | some x => obtain ⟨k, v⟩ := x; simp
/-- the place where an entry is laid is free, and the way to it is full -/
theorem slot_free {t : Tab} (hg : ∃ i, i < t.length ∧ occ t i = false) (k : ByteArray) :
    slot H t k < t.length ∧ occ t (slot H t k) = false ∧ ∃ d, d < t.length ∧ (H k + d) % t.length = slot H t k ∧ ∀ e, e < d → occ t (H k + e) = true := by
  obtain ⟨i, hi, ho⟩ := hg
  obtain ⟨d, hd, hdi⟩ := off_of (H k) hi
  have hf : free (pl t (H k + d)) = true := by
    rw [← pl_mod, hdi]; unfold free; unfold occ at ho; simp [ho]
  have h1 := far_at hd hf
  have hb := far_before (t := t) (p := free) (i := H k) (f := t.length)
  refine ⟨Nat.mod_lt _ (by omega), ?_, far t free (H k) t.length, by omega, rfl, fun e he => ?_⟩
  · unfold slot
    rw [occ_mod]; unfold occ; rw [free_iff.1 h1.2]; rfl
  · exact free_not.1 (hb e he)
theorem pl_set_self {t : Tab} {i : Nat} (hi : i < t.length) (o : Option (ByteArray × Int)) : pl (t.set i o) i = o := by
  unfold pl; simp [Nat.mod_eq_of_lt hi, List.getElem?_set_self hi]
theorem pl_set_ne {t : Tab} {i j : Nat} (hj : j % t.length ≠ i) (o : Option (ByteArray × Int)) : pl (t.set i o) j = pl t j := by
  unfold pl; simp [List.getElem?_set_ne (fun e => hj e.symm)]
/-- a key that is there is found, and only such a one -/
theorem find_some {t : Tab} (hw : Wf H t) {k : ByteArray} {v : Int} {i : Nat} (hi : i < t.length) (h : pl t i = some (k, v)) : findT H t k = some i := by
  obtain ⟨d, hd, hdi, hp⟩ := hw.way i k v hi h
  have hat : hit k (pl t (H k + d)) = true := by rw [← pl_mod, hdi, h]; simp [hit]
  have hfar : far t (hit k) (H k) t.length = d := far_eq hd hat (fun e he => by
    obtain ⟨k', v', he'⟩ := occ_iff.1 (hp e he)
    rw [he']
    simp only [hit, decide_eq_false_iff_not]
    rintro rfl
    have h2 : pl t ((H k' + e) % t.length) = some (k', v') := by rw [pl_mod]; exact he'
    have := hw.one i ((H k' + e) % t.length) k' v v' hi (Nat.mod_lt _ (by omega)) h h2
    rw [← hdi] at this
    have := off_one hd (by omega) this
    omega)
  unfold findT seek
  rw [hfar, hdi]
  have : occ t i = true := occ_iff.2 ⟨k, v, h⟩
  rw [if_pos this]
theorem find_none {t : Tab} (hg : ∃ i, i < t.length ∧ occ t i = false) {k : ByteArray} (h : ∀ i v, i < t.length → pl t i ≠ some (k, v)) : findT H t k = none := by
  obtain ⟨i, hi, ho⟩ := hg
  obtain ⟨d, hd, hdi⟩ := off_of (H k) hi
  have hf : hit k (pl t (H k + d)) = true := by
    rw [← pl_mod, hdi]; unfold occ at ho; cases hp : pl t i with
    | none => rfl
    | some x => rw [hp] at ho; cases ho
  have h1 := (far_at hd hf).2
  unfold findT
  have hs : seek H t k < t.length := Nat.mod_lt _ (by omega)
  have hp : hit k (pl t (seek H t k)) = true := by unfold seek; rw [pl_mod]; exact h1
  rw [if_neg]
  intro hocc
  obtain ⟨k', v', he⟩ := occ_iff.1 hocc
  rw [he] at hp
  simp only [hit, decide_eq_true_eq] at hp
  subst hp
  exact h _ _ hs he
theorem find_of {t : Tab} (hg : ∃ i, i < t.length ∧ occ t i = false) {k : ByteArray} {i : Nat} (h : findT H t k = some i) : i < t.length ∧ ∃ v, pl t i = some (k, v) := by
  unfold findT at h
  split at h
  · rename_i hocc
    simp only [Option.some.injEq] at h
    subst h
    have hg' := hg
    obtain ⟨j, hj, _⟩ := hg'
    have hs : seek H t k < t.length := Nat.mod_lt _ (by omega)
    refine ⟨hs, ?_⟩
    obtain ⟨k', v', he⟩ := occ_iff.1 hocc
    obtain ⟨i, hi, ho⟩ := hg
    obtain ⟨d, hd, hdi⟩ := off_of (H k) hi
    have hf : hit k (pl t (H k + d)) = true := by
      rw [← pl_mod, hdi]; unfold occ at ho; cases hp : pl t i with
      | none => rfl
      | some x => rw [hp] at ho; cases ho
    have h1 := (far_at hd hf).2
    have hp : hit k (pl t (seek H t k)) = true := by unfold seek; rw [pl_mod]; exact h1
    rw [he] at hp
    simp only [hit, decide_eq_true_eq] at hp
    subst hp
    exact ⟨v', he⟩
  · cases h
end
end Go.Proofs.Ytbhdgeoljlhmcaa.St
