/- What the reader of texts does, plainly (where its numbers are numerals). No program in sight. -/
import Derived.Test.YtokmaehefenpmaaDoorX1
import Derived.Test.YtokmaehefenpmaaDoorTyMatch
import Derived.Lib.AtoiAll
namespace Go.Proofs.YtokmaehefenpmaaDoor
def isW (c : UInt8) : Bool := (97 ≤ c.toNat && c.toNat ≤ 122) || (65 ≤ c.toNat && c.toNat ≤ 90) || (48 ≤ c.toNat && c.toNat ≤ 57) || c.toNat == 95
def takeL (w s : List UInt8) : Option (List UInt8) := if w.isPrefixOf s then some (s.drop w.length) else none
def strOf (l : List UInt8) : ByteArray := ⟨l.toArray⟩
/-- Names of members behind a type. -/
def dots : Nat → Ty → List UInt8 → Ty × List UInt8
  | 0, t, s => (t, s)
  | n + 1, t, s => match takeL [46] s with
    | some s1 => dots n (.node 8 (strOf (s1.takeWhile isW)) 0 [t]) (s1.dropWhile isW)
    | none => (t, s)
def rdList (rd : List UInt8 → Option (Ty × List UInt8 × Bool)) (e : List UInt8) : Nat → List Ty → List UInt8 → Option (List Ty × List UInt8 × Bool)
  | 0, _, _ => none
  | n + 1, l, s => match rd s with
    | none => none
    | some (t, s1, f1) => match takeL [44, 32] s1 with
      | some s2 => if f1 then some (l ++ [t], s2, true) else rdList rd e n (l ++ [t]) s2
      | none => match takeL e s1 with
        | some s3 => some (l ++ [t], s3, f1)
        | none => some (l ++ [t], s1, true)
def rdArgs (rd : List UInt8 → Option (Ty × List UInt8 × Bool)) (e s : List UInt8) : Option (List Ty × List UInt8 × Bool) := match takeL e s with
  | some s1 => some ([], s1, false)
  | none => rdList rd e (s.length + 1) [] s
/-- The node of a name with its parts. -/
def nomT (w : List UInt8) (l : List Ty) : Ty :=
  if l.length = 1 ∧ w = [65, 114, 114, 97, 121] then .node 5 ⟨#[]⟩ 0 l else if l.length = 1 ∧ w = [87, 101, 97, 107] then .node 11 ⟨#[]⟩ 0 l
  else if l.length = 0 ∧ w = [73, 110, 116] then .node 1 ⟨#[]⟩ 0 l else if l.length = 0 ∧ w = [66, 111, 111, 108] then .node 2 ⟨#[]⟩ 0 l
  else if l.length = 0 ∧ w = [84, 101, 120, 116] then .node 3 ⟨#[]⟩ 0 l else if l.length = 0 ∧ w = [85, 110, 105, 116] then .node 4 ⟨#[]⟩ 0 l
  else .node 6 (strOf w) 0 l
/-- What stands ahead of the points. -/
def rdAtom (rd : List UInt8 → Option (Ty × List UInt8 × Bool)) (s : List UInt8) : Option (Ty × List UInt8 × Bool) := match takeL [36] s with
  | some s1 => some (.node 7 (strOf (s1.takeWhile isW)) 0 [], s1.dropWhile isW, false)
  | none => match takeL [63] s with
    | some s1 => match Lib.atoiAll (s1.takeWhile isW) with
      | .ok v => some (.node 12 ⟨#[]⟩ v [], s1.dropWhile isW, false)
      | _ => none
    | none => match takeL [60] (s.dropWhile isW) with
      | some s2 => match rdArgs rd [62] s2 with
        | some (l, s3, f) => some (nomT (s.takeWhile isW) l, s3, f)
        | none => none
      | none => some (nomT (s.takeWhile isW) [], s.dropWhile isW, false)
def rdFn (rd : List UInt8 → Option (Ty × List UInt8 × Bool)) (s1 : List UInt8) : Option (Ty × List UInt8 × Bool) := match rdArgs rd [41, 32, 45, 62, 32] s1 with
  | none => none
  | some (l, s2, true) => some (.node 10 ⟨#[]⟩ 0 (l ++ [zeroTy]), s2, true)
  | some (l, s2, false) => match rd s2 with
    | none => none
    | some (t, s3, f) => some (.node 10 ⟨#[]⟩ 0 (l ++ [t]), s3, f)
def rdTyp : Nat → List UInt8 → Option (Ty × List UInt8 × Bool)
  | 0, s => some (zeroTy, s, true)
  | left + 1, s => match takeL [40] s with
    | some s1 => rdFn (rdTyp left) s1
    | none => match takeL [97, 110, 121, 32] s with
      | some s1 => some (.node 9 (strOf (s1.takeWhile isW)) 0 [], s1.dropWhile isW, false)
      | none => match rdAtom (rdTyp left) s with
        | none => none
        | some (t, s1, true) => some (t, s1, true)
        | some (t, s1, false) => some ((dots (s1.length + 1) t s1).1, (dots (s1.length + 1) t s1).2, false)
theorem take_len {w s s1 : List UInt8} (h : takeL w s = some s1) : s1.length + w.length = s.length := by
  unfold takeL at h
  split at h
  · rename_i hp
    cases h
    have := List.IsPrefix.length_le (List.isPrefixOf_iff_prefix.1 hp)
    simp; omega
  · cases h
theorem dw_len (s : List UInt8) : (s.dropWhile isW).length ≤ s.length := (List.dropWhile_sublist _).length_le
theorem dots_len : ∀ (n : Nat) (t : Ty) (s : List UInt8), (dots n t s).2.length ≤ s.length
  | 0, t, s => by simp [dots]
  | n + 1, t, s => by
    simp only [dots]
    split
    · rename_i s1 h
      have h1 := take_len h
      have h2 := dots_len n (.node 8 (strOf (s1.takeWhile isW)) 0 [t]) (s1.dropWhile isW)
      have h3 := dw_len s1
      simp at h1; omega
    · simp
def LenOk (rd : List UInt8 → Option (Ty × List UInt8 × Bool)) : Prop := ∀ s t s1 f, rd s = some (t, s1, f) → s1.length ≤ s.length
theorem rdList_len {rd : List UInt8 → Option (Ty × List UInt8 × Bool)} (hr : LenOk rd) (e : List UInt8) : ∀ (n : Nat) (l : List Ty) (s : List UInt8) (l' : List Ty) (s' : List UInt8) (f : Bool), rdList rd e n l s = some (l', s', f) → s'.length ≤ s.length
  | 0, l, s, l', s', f, h => by simp [rdList] at h
  | n + 1, l, s, l', s', f, h => by
    simp only [rdList] at h
    split at h
    · cases h
    · rename_i t s1 f1 h1
      have h2 := hr _ _ _ _ h1
      split at h
      · rename_i s2 h3
        have h4 := take_len h3
        split at h
        · cases h; omega
        · have := rdList_len hr e n _ _ _ _ _ h; omega
      · split at h
        · rename_i s3 h3
          have h4 := take_len h3
          cases h; omega
        · cases h; omega
theorem rdArgs_len {rd : List UInt8 → Option (Ty × List UInt8 × Bool)} (hr : LenOk rd) {e s : List UInt8} {l' : List Ty} {s' : List UInt8} {f : Bool} (h : rdArgs rd e s = some (l', s', f)) : s'.length ≤ s.length := by
  unfold rdArgs at h
  split at h
  · rename_i s1 h1
    have := take_len h1
    cases h; omega
  · exact rdList_len hr e _ _ _ _ _ _ h
theorem rdTyp_len : ∀ left, LenOk (rdTyp left)
  | 0 => fun s t s1 f h => by simp [rdTyp] at h; obtain ⟨-, rfl, -⟩ := h; omega
  | left + 1 => fun s t s1 f h => by
    have ih := rdTyp_len left
    simp only [rdTyp] at h
    split at h
    · rename_i s2 h2
      have h2 := take_len h2
      unfold rdFn at h
      split at h
      · cases h
      · rename_i h3
        have := rdArgs_len ih h3
        cases h; omega
      · rename_i h3
        have h4 := rdArgs_len ih h3
        split at h
        · cases h
        · rename_i h5
          have := ih _ _ _ _ h5
          cases h; omega
    · split at h
      · rename_i s2 h2
        have h2 := take_len h2
        have h3 := dw_len s2
        cases h; omega
      · have hat : ∀ t s1 f, rdAtom (rdTyp left) s = some (t, s1, f) → s1.length ≤ s.length := fun t s1 f h => by
          unfold rdAtom at h
          split at h
          · rename_i s2 h2
            have h2 := take_len h2
            have h3 := dw_len s2
            cases h; omega
          · split at h
            · rename_i s2 h2
              have h2 := take_len h2
              have h3 := dw_len s2
              split at h
              · cases h; omega
              · cases h
            · have h3 := dw_len s
              split at h
              · rename_i s2 h2
                have h2 := take_len h2
                split at h
                · rename_i h4
                  have := rdArgs_len ih h4
                  cases h; omega
                · cases h
              · cases h; omega
        split at h
        · cases h
        · rename_i h2
          have := hat _ _ _ h2
          cases h; omega
        · rename_i h2
          have := hat _ _ _ h2
          have := dots_len
          cases h
          exact Nat.le_trans (dots_len _ _ _) (by omega)
end Go.Proofs.YtokmaehefenpmaaDoor
