/- A text that is read is the number's text. -/
import Derived.Test.YtclainfdeghgnaaM4
namespace Go.Proofs.Ytclainfdeghgnaa
open Go.RowKit Go.Proofs.Ytclainfdeghgnaa.Nm

theorem dch_of {c : UInt8} (h : okc c = true) : dch (c.toNat - 48) = c := by
  unfold okc at h
  simp only [Bool.and_eq_true, decide_eq_true_eq] at h
  apply UInt8.toNat_inj.1
  rw [dch_nat (by omega)]
  omega
/-- Digits with no zero ahead are the digits of their value. -/
theorem dtxt_rv (l : List UInt8) (h : ∀ c ∈ l, okc c = true) : dtxt (rv l.reverse) l.length = l := by
  apply List.ext_getElem
  · rw [dtxt_length]
  · intro i h1 h2
    have hget : ∀ (n k i : Nat) (h : i < (dtxt n k).length), (dtxt n k)[i] = dch (dg n (k - 1 - i)) := by
      intro n k
      induction k with
      | zero => intro i h; simp [dtxt] at h
      | succ k ih =>
        intro i h
        cases i with
        | zero => simp [dtxt]
        | succ i =>
          simp only [dtxt, List.getElem_cons_succ]
          rw [ih]
          congr 2
          omega
    rw [hget, dg_rv _ (by simpa using h)]
    rw [List.getD_eq_getElem?_getD, List.getElem?_reverse (by omega)]
    have e : l.length - 1 - (l.length - 1 - i) = i := by omega
    rw [e, List.getElem?_eq_getElem h2]
    exact dch_of (h _ (List.getElem_mem h2))
theorem rv_zero {l : List UInt8} (h : ∀ c ∈ l, okc c = true) (hz : rv l.reverse = 0) : ∀ c ∈ l, c = 48 := by
  intro c hc
  have h1 := dtxt_rv l h
  rw [hz] at h1
  rw [← h1] at hc
  have : ∀ k, ∀ c ∈ dtxt 0 k, c = 48 := by
    intro k
    induction k with
    | zero => intro c hc; simp [dtxt] at hc
    | succ k ih =>
      intro c hc
      simp only [dtxt, List.mem_cons] at hc
      rcases hc with rfl | hc
      · simp [dg]; decide
      · exact ih c hc
  exact this _ c hc
theorem dlen_rv (l : List UInt8) (h : ∀ c ∈ l, okc c = true) (h0 : l ≠ []) (h1 : l.head? ≠ some 48 ∨ l.length = 1) : dlen (rv l.reverse) = l.length := by
  have hp := List.length_pos_iff.2 h0
  obtain ⟨t, ht⟩ : ∃ t, l.length = t + 1 := ⟨l.length - 1, by omega⟩
  have hlt := rv_lt l.reverse (by simpa using h)
  rw [List.length_reverse, ht] at hlt
  rw [dlen_of hlt, ht]
  rcases h1 with h1 | h1
  · right
    rw [dg_rv _ (by simpa using h), List.getD_eq_getElem?_getD, List.getElem?_reverse (by omega)]
    have e : l.length - 1 - t = 0 := by omega
    rw [e, List.getElem?_eq_getElem hp]
    intro hz
    apply h1
    rw [List.head?_eq_getElem?, List.getElem?_eq_getElem hp]
    have h2 := h _ (List.getElem_mem hp)
    unfold okc at h2
    simp only [Bool.and_eq_true, decide_eq_true_eq] at h2
    congr 1
    apply UInt8.toNat_inj.1
    have h4 : (48 : UInt8).toNat = 48 := rfl
    simp at hz
    omega
  · left; omega
theorem txt_rd {s : List UInt8} {x : Int} (h : rd s = some x) : txt x = s := by
  unfold rd at h
  split at h
  · cases h
  · rename_i hc
    simp only [not_or, not_and, Bool.not_eq_false, List.all_eq_true] at hc
    obtain ⟨_, h2, h3, h4⟩ := hc
    simp only [Option.some.injEq] at h
    obtain ⟨d, hd⟩ : ∃ d, Lib.trimPrefix s [45] = d := ⟨_, rfl⟩
    rw [hd] at h h2 h3 h4
    have hdl : d.head? ≠ some 48 ∨ d.length = 1 := by
      by_cases hh : d.head? = some 48
      · right
        have hs : s = [48] := by simpa using h3 hh
        rw [hs] at hd
        rw [← hd]; decide
      · exact Or.inl hh
    have hlen := dlen_rv d h4 h2 hdl
    have htx := dtxt_rv d h4
    -- the sign
    unfold Lib.trimPrefix Lib.hasPrefix at hd
    cases hp : List.isPrefixOf [45] s with
    | false =>
      rw [hp] at hd
      simp only [Bool.false_eq_true, if_false] at hd
      subst hd
      simp only [Nat.lt_irrefl, decide_false] at h
      have hx : x = (rv s.reverse : Int) := by rw [← h]; unfold sg; simp
      unfold txt sgn
      rw [ng_def, hx]
      have e1 : decide ((rv s.reverse : Int) < 0) = false := by simp
      rw [e1, Int.natAbs_natCast, hlen, htx]
      rfl
    | true =>
      rw [hp] at hd
      simp only [if_true] at hd
      obtain ⟨t, ht⟩ := List.isPrefixOf_iff_prefix.1 hp
      have ht2 : s = 45 :: t := by rw [← ht]; rfl
      rw [ht2] at hd
      have hdt : d = t := by rw [← hd]; rfl
      subst hdt
      rw [ht2] at h h3
      have hlt : decide (d.length < (45 :: d).length) = true := by simp
      rw [hlt] at h
      have hr0 : rv d.reverse ≠ 0 := by
        intro hz
        have hall := rv_zero h4 hz
        cases d with
        | nil => exact h2 rfl
        | cons c l =>
          have := hall c (by simp)
          subst this
          have := h3 (by simp)
          simp at this
      have hx : x = -(rv d.reverse : Int) := by rw [← h]; unfold sg; simp
      unfold txt sgn
      rw [ng_def, hx]
      have e1 : decide (-(rv d.reverse : Int) < 0) = true := by simp; omega
      rw [e1, Int.natAbs_neg, Int.natAbs_natCast, hlen, htx, ht2]
      rfl
end Go.Proofs.Ytclainfdeghgnaa
