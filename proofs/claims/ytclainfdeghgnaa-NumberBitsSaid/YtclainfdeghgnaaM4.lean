/- A number's text is read as the number; numbers wrapped into a width. -/
import Derived.Test.YtclainfdeghgnaaW18
namespace Go.Proofs.Ytclainfdeghgnaa
open Go.RowKit Go.Proofs.Ytclainfdeghgnaa.Nm

theorem dch_okc {d : Nat} (h : d < 10) : okc (dch d) = true := by
  unfold okc; rw [dch_nat h]; simp; omega
theorem dtxt_okc (n k : Nat) : ∀ c ∈ dtxt n k, okc c = true := by
  induction k with
  | zero => intro c hc; simp [dtxt] at hc
  | succ k ih =>
    intro c hc
    simp only [dtxt, List.mem_cons] at hc
    rcases hc with rfl | hc
    · exact dch_okc (dg_lt _ _)
    · exact ih c hc
theorem rv_append (l m : List UInt8) : rv (l ++ m) = rv l + 10 ^ l.length * rv m := by
  induction l with
  | nil => simp [rv]
  | cons c l ih => simp only [List.cons_append, rv, ih, List.length_cons, Nat.pow_succ]; grind
theorem rv_dtxt (n k : Nat) : rv (dtxt n k).reverse = n % 10 ^ k := by
  induction k with
  | zero => simp [dtxt, rv, Nat.mod_one]
  | succ k ih =>
    rw [dtxt, List.reverse_cons, rv_append, ih, mod_succ]
    simp only [List.length_reverse, dtxt_length, rv, dch_nat (dg_lt n k)]
    rw [show 48 + dg n k - 48 + 10 * 0 = dg n k by omega]
theorem top_dg {n : Nat} (h : n ≠ 0) : dg n (dlen n - 1) ≠ 0 := by
  induction n using Nat.strongRecOn with
  | ind n ih =>
    by_cases h10 : n < 10
    · rw [dlen_small h10]; simp [dg]; omega
    · rw [dlen_big h10, Nat.add_sub_cancel]
      have hp := dlen_pos (n / 10)
      obtain ⟨t, ht⟩ : ∃ t, dlen (n / 10) = t + 1 := ⟨dlen (n / 10) - 1, by omega⟩
      have := ih (n / 10) (by omega) (by omega)
      rw [ht] at this ⊢
      rw [dg_succ]; simpa using this
theorem dtxt_dlen (n : Nat) : ∃ l, dtxt n (dlen n) = dch (dg n (dlen n - 1)) :: l := by
  have hp := dlen_pos n
  obtain ⟨t, ht⟩ : ∃ t, dlen n = t + 1 := ⟨dlen n - 1, by omega⟩
  rw [ht]; exact ⟨dtxt n t, rfl⟩
theorem dch_ne {d : Nat} (h : d < 10) : dch d ≠ 45 := by
  intro e
  have := dch_nat h
  rw [e] at this
  have h2 : (45 : UInt8).toNat = 45 := rfl
  omega
theorem txt_trim (z : Int) : Lib.trimPrefix (txt z) [45] = dtxt z.natAbs (dlen z.natAbs) := by
  unfold txt sgn Lib.trimPrefix Lib.hasPrefix
  obtain ⟨l, hl⟩ := dtxt_dlen z.natAbs
  cases ng z
  · have hne := dch_ne (dg_lt z.natAbs (dlen z.natAbs - 1))
    rw [hl]
    have : (45 == dch (dg z.natAbs (dlen z.natAbs - 1))) = false := by rw [beq_eq_false_iff_ne]; exact fun e => hne e.symm
    simp [List.isPrefixOf, this]
  · simp [List.isPrefixOf]
theorem rd_txt (z : Int) (hz : z.natAbs < 10 ^ 39) : rd (txt z) = some z := by
  have hd := txt_trim z
  have hl1 : dlen z.natAbs ≤ 39 := dlen_le (k := 38) hz
  have hp := dlen_pos z.natAbs
  have hlen : (txt z).length = (sgn z).length + dlen z.natAbs := by unfold txt; simp [dtxt_length]
  have hs : (sgn z).length = if z < 0 then 1 else 0 := by unfold sgn; rw [ng_def]; by_cases h : z < 0 <;> simp [h]
  obtain ⟨l, hl⟩ := dtxt_dlen z.natAbs
  rw [rd_some]
  · rw [hd, rv_dtxt, Nat.mod_eq_of_lt (lt_dlen _), dtxt_length, hlen, hs]
    congr 1
    unfold sg
    by_cases h : z < 0 <;> simp [h] <;> omega
  · rw [hd]
    simp only [not_or]
    refine ⟨by rw [hlen, hs]; split <;> omega, by rw [hl]; simp, ?_, by rw [List.all_eq_true.2 (dtxt_okc _ _)]; simp⟩
    rintro ⟨h1, h2⟩
    rw [hl] at h1
    simp only [List.head?_cons, Option.some.injEq] at h1
    have h3 := dch_nat (dg_lt z.natAbs (dlen z.natAbs - 1))
    rw [h1] at h3
    have h4 : (48 : UInt8).toNat = 48 := rfl
    have h5 : dg z.natAbs (dlen z.natAbs - 1) = 0 := by omega
    by_cases h0 : z.natAbs = 0
    · have : z = 0 := by omega
      subst this
      apply h2
      unfold txt sgn
      rw [ng_def, show (0 : Int).natAbs = 0 from rfl, dlen_small (by decide)]
      decide
    · exact top_dg h0 h5
theorem txt_no (z : Int) : txt z ≠ [110, 111] := by
  intro h
  have h1 : ∀ c ∈ txt z, c = 45 ∨ okc c = true := by
    unfold txt sgn
    intro c hc
    rw [List.mem_append] at hc
    rcases hc with hc | hc
    · cases hn : ng z <;> simp [hn] at hc
      exact Or.inl hc
    · exact Or.inr (dtxt_okc _ _ c hc)
  rw [h] at h1
  have := h1 110 (by simp)
  revert this
  decide
end Go.Proofs.Ytclainfdeghgnaa
