/- The operations that wrap, on any two texts. -/
import Derived.Test.YtclainfdeghgnaaW31
import Derived.Outline
namespace Go.Proofs.Ytclainfdeghgnaa
open Go.RowKit Go.Proofs.Ytclainfdeghgnaa.Nm

/-- The numbers that two texts are, where both are values of the width. -/
def argsOk (a b : ByteArray) (bits : Int) (s : Bool) : Option (Int × Int) :=
  match rdm a, rdm b with
  | some x, some y => if isRight bits && hasI bits s x && hasI bits s y then some (x, y) else none
  | _, _ => none
theorem argsOk_some {a b : ByteArray} {bits : Int} {s : Bool} {x y : Int} (h : argsOk a b bits s = some (x, y)) : rdm a = some x ∧ rdm b = some y ∧ isRight bits = true ∧ hasI bits s x = true ∧ hasI bits s y = true := by
  unfold argsOk at h
  split at h
  · rename_i x' y' hx hy
    split at h
    · rename_i hc
      simp only [Bool.and_eq_true] at hc
      simp only [Option.some.injEq, Prod.mk.injEq] at h
      obtain ⟨rfl, rfl⟩ := h
      exact ⟨hx, hy, hc.1.1, hc.1.2, hc.2⟩
    · cases h
  · cases h
theorem argsOk_none {a b : ByteArray} {bits : Int} {s : Bool} (h : argsOk a b bits s = none) : (rdm a = none ∨ rdm b = none) ∨ ∃ x y, rdm a = some x ∧ rdm b = some y ∧ (isRight bits = false ∨ (isRight bits = true ∧ (hasI bits s x = false ∨ (hasI bits s x = true ∧ hasI bits s y = false)))) := by
  unfold argsOk at h
  cases hx : rdm a with
  | none => exact Or.inl (Or.inl rfl)
  | some x =>
    cases hy : rdm b with
    | none => exact Or.inl (Or.inr rfl)
    | some y =>
      simp only [hx, hy] at h
      refine Or.inr ⟨x, y, rfl, rfl, ?_⟩
      cases h1 : isRight bits <;> cases h2 : hasI bits s x <;> cases h3 : hasI bits s y <;> simp_all
/-- An operation of numbers that the kit of this family knows: its text, its value, its bounds. -/
structure Known (op : ByteArray) (f : Int → Int → Int) : Prop where
  ok : isOpL op.data.toList = true
  s1 : (op.toList == [60, 60]) = false
  s2 : (op.toList == [62, 62]) = false
  d1 : (op.toList == [47]) = false
  d2 : (op.toList == [37]) = false
  ex : ∀ (bits : Int) (s : Bool) (x y : Int), x.natAbs ≤ 18446744073709551616 → y.natAbs ≤ 18446744073709551616 → ∀ w, Calls Try.prog 60 #[.agg (wi bits s), .string op, .agg (lv x), .agg (lv y)] w fun e w' => e = .returned (.agg (lv (f x y))) ∧ Below w.heap.size w w'
  bd : ∀ x y : Int, x.natAbs ≤ 18446744073709551616 → y.natAbs ≤ 18446744073709551616 → (f x y).natAbs ≤ 100000000000000000000000000000000000000000000000000000000000
theorem known_add (op : ByteArray) (h : op.data.toList = [43]) : Known op (· + ·) := by
  refine ⟨by rw [h]; decide, lit_eq h rfl, lit_eq h rfl, lit_eq h rfl, lit_eq h rfl, fun bits s x y hx hy => exact_add op bits s x y h (Lib.hid (small64 (by omega))), fun x y hx hy => ?_⟩
  show (x + y).natAbs ≤ _
  omega
theorem known_sub (op : ByteArray) (h : op.data.toList = [45]) : Known op (· - ·) := by
  refine ⟨by rw [h]; decide, lit_eq h rfl, lit_eq h rfl, lit_eq h rfl, lit_eq h rfl, fun bits s x y hx hy => exact_sub op bits s x y h (Lib.hid (small64 (by omega))) (Lib.hid (small64 (by omega))), fun x y hx hy => ?_⟩
  show (x - y).natAbs ≤ _
  omega
theorem mul_bd {x y : Int} (hx : x.natAbs ≤ 18446744073709551616) (hy : y.natAbs ≤ 18446744073709551616) : x.natAbs * y.natAbs ≤ 340282366920938463463374607431768211456 := Nat.le_trans (Nat.mul_le_mul hx hy) (by decide)
theorem known_mul (op : ByteArray) (h : op.data.toList = [42]) : Known op (· * ·) := by
  refine ⟨by rw [h]; decide, lit_eq h rfl, lit_eq h rfl, lit_eq h rfl, lit_eq h rfl, fun bits s x y hx hy => exact_mul op bits s x y h (Lib.hid (big64 (by have := mul_bd hx hy; omega))), fun x y hx hy => ?_⟩
  show (x * y).natAbs ≤ _
  rw [Int.natAbs_mul]
  have := mul_bd hx hy
  omega
theorem hasI_bd {bits : Int} {s : Bool} {x : Int} (hr : isRight bits = true) (hx : hasI bits s x = true) : x.natAbs ≤ 18446744073709551616 := by
  obtain ⟨n, rfl, h1, h2, h3⟩ := right_bits hr
  unfold hasI at hx
  rw [h3] at hx
  have := has_bd h1 h2 hx
  omega
theorem bring_wrapS (bits : Int) (s : Bool) (hr : isRight bits = true) (m : ByteArray) (hm : m.data.toList = [119, 114, 97, 112]) (z : Int) : bringW bits.toNat s m.toList z = (wrapW bits.toNat s z, 0) := by
  obtain ⟨n, rfl, h1, h2, h3⟩ := right_bits hr
  rw [h3, ByteArray.toList_eq, hm]
  unfold bringW
  cases hz : hasW n s z
  · simp [isWrap]
  · simp [wrap_of_has h1 hz]
theorem wrap_bd {bits : Int} (s : Bool) (hr : isRight bits = true) (z : Int) : (wrapW bits.toNat s z).natAbs < 10 ^ 64 := by
  obtain ⟨n, rfl, h1, h2, h3⟩ := right_bits hr
  rw [h3]
  have := has_bd h1 h2 (wrap_has h1 s z)
  exact small64 (by omega)
theorem ng_of (y : Int) : ng y = false ∨ ng y = true := by cases ng y <;> simp
/-- An operation in the mode wrap, done. -/
theorem Do_wrap {op : ByteArray} {f : Int → Int → Int} (K : Known op f) (a b md : ByteArray) (bits : Int) (s : Bool) (hmd : md.data.toList = [119, 114, 97, 112]) (x y : Int) (h : argsOk a b bits s = some (x, y)) (w : World) :
    Calls Try.prog 22 #[.string op, .string a, .string b, .int .i64 bits, .bool s, .string md] w fun e w' => e = .returned (.tuple #[.string ⟨(txt (wrapW bits.toNat s (f x y))).toArray⟩, .int .i64 0]) ∧ Below w.heap.size w w' := by
  obtain ⟨hx, hy, hr, hhx, hhy⟩ := argsOk_some h
  have bx := hasI_bd hr hhx
  have bY := hasI_bd hr hhy
  exact Do_plain op a b md bits s x y (f x y) (wrapW bits.toNat s (f x y)) 0 hx hy (Lib.hid hr) (Lib.hid (by rw [hmd]; decide)) (Lib.hid K.ok) K.s1 K.s2 (Lib.hid hhx) (Lib.hid hhy) K.d1 K.d2 (Lib.hid (K.ex bits s x y bx bY)) (Lib.hid (K.bd x y bx bY))
    (Lib.hid (bring_wrapS bits s hr md hmd _)) (Lib.hid (wrap_bd s hr _)) _ (Lib.hid fun _ => rfl) (Lib.hid fun h => absurd rfl h) w
/-- .. refused. -/
theorem Do_no {op : ByteArray} {f : Int → Int → Int} (K : Known op f) (a b md : ByteArray) (bits : Int) (s : Bool) (hmd : md.data.toList = [119, 114, 97, 112]) (h : argsOk a b bits s = none) (w : World) :
    Calls Try.prog 22 #[.string op, .string a, .string b, .int .i64 bits, .bool s, .string md] w fun e w' => ∃ er : Int, e = .returned (.tuple #[.string ⟨#[]⟩, .int .i64 er]) ∧ er ≠ 0 ∧ Below w.heap.size w w' := by
  have hml : isModeL md.data.toList = true := by rw [hmd]; decide
  rcases argsOk_none h with h | ⟨x, y, hx, hy, h | ⟨hr, h | ⟨hhx, h⟩⟩⟩
  · exact (Do_form op a b md bits s h w).mono fun e w' ⟨h1, h2⟩ => ⟨4, h1, by decide, h2⟩
  · exact (Do_name1 op a b md bits s x y hx hy (Lib.hid h) w).mono fun e w' ⟨h1, h2⟩ => ⟨3, h1, by decide, h2⟩
  · exact (Do_range1 op a b md bits s x y hx hy (Lib.hid hr) (Lib.hid hml) (Lib.hid K.ok) false false K.s1 K.s2 (Lib.hid h) w).mono fun e w' ⟨h1, h2⟩ => ⟨1, h1, by decide, h2⟩
  · exact (Do_range2 op a b md bits s x y hx hy (Lib.hid hr) (Lib.hid hml) (Lib.hid K.ok) false false K.s1 K.s2 (Lib.hid hhx) (Lib.hid h) w).mono fun e w' ⟨h1, h2⟩ => ⟨1, h1, by decide, h2⟩

/-- What 'wrapped' answers. -/
def wrapS (f : Int → Int → Int) (a b : ByteArray) (bits : Int) (s : Bool) : List UInt8 :=
  match argsOk a b bits s with
  | some (x, y) => txt (wrapW bits.toNat s (f x y))
  | none => [110, 111]
set_option maxHeartbeats 400000 in
theorem wrapped_any {op : ByteArray} {f : Int → Int → Int} (K : Known op f) (a b md : ByteArray) (bits : Int) (s : Bool) (w : World) :
    Calls Try.prog 26 #[.string op, .string a, .string b, .agg #[.int .i64 bits, .bool s, .string md]] w fun e w' => e = .returned (.string ⟨(wrapS f a b bits s).toArray⟩) ∧ Below w.heap.size w w' := by
  cases h : argsOk a b bits s with
  | none =>
    have hR : wrapS f a b bits s = [110, 111] := by unfold wrapS; rw [h]
    rw [hR]
    go_enter Try.func26, Try.ntmps26
    go_upto_region 1 with (fail)
    refine wp_world (fun W => W.heap[w.heap.size]? = some (.cells (#[.int .i64 bits, .bool s, .string md]) 25 (0, 0)) ∧ Below w.heap.size w W) ⟨ha_new rfl, ((Below.refl _ _).alloc (Nat.le_refl _) _)⟩ ?_
    rintro W ⟨h0, hb⟩
    have c0 : W.cell? ⟨w.heap.size, 0, none⟩ = some (.int .i64 bits) := by rw [cell_of_row _ _ _ _ _ _ h0]; rfl
    have c1 : W.cell? ⟨w.heap.size, 1, none⟩ = some (.bool s) := by rw [cell_of_row _ _ _ _ _ _ h0]; rfl
    go_wp2_with (go_at_call 22; refine (Do_no K a b _ bits s rfl h _).mono ?_)
    rintro e w1 ⟨er, rfl, her, hb1⟩
    replace hb := hb.trans (hb1.mono hb.size)
    go_wp2_with fail
    go_ret
    exact ⟨rfl, hb⟩
  | some p =>
    obtain ⟨x, y⟩ := p
    have hR : wrapS f a b bits s = txt (wrapW bits.toNat s (f x y)) := by unfold wrapS; rw [h]
    rw [hR]
    obtain ⟨t, ht⟩ : ∃ t, t = txt (wrapW bits.toNat s (f x y)) := ⟨_, rfl⟩
    have HD := Lib.hid (Do_wrap K a b ⟨#[119, 114, 97, 112]⟩ bits s rfl x y h)
    rw [← ht] at HD ⊢
    clear ht hR
    go_enter Try.func26, Try.ntmps26
    go_upto_region 1 with (fail)
    refine wp_world (fun W => W.heap[w.heap.size]? = some (.cells (#[.int .i64 bits, .bool s, .string md]) 25 (0, 0)) ∧ Below w.heap.size w W) ⟨ha_new rfl, ((Below.refl _ _).alloc (Nat.le_refl _) _)⟩ ?_
    rintro W ⟨h0, hb⟩
    have c0 : W.cell? ⟨w.heap.size, 0, none⟩ = some (.int .i64 bits) := by rw [cell_of_row _ _ _ _ _ _ h0]; rfl
    have c1 : W.cell? ⟨w.heap.size, 1, none⟩ = some (.bool s) := by rw [cell_of_row _ _ _ _ _ _ h0]; rfl
    go_wp2_with (go_at_call 22; refine (HD.out _).mono ?_)
    rintro e w1 ⟨rfl, hb1⟩
    replace hb := hb.trans (hb1.mono hb.size)
    go_wp2_with fail
    go_ret
    exact ⟨rfl, hb⟩
end Go.Proofs.Ytclainfdeghgnaa
