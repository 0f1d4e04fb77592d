/- The law of the wrapping sums and products holds. -/
import Derived.Test.YtclainfdeghgnaaW34
namespace Go.Proofs.Ytclainfdeghgnaa
open Go.RowKit Go.Proofs.Ytclainfdeghgnaa.Nm

theorem rdm_txt (z : Int) (hz : z.natAbs < 10 ^ 39) : rdm ⟨(txt z).toArray⟩ = some z := by
  unfold rdm
  exact rd_txt z hz
theorem wrap39 {bits : Int} (s : Bool) (hr : isRight bits = true) (z : Int) : (wrapW bits.toNat s z).natAbs < 10 ^ 39 := by
  obtain ⟨n, rfl, h1, h2, h3⟩ := right_bits hr
  rw [h3]
  have := has_bd h1 h2 (wrap_has h1 s z)
  have h4 : (18446744073709551616 : Nat) < 10 ^ 39 := by decide
  omega
theorem hasI_wrap {bits : Int} (s : Bool) (hr : isRight bits = true) (z : Int) : hasI bits s (wrapW bits.toNat s z) = true := by
  obtain ⟨n, rfl, h1, h2, h3⟩ := right_bits hr
  unfold hasI; rw [h3]; exact wrap_has h1 s z
theorem argsOk_of {a b : ByteArray} {bits : Int} {s : Bool} {x y : Int} (h1 : rdm a = some x) (h2 : rdm b = some y) (h3 : isRight bits = true) (h4 : hasI bits s x = true) (h5 : hasI bits s y = true) : argsOk a b bits s = some (x, y) := by
  unfold argsOk; rw [h1, h2]; simp [h3, h4, h5]
theorem wrapS_of (f : Int → Int → Int) {a b : ByteArray} {bits : Int} {s : Bool} {x y : Int} (h1 : rdm a = some x) (h2 : rdm b = some y) (h3 : isRight bits = true) (h4 : hasI bits s x = true) (h5 : hasI bits s y = true) : wrapS f a b bits s = txt (wrapW bits.toNat s (f x y)) := by
  unfold wrapS; rw [argsOk_of h1 h2 h3 h4 h5]
theorem txt_nob (z : Int) : (txt z == [110, 111]) = false := by rw [beq_eq_false_iff_ne]; exact txt_no z
theorem NumberWraps_any (a b c md : ByteArray) (bits : Int) (s : Bool) (w : World) :
    Calls Try.prog 5 #[.string a, .string b, .agg #[.string c, .int .i64 bits, .bool s, .string md]] w fun e w' => e = .returned (.bool true) ∧ Below w.heap.size w w' := by
  cases la : decide (200 < a.size) with
  | true => exact NW_a a b c md bits s (Lib.hid la) w
  | false =>
  cases lb : decide (200 < b.size) with
  | true => exact NW_b a b c md bits s (Lib.hid la) (Lib.hid lb) w
  | false =>
  cases lc : decide (200 < c.size) with
  | true => exact NW_c a b c md bits s (Lib.hid la) (Lib.hid lb) (Lib.hid lc) w
  | false =>
  cases hab : argsOk a b bits s with
  | none => exact NW_ab a b c md bits s (Lib.hid la) (Lib.hid lb) (Lib.hid lc) (Lib.hid (by unfold wrapS; rw [hab])) w
  | some p =>
  obtain ⟨x, y⟩ := p
  obtain ⟨hx, hy, hr, hhx, hhy⟩ := argsOk_some hab
  have eab := wrapS_of (· + ·) hx hy hr hhx hhy
  cases hbc : argsOk b c bits s with
  | none => exact NW_bc a b c md bits s (Lib.hid la) (Lib.hid lb) (Lib.hid lc) _ (Lib.hid eab) (txt_nob _) (Lib.hid (by unfold wrapS; rw [hbc])) w
  | some q =>
  obtain ⟨y', z⟩ := q
  obtain ⟨hy', hz, _, _, hhz⟩ := argsOk_some hbc
  obtain rfl : y = y' := Option.some.inj (hy.symm.trans hy')
  obtain ⟨n, hn, h1, h2, h3⟩ := right_bits hr
  have rt : ∀ v : Int, rdm ⟨(txt (wrapW bits.toNat s v)).toArray⟩ = some (wrapW bits.toNat s v) := fun v => rdm_txt _ (wrap39 s hr v)
  have hw : ∀ v : Int, hasI bits s (wrapW bits.toNat s v) = true := hasI_wrap s hr
  refine NW_main a b c md bits s (Lib.hid la) (Lib.hid lb) (Lib.hid lc) _ _ (Lib.hid eab) (txt_nob _) (Lib.hid (wrapS_of (· + ·) hy hz hr hhy hhz)) (txt_nob _) _ _ _ _ _ _
    (Lib.hid (wrapS_of (· + ·) (rt _) hz hr (hw _) hhz)) (Lib.hid ?_) (Lib.hid (wrapS_of (· * ·) hx hy hr hhx hhy)) (Lib.hid (wrapS_of (· * ·) hy hz hr hhy hhz)) (Lib.hid (wrapS_of (· * ·) hx hz hr hhx hhz))
    (Lib.hid (wrapS_of (· * ·) (rt _) hz hr (hw _) hhz)) (Lib.hid ?_) (Lib.hid (wrapS_of (· * ·) hx (rt _) hr hhx (hw _))) (Lib.hid ?_) (txt_nob _) (txt_nob _) (txt_nob _) (Lib.hid ?_) (Lib.hid ?_) (Lib.hid ?_) w
  · rw [wrapS_of (· + ·) hx (rt _) hr hhx (hw _)]; exact congrArg txt (wraps_add _ _ _ _ _).symm
  · rw [wrapS_of (· * ·) hx (rt _) hr hhx (hw _)]; exact congrArg txt (wraps_mul _ _ _ _ _).symm
  · rw [wrapS_of (· + ·) (rt _) (rt _) hr (hw _) (hw _)]; exact congrArg txt (wraps_over _ _ _ _ _).symm
  · rw [wrapS_of (· + ·) hy hx hr hhy hhx]; exact congrArg (fun v => txt (wrapW bits.toNat s v)) (Int.add_comm _ _)
  · rw [wrapS_of (· * ·) hy hx hr hhy hhx]; exact congrArg (fun v => txt (wrapW bits.toNat s v)) (Int.mul_comm _ _)
  · rw [wrapS_of (· - ·) (rt _) hy hr (hw _) hhy]
    have hhx' : hasW bits.toNat s x = true := hhx
    have e := wraps_back (n := bits.toNat) (by omega) y hhx'
    exact (congrArg txt e).trans (txt_rd hx)
end Go.Proofs.Ytclainfdeghgnaa
