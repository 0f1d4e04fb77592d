/- The examples of the chapter hold. -/
import Derived.Test.YtclainfdeghgnaaW25
import Derived.Test.YtclainfdeghgnaaW24
import Derived.Test.YtclainfdeghgnaaW30
import Derived.Outline
namespace Go.Proofs.Ytclainfdeghgnaa
open Go.RowKit Go.Proofs.Ytclainfdeghgnaa.Nm

theorem aw_rd1 : rdm ⟨#[49, 50, 55]⟩ = some 127 := by decide
theorem aw_rd2 : rdm ⟨#[49]⟩ = some 1 := by decide
theorem aw_bring (m : ByteArray) (hm : m.data.toList = [119, 114, 97, 112]) : bringW (8 : Int).toNat true m.toList (127 + 1) = (-128, 0) := by
  rw [ByteArray.toList_eq, hm]; decide
theorem aw_txt : txt (-128) = [45, 49, 50, 56] := by
  have h1 : dlen 128 = 3 := by rw [dlen_big (by decide), dlen_big (by decide), dlen_small (by decide)]
  unfold txt sgn
  rw [ng_def, show (-128 : Int).natAbs = 128 from rfl, h1]
  decide
theorem aw_Do (op a b md : ByteArray) (ho : op = ⟨#[43]⟩) (ha : a = ⟨#[49, 50, 55]⟩) (hb : b = ⟨#[49]⟩) (hmd : md = ⟨#[119, 114, 97, 112]⟩) (w : World) :
    Calls Try.prog 22 #[.string op, .string a, .string b, .int .i64 8, .bool true, .string md] w fun e w' => e = .returned (.tuple #[.string ⟨#[45, 49, 50, 56]⟩, .int .i64 0]) ∧ Below w.heap.size w w' := by
  have hol : op.data.toList = [43] := by rw [ho]
  have hml : md.data.toList = [119, 114, 97, 112] := by rw [hmd]
  have b64 : (127 : Int).natAbs + (1 : Int).natAbs < 10 ^ 64 := by decide
  refine Do_plain op a b md 8 true 127 1 (127 + 1) (-128) 0 (by rw [ha]; exact aw_rd1) (by rw [hb]; exact aw_rd2) (Lib.hid (by decide)) (Lib.hid (by rw [hml]; decide)) (Lib.hid (by rw [hol]; decide))
    (lit_eq hol rfl) (lit_eq hol rfl) (Lib.hid (by decide)) (Lib.hid (by decide)) (lit_eq hol rfl) (lit_eq hol rfl) (Lib.hid (exact_add op 8 true 127 1 hol (Lib.hid b64))) (Lib.hid (by decide)) (Lib.hid (aw_bring md hml)) (Lib.hid (by decide)) _ (Lib.hid fun _ => ?_) (Lib.hid fun h => absurd rfl h) w
  rw [aw_txt]
theorem aw_Div (m : ByteArray) (hm : m = ⟨#[104, 97, 108, 102]⟩) (w : World) :
    Calls Try.prog 24 #[.agg (dc 2 0), .agg (dc 3 0), .int .i64 2, .string m] w fun e' w' => e' = .returned (.tuple #[.agg (dc 67 2), .int .i64 0]) ∧ Below w.heap.size w w' := by
  have hml : m.data.toList = [104, 97, 108, 102] := by rw [hm]
  have db : DivBd 2 0 3 0 2 := ⟨by decide, by decide, by decide, by decide, by decide, by decide, by decide, by decide, by decide, by decide, by decide, by decide, by decide, by decide, by decide⟩
  have hz : (67 : Int) = roundS m.data.toList (2 * ((10 ^ ((0 : Int) + 2).toNat : Nat) : Int)) (3 * ((10 ^ (0 : Int).toNat : Nat) : Int)) := by
    rw [hml]; unfold roundS; rw [ng_def, ng_def]; decide
  exact Div_ok 2 0 3 0 2 m 0 (Lib.hid (by rw [hml]; decide)) rfl (by decide) (Lib.hid db) (by decide) (by decide) (by decide) (by decide) (Lib.hid (by rw [hml]; decide)) 67 2 0 67 (Lib.hid hz) (Lib.hid (by decide)) (Lib.hid (by decide)) (Lib.hid (by decide)) (Lib.hid (by decide)) w
theorem aw_Div2 (m : ByteArray) (hm : m = ⟨#[104, 97, 108, 102]⟩) (w : World) :
    Calls Try.prog 24 #[.agg #[.int .i64 2, .int .i64 0], .agg #[.int .i64 3, .int .i64 0], .int .i64 2, .string m] w fun e' w' => e' = .returned (.tuple #[.agg #[.int .i64 67, .int .i64 2], .int .i64 0]) ∧ Below w.heap.size w w' := aw_Div m hm w
set_option maxHeartbeats 400000 in
theorem awake_any (w : World) : Calls Try.prog 21 #[] w fun e w' => e = .returned (.bool true) ∧ Below w.heap.size w w' := by
  have l1 : ((ByteArray.mk #[45, 49, 50, 56]).toList == [45, 49, 50, 56]) = true := lit_eq (L := [45, 49, 50, 56]) rfl rfl
  go_enter Try.func21, Try.ntmps21
  go_upto_region 2 with (go_at_call 22; refine (aw_Do _ _ _ _ rfl rfl rfl rfl _).mono ?_; rintro e w1 ⟨rfl, hb⟩)
  go_upto_region 3 with (go_at_call 24; refine (aw_Div2 _ rfl _).mono ?_; rintro e w2 ⟨rfl, hb2⟩; replace hb := hb.trans (hb2.mono hb.size); clear hb2)
  go_wp2_with fail
  go_ret
  exact ⟨rfl, hb.alloc hb.size _⟩
end Go.Proofs.Ytclainfdeghgnaa
