/- Which errors decimals, a mode and a scale give; a decimal of units that may be too many. -/
import Derived.Test.YtclainfdeghgnaaW26
import Derived.Test.YtclainfdeghgnaaW18
import Derived.Outline
namespace Go.Proofs.Ytclainfdeghgnaa
open Go.RowKit Go.Proofs.Ytclainfdeghgnaa.Nm

def roundTexts : List ByteArray := [⟨#[100, 111, 119, 110]⟩, ⟨#[102, 108, 111, 111, 114]⟩, ⟨#[104, 97, 108, 102]⟩, ⟨#[101, 118, 101, 110]⟩]
def isRoundL (l : List UInt8) : Bool := l == [100, 111, 119, 110] || l == [102, 108, 111, 111, 114] || l == [104, 97, 108, 102] || l == [101, 118, 101, 110]
theorem isRound_mem (m : ByteArray) : Lib.containsS roundTexts m = isRoundL m.data.toList := by
  rw [Bool.eq_iff_iff, Lib.containsS_iff]
  unfold roundTexts isRoundL
  simp only [List.mem_cons, List.not_mem_nil, or_false, bytes_eq, Bool.or_eq_true, beq_iff_eq, or_assoc]
def roundCells : Array Value := #[.string ⟨#[100, 111, 119, 110]⟩, .string ⟨#[102, 108, 111, 111, 114]⟩, .string ⟨#[104, 97, 108, 102]⟩, .string ⟨#[101, 118, 101, 110]⟩]
theorem contains_rounds (g : Nat) (m : ByteArray) (R : Bool) (HR : Hid (R = isRoundL m.data.toList)) (w : World) (hg : w.heap[g]? = some (.cells (roundCells) 9 (0, 0))) :
    Calls Try.prog 55 #[.slice (some ⟨g, 0, none⟩) 4 4, .string m] w fun e w' => e = .returned (.bool R) ∧ Below w.heap.size w w' := by
  refine (Try.slices_Contains_string g 0 4 4 roundTexts m _ (by decide) (by decide) ?_).mono ?_
  · intro j hj
    rw [cell_of_row _ _ _ _ _ _ hg]
    match j, hj with
    | 0, _ | 1, _ | 2, _ | 3, _ => rfl
  · rintro e w1 ⟨rfl, rfl⟩
    rw [show roundTexts.take 4 = roundTexts from rfl, isRound_mem, ← HR.out]
    exact ⟨rfl, Below.refl _ _⟩

def refusedS (ds : List (Int × Int)) (scale : Int) (mode : List UInt8) : Int :=
  if allD ds = false then 4 else if isRoundL mode = false then 3 else if scale < 0 ∨ 9 < scale then 1 else 0
set_option maxHeartbeats 400000 in
theorem refused_any (g c : Nat) (ds : List (Int × Int)) (hn : ds.length ≤ 1000) (scale : Int) (m : ByteArray) (E : Int) (HE : Hid (E = refusedS ds scale m.data.toList)) (w : World) (hg : w.heap[g]? = some (.cells (flatD ds) 33 (0, 0))) :
    Calls Try.prog 72 #[.int .i64 scale, .string m, .slice (some ⟨g, 0, none⟩) ds.length c] w fun e w' => e = .returned (.int .i64 E) ∧ Below w.heap.size w w' := by
  cases hv : allD ds
  · have HV := Lib.hid hv
    clear hv
    go_enter Try.func72, Try.ntmps72
    go_wp2_with (go_at_call 83; refine (valid_any g c ds hn false (Lib.hid HV.out.symm) w hg).mono ?_)
    rintro e w1 ⟨rfl, hb⟩
    go_wp2_with fail
    go_ret
    refine ⟨congrArg (fun b => Ending.returned (.int .i64 b)) (?_ : _ = E), hb⟩
    rw [HE.out, refusedS, if_pos HV.out]
  · have HV := Lib.hid hv
    clear hv
    cases hm : isRoundL m.data.toList
    · have HM := Lib.hid hm
      clear hm
      go_enter Try.func72, Try.ntmps72
      go_wp2_with (go_at_call 83; refine (valid_any g c ds hn true (Lib.hid HV.out.symm) w hg).mono ?_)
      rintro e w1 ⟨rfl, hb⟩
      go_wp2_with (go_at_call 55; refine (contains_rounds w1.heap.size _ false (Lib.hid HM.out.symm) _ (ha_new rfl)).mono ?_)
      rintro e w2 ⟨rfl, hb2⟩
      replace hb := (hb.alloc hb.size _).trans (hb2.mono (by have := hb.size; simp; omega))
      go_wp2_with fail
      go_ret
      refine ⟨congrArg (fun b => Ending.returned (.int .i64 b)) (?_ : _ = E), hb⟩
      rw [HE.out, refusedS, if_neg (by rw [HV.out]; simp), if_pos HM.out]
    · have HM := Lib.hid hm
      clear hm
      go_enter Try.func72, Try.ntmps72
      go_wp2_with (go_at_call 83; refine (valid_any g c ds hn true (Lib.hid HV.out.symm) w hg).mono ?_)
      rintro e w1 ⟨rfl, hb⟩
      go_wp2_with (go_at_call 55; refine (contains_rounds w1.heap.size _ true (Lib.hid HM.out.symm) _ (ha_new rfl)).mono ?_)
      rintro e w2 ⟨rfl, hb2⟩
      replace hb := (hb.alloc hb.size _).trans (hb2.mono (by have := hb.size; simp; omega))
      have HE2 : Hid (E = if scale < 0 ∨ 9 < scale then 1 else 0) := Lib.hid (by rw [HE.out, refusedS, if_neg (by rw [HV.out]; simp), if_neg (by rw [HM.out]; simp)])
      go_wp2_with fail
      all_goals
        go_ret
        refine ⟨congrArg (fun b => Ending.returned (.int .i64 b)) (?_ : _ = E), hb⟩
        rw [HE2.out]
        first
        | (rw [if_pos (by omega)])
        | (rw [if_neg (by omega)])
end Go.Proofs.Ytclainfdeghgnaa
