/- The hash of a key, the program's and the document's. -/
import Derived.Test.YtbhdgeoljlhmcaaS1
import Derived.Outline
import Derived.IntWalk
namespace Go.Proofs.Ytbhdgeoljlhmcaa
open Go.RowKit Go.Proofs.Ytbhdgeoljlhmcaa.Nm
def hst (h : Int) (c : UInt8) : Int := bits .xor .u32 h ((c.toNat : Int) % 4294967296) * 16777619 % 4294967296
def hs0 (seed : Int) : Int := (2166136261 + seed % 4294967296) % 4294967296
theorem bits32 (op : BinOp) (x y : Int) : 0 ≤ bits op .u32 x y ∧ bits op .u32 x y < 4294967296 := by
  unfold bits IntKind.wrap
  simp only [IntKind.signed, IntKind.bits]
  constructor
  · exact Int.emod_nonneg _ (by decide)
  · exact Int.emod_lt_of_pos _ (by decide)
def hashI (h : Int) : Int := bits .xor .u32 h (h / 32768)
/-- the hash of a key -/
def hashN (l : List UInt8) (seed : Int) : Nat := (hashI (l.foldl hst (hs0 seed))).toNat
theorem hashN_cast (l : List UInt8) (seed : Int) : ((hashN l seed : Nat) : Int) = hashI (l.foldl hst (hs0 seed)) := Int.toNat_of_nonneg (bits32 _ _ _).1
theorem hashN_lt (l : List UInt8) (seed : Int) : hashN l seed < 4294967296 := by
  have h := hashN_cast l seed
  have h2 := (bits32 .xor (l.foldl hst (hs0 seed)) (l.foldl hst (hs0 seed) / 32768)).2
  unfold hashI at h; omega
theorem hashI_wrap (h : Int) : wrap64 (hashI h) = hashI h := by
  have := bits32 .xor h (h / 32768)
  exact IntWalk.wrap64_in (hashI h) (by unfold hashI; omega)
theorem ret_int {k : IntKind} {a b : Int} (h : a = b) : Ending.returned (.int k a) = .returned (.int k b) := by rw [h]
theorem take_snoc (s : ByteArray) (k : Nat) (h : k < s.size) : s.data.toList.take (k + 1) = s.data.toList.take k ++ [s[k]] := by
  rw [List.take_succ_eq_append_getElem (by simpa using h)]; rfl
set_option maxHeartbeats 400000 in
theorem Hash_any (m : ByteArray) (hm : m.size ≤ 1000000000) (seed : Int) (w : World) :
    Calls Try.prog 35 #[.string m, .int .i64 seed] w fun e w' => e = .returned (.int .i64 ((hashN m.data.toList seed : Nat) : Int)) ∧ w = w' := by
  have HH := Lib.hid (hashN_cast m.data.toList seed)
  go_enter Try.func35, Try.ntmps35
  go_wp2_with fail
  go_loop [5, 12] (fun h i => ∃ (k : Nat), k ≤ m.size ∧ i = .int .i64 (k : Int) ∧ h = .int .u32 ((m.data.toList.take k).foldl hst (hs0 seed))) (fun _ i => (m.size - intOf i).toNat)
  case atStart => exact ⟨0, by omega, rfl, rfl⟩
  case round =>
    obtain ⟨k, hk, rfl, rfl⟩ := hrel
    by_cases hlt : k < m.size
    · have HT := Lib.hid (take_snoc m k hlt)
      generalize hz : (m.data.toList.take k).foldl hst (hs0 seed) = z
      have HZ := Lib.hid hz
      clear hz
      go_wp2_with fail
      go_round
      case rel => exact ⟨k + 1, by omega, by go_num, by rw [HT.out, List.foldl_append, HZ.out]; rfl⟩
      case measure => simp [intOf]; omega
    · obtain rfl : k = m.size := by omega
      rw [show m.data.toList.take m.size = m.data.toList from List.take_of_length_le (by simp)]
      generalize hz : m.data.toList.foldl hst (hs0 seed) = z
      rw [hz] at HH
      clear hz
      go_wp2_with fail
      go_ret
      exact ⟨ret_int (by rw [HH.out]; exact hashI_wrap z), rfl⟩
set_option maxHeartbeats 400000 in
theorem HashI_any (m : ByteArray) (hm : m.size ≤ 1000000000) (seed : Int) (w : World) :
    Calls Try.prog 36 #[.string m, .int .i64 seed] w fun e w' => e = .returned (.int .i64 ((hashN m.data.toList seed : Nat) : Int)) ∧ w = w' := by
  have HH := Lib.hid (hashN_cast m.data.toList seed)
  go_enter Try.func36, Try.ntmps36
  go_wp2_with fail
  go_loop [5, 6] (fun h i => ∃ (k : Nat), k ≤ m.size ∧ i = .int .i64 (k : Int) ∧ h = .int .u32 ((m.data.toList.take k).foldl hst (hs0 seed))) (fun _ i => (m.size - intOf i).toNat)
  case atStart => exact ⟨0, by omega, rfl, rfl⟩
  case round =>
    obtain ⟨k, hk, rfl, rfl⟩ := hrel
    by_cases hlt : k < m.size
    · have HT := Lib.hid (take_snoc m k hlt)
      generalize hz : (m.data.toList.take k).foldl hst (hs0 seed) = z
      have HZ := Lib.hid hz
      clear hz
      go_wp2_with fail
      go_round
      case rel => exact ⟨k + 1, by omega, by go_num, by rw [HT.out, List.foldl_append, HZ.out]; rfl⟩
      case measure => simp [intOf]; omega
    · obtain rfl : k = m.size := by omega
      rw [show m.data.toList.take m.size = m.data.toList from List.take_of_length_le (by simp)]
      generalize hz : m.data.toList.foldl hst (hs0 seed) = z
      rw [hz] at HH
      clear hz
      go_wp2_with fail
      go_ret
      exact ⟨ret_int (by rw [HH.out]; exact hashI_wrap z), rfl⟩
end Go.Proofs.Ytbhdgeoljlhmcaa
