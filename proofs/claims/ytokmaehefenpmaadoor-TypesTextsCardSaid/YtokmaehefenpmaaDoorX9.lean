/- The reader in memory: take, want. -/
import Derived.Test.YtokmaehefenpmaaDoorX8
import Derived.Test.YtokmaehefenpmaaDoorX4
import Derived.Test.YtokmaehefenpmaaDoorM1
import Derived.Test.YtokmaehefenpmaaDoorSh4
namespace Go.Proofs.YtokmaehefenpmaaDoor
open Go.RowKit Go.Proofs.YtokmaehefenpmaaDoor.Nm
set_option linter.unusedSimpArgs false
/-- A reader with the text that is left, and whether it has failed. -/
def Rs (w : World) (r : Nat) (l : List UInt8) (f : Bool) : Prop := w.heap[r]? = some (.cells #[.string (strOf l), .bool f] 82 (0, 0))
theorem Rs.lt {w : World} {r : Nat} {l : List UInt8} {f : Bool} (h : Rs w r l f) : r < w.heap.size := heap_lt h
theorem Rs.old {w w' : World} {r : Nat} {l : List UInt8} {f : Bool} (h : Rs w r l f) (hb : Below w.heap.size w w') : Rs w' r l f := below_look hb h
theorem r0 {w : World} {r : Nat} {l : List UInt8} {f : Bool} (h : Rs w r l f) : OneAt w 9 ⟨r, 0, none⟩ (.string (strOf l)) := one_of u9 rfl (by rw [cell_of_row _ _ _ _ _ _ h]; rfl)
theorem r1 {w : World} {r : Nat} {l : List UInt8} {f : Bool} (h : Rs w r l f) : OneAt w 4 ⟨r, 1, none⟩ (.bool f) := one_of u4 rfl (by rw [cell_of_row _ _ _ _ _ _ h]; rfl)
theorem info9c : (Tryd.prog.info? 9).map (·.size) = some 1 := by kernel_rfl
theorem info4c : (Tryd.prog.info? 4).map (·.size) = some 1 := by kernel_rfl
theorem Fr.one {r : Nat} {w w' : World} (hb : ∀ B w0, B ≤ r → Below B w0 w → Below B w0 w') (hk : ∀ g, g ≠ r → w'.heap[g]? = w.heap[g]?) : Fr r r w w' := ⟨fun b _ h _ => hk b h, fun B w0 h1 _ _ h4 => hb B w0 h1 h4⟩
theorem Fr.below {r : Nat} {w w1 w2 : World} (hb : Below w.heap.size w w1) (hr : w.heap.size ≤ r) (h : Fr r r w1 w2) : Below w.heap.size w w2 := h.bel _ _ hr hr hb.size hb
section
variable {ops : Array Oper} {rest : List Oper} {dst : Option Tmp} {ty ty' : TypeId} {x y : Operand} {pos : String} {after : Array Edge} {a : Act} {w : World} {Q : Exit → Act → World → Prop} {r : Nat} {l : List UInt8} {f : Bool}
theorem wl_putR0 {s' : ByteArray} {l' : List UInt8} (hs : s' = strOf l') (hx : a.eval x = .pointer (some ⟨r, 0, none⟩)) (hy : a.eval y = .string s') (hp : Rs w r l f)
    (h : ∀ W, Fr r r w W → Rs W r l' f → wpList Tryd.prog ops Q rest (a.put none undef) W) :
    wpList Tryd.prog ops Q (⟨none, .store 9 x y, ty', pos, after, none⟩ :: rest) a w := by
  subst hs
  refine wl_storeC rfl 9 x y rfl r 0 _ hx hy info9c rfl (by rw [cell_of_row _ _ _ _ _ _ hp]; rfl) (by unfold World.frozen?; rw [hp]; rfl) ?_
  exact h _ (Fr.one (fun B w0 hB hb => hb.setCell hB _) fun g hg => heap_setCell_other _ _ _ _ hg) (by unfold Rs; rw [hs_new hp]; rfl)
theorem wl_putR1 {f' : Bool} (hx : a.eval x = .pointer (some ⟨r, 1, none⟩)) (hy : a.eval y = .bool f') (hp : Rs w r l f)
    (h : ∀ W, Fr r r w W → Rs W r l f' → wpList Tryd.prog ops Q rest (a.put none undef) W) :
    wpList Tryd.prog ops Q (⟨none, .store 4 x y, ty', pos, after, none⟩ :: rest) a w := by
  refine wl_storeC rfl 4 x y rfl r 1 _ hx hy info4c rfl (by rw [cell_of_row _ _ _ _ _ _ hp]; rfl) (by unfold World.frozen?; rw [hp]; rfl) ?_
  exact h _ (Fr.one (fun B w0 hB hb => hb.setCell hB _) fun g hg => heap_setCell_other _ _ _ _ hg) (by unfold Rs; rw [hs_new hp]; rfl)
end
theorem take_lib (p s : List UInt8) : Lib.hasPrefix s p = (takeL p s).isSome := by
  unfold takeL Lib.hasPrefix
  cases h : p.isPrefixOf s <;> simp
theorem take_rest {p s s1 : List UInt8} (h : takeL p s = some s1) : Lib.trimPrefix s p = s1 := by
  have h2 := take_lib p s
  rw [h] at h2
  unfold takeL at h
  split at h
  · cases h
    unfold Lib.trimPrefix
    simp [h2]
  · cases h
set_option maxHeartbeats 2000000 in
set_option maxRecDepth 100000 in
theorem take_some (r : Nat) (p : ByteArray) (l l1 : List UInt8) (f : Bool) (w : World) (h : Rs w r l f) (ht : takeL p.data.toList l = some l1) :
    Calls Tryd.prog 86 #[.pointer (some ⟨r, 0, none⟩), .string p] w fun e w' => e = .returned (.bool true) ∧ Rs w' r l1 f ∧ Fr r r w w' := by
  have hC := Tryd.strings_CutPrefix (strOf l) p w
  rw [show (strOf l).data.toList = l by simp [strOf], take_lib, ht, take_rest ht] at hC
  have HC := Lib.hid hC
  clear hC ht
  go_enter Tryd.func86, Tryd.ntmps86
  go_upto_region 1 with (fail)
  apply wp_region_lit
  (with_reducible refine wl_k ?_ ?_); exact rfl; intro K hK; go_simp; refine hK _ ?_; clear hK K
  (with_reducible refine wl_k ?_ ?_); exact rfl; intro K hK; go_simp; refine hK _ ?_; clear hK K
  (with_reducible refine wl_k ?_ ?_); exact rfl; intro K hK; go_simp; refine hK _ ?_; clear hK K
  ((with_reducible apply wl_oneG); exact rfl; exact rfl; exact r0 h)
  (with_reducible refine wl_k ?_ ?_); exact rfl; intro K hK; go_simp; refine hK _ ?_; clear hK K
  (with_reducible refine wl_ck ?_ ?_); exact rfl; intro K hK; go_simp; refine ⟨_, _, ⟨rfl, rfl⟩, hK _ _ ⟨_, HC.out, ?_⟩⟩; clear hK K; rintro e w3 ⟨rfl, rfl⟩; refine ⟨_, rfl, ?_⟩; simp only [put_lit, List.set_cons_zero, List.set_cons_succ]
  (with_reducible refine wl_k ?_ ?_); exact rfl; intro K hK; go_simp; refine hK _ ?_; clear hK K
  (with_reducible refine wl_k ?_ ?_); exact rfl; intro K hK; go_simp; refine hK _ ?_; clear hK K
  (with_reducible refine wl_k ?_ ?_); exact rfl; intro K hK; go_simp; refine hK _ ?_; clear hK K
  (with_reducible refine wl_k ?_ ?_); exact rfl; intro K hK; go_simp; refine hK _ ?_; clear hK K
  (with_reducible refine wl_k ?_ ?_); exact rfl; intro K hK; go_simp; refine hK _ ?_; clear hK K
  clear HC
  go_upto_region 2 with (fail)
  apply wp_region_lit
  (with_reducible refine wl_k ?_ ?_); exact rfl; intro K hK; go_simp; refine hK _ ?_; clear hK K
  go_upto_region 3 with (fail)
  apply wp_region_lit
  (with_reducible refine wl_k ?_ ?_); exact rfl; intro K hK; go_simp; refine hK _ ?_; clear hK K
  (with_reducible refine wl_k ?_ ?_); exact rfl; intro K hK; go_simp; refine hK _ ?_; clear hK K
  (with_reducible refine wl_k ?_ ?_); exact rfl; intro K hK; go_simp; refine hK _ ?_; clear hK K
  (with_reducible refine wl_k ?_ ?_); exact rfl; intro K hK; go_simp; refine hK _ ?_; clear hK K
  refine wl_putR0 (l' := l1) rfl rfl rfl h ?_
  intro W hf hn
  have HF := Lib.hid hf
  have HN := Lib.hid hn
  clear hf hn h
  go_wp2_with fail
  go_ret
  exact ⟨rfl, HN.out, HF.out⟩
set_option maxHeartbeats 2000000 in
set_option maxRecDepth 100000 in
theorem take_none (r : Nat) (p : ByteArray) (l : List UInt8) (f : Bool) (w : World) (h : Rs w r l f) (ht : takeL p.data.toList l = none) :
    Calls Tryd.prog 86 #[.pointer (some ⟨r, 0, none⟩), .string p] w fun e w' => e = .returned (.bool false) ∧ w = w' := by
  have hC := Tryd.strings_CutPrefix (strOf l) p w
  rw [show (strOf l).data.toList = l by simp [strOf], take_lib, ht] at hC
  have HC := Lib.hid hC
  clear hC ht
  go_enter Tryd.func86, Tryd.ntmps86
  go_upto_region 1 with (fail)
  apply wp_region_lit
  (with_reducible refine wl_k ?_ ?_); exact rfl; intro K hK; go_simp; refine hK _ ?_; clear hK K
  (with_reducible refine wl_k ?_ ?_); exact rfl; intro K hK; go_simp; refine hK _ ?_; clear hK K
  (with_reducible refine wl_k ?_ ?_); exact rfl; intro K hK; go_simp; refine hK _ ?_; clear hK K
  ((with_reducible apply wl_oneG); exact rfl; exact rfl; exact r0 h)
  (with_reducible refine wl_k ?_ ?_); exact rfl; intro K hK; go_simp; refine hK _ ?_; clear hK K
  (with_reducible refine wl_ck ?_ ?_); exact rfl; intro K hK; go_simp; refine ⟨_, _, ⟨rfl, rfl⟩, hK _ _ ⟨_, HC.out, ?_⟩⟩; clear hK K; rintro e w3 ⟨rfl, hw⟩; refine ⟨_, rfl, ?_⟩; simp only [put_lit, List.set_cons_zero, List.set_cons_succ]
  (with_reducible refine wl_k ?_ ?_); exact rfl; intro K hK; go_simp; refine hK _ ?_; clear hK K
  (with_reducible refine wl_k ?_ ?_); exact rfl; intro K hK; go_simp; refine hK _ ?_; clear hK K
  (with_reducible refine wl_k ?_ ?_); exact rfl; intro K hK; go_simp; refine hK _ ?_; clear hK K
  (with_reducible refine wl_k ?_ ?_); exact rfl; intro K hK; go_simp; refine hK _ ?_; clear hK K
  (with_reducible refine wl_k ?_ ?_); exact rfl; intro K hK; go_simp; refine hK _ ?_; clear hK K
  have HW := Lib.hid hw
  clear HC hw h
  go_upto_region 2 with (fail)
  apply wp_region_lit
  (with_reducible refine wl_k ?_ ?_); exact rfl; intro K hK; go_simp; refine hK _ ?_; clear hK K
  go_wp2_with fail
  go_ret
  exact ⟨rfl, HW.out.symm⟩
set_option maxHeartbeats 2000000 in
set_option maxRecDepth 100000 in
theorem want_some (r : Nat) (p : ByteArray) (l l1 : List UInt8) (f : Bool) (w : World) (h : Rs w r l f) (ht : takeL p.data.toList l = some l1) :
    Calls Tryd.prog 110 #[.pointer (some ⟨r, 0, none⟩), .string p] w fun e w' => e = .returned (.tuple #[]) ∧ Rs w' r l1 f ∧ Fr r r w w' := by
  have HC := Lib.hid (take_some r p l l1 f w h ht)
  clear h ht
  go_enter Tryd.func110, Tryd.ntmps110
  go_upto_region 0 with (fail)
  apply wp_region_lit
  (with_reducible refine wl_k ?_ ?_); exact rfl; intro K hK; go_simp; refine hK _ ?_; clear hK K
  (with_reducible refine wl_k ?_ ?_); exact rfl; intro K hK; go_simp; refine hK _ ?_; clear hK K
  (with_reducible refine wl_ck ?_ ?_); exact rfl; intro K hK; go_simp; refine ⟨_, _, ⟨rfl, rfl⟩, hK _ _ ⟨_, HC.out, ?_⟩⟩; clear hK K; rintro e w3 ⟨rfl, hn, hf⟩; refine ⟨_, rfl, ?_⟩; simp only [put_lit, List.set_cons_zero, List.set_cons_succ]
  (with_reducible refine wl_k ?_ ?_); exact rfl; intro K hK; go_simp; refine hK _ ?_; clear hK K
  have HF := Lib.hid hf
  have HN := Lib.hid hn
  clear hf hn HC
  go_wp2_with fail
  go_end0
  exact ⟨rfl, HN.out, HF.out⟩
set_option maxHeartbeats 2000000 in
set_option maxRecDepth 100000 in
theorem want_none (r : Nat) (p : ByteArray) (l : List UInt8) (f : Bool) (w : World) (h : Rs w r l f) (ht : takeL p.data.toList l = none) :
    Calls Tryd.prog 110 #[.pointer (some ⟨r, 0, none⟩), .string p] w fun e w' => e = .returned (.tuple #[]) ∧ Rs w' r l true ∧ Fr r r w w' := by
  have HC := Lib.hid (take_none r p l f w h ht)
  clear ht
  go_enter Tryd.func110, Tryd.ntmps110
  go_upto_region 0 with (fail)
  apply wp_region_lit
  (with_reducible refine wl_k ?_ ?_); exact rfl; intro K hK; go_simp; refine hK _ ?_; clear hK K
  (with_reducible refine wl_k ?_ ?_); exact rfl; intro K hK; go_simp; refine hK _ ?_; clear hK K
  (with_reducible refine wl_ck ?_ ?_); exact rfl; intro K hK; go_simp; refine ⟨_, _, ⟨rfl, rfl⟩, hK _ _ ⟨_, HC.out, ?_⟩⟩; clear hK K; rintro e w3 ⟨rfl, rfl⟩; refine ⟨_, rfl, ?_⟩; simp only [put_lit, List.set_cons_zero, List.set_cons_succ]
  (with_reducible refine wl_k ?_ ?_); exact rfl; intro K hK; go_simp; refine hK _ ?_; clear hK K
  clear HC
  go_upto_region 1 with (fail)
  apply wp_region_lit
  (with_reducible refine wl_k ?_ ?_); exact rfl; intro K hK; go_simp; refine hK _ ?_; clear hK K
  (with_reducible refine wl_k ?_ ?_); exact rfl; intro K hK; go_simp; refine hK _ ?_; clear hK K
  (with_reducible refine wl_k ?_ ?_); exact rfl; intro K hK; go_simp; refine hK _ ?_; clear hK K
  refine wl_putR1 rfl rfl h ?_
  intro W hf hn
  have HF := Lib.hid hf
  have HN := Lib.hid hn
  clear hf hn h
  go_wp2_with fail
  go_end0
  exact ⟨rfl, HN.out, HF.out⟩
end Go.Proofs.YtokmaehefenpmaaDoor
