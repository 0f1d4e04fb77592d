/- Names sorted, each one once (distinct); the names of a tree (Params). -/
import Derived.Test.YtokmaehefenpmaaDoorSh3
import Derived.Test.YtokmaehefenpmaaDoorS5
import Derived.Test.YtokmaehefenpmaaDoorN1
import Derived.Sort.OwnSorted
namespace Go.Proofs.YtokmaehefenpmaaDoor
open Go.RowKit Go.Sort Go.Proofs.YtokmaehefenpmaaDoor.Nm
set_option linter.unusedSimpArgs false
def bytesL (s : ByteArray) : List UInt8 := s.data.toList
def sortedL (ns : List ByteArray) : List (List UInt8) := (ns.map bytesL).mergeSort fun x y => decide (x ≤ y)
/-- The names sorted, each one once. -/
def distinctL (ns : List ByteArray) : List ByteArray := (Lib.compact (sortedL ns)).map fun l => ⟨l.toArray⟩
theorem enc_names (ns : List ByteArray) : (ns.map bytesL).map encStr = ns.map .string := by
  rw [List.map_map]
  apply List.map_congr_left
  intro s _
  cases s
  rfl
theorem enc_back (l : List (List UInt8)) : l.map encStr = (l.map fun l => (⟨l.toArray⟩ : ByteArray)).map .string := by rw [List.map_map]; rfl
theorem compact_le (zs : List (List UInt8)) : (Lib.compact zs).length ≤ zs.length := by
  unfold Lib.compact Lib.compactUpTo
  rw [List.length_map]
  exact Nat.le_trans (List.length_filter_le _ _) (by simp)
theorem distinct_le (ns : List ByteArray) : (distinctL ns).length ≤ ns.length := by
  unfold distinctL
  rw [List.length_map]
  refine Nat.le_trans (compact_le _) ?_
  simp [sortedL]
theorem distinct_nil : distinctL [] = [] := List.length_eq_zero_iff.1 (by have := distinct_le []; simpa using this)
/-- The first elements of a row of the call's own. -/
theorem ownsRow_cut {w : World} {B g n m cap : Nat} {e : TypeId} {xs : List Value} (h : w.ownsRow B e 1 (.slice (some ⟨g, 0, none⟩) n cap) n xs) (hm : m ≤ n) : w.ownsRow B e 1 (.slice (some ⟨g, 0, none⟩) m cap) m (xs.take m) := by
  obtain ⟨h1, h2⟩ := h
  rcases h2 with ⟨h2, -⟩ | ⟨g', cap', cur, e1, hB, hg, hc, hm2, hs, ht⟩
  · cases h2
  · cases e1
    refine ⟨by simp; omega, .inr ⟨g, cap, cur, rfl, hB, hg, by omega, hm2, hs, ?_⟩⟩
    rw [Nat.mul_one] at ht ⊢
    rw [← ht, List.take_take, Nat.min_eq_left hm]
theorem Keep.grown {C : Nat → Prop} {w w' : World} {row : Option Nat} (h : w.grownBy w' row) (hC : ∀ b, row = some b → C b) : Keep C w w' := ⟨h.os, h.tape, h.output, h.size, fun b hb hn => h.block b hb (fun e => hn (hC b e.symm))⟩
/-- What distinct hands back: its argument's row turned. -/
def DPost (B : Nat) (v : Value) (ns : List ByteArray) (w : World) (e : Ending) (w' : World) : Prop := ∃ v', e = .returned v' ∧ OwnS w' B v' (distinctL ns) ∧ w.grownBy w' v.ownBlock ∧ ∀ b, v'.ownBlock = some b → v.ownBlock = some b
theorem grownBy_refl (w : World) (r : Option Nat) : w.grownBy w r := ⟨rfl, rfl, rfl, Nat.le_refl _, fun _ _ _ => rfl⟩
theorem grownBy_trans {w w1 w2 : World} {r : Option Nat} (h : w.grownBy w1 r) (g : w1.grownBy w2 r) : w.grownBy w2 r := ⟨g.os.trans h.os, g.tape.trans h.tape, g.output.trans h.output, Nat.le_trans h.size g.size, fun k hk hn => (g.block k (Nat.lt_of_lt_of_le hk h.size) hn).trans (h.block k hk hn)⟩
set_option maxHeartbeats 2000000 in
set_option maxRecDepth 100000 in
theorem distinct_any (B : Nat) (A : Option Addr) (l c : Nat) (ns : List ByteArray) (w : World) (h : OwnS w B (.slice A l c) ns) (hn : ns.length ≤ 1000000) :
    Calls Tryd.prog 68 #[.slice A l c] w (DPost B (.slice A l c) ns w) := by
  rcases h.2 with ⟨hv, h0⟩ | ⟨g, cap, cur, hv, hB, hg, hc, hm, hs, ht⟩
  · cases hv
    obtain rfl : ns = [] := List.length_eq_zero_iff.1 h0
    have HS := Lib.hid (Tryd.slices_Sort_string_none none 0 w)
    have HC := Lib.hid (Tryd.slices_Compact_string_empty none 0 w)
    go_enter Tryd.func68, Tryd.ntmps68
    go_upto_region 1 with (fail)
    apply wp_region_lit
    (with_reducible refine wl_k ?_ ?_); exact rfl; intro K hK; go_simp; refine hK _ ?_; clear hK K
    (with_reducible refine wl_ck ?_ ?_); exact rfl; intro K hK; go_simp; refine ⟨_, _, ⟨rfl, rfl⟩, hK _ _ ⟨_, HS.out, ?_⟩⟩; clear hK K; rintro e w3 ⟨rfl, rfl⟩; refine ⟨_, rfl, ?_⟩; simp only [put_lit, List.set_cons_zero, List.set_cons_succ]
    go_upto_region 2 with (fail)
    apply wp_region_lit
    (with_reducible refine wl_k ?_ ?_); exact rfl; intro K hK; go_simp; refine hK _ ?_; clear hK K
    (with_reducible refine wl_ck ?_ ?_); exact rfl; intro K hK; go_simp; refine ⟨_, _, ⟨rfl, rfl⟩, hK _ _ ⟨_, HC.out, ?_⟩⟩; clear hK K; rintro e w4 ⟨rfl, rfl⟩; refine ⟨_, rfl, ?_⟩; simp only [put_lit, List.set_cons_zero, List.set_cons_succ]
    (with_reducible refine wl_k ?_ ?_); exact rfl; intro K hK; go_simp; refine hK _ ?_; clear hK K
    go_wp2_with fail
    go_ret
    exact ⟨_, rfl, by rw [distinct_nil]; exact OwnS.nil _ _, grownBy_refl _ _, fun b h => h⟩
  · cases hv
    obtain ⟨zs, hzs⟩ : ∃ zs, zs = sortedL ns := ⟨_, rfl⟩
    have hzl : zs.length = ns.length := by rw [hzs]; simp [sortedL]
    rw [Nat.mul_one] at ht hs
    have hH : Holds encStr w g 0 (ns.map bytesL).toArray := holds_of_block hg (by rw [List.length_map, ht, enc_names])
    have hS := Tryd.slices_Sort_string g 0 c (ns.map bytesL) w hH (heap_lt hg) (by rw [List.length_map]; omega)
    rw [List.length_map, show (ns.map bytesL).mergeSort (fun x y => decide (x ≤ y)) = zs by rw [hzs]; rfl] at hS
    have HS : Hid (Calls Tryd.prog 96 #[.slice (some ⟨g, 0, none⟩) ns.length c] w fun e w' => e = .returned (.tuple #[]) ∧ (∃ cur', w'.heap[g]? = some (.cells cur' 9 (0, 0)) ∧ cur'.size = c ∧ cur'.toList.take zs.length = zs.map encStr) ∧ w.grownBy w' (some g)) := Lib.hid (hS.mono fun e w' ⟨he, n, os, hw⟩ => by
      have h1 := ownsRow_sorted (base := B) (os := os) (n := n) (ss := ns.map bytesL) (ts := zs) (by rw [hzl, List.length_map]) hB hg (by rw [List.length_map]; exact hc) hm (by omega)
      have h2 := grownBy_sorted (w := w) (g := g) (n := n) (os := os) zs.toArray
      rw [← hw] at h1 h2
      refine ⟨he, ?_, h2⟩
      rcases h1.2 with ⟨h3, -⟩ | ⟨g', cap', cur', e1, -, hg', -, -, hs', ht'⟩
      · cases h3
      · cases e1
        refine ⟨cur', hg', by omega, ?_⟩
        rw [Nat.mul_one, List.length_map] at ht'
        rw [hzl]; exact ht')
    have hown : ∀ (w1 : World) (cur' : Array Value), w1.heap[g]? = some (.cells cur' 9 (0, 0)) → cur'.size = c → cur'.toList.take zs.length = zs.map encStr → Calls Tryd.prog 97 #[.slice (some ⟨g, 0, none⟩) ns.length c] w1 fun e w' => e = .returned (.slice (some ⟨g, 0, none⟩) (distinctL ns).length c) ∧ OwnS w' B (.slice (some ⟨g, 0, none⟩) (distinctL ns).length c) (distinctL ns) ∧ w1.grownBy w' (some g) := fun w1 cur' hg' hs' ht' => by
      have hK := Tryd.slices_Compact_string g 0 c zs w1 (holds_of_block hg' ht') (by omega) (by omega)
      rw [hzl] at hK
      have hdl : (distinctL ns).length = (Lib.compact zs).length := by rw [hzs]; simp [distinctL]
      refine hK.mono fun e w' ⟨he, q, hw⟩ => ?_
      have hcl := compact_le zs
      have h1 := ownsRow_sorted (w := w1) (base := B) (os := #[]) (n := q) (ss := zs) (ts := Lib.compact zs ++ List.replicate (zs.length - (Lib.compact zs).length) []) (by simp; omega) hB hg' (by omega) hm (by omega)
      have h2 := grownBy_sorted (w := w1) (g := g) (n := q) (os := #[]) (Lib.compact zs ++ List.replicate (zs.length - (Lib.compact zs).length) []).toArray
      rw [grow_empty] at h1 h2
      rw [hzl] at h1 h2
      rw [← hw] at h1 h2
      refine ⟨by rw [he, hdl], ?_, h2⟩
      have h3 := ownsRow_cut h1 (m := (Lib.compact zs).length) (by omega)
      have h4 : (distinctL ns).map Value.string = (Lib.compact zs).map encStr := by rw [enc_back, hzs]; rfl
      unfold OwnS
      rw [h4, hdl]
      rw [List.map_append, List.take_left' (by simp)] at h3
      exact h3
    have HW := Lib.hid hown
    clear hown hS hH hg ht hs hzs h hzl
    go_enter Tryd.func68, Tryd.ntmps68
    go_upto_region 1 with (fail)
    apply wp_region_lit
    (with_reducible refine wl_k ?_ ?_); exact rfl; intro K hK; go_simp; refine hK _ ?_; clear hK K
    (with_reducible refine wl_ck ?_ ?_); exact rfl; intro K hK; go_simp; refine ⟨_, _, ⟨rfl, rfl⟩, hK _ _ ⟨_, HS.out, ?_⟩⟩; clear hK K; rintro e w3 ⟨rfl, ⟨cur3, hg3, hs3, ht3⟩, hgr3⟩; refine ⟨_, rfl, ?_⟩; simp only [put_lit, List.set_cons_zero, List.set_cons_succ]
    have HC := Lib.hid (HW.out w3 cur3 hg3 hs3 ht3)
    have HG := Lib.hid hgr3
    clear hg3 hs3 ht3 hgr3
    clear HS HW
    go_upto_region 2 with (fail)
    apply wp_region_lit
    (with_reducible refine wl_k ?_ ?_); exact rfl; intro K hK; go_simp; refine hK _ ?_; clear hK K
    (with_reducible refine wl_ck ?_ ?_); exact rfl; intro K hK; go_simp; refine ⟨_, _, ⟨rfl, rfl⟩, hK _ _ ⟨_, HC.out, ?_⟩⟩; clear hK K; rintro e w4 ⟨rfl, hown4, hgr4⟩; refine ⟨_, rfl, ?_⟩; simp only [put_lit, List.set_cons_zero, List.set_cons_succ]
    have HO := Lib.hid hown4
    have HG2 := Lib.hid (grownBy_trans HG.out hgr4)
    clear hown4 hgr4
    (with_reducible refine wl_k ?_ ?_); exact rfl; intro K hK; go_simp; refine hK _ ?_; clear hK K
    clear HC HG
    go_wp2_with fail
    go_ret
    exact ⟨_, rfl, HO.out, HG2.out, fun b h => h⟩
end Go.Proofs.YtokmaehefenpmaaDoor
