/- The reader in memory: typ, where it fails; a type's own cells. -/
import Derived.Test.YtokmaehefenpmaaDoorX12
import Derived.Deep.CutBlock
import Derived.Deep.DeepCutAuto
namespace Go.Proofs.YtokmaehefenpmaaDoor
open Go.RowKit Go.Proofs.YtokmaehefenpmaaDoor.Nm
set_option linter.unusedSimpArgs false
theorem info3c : (Tryd.prog.info? 3).map (·.size) = some 1 := by kernel_rfl
section
variable {ops : Array Oper} {rest : List Oper} {dst : Option Tmp} {ty ty' : TypeId} {x y : Operand} {pos : String} {after : Array Edge} {a : Act} {w : World} {Q : Exit → Act → World → Prop} {p : Nat} {k : Int} {s : ByteArray} {n : Int} {A : Option Addr} {l c : Nat}
theorem wl_putK {k' : Int} (hx : a.eval x = .pointer (some ⟨p, 0, none⟩)) (hy : a.eval y = .int .i64 k') (hp : w.heap[p]? = some (.cells (cell4 k s n A l c) 24 (0, 0)))
    (h : ∀ W, (∀ B w0, B ≤ p → Below B w0 w → Below B w0 W) → W.heap.size = w.heap.size → (∀ g, g ≠ p → W.heap[g]? = w.heap[g]?) → W.heap[p]? = some (.cells (cell4 k' s n A l c) 24 (0, 0)) → wpList Tryd.prog ops Q rest (a.put none undef) W) :
    wpList Tryd.prog ops Q (⟨none, .store 3 x y, ty', pos, after, none⟩ :: rest) a w := by
  refine wl_storeC rfl 3 x y rfl p 0 _ hx hy info3c rfl (by rw [cell_of_row _ _ _ _ _ _ hp]; rfl) (by unfold World.frozen?; rw [hp]; rfl) ?_
  exact h _ (fun B w0 hB hb => hb.setCell hB _) (by simp [World.setCell]) (fun g hg => heap_setCell_other _ _ _ _ hg) (by rw [hs_new hp]; rfl)
theorem wl_putN {s' : ByteArray} (hx : a.eval x = .pointer (some ⟨p, 1, none⟩)) (hy : a.eval y = .string s') (hp : w.heap[p]? = some (.cells (cell4 k s n A l c) 24 (0, 0)))
    (h : ∀ W, (∀ B w0, B ≤ p → Below B w0 w → Below B w0 W) → W.heap.size = w.heap.size → (∀ g, g ≠ p → W.heap[g]? = w.heap[g]?) → W.heap[p]? = some (.cells (cell4 k s' n A l c) 24 (0, 0)) → wpList Tryd.prog ops Q rest (a.put none undef) W) :
    wpList Tryd.prog ops Q (⟨none, .store 9 x y, ty', pos, after, none⟩ :: rest) a w := by
  refine wl_storeC rfl 9 x y rfl p 1 _ hx hy info9c rfl (by rw [cell_of_row _ _ _ _ _ _ hp]; rfl) (by unfold World.frozen?; rw [hp]; rfl) ?_
  exact h _ (fun B w0 hB hb => hb.setCell hB _) (by simp [World.setCell]) (fun g hg => heap_setCell_other _ _ _ _ hg) (by rw [hs_new hp]; rfl)
end
theorem built24z : Tryd.prog.built 24 [] = some (cell4 0 ⟨#[]⟩ 0 none 0 0) := by kernel_rfl
theorem Fr.put {r p : Nat} {w w1 w2 : World} (h : Fr r r w w1) (hp : w.heap.size ≤ p) (hr : r < w.heap.size) (hb : ∀ B w0, B ≤ p → Below B w0 w1 → Below B w0 w2) (hk : ∀ g, g ≠ p → w2.heap[g]? = w1.heap[g]?) : Fr r r w w2 :=
  ⟨fun b hlt h1 h2 => by rw [hk b (by omega), h.keep b hlt h1 h2], fun B w0 h1 h2 h3 h4 => hb B w0 (by omega) (h.bel B w0 h1 h2 h3 h4)⟩
theorem Rs.put {w w2 : World} {r p : Nat} {l : List UInt8} {f : Bool} (h : Rs w r l f) (hr : r ≠ p) (hk : ∀ g, g ≠ p → w2.heap[g]? = w.heap[g]?) : Rs w2 r l f := by unfold Rs at *; rw [hk r hr]; exact h
theorem zero_tree (w : World) (D : Nat → Prop) : TyAt w D zeroTy (cell4 0 ⟨#[]⟩ 0 none 0 0) := TyAt.of (by rfl) (by rfl) (Nat.zero_le _) (TysAt.nil w D)
set_option maxHeartbeats 2000000 in
set_option maxRecDepth 100000 in
theorem typ_zero (w : World) (r : Nat) (l : List UInt8) (f : Bool) (h : Rs w r l f) : Calls Tryd.prog 63 #[.pointer (some ⟨r, 0, none⟩), .int .i64 0] w (RPost r zeroTy l true w) := by
  have hrw := h.lt
  have hs0 : w.heap[r]? = some (.cells #[.string (strOf l), .bool f] 82 (0, 0)) := h
  clear h
  have hb := Below.refl w.heap.size w
  go_enter Tryd.func63, Tryd.ntmps63
  go_upto_region 0 with (fail)
  apply wp_region_lit
  have lths0z := heap_lt hs0; (with_reducible refine wl_all ?_); intro W z hbn hlz hz; replace hs0 := below_look hbn hs0; replace hb := hb.trans (hbn.mono hb.size); clear hbn; simp only [put_lit, List.set_cons_zero, List.set_cons_succ]
  have hrz : r ≠ z := by omega
  go_upto_region 2 with (fail)
  apply wp_region_lit
  (with_reducible refine wl_k ?_ ?_); exact rfl; intro K hK; go_simp; refine hK _ ?_; clear hK K
  (with_reducible refine wl_k ?_ ?_); exact rfl; intro K hK; go_simp; refine hK _ ?_; clear hK K
  (with_reducible refine wl_k ?_ ?_); exact rfl; intro K hK; go_simp; refine hK _ ?_; clear hK K
  refine wl_putR1 rfl rfl (show Rs W r l f from hs0) ?_
  intro W2 hf hs
  replace hz := (hf.keep z (heap_lt hz) (by omega) (by omega)).trans hz
  have HF := Lib.hid ((Fr.of hb).trans hf)
  clear hf hs0
  go_upto_region 3 with (fail)
  apply wp_region_lit
  (with_reducible refine wl_k ?_ ?_); exact rfl; intro K hK; go_simp; refine hK _ ?_; clear hK K
  (with_reducible refine wl_k ?_ ?_); exact rfl; intro K hK; go_simp; refine hK _ ?_; clear hK K
  (with_reducible refine wl_k ?_ ?_); exact rfl; intro K hK; go_simp; refine hK _ ?_; clear hK K
  ((with_reducible apply wl_oneG); exact rfl; exact rfl; exact r1 hs)
  go_upto_region 4 with (fail)
  apply wp_region_lit
  refine wl_val rfl (ex_build 24 _ rfl (L := []) rfl built24z) ?_
  simp only [put_lit, List.set_cons_zero, List.set_cons_succ]
  (with_reducible refine wl_put rfl rfl hz ?_); rw [put_noneA]; intro W3 hbx hsz hkx hnx; replace hs := (hkx _ (by omega)).trans hs; clear hz; have hz := hnx; clear hnx
  have HQ := Lib.hid hz
  have HS := Lib.hid (show Rs W3 r l true from hs)
  have HF3 := Lib.hid (HF.out.put hlz hrw hbx hkx)
  clear hbx hkx hsz hz hs
  go_wp2_with fail
  exact bodyPost_ret (res24 rfl _ _ z rfl HQ.out) rfl ⟨_, rfl, zero_tree _ _, HS.out, HF3.out⟩
set_option maxHeartbeats 2000000 in
set_option maxRecDepth 100000 in
theorem typ_fail (left : Nat) (w : World) (r : Nat) (l : List UInt8) (h : Rs w r l true) : Calls Tryd.prog 63 #[.pointer (some ⟨r, 0, none⟩), .int .i64 (left : Int)] w (RPost r zeroTy l true w) := by
  by_cases h0 : left = 0
  · subst h0; exact typ_zero w r l true h
  have e0 : ((left : Int) == 0) = false := by simp [h0]
  have hrw := h.lt
  have hs : w.heap[r]? = some (.cells #[.string (strOf l), .bool true] 82 (0, 0)) := h
  clear h h0
  have hb := Below.refl w.heap.size w
  go_enter Tryd.func63, Tryd.ntmps63
  go_upto_region 0 with (fail)
  apply wp_region_lit
  have lthsz := heap_lt hs; (with_reducible refine wl_all ?_); intro W z hbn hlz hz; replace hs := below_look hbn hs; replace hb := hb.trans (hbn.mono hb.size); clear hbn; simp only [put_lit, List.set_cons_zero, List.set_cons_succ]
  have hrz : r ≠ z := by omega
  have HF := Lib.hid (Fr.of (g1 := r) (g2 := r) hb)
  go_upto_region 1 with (fail)
  apply wp_region_lit
  (with_reducible refine wl_k ?_ ?_); exact rfl; intro K hK; go_simp; refine hK _ ?_; clear hK K
  (with_reducible refine wl_k ?_ ?_); exact rfl; intro K hK; go_simp; refine hK _ ?_; clear hK K
  go_upto_region 3 with (fail)
  apply wp_region_lit
  (with_reducible refine wl_k ?_ ?_); exact rfl; intro K hK; go_simp; refine hK _ ?_; clear hK K
  (with_reducible refine wl_k ?_ ?_); exact rfl; intro K hK; go_simp; refine hK _ ?_; clear hK K
  (with_reducible refine wl_k ?_ ?_); exact rfl; intro K hK; go_simp; refine hK _ ?_; clear hK K
  ((with_reducible apply wl_oneG); exact rfl; exact rfl; exact r1 hs)
  go_upto_region 4 with (fail)
  apply wp_region_lit
  refine wl_val rfl (ex_build 24 _ rfl (L := []) rfl built24z) ?_
  simp only [put_lit, List.set_cons_zero, List.set_cons_succ]
  (with_reducible refine wl_put rfl rfl hz ?_); rw [put_noneA]; intro W3 hbx hsz hkx hnx; replace hs := (hkx _ (by omega)).trans hs; clear hz; have hz := hnx; clear hnx
  have HQ := Lib.hid hz
  have HS := Lib.hid (show Rs W3 r l true from hs)
  have HF3 := Lib.hid (HF.out.put hlz hrw hbx hkx)
  clear hbx hkx hsz hz hs
  go_wp2_with fail
  exact bodyPost_ret (res24 rfl _ _ z rfl HQ.out) rfl ⟨_, rfl, zero_tree _ _, HS.out, HF3.out⟩
end Go.Proofs.YtokmaehefenpmaaDoor
namespace Go.Proofs.YtokmaehefenpmaaDoor
open Go.RowKit Go.Proofs.YtokmaehefenpmaaDoor.Nm
theorem built24x (k : Int) (s : ByteArray) : Tryd.prog.built 24 [(0, .int .i64 k), (1, .string s)] = some (cell4 k s 0 none 0 0) := by kernel_rfl
theorem built24v (v : Int) : Tryd.prog.built 24 [(0, .int .i64 12), (2, .int .i64 v)] = some (cell4 12 ⟨#[]⟩ v none 0 0) := by kernel_rfl
theorem built24s (s : ByteArray) (A : Option Addr) (l c : Nat) : Tryd.prog.built 24 [(0, .int .i64 8), (1, .string s), (3, .slice A l c)] = some (cell4 8 s 0 A l c) := by kernel_rfl
theorem bytes_below (w : World) (t : ByteArray) : Below w.heap.size w (Lib.bytesWorld w 5 t) := ⟨rfl, rfl, rfl, by rw [Lib.bytesWorld_size]; omega, fun k hk => Lib.bytesWorld_at_old w 5 t k hk⟩
theorem Atoi_any (l : List UInt8) (v : Int) (hl : l.length ≤ 10000) (h : Lib.atoiAll l = .ok v) (w : World) : Calls Tryd.prog 89 #[.string (strOf l)] w fun e w' => e = .returned (.tuple #[.int .i64 v, .nilIface]) ∧ Below w.heap.size w w' :=
  (Tryd.strconv_Atoi_ok (strOf l) (by rw [strOf_size]; omega) v (by rw [show (strOf l).data.toList = l by simp [strOf]]; exact h) w).mono fun e w' ⟨h1, h2⟩ => ⟨h1, by
    rcases h2 with rfl | ⟨t, rfl⟩
    · exact Below.refl _ _
    · exact bytes_below w t⟩
theorem atoi_wf {l : List UInt8} {v : Int} (h : Lib.atoiAll l = .ok v) : (Lit.int .i64 v).wf = true := by
  have h1 : IntKind.i64.min = -9223372036854775808 := rfl
  have h2 : IntKind.i64.max = 9223372036854775807 := rfl
  have key : -9223372036854775808 ≤ v ∧ v ≤ 9223372036854775807 := by
    cases l with
    | nil => cases h
    | cons c r =>
      simp only [Lib.atoiAll] at h
      generalize Lib.parseMag _ = q at h
      cases q with
      | ok u =>
        simp only at h
        split at h
        · cases h
        · rename_i g1
          split at h
          · cases h
          · rename_i g2
            by_cases hn : c.toNat = 45
            · rw [if_pos hn] at h; cases h; omega
            · rw [if_neg hn] at h; cases h; omega
      | _ => cases h
  simp only [Lit.wf, Bool.and_eq_true, decide_eq_true_eq]
  omega
end Go.Proofs.YtokmaehefenpmaaDoor
