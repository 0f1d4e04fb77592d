/- The document's whole numbers: signs, sums, products. The document's whole numbers: of an int; differences, products, quotients, powers. The document's powers of 2 and of 10, floors, comparisons. The document's floors and comparisons. A number's text is read as the number; numbers wrapped into a width. The document's decimal text of a whole number. The document's numbers as ints; decimals of exact units. Texts of decimals, plainly: a decimal's text is read as it, and only its text. What the document's Parse gives, plainly; both readers read the same. Contracts of the shelf at this dump, in plain words (written by the kit's own tools; those that are wanted). Steps for decimals in variables. Format of the program. What the rows of this seat share: arguments taken out of a row's input; what the listed variables hold. Contracts of the shelf at this dump, in plain words (written by the kit's own tools; those that are wanted). -/
import Derived.Outline
import Derived.Laws.BytesString
import Derived.Test.YtclainfdeghgnaaGreatDoorPZ6
import Derived.Test.YtclainfdeghgnaaGreatDoorPZ2
import Derived.Test.YtclainfdeghgnaaGreatDoorPZ3
import Derived.Test.YtclainfdeghgnaaGreatDoorPZ4
import Derived.Lib.ItoaMem
import Derived.Lib.AtoiAll
import Derived.Lib.IndexMore
import Derived.Lib.IndexBytes
import Derived.Shelf.LaysM
import Derived.Shelf.Strconv.Itoa3
import Derived.Test.YtclainfdeghgnaaGreatDoorProg
import Derived.Test.YtclainfdeghgnaaGreatDoorPZ5
import Derived.Lib.AppendIntMem
import Derived.Test.YtclainfdeghgnaaGreatDoorRows
import Derived.Test.YtclainfdeghgnaaGreatDoorTie
import Derived.ProofKit
import Derived.LaidMore
import Derived.OpenShut
import Derived.Stop.Joined
import Derived.SevenTiedAt
import Derived.Lib.SmallJoins
import Derived.Deep.Strs
import Derived.Carry
import Derived.IntWalk
import Derived.Lib.LaidTab
import Derived.MakeChecks
import Derived.Stop.LaidErr
import Derived.Shelf.Strconv.AtoiAll
import Derived.Shelf.Strings.Cut
import Derived.Shelf.Strings.Shaped
namespace Go.Proofs.YtclainfdeghgnaaGreatDoor
open Go.RowKit Go.Proofs.YtclainfdeghgnaaGreatDoor.Nm Go.Proofs.YtclainfdeghgnaaGreatDoor.Lm

/-- A whole number of the document: its sign, its limbs. -/
def iv (z : Int) (A : Option Addr) (c : Nat) : Array Value := #[.bool (ng z), .slice A (nl z.natAbs) c]
theorem iv_one (z : Int) (A : Option Addr) (c : Nat) : (iv z A c).all (·.oneCell') = true := by simp [iv, Value.oneCell']
theorem ng_zero : ng 0 = false := by rw [ng_def]; rfl
theorem iv_zero : iv 0 none 0 = #[.bool false, .slice none 0 0] := by unfold iv; rw [ng_zero]; simp [nl_zero]
/-- .. which are there. -/
def IvAt (w : World) (z : Int) (A : Option Addr) (c : Nat) : Prop := nl z.natAbs ≤ c ∧ Lr w A (nl z.natAbs) z.natAbs
theorem IvAt.below {w w' : World} {z : Int} {A : Option Addr} {c : Nat} (h : IvAt w z A c) (hb : Below w.heap.size w w') : IvAt w' z A c := ⟨h.1, h.2.below hb⟩
theorem IvAt.zero (w : World) : IvAt w 0 none 0 := ⟨by simp [nl_zero], fun h => by simp [nl_zero] at h⟩
theorem info84 : (Tryz.prog.info? 41).map (·.size) = some 2 := by kernel_rfl
theorem u84 : Tryz.prog.underlying 41 = some (.struct (Tryz.prog.fieldsOf 41)) := by kernel_rfl
theorem rowIv {w : World} {b : Nat} {z : Int} {A : Option Addr} {c : Nat} {t : TypeId} {fr : Nat × Nat} (hb : w.heap[b]? = some (.cells (iv z A c) t fr)) : RowAt w 41 ⟨b, 0, none⟩ (iv z A c) := row_mid hb (D := iv z A c) (n := 2) rfl u84 rfl rfl info84
theorem iv0 {w : World} {b : Nat} {z : Int} {A : Option Addr} {c : Nat} {t : TypeId} {fr : Nat × Nat} (hb : w.heap[b]? = some (.cells (iv z A c) t fr)) : w.cell? ⟨b, 0, none⟩ = some (.bool (ng z)) := by rw [cell_of_row _ _ _ _ _ _ hb]; rfl
theorem iv1 {w : World} {b : Nat} {z : Int} {A : Option Addr} {c : Nat} {t : TypeId} {fr : Nat × Nat} (hb : w.heap[b]? = some (.cells (iv z A c) t fr)) : w.cell? ⟨b, 1, none⟩ = some (.slice A (nl z.natAbs) c) := by rw [cell_of_row _ _ _ _ _ _ hb]; rfl
theorem one4 {w : World} {ad : Addr} {v : Value} (h : w.cell? ad = some v) : OneAt w 4 ad v := one_of u4 rfl h
theorem one82 {w : World} {ad : Addr} {v : Value} (h : w.cell? ad = some v) : OneAt w 39 ad v := one_of u82 rfl h
theorem res_iv {fn : Func} {p : Tmp} (h : fn.results = #[.cell p 41]) (tmps : Array Value) (w : World) (g : Nat) (hp : tmps.getD p undef = .pointer (some ⟨g, 0, none⟩)) {z : Int} {A : Option Addr} {c : Nat}
    (hg : w.heap[g]? = some (.cells (iv z A c) 41 (0, 0))) : (results fn tmps).run Tryz.prog w = .ok (.agg (iv z A c)) w := by
  have hp' : tmps[p]?.getD undef = .pointer (some ⟨g, 0, none⟩) := by simpa using hp
  have l1 : (loadVar 41 ⟨g, 0, none⟩).run Tryz.prog w = .ok (.agg (iv z A c)) w := by have := rowIv hg; unfold RowAt at this; exact this
  unfold results
  simp [h, hp', asAddr, l1]
theorem iv_sg (s : Bool) (N : Nat) (A : Option Addr) (c : Nat) : iv (sg s N) A c = #[.bool (s && decide (0 < nl N)), .slice A (nl N) c] := by
  unfold iv
  rw [sg_bd, ng_def]
  have : decide (sg s N < 0) = (s && decide (0 < nl N)) := by
    have h := nl_eq_zero (n := N)
    unfold sg
    cases s
    · simp
    · simp
      omega
  rw [this]
set_option maxHeartbeats 400000 in
theorem signedI_any (s : Bool) (A : Option Addr) (N c : Nat) (w : World) :
    Calls Tryz.prog 14 #[.bool s, .slice A (nl N) c] w fun e w' => e = .returned (.agg (iv (sg s N) A c)) ∧ Below w.heap.size w w' := by
  rw [iv_sg]
  obtain ⟨n, hn⟩ : ∃ n, n = nl N := ⟨_, rfl⟩
  rw [← hn]
  clear hn
  cases s
  · go_enter Tryz.func14, Tryz.ntmps14
    go_wp2_with fail
    exact bodyPost_ret (v := .agg #[.bool false, .slice A n c]) (by simp [results, Tryz.results14, go_sem]) rfl ⟨rfl, (Below.refl _ _).alloc (Nat.le_refl _) _⟩
  · by_cases h : 0 < n
    · go_enter Tryz.func14, Tryz.ntmps14
      go_wp2_with fail
      exact bodyPost_ret (v := .agg #[.bool true, .slice A n c]) (by simp [results, Tryz.results14, go_sem]) rfl ⟨by simp [h], (Below.refl _ _).alloc (Nat.le_refl _) _⟩
    · go_enter Tryz.func14, Tryz.ntmps14
      go_wp2_with fail
      exact bodyPost_ret (v := .agg #[.bool false, .slice A n c]) (by simp [results, Tryz.results14, go_sem]) rfl ⟨by simp [h], (Below.refl _ _).alloc (Nat.le_refl _) _⟩
theorem IvAt.of {B0 : Nat} {w : World} {N : Nat} {A : Option Addr} {c : Nat} (z : Int) (hz : z.natAbs = N) (hc : nl N ≤ c) (h : LrB B0 w A (nl N) N) : IvAt w z A c := by
  subst hz; exact ⟨hc, h.lr⟩
theorem lr_setRow {B0 p : Nat} {w : World} {A : Option Addr} {n N : Nat} {cs : Array Value} (h : LrB B0 w A n N) (hp : p < B0) : LrB B0 (w.setRow p cs) A n N := fun hn => by
  obtain ⟨g, h1, h0, h2, h3⟩ := h hn
  refine ⟨g, h1, h0, by simpa using h2, fun j hj => ?_⟩
  rw [World.cell?_of_block (setRow_other w p g cs (by omega))]; exact h3 j hj
set_option maxHeartbeats 1000000 in
theorem Sum2_same (x y : Int) (A A' : Option Addr) (c c' : Nat) (w : World) (hx : IvAt w x A c) (hy : IvAt w y A' c') (hn : nl x.natAbs ≤ 400) (hn' : nl y.natAbs ≤ 400) (hs : (ng x == ng y) = true) (hz : sg (ng x) (x.natAbs + y.natAbs) = x + y) :
    Calls Tryz.prog 37 #[.agg (iv x A c), .agg (iv y A' c')] w fun e w' => ∃ A2 c2, e = .returned (.agg (iv (x + y) A2 c2)) ∧ IvAt w' (x + y) A2 c2 ∧ Below w.heap.size w w' := by
  have HX := Lib.hid hx
  have HY := Lib.hid hy
  have HZ := Lib.hid hz
  clear hx hy hz
  go_enter Tryz.func37, Tryz.ntmps37
  go_upto_region 1 with (fail)
  refine wp_world (fun W => W.heap[w.heap.size]? = some (.cells (iv x A c) 41 (0, 0)) ∧ W.heap[w.heap.size + 1]? = some (.cells (iv y A' c') 41 (0, 0)) ∧ W.heap[w.heap.size + 1 + 1]? = some (.cells (iv 0 none 0) 41 (0, 0)) ∧ Below w.heap.size w W) ⟨ha_old (ha_old (ha_new rfl)), ha_old (ha_new (by simp)), by rw [iv_zero]; exact ha_new (by simp), (((Below.refl _ _).alloc (Nat.le_refl _) _).alloc (by simp) _).alloc (by simp; omega) _⟩ ?_
  rintro W ⟨h0, h1, h2, hb⟩
  have a0 := iv0 h0
  have a1 := iv1 h0
  have b0 := iv0 h1
  have b1 := iv1 h1
  go_upto_region 2 with (fail)
  have hX := Lib.hid (HX.out.below hb.drew)
  have hY := Lib.hid (HY.out.below hb.drew)
  replace hb := hb.drew
  refine wp_region_held_drew (S := Kept [w.heap.size + 1 + 1] W) mixed (Kept.drew [w.heap.size + 1 + 1] W) (fun hS => ?_)
  refine ha_k (i := 0) rfl (by kernel_rfl) (by kernel_rfl) (by kernel_rfl) (fun _ _ _ _ h => h) hS rfl (fun K hK => ?_); go_simp; refine hK _ ?_; clear hK K; try simp only [put_lit, List.set_cons_zero, List.set_cons_succ]
  refine ha_val (i := 1) rfl (by kernel_rfl) (by kernel_rfl) (by kernel_rfl) (fun _ _ _ h => h) hS rfl (fun w' hw' => ex_one rfl (one4 (hw'.cell a0 (by simp <;> omega)))) ?_; try simp only [put_lit, List.set_cons_zero, List.set_cons_succ]
  refine ha_k (i := 2) rfl (by kernel_rfl) (by kernel_rfl) (by kernel_rfl) (fun _ _ _ _ h => h) hS rfl (fun K hK => ?_); go_simp; refine hK _ ?_; clear hK K; try simp only [put_lit, List.set_cons_zero, List.set_cons_succ]
  refine ha_val (i := 3) rfl (by kernel_rfl) (by kernel_rfl) (by kernel_rfl) (fun _ _ _ h => h) hS rfl (fun w' hw' => ex_one rfl (one82 (hw'.cell a1 (by simp <;> omega)))) ?_; try simp only [put_lit, List.set_cons_zero, List.set_cons_succ]
  refine ha_k (i := 4) rfl (by kernel_rfl) (by kernel_rfl) (by kernel_rfl) (fun _ _ _ _ h => h) hS rfl (fun K hK => ?_); go_simp; refine hK _ ?_; clear hK K; try simp only [put_lit, List.set_cons_zero, List.set_cons_succ]
  refine ha_val (i := 5) rfl (by kernel_rfl) (by kernel_rfl) (by kernel_rfl) (fun _ _ _ h => h) hS rfl (fun w' hw' => ex_one rfl (one82 (hw'.cell b1 (by simp <;> omega)))) ?_; try simp only [put_lit, List.set_cons_zero, List.set_cons_succ]
  refine ha_call (i := 6) (by kernel_rfl) rfl rfl (fun K hK => ?_); go_simp; refine ⟨_, _, ⟨rfl, rfl⟩, hK _ _ ⟨_, plus_any _ _ _ _ _ _ _ _ _ hX.out.2 hY.out.2 (nl_spec _) (nl_spec _) (by omega) (by omega), ?_⟩⟩; clear hK K; rintro e w2 ⟨A2, c2, rfl, hc2, hl2, hb1⟩; refine ⟨_, rfl, hS.below hb1, ?_⟩; replace hS := hS.below hb1; have lt2 := heap_lt h2; replace hb := hb.trans (hb1.mono hb.size); replace h2 := below_look hb1 h2; clear hb1; try simp only [put_lit, List.set_cons_zero, List.set_cons_succ]
  refine ha_call (i := 7) (by kernel_rfl) rfl rfl (fun K hK => ?_); go_simp; refine ⟨_, _, ⟨rfl, rfl⟩, hK _ _ ⟨_, signedI_any _ _ _ _ _, ?_⟩⟩; clear hK K; rintro e w3 ⟨rfl, hb1⟩; refine ⟨_, rfl, hS.below hb1, ?_⟩; replace hS := hS.below hb1; replace hl2 := hl2.below hb1; replace hb := hb.trans (hb1.mono hb.size); replace h2 := below_look hb1 h2; clear hb1; rw [HZ.out]; try simp only [put_lit, List.set_cons_zero, List.set_cons_succ]
  refine ha_store (i := 8) (by kernel_rfl) rfl rfl 41 _ _ rfl _ (iv (x + y) A2 c2) rfl rfl 41 _ h2 info84 rfl (iv_one _ _ _) (hS.setRow (by simp) _) (fun hS => ?_); try simp only [put_lit, List.set_cons_zero, List.set_cons_succ]
  refine wpAnyH_done (by kernel_rfl) ?_ _
  go_wp2_with fail
  exact bodyPost_ret (res_iv rfl _ _ (w.heap.size + 1 + 1) rfl (hr_new h2)) rfl ⟨A2, c2, rfl, IvAt.of (x + y) (by rw [← HZ.out, sg_bd]) hc2 (lr_setRow hl2 lt2), below_setRow hb (by omega) _⟩
set_option maxHeartbeats 1000000 in
theorem Sum2_big (x y : Int) (A A' : Option Addr) (c c' : Nat) (w : World) (hx : IvAt w x A c) (hy : IvAt w y A' c') (hn : nl x.natAbs ≤ 400) (hs : (ng x == ng y) = false) (hge : y.natAbs ≤ x.natAbs) (hz : sg (ng x) (x.natAbs - y.natAbs) = x + y) :
    Calls Tryz.prog 37 #[.agg (iv x A c), .agg (iv y A' c')] w fun e w' => ∃ A2 c2, e = .returned (.agg (iv (x + y) A2 c2)) ∧ IvAt w' (x + y) A2 c2 ∧ Below w.heap.size w w' := by
  have HGE := Lib.hid hge
  obtain ⟨cc, hcc⟩ : ∃ cc, cmpN x.natAbs y.natAbs = cc := ⟨_, rfl⟩
  have hc0 : 0 ≤ cc := by rw [← hcc]; exact cmpN_ge.2 hge
  have HCC := Lib.hid hcc
  clear hcc hge
  have HX := Lib.hid hx
  have HY := Lib.hid hy
  have HZ := Lib.hid hz
  clear hx hy hz
  go_enter Tryz.func37, Tryz.ntmps37
  go_upto_region 1 with (fail)
  refine wp_world (fun W => W.heap[w.heap.size]? = some (.cells (iv x A c) 41 (0, 0)) ∧ W.heap[w.heap.size + 1]? = some (.cells (iv y A' c') 41 (0, 0)) ∧ W.heap[w.heap.size + 1 + 1]? = some (.cells (iv 0 none 0) 41 (0, 0)) ∧ Below w.heap.size w W) ⟨ha_old (ha_old (ha_new rfl)), ha_old (ha_new (by simp)), by rw [iv_zero]; exact ha_new (by simp), (((Below.refl _ _).alloc (Nat.le_refl _) _).alloc (by simp) _).alloc (by simp; omega) _⟩ ?_
  rintro W ⟨h0, h1, h2, hb⟩
  have a0 := iv0 h0
  have a1 := iv1 h0
  have b0 := iv0 h1
  have b1 := iv1 h1
  go_wp2_with (go_at_call 75; refine (compareN_any _ _ _ _ x.natAbs y.natAbs _ (HX.out.below hb).2 (HY.out.below hb).2 (by omega)).mono ?_; rintro e w1 ⟨rfl, hb1⟩; rw [HCC.out]; replace h0 := below_look hb1 h0; replace h1 := below_look hb1 h1; replace h2 := below_look hb1 h2; replace hb := hb.trans (hb1.mono hb.size); clear hb1 a0 a1 b0 b1)
  have a0 := iv0 h0
  have a1 := iv1 h0
  have b1 := iv1 h1
  go_upto_region 4 with (fail)
  have hX := Lib.hid (HX.out.below hb.drew)
  have hY := Lib.hid (HY.out.below hb.drew)
  replace hb := hb.drew
  refine wp_region_held_drew (S := Kept [w.heap.size + 1 + 1] w1) mixed (Kept.drew [w.heap.size + 1 + 1] w1) (fun hS => ?_)
  refine ha_k (i := 0) rfl (by kernel_rfl) (by kernel_rfl) (by kernel_rfl) (fun _ _ _ _ h => h) hS rfl (fun K hK => ?_); go_simp; refine hK _ ?_; clear hK K; try simp only [put_lit, List.set_cons_zero, List.set_cons_succ]
  refine ha_val (i := 1) rfl (by kernel_rfl) (by kernel_rfl) (by kernel_rfl) (fun _ _ _ h => h) hS rfl (fun w' hw' => ex_one rfl (one4 (hw'.cell a0 (by simp <;> omega)))) ?_; try simp only [put_lit, List.set_cons_zero, List.set_cons_succ]
  refine ha_k (i := 2) rfl (by kernel_rfl) (by kernel_rfl) (by kernel_rfl) (fun _ _ _ _ h => h) hS rfl (fun K hK => ?_); go_simp; refine hK _ ?_; clear hK K; try simp only [put_lit, List.set_cons_zero, List.set_cons_succ]
  refine ha_val (i := 3) rfl (by kernel_rfl) (by kernel_rfl) (by kernel_rfl) (fun _ _ _ h => h) hS rfl (fun w' hw' => ex_one rfl (one82 (hw'.cell a1 (by simp <;> omega)))) ?_; try simp only [put_lit, List.set_cons_zero, List.set_cons_succ]
  refine ha_k (i := 4) rfl (by kernel_rfl) (by kernel_rfl) (by kernel_rfl) (fun _ _ _ _ h => h) hS rfl (fun K hK => ?_); go_simp; refine hK _ ?_; clear hK K; try simp only [put_lit, List.set_cons_zero, List.set_cons_succ]
  refine ha_val (i := 5) rfl (by kernel_rfl) (by kernel_rfl) (by kernel_rfl) (fun _ _ _ h => h) hS rfl (fun w' hw' => ex_one rfl (one82 (hw'.cell b1 (by simp <;> omega)))) ?_; try simp only [put_lit, List.set_cons_zero, List.set_cons_succ]
  refine ha_call (i := 6) (by kernel_rfl) rfl rfl (fun K hK => ?_); go_simp; refine ⟨_, _, ⟨rfl, rfl⟩, hK _ _ ⟨_, less_any _ _ _ _ _ _ _ _ _ hX.out.2 hY.out.2 (nl_spec _) (nl_spec _) (by omega) HGE.out, ?_⟩⟩; clear hK K; rintro e w2 ⟨A2, c2, rfl, hc2, hl2, hb1⟩; refine ⟨_, rfl, hS.below hb1, ?_⟩; replace hS := hS.below hb1; have lt2 := heap_lt h2; replace hb := hb.trans (hb1.mono hb.size); replace h2 := below_look hb1 h2; clear hb1; try simp only [put_lit, List.set_cons_zero, List.set_cons_succ]
  refine ha_call (i := 7) (by kernel_rfl) rfl rfl (fun K hK => ?_); go_simp; refine ⟨_, _, ⟨rfl, rfl⟩, hK _ _ ⟨_, signedI_any _ _ _ _ _, ?_⟩⟩; clear hK K; rintro e w3 ⟨rfl, hb1⟩; refine ⟨_, rfl, hS.below hb1, ?_⟩; replace hS := hS.below hb1; replace hl2 := hl2.below hb1; replace hb := hb.trans (hb1.mono hb.size); replace h2 := below_look hb1 h2; clear hb1; rw [HZ.out]; try simp only [put_lit, List.set_cons_zero, List.set_cons_succ]
  refine ha_store (i := 8) (by kernel_rfl) rfl rfl 41 _ _ rfl _ (iv (x + y) A2 c2) rfl rfl 41 _ h2 info84 rfl (iv_one _ _ _) (hS.setRow (by simp) _) (fun hS => ?_); try simp only [put_lit, List.set_cons_zero, List.set_cons_succ]
  refine wpAnyH_done (by kernel_rfl) ?_ _
  go_wp2_with fail
  exact bodyPost_ret (res_iv rfl _ _ (w.heap.size + 1 + 1) rfl (hr_new h2)) rfl ⟨A2, c2, rfl, IvAt.of (x + y) (by rw [← HZ.out, sg_bd]) hc2 (lr_setRow hl2 lt2), below_setRow hb (by omega) _⟩
set_option maxHeartbeats 1000000 in
theorem Sum2_less (x y : Int) (A A' : Option Addr) (c c' : Nat) (w : World) (hx : IvAt w x A c) (hy : IvAt w y A' c') (hn : nl x.natAbs ≤ 400) (hn' : nl y.natAbs ≤ 400) (hs : (ng x == ng y) = false) (hge : x.natAbs < y.natAbs) (hz : sg (ng y) (y.natAbs - x.natAbs) = x + y) :
    Calls Tryz.prog 37 #[.agg (iv x A c), .agg (iv y A' c')] w fun e w' => ∃ A2 c2, e = .returned (.agg (iv (x + y) A2 c2)) ∧ IvAt w' (x + y) A2 c2 ∧ Below w.heap.size w w' := by
  have HGE := Lib.hid (Nat.le_of_lt hge)
  obtain ⟨cc, hcc⟩ : ∃ cc, cmpN x.natAbs y.natAbs = cc := ⟨_, rfl⟩
  have hc0 : ¬ 0 ≤ cc := by rw [← hcc, cmpN_ge]; omega
  have HCC := Lib.hid hcc
  clear hcc hge
  have HX := Lib.hid hx
  have HY := Lib.hid hy
  have HZ := Lib.hid hz
  clear hx hy hz
  go_enter Tryz.func37, Tryz.ntmps37
  go_upto_region 1 with (fail)
  refine wp_world (fun W => W.heap[w.heap.size]? = some (.cells (iv x A c) 41 (0, 0)) ∧ W.heap[w.heap.size + 1]? = some (.cells (iv y A' c') 41 (0, 0)) ∧ W.heap[w.heap.size + 1 + 1]? = some (.cells (iv 0 none 0) 41 (0, 0)) ∧ Below w.heap.size w W) ⟨ha_old (ha_old (ha_new rfl)), ha_old (ha_new (by simp)), by rw [iv_zero]; exact ha_new (by simp), (((Below.refl _ _).alloc (Nat.le_refl _) _).alloc (by simp) _).alloc (by simp; omega) _⟩ ?_
  rintro W ⟨h0, h1, h2, hb⟩
  have a0 := iv0 h0
  have a1 := iv1 h0
  have b0 := iv0 h1
  have b1 := iv1 h1
  go_wp2_with (go_at_call 75; refine (compareN_any _ _ _ _ x.natAbs y.natAbs _ (HX.out.below hb).2 (HY.out.below hb).2 (by omega)).mono ?_; rintro e w1 ⟨rfl, hb1⟩; rw [HCC.out]; replace h0 := below_look hb1 h0; replace h1 := below_look hb1 h1; replace h2 := below_look hb1 h2; replace hb := hb.trans (hb1.mono hb.size); clear hb1 a0 a1 b0 b1)
  have a1 := iv1 h0
  have b0 := iv0 h1
  have b1 := iv1 h1
  go_upto_region 5 with (fail)
  have hX := Lib.hid (HX.out.below hb.drew)
  have hY := Lib.hid (HY.out.below hb.drew)
  replace hb := hb.drew
  refine wp_region_held_drew (S := Kept [w.heap.size + 1 + 1] w1) mixed (Kept.drew [w.heap.size + 1 + 1] w1) (fun hS => ?_)
  refine ha_k (i := 0) rfl (by kernel_rfl) (by kernel_rfl) (by kernel_rfl) (fun _ _ _ _ h => h) hS rfl (fun K hK => ?_); go_simp; refine hK _ ?_; clear hK K; try simp only [put_lit, List.set_cons_zero, List.set_cons_succ]
  refine ha_val (i := 1) rfl (by kernel_rfl) (by kernel_rfl) (by kernel_rfl) (fun _ _ _ h => h) hS rfl (fun w' hw' => ex_one rfl (one4 (hw'.cell b0 (by simp <;> omega)))) ?_; try simp only [put_lit, List.set_cons_zero, List.set_cons_succ]
  refine ha_k (i := 2) rfl (by kernel_rfl) (by kernel_rfl) (by kernel_rfl) (fun _ _ _ _ h => h) hS rfl (fun K hK => ?_); go_simp; refine hK _ ?_; clear hK K; try simp only [put_lit, List.set_cons_zero, List.set_cons_succ]
  refine ha_val (i := 3) rfl (by kernel_rfl) (by kernel_rfl) (by kernel_rfl) (fun _ _ _ h => h) hS rfl (fun w' hw' => ex_one rfl (one82 (hw'.cell b1 (by simp <;> omega)))) ?_; try simp only [put_lit, List.set_cons_zero, List.set_cons_succ]
  refine ha_k (i := 4) rfl (by kernel_rfl) (by kernel_rfl) (by kernel_rfl) (fun _ _ _ _ h => h) hS rfl (fun K hK => ?_); go_simp; refine hK _ ?_; clear hK K; try simp only [put_lit, List.set_cons_zero, List.set_cons_succ]
  refine ha_val (i := 5) rfl (by kernel_rfl) (by kernel_rfl) (by kernel_rfl) (fun _ _ _ h => h) hS rfl (fun w' hw' => ex_one rfl (one82 (hw'.cell a1 (by simp <;> omega)))) ?_; try simp only [put_lit, List.set_cons_zero, List.set_cons_succ]
  refine ha_call (i := 6) (by kernel_rfl) rfl rfl (fun K hK => ?_); go_simp; refine ⟨_, _, ⟨rfl, rfl⟩, hK _ _ ⟨_, less_any _ _ _ _ _ _ _ _ _ hY.out.2 hX.out.2 (nl_spec _) (nl_spec _) (by omega) HGE.out, ?_⟩⟩; clear hK K; rintro e w2 ⟨A2, c2, rfl, hc2, hl2, hb1⟩; refine ⟨_, rfl, hS.below hb1, ?_⟩; replace hS := hS.below hb1; have lt2 := heap_lt h2; replace hb := hb.trans (hb1.mono hb.size); replace h2 := below_look hb1 h2; clear hb1; try simp only [put_lit, List.set_cons_zero, List.set_cons_succ]
  refine ha_call (i := 7) (by kernel_rfl) rfl rfl (fun K hK => ?_); go_simp; refine ⟨_, _, ⟨rfl, rfl⟩, hK _ _ ⟨_, signedI_any _ _ _ _ _, ?_⟩⟩; clear hK K; rintro e w3 ⟨rfl, hb1⟩; refine ⟨_, rfl, hS.below hb1, ?_⟩; replace hS := hS.below hb1; replace hl2 := hl2.below hb1; replace hb := hb.trans (hb1.mono hb.size); replace h2 := below_look hb1 h2; clear hb1; rw [HZ.out]; try simp only [put_lit, List.set_cons_zero, List.set_cons_succ]
  refine ha_store (i := 8) (by kernel_rfl) rfl rfl 41 _ _ rfl _ (iv (x + y) A2 c2) rfl rfl 41 _ h2 info84 rfl (iv_one _ _ _) (hS.setRow (by simp) _) (fun hS => ?_); try simp only [put_lit, List.set_cons_zero, List.set_cons_succ]
  refine wpAnyH_done (by kernel_rfl) ?_ _
  go_wp2_with fail
  exact bodyPost_ret (res_iv rfl _ _ (w.heap.size + 1 + 1) rfl (hr_new h2)) rfl ⟨A2, c2, rfl, IvAt.of (x + y) (by rw [← HZ.out, sg_bd]) hc2 (lr_setRow hl2 lt2), below_setRow hb (by omega) _⟩
theorem Sum2_any (x y : Int) (A A' : Option Addr) (c c' : Nat) (w : World) (hx : IvAt w x A c) (hy : IvAt w y A' c') (hn : nl x.natAbs ≤ 400) (hn' : nl y.natAbs ≤ 400) :
    Calls Tryz.prog 37 #[.agg (iv x A c), .agg (iv y A' c')] w fun e w' => ∃ A2 c2, e = .returned (.agg (iv (x + y) A2 c2)) ∧ IvAt w' (x + y) A2 c2 ∧ Below w.heap.size w w' := by
  cases hs : (ng x == ng y)
  · by_cases h : y.natAbs ≤ x.natAbs
    · exact Sum2_big x y A A' c c' w hx hy hn hs h (add_big hs h)
    · exact Sum2_less x y A A' c c' w hx hy hn hn' hs (by omega) (add_less hs (by omega))
  · exact Sum2_same x y A A' c c' w hx hy hn hn' hs (add_same hs)
end Go.Proofs.YtclainfdeghgnaaGreatDoor

namespace Go.Proofs.YtclainfdeghgnaaGreatDoor
open Go.RowKit Go.Proofs.YtclainfdeghgnaaGreatDoor.Nm Go.Proofs.YtclainfdeghgnaaGreatDoor.Lm
theorem run_bs82b (w : World) (y z : Int) : (Instr.buildSlice 39 2 #[(0, .int .u32 y), (1, .int .u32 z)]).run Tryz.prog w = .ok (.slice (some ⟨w.heap.size, 0, none⟩) 2 2) (w.alloc (.cells #[.int .u32 y, .int .u32 z] 113)) := by kernel_rfl
theorem ex_bs82b {ev : Operand → Value} {o : Oper} {w : World} (x x' : Operand) (ho : o.op = .buildSlice 39 2 #[(0, x), (1, x')]) {y z : Int} (hx : ev x = .int .u32 y) (hx' : ev x' = .int .u32 z) :
    (execOp ev o).run Tryz.prog w = .ok (.value (.slice (some ⟨w.heap.size, 0, none⟩) 2 2)) (w.alloc (.cells #[.int .u32 y, .int .u32 z] 113)) := by
  unfold execOp
  have := run_bs82b w y z
  simp [ho, hx, hx', this, Result.andThen]
theorem two_limbs {m : Nat} : #[Value.int .u32 ((m % B : Nat) : Int), .int .u32 ((m / B % B : Nat) : Int)] = lcells m 2 := by
  have e0 : lm m 0 = m % B := by simp [lm]
  have e1 : lm m 1 = m / B % B := by unfold lm; rw [Nat.pow_one]
  simp [lcells, lrow, List.range_succ, e0, e1]
theorem lim64 {m : Nat} (h : m ≤ 9223372036854775808) : m < B ^ 2 := by
  have : B ^ 2 = 18446744073709551616 := by decide
  omega
theorem wl_put84 {ops : Array Oper} {rest : List Oper} {ty' : TypeId} {x y : Operand} {pos : String} {after : Array Edge} {a : Act} {w : World} {Q : Exit → Act → World → Prop} {b : Nat} {z z0 : Int} {A A0 : Option Addr} {c c0 : Nat} (hx : a.eval x = .pointer (some ⟨b, 0, none⟩)) (hy : a.eval y = .agg (iv z A c)) (hb : w.heap[b]? = some (.cells (iv z0 A0 c0) 41 (0, 0)))
    (h : wpList Tryz.prog ops Q rest (a.put none undef) (w.setRow b (iv z A c))) : wpList Tryz.prog ops Q (⟨none, .store 41 x y, ty', pos, after, none⟩ :: rest) a w :=
  wpList_store_row rfl 41 x y rfl b (iv z A c) hx hy 41 (iv z0 A0 c0) hb info84 rfl (iv_one _ _ _) h
set_option maxHeartbeats 1000000 in
set_option maxRecDepth 100000 in
theorem Of_any (n : Int) (h1 : -9223372036854775808 ≤ n) (h2 : n ≤ 9223372036854775807) (w : World) :
    Calls Tryz.prog 39 #[.int .i64 n] w fun e w' => ∃ A2 c2, e = .returned (.agg (iv n A2 c2)) ∧ IvAt w' n A2 c2 ∧ Below w.heap.size w w' := by
  obtain ⟨m, hm⟩ : ∃ m, n.natAbs = m := ⟨_, rfl⟩
  have HM := Lib.hid hm
  have hmu : (m : Int) ≤ 9223372036854775808 := by omega
  have hmu' : m ≤ 9223372036854775808 := by omega
  rcases Int.lt_or_le n 0 with hn | hn
  · have e1 := neg_u64 h1 hn
    rw [hm] at e1
    have E1 := Lib.hid e1
    clear hm
    go_enter Tryz.func39, Tryz.ntmps39
    go_upto_region 4 with (fail)
    refine wp_world (fun W => W.heap[w.heap.size]? = some (.cells (iv 0 none 0) 41 (0, 0)) ∧ Below w.heap.size w W) ⟨by rw [iv_zero]; exact ha_new rfl, (Below.refl _ _).alloc (Nat.le_refl _) _⟩ ?_
    rintro W ⟨h0, hb⟩
    apply wp_region_lit
    refine wl_k rfl (fun K hK => ?_); go_simp; refine hK _ ?_; clear hK K
    refine wl_k rfl (fun K hK => ?_); go_simp; refine hK _ ?_; clear hK K
    refine wl_k rfl (fun K hK => ?_); go_simp; refine hK _ ?_; clear hK K
    refine wl_k rfl (fun K hK => ?_); go_simp; refine hK _ ?_; clear hK K
    refine wl_k rfl (fun K hK => ?_); go_simp; refine hK _ ?_; clear hK K
    refine wl_k rfl (fun K hK => ?_); go_simp; refine hK _ ?_; clear hK K
    refine wl_k rfl (fun K hK => ?_); go_simp; refine hK _ ?_; clear hK K
    refine wl_w rfl (ex_bs82b _ _ rfl rfl rfl) ?_
    simp only [put_lit, List.set_cons_zero, List.set_cons_succ]
    try rw [E1.out]
    rw [show (m : Int) / 4294967296 = ((m / B : Nat) : Int) by rw [B_eq]; omega, wrap32, wrap32, two_limbs]
    have hl := lcells_lr (B0 := W.heap.size) (ha_new (w := W) (o := .cells (lcells m 2) 113) rfl) (Nat.le_refl _)
    refine wl_world (fun X => LrB W.heap.size X (some ⟨W.heap.size, 0, none⟩) 2 m ∧ X.heap[w.heap.size]? = some (.cells (iv 0 none 0) 41 (0, 0)) ∧ Below w.heap.size w X) ⟨hl, ha_old h0, hb.alloc hb.size _⟩ ?_
    have ltp := heap_lt h0
    clear hl h0 hb
    rintro X ⟨hl, h0, hb⟩
    refine wl_ck rfl (fun K hK => ?_); go_simp; refine ⟨_, _, ⟨rfl, rfl⟩, hK _ _ ⟨_, trim_any _ 2 2 m _ hl.lr (lim64 hmu') (Nat.le_refl _) (by omega), ?_⟩⟩; clear hK K; rintro e X2 ⟨rfl, rfl⟩; refine ⟨_, rfl, ?_⟩; simp only [put_lit, List.set_cons_zero, List.set_cons_succ]
    refine wl_k rfl (fun K hK => ?_); go_simp; refine hK _ ?_; clear hK K
    refine wl_put84 (z := n) (A := some ⟨W.heap.size, 0, none⟩) (c := 2) rfl ?_ h0 ?_
    · unfold iv
      rw [HM.out, ng_def]
      simp only [hn, decide_true]
      rfl
    have hle := nl_le _ _ (lim64 hmu')
    go_wp2_with fail
    exact bodyPost_ret (res_iv rfl _ _ w.heap.size rfl (hr_new h0)) rfl ⟨_, _, rfl, IvAt.of n HM.out hle (lr_setRow (hl.le hle) ltp), below_setRow hb (by omega) _⟩
  · have e1 := pos_u64 hn h2
    rw [hm] at e1
    have E1 := Lib.hid e1
    have hn' : ¬ n < 0 := by omega
    clear hm
    go_enter Tryz.func39, Tryz.ntmps39
    go_upto_region 4 with (fail)
    refine wp_world (fun W => W.heap[w.heap.size]? = some (.cells (iv 0 none 0) 41 (0, 0)) ∧ Below w.heap.size w W) ⟨by rw [iv_zero]; exact ha_new rfl, (Below.refl _ _).alloc (Nat.le_refl _) _⟩ ?_
    rintro W ⟨h0, hb⟩
    apply wp_region_lit
    refine wl_k rfl (fun K hK => ?_); go_simp; refine hK _ ?_; clear hK K
    refine wl_k rfl (fun K hK => ?_); go_simp; refine hK _ ?_; clear hK K
    refine wl_k rfl (fun K hK => ?_); go_simp; refine hK _ ?_; clear hK K
    refine wl_k rfl (fun K hK => ?_); go_simp; refine hK _ ?_; clear hK K
    refine wl_k rfl (fun K hK => ?_); go_simp; refine hK _ ?_; clear hK K
    refine wl_k rfl (fun K hK => ?_); go_simp; refine hK _ ?_; clear hK K
    refine wl_k rfl (fun K hK => ?_); go_simp; refine hK _ ?_; clear hK K
    refine wl_w rfl (ex_bs82b _ _ rfl rfl rfl) ?_
    simp only [put_lit, List.set_cons_zero, List.set_cons_succ]
    try rw [E1.out]
    rw [show (m : Int) / 4294967296 = ((m / B : Nat) : Int) by rw [B_eq]; omega, wrap32, wrap32, two_limbs]
    have hl := lcells_lr (B0 := W.heap.size) (ha_new (w := W) (o := .cells (lcells m 2) 113) rfl) (Nat.le_refl _)
    refine wl_world (fun X => LrB W.heap.size X (some ⟨W.heap.size, 0, none⟩) 2 m ∧ X.heap[w.heap.size]? = some (.cells (iv 0 none 0) 41 (0, 0)) ∧ Below w.heap.size w X) ⟨hl, ha_old h0, hb.alloc hb.size _⟩ ?_
    have ltp := heap_lt h0
    clear hl h0 hb
    rintro X ⟨hl, h0, hb⟩
    refine wl_ck rfl (fun K hK => ?_); go_simp; refine ⟨_, _, ⟨rfl, rfl⟩, hK _ _ ⟨_, trim_any _ 2 2 m _ hl.lr (lim64 hmu') (Nat.le_refl _) (by omega), ?_⟩⟩; clear hK K; rintro e X2 ⟨rfl, rfl⟩; refine ⟨_, rfl, ?_⟩; simp only [put_lit, List.set_cons_zero, List.set_cons_succ]
    refine wl_k rfl (fun K hK => ?_); go_simp; refine hK _ ?_; clear hK K
    refine wl_put84 (z := n) (A := some ⟨W.heap.size, 0, none⟩) (c := 2) rfl ?_ h0 ?_
    · unfold iv
      rw [HM.out, ng_def]
      simp only [hn', decide_false]
      rfl
    have hle := nl_le _ _ (lim64 hmu')
    go_wp2_with fail
    exact bodyPost_ret (res_iv rfl _ _ w.heap.size rfl (hr_new h0)) rfl ⟨_, _, rfl, IvAt.of n HM.out hle (lr_setRow (hl.le hle) ltp), below_setRow hb (by omega) _⟩
theorem IvAt.put {w : World} {z z0 : Int} {A A0 : Option Addr} {c c0 p : Nat} (h : IvAt w z A c) (hp : w.heap[p]? = some (.cells (iv z0 A0 c0) 41 (0, 0))) (cs : Array Value) : IvAt (w.setRow p cs) z A c := ⟨h.1, fun hn => by
  obtain ⟨g, h1, h2, h3⟩ := h.2 hn
  have hne : g ≠ p := by
    rintro rfl
    have := h3 0 hn
    rw [iv0 hp] at this
    cases this
  refine ⟨g, h1, by simpa using h2, fun j hj => ?_⟩
  rw [World.cell?_of_block (setRow_other w p g cs hne)]
  exact h3 j hj⟩
theorem ex_alloc84 {o : Oper} (ho : o.op = .alloc 41) (ev : Operand → Value) (w : World) : (execOp ev o).run Tryz.prog w = .ok (.value (.pointer (some ⟨w.heap.size, 0, none⟩))) (w.alloc (.cells (iv 0 none 0) 41)) := by
  rw [iv_zero]
  unfold execOp
  simp only [ho]
  simp [go_sem]
theorem wl_new84 {ops : Array Oper} {rest : List Oper} {dst : Option Tmp} {ty' : TypeId} {pos : String} {after : Array Edge} {a : Act} {w : World} {Q : Exit → Act → World → Prop}
    (h : ∀ W p, Below w.heap.size w W → w.heap.size ≤ p → W.heap[p]? = some (.cells (iv 0 none 0) 41 (0, 0)) → wpList Tryz.prog ops Q rest (a.put dst (.pointer (some ⟨p, 0, none⟩))) W) : wpList Tryz.prog ops Q (⟨dst, .alloc 41, ty', pos, after, none⟩ :: rest) a w := wl_new (ex_alloc84 rfl) h
/-- A whole number stored: behind it the world under a name. -/
theorem wl_putI {ops : Array Oper} {rest : List Oper} {ty' : TypeId} {x y : Operand} {pos : String} {after : Array Edge} {a : Act} {w : World} {Q : Exit → Act → World → Prop} {b : Nat} {z z0 : Int} {A A0 : Option Addr} {c c0 : Nat} (hx : a.eval x = .pointer (some ⟨b, 0, none⟩)) (hy : a.eval y = .agg (iv z A c)) (hb : w.heap[b]? = some (.cells (iv z0 A0 c0) 41 (0, 0)))
    (h : ∀ W, (∀ B w0, B ≤ b → Below B w0 w → Below B w0 W) → (∀ k o, k ≠ b → w.heap[k]? = some o → W.heap[k]? = some o) → W.heap[b]? = some (.cells (iv z A c) 41 (0, 0)) → (∀ z A c, IvAt w z A c → IvAt W z A c) → wpList Tryz.prog ops Q rest (a.put none undef) W) :
    wpList Tryz.prog ops Q (⟨none, .store 41 x y, ty', pos, after, none⟩ :: rest) a w :=
  wl_put84 hx hy hb (h _ (fun _ _ hB h0 => below_setRow h0 hB _) (fun _ _ hne h0 => hr_old h0 hne) (hr_new hb) (fun _ _ _ hi => hi.put hb _))
set_option maxHeartbeats 1000000 in
theorem TimesI_any (x y : Int) (A A' : Option Addr) (c c' : Nat) (w : World) (hx : IvAt w x A c) (hy : IvAt w y A' c') (hn : nl x.natAbs ≤ 400) (hn' : nl y.natAbs ≤ 400) :
    Calls Tryz.prog 38 #[.agg (iv x A c), .agg (iv y A' c')] w fun e w' => ∃ A2 c2, e = .returned (.agg (iv (x * y) A2 c2)) ∧ IvAt w' (x * y) A2 c2 ∧ Below w.heap.size w w' := by
  have HX := Lib.hid hx
  have HY := Lib.hid hy
  clear hx hy
  have HM := Lib.hid (mul_sg x y)
  go_enter Tryz.func38, Tryz.ntmps38
  go_upto_region 1 with (fail)
  refine wp_world (fun W => W.heap[w.heap.size]? = some (.cells (iv x A c) 41 (0, 0)) ∧ W.heap[w.heap.size + 1]? = some (.cells (iv y A' c') 41 (0, 0)) ∧ W.heap[w.heap.size + 1 + 1]? = some (.cells (iv 0 none 0) 41 (0, 0)) ∧ Below w.heap.size w W) ⟨ha_old (ha_old (ha_new rfl)), ha_old (ha_new (by simp)), by rw [iv_zero]; exact ha_new (by simp), (((Below.refl _ _).alloc (Nat.le_refl _) _).alloc (by simp) _).alloc (by simp; omega) _⟩ ?_
  rintro W ⟨h0, h1, h2, hb⟩
  have a0 := iv0 h0
  have a1 := iv1 h0
  have b0 := iv0 h1
  have b1 := iv1 h1
  have hX := Lib.hid (HX.out.below hb.drew)
  have hY := Lib.hid (HY.out.below hb.drew)
  replace hb := hb.drew
  refine wp_region_held_drew (S := Kept [w.heap.size + 1 + 1] W) mixed (Kept.drew [w.heap.size + 1 + 1] W) (fun hS => ?_)
  refine ha_k (i := 0) rfl (by kernel_rfl) (by kernel_rfl) (by kernel_rfl) (fun _ _ _ _ h => h) hS rfl (fun K hK => ?_); go_simp; refine hK _ ?_; clear hK K; try simp only [put_lit, List.set_cons_zero, List.set_cons_succ]
  refine ha_val (i := 1) rfl (by kernel_rfl) (by kernel_rfl) (by kernel_rfl) (fun _ _ _ h => h) hS rfl (fun w' hw' => ex_one rfl (one4 (hw'.cell a0 (by simp <;> omega)))) ?_; try simp only [put_lit, List.set_cons_zero, List.set_cons_succ]
  refine ha_k (i := 2) rfl (by kernel_rfl) (by kernel_rfl) (by kernel_rfl) (fun _ _ _ _ h => h) hS rfl (fun K hK => ?_); go_simp; refine hK _ ?_; clear hK K; try simp only [put_lit, List.set_cons_zero, List.set_cons_succ]
  refine ha_val (i := 3) rfl (by kernel_rfl) (by kernel_rfl) (by kernel_rfl) (fun _ _ _ h => h) hS rfl (fun w' hw' => ex_one rfl (one4 (hw'.cell b0 (by simp <;> omega)))) ?_; try simp only [put_lit, List.set_cons_zero, List.set_cons_succ]
  refine ha_k (i := 4) rfl (by kernel_rfl) (by kernel_rfl) (by kernel_rfl) (fun _ _ _ _ h => h) hS rfl (fun K hK => ?_); go_simp; refine hK _ ?_; clear hK K; try simp only [put_lit, List.set_cons_zero, List.set_cons_succ]
  refine ha_k (i := 5) rfl (by kernel_rfl) (by kernel_rfl) (by kernel_rfl) (fun _ _ _ _ h => h) hS rfl (fun K hK => ?_); go_simp; refine hK _ ?_; clear hK K; try simp only [put_lit, List.set_cons_zero, List.set_cons_succ]
  refine ha_val (i := 6) rfl (by kernel_rfl) (by kernel_rfl) (by kernel_rfl) (fun _ _ _ h => h) hS rfl (fun w' hw' => ex_one rfl (one82 (hw'.cell a1 (by simp <;> omega)))) ?_; try simp only [put_lit, List.set_cons_zero, List.set_cons_succ]
  refine ha_k (i := 7) rfl (by kernel_rfl) (by kernel_rfl) (by kernel_rfl) (fun _ _ _ _ h => h) hS rfl (fun K hK => ?_); go_simp; refine hK _ ?_; clear hK K; try simp only [put_lit, List.set_cons_zero, List.set_cons_succ]
  refine ha_val (i := 8) rfl (by kernel_rfl) (by kernel_rfl) (by kernel_rfl) (fun _ _ _ h => h) hS rfl (fun w' hw' => ex_one rfl (one82 (hw'.cell b1 (by simp <;> omega)))) ?_; try simp only [put_lit, List.set_cons_zero, List.set_cons_succ]
  refine ha_call (i := 9) (by kernel_rfl) rfl rfl (fun K hK => ?_); go_simp; refine ⟨_, _, ⟨rfl, rfl⟩, hK _ _ ⟨_, times_any _ _ _ _ _ _ _ _ _ hX.out.2 hY.out.2 (nl_spec _) (nl_spec _) (by omega) (by omega), ?_⟩⟩; clear hK K; rintro e w2 ⟨A2, c2, rfl, hc2, hl2, hb1⟩; refine ⟨_, rfl, hS.below hb1, ?_⟩; replace hS := hS.below hb1; have lt2 := heap_lt h2; replace hb := hb.trans (hb1.mono hb.size); replace h2 := below_look hb1 h2; clear hb1; try simp only [put_lit, List.set_cons_zero, List.set_cons_succ]
  refine ha_call (i := 10) (by kernel_rfl) rfl rfl (fun K hK => ?_); go_simp; refine ⟨_, _, ⟨rfl, rfl⟩, hK _ _ ⟨_, signedI_any (ng x != ng y) _ _ _ _, ?_⟩⟩; clear hK K; rintro e w3 ⟨rfl, hb1⟩; refine ⟨_, rfl, hS.below hb1, ?_⟩; replace hS := hS.below hb1; replace hl2 := hl2.below hb1; replace hb := hb.trans (hb1.mono hb.size); replace h2 := below_look hb1 h2; clear hb1; rw [HM.out]; try simp only [put_lit, List.set_cons_zero, List.set_cons_succ]
  refine ha_store (i := 11) (by kernel_rfl) rfl rfl 41 _ _ rfl _ (iv (x * y) A2 c2) rfl rfl 41 _ h2 info84 rfl (iv_one _ _ _) (hS.setRow (by simp) _) (fun hS => ?_); try simp only [put_lit, List.set_cons_zero, List.set_cons_succ]
  refine wpAnyH_done (by kernel_rfl) ?_ _
  go_wp2_with fail
  exact bodyPost_ret (res_iv rfl _ _ (w.heap.size + 1 + 1) rfl (hr_new h2)) rfl ⟨A2, c2, rfl, IvAt.of (x * y) (Int.natAbs_mul _ _) hc2 (lr_setRow hl2 lt2), below_setRow hb (by omega) _⟩
theorem nl_sub {r b k : Nat} (h : r ≤ b) (hb : nl b ≤ k) : nl r ≤ k := Nat.le_trans (nl_mono h) hb
end Go.Proofs.YtclainfdeghgnaaGreatDoor
namespace Go.Proofs.YtclainfdeghgnaaGreatDoor
open Go.RowKit Go.Proofs.YtclainfdeghgnaaGreatDoor.Nm Go.Proofs.YtclainfdeghgnaaGreatDoor.Lm
def p2 (k : Nat) : Int := ((2 ^ k : Nat) : Int)
end Go.Proofs.YtclainfdeghgnaaGreatDoor

namespace Go.Proofs.YtclainfdeghgnaaGreatDoor
open Go.RowKit Go.Proofs.YtclainfdeghgnaaGreatDoor.Nm Go.Proofs.YtclainfdeghgnaaGreatDoor.Lm
end Go.Proofs.YtclainfdeghgnaaGreatDoor
namespace Go.Proofs.YtclainfdeghgnaaGreatDoor
open Go.RowKit Go.Proofs.YtclainfdeghgnaaGreatDoor.Nm

theorem dch_okc {d : Nat} (h : d < 10) : okc (dch d) = true := by
  unfold okc; rw [dch_nat h]; simp; omega
theorem dtxt_okc (n k : Nat) : ∀ c ∈ dtxt n k, okc c = true := by
  induction k with
  | zero => intro c hc; simp [dtxt] at hc
  | succ k ih =>
    intro c hc
    simp only [dtxt, List.mem_cons] at hc
    rcases hc with rfl | hc
    · exact dch_okc (dg_lt _ _)
    · exact ih c hc
theorem rv_append (l m : List UInt8) : rv (l ++ m) = rv l + 10 ^ l.length * rv m := by
  induction l with
  | nil => simp [rv]
  | cons c l ih => simp only [List.cons_append, rv, ih, List.length_cons, Nat.pow_succ]; grind
theorem rv_dtxt (n k : Nat) : rv (dtxt n k).reverse = n % 10 ^ k := by
  induction k with
  | zero => simp [dtxt, rv, Nat.mod_one]
  | succ k ih =>
    rw [dtxt, List.reverse_cons, rv_append, ih, mod_succ]
    simp only [List.length_reverse, dtxt_length, rv, dch_nat (dg_lt n k)]
    rw [show 48 + dg n k - 48 + 10 * 0 = dg n k by omega]
theorem top_dg {n : Nat} (h : n ≠ 0) : dg n (dlen n - 1) ≠ 0 := by
  induction n using Nat.strongRecOn with
  | ind n ih =>
    by_cases h10 : n < 10
    · rw [dlen_small h10]; simp [dg]; omega
    · rw [dlen_big h10, Nat.add_sub_cancel]
      have hp := dlen_pos (n / 10)
      obtain ⟨t, ht⟩ : ∃ t, dlen (n / 10) = t + 1 := ⟨dlen (n / 10) - 1, by omega⟩
      have := ih (n / 10) (by omega) (by omega)
      rw [ht] at this ⊢
      rw [dg_succ]; simpa using this
theorem dtxt_dlen (n : Nat) : ∃ l, dtxt n (dlen n) = dch (dg n (dlen n - 1)) :: l := by
  have hp := dlen_pos n
  obtain ⟨t, ht⟩ : ∃ t, dlen n = t + 1 := ⟨dlen n - 1, by omega⟩
  rw [ht]; exact ⟨dtxt n t, rfl⟩
theorem dch_ne {d : Nat} (h : d < 10) : dch d ≠ 45 := by
  intro e
  have := dch_nat h
  rw [e] at this
  have h2 : (45 : UInt8).toNat = 45 := rfl
  omega
theorem txt_trim (z : Int) : Lib.trimPrefix (txt z) [45] = dtxt z.natAbs (dlen z.natAbs) := by
  unfold txt sgn Lib.trimPrefix Lib.hasPrefix
  obtain ⟨l, hl⟩ := dtxt_dlen z.natAbs
  cases ng z
  · have hne := dch_ne (dg_lt z.natAbs (dlen z.natAbs - 1))
    rw [hl]
    have : (45 == dch (dg z.natAbs (dlen z.natAbs - 1))) = false := by rw [beq_eq_false_iff_ne]; exact fun e => hne e.symm
    simp [List.isPrefixOf, this]
  · simp [List.isPrefixOf]
theorem rd_txt (z : Int) (hz : z.natAbs < 10 ^ 39) : rd (txt z) = some z := by
  have hd := txt_trim z
  have hl1 : dlen z.natAbs ≤ 39 := dlen_le (k := 38) hz
  have hp := dlen_pos z.natAbs
  have hlen : (txt z).length = (sgn z).length + dlen z.natAbs := by unfold txt; simp [dtxt_length]
  have hs : (sgn z).length = if z < 0 then 1 else 0 := by unfold sgn; rw [ng_def]; by_cases h : z < 0 <;> simp [h]
  obtain ⟨l, hl⟩ := dtxt_dlen z.natAbs
  rw [rd_some]
  · rw [hd, rv_dtxt, Nat.mod_eq_of_lt (lt_dlen _), dtxt_length, hlen, hs]
    congr 1
    unfold sg
    by_cases h : z < 0 <;> simp [h] <;> omega
  · rw [hd]
    simp only [not_or]
    refine ⟨by rw [hlen, hs]; split <;> omega, by rw [hl]; simp, ?_, by rw [List.all_eq_true.2 (dtxt_okc _ _)]; simp⟩
    rintro ⟨h1, h2⟩
    rw [hl] at h1
    simp only [List.head?_cons, Option.some.injEq] at h1
    have h3 := dch_nat (dg_lt z.natAbs (dlen z.natAbs - 1))
    rw [h1] at h3
    have h4 : (48 : UInt8).toNat = 48 := rfl
    have h5 : dg z.natAbs (dlen z.natAbs - 1) = 0 := by omega
    by_cases h0 : z.natAbs = 0
    · have : z = 0 := by omega
      subst this
      apply h2
      unfold txt sgn
      rw [ng_def, show (0 : Int).natAbs = 0 from rfl, dlen_small (by decide)]
      decide
    · exact top_dg h0 h5
end Go.Proofs.YtclainfdeghgnaaGreatDoor
namespace Go.Proofs.YtclainfdeghgnaaGreatDoor
open Go.RowKit Go.Proofs.YtclainfdeghgnaaGreatDoor.Nm Go.Proofs.YtclainfdeghgnaaGreatDoor.Lm
theorem run_bs114 (w : World) (z : Int) : (Instr.buildSlice 94 1 #[(0, .int .u8 z)]).run Tryz.prog w = .ok (.slice (some ⟨w.heap.size, 0, none⟩) 1 1) (w.alloc (.cells #[.int .u8 z] 5)) := by kernel_rfl
theorem ex_bs114 {ev : Operand → Value} {o : Oper} {w : World} (x : Operand) (ho : o.op = .buildSlice 94 1 #[(0, x)]) {z : Int} (hx : ev x = .int .u8 z) :
    (execOp ev o).run Tryz.prog w = .ok (.value (.slice (some ⟨w.heap.size, 0, none⟩) 1 1)) (w.alloc (.cells #[.int .u8 z] 5)) := by
  unfold execOp
  have := run_bs114 w z
  simp [ho, hx, this, Result.andThen]
theorem ex_cv114 {ev : Operand → Value} {o : Oper} {w : World} (x : Operand) (ho : o.op = .convert 94 9 x) {g : Nat} {z : Int} (hx : ev x = .slice (some ⟨g, 0, none⟩) 1 1) (hc : w.cell? ⟨g, 0, none⟩ = some (.int .u8 z)) :
    (execOp ev o).run Tryz.prog w = .ok (.value (.string ⟨#[UInt8.ofNat z.toNat]⟩)) w := by
  have h1 := run_convert_bytes_string (P := Tryz.prog) w 94 9 5 (some ⟨g, 0, none⟩) 1 1 (by kernel_rfl) (by kernel_rfl) (by kernel_rfl)
  have h2 := run_bytesToString (P := Tryz.prog) w ⟨g, 0, none⟩ 1 1 [z] (run_loadCells_list w _ [.int .u8 z] (by
    intro j v h
    rcases j with _ | j
    · simp at h; subst h; exact hc
    · simp at h))
  unfold execOp
  simp [ho, hx, h1, h2, Result.andThen]
  rfl
theorem nl_pos' {n : Nat} (h : n ≠ 0) : ¬ ((nl n : Nat) : Int) = 0 := by
  intro h0
  exact h (nl_eq_zero.1 (by omega))
theorem nl_ten : nl 10 = 1 := by rw [nl_pos (by decide), Nat.div_eq_of_lt (by rw [B_eq]; omega), nl_zero]
theorem parted_ten (A A' : Option Addr) (n c c' a : Nat) (w : World) (ha : Lr w A n a) (hb : Lr w A' 1 10) (la : a < B ^ n) (hn : n ≤ 400) :
    Calls Tryz.prog 79 #[.slice A n c, .slice A' 1 c'] w fun e w' => ∃ A2 c2 A3 c3, e = .returned (.tuple #[.slice A2 (nl (a / 10)) c2, .slice A3 (nl (a % 10)) c3]) ∧ nl (a / 10) ≤ c2 ∧ nl (a % 10) ≤ c3 ∧
      LrB w.heap.size w' A2 (nl (a / 10)) (a / 10) ∧ LrB w.heap.size w' A3 (nl (a % 10)) (a % 10) ∧ Below w.heap.size w w' := by
  have h := parted_any A A' n c c' a 10 w ha (by rw [nl_ten]; exact hb) la hn (by rw [nl_ten]; omega) (by decide)
  rw [nl_ten] at h
  exact h
def slen : Value → Nat
  | .string b => b.size
  | _ => 0
theorem d_done {N k : Nat} (h0 : N ≠ 0) (hk : k ≤ dlen N) (h : N / 10 ^ k = 0) : k = dlen N := by
  have h1 := top_dg h0
  have h2 := dlen_pos N
  refine Nat.le_antisymm hk (Nat.le_of_not_lt fun hc => h1 ?_)
  unfold dg
  have h3 : 10 ^ k ≤ 10 ^ (dlen N - 1) := Nat.pow_le_pow_right (by decide) (by omega)
  have h4 : N < 10 ^ k := by
    rcases Nat.div_eq_zero_iff.1 h with h | h
    · have := Nat.pow_pos (n := k) (show 0 < 10 by decide); omega
    · exact h
  rw [Nat.div_eq_of_lt (by omega)]
theorem d_more {N k : Nat} (hk : k ≤ dlen N) (h : N / 10 ^ k ≠ 0) : k < dlen N := by
  refine Nat.lt_of_le_of_ne hk fun e => h ?_
  subst e
  exact Nat.div_eq_of_lt (lt_dlen N)
theorem d_next (N k : Nat) : N / 10 ^ (k + 1) = N / 10 ^ k / 10 := by rw [Nat.pow_succ, Nat.div_div_eq_div_mul]
theorem d_cat (N k D : Nat) (h : D = N / 10 ^ k % 10) : (⟨#[UInt8.ofNat ((48 + D : Int)).toNat]⟩ : ByteArray) ++ (⟨(dtxt N k).toArray⟩ : ByteArray) = ⟨(dtxt N (k + 1)).toArray⟩ := by
  have e : (48 + (D : Int)).toNat = 48 + D := by omega
  rw [e, h]
  apply ByteArray.ext
  rw [ByteArray.data_append]
  simp [dtxt, dch, dg]
theorem d_meas (N k D : Nat) (h : D = N / 10 ^ k % 10) (hk : k < 64) : 70 - slen (.string ((⟨#[UInt8.ofNat (48 + D)]⟩ : ByteArray) ++ (⟨(dtxt N k).toArray⟩ : ByteArray))) < 70 - slen (.string ⟨(dtxt N k).toArray⟩) := by
  have e := d_cat N k D h
  rw [show (48 + (D : Int)).toNat = 48 + D by omega] at e
  rw [e]
  show 70 - (dtxt N (k + 1)).toArray.size < 70 - (dtxt N k).toArray.size
  simp only [List.size_toArray, dtxt_length]
  omega
theorem txt_zero : txt 0 = [48] := by
  unfold txt sgn
  rw [ng_def, show (0 : Int).natAbs = 0 from rfl, dlen_small (by decide)]
  decide
theorem txt_pos {z : Int} (h : ng z = false) : txt z = dtxt z.natAbs (dlen z.natAbs) := by unfold txt sgn; rw [h]; rfl
theorem txt_neg {z : Int} (h : ng z = true) : txt z = 45 :: dtxt z.natAbs (dlen z.natAbs) := by unfold txt sgn; rw [h]; rfl
theorem lm0 {D : Nat} (h : D < 10) : lm D 0 = D := by unfold lm; rw [Nat.pow_zero, Nat.div_one, Nat.mod_eq_of_lt (by rw [B_eq]; omega)]
set_option maxHeartbeats 1000000 in
set_option maxRecDepth 100000 in
theorem TextI_zero (A : Option Addr) (c : Nat) (w : World) :
    Calls Tryz.prog 42 #[.agg (iv 0 A c)] w fun e w' => e = .returned (.string ⟨(txt 0).toArray⟩) ∧ Below w.heap.size w w' := by
  go_enter Tryz.func42, Tryz.ntmps42
  go_upto_region 1 with (fail)
  refine wp_world (fun W => W.heap[w.heap.size]? = some (.cells (iv 0 A c) 41 (0, 0)) ∧ Below w.heap.size w W) ⟨ha_new rfl, (Below.refl _ _).alloc (Nat.le_refl _) _⟩ ?_
  rintro W ⟨h0, hb⟩
  have i1 := iv1 h0
  rw [show (0 : Int).natAbs = 0 from rfl, nl_zero] at i1
  go_wp2_with fail
  go_ret
  rw [txt_zero]
  exact ⟨rfl, hb⟩
set_option maxHeartbeats 2000000 in
set_option maxRecDepth 100000 in
theorem TextI_pos (z : Int) (A : Option Addr) (c : Nat) (w : World) (hI : IvAt w z A c) (nz : nl z.natAbs ≤ 400) (hz : z.natAbs < 10 ^ 64) (h0 : z.natAbs ≠ 0) :
    Calls Tryz.prog 42 #[.agg (iv z A c)] w fun e w' => e = .returned (.string ⟨(txt z).toArray⟩) ∧ Below w.heap.size w w' := by
  have HI := Lib.hid hI
  have HZ0 := Lib.hid h0
  have nz0 := nl_pos' h0
  have DL : Hid (dlen z.natAbs ≤ 64) := Lib.hid (dlen_le (k := 63) hz)
  clear hI hz h0
  go_enter Tryz.func42, Tryz.ntmps42
  go_upto_region 1 with (fail)
  refine wp_world (fun W => W.heap[w.heap.size]? = some (.cells (iv z A c) 41 (0, 0)) ∧ Below w.heap.size w W) ⟨ha_new rfl, (Below.refl _ _).alloc (Nat.le_refl _) _⟩ ?_
  rintro W ⟨h0, hb⟩
  have i1 := iv1 h0
  have hI := Lib.hid (HI.out.below hb)
  clear HI
  go_wp2_with fail
  rw [show (((nl z.natAbs : Nat) : Int) == 0) = false from by assumption]
  clear i1 nz0
  go_loopw [3, 4] (fun s m wr => ∃ (k : Nat) (A2 : Option Addr) (c2 : Nat), k ≤ dlen z.natAbs ∧ s = .string ⟨(dtxt z.natAbs k).toArray⟩ ∧ m = .slice A2 (nl (z.natAbs / 10 ^ k)) c2 ∧ nl (z.natAbs / 10 ^ k) ≤ c2 ∧ Hid (Lr wr A2 (nl (z.natAbs / 10 ^ k)) (z.natAbs / 10 ^ k)) ∧ wr.heap[w.heap.size]? = some (.cells (iv z A c) 41 (0, 0)) ∧ Below w.heap.size w wr) (fun s _ _ => 70 - slen s)
  case atStart => exact ⟨0, A, c, by omega, rfl, by rw [Nat.pow_zero, Nat.div_one], by rw [Nat.pow_zero, Nat.div_one]; exact hI.out.1, by rw [Nat.pow_zero, Nat.div_one]; exact Lib.hid hI.out.2, h0, hb⟩
  case round =>
    clear h0 hb hI
    obtain ⟨k, A2, c2, hk, rfl, rfl, hc2, HL, h0, hb⟩ := hrel
    obtain ⟨M, hM⟩ : ∃ M, M = z.natAbs / 10 ^ k := ⟨_, rfl⟩
    rw [← hM] at hc2 HL ⊢
    have nM : nl M ≤ 400 := by rw [hM]; exact nl_sub (Nat.div_le_self _ _) nz
    have HM := Lib.hid hM
    clear hM
    by_cases hM0 : M = 0
    · have hkk := d_done HZ0.out hk (by rw [← HM.out]; exact hM0)
      subst hkk
      subst hM0
      rw [nl_zero]
      have i0 := iv0 h0
      cases hs : ng z
      · have HT := Lib.hid (txt_pos hs)
        rw [hs] at i0
        clear hs
        go_wp2_with fail
        go_ret
        rw [HT.out]
        exact ⟨rfl, hb⟩
      · have HT := Lib.hid (txt_neg hs)
        rw [hs] at i0
        have hL : ¬ 9223372036854775807 < 1 + (dtxt z.natAbs (dlen z.natAbs)).length := by rw [dtxt_length]; have := DL.out; omega
        clear hs
        go_wp2_with fail
        go_ret
        rw [HT.out]
        refine ⟨?_, hb⟩
        congr 2
    · have hkk := Lib.hid (d_more hk (by rw [← HM.out]; exact hM0))
      have nM0 := nl_pos' hM0
      clear hM0
      go_upto_region 6 with (fail)
      clear nM0
      apply wp_region_lit
      refine wl_k rfl (fun K hK => ?_); go_simp; refine hK _ ?_; clear hK K
      refine wl_w rfl (ex_bs82 _ rfl rfl) ?_
      simp only [put_lit, List.set_cons_zero, List.set_cons_succ]
      refine wl_world (fun W => Lr W A2 (nl M) M ∧ Lr W (some ⟨wr.heap.size, 0, none⟩) 1 10 ∧ W.heap[w.heap.size]? = some (.cells (iv z A c) 41 (0, 0)) ∧ Below w.heap.size w W) ⟨HL.out.below ((Below.refl _ _).alloc (Nat.le_refl _) _), fun _ => ⟨_, rfl, by simp, fun i hi => ?_⟩, ha_old h0, hb.alloc hb.size _⟩ ?_
      · obtain rfl : i = 0 := by omega
        rw [cell_of_row _ _ _ _ _ _ (ha_new rfl)]; rfl
      clear HL h0 hb
      rintro w3 ⟨hl, hl1, h0, hb⟩
      refine wl_ck rfl (fun K hK => ?_); go_simp; refine ⟨_, _, ⟨rfl, rfl⟩, hK _ _ ⟨_, parted_ten A2 _ (nl M) c2 1 M _ hl hl1 (nl_spec _) nM, ?_⟩⟩; clear hK K; rintro e w4 ⟨A3, c3, A4, c4, rfl, hc3, hc4, hl3, hl4, hb1⟩; refine ⟨_, rfl, ?_⟩; simp only [put_lit, List.set_cons_zero, List.set_cons_succ]
      replace h0 := below_look hb1 h0; replace hb := hb.trans (hb1.mono hb.size); clear hb1
      clear hl hl1
      have HQ := Lib.hid hl3.lr
      have HR := Lib.hid hl4.lr
      clear hl3 hl4
      obtain ⟨D, hD⟩ : ∃ D, D = M % 10 := ⟨_, rfl⟩
      have D10 : D < 10 := by omega
      have HC := Lib.hid (show D = z.natAbs / 10 ^ k % 10 by rw [← HM.out]; exact hD)
      have HN := Lib.hid (show M / 10 = z.natAbs / 10 ^ (k + 1) by rw [d_next, ← HM.out])
      rw [← hD] at HR hc4 ⊢
      rw [HN.out] at HQ hc3 ⊢
      clear hD HM nM HN hc2
      by_cases hD0 : D = 0
      · subst hD0
        rw [nl_zero]
        go_upto_region 10 with (fail)
        apply wp_region_lit
        refine wl_k rfl (fun K hK => ?_); go_simp; refine hK _ ?_; clear hK K
        refine wl_w rfl (ex_bs114 _ rfl rfl) ?_
        simp only [put_lit, List.set_cons_zero, List.set_cons_succ]
        refine wl_val rfl (ex_cv114 _ rfl rfl (by rw [cell_of_row _ _ _ _ _ _ (ha_new rfl)]; rfl)) ?_
        simp only [put_lit, List.set_cons_zero, List.set_cons_succ]
        refine wl_world (fun W => Lr W A3 (nl (z.natAbs / 10 ^ (k + 1))) (z.natAbs / 10 ^ (k + 1)) ∧ W.heap[w.heap.size]? = some (.cells (iv z A c) 41 (0, 0)) ∧ Below w.heap.size w W) ⟨HQ.out.below ((Below.refl _ _).alloc (Nat.le_refl _) _), ha_old h0, hb.alloc hb.size _⟩ ?_
        clear HQ HR h0 hb
        rintro w5 ⟨hQ, h0, hb⟩
        have hL : ¬ 9223372036854775807 < 1 + (dtxt z.natAbs k).length := by rw [dtxt_length]; have := DL.out; omega
        go_wp2_with fail
        go_roundw
        case rel =>
          refine ⟨k + 1, A3, c3, hkk.out, ?_, rfl, hc3, Lib.hid hQ, h0, hb⟩
          exact congrArg Value.string (d_cat z.natAbs k 0 HC.out)
        case measure => exact d_meas z.natAbs k 0 HC.out (by have := hkk.out; have := DL.out; omega)
      · have nD : nl D = 1 := by rw [nl_pos hD0, Nat.div_eq_of_lt (by rw [B_eq]; omega), nl_zero]
        rw [nD] at HR hc4 ⊢
        obtain ⟨g, rfl, hg, ca⟩ := HR.out.at_ (k := 0) (by omega)
        rw [lm0 D10] at ca
        have e1 : IntKind.u8.wrap (D : Int) = (D : Int) := IntWalk.u8_in _ (by omega)
        have e2 : IntKind.u8.wrap (48 + (D : Int)) = 48 + (D : Int) := IntWalk.u8_in _ (by omega)
        clear nD hD0
        go_upto_region 10 with (fail)
        clear ca e1 e2 hg
        apply wp_region_lit
        refine wl_k rfl (fun K hK => ?_); go_simp; refine hK _ ?_; clear hK K
        refine wl_w rfl (ex_bs114 _ rfl rfl) ?_
        simp only [put_lit, List.set_cons_zero, List.set_cons_succ]
        refine wl_val rfl (ex_cv114 _ rfl rfl (by rw [cell_of_row _ _ _ _ _ _ (ha_new rfl)]; rfl)) ?_
        simp only [put_lit, List.set_cons_zero, List.set_cons_succ]
        refine wl_world (fun W => Lr W A3 (nl (z.natAbs / 10 ^ (k + 1))) (z.natAbs / 10 ^ (k + 1)) ∧ W.heap[w.heap.size]? = some (.cells (iv z A c) 41 (0, 0)) ∧ Below w.heap.size w W) ⟨HQ.out.below ((Below.refl _ _).alloc (Nat.le_refl _) _), ha_old h0, hb.alloc hb.size _⟩ ?_
        clear HQ HR h0 hb
        rintro w5 ⟨hQ, h0, hb⟩
        have hL : ¬ 9223372036854775807 < 1 + (dtxt z.natAbs k).length := by rw [dtxt_length]; have := DL.out; omega
        go_wp2_with fail
        go_roundw
        case rel =>
          refine ⟨k + 1, A3, c3, hkk.out, ?_, rfl, hc3, Lib.hid hQ, h0, hb⟩
          exact congrArg Value.string (d_cat z.natAbs k D HC.out)
        case measure => exact d_meas z.natAbs k D HC.out (by have := hkk.out; have := DL.out; omega)
theorem TextI_any (z : Int) (A : Option Addr) (c : Nat) (w : World) (hI : IvAt w z A c) (nz : nl z.natAbs ≤ 400) (hz : z.natAbs < 10 ^ 64) :
    Calls Tryz.prog 42 #[.agg (iv z A c)] w fun e w' => e = .returned (.string ⟨(txt z).toArray⟩) ∧ Below w.heap.size w w' := by
  by_cases h : z.natAbs = 0
  · obtain rfl : z = 0 := by omega
    exact TextI_zero A c w
  · exact TextI_pos z A c w hI nz hz h
end Go.Proofs.YtclainfdeghgnaaGreatDoor
namespace Go.Proofs.YtclainfdeghgnaaGreatDoor
open Go.RowKit Go.Proofs.YtclainfdeghgnaaGreatDoor.Nm Go.Proofs.YtclainfdeghgnaaGreatDoor.Lm
theorem cmpN_pos {a b : Nat} : 0 < cmpN a b ↔ b < a := by
  unfold cmpN; split
  · omega
  · split <;> omega
theorem run_fld84 (w : World) (b : Bool) (A : Option Addr) (n c : Nat) : (Instr.field 41 (.agg #[.bool b, .slice A n c]) 1).run Tryz.prog w = .ok (.slice A n c) w := by kernel_rfl
theorem ex_fld84 {ev : Operand → Value} {o : Oper} (x : Operand) (ho : o.op = .field 41 x 1) {z : Int} {A : Option Addr} {c : Nat} (hx : ev x = .agg (iv z A c)) (w : World) :
    (execOp ev o).run Tryz.prog w = .ok (.value (.slice A (nl z.natAbs) c)) w := by
  have h := run_fld84 w (ng z) A (nl z.natAbs) c
  unfold execOp
  simp only [ho]
  simp [hx]
  rw [show iv z A c = #[.bool (ng z), .slice A (nl z.natAbs) c] from rfl, h]
  rfl
set_option maxHeartbeats 1000000 in
set_option maxRecDepth 100000 in
theorem smallI_over (z most : Int) (A : Option Addr) (c : Nat) (w : World) (hm0 : 0 ≤ most) (hm : most ≤ 1000000000000000000) (hI : IvAt w z A c) (nz : nl z.natAbs ≤ 400) (ho : most.natAbs < z.natAbs) :
    Calls Tryz.prog 40 #[.agg (iv z A c), .int .i64 most] w fun e w' => e = .returned (.tuple #[.int .i64 0, .bool false]) ∧ Below w.heap.size w w' := by
  obtain ⟨C, hC⟩ : ∃ C, C = cmpN z.natAbs most.natAbs := ⟨_, rfl⟩
  have hpos : 0 < C := by rw [hC]; exact cmpN_pos.2 ho
  have HC := Lib.hid hC
  clear hC ho
  have HI := Lib.hid hI
  have HN := Lib.hid nz
  clear hI nz
  go_enter Tryz.func40, Tryz.ntmps40
  go_upto_region 1 with (fail)
  refine wp_world (fun W => W.heap[w.heap.size]? = some (.cells (iv z A c) 41 (0, 0)) ∧ Below w.heap.size w W) ⟨ha_new rfl, (Below.refl _ _).alloc (Nat.le_refl _) _⟩ ?_
  rintro W ⟨h0, hb⟩
  have a1 := iv1 h0
  have i1 := HI.out.below hb.drew
  replace hb := hb.drew
  refine wp_region_held_drew (S := Kept [] W) mixed (Kept.drew [] W) (fun hS => ?_)
  refine ha_k (i := 0) rfl (by kernel_rfl) (by kernel_rfl) (by kernel_rfl) (fun _ _ _ _ h => h) hS rfl (fun K hK => ?_); go_simp; refine hK _ ?_; clear hK K; try simp only [put_lit, List.set_cons_zero, List.set_cons_succ]
  refine ha_val (i := 1) rfl (by kernel_rfl) (by kernel_rfl) (by kernel_rfl) (fun _ _ _ h => h) hS rfl (fun w' hw' => ex_one rfl (one82 (hw'.cell a1 (by simp <;> omega)))) ?_; try simp only [put_lit, List.set_cons_zero, List.set_cons_succ]
  refine ha_k (i := 2) rfl (by kernel_rfl) (by kernel_rfl) (by kernel_rfl) (fun _ _ _ _ h => h) hS rfl (fun K hK => ?_); go_simp; refine hK _ ?_; clear hK K; try simp only [put_lit, List.set_cons_zero, List.set_cons_succ]
  refine ha_call (i := 3) (by kernel_rfl) rfl rfl (fun K hK => ?_); go_simp; refine ⟨_, _, ⟨rfl, rfl⟩, hK _ _ ⟨_, Of_any most (by omega) (by omega) _, ?_⟩⟩; clear hK K; rintro e w2 ⟨A2, c2, rfl, i2, hb1⟩; refine ⟨_, rfl, hS.below hb1, ?_⟩; replace hS := hS.below hb1; replace h0 := below_look hb1 h0; replace i1 := i1.below hb1; replace hb := hb.trans (hb1.mono hb.size); clear hb1; try simp only [put_lit, List.set_cons_zero, List.set_cons_succ]
  refine ha_val (i := 4) rfl (by kernel_rfl) (by kernel_rfl) (by kernel_rfl) (fun _ _ _ h => h) hS rfl (fun w' _ => ex_fld84 _ rfl rfl w') ?_; try simp only [put_lit, List.set_cons_zero, List.set_cons_succ]
  refine ha_call (i := 5) (by kernel_rfl) rfl rfl (fun K hK => ?_); go_simp; refine ⟨_, _, ⟨rfl, rfl⟩, hK _ _ ⟨_, compareN_any _ _ _ _ z.natAbs most.natAbs _ i1.2 i2.2 (by have := HN.out; omega), ?_⟩⟩; clear hK K; rintro e w3 ⟨rfl, hb1⟩; refine ⟨_, rfl, hS.below hb1, ?_⟩; replace hS := hS.below hb1; replace h0 := below_look hb1 h0; replace i1 := i1.below hb1; replace hb := hb.trans (hb1.mono hb.size); clear hb1; try simp only [put_lit, List.set_cons_zero, List.set_cons_succ]
  rw [← HC.out]
  refine ha_k (i := 6) rfl (by kernel_rfl) (by kernel_rfl) (by kernel_rfl) (fun _ _ _ _ h => h) hS rfl (fun K hK => ?_); go_simp; refine hK _ ?_; clear hK K; try simp only [put_lit, List.set_cons_zero, List.set_cons_succ]
  refine wpAnyH_done (by kernel_rfl) ?_ _
  go_wp2_with fail
  exact bodyPost_ret (results_tmp2 rfl _ _ _) rfl ⟨rfl, hb⟩
theorem or64 {x y : Nat} (hx : x ≤ 1000000000) (hy : y < 4294967296) : bits .or .i64 ((x : Int) * 4294967296) (y : Int) = (x : Int) * 4294967296 + (y : Int) :=
  bits_join .i64 63 (by decide) (fun n h0 h1 => IntWalk.i64_in n ⟨by omega, by omega⟩) 32 _ _ (by omega) (by omega) (by omega) (by omega) (by omega) (by omega)
set_option maxHeartbeats 1000000 in
set_option maxRecDepth 100000 in
theorem smallI_under (z most : Int) (A : Option Addr) (c : Nat) (w : World) (hm0 : 0 ≤ most) (hm : most ≤ 1000000000000000000) (hI : IvAt w z A c) (nz : nl z.natAbs ≤ 400) (ho : ¬ most.natAbs < z.natAbs) :
    Calls Tryz.prog 40 #[.agg (iv z A c), .int .i64 most] w fun e w' => e = .returned (.tuple #[.int .i64 z, .bool true]) ∧ Below w.heap.size w w' := by
  obtain ⟨C, hC⟩ : ∃ C, C = cmpN z.natAbs most.natAbs := ⟨_, rfl⟩
  have hpos : ¬ 0 < C := by rw [hC, cmpN_pos]; exact ho
  have HC := Lib.hid hC
  have HZ := Lib.hid (show z.natAbs ≤ 1000000000000000000 by omega)
  clear hC ho
  have HI := Lib.hid hI
  have HN := Lib.hid nz
  clear hI nz
  go_enter Tryz.func40, Tryz.ntmps40
  go_upto_region 1 with (fail)
  refine wp_world (fun W => W.heap[w.heap.size]? = some (.cells (iv z A c) 41 (0, 0)) ∧ Below w.heap.size w W) ⟨ha_new rfl, (Below.refl _ _).alloc (Nat.le_refl _) _⟩ ?_
  rintro W ⟨h0, hb⟩
  have a1 := iv1 h0
  have i1 := HI.out.below hb.drew
  replace hb := hb.drew
  refine wp_region_held_drew (S := Kept [] W) mixed (Kept.drew [] W) (fun hS => ?_)
  refine ha_k (i := 0) rfl (by kernel_rfl) (by kernel_rfl) (by kernel_rfl) (fun _ _ _ _ h => h) hS rfl (fun K hK => ?_); go_simp; refine hK _ ?_; clear hK K; try simp only [put_lit, List.set_cons_zero, List.set_cons_succ]
  refine ha_val (i := 1) rfl (by kernel_rfl) (by kernel_rfl) (by kernel_rfl) (fun _ _ _ h => h) hS rfl (fun w' hw' => ex_one rfl (one82 (hw'.cell a1 (by simp <;> omega)))) ?_; try simp only [put_lit, List.set_cons_zero, List.set_cons_succ]
  refine ha_k (i := 2) rfl (by kernel_rfl) (by kernel_rfl) (by kernel_rfl) (fun _ _ _ _ h => h) hS rfl (fun K hK => ?_); go_simp; refine hK _ ?_; clear hK K; try simp only [put_lit, List.set_cons_zero, List.set_cons_succ]
  refine ha_call (i := 3) (by kernel_rfl) rfl rfl (fun K hK => ?_); go_simp; refine ⟨_, _, ⟨rfl, rfl⟩, hK _ _ ⟨_, Of_any most (by omega) (by omega) _, ?_⟩⟩; clear hK K; rintro e w2 ⟨A2, c2, rfl, i2, hb1⟩; refine ⟨_, rfl, hS.below hb1, ?_⟩; replace hS := hS.below hb1; replace h0 := below_look hb1 h0; replace i1 := i1.below hb1; replace hb := hb.trans (hb1.mono hb.size); clear hb1; try simp only [put_lit, List.set_cons_zero, List.set_cons_succ]
  refine ha_val (i := 4) rfl (by kernel_rfl) (by kernel_rfl) (by kernel_rfl) (fun _ _ _ h => h) hS rfl (fun w' _ => ex_fld84 _ rfl rfl w') ?_; try simp only [put_lit, List.set_cons_zero, List.set_cons_succ]
  refine ha_call (i := 5) (by kernel_rfl) rfl rfl (fun K hK => ?_); go_simp; refine ⟨_, _, ⟨rfl, rfl⟩, hK _ _ ⟨_, compareN_any _ _ _ _ z.natAbs most.natAbs _ i1.2 i2.2 (by have := HN.out; omega), ?_⟩⟩; clear hK K; rintro e w3 ⟨rfl, hb1⟩; refine ⟨_, rfl, hS.below hb1, ?_⟩; replace hS := hS.below hb1; replace h0 := below_look hb1 h0; replace i1 := i1.below hb1; replace hb := hb.trans (hb1.mono hb.size); clear hb1; try simp only [put_lit, List.set_cons_zero, List.set_cons_succ]
  rw [← HC.out]
  refine ha_k (i := 6) rfl (by kernel_rfl) (by kernel_rfl) (by kernel_rfl) (fun _ _ _ _ h => h) hS rfl (fun K hK => ?_); go_simp; refine hK _ ?_; clear hK K; try simp only [put_lit, List.set_cons_zero, List.set_cons_succ]
  refine wpAnyH_done (by kernel_rfl) ?_ _
  clear hpos
  have a1 := iv1 h0
  have hnl := HN.out
  go_wp2_with fail
  clear a1
  go_loopw [6, 7] (fun n i wr => ∃ k : Nat, k ≤ nl z.natAbs ∧ i = .int .i64 ((k : Int) - 1) ∧ n = .int .i64 ((z.natAbs / B ^ k : Nat) : Int) ∧ wr.heap[w.heap.size]? = some (.cells (iv z A c) 41 (0, 0)) ∧ IvAt wr z A c ∧ Below w.heap.size w wr) (fun _ i _ => (intOf i + 1).toNat)
  case atStart =>
    refine ⟨nl z.natAbs, Nat.le_refl _, ?_, ?_, h0, i1, hb⟩
    · first | rfl | go_num
    · rw [Nat.div_eq_of_lt (nl_spec _)]; rfl
  case round =>
    clear h0 i1 hb
    obtain ⟨k, hk, rfl, rfl, h0, i1, hb⟩ := hrel
    rcases k with _ | j
    · have a0 := iv0 h0
      have hz : ((z.natAbs / B ^ 0 : Nat) : Int) = (z.natAbs : Int) := by simp
      rw [hz]
      clear hz
      obtain ⟨N, hN⟩ : ∃ N, N = z.natAbs := ⟨_, rfl⟩
      have hNb := HZ.out
      rw [← hN] at hNb ⊢
      have HNN := Lib.hid hN
      clear hN
      cases hs : ng z
      · have e : (N : Int) = z := by have := HNN.out; rw [ng_def] at hs; simp at hs; omega
        rw [hs] at a0
        have E := Lib.hid e
        clear e hs
        go_wp2_with fail
        exact bodyPost_ret (results_tmp2 rfl _ _ _) rfl ⟨by rw [← E.out]; rfl, hb⟩
      · have e : -(N : Int) = z := by have := HNN.out; rw [ng_def] at hs; simp at hs; omega
        rw [hs] at a0
        have E := Lib.hid e
        clear e hs
        go_wp2_with fail
        exact bodyPost_ret (results_tmp2 rfl _ _ _) rfl ⟨by rw [← E.out]; rfl, hb⟩
    · have ds := Lm.div_split z.natAbs j
      have hle : z.natAbs / B ^ j ≤ 1000000000000000000 := Nat.le_trans (Nat.div_le_self _ _) HZ.out
      have hy := lm_32 z.natAbs j
      obtain ⟨q, hq⟩ : ∃ q, q = z.natAbs / B ^ (j + 1) := ⟨_, rfl⟩
      obtain ⟨y, hyy⟩ : ∃ y, y = lm z.natAbs j := ⟨_, rfl⟩
      rw [← hq, ← hyy] at ds
      rw [← hyy] at hy
      have hqb : q ≤ 1000000000 := by rw [ds, B_eq] at hle; omega
      obtain ⟨g, rfl, hg, ca⟩ := i1.2.at_ (k := j) (by omega)
      rw [← hyy] at ca
      rw [show ((j + 1 : Nat) : Int) - 1 = (j : Int) by omega, ← hq]
      have HDS := Lib.hid ds
      have HK := Lib.hid hk
      have a1 := iv1 h0
      obtain ⟨n, hn⟩ : ∃ n, n = nl z.natAbs := ⟨_, rfl⟩
      rw [← hn] at a1 hk HK hnl
      have hjn : j < n := by omega
      have HNN := Lib.hid hn
      have w1 : IntKind.i64.wrap ((q : Int) * 4294967296) = (q : Int) * 4294967296 := IntWalk.i64_in _ (by omega)
      have w2 := or64 hqb hy
      clear hq hyy ds hle hn
      go_wp2_with fail
      go_roundw
      case rel => exact ⟨j, by rw [← HNN.out]; omega, by go_num, by rw [HDS.out, B_eq]; go_num, h0, i1, hb⟩
      case measure => simp [intOf]
set_option maxHeartbeats 1000000 in
theorem decimal_any (z scale : Int) (A : Option Addr) (c : Nat) (w : World) (hI : IvAt w z A c) (nz : nl z.natAbs ≤ 400) (u k e : Int) (hu : Hid (u = madeU z)) (hk : Hid (k = madeK z scale)) (he : Hid (e = madeE z)) :
    Calls Tryz.prog 15 #[.agg (iv z A c), .int .i64 scale] w fun e' w' => e' = .returned (.tuple #[.agg (dc u k), .int .i64 e]) ∧ Below w.heap.size w w' := by
  rw [hu.out, hk.out, he.out]
  clear hu hk he
  unfold madeU madeK madeE
  have HI := Lib.hid hI
  have HN := Lib.hid nz
  clear hI nz
  by_cases h : 100000000000000000 < z.natAbs
  · simp only [if_pos h]
    have H := Lib.hid h
    clear h
    go_enter Tryz.func15, Tryz.ntmps15
    go_upto_region 1 with (fail)
    refine wp_world (fun W => W.heap[w.heap.size]? = some (.cells (iv z A c) 41 (0, 0)) ∧ W.heap[w.heap.size + 1]? = some (.cells (dc 0 0) 25 (0, 0)) ∧ Below w.heap.size w W) ⟨ha_old (ha_new rfl), ha_new (by simp), ((Below.refl _ _).alloc (Nat.le_refl _) _).alloc (by simp) _⟩ ?_
    rintro W ⟨h0, h1, hb⟩
    apply wp_region_lit
    ((with_reducible apply wl_rowG); exact rfl; exact rfl; exact rowIv (by with_reducible assumption))
    refine wl_ck rfl (fun K hK => ?_); go_simp; refine ⟨_, _, ⟨rfl, rfl⟩, hK _ _ ⟨_, smallI_over z _ A c _ (by decide) (by decide) (HI.out.below hb) HN.out H.out, ?_⟩⟩; clear hK K; rintro e w1 ⟨rfl, hb1⟩; refine ⟨_, rfl, ?_⟩; simp only [put_lit, List.set_cons_zero, List.set_cons_succ]
    replace h1 := below_look hb1 h1; replace hb := hb.trans (hb1.mono hb.size); clear hb1
    have c0 := dc0 h1
    have c1 := dc1 h1
    have f0 : w1.frozen? ⟨w.heap.size + 1, 0, none⟩ = false := frozen_of_row _ _ _ _ _ h1
    have f1 : w1.frozen? ⟨w.heap.size + 1, 1, none⟩ = false := frozen_of_row _ _ _ _ _ h1
    go_wp2_with fail
    refine bodyPost_ret (res_decErr rfl _ _ (w.heap.size + 1) rfl ((hs_new (hs_new h1)).trans rfl)) rfl ⟨?_, (hb.setCell (by simp) _).setCell (by simp) _⟩
    rfl
  · simp only [if_neg h]
    have H := Lib.hid h
    clear h
    go_enter Tryz.func15, Tryz.ntmps15
    go_upto_region 1 with (fail)
    refine wp_world (fun W => W.heap[w.heap.size]? = some (.cells (iv z A c) 41 (0, 0)) ∧ W.heap[w.heap.size + 1]? = some (.cells (dc 0 0) 25 (0, 0)) ∧ Below w.heap.size w W) ⟨ha_old (ha_new rfl), ha_new (by simp), ((Below.refl _ _).alloc (Nat.le_refl _) _).alloc (by simp) _⟩ ?_
    rintro W ⟨h0, h1, hb⟩
    apply wp_region_lit
    ((with_reducible apply wl_rowG); exact rfl; exact rfl; exact rowIv (by with_reducible assumption))
    refine wl_ck rfl (fun K hK => ?_); go_simp; refine ⟨_, _, ⟨rfl, rfl⟩, hK _ _ ⟨_, smallI_under z _ A c _ (by decide) (by decide) (HI.out.below hb) HN.out H.out, ?_⟩⟩; clear hK K; rintro e w1 ⟨rfl, hb1⟩; refine ⟨_, rfl, ?_⟩; simp only [put_lit, List.set_cons_zero, List.set_cons_succ]
    replace h1 := below_look hb1 h1; replace hb := hb.trans (hb1.mono hb.size); clear hb1
    have c0 := dc0 h1
    have c1 := dc1 h1
    have f0 : w1.frozen? ⟨w.heap.size + 1, 0, none⟩ = false := frozen_of_row _ _ _ _ _ h1
    have f1 : w1.frozen? ⟨w.heap.size + 1, 1, none⟩ = false := frozen_of_row _ _ _ _ _ h1
    go_wp2_with fail
    refine bodyPost_ret (res_decErr rfl _ _ (w.heap.size + 1) rfl ((hs_new (hs_new h1)).trans rfl)) rfl ⟨?_, (hb.setCell (by simp) _).setCell (by simp) _⟩
    rfl
set_option maxHeartbeats 1000000 in
theorem ValidI_any (u k : Int) (R : Bool) (HR : Hid (R = validD u k)) (w : World) :
    Calls Tryz.prog 41 #[.agg (dc u k)] w fun e w' => e = .returned (.bool R) ∧ Below w.heap.size w w' := by
  go_enter Tryz.func41, Tryz.ntmps41
  go_upto_region 1 with (fail)
  refine wp_world (fun W => W.heap[w.heap.size]? = some (.cells (dc u k) 25 (0, 0)) ∧ Below w.heap.size w W) ⟨ha_new rfl, ((Below.refl _ _).alloc (Nat.le_refl _) _)⟩ ?_
  rintro W ⟨h0, hb⟩
  have c0 := dc0 h0
  have c1 := dc1 h0
  go_wp2_with fail
  all_goals
    go_ret
    refine ⟨congrArg (fun b => Ending.returned (.bool b)) (?_ : _ = R), hb⟩
    rw [HR.out]
    clear HR h0 hb c0 c1
    unfold validD
    first
    | (simp [*]; done)
    | (simp [*]; omega)
end Go.Proofs.YtclainfdeghgnaaGreatDoor
namespace Go.Proofs.YtclainfdeghgnaaGreatDoor
def isDg (c : UInt8) : Bool := decide (48 ≤ c.toNat) && decide (c.toNat ≤ 57)
theorem isDg_iff {c : UInt8} : isDg c = true ↔ 48 ≤ c.toNat ∧ c.toNat ≤ 57 := by unfold isDg; simp
def sgL (u : Int) : List UInt8 := if u < 0 then [45] else []
def padW (k : Nat) (w : List UInt8) : List UInt8 := List.replicate (k + 1 - w.length) 48 ++ w
def bodyL (k : Nat) (w : List UInt8) : List UInt8 := if k = 0 then w else w.take (w.length - k) ++ 46 :: w.drop (w.length - k)
/-- The text of a decimal. -/
def fmtL (u : Int) (k : Nat) : List UInt8 := sgL u ++ bodyL k (padW k (Lib.decDigits u.natAbs))
def okD (u k : Int) : Bool := decide (-100000000000000000 ≤ u) && decide (u ≤ 100000000000000000) && decide (0 ≤ k) && decide (k ≤ 9)
theorem okD_iff {u k : Int} : okD u k = true ↔ -100000000000000000 ≤ u ∧ u ≤ 100000000000000000 ∧ 0 ≤ k ∧ k ≤ 9 := by
  unfold okD; simp [and_assoc]
theorem u8nat {d : Nat} (h : d < 10) : (UInt8.ofNat (48 + d)).toNat = 48 + d := by simp; omega
theorem digs_rec (n : Nat) : Lib.decDigits n = if n < 10 then [UInt8.ofNat (48 + n)] else Lib.decDigits (n / 10) ++ [UInt8.ofNat (48 + n % 10)] := by
  rw [Lib.decDigits]; split <;> rfl
theorem digs_ok (n : Nat) : ∀ c, c ∈ Lib.decDigits n → isDg c = true := by
  induction n using Nat.strongRecOn with
  | ind n ih =>
    intro c hc
    rw [digs_rec] at hc
    split at hc
    · rename_i h
      rw [List.mem_singleton.1 hc, isDg_iff, u8nat h]; omega
    · rename_i h
      rcases List.mem_append.1 hc with hc | hc
      · exact ih (n / 10) (by omega) c hc
      · rw [List.mem_singleton.1 hc, isDg_iff, u8nat (Nat.mod_lt _ (by omega))]; omega
theorem digs_ne (n : Nat) : Lib.decDigits n ≠ [] := by
  rw [digs_rec]; split <;> simp
theorem digs_len {n m : Nat} (h : n < 10 ^ (m + 1)) : (Lib.decDigits n).length ≤ m + 1 := by
  induction m generalizing n with
  | zero => rw [digs_rec, if_pos (by simpa using h)]; simp
  | succ m ih =>
    rw [digs_rec]
    split
    · simp
    · have := ih (n := n / 10) (by rw [Nat.pow_succ] at h; omega)
      simp; omega
/-- The value of digits behind others. -/
@[irreducible] def stepD (a : Nat) (c : UInt8) : Nat := a * 10 + (c.toNat - 48)
theorem stepD_eq (a : Nat) (c : UInt8) : stepD a c = a * 10 + (c.toNat - 48) := by unfold stepD; rfl
def vl (acc : Nat) (l : List UInt8) : Nat := l.foldl stepD acc
theorem vl_cons (acc : Nat) (c : UInt8) (r : List UInt8) : vl acc (c :: r) = vl (stepD acc c) r := by unfold vl; rw [List.foldl_cons]
theorem vl_one (acc : Nat) (c : UInt8) : vl acc [c] = acc * 10 + (c.toNat - 48) := by rw [vl_cons, stepD_eq]; rfl
theorem vl_cat (acc : Nat) (a b : List UInt8) : vl acc (a ++ b) = vl (vl acc a) b := by
  unfold vl; rw [List.foldl_append]
theorem vl_digs (n : Nat) : vl 0 (Lib.decDigits n) = n := by
  induction n using Nat.strongRecOn with
  | ind n ih =>
    rw [digs_rec]
    split
    · rename_i h
      rw [vl_one, u8nat h]; omega
    · rename_i h
      rw [vl_cat, ih (n / 10) (by omega), vl_one, u8nat (Nat.mod_lt n (by omega : 0 < 10))]
      omega
theorem vl_zeros (j : Nat) (w : List UInt8) : vl 0 (List.replicate j 48 ++ w) = vl 0 w := by
  induction j with
  | zero => rfl
  | succ j ih =>
    rw [List.replicate_succ, List.cons_append, vl_cons, show stepD 0 48 = 0 by rw [stepD_eq]; rfl, ih]
theorem vl_mono (l : List UInt8) : ∀ acc, acc ≤ vl acc l := by
  induction l with
  | nil => intro acc; exact Nat.le_refl _
  | cons c l ih => intro acc; rw [vl_cons]; exact Nat.le_trans (by rw [stepD_eq]; omega) (ih _)
theorem parse_vl (l : List UInt8) (h : ∀ c, c ∈ l → isDg c = true) : ∀ acc, vl acc l < 1000000000000000000 → Lib.parseUint10 acc l = .ok (vl acc l) := by
  induction l with
  | nil => intro acc _; rfl
  | cons c l ih =>
    intro acc hb
    have hc := isDg_iff.1 (h c (by simp))
    rw [vl_cons] at hb ⊢
    have h1 := vl_mono l (stepD acc c)
    have h2 := stepD_eq acc c
    rw [Lib.parseUint10, if_pos hc, if_neg (by omega), if_neg (by omega), ← h2]
    exact ih (fun c hc => h c (by simp [hc])) _ hb
theorem padW_ok (k : Nat) {w : List UInt8} (h : ∀ c, c ∈ w → isDg c = true) : ∀ c, c ∈ padW k w → isDg c = true := fun c hc => by
  rcases List.mem_append.1 hc with hc | hc
  · rw [List.eq_of_mem_replicate hc]; decide
  · exact h c hc
theorem padW_len (k : Nat) (w : List UInt8) : (padW k w).length = max (k + 1) w.length := by
  unfold padW; simp; omega
theorem atoi_of {u : Int} {w : List UInt8} (hw : ∀ c, c ∈ w → isDg c = true) (hne : w ≠ []) (hv : vl 0 w = u.natAbs) (hu : u.natAbs ≤ 100000000000000000) : Lib.atoiAll (sgL u ++ w) = .ok u := by
  have hm : Lib.parseMag w = .ok u.natAbs := by
    unfold Lib.parseMag
    rw [if_neg hne, parse_vl w hw 0 (by rw [hv]; omega), hv]
  obtain ⟨c, r, rfl⟩ : ∃ c r, w = c :: r := by
    cases w with
    | nil => exact absurd rfl hne
    | cons c r => exact ⟨c, r, rfl⟩
  have hc := isDg_iff.1 (hw c (by simp))
  unfold sgL
  split
  · rename_i h
    have e45 : (45 : UInt8).toNat = 45 := rfl
    simp only [List.cons_append, List.nil_append, Lib.atoiAll, e45, or_true, if_true, hm]
    rw [if_neg (by simp), if_neg (by simp; omega)]
    congr 1
    omega
  · rename_i h
    have n1 : ¬ c.toNat = 43 := by omega
    have n2 : ¬ c.toNat = 45 := by omega
    simp only [List.nil_append, Lib.atoiAll, n1, n2, or_false, if_false]
    rw [hm]
    simp only
    rw [if_neg (by simp; omega), if_neg (by simp)]
    congr 1
    omega
theorem cut_none {s : List UInt8} (h : ∀ c, c ∈ s → c ≠ 46) : Lib.cut s [46] = (s, [], false) := by
  have : Lib.index s [46] = -1 := by
    induction s with
    | nil => rfl
    | cons b s ih =>
      have hb := h b (by simp)
      rw [Lib.index, ih (fun c hc => h c (by simp [hc]))]
      have : ([46] : List UInt8).isPrefixOf (b :: s) = false := by simp [List.isPrefixOf]; exact fun e => hb e.symm
      rw [this]; rfl
  unfold Lib.cut
  rw [this, if_neg (by omega)]
theorem cut_at {a b : List UInt8} (h : ∀ c, c ∈ a → c ≠ 46) : Lib.cut (a ++ 46 :: b) [46] = (a, b, true) := by
  have : Lib.index (a ++ 46 :: b) [46] = (a.length : Int) := by
    induction a with
    | nil => rfl
    | cons x a ih =>
      have hb := h x (by simp)
      rw [List.cons_append, Lib.index, ih (fun c hc => h c (by simp [hc]))]
      have : ([46] : List UInt8).isPrefixOf (x :: (a ++ 46 :: b)) = false := by simp [List.isPrefixOf]; exact fun e => hb e.symm
      rw [this]
      simp only [Bool.false_eq_true, if_false]
      rw [if_neg (by simp)]
      simp
  unfold Lib.cut
  rw [this, if_pos (by omega)]
  simp
theorem dg_ne46 {c : UInt8} (h : isDg c = true) : c ≠ 46 := fun e => by subst e; revert h; decide
theorem sg_ne46 (u : Int) : ∀ c, c ∈ sgL u → c ≠ 46 := fun c hc => by
  unfold sgL at hc
  split at hc
  · rw [List.mem_singleton.1 hc]; decide
  · cases hc
/-- What the program's Parse gives. -/
def parseP (t : List UInt8) : Option (Int × Nat) :=
  match Lib.atoiAll ((Lib.cut t [46]).1 ++ (Lib.cut t [46]).2.1) with
  | .ok n => if (Lib.cut t [46]).2.2 = true ∧ (Lib.cut t [46]).2.1 = [] then none else if okD n (Lib.cut t [46]).2.1.length = true ∧ fmtL n (Lib.cut t [46]).2.1.length = t then some (n, (Lib.cut t [46]).2.1.length) else none
  | _ => none
theorem parseP_some {t : List UInt8} {u : Int} {k : Nat} (h : parseP t = some (u, k)) : okD u k = true ∧ fmtL u k = t := by
  unfold parseP at h
  split at h
  · split at h
    · cases h
    · split at h
      · rename_i h2; cases h; exact h2
      · cases h
  · cases h
theorem fmt_parts {u : Int} {k : Nat} (hk : okD u k = true) : ∃ a b : List UInt8, padW k (Lib.decDigits u.natAbs) = a ++ b ∧ b.length = k ∧ a ≠ [] ∧ fmtL u k = sgL u ++ (if k = 0 then a else a ++ 46 :: b) ∧ (∀ c, c ∈ a → isDg c = true) ∧ (∀ c, c ∈ b → isDg c = true) := by
  have hl := padW_len k (Lib.decDigits u.natAbs)
  have hok := padW_ok k (digs_ok u.natAbs)
  refine ⟨_, _, (List.take_append_drop ((padW k (Lib.decDigits u.natAbs)).length - k) _).symm, by rw [List.length_drop]; omega, ?_, ?_, fun c hc => hok c (List.mem_of_mem_take hc), fun c hc => hok c (List.mem_of_mem_drop hc)⟩
  · intro e
    have := congrArg List.length e
    rw [List.length_take] at this
    simp at this; omega
  · unfold fmtL bodyL
    split
    · rename_i h0
      subst h0
      simp
    · rfl
theorem parseP_fmt {u : Int} {k : Nat} (hk : okD u k = true) : parseP (fmtL u k) = some (u, k) := by
  obtain ⟨h1, h2, -, -⟩ := okD_iff.1 hk
  obtain ⟨a, b, hp, hbl, hane, hf, ha, hb⟩ := fmt_parts hk
  have hat : Lib.atoiAll (sgL u ++ (a ++ b)) = .ok u := by
    rw [← hp]
    refine atoi_of (padW_ok k (digs_ok _)) ?_ (by unfold padW; rw [vl_zeros, vl_digs]) (by omega)
    rw [hp]; simp [hane]
  have hcut : Lib.cut (fmtL u k) [46] = (sgL u ++ a, b, decide (k ≠ 0)) := by
    rw [hf]
    split
    · rename_i h0
      subst h0
      have : b = [] := List.length_eq_zero_iff.1 hbl
      subst this
      rw [cut_none fun c hc => by
        rcases List.mem_append.1 hc with hc | hc
        · exact sg_ne46 u c hc
        · exact dg_ne46 (ha c hc)]
      rfl
    · rename_i h0
      rw [← List.append_assoc, cut_at fun c hc => by
        rcases List.mem_append.1 hc with hc | hc
        · exact sg_ne46 u c hc
        · exact dg_ne46 (ha c hc)]
      simp [h0]
  unfold parseP
  rw [hcut]
  simp only [List.append_assoc, hat]
  rw [if_neg (fun e => by
    have e1 := e.1
    have e2 : b = [] := e.2
    rw [e2] at hbl
    simp at e1 hbl
    omega), hbl, if_pos ⟨hk, rfl⟩]
theorem fmt_len {u : Int} {k : Nat} (hk : okD u k = true) : (fmtL u k).length ≤ 30 := by
  obtain ⟨h1, h2, -, h4⟩ := okD_iff.1 hk
  have hd := digs_len (n := u.natAbs) (m := 17) (by omega)
  obtain ⟨a, b, hp, hbl, -, hf, -, -⟩ := fmt_parts hk
  have := congrArg List.length hp
  rw [padW_len, List.length_append] at this
  have hs : (sgL u).length ≤ 1 := by unfold sgL; split <;> simp
  rw [hf]
  split <;> simp <;> omega
end Go.Proofs.YtclainfdeghgnaaGreatDoor
namespace Go.Proofs.YtclainfdeghgnaaGreatDoor
open Go.Proofs.YtclainfdeghgnaaGreatDoor.Nm
theorem dtxt_last (n k : Nat) : dtxt n (k + 1) = dtxt (n / 10) k ++ [UInt8.ofNat (48 + n % 10)] := by
  induction k with
  | zero => simp [dtxt, dch, dg]
  | succ k ih =>
    rw [dtxt, ih, dg_succ]
    rfl
theorem digs_dtxt (n : Nat) : Lib.decDigits n = dtxt n (dlen n) := by
  induction n using Nat.strongRecOn with
  | ind n ih =>
    rw [digs_rec]
    split
    · rename_i h
      rw [dlen_small h, dtxt_last, Nat.mod_eq_of_lt h]
      rfl
    · rename_i h
      rw [dlen_big h, dtxt_last, ih (n / 10) (by omega)]
theorem txt_sg (u : Int) : txt u = sgL u ++ Lib.decDigits u.natAbs := by
  unfold txt sgn sgL
  rw [digs_dtxt, ng_def]
  by_cases h : u < 0 <;> simp [h]
theorem itoa_sg (u : Int) : Lib.itoa u = sgL u ++ Lib.decDigits u.natAbs := by
  unfold Lib.itoa sgL
  split
  · rfl
  · rw [show u.toNat = u.natAbs by omega]; rfl
theorem digs_head (n : Nat) : 1 ≤ n → (Lib.decDigits n).head? ≠ some 48 := by
  induction n using Nat.strongRecOn with
  | ind n ih =>
    intro hn
    rw [digs_rec]
    split
    · rename_i h
      intro e
      have e2 : UInt8.ofNat (48 + n) = 48 := by simpa using e
      have := u8nat h
      rw [e2] at this
      have h4 : (48 : UInt8).toNat = 48 := rfl
      omega
    · rename_i h
      have := ih (n / 10) (by omega) (by omega)
      have hne := digs_ne (n / 10)
      cases hd : Lib.decDigits (n / 10) with
      | nil => exact absurd hd hne
      | cons c r => rw [hd] at this; simpa using this
def scanL : List UInt8 → Nat → List UInt8 → Nat → Bool → Option (List UInt8 × Nat)
  | [], _, d, s, _ => some (d, s)
  | c :: r, i, d, s, p => if c = 46 ∧ p = false then scanL r (i + 1) d s true else if c = 45 ∧ i = 0 then scanL r (i + 1) d s p else if isDg c = true then scanL r (i + 1) (d ++ [c]) (if p = true then s + 1 else s) p else none
theorem scan_digs (a r : List UInt8) (ha : ∀ c, c ∈ a → isDg c = true) : ∀ (i : Nat) (d : List UInt8) (s : Nat) (p : Bool), scanL (a ++ r) i d s p = scanL r (i + a.length) (d ++ a) (if p = true then s + a.length else s) p := by
  induction a with
  | nil => intro i d s p; simp
  | cons c a ih =>
    intro i d s p
    have hc := ha c (by simp)
    have h46 := dg_ne46 hc
    have h45 : c ≠ 45 := fun e => by subst e; revert hc; decide
    rw [List.cons_append, scanL, if_neg (fun e => h46 e.1), if_neg (fun e => h45 e.1), if_pos hc, ih (fun c hc => ha c (by simp [hc]))]
    cases p <;> simp [Nat.add_assoc, Nat.add_comm 1]
def dzL : List UInt8 → List UInt8
  | [] => []
  | c :: r => if c = 48 ∧ r ≠ [] then dzL r else c :: r
theorem dz_zeros (j : Nat) {w : List UInt8} (hw : w ≠ []) : dzL (List.replicate j 48 ++ w) = dzL w := by
  induction j with
  | zero => rfl
  | succ j ih => rw [List.replicate_succ, List.cons_append, dzL, if_pos ⟨rfl, by simp [hw]⟩, ih]
theorem dz_digs (n : Nat) : dzL (Lib.decDigits n) = Lib.decDigits n := by
  rcases Nat.eq_zero_or_pos n with rfl | hn
  · rw [digs_rec]; rfl
  · have hh := digs_head n hn
    cases hd : Lib.decDigits n with
    | nil => rfl
    | cons c r =>
      rw [hd] at hh
      rw [dzL, if_neg (fun e => hh (by rw [e.1]; rfl))]
def finD (t : List UInt8) (u : Int) (s : Nat) : Option (Int × Nat) := if u.natAbs ≤ 100000000000000000 ∧ okD u s = true ∧ fmtL u s = t then some (u, s) else none
theorem finD_some {t : List UInt8} {u v : Int} {s k : Nat} (h : finD t u s = some (v, k)) : okD v k = true ∧ fmtL v k = t := by
  unfold finD at h
  split at h
  · rename_i h2; cases h; exact h2.2
  · cases h
/-- What the document's Parse gives. -/
def parseD (t : List UInt8) : Option (Int × Nat) :=
  if 30 < t.length then none else
  match scanL t 0 [] 0 false with
  | none => none
  | some (d, s) => match rd (dzL d) with
    | none => none
    | some x => finD t (if t.head? = some 45 then -x else x) s
theorem parseD_some {t : List UInt8} {u : Int} {k : Nat} (h : parseD t = some (u, k)) : okD u k = true ∧ fmtL u k = t := by
  unfold parseD at h
  split at h
  · cases h
  · split at h
    · cases h
    · split at h
      · cases h
      · exact finD_some h
theorem parseD_fmt {u : Int} {k : Nat} (hk : okD u k = true) : parseD (fmtL u k) = some (u, k) := by
  obtain ⟨h1, h2, -, -⟩ := okD_iff.1 hk
  obtain ⟨a, b, hp, hbl, hane, hf, ha, hb⟩ := fmt_parts hk
  have hscan : scanL (fmtL u k) 0 [] 0 false = some (padW k (Lib.decDigits u.natAbs), k) := by
    have key : ∀ i, scanL (if k = 0 then a else a ++ 46 :: b) i [] 0 false = some (a ++ b, k) := fun i => by
      split
      · rename_i h0
        subst h0
        have : b = [] := List.length_eq_zero_iff.1 hbl
        subst this
        have := scan_digs a [] ha i [] 0 false
        rw [List.append_nil] at this
        rw [this, scanL]
        simp
      · rw [scan_digs a _ ha, scanL, if_pos ⟨rfl, rfl⟩]
        have := scan_digs b [] hb (i + a.length + 1) ([] ++ a) (if false = true then 0 + a.length else 0) true
        rw [List.append_nil] at this
        rw [this, scanL]
        simp [hbl]
    rw [hf, hp]
    unfold sgL
    split
    · rw [List.cons_append, List.nil_append, scanL, if_neg (by rintro ⟨e, -⟩; revert e; decide), if_pos ⟨rfl, rfl⟩]
      exact key _
    · exact key 0
  have hdz : dzL (padW k (Lib.decDigits u.natAbs)) = Lib.decDigits u.natAbs := by
    unfold padW
    rw [dz_zeros _ (digs_ne _), dz_digs]
  have hrd : rd (Lib.decDigits u.natAbs) = some (u.natAbs : Int) := by
    have := rd_txt (u.natAbs : Int) (by simp; omega)
    rw [txt_sg] at this
    unfold sgL at this
    rw [if_neg (by omega)] at this
    simpa using this
  have hhead : (fmtL u k).head? = some 45 ↔ u < 0 := by
    rw [hf]
    unfold sgL
    split
    · rename_i h; simp [h]
    · rename_i h
      obtain ⟨c, r, rfl⟩ : ∃ c r, a = c :: r := by
        cases a with
        | nil => exact absurd rfl hane
        | cons c r => exact ⟨c, r, rfl⟩
      have hc := ha c (by simp)
      have h45 : c ≠ 45 := fun e => by subst e; revert hc; decide
      constructor
      · intro e
        exfalso
        apply h45
        split at e <;> simpa using e
      · intro e; exact absurd e h
  have hx : (if (fmtL u k).head? = some 45 then -(u.natAbs : Int) else (u.natAbs : Int)) = u := by
    by_cases h : u < 0
    · rw [if_pos (hhead.2 h)]; omega
    · rw [if_neg (fun e => h (hhead.1 e))]; omega
  unfold parseD
  rw [if_neg (by have := fmt_len hk; omega), hscan]
  simp only [hdz, hrd]
  unfold finD
  rw [hx, if_pos ⟨by omega, hk, rfl⟩]
theorem parse_same (t : List UInt8) : parseP t = parseD t := by
  cases h : parseP t with
  | some x =>
    obtain ⟨u, k⟩ := x
    obtain ⟨h1, h2⟩ := parseP_some h
    rw [← h2, parseD_fmt h1]
  | none =>
    cases h2 : parseD t with
    | none => rfl
    | some x =>
      obtain ⟨u, k⟩ := x
      obtain ⟨h3, h4⟩ := parseD_some h2
      rw [← h4, parseP_fmt h3] at h
      cases h
end Go.Proofs.YtclainfdeghgnaaGreatDoor
namespace Go.Proofs
open Go.Shelf
def Tryz.laysM171_ren : Go.Shelf.Ren := ⟨fun | 171 => 36 | 243 => 73 | 246 => 93 | 283 => 101 | 284 => 102 | 285 => 103 | 286 => 104 | 129 => 107 | 317 => 106 | 318 => 108 | 319 => 109 | 320 => 110 | 337 => 111 | 338 => 112 | n => n, fun | 3 => 3 | 9 => 9 | 2 => 2 | 4 => 4 | 171 => 142 | 0 => 0 | 53 => 86 | 37 => 94 | 5 => 5 | 173 => 145 | 212 => 149 | 51 => 113 | 20 => 20 | 213 => 150 | 46 => 114 | 232 => 154 | 233 => 54 | n => n, fun | 17 => 3 | 18 => 4 | 19 => 5 | n => n⟩
theorem Tryz.laysM171 : Go.Proofs.LaysM.n171 Tryz.prog Tryz.laysM171_ren := {
  mixed := by kernel_rfl
  f129 := Tryz.func107.trans (congrArg some (by kernel_rfl))
  f171 := Tryz.func36.trans (congrArg some (by kernel_rfl))
  f243 := Tryz.func73.trans (congrArg some (by kernel_rfl))
  f246 := Tryz.func93.trans (congrArg some (by kernel_rfl))
  f283 := Tryz.func101.trans (congrArg some (by kernel_rfl))
  f284 := Tryz.func102.trans (congrArg some (by kernel_rfl))
  f285 := Tryz.func103.trans (congrArg some (by kernel_rfl))
  f286 := Tryz.func104.trans (congrArg some (by kernel_rfl))
  f317 := Tryz.func106.trans (congrArg some (by kernel_rfl))
  f318 := Tryz.func108.trans (congrArg some (by kernel_rfl))
  f319 := Tryz.func109.trans (congrArg some (by kernel_rfl))
  f320 := Tryz.func110.trans (congrArg some (by kernel_rfl))
  f337 := Tryz.func111.trans (congrArg some (by kernel_rfl))
  f338 := Tryz.func112.trans (congrArg some (by kernel_rfl))
  t0 := Tryz.underlying0
  a0 := Tryz.isAgg0
  z0 := Tryz.sizeOf0
  v0 := Tryz.zeroValue0
  t2 := Tryz.underlying2
  a2 := Tryz.isAgg2
  z2 := Tryz.sizeOf2
  v2 := Tryz.zeroValue2
  t3 := Tryz.underlying3
  a3 := Tryz.isAgg3
  z3 := Tryz.sizeOf3
  v3 := Tryz.zeroValue3
  t4 := Tryz.underlying4
  a4 := Tryz.isAgg4
  z4 := Tryz.sizeOf4
  v4 := Tryz.zeroValue4
  t5 := Tryz.underlying5
  a5 := Tryz.isAgg5
  z5 := Tryz.sizeOf5
  v5 := Tryz.zeroValue5
  t9 := Tryz.underlying9
  a9 := Tryz.isAgg9
  z9 := Tryz.sizeOf9
  v9 := Tryz.zeroValue9
  t20 := Tryz.underlying20
  a20 := Tryz.isAgg20
  z20 := Tryz.sizeOf20
  v20 := Tryz.zeroValue20
  t37 := Tryz.underlying94
  a37 := Tryz.isAgg94
  z37 := Tryz.sizeOf94
  v37 := Tryz.zeroValue94
  t46 := Tryz.underlying114
  a46 := Tryz.isAgg114
  z46 := Tryz.sizeOf114
  v46 := Tryz.zeroValue114
  t51 := Tryz.underlying113
  a51 := Tryz.isAgg113
  z51 := Tryz.sizeOf113
  v51 := Tryz.zeroValue113
  t53 := Tryz.underlying86
  a53 := Tryz.isAgg86
  z53 := Tryz.sizeOf86
  v53 := Tryz.zeroValue86
  t171 := Tryz.underlying142
  a171 := Tryz.isAgg142
  z171 := Tryz.sizeOf142
  v171 := Tryz.zeroValue142
  t173 := Tryz.underlying145
  a173 := Tryz.isAgg145
  z173 := Tryz.sizeOf145
  v173 := Tryz.zeroValue145
  t212 := Tryz.underlying149
  a212 := Tryz.isAgg149
  z212 := Tryz.sizeOf149
  v212 := Tryz.zeroValue149
  t213 := Tryz.underlying150
  a213 := Tryz.isAgg150
  z213 := Tryz.sizeOf150
  t232 := Tryz.underlying154
  a232 := Tryz.isAgg154
  z232 := Tryz.sizeOf154
  v232 := Tryz.zeroValue154
  t233 := Tryz.underlying54
  a233 := Tryz.isAgg54
  z233 := Tryz.sizeOf54
  v233 := Tryz.zeroValue54
  g17 := by kernel_rfl
  g18 := by kernel_rfl
  g19 := by kernel_rfl
  i0 := by kernel_rfl
  i2 := by kernel_rfl
  i3 := by kernel_rfl
  i4 := by kernel_rfl
  i5 := by kernel_rfl
  i9 := by kernel_rfl
  i20 := by kernel_rfl
  i37 := by kernel_rfl
  i46 := by kernel_rfl
  i51 := by kernel_rfl
  i53 := by kernel_rfl
  i171 := by kernel_rfl
  i173 := by kernel_rfl
  i212 := by kernel_rfl
  i232 := by kernel_rfl
  i233 := by kernel_rfl
  m17 := by kernel_rfl
  m18 := by kernel_rfl
  m19 := by kernel_rfl }
open Go.RowKit Go.Sort Go.Lib in
theorem Tryz.strconv_Itoa (n : Int) (h0 : -9223372036854775808 ≤ n) (h1 : n ≤ 9223372036854775807) (w : World) (htab : Lib.TabIs Tryz.prog w "internal/strconv.uint64pow10" .u64 Lib.pow10Tab) :
    Calls Tryz.prog 36 #[.int .i64 n] w fun e w' => e = .returned (.string ⟨(Lib.itoa n).toArray⟩) ∧ ∃ k os, w' = grow (w.drewN k) os := Any.strconv_Itoa Tryz.laysM171 n h0 h1 w htab
end Go.Proofs
namespace Go.Proofs.YtclainfdeghgnaaGreatDoor
open Go.RowKit Go.Proofs.YtclainfdeghgnaaGreatDoor.Nm
set_option linter.unusedSimpArgs false
/-- A guarded operation left out, whose slot is empty. -/
theorem put_undef (l : List Value) (df : List Deferred) (d : Nat) (h : l[d]? = some undef) : (Act.mk l.toArray df).put (some d) undef = Act.mk l.toArray df := by
  rw [put_lit]
  congr 2
  apply List.ext_getElem?
  intro i
  rw [List.getElem?_set]
  split
  · rename_i e; subst e
    split
    · exact h.symm
    · rename_i hn; rw [List.getElem?_eq_none (by omega)]
  · rfl
theorem wl_skipU {P : Program} {ops : Array Oper} {rest : List Oper} {op : Op} {d : Nat} {ty : TypeId} {pos : String} {after : Array Edge} {g : Option (Nat × Bool)} {l : List Value} {df : List Deferred} {w : World} {Q : Exit → Act → World → Prop} (hg : Region.wanted ⟨some d, op, ty, pos, after, g⟩ (yielded ops (Act.mk l.toArray df).tmps) = false) (hu : l[d]? = some undef)
    (h : wpList P ops Q rest (Act.mk l.toArray df) w) : wpList P ops Q (⟨some d, op, ty, pos, after, g⟩ :: rest) (Act.mk l.toArray df) w :=
  wl_skip hg (by rw [put_undef l df d hu]; exact h)
theorem u3d : Tryz.prog.underlying 3 = some (.int .i64) := by kernel_rfl
section
variable {ops : Array Oper} {rest : List Oper} {dst : Option Tmp} {ty ty' : TypeId} {x y : Operand} {pos : String} {after : Array Edge} {g : Option (Nat × Bool)} {a : Act} {w : World} {Q : Exit → Act → World → Prop} {ad : Addr} {v : Value}
theorem run_boxD (u k : Int) (w : World) : (Instr.box 25 (.agg (dc u k))).run Tryz.prog w = .ok (.pointer (some ⟨w.heap.size, 0, none⟩)) (w.alloc (.cells (dc u k) 25)) := by kernel_rfl
theorem wl_boxD {u k : Int} (hx : a.eval x = .agg (dc u k)) (h : ∀ W p, Below w.heap.size w W → w.heap.size ≤ p → W.heap[p]? = some (.cells (dc u k) 25 (0, 0)) → wpList Tryz.prog ops Q rest (a.put dst (.pointer (some ⟨p, 0, none⟩))) W) : wpList Tryz.prog ops Q (⟨dst, .box 25 x, ty', pos, after, none⟩ :: rest) a w :=
  wl_w rfl (w2 := w.alloc (.cells (dc u k) 25)) (by
    unfold execOp
    have := run_boxD u k w
    simp [hx, this, Result.andThen]) (h _ _ ((Below.refl _ w).alloc (Nat.le_refl _) _) (Nat.le_refl _) (ha_new rfl))
theorem ex_allD (ev : Operand → Value) (w : World) : (execOp ev ⟨dst, .alloc 25, ty', pos, after, none⟩).run Tryz.prog w = .ok (.value (.pointer (some ⟨w.heap.size, 0, none⟩))) (w.alloc (.cells (dc 0 0) 25)) := by kernel_rfl
theorem wl_allD (h : ∀ W p, Below w.heap.size w W → w.heap.size ≤ p → W.heap[p]? = some (.cells (dc 0 0) 25 (0, 0)) → wpList Tryz.prog ops Q rest (a.put dst (.pointer (some ⟨p, 0, none⟩))) W) : wpList Tryz.prog ops Q (⟨dst, .alloc 25, ty', pos, after, none⟩ :: rest) a w := wl_new ex_allD h
theorem run_bsD (u k : Int) (w : World) : (Instr.buildSlice 98 1 #[(0, .agg (dc u k))]).run Tryz.prog w = .ok (.slice (some ⟨w.heap.size, 0, none⟩) 1 1) (w.alloc (.cells (dc u k) 25)) := by kernel_rfl
theorem wl_bsD {u k : Int} (hx : a.eval x = .agg (dc u k)) (h : ∀ W p, Below w.heap.size w W → w.heap.size ≤ p → W.heap[p]? = some (.cells (dc u k) 25 (0, 0)) → wpList Tryz.prog ops Q rest (a.put dst (.slice (some ⟨p, 0, none⟩) 1 1)) W) : wpList Tryz.prog ops Q (⟨dst, .buildSlice 98 1 #[(0, x)], ty', pos, after, none⟩ :: rest) a w :=
  wl_w rfl (w2 := w.alloc (.cells (dc u k) 25)) (by
    unfold execOp
    have := run_bsD u k w
    simp [hx, this, Result.andThen]) (h _ _ ((Below.refl _ w).alloc (Nat.le_refl _) _) (Nat.le_refl _) (ha_new rfl))
end
theorem fD0 {w : World} {b : Nat} {u k : Int} {t : TypeId} {fr : Nat × Nat} (hb : w.heap[b]? = some (.cells (dc u k) t fr)) : OneAt w 3 ⟨b, 0, none⟩ (.int .i64 u) := one_of u3d rfl (dc0 hb)
theorem fD1 {w : World} {b : Nat} {u k : Int} {t : TypeId} {fr : Nat × Nat} (hb : w.heap[b]? = some (.cells (dc u k) t fr)) : OneAt w 3 ⟨b, 1, none⟩ (.int .i64 k) := one_of u3d rfl (dc1 hb)
theorem valid_one {w : World} {g : Nat} {u k : Int} (hg : w.heap[g]? = some (.cells (dc u k) 25 (0, 0))) (R : Bool) (hR : R = validD u k) : Calls Tryz.prog 35 #[.slice (some ⟨g, 0, none⟩) 1 1] w fun e w' => e = .returned (.bool R) ∧ Below w.heap.size w w' :=
  valid_any g 1 [(u, k)] (by simp) R (Lib.hid (by rw [hR]; simp [allD])) w hg
end Go.Proofs.YtclainfdeghgnaaGreatDoor
namespace Go.Proofs.YtclainfdeghgnaaGreatDoor
open Go.RowKit Go.Proofs.YtclainfdeghgnaaGreatDoor.Nm
set_option linter.unusedSimpArgs false
/-- strconv's table of powers stands. -/
def TabW (w : World) : Prop := Lib.TabIs Tryz.prog w "internal/strconv.uint64pow10" .u64 Lib.pow10Tab
theorem TabW.old {w w' : World} (h : TabW w) (hb : Below w.heap.size w w') : TabW w' := by
  unfold TabW Lib.TabIs World.var? at *
  cases hg : Tryz.prog.globalNamed "internal/strconv.uint64pow10" with
  | none => simp [hg] at h
  | some g =>
    simp only [hg, Option.bind_some] at h ⊢
    have hlt : g < w.heap.size := by
      rcases Nat.lt_or_ge g w.heap.size with h' | h'
      · exact h'
      · rw [Array.getElem?_eq_none h'] at h; simp at h
    rw [hb.block g hlt]
    exact h
theorem Itoa_any (u : Int) (h0 : -9223372036854775808 ≤ u) (h1 : u ≤ 9223372036854775807) (w : World) (ht : TabW w) : Calls Tryz.prog 36 #[.int .i64 u] w fun e w' => e = .returned (.string ⟨(Lib.itoa u).toArray⟩) ∧ Below w.heap.size w w' :=
  (Tryz.strconv_Itoa u h0 h1 w ht).mono fun e w' ⟨h, k, os, e2⟩ => ⟨h, by rw [e2]; exact Lib.below_grow _ _ (Nat.le_refl _) _ _⟩
def fmV (u k : Int) : Value := if okD u k = true then .tuple #[.string ⟨(fmtL u k.toNat).toArray⟩, .int .i64 0] else .tuple #[.string ⟨#[]⟩, .int .i64 4]
theorem fm_bad {u k : Int} (h : okD u k = false) : fmV u k = .tuple #[.string ⟨#[]⟩, .int .i64 4] := by unfold fmV; rw [h]; rfl
theorem fm_good {u k : Int} (h : okD u k = true) {m : ByteArray} (e : m.data.toList = fmtL u k.toNat) : fmV u k = .tuple #[.string m, .int .i64 0] := by
  unfold fmV
  rw [if_pos h, ← e]
/-- Digits with some zeros ahead, no more than wanted. -/
def PadS (m : ByteArray) (k : Nat) (D : List UInt8) : Prop := ∃ j, m.data.toList = List.replicate j 48 ++ D ∧ (j = 0 ∨ j + D.length ≤ k + 1)
theorem PadS.start {m : ByteArray} (k : Nat) {D : List UInt8} (h : m.data.toList = D) : PadS m k D := ⟨0, by simpa using h, .inl rfl⟩
theorem bsize (m : ByteArray) : m.size = m.data.toList.length := by rw [Array.length_toList]; rfl
theorem PadS.step {m : ByteArray} {k : Nat} {D : List UInt8} (h : PadS m k D) (hk : m.size ≤ k) : PadS ((⟨#[48]⟩ : ByteArray) ++ m) k D := by
  obtain ⟨j, e, -⟩ := h
  refine ⟨j + 1, ?_, .inr ?_⟩
  · rw [ByteArray.data_append, Array.toList_append, e]; rfl
  · rw [bsize, e] at hk
    simp at hk; omega
theorem PadS.done {m : ByteArray} {k : Nat} {D : List UInt8} (h : PadS m k D) (hk : ¬ m.size ≤ k) : m.data.toList = padW k D := by
  obtain ⟨j, e, h2⟩ := h
  rw [bsize, e] at hk
  simp at hk
  rw [e]
  unfold padW
  congr 2
  omega
theorem itoa_tail {u : Int} (h : u < 0) {m : ByteArray} (hm : m.data.toList = Lib.itoa u) : 1 ≤ m.size ∧ (m.extract 1 m.size).data.toList = Lib.decDigits u.natAbs := by
  rw [itoa_sg] at hm
  unfold sgL at hm
  rw [if_pos h] at hm
  constructor
  · rw [bsize, hm]; simp
  · rw [ByteArray.data_extract, Array.toList_extract, hm, bsize, hm]
    simp
def strSz : Value → Nat
  | .string m => m.size
  | _ => 0
theorem fm_goodN {u : Int} {k : Nat} (h : okD u k = true) {m : ByteArray} (e : m.data.toList = fmtL u k) : fmV u k = .tuple #[.string m, .int .i64 0] := fm_good h (by rw [e]; rfl)
theorem fm_good0 {u : Int} {k : Nat} (h0 : k = 0) (h : okD u k = true) {m : ByteArray} (e : m.data.toList = fmtL u k) : fmV u 0 = .tuple #[.string m, .int .i64 0] := by
  have := fm_goodN h e
  subst h0
  exact this
theorem fmt0 {u : Int} {k : Nat} (h0 : k = 0) {sg m : ByteArray} (hs : sg.data.toList = sgL u) (hm : m.data.toList = padW k (Lib.decDigits u.natAbs)) : (sg ++ m).data.toList = fmtL u k := by
  subst h0
  rw [ByteArray.data_append, Array.toList_append, hs, hm]; rfl
theorem fmt1 {u : Int} {k n : Nat} {sg m : ByteArray} (hk : k ≠ 0) (hs : sg.data.toList = sgL u) (hm : m.data.toList = padW k (Lib.decDigits u.natAbs)) (hn : m.size = n + k) : (((sg ++ m.extract 0 n) ++ ⟨#[46]⟩) ++ m.extract n m.size).data.toList = fmtL u k := by
  rw [ByteArray.data_append, Array.toList_append, ByteArray.data_append, Array.toList_append, ByteArray.data_append, Array.toList_append, hs]
  have e1 : (m.extract 0 n).data.toList = (padW k (Lib.decDigits u.natAbs)).take n := by
    rw [ByteArray.data_extract, Array.toList_extract, hm]; simp
  have e2 : (m.extract n m.size).data.toList = (padW k (Lib.decDigits u.natAbs)).drop n := by
    rw [ByteArray.data_extract, Array.toList_extract, hm, bsize, hm]; simp only [List.extract_eq_take_drop]; exact List.take_of_length_le (by rw [List.length_drop]; exact Nat.le_refl _)
  rw [e1, e2]
  rw [bsize, hm] at hn
  unfold fmtL bodyL
  rw [if_neg hk, hn, Nat.add_sub_cancel]
  simp
theorem PadS.bound {m : ByteArray} {k : Nat} {D : List UInt8} (h : PadS m k D) (hk : (k : Int) ≤ 9) (hD : D.length ≤ 18) : m.size ≤ 18 := by
  obtain ⟨j, e, h2⟩ := h
  rw [bsize, e]
  simp
  omega
theorem digs18 {u : Int} (h1 : -100000000000000000 ≤ u) (h2 : u ≤ 100000000000000000) : (Lib.decDigits u.natAbs).length ≤ 18 := digs_len (m := 17) (by omega)
theorem sg_neg {u : Int} (h : u < 0) : (⟨#[45]⟩ : ByteArray).data.toList = sgL u := by unfold sgL; rw [if_pos h]
theorem sg_pos {u : Int} (h : ¬ u < 0) : (⟨#[]⟩ : ByteArray).data.toList = sgL u := by unfold sgL; rw [if_neg h]
theorem itoa_pos {u : Int} (h : ¬ u < 0) {m : ByteArray} (hm : m.data.toList = Lib.itoa u) : m.data.toList = Lib.decDigits u.natAbs := by
  rw [hm, itoa_sg]; unfold sgL; rw [if_neg h]; rfl
set_option maxHeartbeats 4000000 in
set_option maxRecDepth 100000 in
theorem Format_any (u k : Int) (w : World) (ht : TabW w) : Calls Tryz.prog 12 #[.agg (dc u k)] w fun e w' => e = .returned (fmV u k) ∧ Below w.heap.size w w' := by
  have HTB := Lib.hid ht
  have hb := Below.refl w.heap.size w
  clear ht
  go_enter Tryz.func12, Tryz.ntmps12
  go_upto_region 0 with (fail)
  apply wp_region_lit
  (with_reducible refine wl_boxD rfl ?_); intro W p hbn hlp hp; replace hb := hb.trans (hbn.mono hb.size); clear hbn; simp only [put_lit, List.set_cons_zero, List.set_cons_succ]
  (with_reducible refine wl_k ?_ ?_); exact rfl; intro K hK; go_simp; refine hK _ ?_; clear hK K
  (with_reducible refine wl_k ?_ ?_); exact rfl; intro K hK; go_simp; refine hK _ ?_; clear hK K
  obtain ⟨R, hR⟩ : ∃ R, R = validD u k := ⟨_, rfl⟩
  have HR := Lib.hid hR
  clear hR
  go_upto_region 1 with (fail)
  apply wp_region_lit
  ((with_reducible apply wl_rowG); exact rfl; exact rfl; exact rowDc hp)
  have lthpg := heap_lt hp; (with_reducible refine wl_bsD rfl ?_); intro W3 g hbn hlg hg; replace hp := below_look hbn hp; replace hb := hb.trans (hbn.mono hb.size); clear hbn; simp only [put_lit, List.set_cons_zero, List.set_cons_succ]
  (with_reducible refine wl_ck ?_ ?_); exact rfl; intro K hK; go_simp; refine ⟨_, _, ⟨rfl, rfl⟩, hK _ _ ⟨_, valid_one hg R HR.out, ?_⟩⟩; clear hK K; rintro e w4 ⟨rfl, hb4⟩; refine ⟨_, rfl, ?_⟩; simp only [put_lit, List.set_cons_zero, List.set_cons_succ]
  replace hp := below_look hb4 hp; replace hb := hb.trans (hb4.mono hb.size); clear hb4
  clear hg
  cases R with
  | false =>
    (with_reducible refine wl_k ?_ ?_); exact rfl; intro K hK; go_simp; refine hK _ ?_; clear hK K
    have HV := Lib.hid (fm_bad HR.out.symm)
    go_upto_region 2 with (fail)
    apply wp_region_lit
    (with_reducible refine wl_k ?_ ?_); exact rfl; intro K hK; go_simp; refine hK _ ?_; clear hK K
    (with_reducible refine wl_k ?_ ?_); exact rfl; intro K hK; go_simp; refine hK _ ?_; clear hK K
    go_wp2_with fail
    go_ret2
    exact ⟨by rw [HV.out]; rfl, hb⟩
  | true =>
    (with_reducible refine wl_k ?_ ?_); exact rfl; intro K hK; go_simp; refine hK _ ?_; clear hK K
    obtain ⟨k0, hk0⟩ : ∃ n : Nat, k = (n : Int) := ⟨k.toNat, by have := (okD_iff.1 HR.out.symm).2.2.1; omega⟩
    subst hk0
    obtain ⟨n1, n2, -, n4⟩ := okD_iff.1 HR.out.symm
    have HO := Lib.hid (show okD u k0 = true from HR.out.symm)
    obtain ⟨m, hm⟩ : ∃ m : ByteArray, m = ⟨(Lib.itoa u).toArray⟩ := ⟨_, rfl⟩
    have HM : Hid (m.data.toList = Lib.itoa u) := Lib.hid (by rw [hm])
    have hit := Itoa_any u (by omega) (by omega) w4 (HTB.out.old hb)
    rw [← hm] at hit
    have HI := Lib.hid hit
    clear hit hm
    go_upto_region 3 with (fail)
    apply wp_region_lit
    (with_reducible refine wl_k ?_ ?_); exact rfl; intro K hK; go_simp; refine hK _ ?_; clear hK K
    ((with_reducible apply wl_oneG); exact rfl; exact rfl; exact fD0 hp)
    (with_reducible refine wl_ck ?_ ?_); exact rfl; intro K hK; go_simp; refine ⟨_, _, ⟨rfl, rfl⟩, hK _ _ ⟨_, HI.out, ?_⟩⟩; clear hK K; rintro e w5 ⟨rfl, hb5⟩; refine ⟨_, rfl, ?_⟩; simp only [put_lit, List.set_cons_zero, List.set_cons_succ]
    replace hp := below_look hb5 hp; replace hb := hb.trans (hb5.mono hb.size); clear hb5
    clear HI
    (with_reducible refine wl_k ?_ ?_); exact rfl; intro K hK; go_simp; refine hK _ ?_; clear hK K
    (with_reducible refine wl_k ?_ ?_); exact rfl; intro K hK; go_simp; refine hK _ ?_; clear hK K
    go_upto_region 4 with (fail)
    by_cases hu : u < 0
    · apply wp_region_lit
      (with_reducible refine wl_k ?_ ?_); exact rfl; intro K hK; go_simp; refine hK _ ?_; clear hK K
      ((with_reducible apply wl_oneG); exact rfl; exact rfl; exact fD0 hp)
      (with_reducible refine wl_k ?_ ?_); exact rfl; intro K hK; go_simp; refine hK _ ?_; clear hK K
      obtain ⟨hm1, hm2⟩ := itoa_tail hu HM.out
      have hmI : (1 : Int) ≤ (m.size : Int) := by omega
      have HS := Lib.hid (sg_neg hu)
      go_upto_region 5 with (fail)
      refine wp_region_belowAll mixed (by kernel_rfl) ?_
      (with_reducible refine wq_k ?_ ?_); exact rfl; intro K hK; go_simp; (with_reducible refine hK _ ?_); clear hK K
      (with_reducible refine wq_k ?_ ?_); exact rfl; intro K hK; go_simp; (with_reducible refine hK _ ?_); clear hK K
      (with_reducible refine wq_k ?_ ?_); exact rfl; intro K hK; go_simp; (with_reducible refine hK _ ?_); clear hK K
      (with_reducible refine wq_k ?_ ?_); exact rfl; intro K hK; go_simp; (with_reducible refine hK _ ?_); clear hK K
      intro w' hw'
      replace hp := below_look hw' hp
      replace hb := hb.trans (hw'.mono hb.size)
      have HW := Lib.hid hm2
      clear hm2 HM hw' hmI hm1
      go_wp2_with fail
      go_loopw [5] (fun v wr => ∃ m' : ByteArray, v = .string m' ∧ Hid (PadS m' k0 (Lib.decDigits u.natAbs)) ∧ wr.heap[p]? = some (.cells (dc u (k0 : Int)) 25 (0, 0)) ∧ Below w.heap.size w wr) (fun v _ => k0 + 1 - strSz v)
      case atStart => exact ⟨_, rfl, Lib.hid (PadS.start k0 HW.out), hp, hb⟩
      case round =>
        clear hp hb HW
        obtain ⟨m', rfl, HPD, hp, hb⟩ := hrel
        have hsz := HPD.out.bound n4 (digs18 n1 n2)
        have hc0 : ¬ 9223372036854775807 < m'.size := by omega
        have hc1 : ¬ 9223372036854775807 < 1 + m'.size := by omega
        go_upto_region 6 with (fail)
        by_cases hle : m'.size ≤ k0
        · have hleI : (m'.size : Int) ≤ (k0 : Int) := by omega
          apply wp_region_lit
          (with_reducible refine wl_k ?_ ?_); exact rfl; intro K hK; go_simp; refine hK _ ?_; clear hK K
          (with_reducible refine wl_k ?_ ?_); exact rfl; intro K hK; go_simp; refine hK _ ?_; clear hK K
          (with_reducible refine wl_k ?_ ?_); exact rfl; intro K hK; go_simp; refine hK _ ?_; clear hK K
          ((with_reducible apply wl_oneG); exact rfl; exact rfl; exact fD1 hp)
          (with_reducible refine wl_k ?_ ?_); exact rfl; intro K hK; go_simp; refine hK _ ?_; clear hK K
          have HN := Lib.hid (HPD.out.step hle)
          have HMS : Hid (k0 + 1 - ((⟨#[48]⟩ : ByteArray) ++ m').size < k0 + 1 - m'.size) := Lib.hid (by rw [ByteArray.size_append]; show k0 + 1 - (1 + m'.size) < _; omega)
          go_upto_region 7 with (fail)
          apply wp_region_lit
          (with_reducible refine wl_k ?_ ?_); exact rfl; intro K hK; go_simp; refine hK _ ?_; clear hK K
          (with_reducible refine wl_k ?_ ?_); exact rfl; intro K hK; go_simp; refine hK _ ?_; clear hK K
          (with_reducible refine wl_k ?_ ?_); exact rfl; intro K hK; go_simp; refine hK _ ?_; clear hK K
          go_wp2_with fail
          go_roundw
          case rel => exact ⟨_, rfl, HN, hp, hb⟩
          case measure => exact HMS.out
        · have hleI : ¬ (m'.size : Int) ≤ (k0 : Int) := by omega
          apply wp_region_lit
          (with_reducible refine wl_k ?_ ?_); exact rfl; intro K hK; go_simp; refine hK _ ?_; clear hK K
          (with_reducible refine wl_k ?_ ?_); exact rfl; intro K hK; go_simp; refine hK _ ?_; clear hK K
          (with_reducible refine wl_k ?_ ?_); exact rfl; intro K hK; go_simp; refine hK _ ?_; clear hK K
          ((with_reducible apply wl_oneG); exact rfl; exact rfl; exact fD1 hp)
          (with_reducible refine wl_k ?_ ?_); exact rfl; intro K hK; go_simp; refine hK _ ?_; clear hK K
          have HD : Hid (m'.data.toList = padW k0 (Lib.decDigits u.natAbs)) := Lib.hid (HPD.out.done hle)
          clear HPD
          go_upto_region 8 with (fail)
          by_cases h0 : k0 = 0
          · have h0I : (k0 : Int) = 0 := by omega
            apply wp_region_lit
            (with_reducible refine wl_k ?_ ?_); exact rfl; intro K hK; go_simp; refine hK _ ?_; clear hK K
            ((with_reducible apply wl_oneG); exact rfl; exact rfl; exact fD1 hp)
            (with_reducible refine wl_k ?_ ?_); exact rfl; intro K hK; go_simp; refine hK _ ?_; clear hK K
            go_upto_region 9 with (fail)
            apply wp_region_lit
            (with_reducible refine wl_k ?_ ?_); exact rfl; intro K hK; go_simp; refine hK _ ?_; clear hK K
            (with_reducible refine wl_k ?_ ?_); exact rfl; intro K hK; go_simp; refine hK _ ?_; clear hK K
            (with_reducible refine wl_k ?_ ?_); exact rfl; intro K hK; go_simp; refine hK _ ?_; clear hK K
            (with_reducible refine wl_k ?_ ?_); exact rfl; intro K hK; go_simp; refine hK _ ?_; clear hK K
            (with_reducible refine wl_k ?_ ?_); exact rfl; intro K hK; go_simp; refine hK _ ?_; clear hK K
            have HV := Lib.hid (fm_good0 h0 HO.out (m := (⟨#[45]⟩ : ByteArray) ++ m') (fmt0 h0 HS.out HD.out))
            go_wp2_with fail
            go_ret2
            exact ⟨by rw [HV.out]; rfl, hb⟩
          · have h0I : ¬ (k0 : Int) = 0 := by omega
            apply wp_region_lit
            (with_reducible refine wl_k ?_ ?_); exact rfl; intro K hK; go_simp; refine hK _ ?_; clear hK K
            ((with_reducible apply wl_oneG); exact rfl; exact rfl; exact fD1 hp)
            (with_reducible refine wl_k ?_ ?_); exact rfl; intro K hK; go_simp; refine hK _ ?_; clear hK K
            go_upto_region 10 with (fail)
            obtain ⟨n, hn⟩ : ∃ n, m'.size = n + k0 := ⟨m'.size - k0, by omega⟩
            have hwq : IntKind.i64.wrap ((m'.size : Int) - (k0 : Int)) = (n : Int) := by rw [hn]; rw [IntWalk.i64_in _ (by omega)]; omega
            have hnI : (n : Int) ≤ (m'.size : Int) := by omega
            have HNN := Lib.hid hn
            clear hn
            apply wp_region_lit
            (with_reducible refine wl_k ?_ ?_); exact rfl; intro K hK; go_simp; refine hK _ ?_; clear hK K
            (with_reducible refine wl_k ?_ ?_); exact rfl; intro K hK; go_simp; refine hK _ ?_; clear hK K
            (with_reducible refine wl_k ?_ ?_); exact rfl; intro K hK; go_simp; refine hK _ ?_; clear hK K
            ((with_reducible apply wl_oneG); exact rfl; exact rfl; exact fD1 hp)
            (with_reducible refine wl_k ?_ ?_); exact rfl; intro K hK; go_simp; refine hK _ ?_; clear hK K
            (with_reducible refine wl_k ?_ ?_); exact rfl; intro K hK; go_simp; refine hK _ ?_; clear hK K
            go_upto_region 11 with (fail)
            refine wp_region_belowAll mixed (by kernel_rfl) ?_
            (with_reducible refine wq_k ?_ ?_); exact rfl; intro K hK; go_simp; (with_reducible refine hK _ ?_); clear hK K
            (with_reducible refine wq_k ?_ ?_); exact rfl; intro K hK; go_simp; (with_reducible refine hK _ ?_); clear hK K
            (with_reducible refine wq_k ?_ ?_); exact rfl; intro K hK; go_simp; (with_reducible refine hK _ ?_); clear hK K
            (with_reducible refine wq_k ?_ ?_); exact rfl; intro K hK; go_simp; (with_reducible refine hK _ ?_); clear hK K
            (with_reducible refine wq_k ?_ ?_); exact rfl; intro K hK; go_simp; (first | (with_reducible refine hK _ ?_) | (refine ⟨_, fun w => if_neg (by omega), hK _ ?_⟩)); clear hK K
            (with_reducible refine wq_k ?_ ?_); exact rfl; intro K hK; go_simp; (first | (with_reducible refine hK _ ?_) | (refine ⟨_, fun w => if_neg (by omega), hK _ ?_⟩)); clear hK K
            (with_reducible refine wq_k ?_ ?_); exact rfl; intro K hK; go_simp; (with_reducible refine hK _ ?_); clear hK K
            (with_reducible refine wq_k ?_ ?_); exact rfl; intro K hK; go_simp; (with_reducible refine hK _ ?_); clear hK K
            (with_reducible refine wq_k ?_ ?_); exact rfl; intro K hK; go_simp; (with_reducible refine hK _ ?_); clear hK K
            (with_reducible refine wq_k ?_ ?_); exact rfl; intro K hK; go_simp; (first | (with_reducible refine hK _ ?_) | (refine ⟨_, fun w => if_neg (by omega), hK _ ?_⟩)); clear hK K
            (with_reducible refine wq_k ?_ ?_); exact rfl; intro K hK; go_simp; (with_reducible refine hK _ ?_); clear hK K
            (with_reducible refine wq_k ?_ ?_); exact rfl; intro K hK; go_simp; (with_reducible refine hK _ ?_); clear hK K
            intro w' hw'
            replace hb := hb.trans (hw'.mono hb.size)
            have HV := Lib.hid (fm_goodN HO.out (fmt1 (sg := (⟨#[45]⟩ : ByteArray)) h0 HS.out HD.out HNN.out))
            go_wp2_with fail
            go_ret2
            exact ⟨by rw [HV.out]; rfl, hb⟩
    · apply wp_region_lit
      (with_reducible refine wl_k ?_ ?_); exact rfl; intro K hK; go_simp; refine hK _ ?_; clear hK K
      ((with_reducible apply wl_oneG); exact rfl; exact rfl; exact fD0 hp)
      (with_reducible refine wl_k ?_ ?_); exact rfl; intro K hK; go_simp; refine hK _ ?_; clear hK K
      have HS := Lib.hid (sg_pos hu)
      have HW := Lib.hid (itoa_pos hu HM.out)
      clear HM
      go_wp2_with fail
      go_loopw [5] (fun v wr => ∃ m' : ByteArray, v = .string m' ∧ Hid (PadS m' k0 (Lib.decDigits u.natAbs)) ∧ wr.heap[p]? = some (.cells (dc u (k0 : Int)) 25 (0, 0)) ∧ Below w.heap.size w wr) (fun v _ => k0 + 1 - strSz v)
      case atStart => exact ⟨_, rfl, Lib.hid (PadS.start k0 HW.out), hp, hb⟩
      case round =>
        clear hp hb HW
        obtain ⟨m', rfl, HPD, hp, hb⟩ := hrel
        have hsz := HPD.out.bound n4 (digs18 n1 n2)
        have hc0 : ¬ 9223372036854775807 < m'.size := by omega
        have hc1 : ¬ 9223372036854775807 < 1 + m'.size := by omega
        go_upto_region 6 with (fail)
        by_cases hle : m'.size ≤ k0
        · have hleI : (m'.size : Int) ≤ (k0 : Int) := by omega
          apply wp_region_lit
          (with_reducible refine wl_k ?_ ?_); exact rfl; intro K hK; go_simp; refine hK _ ?_; clear hK K
          (with_reducible refine wl_k ?_ ?_); exact rfl; intro K hK; go_simp; refine hK _ ?_; clear hK K
          (with_reducible refine wl_k ?_ ?_); exact rfl; intro K hK; go_simp; refine hK _ ?_; clear hK K
          ((with_reducible apply wl_oneG); exact rfl; exact rfl; exact fD1 hp)
          (with_reducible refine wl_k ?_ ?_); exact rfl; intro K hK; go_simp; refine hK _ ?_; clear hK K
          have HN := Lib.hid (HPD.out.step hle)
          have HMS : Hid (k0 + 1 - ((⟨#[48]⟩ : ByteArray) ++ m').size < k0 + 1 - m'.size) := Lib.hid (by rw [ByteArray.size_append]; show k0 + 1 - (1 + m'.size) < _; omega)
          go_upto_region 7 with (fail)
          apply wp_region_lit
          (with_reducible refine wl_k ?_ ?_); exact rfl; intro K hK; go_simp; refine hK _ ?_; clear hK K
          (with_reducible refine wl_k ?_ ?_); exact rfl; intro K hK; go_simp; refine hK _ ?_; clear hK K
          (with_reducible refine wl_k ?_ ?_); exact rfl; intro K hK; go_simp; refine hK _ ?_; clear hK K
          go_wp2_with fail
          go_roundw
          case rel => exact ⟨_, rfl, HN, hp, hb⟩
          case measure => exact HMS.out
        · have hleI : ¬ (m'.size : Int) ≤ (k0 : Int) := by omega
          apply wp_region_lit
          (with_reducible refine wl_k ?_ ?_); exact rfl; intro K hK; go_simp; refine hK _ ?_; clear hK K
          (with_reducible refine wl_k ?_ ?_); exact rfl; intro K hK; go_simp; refine hK _ ?_; clear hK K
          (with_reducible refine wl_k ?_ ?_); exact rfl; intro K hK; go_simp; refine hK _ ?_; clear hK K
          ((with_reducible apply wl_oneG); exact rfl; exact rfl; exact fD1 hp)
          (with_reducible refine wl_k ?_ ?_); exact rfl; intro K hK; go_simp; refine hK _ ?_; clear hK K
          have HD : Hid (m'.data.toList = padW k0 (Lib.decDigits u.natAbs)) := Lib.hid (HPD.out.done hle)
          clear HPD
          go_upto_region 8 with (fail)
          by_cases h0 : k0 = 0
          · have h0I : (k0 : Int) = 0 := by omega
            apply wp_region_lit
            (with_reducible refine wl_k ?_ ?_); exact rfl; intro K hK; go_simp; refine hK _ ?_; clear hK K
            ((with_reducible apply wl_oneG); exact rfl; exact rfl; exact fD1 hp)
            (with_reducible refine wl_k ?_ ?_); exact rfl; intro K hK; go_simp; refine hK _ ?_; clear hK K
            go_upto_region 9 with (fail)
            apply wp_region_lit
            (with_reducible refine wl_k ?_ ?_); exact rfl; intro K hK; go_simp; refine hK _ ?_; clear hK K
            (with_reducible refine wl_k ?_ ?_); exact rfl; intro K hK; go_simp; refine hK _ ?_; clear hK K
            (with_reducible refine wl_k ?_ ?_); exact rfl; intro K hK; go_simp; refine hK _ ?_; clear hK K
            (with_reducible refine wl_k ?_ ?_); exact rfl; intro K hK; go_simp; refine hK _ ?_; clear hK K
            (with_reducible refine wl_k ?_ ?_); exact rfl; intro K hK; go_simp; refine hK _ ?_; clear hK K
            have HV := Lib.hid (fm_good0 h0 HO.out (m := (⟨#[]⟩ : ByteArray) ++ m') (fmt0 h0 HS.out HD.out))
            go_wp2_with fail
            go_ret2
            exact ⟨by rw [HV.out]; rfl, hb⟩
          · have h0I : ¬ (k0 : Int) = 0 := by omega
            apply wp_region_lit
            (with_reducible refine wl_k ?_ ?_); exact rfl; intro K hK; go_simp; refine hK _ ?_; clear hK K
            ((with_reducible apply wl_oneG); exact rfl; exact rfl; exact fD1 hp)
            (with_reducible refine wl_k ?_ ?_); exact rfl; intro K hK; go_simp; refine hK _ ?_; clear hK K
            go_upto_region 10 with (fail)
            obtain ⟨n, hn⟩ : ∃ n, m'.size = n + k0 := ⟨m'.size - k0, by omega⟩
            have hwq : IntKind.i64.wrap ((m'.size : Int) - (k0 : Int)) = (n : Int) := by rw [hn]; rw [IntWalk.i64_in _ (by omega)]; omega
            have hnI : (n : Int) ≤ (m'.size : Int) := by omega
            have HNN := Lib.hid hn
            clear hn
            apply wp_region_lit
            (with_reducible refine wl_k ?_ ?_); exact rfl; intro K hK; go_simp; refine hK _ ?_; clear hK K
            (with_reducible refine wl_k ?_ ?_); exact rfl; intro K hK; go_simp; refine hK _ ?_; clear hK K
            (with_reducible refine wl_k ?_ ?_); exact rfl; intro K hK; go_simp; refine hK _ ?_; clear hK K
            ((with_reducible apply wl_oneG); exact rfl; exact rfl; exact fD1 hp)
            (with_reducible refine wl_k ?_ ?_); exact rfl; intro K hK; go_simp; refine hK _ ?_; clear hK K
            (with_reducible refine wl_k ?_ ?_); exact rfl; intro K hK; go_simp; refine hK _ ?_; clear hK K
            go_upto_region 11 with (fail)
            refine wp_region_belowAll mixed (by kernel_rfl) ?_
            (with_reducible refine wq_k ?_ ?_); exact rfl; intro K hK; go_simp; (with_reducible refine hK _ ?_); clear hK K
            (with_reducible refine wq_k ?_ ?_); exact rfl; intro K hK; go_simp; (with_reducible refine hK _ ?_); clear hK K
            (with_reducible refine wq_k ?_ ?_); exact rfl; intro K hK; go_simp; (with_reducible refine hK _ ?_); clear hK K
            (with_reducible refine wq_k ?_ ?_); exact rfl; intro K hK; go_simp; (with_reducible refine hK _ ?_); clear hK K
            (with_reducible refine wq_k ?_ ?_); exact rfl; intro K hK; go_simp; (first | (with_reducible refine hK _ ?_) | (refine ⟨_, fun w => if_neg (by omega), hK _ ?_⟩)); clear hK K
            (with_reducible refine wq_k ?_ ?_); exact rfl; intro K hK; go_simp; (first | (with_reducible refine hK _ ?_) | (refine ⟨_, fun w => if_neg (by omega), hK _ ?_⟩)); clear hK K
            (with_reducible refine wq_k ?_ ?_); exact rfl; intro K hK; go_simp; (with_reducible refine hK _ ?_); clear hK K
            (with_reducible refine wq_k ?_ ?_); exact rfl; intro K hK; go_simp; (with_reducible refine hK _ ?_); clear hK K
            (with_reducible refine wq_k ?_ ?_); exact rfl; intro K hK; go_simp; (with_reducible refine hK _ ?_); clear hK K
            (with_reducible refine wq_k ?_ ?_); exact rfl; intro K hK; go_simp; (first | (with_reducible refine hK _ ?_) | (refine ⟨_, fun w => if_neg (by omega), hK _ ?_⟩)); clear hK K
            (with_reducible refine wq_k ?_ ?_); exact rfl; intro K hK; go_simp; (with_reducible refine hK _ ?_); clear hK K
            (with_reducible refine wq_k ?_ ?_); exact rfl; intro K hK; go_simp; (with_reducible refine hK _ ?_); clear hK K
            intro w' hw'
            replace hb := hb.trans (hw'.mono hb.size)
            have HV := Lib.hid (fm_goodN HO.out (fmt1 (sg := (⟨#[]⟩ : ByteArray)) h0 HS.out HD.out HNN.out))
            go_wp2_with fail
            go_ret2
            exact ⟨by rw [HV.out]; rfl, hb⟩
end Go.Proofs.YtclainfdeghgnaaGreatDoor
namespace Go.Proofs.YtclainfdeghgnaaGreatDoor
open Go.ChangeShapes Go.WideShapes Go.ChangeAt Go.RowKit
theorem own0 : ownKnob Tryz.prog.godebug = none := by kernel_rfl
theorem row_u9 : Tryz.prog.underlying 9 = some .string := by kernel_rfl
theorem row_u4 : Tryz.prog.underlying 4 = some .bool := by kernel_rfl
theorem laidOut0 : laidOutB Tryz.prog = true := by kernel_rfl
section
variable {H : Type} {enc : TypeId × Value → H} {w : World} {base b0 : Nat} {sp : Nat → Bool} {held : Bool} {r : Reach} {v : Value} {d : DataW H} {p : List MemPlace}
end
theorem gT : Tryz.prog.globalNamed "internal/strconv.uint64pow10" = some 3 := by kernel_rfl
theorem gTType : (Tryz.prog.globals[3]?).map (·.type) = some 149 := by kernel_rfl
theorem u135 : Tryz.prog.underlying 149 = some (.array 20 86) := by kernel_rfl
theorem u55 : Tryz.prog.underlying 86 = some (.int .u64) := by kernel_rfl
theorem cells55 : Tryz.prog.cellsOf 86 = 1 := by kernel_rfl
theorem cells135 : Tryz.prog.cellsOf 149 = 20 := by kernel_rfl
end Go.Proofs.YtclainfdeghgnaaGreatDoor
namespace Go.Proofs
open Go.Shelf Go.RowKit Go.Lib
def Tryz.laysC172_ren : Go.Shelf.Ren := ⟨fun | 172 => 11 | 244 => 33 | 245 => 34 | 247 => 65 | 279 => 66 | 280 => 67 | 281 => 68 | 282 => 69 | 287 => 89 | 316 => 90 | 171 => 36 | 205 => 91 | 321 => 99 | 322 => 100 | 243 => 73 | 246 => 93 | 283 => 101 | 284 => 102 | 285 => 103 | 286 => 104 | 129 => 107 | 317 => 106 | 318 => 108 | 319 => 109 | 320 => 110 | 337 => 111 | 338 => 112 | n => n, fun | 9 => 9 | 3 => 3 | 75 => 35 | 76 => 36 | 4 => 4 | 5 => 5 | 167 => 103 | 37 => 94 | 0 => 0 | 85 => 104 | 2 => 2 | 168 => 106 | 53 => 86 | 175 => 125 | 46 => 114 | 210 => 129 | 127 => 121 | 145 => 141 | 143 => 139 | 21 => 21 | 171 => 142 | 173 => 145 | 212 => 149 | 51 => 113 | 20 => 20 | 213 => 150 | 232 => 154 | 233 => 54 | 80 => 63 | n => n, fun | 15 => 1 | 16 => 2 | 17 => 3 | 18 => 4 | 19 => 5 | n => n⟩
theorem Tryz.laysC172 : Go.Proofs.LaysC.n172 Tryz.prog Tryz.laysC172_ren := {
  mixed := by kernel_rfl
  f129 := Tryz.func107.trans (congrArg some (by kernel_rfl))
  f171 := Tryz.func36.trans (congrArg some (by kernel_rfl))
  f172 := Tryz.func11.trans (congrArg some (by kernel_rfl))
  f205 := Tryz.func91.trans (congrArg some (by kernel_rfl))
  f243 := Tryz.func73.trans (congrArg some (by kernel_rfl))
  f244 := Tryz.func33.trans (congrArg some (by kernel_rfl))
  f245 := Tryz.func34.trans (congrArg some (by kernel_rfl))
  f246 := Tryz.func93.trans (congrArg some (by kernel_rfl))
  f247 := Tryz.func65.trans (congrArg some (by kernel_rfl))
  f279 := Tryz.func66.trans (congrArg some (by kernel_rfl))
  f280 := Tryz.func67.trans (congrArg some (by kernel_rfl))
  f281 := Tryz.func68.trans (congrArg some (by kernel_rfl))
  f282 := Tryz.func69.trans (congrArg some (by kernel_rfl))
  f283 := Tryz.func101.trans (congrArg some (by kernel_rfl))
  f284 := Tryz.func102.trans (congrArg some (by kernel_rfl))
  f285 := Tryz.func103.trans (congrArg some (by kernel_rfl))
  f286 := Tryz.func104.trans (congrArg some (by kernel_rfl))
  f287 := Tryz.func89.trans (congrArg some (by kernel_rfl))
  f316 := Tryz.func90.trans (congrArg some (by kernel_rfl))
  f317 := Tryz.func106.trans (congrArg some (by kernel_rfl))
  f318 := Tryz.func108.trans (congrArg some (by kernel_rfl))
  f319 := Tryz.func109.trans (congrArg some (by kernel_rfl))
  f320 := Tryz.func110.trans (congrArg some (by kernel_rfl))
  f321 := Tryz.func99.trans (congrArg some (by kernel_rfl))
  f322 := Tryz.func100.trans (congrArg some (by kernel_rfl))
  f337 := Tryz.func111.trans (congrArg some (by kernel_rfl))
  f338 := Tryz.func112.trans (congrArg some (by kernel_rfl))
  t0 := Tryz.underlying0
  a0 := Tryz.isAgg0
  z0 := Tryz.sizeOf0
  v0 := Tryz.zeroValue0
  t2 := Tryz.underlying2
  a2 := Tryz.isAgg2
  z2 := Tryz.sizeOf2
  v2 := Tryz.zeroValue2
  t3 := Tryz.underlying3
  a3 := Tryz.isAgg3
  z3 := Tryz.sizeOf3
  v3 := Tryz.zeroValue3
  t4 := Tryz.underlying4
  a4 := Tryz.isAgg4
  z4 := Tryz.sizeOf4
  v4 := Tryz.zeroValue4
  t5 := Tryz.underlying5
  a5 := Tryz.isAgg5
  z5 := Tryz.sizeOf5
  v5 := Tryz.zeroValue5
  t9 := Tryz.underlying9
  a9 := Tryz.isAgg9
  z9 := Tryz.sizeOf9
  v9 := Tryz.zeroValue9
  t20 := Tryz.underlying20
  a20 := Tryz.isAgg20
  z20 := Tryz.sizeOf20
  v20 := Tryz.zeroValue20
  t21 := Tryz.underlying21
  a21 := Tryz.isAgg21
  z21 := Tryz.sizeOf21
  v21 := Tryz.zeroValue21
  t37 := Tryz.underlying94
  a37 := Tryz.isAgg94
  z37 := Tryz.sizeOf94
  v37 := Tryz.zeroValue94
  t46 := Tryz.underlying114
  a46 := Tryz.isAgg114
  z46 := Tryz.sizeOf114
  v46 := Tryz.zeroValue114
  t51 := Tryz.underlying113
  a51 := Tryz.isAgg113
  z51 := Tryz.sizeOf113
  v51 := Tryz.zeroValue113
  t53 := Tryz.underlying86
  a53 := Tryz.isAgg86
  z53 := Tryz.sizeOf86
  v53 := Tryz.zeroValue86
  t75 := Tryz.underlying35
  a75 := Tryz.isAgg35
  z75 := Tryz.sizeOf35
  v75 := Tryz.zeroValue35
  t76 := Tryz.underlying36
  a76 := Tryz.isAgg36
  z76 := Tryz.sizeOf36
  v76 := Tryz.zeroValue36
  t85 := Tryz.underlying104
  a85 := Tryz.isAgg104
  z85 := Tryz.sizeOf104
  v85 := Tryz.zeroValue104
  t127 := Tryz.underlying121
  a127 := Tryz.isAgg121
  z127 := Tryz.sizeOf121
  v127 := Tryz.zeroValue121
  t143 := Tryz.underlying139
  a143 := Tryz.isAgg139
  z143 := Tryz.sizeOf139
  v143 := Tryz.zeroValue139
  t145 := Tryz.underlying141
  a145 := Tryz.isAgg141
  z145 := Tryz.sizeOf141
  v145 := Tryz.zeroValue141
  t167 := Tryz.underlying103
  a167 := Tryz.isAgg103
  z167 := Tryz.sizeOf103
  v167 := Tryz.zeroValue103
  t168 := Tryz.underlying106
  a168 := Tryz.isAgg106
  z168 := Tryz.sizeOf106
  v168 := Tryz.zeroValue106
  t171 := Tryz.underlying142
  a171 := Tryz.isAgg142
  z171 := Tryz.sizeOf142
  v171 := Tryz.zeroValue142
  t173 := Tryz.underlying145
  a173 := Tryz.isAgg145
  z173 := Tryz.sizeOf145
  v173 := Tryz.zeroValue145
  t175 := Tryz.underlying125
  a175 := Tryz.isAgg125
  z175 := Tryz.sizeOf125
  v175 := Tryz.zeroValue125
  t210 := Tryz.underlying129
  a210 := Tryz.isAgg129
  z210 := Tryz.sizeOf129
  v210 := Tryz.zeroValue129
  t212 := Tryz.underlying149
  a212 := Tryz.isAgg149
  z212 := Tryz.sizeOf149
  v212 := Tryz.zeroValue149
  t213 := Tryz.underlying150
  a213 := Tryz.isAgg150
  z213 := Tryz.sizeOf150
  t232 := Tryz.underlying154
  a232 := Tryz.isAgg154
  z232 := Tryz.sizeOf154
  v232 := Tryz.zeroValue154
  t233 := Tryz.underlying54
  a233 := Tryz.isAgg54
  z233 := Tryz.sizeOf54
  v233 := Tryz.zeroValue54
  g15 := by kernel_rfl
  g16 := by kernel_rfl
  g17 := by kernel_rfl
  g18 := by kernel_rfl
  g19 := by kernel_rfl
  t80 := Tryz.underlying63
  a80 := Tryz.isAgg63
  z80 := Tryz.sizeOf63
  v80 := Tryz.zeroValue63
  i0 := by kernel_rfl
  i2 := by kernel_rfl
  i3 := by kernel_rfl
  i4 := by kernel_rfl
  i5 := by kernel_rfl
  i9 := by kernel_rfl
  i20 := by kernel_rfl
  i21 := by kernel_rfl
  i37 := by kernel_rfl
  i46 := by kernel_rfl
  i51 := by kernel_rfl
  i53 := by kernel_rfl
  i75 := by kernel_rfl
  i76 := by kernel_rfl
  i80 := by kernel_rfl
  i85 := by kernel_rfl
  i127 := by kernel_rfl
  i143 := by kernel_rfl
  i145 := by kernel_rfl
  i167 := by kernel_rfl
  i168 := by kernel_rfl
  i171 := by kernel_rfl
  i173 := by kernel_rfl
  i175 := by kernel_rfl
  i210 := by kernel_rfl
  i212 := by kernel_rfl
  i232 := by kernel_rfl
  i233 := by kernel_rfl
  m15 := by kernel_rfl
  m16 := by kernel_rfl
  m17 := by kernel_rfl
  m18 := by kernel_rfl
  m19 := by kernel_rfl
  c0 := by kernel_rfl
  c2 := by kernel_rfl
  c3 := by kernel_rfl
  c4 := by kernel_rfl
  c5 := by kernel_rfl
  c9 := by kernel_rfl
  c20 := by kernel_rfl
  c21 := by kernel_rfl
  c37 := by kernel_rfl
  c46 := by kernel_rfl
  c51 := by kernel_rfl
  c53 := by kernel_rfl
  c75 := by kernel_rfl
  c76 := by kernel_rfl
  c80 := by kernel_rfl
  c85 := by kernel_rfl
  c127 := by kernel_rfl
  c143 := by kernel_rfl
  c145 := by kernel_rfl
  c167 := by kernel_rfl
  c168 := by kernel_rfl
  c171 := by kernel_rfl
  c173 := by kernel_rfl
  c175 := by kernel_rfl
  c210 := by kernel_rfl
  c212 := by kernel_rfl
  c213 := by kernel_rfl
  c232 := by kernel_rfl
  c233 := by kernel_rfl }
theorem Tryz.strconv_Atoi_ok (s : ByteArray) (hmax : s.size ≤ 9223372036854775806) (v : Int) (h : Lib.atoiAll s.data.toList = .ok v) (w : World) :
    Calls Tryz.prog 11 #[.string s] w fun e w' => e = .returned (.tuple #[.int .i64 v, .nilIface]) ∧ (w' = w ∨ ∃ t, w' = Lib.bytesWorld w 5 t) := Any.strconv_Atoi_ok Tryz.laysC172 s hmax v h w
theorem Tryz.strconv_Atoi_syntax (s : ByteArray) (hlim : s.size ≤ 281474976710656) (h : Lib.atoiAll s.data.toList = Lib.NumEnd.syntax) (ev : Value) (w : World) (hv : w.cell? ⟨1, 0, none⟩ = some ev) (hev : ev = .nilIface ∨ ∃ te pe, ev = .iface te pe) :
    Calls Tryz.prog 11 #[.string s] w fun e w' => ∃ N, e = .returned (.tuple #[.int .i64 (0), .iface 106 (.pointer (some ⟨N, 0, none⟩))]) ∧ w.heap.size ≤ N ∧ w'.heap[N]? = some (.cells #[.string ⟨#[65, 116, 111, 105]⟩, .string s, ev] 129 (0, 0)) ∧ Below w.heap.size w w' := Any.strconv_Atoi_syntax Tryz.laysC172 s hlim h ev w hv hev
theorem Tryz.strconv_Atoi_range (s : ByteArray) (hlim : s.size ≤ 281474976710656) (h : Lib.atoiAll s.data.toList = .range) (ev : Value) (w : World) (hv : w.cell? ⟨2, 0, none⟩ = some ev) (hev : ev = .nilIface ∨ ∃ te pe, ev = .iface te pe) :
    Calls Tryz.prog 11 #[.string s] w fun e w' => ∃ N, e = .returned (.tuple #[.int .i64 (Lib.atoiSat s.data.toList), .iface 106 (.pointer (some ⟨N, 0, none⟩))]) ∧ w.heap.size ≤ N ∧ w'.heap[N]? = some (.cells #[.string ⟨#[65, 116, 111, 105]⟩, .string s, ev] 129 (0, 0)) ∧ Below w.heap.size w w' := Any.strconv_Atoi_range Tryz.laysC172 s hlim h ev w hv hev
def Tryz.lays145_ren : Go.Shelf.Ren := ⟨fun | 145 => 10 | 220 => 32 | 219 => 64 | 217 => 85 | 225 => 86 | 224 => 87 | 267 => 88 | 266 => 97 | 314 => 98 | n => n, fun | 9 => 9 | 4 => 4 | 59 => 32 | 3 => 3 | 5 => 5 | 46 => 114 | 146 => 136 | 51 => 113 | n => n, fun | 1 => 0 | n => n⟩
theorem Tryz.lays145 : Go.Proofs.Lays.n145 Tryz.prog Tryz.lays145_ren := {
  mixed := by kernel_rfl
  f145 := Tryz.func10.trans (congrArg some (by kernel_rfl))
  f217 := Tryz.func85.trans (congrArg some (by kernel_rfl))
  f219 := Tryz.func64.trans (congrArg some (by kernel_rfl))
  f220 := Tryz.func32.trans (congrArg some (by kernel_rfl))
  f224 := Tryz.func87.trans (congrArg some (by kernel_rfl))
  f225 := Tryz.func86.trans (congrArg some (by kernel_rfl))
  f266 := Tryz.func97.trans (congrArg some (by kernel_rfl))
  f267 := Tryz.func88.trans (congrArg some (by kernel_rfl))
  f314 := Tryz.func98.trans (congrArg some (by kernel_rfl))
  t3 := Tryz.underlying3
  a3 := Tryz.isAgg3
  z3 := Tryz.sizeOf3
  v3 := Tryz.zeroValue3
  t4 := Tryz.underlying4
  a4 := Tryz.isAgg4
  z4 := Tryz.sizeOf4
  v4 := Tryz.zeroValue4
  t5 := Tryz.underlying5
  a5 := Tryz.isAgg5
  z5 := Tryz.sizeOf5
  v5 := Tryz.zeroValue5
  t9 := Tryz.underlying9
  a9 := Tryz.isAgg9
  z9 := Tryz.sizeOf9
  v9 := Tryz.zeroValue9
  t46 := Tryz.underlying114
  a46 := Tryz.isAgg114
  z46 := Tryz.sizeOf114
  v46 := Tryz.zeroValue114
  t51 := Tryz.underlying113
  a51 := Tryz.isAgg113
  z51 := Tryz.sizeOf113
  v51 := Tryz.zeroValue113
  t59 := Tryz.underlying32
  a59 := Tryz.isAgg32
  z59 := Tryz.sizeOf32
  v59 := Tryz.zeroValue32
  t146 := Tryz.underlying136
  a146 := Tryz.isAgg136
  z146 := Tryz.sizeOf136
  v146 := Tryz.zeroValue136
  g1 := by kernel_rfl }
theorem Tryz.strings_Cut (s sep : ByteArray) (m : Int) (w : World) (hs : s.size < 4294967281) (hm : w.cell? ⟨0, 0, none⟩ = some (.int .i64 m)) :
    Calls Tryz.prog 10 #[.string s, .string sep] w fun e w' => e = .returned (.tuple #[.string ⟨(Lib.cut s.data.toList sep.data.toList).1.toArray⟩, .string ⟨(Lib.cut s.data.toList sep.data.toList).2.1.toArray⟩, .bool (Lib.cut s.data.toList sep.data.toList).2.2]) ∧ ∃ n, w' = w.drewN n := Any.strings_Cut Tryz.lays145 s sep m w hs hm
def Tryz.laysM145_ren : Go.Shelf.Ren := ⟨fun | 145 => 10 | 220 => 32 | 219 => 64 | 217 => 85 | 225 => 86 | 224 => 87 | 267 => 88 | 266 => 97 | 314 => 98 | n => n, fun | 9 => 9 | 4 => 4 | 59 => 32 | 3 => 3 | 5 => 5 | 46 => 114 | 146 => 136 | 51 => 113 | n => n, fun | 1 => 0 | n => n⟩
theorem Tryz.laysM145 : Go.Proofs.LaysM.n145 Tryz.prog Tryz.laysM145_ren := {
  mixed := by kernel_rfl
  f145 := Tryz.func10.trans (congrArg some (by kernel_rfl))
  f217 := Tryz.func85.trans (congrArg some (by kernel_rfl))
  f219 := Tryz.func64.trans (congrArg some (by kernel_rfl))
  f220 := Tryz.func32.trans (congrArg some (by kernel_rfl))
  f224 := Tryz.func87.trans (congrArg some (by kernel_rfl))
  f225 := Tryz.func86.trans (congrArg some (by kernel_rfl))
  f266 := Tryz.func97.trans (congrArg some (by kernel_rfl))
  f267 := Tryz.func88.trans (congrArg some (by kernel_rfl))
  f314 := Tryz.func98.trans (congrArg some (by kernel_rfl))
  t3 := Tryz.underlying3
  a3 := Tryz.isAgg3
  z3 := Tryz.sizeOf3
  v3 := Tryz.zeroValue3
  t4 := Tryz.underlying4
  a4 := Tryz.isAgg4
  z4 := Tryz.sizeOf4
  v4 := Tryz.zeroValue4
  t5 := Tryz.underlying5
  a5 := Tryz.isAgg5
  z5 := Tryz.sizeOf5
  v5 := Tryz.zeroValue5
  t9 := Tryz.underlying9
  a9 := Tryz.isAgg9
  z9 := Tryz.sizeOf9
  v9 := Tryz.zeroValue9
  t46 := Tryz.underlying114
  a46 := Tryz.isAgg114
  z46 := Tryz.sizeOf114
  v46 := Tryz.zeroValue114
  t51 := Tryz.underlying113
  a51 := Tryz.isAgg113
  z51 := Tryz.sizeOf113
  v51 := Tryz.zeroValue113
  t59 := Tryz.underlying32
  a59 := Tryz.isAgg32
  z59 := Tryz.sizeOf32
  v59 := Tryz.zeroValue32
  t146 := Tryz.underlying136
  a146 := Tryz.isAgg136
  z146 := Tryz.sizeOf136
  v146 := Tryz.zeroValue136
  g1 := by kernel_rfl
  i3 := by kernel_rfl
  i4 := by kernel_rfl
  i5 := by kernel_rfl
  i9 := by kernel_rfl
  i46 := by kernel_rfl
  i51 := by kernel_rfl
  i59 := by kernel_rfl
  i146 := by kernel_rfl
  m1 := by kernel_rfl
  s1_3 := fun w h => Go.Proofs.cell_of_shapedOpen_int (zero := #[.int .i64 0]) (t := 3) h (of_decide_eq_true (by kernel_rfl)) (by kernel_rfl) rfl (by kernel_rfl) (by kernel_rfl) Tryz.underlying3 }
end Go.Proofs
