/- The law of the wrapping sums and products. -/
import Derived.Test.YtclainfdeghgnaaW33
import Derived.Test.YtclainfdeghgnaaM5
import Derived.Test.YtclainfdeghgnaaM6
import Derived.Outline
namespace Go.Proofs.Ytclainfdeghgnaa
open Go.RowKit Go.Proofs.Ytclainfdeghgnaa.Nm

set_option maxHeartbeats 400000 in
theorem long_any (m : ByteArray) (w : World) : Calls Try.prog 20 #[.string m] w fun e w' => e = .returned (.bool (decide (200 < m.size))) ∧ Below w.heap.size w w' := by
  go_enter Try.func20, Try.ntmps20
  go_wp2
  go_ret
  refine ⟨?_, Below.refl _ _⟩
  have : (decide (200 < (m.size : Int))) = decide (200 < m.size) := by
    by_cases h : 200 < m.size
    · rw [decide_eq_true h, decide_eq_true (by omega)]
    · rw [decide_eq_false h, decide_eq_false (by omega)]
  rw [← this]
  rfl
theorem info25 : (Try.prog.info? 25).map (·.size) = some 3 := by kernel_rfl
theorem u25 : Try.prog.underlying 25 = some (.struct (Try.prog.fieldsOf 25)) := by kernel_rfl
/-- A kind by value. -/
def kv (b : Int) (s : Bool) (m : ByteArray) : Array Value := #[.int .i64 b, .bool s, .string m]
theorem rowKv {w : World} {b : Nat} {n : Int} {s : Bool} {m : ByteArray} {t : TypeId} {fr : Nat × Nat} (hb : w.heap[b]? = some (.cells (kv n s m) t fr)) : RowAt w 25 ⟨b, 0, none⟩ (kv n s m) := row_mid hb (D := kv n s m) (n := 3) rfl u25 rfl rfl info25
theorem wrapped_kv {op : ByteArray} {f : Int → Int → Int} (K : Known op f) (a b md : ByteArray) (bits : Int) (s : Bool) (t : List UInt8) (ht : Hid (wrapS f a b bits s = t)) (w : World) :
    Calls Try.prog 26 #[.string op, .string a, .string b, .agg (kv bits s md)] w fun e w' => e = .returned (.string ⟨t.toArray⟩) ∧ Below w.heap.size w w' := by
  rw [← ht.out]; exact wrapped_any K a b md bits s w
theorem wrapped_kv2 {op : ByteArray} {f : Int → Int → Int} (K : Known op f) (a b md : ByteArray) (bits : Int) (s : Bool) (t : ByteArray) (ht : Hid (wrapS f a b bits s = t.data.toList)) (w : World) :
    Calls Try.prog 26 #[.string op, .string a, .string b, .agg (kv bits s md)] w fun e w' => e = .returned (.string t) ∧ Below w.heap.size w w' := by
  have := wrapped_any K a b md bits s w
  rw [ht.out] at this
  exact this
theorem long_lit (m : ByteArray) (R : Bool) (HR : Hid (decide (200 < m.size) = R)) (w : World) : Calls Try.prog 20 #[.string m] w fun e w' => e = .returned (.bool R) ∧ Below w.heap.size w w' := by
  rw [← HR.out]; exact long_any m w
set_option maxHeartbeats 1000000 in
set_option maxRecDepth 20000 in
theorem NW_a (a b c md : ByteArray) (bits : Int) (s : Bool) (la : Hid (decide (200 < a.size) = true)) (w : World) :
    Calls Try.prog 5 #[.string a, .string b, .agg #[.string c, .int .i64 bits, .bool s, .string md]] w fun e w' => e = .returned (.bool true) ∧ Below w.heap.size w w' := by
  go_enter Try.func5, Try.ntmps5
  go_upto_region 1 with (fail)
  refine wp_world (fun W => W.heap[w.heap.size]? = some (.cells (#[.string c, .int .i64 bits, .bool s, .string md]) 40 (0, 0)) ∧ Below w.heap.size w W) ⟨ha_new rfl, ((Below.refl _ _).alloc (Nat.le_refl _) _)⟩ ?_
  rintro W ⟨h0, hb⟩
  have c0 : W.cell? ⟨w.heap.size, 0, none⟩ = some (.string c) := by rw [cell_of_row _ _ _ _ _ _ h0]; rfl
  have c1 : W.cell? ⟨w.heap.size, 1, none⟩ = some (.int .i64 bits) := by rw [cell_of_row _ _ _ _ _ _ h0]; rfl
  have c2 : W.cell? ⟨w.heap.size, 2, none⟩ = some (.bool s) := by rw [cell_of_row _ _ _ _ _ _ h0]; rfl
  have c3 : W.cell? ⟨w.heap.size, 3, none⟩ = some (.string md) := by rw [cell_of_row _ _ _ _ _ _ h0]; rfl
  have d0 : (W.alloc (Obj.cells #[Value.int IntKind.i64 0, Value.bool false, Value.string { data := #[] }] 25)).cell? ⟨w.heap.size, 0, none⟩ = some (.string c) := by rw [cell_of_row _ _ _ _ _ _ (ha_old h0)]; rfl
  have d1 : (W.alloc (Obj.cells #[Value.int IntKind.i64 0, Value.bool false, Value.string { data := #[] }] 25)).cell? ⟨w.heap.size, 1, none⟩ = some (.int .i64 bits) := by rw [cell_of_row _ _ _ _ _ _ (ha_old h0)]; rfl
  have d2 : (W.alloc (Obj.cells #[Value.int IntKind.i64 0, Value.bool false, Value.string { data := #[] }] 25)).cell? ⟨w.heap.size, 2, none⟩ = some (.bool s) := by rw [cell_of_row _ _ _ _ _ _ (ha_old h0)]; rfl
  have d3 : (W.alloc (Obj.cells #[Value.int IntKind.i64 0, Value.bool false, Value.string { data := #[] }] 25)).cell? ⟨w.heap.size, 3, none⟩ = some (.string md) := by rw [cell_of_row _ _ _ _ _ _ (ha_old h0)]; rfl
  go_region
  clear c0 c1 c2 c3 d0 d1 d2 d3
  go_upto_region 2 with (fail)
  refine wp_world (fun X => X.heap[W.heap.size]? = some (.cells (kv bits s md) 25 (0, 0)) ∧ Below w.heap.size w X) ⟨ha_new rfl, (hb.alloc hb.size _).drew⟩ ?_
  obtain ⟨p, hp⟩ : ∃ p, p = W.heap.size := ⟨_, rfl⟩
  rw [← hp]
  clear h0 hb hp
  rintro X ⟨h0, hb⟩
  apply wp_region_lit
  refine wl_k rfl (fun K hK => ?_); go_simp; refine hK _ ?_; clear hK K
  refine wl_ck rfl (fun K hK => ?_); go_simp; refine ⟨_, _, ⟨rfl, rfl⟩, hK _ _ ⟨_, long_lit _ true la _, ?_⟩⟩; clear hK K; rintro e w2 ⟨rfl, hb1⟩; refine ⟨_, rfl, ?_⟩; simp only [put_lit, List.set_cons_zero, List.set_cons_succ]
  replace h0 := below_look hb1 h0; replace hb := hb.trans (hb1.mono hb.size); clear hb1
  go_upto_region 3 with (fail)
  go_wp2_with (go_at_call 21; refine (awake_any _).mono ?_)
  rintro e w3 ⟨rfl, hb1⟩
  replace h0 := below_look hb1 h0; replace hb := hb.trans (hb1.mono hb.size); clear hb1
  go_wp2_with fail
  go_ret
  exact ⟨rfl, hb⟩
set_option maxHeartbeats 1000000 in
set_option maxRecDepth 20000 in
theorem NW_b (a b c md : ByteArray) (bits : Int) (s : Bool) (la : Hid (decide (200 < a.size) = false)) (lb : Hid (decide (200 < b.size) = true)) (w : World) :
    Calls Try.prog 5 #[.string a, .string b, .agg #[.string c, .int .i64 bits, .bool s, .string md]] w fun e w' => e = .returned (.bool true) ∧ Below w.heap.size w w' := by
  go_enter Try.func5, Try.ntmps5
  go_upto_region 1 with (fail)
  refine wp_world (fun W => W.heap[w.heap.size]? = some (.cells (#[.string c, .int .i64 bits, .bool s, .string md]) 40 (0, 0)) ∧ Below w.heap.size w W) ⟨ha_new rfl, ((Below.refl _ _).alloc (Nat.le_refl _) _)⟩ ?_
  rintro W ⟨h0, hb⟩
  have c0 : W.cell? ⟨w.heap.size, 0, none⟩ = some (.string c) := by rw [cell_of_row _ _ _ _ _ _ h0]; rfl
  have c1 : W.cell? ⟨w.heap.size, 1, none⟩ = some (.int .i64 bits) := by rw [cell_of_row _ _ _ _ _ _ h0]; rfl
  have c2 : W.cell? ⟨w.heap.size, 2, none⟩ = some (.bool s) := by rw [cell_of_row _ _ _ _ _ _ h0]; rfl
  have c3 : W.cell? ⟨w.heap.size, 3, none⟩ = some (.string md) := by rw [cell_of_row _ _ _ _ _ _ h0]; rfl
  have d0 : (W.alloc (Obj.cells #[Value.int IntKind.i64 0, Value.bool false, Value.string { data := #[] }] 25)).cell? ⟨w.heap.size, 0, none⟩ = some (.string c) := by rw [cell_of_row _ _ _ _ _ _ (ha_old h0)]; rfl
  have d1 : (W.alloc (Obj.cells #[Value.int IntKind.i64 0, Value.bool false, Value.string { data := #[] }] 25)).cell? ⟨w.heap.size, 1, none⟩ = some (.int .i64 bits) := by rw [cell_of_row _ _ _ _ _ _ (ha_old h0)]; rfl
  have d2 : (W.alloc (Obj.cells #[Value.int IntKind.i64 0, Value.bool false, Value.string { data := #[] }] 25)).cell? ⟨w.heap.size, 2, none⟩ = some (.bool s) := by rw [cell_of_row _ _ _ _ _ _ (ha_old h0)]; rfl
  have d3 : (W.alloc (Obj.cells #[Value.int IntKind.i64 0, Value.bool false, Value.string { data := #[] }] 25)).cell? ⟨w.heap.size, 3, none⟩ = some (.string md) := by rw [cell_of_row _ _ _ _ _ _ (ha_old h0)]; rfl
  go_region
  clear c0 c1 c2 c3 d0 d1 d2 d3
  go_upto_region 2 with (fail)
  refine wp_world (fun X => X.heap[W.heap.size]? = some (.cells (kv bits s md) 25 (0, 0)) ∧ Below w.heap.size w X) ⟨ha_new rfl, (hb.alloc hb.size _).drew⟩ ?_
  obtain ⟨p, hp⟩ : ∃ p, p = W.heap.size := ⟨_, rfl⟩
  rw [← hp]
  clear h0 hb hp
  rintro X ⟨h0, hb⟩
  apply wp_region_lit
  refine wl_k rfl (fun K hK => ?_); go_simp; refine hK _ ?_; clear hK K
  refine wl_ck rfl (fun K hK => ?_); go_simp; refine ⟨_, _, ⟨rfl, rfl⟩, hK _ _ ⟨_, long_lit _ false la _, ?_⟩⟩; clear hK K; rintro e w2 ⟨rfl, hb1⟩; refine ⟨_, rfl, ?_⟩; simp only [put_lit, List.set_cons_zero, List.set_cons_succ]
  replace h0 := below_look hb1 h0; replace hb := hb.trans (hb1.mono hb.size); clear hb1
  refine wl_k rfl (fun K hK => ?_); go_simp; refine hK _ ?_; clear hK K
  refine wl_k rfl (fun K hK => ?_); go_simp; refine hK _ ?_; clear hK K
  refine wl_ck rfl (fun K hK => ?_); go_simp; refine ⟨_, _, ⟨rfl, rfl⟩, hK _ _ ⟨_, long_lit _ true lb _, ?_⟩⟩; clear hK K; rintro e w2 ⟨rfl, hb1⟩; refine ⟨_, rfl, ?_⟩; simp only [put_lit, List.set_cons_zero, List.set_cons_succ]
  replace h0 := below_look hb1 h0; replace hb := hb.trans (hb1.mono hb.size); clear hb1
  go_upto_region 3 with (fail)
  go_wp2_with (go_at_call 21; refine (awake_any _).mono ?_)
  rintro e w3 ⟨rfl, hb1⟩
  replace h0 := below_look hb1 h0; replace hb := hb.trans (hb1.mono hb.size); clear hb1
  go_wp2_with fail
  go_ret
  exact ⟨rfl, hb⟩
set_option maxHeartbeats 1000000 in
set_option maxRecDepth 20000 in
theorem NW_c (a b c md : ByteArray) (bits : Int) (s : Bool) (la : Hid (decide (200 < a.size) = false)) (lb : Hid (decide (200 < b.size) = false)) (lc : Hid (decide (200 < c.size) = true)) (w : World) :
    Calls Try.prog 5 #[.string a, .string b, .agg #[.string c, .int .i64 bits, .bool s, .string md]] w fun e w' => e = .returned (.bool true) ∧ Below w.heap.size w w' := by
  go_enter Try.func5, Try.ntmps5
  go_upto_region 1 with (fail)
  refine wp_world (fun W => W.heap[w.heap.size]? = some (.cells (#[.string c, .int .i64 bits, .bool s, .string md]) 40 (0, 0)) ∧ Below w.heap.size w W) ⟨ha_new rfl, ((Below.refl _ _).alloc (Nat.le_refl _) _)⟩ ?_
  rintro W ⟨h0, hb⟩
  have c0 : W.cell? ⟨w.heap.size, 0, none⟩ = some (.string c) := by rw [cell_of_row _ _ _ _ _ _ h0]; rfl
  have c1 : W.cell? ⟨w.heap.size, 1, none⟩ = some (.int .i64 bits) := by rw [cell_of_row _ _ _ _ _ _ h0]; rfl
  have c2 : W.cell? ⟨w.heap.size, 2, none⟩ = some (.bool s) := by rw [cell_of_row _ _ _ _ _ _ h0]; rfl
  have c3 : W.cell? ⟨w.heap.size, 3, none⟩ = some (.string md) := by rw [cell_of_row _ _ _ _ _ _ h0]; rfl
  have d0 : (W.alloc (Obj.cells #[Value.int IntKind.i64 0, Value.bool false, Value.string { data := #[] }] 25)).cell? ⟨w.heap.size, 0, none⟩ = some (.string c) := by rw [cell_of_row _ _ _ _ _ _ (ha_old h0)]; rfl
  have d1 : (W.alloc (Obj.cells #[Value.int IntKind.i64 0, Value.bool false, Value.string { data := #[] }] 25)).cell? ⟨w.heap.size, 1, none⟩ = some (.int .i64 bits) := by rw [cell_of_row _ _ _ _ _ _ (ha_old h0)]; rfl
  have d2 : (W.alloc (Obj.cells #[Value.int IntKind.i64 0, Value.bool false, Value.string { data := #[] }] 25)).cell? ⟨w.heap.size, 2, none⟩ = some (.bool s) := by rw [cell_of_row _ _ _ _ _ _ (ha_old h0)]; rfl
  have d3 : (W.alloc (Obj.cells #[Value.int IntKind.i64 0, Value.bool false, Value.string { data := #[] }] 25)).cell? ⟨w.heap.size, 3, none⟩ = some (.string md) := by rw [cell_of_row _ _ _ _ _ _ (ha_old h0)]; rfl
  go_region
  clear c0 c1 c2 c3 d0 d1 d2 d3
  go_upto_region 2 with (fail)
  refine wp_world (fun X => X.heap[W.heap.size]? = some (.cells (kv bits s md) 25 (0, 0)) ∧ Below w.heap.size w X) ⟨ha_new rfl, (hb.alloc hb.size _).drew⟩ ?_
  obtain ⟨p, hp⟩ : ∃ p, p = W.heap.size := ⟨_, rfl⟩
  rw [← hp]
  clear h0 hb hp
  rintro X ⟨h0, hb⟩
  apply wp_region_lit
  refine wl_k rfl (fun K hK => ?_); go_simp; refine hK _ ?_; clear hK K
  refine wl_ck rfl (fun K hK => ?_); go_simp; refine ⟨_, _, ⟨rfl, rfl⟩, hK _ _ ⟨_, long_lit _ false la _, ?_⟩⟩; clear hK K; rintro e w2 ⟨rfl, hb1⟩; refine ⟨_, rfl, ?_⟩; simp only [put_lit, List.set_cons_zero, List.set_cons_succ]
  replace h0 := below_look hb1 h0; replace hb := hb.trans (hb1.mono hb.size); clear hb1
  refine wl_k rfl (fun K hK => ?_); go_simp; refine hK _ ?_; clear hK K
  refine wl_k rfl (fun K hK => ?_); go_simp; refine hK _ ?_; clear hK K
  refine wl_ck rfl (fun K hK => ?_); go_simp; refine ⟨_, _, ⟨rfl, rfl⟩, hK _ _ ⟨_, long_lit _ false lb _, ?_⟩⟩; clear hK K; rintro e w2 ⟨rfl, hb1⟩; refine ⟨_, rfl, ?_⟩; simp only [put_lit, List.set_cons_zero, List.set_cons_succ]
  replace h0 := below_look hb1 h0; replace hb := hb.trans (hb1.mono hb.size); clear hb1
  refine wl_k rfl (fun K hK => ?_); go_simp; refine hK _ ?_; clear hK K
  refine wl_k rfl (fun K hK => ?_); go_simp; refine hK _ ?_; clear hK K
  refine wl_k rfl (fun K hK => ?_); go_simp; refine hK _ ?_; clear hK K
  refine wl_ck rfl (fun K hK => ?_); go_simp; refine ⟨_, _, ⟨rfl, rfl⟩, hK _ _ ⟨_, long_lit _ true lc _, ?_⟩⟩; clear hK K; rintro e w2 ⟨rfl, hb1⟩; refine ⟨_, rfl, ?_⟩; simp only [put_lit, List.set_cons_zero, List.set_cons_succ]
  replace h0 := below_look hb1 h0; replace hb := hb.trans (hb1.mono hb.size); clear hb1
  go_upto_region 3 with (fail)
  go_wp2_with (go_at_call 21; refine (awake_any _).mono ?_)
  rintro e w3 ⟨rfl, hb1⟩
  replace h0 := below_look hb1 h0; replace hb := hb.trans (hb1.mono hb.size); clear hb1
  go_wp2_with fail
  go_ret
  exact ⟨rfl, hb⟩
set_option maxHeartbeats 1000000 in
set_option maxRecDepth 20000 in
theorem NW_ab (a b c md : ByteArray) (bits : Int) (s : Bool) (la : Hid (decide (200 < a.size) = false)) (lb : Hid (decide (200 < b.size) = false)) (lc : Hid (decide (200 < c.size) = false)) (hab : Hid (wrapS (· + ·) a b bits s = [110, 111])) (w : World) :
    Calls Try.prog 5 #[.string a, .string b, .agg #[.string c, .int .i64 bits, .bool s, .string md]] w fun e w' => e = .returned (.bool true) ∧ Below w.heap.size w w' := by
  go_enter Try.func5, Try.ntmps5
  go_upto_region 1 with (fail)
  refine wp_world (fun W => W.heap[w.heap.size]? = some (.cells (#[.string c, .int .i64 bits, .bool s, .string md]) 40 (0, 0)) ∧ Below w.heap.size w W) ⟨ha_new rfl, ((Below.refl _ _).alloc (Nat.le_refl _) _)⟩ ?_
  rintro W ⟨h0, hb⟩
  have c0 : W.cell? ⟨w.heap.size, 0, none⟩ = some (.string c) := by rw [cell_of_row _ _ _ _ _ _ h0]; rfl
  have c1 : W.cell? ⟨w.heap.size, 1, none⟩ = some (.int .i64 bits) := by rw [cell_of_row _ _ _ _ _ _ h0]; rfl
  have c2 : W.cell? ⟨w.heap.size, 2, none⟩ = some (.bool s) := by rw [cell_of_row _ _ _ _ _ _ h0]; rfl
  have c3 : W.cell? ⟨w.heap.size, 3, none⟩ = some (.string md) := by rw [cell_of_row _ _ _ _ _ _ h0]; rfl
  have d0 : (W.alloc (Obj.cells #[Value.int IntKind.i64 0, Value.bool false, Value.string { data := #[] }] 25)).cell? ⟨w.heap.size, 0, none⟩ = some (.string c) := by rw [cell_of_row _ _ _ _ _ _ (ha_old h0)]; rfl
  have d1 : (W.alloc (Obj.cells #[Value.int IntKind.i64 0, Value.bool false, Value.string { data := #[] }] 25)).cell? ⟨w.heap.size, 1, none⟩ = some (.int .i64 bits) := by rw [cell_of_row _ _ _ _ _ _ (ha_old h0)]; rfl
  have d2 : (W.alloc (Obj.cells #[Value.int IntKind.i64 0, Value.bool false, Value.string { data := #[] }] 25)).cell? ⟨w.heap.size, 2, none⟩ = some (.bool s) := by rw [cell_of_row _ _ _ _ _ _ (ha_old h0)]; rfl
  have d3 : (W.alloc (Obj.cells #[Value.int IntKind.i64 0, Value.bool false, Value.string { data := #[] }] 25)).cell? ⟨w.heap.size, 3, none⟩ = some (.string md) := by rw [cell_of_row _ _ _ _ _ _ (ha_old h0)]; rfl
  go_region
  clear c0 c1 c2 c3 d0 d1 d2 d3
  go_upto_region 2 with (fail)
  refine wp_world (fun X => X.heap[W.heap.size]? = some (.cells (kv bits s md) 25 (0, 0)) ∧ Below w.heap.size w X) ⟨ha_new rfl, (hb.alloc hb.size _).drew⟩ ?_
  obtain ⟨p, hp⟩ : ∃ p, p = W.heap.size := ⟨_, rfl⟩
  rw [← hp]
  clear h0 hb hp
  rintro X ⟨h0, hb⟩
  apply wp_region_lit
  have l1 : ((ByteArray.mk [110, 111].toArray).toList == [110, 111]) = true := lit_eq (L := [110, 111]) rfl rfl
  refine wl_k rfl (fun K hK => ?_); go_simp; refine hK _ ?_; clear hK K
  refine wl_ck rfl (fun K hK => ?_); go_simp; refine ⟨_, _, ⟨rfl, rfl⟩, hK _ _ ⟨_, long_lit _ false la _, ?_⟩⟩; clear hK K; rintro e w2 ⟨rfl, hb1⟩; refine ⟨_, rfl, ?_⟩; simp only [put_lit, List.set_cons_zero, List.set_cons_succ]
  replace h0 := below_look hb1 h0; replace hb := hb.trans (hb1.mono hb.size); clear hb1
  refine wl_k rfl (fun K hK => ?_); go_simp; refine hK _ ?_; clear hK K
  refine wl_k rfl (fun K hK => ?_); go_simp; refine hK _ ?_; clear hK K
  refine wl_ck rfl (fun K hK => ?_); go_simp; refine ⟨_, _, ⟨rfl, rfl⟩, hK _ _ ⟨_, long_lit _ false lb _, ?_⟩⟩; clear hK K; rintro e w2 ⟨rfl, hb1⟩; refine ⟨_, rfl, ?_⟩; simp only [put_lit, List.set_cons_zero, List.set_cons_succ]
  replace h0 := below_look hb1 h0; replace hb := hb.trans (hb1.mono hb.size); clear hb1
  refine wl_k rfl (fun K hK => ?_); go_simp; refine hK _ ?_; clear hK K
  refine wl_k rfl (fun K hK => ?_); go_simp; refine hK _ ?_; clear hK K
  refine wl_k rfl (fun K hK => ?_); go_simp; refine hK _ ?_; clear hK K
  refine wl_ck rfl (fun K hK => ?_); go_simp; refine ⟨_, _, ⟨rfl, rfl⟩, hK _ _ ⟨_, long_lit _ false lc _, ?_⟩⟩; clear hK K; rintro e w2 ⟨rfl, hb1⟩; refine ⟨_, rfl, ?_⟩; simp only [put_lit, List.set_cons_zero, List.set_cons_succ]
  replace h0 := below_look hb1 h0; replace hb := hb.trans (hb1.mono hb.size); clear hb1
  refine wl_k rfl (fun K hK => ?_); go_simp; refine hK _ ?_; clear hK K
  refine wl_k rfl (fun K hK => ?_); go_simp; refine hK _ ?_; clear hK K
  refine wl_k rfl (fun K hK => ?_); go_simp; refine hK _ ?_; clear hK K
  refine wl_k rfl (fun K hK => ?_); go_simp; refine hK _ ?_; clear hK K
  ((with_reducible apply wl_rowG); exact rfl; exact rfl; exact rowKv (by with_reducible assumption))
  refine wl_ck rfl (fun K hK => ?_); go_simp; refine ⟨_, _, ⟨rfl, rfl⟩, hK _ _ ⟨_, wrapped_kv (known_add _ rfl) a b md bits s [110, 111] hab _, ?_⟩⟩; clear hK K; rintro e w2 ⟨rfl, hb1⟩; refine ⟨_, rfl, ?_⟩; simp only [put_lit, List.set_cons_zero, List.set_cons_succ]
  replace h0 := below_look hb1 h0; replace hb := hb.trans (hb1.mono hb.size); clear hb1
  go_upto_region 3 with (fail)
  go_wp2_with (go_at_call 21; refine (awake_any _).mono ?_)
  rintro e w3 ⟨rfl, hb1⟩
  replace h0 := below_look hb1 h0; replace hb := hb.trans (hb1.mono hb.size); clear hb1
  go_wp2_with fail
  go_ret
  exact ⟨rfl, hb⟩
set_option maxHeartbeats 1000000 in
set_option maxRecDepth 20000 in
theorem NW_bc (a b c md : ByteArray) (bits : Int) (s : Bool) (la : Hid (decide (200 < a.size) = false)) (lb : Hid (decide (200 < b.size) = false)) (lc : Hid (decide (200 < c.size) = false)) (t1 : List UInt8) (hab : Hid (wrapS (· + ·) a b bits s = t1)) (ht1 : (t1 == [110, 111]) = false) (hbc : Hid (wrapS (· + ·) b c bits s = [110, 111])) (w : World) :
    Calls Try.prog 5 #[.string a, .string b, .agg #[.string c, .int .i64 bits, .bool s, .string md]] w fun e w' => e = .returned (.bool true) ∧ Below w.heap.size w w' := by
  go_enter Try.func5, Try.ntmps5
  go_upto_region 1 with (fail)
  refine wp_world (fun W => W.heap[w.heap.size]? = some (.cells (#[.string c, .int .i64 bits, .bool s, .string md]) 40 (0, 0)) ∧ Below w.heap.size w W) ⟨ha_new rfl, ((Below.refl _ _).alloc (Nat.le_refl _) _)⟩ ?_
  rintro W ⟨h0, hb⟩
  have c0 : W.cell? ⟨w.heap.size, 0, none⟩ = some (.string c) := by rw [cell_of_row _ _ _ _ _ _ h0]; rfl
  have c1 : W.cell? ⟨w.heap.size, 1, none⟩ = some (.int .i64 bits) := by rw [cell_of_row _ _ _ _ _ _ h0]; rfl
  have c2 : W.cell? ⟨w.heap.size, 2, none⟩ = some (.bool s) := by rw [cell_of_row _ _ _ _ _ _ h0]; rfl
  have c3 : W.cell? ⟨w.heap.size, 3, none⟩ = some (.string md) := by rw [cell_of_row _ _ _ _ _ _ h0]; rfl
  have d0 : (W.alloc (Obj.cells #[Value.int IntKind.i64 0, Value.bool false, Value.string { data := #[] }] 25)).cell? ⟨w.heap.size, 0, none⟩ = some (.string c) := by rw [cell_of_row _ _ _ _ _ _ (ha_old h0)]; rfl
  have d1 : (W.alloc (Obj.cells #[Value.int IntKind.i64 0, Value.bool false, Value.string { data := #[] }] 25)).cell? ⟨w.heap.size, 1, none⟩ = some (.int .i64 bits) := by rw [cell_of_row _ _ _ _ _ _ (ha_old h0)]; rfl
  have d2 : (W.alloc (Obj.cells #[Value.int IntKind.i64 0, Value.bool false, Value.string { data := #[] }] 25)).cell? ⟨w.heap.size, 2, none⟩ = some (.bool s) := by rw [cell_of_row _ _ _ _ _ _ (ha_old h0)]; rfl
  have d3 : (W.alloc (Obj.cells #[Value.int IntKind.i64 0, Value.bool false, Value.string { data := #[] }] 25)).cell? ⟨w.heap.size, 3, none⟩ = some (.string md) := by rw [cell_of_row _ _ _ _ _ _ (ha_old h0)]; rfl
  go_region
  clear c0 c1 c2 c3 d0 d1 d2 d3
  go_upto_region 2 with (fail)
  refine wp_world (fun X => X.heap[W.heap.size]? = some (.cells (kv bits s md) 25 (0, 0)) ∧ Below w.heap.size w X) ⟨ha_new rfl, (hb.alloc hb.size _).drew⟩ ?_
  obtain ⟨p, hp⟩ : ∃ p, p = W.heap.size := ⟨_, rfl⟩
  rw [← hp]
  clear h0 hb hp
  rintro X ⟨h0, hb⟩
  apply wp_region_lit
  have l1 : ((ByteArray.mk [110, 111].toArray).toList == [110, 111]) = true := lit_eq (L := [110, 111]) rfl rfl
  refine wl_k rfl (fun K hK => ?_); go_simp; refine hK _ ?_; clear hK K
  refine wl_ck rfl (fun K hK => ?_); go_simp; refine ⟨_, _, ⟨rfl, rfl⟩, hK _ _ ⟨_, long_lit _ false la _, ?_⟩⟩; clear hK K; rintro e w2 ⟨rfl, hb1⟩; refine ⟨_, rfl, ?_⟩; simp only [put_lit, List.set_cons_zero, List.set_cons_succ]
  replace h0 := below_look hb1 h0; replace hb := hb.trans (hb1.mono hb.size); clear hb1
  refine wl_k rfl (fun K hK => ?_); go_simp; refine hK _ ?_; clear hK K
  refine wl_k rfl (fun K hK => ?_); go_simp; refine hK _ ?_; clear hK K
  refine wl_ck rfl (fun K hK => ?_); go_simp; refine ⟨_, _, ⟨rfl, rfl⟩, hK _ _ ⟨_, long_lit _ false lb _, ?_⟩⟩; clear hK K; rintro e w2 ⟨rfl, hb1⟩; refine ⟨_, rfl, ?_⟩; simp only [put_lit, List.set_cons_zero, List.set_cons_succ]
  replace h0 := below_look hb1 h0; replace hb := hb.trans (hb1.mono hb.size); clear hb1
  refine wl_k rfl (fun K hK => ?_); go_simp; refine hK _ ?_; clear hK K
  refine wl_k rfl (fun K hK => ?_); go_simp; refine hK _ ?_; clear hK K
  refine wl_k rfl (fun K hK => ?_); go_simp; refine hK _ ?_; clear hK K
  refine wl_ck rfl (fun K hK => ?_); go_simp; refine ⟨_, _, ⟨rfl, rfl⟩, hK _ _ ⟨_, long_lit _ false lc _, ?_⟩⟩; clear hK K; rintro e w2 ⟨rfl, hb1⟩; refine ⟨_, rfl, ?_⟩; simp only [put_lit, List.set_cons_zero, List.set_cons_succ]
  replace h0 := below_look hb1 h0; replace hb := hb.trans (hb1.mono hb.size); clear hb1
  refine wl_k rfl (fun K hK => ?_); go_simp; refine hK _ ?_; clear hK K
  refine wl_k rfl (fun K hK => ?_); go_simp; refine hK _ ?_; clear hK K
  refine wl_k rfl (fun K hK => ?_); go_simp; refine hK _ ?_; clear hK K
  refine wl_k rfl (fun K hK => ?_); go_simp; refine hK _ ?_; clear hK K
  ((with_reducible apply wl_rowG); exact rfl; exact rfl; exact rowKv (by with_reducible assumption))
  refine wl_ck rfl (fun K hK => ?_); go_simp; refine ⟨_, _, ⟨rfl, rfl⟩, hK _ _ ⟨_, wrapped_kv (known_add _ rfl) a b md bits s t1 hab _, ?_⟩⟩; clear hK K; rintro e w2 ⟨rfl, hb1⟩; refine ⟨_, rfl, ?_⟩; simp only [put_lit, List.set_cons_zero, List.set_cons_succ]
  replace h0 := below_look hb1 h0; replace hb := hb.trans (hb1.mono hb.size); clear hb1
  refine wl_k rfl (fun K hK => ?_); go_simp; refine hK _ ?_; clear hK K
  refine wl_k rfl (fun K hK => ?_); go_simp; refine hK _ ?_; clear hK K
  refine wl_k rfl (fun K hK => ?_); go_simp; refine hK _ ?_; clear hK K
  refine wl_k rfl (fun K hK => ?_); go_simp; refine hK _ ?_; clear hK K
  refine wl_k rfl (fun K hK => ?_); go_simp; refine hK _ ?_; clear hK K
  ((with_reducible apply wl_rowG); exact rfl; exact rfl; exact rowKv (by with_reducible assumption))
  refine wl_ck rfl (fun K hK => ?_); go_simp; refine ⟨_, _, ⟨rfl, rfl⟩, hK _ _ ⟨_, wrapped_kv (known_add _ rfl) b c md bits s [110, 111] hbc _, ?_⟩⟩; clear hK K; rintro e w2 ⟨rfl, hb1⟩; refine ⟨_, rfl, ?_⟩; simp only [put_lit, List.set_cons_zero, List.set_cons_succ]
  replace h0 := below_look hb1 h0; replace hb := hb.trans (hb1.mono hb.size); clear hb1
  go_upto_region 3 with (fail)
  go_wp2_with (go_at_call 21; refine (awake_any _).mono ?_)
  rintro e w3 ⟨rfl, hb1⟩
  replace h0 := below_look hb1 h0; replace hb := hb.trans (hb1.mono hb.size); clear hb1
  go_wp2_with fail
  go_ret
  exact ⟨rfl, hb⟩
set_option maxHeartbeats 2000000 in
set_option maxRecDepth 20000 in
theorem NW_main (a b c md : ByteArray) (bits : Int) (s : Bool) (la : Hid (decide (200 < a.size) = false)) (lb : Hid (decide (200 < b.size) = false)) (lc : Hid (decide (200 < c.size) = false)) (t1 t2 : List UInt8) (hab : Hid (wrapS (· + ·) a b bits s = t1)) (ht1 : (t1 == [110, 111]) = false) (hbc : Hid (wrapS (· + ·) b c bits s = t2)) (ht2 : (t2 == [110, 111]) = false)
    (L M O m1 m2 m3 : List UInt8) (hL1 : Hid (wrapS (· + ·) ⟨t1.toArray⟩ c bits s = L)) (hL2 : Hid (wrapS (· + ·) a ⟨t2.toArray⟩ bits s = L)) (hm1 : Hid (wrapS (· * ·) a b bits s = m1)) (hm2 : Hid (wrapS (· * ·) b c bits s = m2)) (hm3 : Hid (wrapS (· * ·) a c bits s = m3))
    (hM1 : Hid (wrapS (· * ·) ⟨m1.toArray⟩ c bits s = M)) (hM2 : Hid (wrapS (· * ·) a ⟨m2.toArray⟩ bits s = M)) (hO1 : Hid (wrapS (· * ·) a ⟨t2.toArray⟩ bits s = O)) (hO2 : Hid (wrapS (· + ·) ⟨m1.toArray⟩ ⟨m3.toArray⟩ bits s = O))
    (nL : (L == [110, 111]) = false) (nM : (M == [110, 111]) = false) (nO : (O == [110, 111]) = false) (hba : Hid (wrapS (· + ·) b a bits s = t1)) (hmba : Hid (wrapS (· * ·) b a bits s = m1)) (hback : Hid (wrapS (· - ·) ⟨t1.toArray⟩ b bits s = a.data.toList)) (w : World) :
    Calls Try.prog 5 #[.string a, .string b, .agg #[.string c, .int .i64 bits, .bool s, .string md]] w fun e w' => e = .returned (.bool true) ∧ Below w.heap.size w w' := by
  go_enter Try.func5, Try.ntmps5
  go_upto_region 1 with (fail)
  refine wp_world (fun W => W.heap[w.heap.size]? = some (.cells (#[.string c, .int .i64 bits, .bool s, .string md]) 40 (0, 0)) ∧ Below w.heap.size w W) ⟨ha_new rfl, ((Below.refl _ _).alloc (Nat.le_refl _) _)⟩ ?_
  rintro W ⟨h0, hb⟩
  have c0 : W.cell? ⟨w.heap.size, 0, none⟩ = some (.string c) := by rw [cell_of_row _ _ _ _ _ _ h0]; rfl
  have c1 : W.cell? ⟨w.heap.size, 1, none⟩ = some (.int .i64 bits) := by rw [cell_of_row _ _ _ _ _ _ h0]; rfl
  have c2 : W.cell? ⟨w.heap.size, 2, none⟩ = some (.bool s) := by rw [cell_of_row _ _ _ _ _ _ h0]; rfl
  have c3 : W.cell? ⟨w.heap.size, 3, none⟩ = some (.string md) := by rw [cell_of_row _ _ _ _ _ _ h0]; rfl
  have d0 : (W.alloc (Obj.cells #[Value.int IntKind.i64 0, Value.bool false, Value.string { data := #[] }] 25)).cell? ⟨w.heap.size, 0, none⟩ = some (.string c) := by rw [cell_of_row _ _ _ _ _ _ (ha_old h0)]; rfl
  have d1 : (W.alloc (Obj.cells #[Value.int IntKind.i64 0, Value.bool false, Value.string { data := #[] }] 25)).cell? ⟨w.heap.size, 1, none⟩ = some (.int .i64 bits) := by rw [cell_of_row _ _ _ _ _ _ (ha_old h0)]; rfl
  have d2 : (W.alloc (Obj.cells #[Value.int IntKind.i64 0, Value.bool false, Value.string { data := #[] }] 25)).cell? ⟨w.heap.size, 2, none⟩ = some (.bool s) := by rw [cell_of_row _ _ _ _ _ _ (ha_old h0)]; rfl
  have d3 : (W.alloc (Obj.cells #[Value.int IntKind.i64 0, Value.bool false, Value.string { data := #[] }] 25)).cell? ⟨w.heap.size, 3, none⟩ = some (.string md) := by rw [cell_of_row _ _ _ _ _ _ (ha_old h0)]; rfl
  go_region
  clear c0 c1 c2 c3 d0 d1 d2 d3
  go_upto_region 2 with (fail)
  refine wp_world (fun X => X.heap[W.heap.size]? = some (.cells (kv bits s md) 25 (0, 0)) ∧ Below w.heap.size w X) ⟨ha_new rfl, (hb.alloc hb.size _).drew⟩ ?_
  obtain ⟨p, hp⟩ : ∃ p, p = W.heap.size := ⟨_, rfl⟩
  rw [← hp]
  clear h0 hb hp
  rintro X ⟨h0, hb⟩
  apply wp_region_lit
  refine wl_k rfl (fun K hK => ?_); go_simp; refine hK _ ?_; clear hK K
  refine wl_ck rfl (fun K hK => ?_); go_simp; refine ⟨_, _, ⟨rfl, rfl⟩, hK _ _ ⟨_, long_lit _ false la _, ?_⟩⟩; clear hK K; rintro e w2 ⟨rfl, hb1⟩; refine ⟨_, rfl, ?_⟩; simp only [put_lit, List.set_cons_zero, List.set_cons_succ]
  replace h0 := below_look hb1 h0; replace hb := hb.trans (hb1.mono hb.size); clear hb1
  refine wl_k rfl (fun K hK => ?_); go_simp; refine hK _ ?_; clear hK K
  refine wl_k rfl (fun K hK => ?_); go_simp; refine hK _ ?_; clear hK K
  refine wl_ck rfl (fun K hK => ?_); go_simp; refine ⟨_, _, ⟨rfl, rfl⟩, hK _ _ ⟨_, long_lit _ false lb _, ?_⟩⟩; clear hK K; rintro e w2 ⟨rfl, hb1⟩; refine ⟨_, rfl, ?_⟩; simp only [put_lit, List.set_cons_zero, List.set_cons_succ]
  replace h0 := below_look hb1 h0; replace hb := hb.trans (hb1.mono hb.size); clear hb1
  refine wl_k rfl (fun K hK => ?_); go_simp; refine hK _ ?_; clear hK K
  refine wl_k rfl (fun K hK => ?_); go_simp; refine hK _ ?_; clear hK K
  refine wl_k rfl (fun K hK => ?_); go_simp; refine hK _ ?_; clear hK K
  refine wl_ck rfl (fun K hK => ?_); go_simp; refine ⟨_, _, ⟨rfl, rfl⟩, hK _ _ ⟨_, long_lit _ false lc _, ?_⟩⟩; clear hK K; rintro e w2 ⟨rfl, hb1⟩; refine ⟨_, rfl, ?_⟩; simp only [put_lit, List.set_cons_zero, List.set_cons_succ]
  replace h0 := below_look hb1 h0; replace hb := hb.trans (hb1.mono hb.size); clear hb1
  refine wl_k rfl (fun K hK => ?_); go_simp; refine hK _ ?_; clear hK K
  refine wl_k rfl (fun K hK => ?_); go_simp; refine hK _ ?_; clear hK K
  refine wl_k rfl (fun K hK => ?_); go_simp; refine hK _ ?_; clear hK K
  refine wl_k rfl (fun K hK => ?_); go_simp; refine hK _ ?_; clear hK K
  ((with_reducible apply wl_rowG); exact rfl; exact rfl; exact rowKv (by with_reducible assumption))
  refine wl_ck rfl (fun K hK => ?_); go_simp; refine ⟨_, _, ⟨rfl, rfl⟩, hK _ _ ⟨_, wrapped_kv (known_add _ rfl) a b md bits s t1 hab _, ?_⟩⟩; clear hK K; rintro e w2 ⟨rfl, hb1⟩; refine ⟨_, rfl, ?_⟩; simp only [put_lit, List.set_cons_zero, List.set_cons_succ]
  replace h0 := below_look hb1 h0; replace hb := hb.trans (hb1.mono hb.size); clear hb1
  refine wl_k rfl (fun K hK => ?_); go_simp; refine hK _ ?_; clear hK K
  refine wl_k rfl (fun K hK => ?_); go_simp; refine hK _ ?_; clear hK K
  refine wl_k rfl (fun K hK => ?_); go_simp; refine hK _ ?_; clear hK K
  refine wl_k rfl (fun K hK => ?_); go_simp; refine hK _ ?_; clear hK K
  refine wl_k rfl (fun K hK => ?_); go_simp; refine hK _ ?_; clear hK K
  ((with_reducible apply wl_rowG); exact rfl; exact rfl; exact rowKv (by with_reducible assumption))
  refine wl_ck rfl (fun K hK => ?_); go_simp; refine ⟨_, _, ⟨rfl, rfl⟩, hK _ _ ⟨_, wrapped_kv (known_add _ rfl) b c md bits s t2 hbc _, ?_⟩⟩; clear hK K; rintro e w2 ⟨rfl, hb1⟩; refine ⟨_, rfl, ?_⟩; simp only [put_lit, List.set_cons_zero, List.set_cons_succ]
  replace h0 := below_look hb1 h0; replace hb := hb.trans (hb1.mono hb.size); clear hb1
  refine wl_k rfl (fun K hK => ?_); go_simp; refine hK _ ?_; clear hK K
  refine wl_k rfl (fun K hK => ?_); go_simp; refine hK _ ?_; clear hK K
  go_upto_region 4 with (fail)
  refine wp_region_belowAll mixed (by kernel_rfl) ?_
  (go_big_quiet_want; go_big_quiet_op; first | go_big_quiet_on | (refine ⟨_, fun _ _ => rfl, ?_⟩; go_big_quiet_on))
  (go_big_quiet_want; go_big_quiet_op; first | go_big_quiet_on | (refine ⟨_, fun _ _ => rfl, ?_⟩; go_big_quiet_on))
  (refine wq_row_as rfl (fun w' hw' => rowKv (below_look hw' h0)) ?_; go_big_quiet_want; go_big_quiet_op; go_big_quiet_on)
  (go_big_quiet_want; go_big_quiet_op; refine ⟨_, fun w' hw' => calls_class hw' (wrapped_kv (known_add _ rfl) a b md bits s t1 hab w'), ?_⟩; go_big_quiet_on)
  (go_big_quiet_want; go_big_quiet_op; first | go_big_quiet_on | (refine ⟨_, fun _ _ => rfl, ?_⟩; go_big_quiet_on))
  (refine wq_row_as rfl (fun w' hw' => rowKv (below_look hw' h0)) ?_; go_big_quiet_want; go_big_quiet_op; go_big_quiet_on)
  (go_big_quiet_want; go_big_quiet_op; refine ⟨_, fun w' hw' => calls_class hw' (wrapped_kv (known_add _ rfl) _ c md bits s L hL1 w'), ?_⟩; go_big_quiet_on)
  (go_big_quiet_want; go_big_quiet_op; first | go_big_quiet_on | (refine ⟨_, fun _ _ => rfl, ?_⟩; go_big_quiet_on))
  intro w6 hb1
  replace h0 := below_look hb1 h0; replace hb := hb.trans (hb1.mono hb.size); clear hb1
  go_upto_region 5 with (fail)
  refine wp_region_belowAll mixed (by kernel_rfl) ?_
  (go_big_quiet_want; go_big_quiet_op; first | go_big_quiet_on | (refine ⟨_, fun _ _ => rfl, ?_⟩; go_big_quiet_on))
  (go_big_quiet_want; go_big_quiet_op; first | go_big_quiet_on | (refine ⟨_, fun _ _ => rfl, ?_⟩; go_big_quiet_on))
  (go_big_quiet_want; go_big_quiet_op; first | go_big_quiet_on | (refine ⟨_, fun _ _ => rfl, ?_⟩; go_big_quiet_on))
  (refine wq_row_as rfl (fun w' hw' => rowKv (below_look hw' h0)) ?_; go_big_quiet_want; go_big_quiet_op; go_big_quiet_on)
  (go_big_quiet_want; go_big_quiet_op; refine ⟨_, fun w' hw' => calls_class hw' (wrapped_kv (known_add _ rfl) b c md bits s t2 hbc w'), ?_⟩; go_big_quiet_on)
  (refine wq_row_as rfl (fun w' hw' => rowKv (below_look hw' h0)) ?_; go_big_quiet_want; go_big_quiet_op; go_big_quiet_on)
  (go_big_quiet_want; go_big_quiet_op; refine ⟨_, fun w' hw' => calls_class hw' (wrapped_kv (known_add _ rfl) a _ md bits s L hL2 w'), ?_⟩; go_big_quiet_on)
  (go_big_quiet_want; go_big_quiet_op; first | go_big_quiet_on | (refine ⟨_, fun _ _ => rfl, ?_⟩; go_big_quiet_on))
  intro w6 hb1
  replace h0 := below_look hb1 h0; replace hb := hb.trans (hb1.mono hb.size); clear hb1
  go_upto_region 6 with (fail)
  refine wp_region_belowAll mixed (by kernel_rfl) ?_
  (go_big_quiet_want; go_big_quiet_op; first | go_big_quiet_on | (refine ⟨_, fun _ _ => rfl, ?_⟩; go_big_quiet_on))
  (go_big_quiet_want; go_big_quiet_op; first | go_big_quiet_on | (refine ⟨_, fun _ _ => rfl, ?_⟩; go_big_quiet_on))
  (refine wq_row_as rfl (fun w' hw' => rowKv (below_look hw' h0)) ?_; go_big_quiet_want; go_big_quiet_op; go_big_quiet_on)
  (go_big_quiet_want; go_big_quiet_op; refine ⟨_, fun w' hw' => calls_class hw' (wrapped_kv (known_mul _ rfl) a b md bits s m1 hm1 w'), ?_⟩; go_big_quiet_on)
  (go_big_quiet_want; go_big_quiet_op; first | go_big_quiet_on | (refine ⟨_, fun _ _ => rfl, ?_⟩; go_big_quiet_on))
  (refine wq_row_as rfl (fun w' hw' => rowKv (below_look hw' h0)) ?_; go_big_quiet_want; go_big_quiet_op; go_big_quiet_on)
  (go_big_quiet_want; go_big_quiet_op; refine ⟨_, fun w' hw' => calls_class hw' (wrapped_kv (known_mul _ rfl) _ c md bits s M hM1 w'), ?_⟩; go_big_quiet_on)
  (go_big_quiet_want; go_big_quiet_op; first | go_big_quiet_on | (refine ⟨_, fun _ _ => rfl, ?_⟩; go_big_quiet_on))
  intro w6 hb1
  replace h0 := below_look hb1 h0; replace hb := hb.trans (hb1.mono hb.size); clear hb1
  go_upto_region 7 with (fail)
  refine wp_region_belowAll mixed (by kernel_rfl) ?_
  (go_big_quiet_want; go_big_quiet_op; first | go_big_quiet_on | (refine ⟨_, fun _ _ => rfl, ?_⟩; go_big_quiet_on))
  (go_big_quiet_want; go_big_quiet_op; first | go_big_quiet_on | (refine ⟨_, fun _ _ => rfl, ?_⟩; go_big_quiet_on))
  (go_big_quiet_want; go_big_quiet_op; first | go_big_quiet_on | (refine ⟨_, fun _ _ => rfl, ?_⟩; go_big_quiet_on))
  (refine wq_row_as rfl (fun w' hw' => rowKv (below_look hw' h0)) ?_; go_big_quiet_want; go_big_quiet_op; go_big_quiet_on)
  (go_big_quiet_want; go_big_quiet_op; refine ⟨_, fun w' hw' => calls_class hw' (wrapped_kv (known_mul _ rfl) b c md bits s m2 hm2 w'), ?_⟩; go_big_quiet_on)
  (refine wq_row_as rfl (fun w' hw' => rowKv (below_look hw' h0)) ?_; go_big_quiet_want; go_big_quiet_op; go_big_quiet_on)
  (go_big_quiet_want; go_big_quiet_op; refine ⟨_, fun w' hw' => calls_class hw' (wrapped_kv (known_mul _ rfl) a _ md bits s M hM2 w'), ?_⟩; go_big_quiet_on)
  (go_big_quiet_want; go_big_quiet_op; first | go_big_quiet_on | (refine ⟨_, fun _ _ => rfl, ?_⟩; go_big_quiet_on))
  intro w6 hb1
  replace h0 := below_look hb1 h0; replace hb := hb.trans (hb1.mono hb.size); clear hb1
  go_upto_region 8 with (fail)
  refine wp_region_belowAll mixed (by kernel_rfl) ?_
  (go_big_quiet_want; go_big_quiet_op; first | go_big_quiet_on | (refine ⟨_, fun _ _ => rfl, ?_⟩; go_big_quiet_on))
  (go_big_quiet_want; go_big_quiet_op; first | go_big_quiet_on | (refine ⟨_, fun _ _ => rfl, ?_⟩; go_big_quiet_on))
  (go_big_quiet_want; go_big_quiet_op; first | go_big_quiet_on | (refine ⟨_, fun _ _ => rfl, ?_⟩; go_big_quiet_on))
  (refine wq_row_as rfl (fun w' hw' => rowKv (below_look hw' h0)) ?_; go_big_quiet_want; go_big_quiet_op; go_big_quiet_on)
  (go_big_quiet_want; go_big_quiet_op; refine ⟨_, fun w' hw' => calls_class hw' (wrapped_kv (known_add _ rfl) b c md bits s t2 hbc w'), ?_⟩; go_big_quiet_on)
  (refine wq_row_as rfl (fun w' hw' => rowKv (below_look hw' h0)) ?_; go_big_quiet_want; go_big_quiet_op; go_big_quiet_on)
  (go_big_quiet_want; go_big_quiet_op; refine ⟨_, fun w' hw' => calls_class hw' (wrapped_kv (known_mul _ rfl) a _ md bits s O hO1 w'), ?_⟩; go_big_quiet_on)
  (go_big_quiet_want; go_big_quiet_op; first | go_big_quiet_on | (refine ⟨_, fun _ _ => rfl, ?_⟩; go_big_quiet_on))
  intro w6 hb1
  replace h0 := below_look hb1 h0; replace hb := hb.trans (hb1.mono hb.size); clear hb1
  go_upto_region 9 with (fail)
  refine wp_region_belowAll mixed (by kernel_rfl) ?_
  (go_big_quiet_want; go_big_quiet_op; first | go_big_quiet_on | (refine ⟨_, fun _ _ => rfl, ?_⟩; go_big_quiet_on))
  (go_big_quiet_want; go_big_quiet_op; first | go_big_quiet_on | (refine ⟨_, fun _ _ => rfl, ?_⟩; go_big_quiet_on))
  (refine wq_row_as rfl (fun w' hw' => rowKv (below_look hw' h0)) ?_; go_big_quiet_want; go_big_quiet_op; go_big_quiet_on)
  (go_big_quiet_want; go_big_quiet_op; refine ⟨_, fun w' hw' => calls_class hw' (wrapped_kv (known_mul _ rfl) a b md bits s m1 hm1 w'), ?_⟩; go_big_quiet_on)
  (go_big_quiet_want; go_big_quiet_op; first | go_big_quiet_on | (refine ⟨_, fun _ _ => rfl, ?_⟩; go_big_quiet_on))
  (go_big_quiet_want; go_big_quiet_op; first | go_big_quiet_on | (refine ⟨_, fun _ _ => rfl, ?_⟩; go_big_quiet_on))
  (refine wq_row_as rfl (fun w' hw' => rowKv (below_look hw' h0)) ?_; go_big_quiet_want; go_big_quiet_op; go_big_quiet_on)
  (go_big_quiet_want; go_big_quiet_op; refine ⟨_, fun w' hw' => calls_class hw' (wrapped_kv (known_mul _ rfl) a c md bits s m3 hm3 w'), ?_⟩; go_big_quiet_on)
  (refine wq_row_as rfl (fun w' hw' => rowKv (below_look hw' h0)) ?_; go_big_quiet_want; go_big_quiet_op; go_big_quiet_on)
  (go_big_quiet_want; go_big_quiet_op; refine ⟨_, fun w' hw' => calls_class hw' (wrapped_kv (known_add _ rfl) _ _ md bits s O hO2 w'), ?_⟩; go_big_quiet_on)
  (go_big_quiet_want; go_big_quiet_op; first | go_big_quiet_on | (refine ⟨_, fun _ _ => rfl, ?_⟩; go_big_quiet_on))
  intro w6 hb1
  replace h0 := below_look hb1 h0; replace hb := hb.trans (hb1.mono hb.size); clear hb1
  go_upto_region 10 with (fail)
  refine wp_region_belowAll mixed (by kernel_rfl) ?_
  (go_big_quiet_want; go_big_quiet_op; first | go_big_quiet_on | (refine ⟨_, fun _ _ => rfl, ?_⟩; go_big_quiet_on))
  (go_big_quiet_want; go_big_quiet_op; first | go_big_quiet_on | (refine ⟨_, fun _ _ => rfl, ?_⟩; go_big_quiet_on))
  (go_big_quiet_want; go_big_quiet_op; first | go_big_quiet_on | (refine ⟨_, fun _ _ => rfl, ?_⟩; go_big_quiet_on))
  (go_big_quiet_want; go_big_quiet_op; first | go_big_quiet_on | (refine ⟨_, fun _ _ => rfl, ?_⟩; go_big_quiet_on))
  (go_big_quiet_want; go_big_quiet_op; first | go_big_quiet_on | (refine ⟨_, fun _ _ => rfl, ?_⟩; go_big_quiet_on))
  (go_big_quiet_want; go_big_quiet_op; first | go_big_quiet_on | (refine ⟨_, fun _ _ => rfl, ?_⟩; go_big_quiet_on))
  (go_big_quiet_want; go_big_quiet_op; first | go_big_quiet_on | (refine ⟨_, fun _ _ => rfl, ?_⟩; go_big_quiet_on))
  (go_big_quiet_want; go_big_quiet_op; first | go_big_quiet_on | (refine ⟨_, fun _ _ => rfl, ?_⟩; go_big_quiet_on))
  (go_big_quiet_want; go_big_quiet_op; first | go_big_quiet_on | (refine ⟨_, fun _ _ => rfl, ?_⟩; go_big_quiet_on))
  (go_big_quiet_want; go_big_quiet_op; first | go_big_quiet_on | (refine ⟨_, fun _ _ => rfl, ?_⟩; go_big_quiet_on))
  (go_big_quiet_want; go_big_quiet_op; first | go_big_quiet_on | (refine ⟨_, fun _ _ => rfl, ?_⟩; go_big_quiet_on))
  (go_big_quiet_want; go_big_quiet_op; first | go_big_quiet_on | (refine ⟨_, fun _ _ => rfl, ?_⟩; go_big_quiet_on))
  (go_big_quiet_want; go_big_quiet_op; first | go_big_quiet_on | (refine ⟨_, fun _ _ => rfl, ?_⟩; go_big_quiet_on))
  (go_big_quiet_want; go_big_quiet_op; first | go_big_quiet_on | (refine ⟨_, fun _ _ => rfl, ?_⟩; go_big_quiet_on))
  (go_big_quiet_want; go_big_quiet_op; first | go_big_quiet_on | (refine ⟨_, fun _ _ => rfl, ?_⟩; go_big_quiet_on))
  (go_big_quiet_want; go_big_quiet_op; first | go_big_quiet_on | (refine ⟨_, fun _ _ => rfl, ?_⟩; go_big_quiet_on))
  (go_big_quiet_want; go_big_quiet_op; first | go_big_quiet_on | (refine ⟨_, fun _ _ => rfl, ?_⟩; go_big_quiet_on))
  (go_big_quiet_want; go_big_quiet_op; first | go_big_quiet_on | (refine ⟨_, fun _ _ => rfl, ?_⟩; go_big_quiet_on))
  (go_big_quiet_want; go_big_quiet_op; first | go_big_quiet_on | (refine ⟨_, fun _ _ => rfl, ?_⟩; go_big_quiet_on))
  (go_big_quiet_want; go_big_quiet_op; first | go_big_quiet_on | (refine ⟨_, fun _ _ => rfl, ?_⟩; go_big_quiet_on))
  (go_big_quiet_want; go_big_quiet_op; first | go_big_quiet_on | (refine ⟨_, fun _ _ => rfl, ?_⟩; go_big_quiet_on))
  (go_big_quiet_want; go_big_quiet_op; first | go_big_quiet_on | (refine ⟨_, fun _ _ => rfl, ?_⟩; go_big_quiet_on))
  (go_big_quiet_want; go_big_quiet_op; first | go_big_quiet_on | (refine ⟨_, fun _ _ => rfl, ?_⟩; go_big_quiet_on))
  (go_big_quiet_want; go_big_quiet_op; first | go_big_quiet_on | (refine ⟨_, fun _ _ => rfl, ?_⟩; go_big_quiet_on))
  (go_big_quiet_want; go_big_quiet_op; first | go_big_quiet_on | (refine ⟨_, fun _ _ => rfl, ?_⟩; go_big_quiet_on))
  (go_big_quiet_want; go_big_quiet_op; first | go_big_quiet_on | (refine ⟨_, fun _ _ => rfl, ?_⟩; go_big_quiet_on))
  (go_big_quiet_want; go_big_quiet_op; first | go_big_quiet_on | (refine ⟨_, fun _ _ => rfl, ?_⟩; go_big_quiet_on))
  (go_big_quiet_want; go_big_quiet_op; first | go_big_quiet_on | (refine ⟨_, fun _ _ => rfl, ?_⟩; go_big_quiet_on))
  (refine wq_row_as rfl (fun w' hw' => rowKv (below_look hw' h0)) ?_; go_big_quiet_want; go_big_quiet_op; go_big_quiet_on)
  (go_big_quiet_want; go_big_quiet_op; refine ⟨_, fun w' hw' => calls_class hw' (wrapped_kv (known_add _ rfl) a b md bits s t1 hab w'), ?_⟩; go_big_quiet_on)
  (go_big_quiet_want; go_big_quiet_op; first | go_big_quiet_on | (refine ⟨_, fun _ _ => rfl, ?_⟩; go_big_quiet_on))
  (go_big_quiet_want; go_big_quiet_op; first | go_big_quiet_on | (refine ⟨_, fun _ _ => rfl, ?_⟩; go_big_quiet_on))
  (refine wq_row_as rfl (fun w' hw' => rowKv (below_look hw' h0)) ?_; go_big_quiet_want; go_big_quiet_op; go_big_quiet_on)
  (go_big_quiet_want; go_big_quiet_op; refine ⟨_, fun w' hw' => calls_class hw' (wrapped_kv (known_add _ rfl) b a md bits s t1 hba w'), ?_⟩; go_big_quiet_on)
  (go_big_quiet_want; go_big_quiet_op; first | go_big_quiet_on | (refine ⟨_, fun _ _ => rfl, ?_⟩; go_big_quiet_on))
  (go_big_quiet_want; go_big_quiet_op; first | go_big_quiet_on | (refine ⟨_, fun _ _ => rfl, ?_⟩; go_big_quiet_on))
  (go_big_quiet_want; go_big_quiet_op; first | go_big_quiet_on | (refine ⟨_, fun _ _ => rfl, ?_⟩; go_big_quiet_on))
  (go_big_quiet_want; go_big_quiet_op; first | go_big_quiet_on | (refine ⟨_, fun _ _ => rfl, ?_⟩; go_big_quiet_on))
  (go_big_quiet_want; go_big_quiet_op; first | go_big_quiet_on | (refine ⟨_, fun _ _ => rfl, ?_⟩; go_big_quiet_on))
  (refine wq_row_as rfl (fun w' hw' => rowKv (below_look hw' h0)) ?_; go_big_quiet_want; go_big_quiet_op; go_big_quiet_on)
  (go_big_quiet_want; go_big_quiet_op; refine ⟨_, fun w' hw' => calls_class hw' (wrapped_kv (known_mul _ rfl) a b md bits s m1 hm1 w'), ?_⟩; go_big_quiet_on)
  (go_big_quiet_want; go_big_quiet_op; first | go_big_quiet_on | (refine ⟨_, fun _ _ => rfl, ?_⟩; go_big_quiet_on))
  (go_big_quiet_want; go_big_quiet_op; first | go_big_quiet_on | (refine ⟨_, fun _ _ => rfl, ?_⟩; go_big_quiet_on))
  (refine wq_row_as rfl (fun w' hw' => rowKv (below_look hw' h0)) ?_; go_big_quiet_want; go_big_quiet_op; go_big_quiet_on)
  (go_big_quiet_want; go_big_quiet_op; refine ⟨_, fun w' hw' => calls_class hw' (wrapped_kv (known_mul _ rfl) b a md bits s m1 hmba w'), ?_⟩; go_big_quiet_on)
  (go_big_quiet_want; go_big_quiet_op; first | go_big_quiet_on | (refine ⟨_, fun _ _ => rfl, ?_⟩; go_big_quiet_on))
  (go_big_quiet_want; go_big_quiet_op; first | go_big_quiet_on | (refine ⟨_, fun _ _ => rfl, ?_⟩; go_big_quiet_on))
  (go_big_quiet_want; go_big_quiet_op; first | go_big_quiet_on | (refine ⟨_, fun _ _ => rfl, ?_⟩; go_big_quiet_on))
  (go_big_quiet_want; go_big_quiet_op; first | go_big_quiet_on | (refine ⟨_, fun _ _ => rfl, ?_⟩; go_big_quiet_on))
  (go_big_quiet_want; go_big_quiet_op; first | go_big_quiet_on | (refine ⟨_, fun _ _ => rfl, ?_⟩; go_big_quiet_on))
  (refine wq_row_as rfl (fun w' hw' => rowKv (below_look hw' h0)) ?_; go_big_quiet_want; go_big_quiet_op; go_big_quiet_on)
  (go_big_quiet_want; go_big_quiet_op; refine ⟨_, fun w' hw' => calls_class hw' (wrapped_kv (known_add _ rfl) a b md bits s t1 hab w'), ?_⟩; go_big_quiet_on)
  (go_big_quiet_want; go_big_quiet_op; first | go_big_quiet_on | (refine ⟨_, fun _ _ => rfl, ?_⟩; go_big_quiet_on))
  (refine wq_row_as rfl (fun w' hw' => rowKv (below_look hw' h0)) ?_; go_big_quiet_want; go_big_quiet_op; go_big_quiet_on)
  (go_big_quiet_want; go_big_quiet_op; refine ⟨_, fun w' hw' => calls_class hw' (wrapped_kv2 (known_sub _ rfl) _ b md bits s a hback w'), ?_⟩; go_big_quiet_on)
  (go_big_quiet_want; go_big_quiet_op; first | go_big_quiet_on | (refine ⟨_, fun _ _ => rfl, ?_⟩; go_big_quiet_on))
  (go_big_quiet_want; go_big_quiet_op; first | go_big_quiet_on | (refine ⟨_, fun _ _ => rfl, ?_⟩; go_big_quiet_on))
  (go_big_quiet_want; go_big_quiet_op; first | go_big_quiet_on | (refine ⟨_, fun _ _ => rfl, ?_⟩; go_big_quiet_on))
  (go_big_quiet_want; go_big_quiet_op; first | go_big_quiet_on | (refine ⟨_, fun _ _ => rfl, ?_⟩; go_big_quiet_on))
  (go_big_quiet_want; go_big_quiet_op; refine ⟨_, fun w' hw' => calls_class hw' (awake_any w'), ?_⟩; go_big_quiet_on)
  (go_big_quiet_want; go_big_quiet_op; first | go_big_quiet_on | (refine ⟨_, fun _ _ => rfl, ?_⟩; go_big_quiet_on))
  (go_big_quiet_want; go_big_quiet_op; first | go_big_quiet_on | (refine ⟨_, fun _ _ => rfl, ?_⟩; go_big_quiet_on))
  intro w6 hb1
  replace hb := hb.trans (hb1.mono hb.size)
  go_wp2_with fail
  go_ret
  exact ⟨rfl, hb⟩
end Go.Proofs.Ytclainfdeghgnaa
