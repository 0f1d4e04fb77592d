/- New stores, counters, a name's item, by the program. -/
import Derived.Test.YtbhdgeoljlhmcaaS31
import Derived.Outline
namespace Go.Proofs.Ytbhdgeoljlhmcaa
open Go.RowKit Go.Proofs.Ytbhdgeoljlhmcaa.Nm Go.Proofs.Ytbhdgeoljlhmcaa.St
set_option linter.unusedSimpArgs false
def newA : Sto := ⟨List.replicate 8 none, [], 0, 0⟩
theorem run_build83 : Try.prog.built 83 [] = some (scells (List.replicate 8 none) 0 0) := by kernel_rfl
theorem run_box83 (w : World) : (Instr.box 83 (.agg (scells (List.replicate 8 none) 0 0))).run Try.prog w = .ok (.pointer (some ⟨w.heap.size, 0, none⟩)) (w.alloc (.cells (scells (List.replicate 8 none) 0 0) 83)) := by kernel_rfl
theorem ex_box83 {ev : Operand → Value} {o : Oper} {w : World} (x : Operand) (ho : o.op = .box 83 x) (hx : ev x = .agg (scells (List.replicate 8 none) 0 0)) :
    (execOp ev o).run Try.prog w = .ok (.value (.pointer (some ⟨w.heap.size, 0, none⟩))) (w.alloc (.cells (scells (List.replicate 8 none) 0 0) 83)) := by
  unfold execOp
  simp only [ho, hx, run_box83 w, Sem.run_bind, Result.andThen_ok]
  rfl
theorem storeAt_new {w : World} {s : Nat} (h : w.heap[s]? = some (.cells (scells (List.replicate 8 none) 0 0) 83 (0, 0))) : StoreAt w s newA [] :=
  ⟨h, rfl, fun k r b hr => by simp at hr, fun j k r r' hr => by simp at hr, fun j k r r' q hr => by simp at hr, fun j k r r' q hr => by simp at hr⟩
set_option maxRecDepth 100000 in
theorem New_any (w : World) : Calls Try.prog 18 #[] w fun e w' => e = .returned (.pointer (some ⟨w.heap.size, 0, none⟩)) ∧ StoreAt w' w.heap.size newA [] ∧ Below w.heap.size w w' := by
  go_enter Try.func18, Try.ntmps18
  go_upto_region 1 with (fail)
  apply wp_region_lit
  refine wl_val rfl (ex_build 83 _ rfl (L := []) rfl run_build83) ?_
  simp only [put_lit, List.set_cons_zero, List.set_cons_succ]
  refine wl_w rfl (ex_box83 _ rfl rfl) ?_
  simp only [put_lit, List.set_cons_zero, List.set_cons_succ]
  have hfin : (w.alloc (.cells (scells (List.replicate 8 none) 0 0) 83)).heap[w.heap.size]? = _ := ha_new rfl
  have hb := (Below.refl w.heap.size w).alloc (Nat.le_refl _) (.cells (scells (List.replicate 8 none) 0 0) 83)
  generalize w.alloc (.cells (scells (List.replicate 8 none) 0 0) 83) = w2 at *
  have HF := Lib.hid hfin
  clear hfin
  go_wp2_with fail
  go_ret
  exact ⟨rfl, storeAt_new HF.out, hb⟩
theorem Buffers_any (s : Nat) (A : Sto) (rs : List Row) (hA : Good A) (w : World) (h : StoreAt w s A rs) : Calls Try.prog 23 #[.pointer (some ⟨s, 0, none⟩)] w fun e w' => e = .returned (.int .i64 A.made) ∧ Below w.heap.size w w' := by
  have c8 := (sc_made h.main (by rw [nsOf_length]; exact hA.eight)).1
  clear h hA
  go_enter Try.func23, Try.ntmps23
  go_wp2_with fail
  go_ret
  exact ⟨rfl, Below.refl _ _⟩
theorem Shared_any (s : Nat) (A : Sto) (rs : List Row) (hA : Good A) (w : World) (h : StoreAt w s A rs) : Calls Try.prog 24 #[.pointer (some ⟨s, 0, none⟩)] w fun e w' => e = .returned (.int .i64 A.shared) ∧ Below w.heap.size w w' := by
  have c9 := (sc_made h.main (by rw [nsOf_length]; exact hA.eight)).2
  clear h hA
  go_enter Try.func24, Try.ntmps24
  go_wp2_with fail
  go_ret
  exact ⟨rfl, Below.refl _ _⟩
set_option maxRecDepth 100000 in
theorem of_no (s : Nat) (n : Int) (hn : isNm n = false) (w : World) : Calls Try.prog 61 #[.pointer (some ⟨s, 0, none⟩), .int .i64 n] w fun e w' => e = .returned (.tuple #[.pointer none, .int .i64 4]) ∧ Below w.heap.size w w' := by
  have HN := Lib.hid hn
  clear hn
  go_enter Try.func61, Try.ntmps61
  go_upto_region 1 with (fail)
  apply wp_region_lit
  refine wl_k rfl (fun K hK => ?_); go_simp; refine hK _ ?_; clear hK K
  refine wl_k rfl (fun K hK => ?_); go_simp; refine hK _ ?_; clear hK K
  refine wl_k rfl (fun K hK => ?_); go_simp; refine hK _ ?_; clear hK K
  refine wl_k rfl (fun K hK => ?_); go_simp; refine hK _ ?_; clear hK K
  refine wl_ck rfl (fun K hK => ?_); go_simp; refine ⟨_, _, ⟨rfl, rfl⟩, hK _ _ ⟨_, isName_any n _, ?_⟩⟩; clear hK K; rintro e w1 ⟨rfl, hb1⟩; refine ⟨_, rfl, ?_⟩; simp only [put_lit, List.set_cons_zero, List.set_cons_succ]
  rw [HN.out]
  go_wp2_with fail
  go_ret2
  exact ⟨rfl, hb1⟩
set_option maxRecDepth 100000 in
theorem of_yes (s : Nat) (A : Sto) (rs : List Row) (hA : Good A) (f : Nat) (hf : (f : Int) < 8) (w : World) (h : StoreAt w s A rs) : Calls Try.prog 61 #[.pointer (some ⟨s, 0, none⟩), .int .i64 (f : Int)] w fun e w' => e = .returned (.tuple #[bp ((A.id (f : Int)).map fun k => gAt rs k), .int .i64 0]) ∧ Below w.heap.size w w' := by
  have hnm := nsOf_get (rs := rs) (id_names hA (show (0 : Int) ≤ f by omega) hf)
  rw [Int.toNat_natCast] at hnm
  have c6 := sc_name h.main hnm
  have HN : Hid (isNm (f : Int) = true) := Lib.hid (by unfold isNm; simp; omega)
  clear hnm h hA
  go_enter Try.func61, Try.ntmps61
  go_upto_region 1 with (fail)
  apply wp_region_lit
  refine wl_k rfl (fun K hK => ?_); go_simp; refine hK _ ?_; clear hK K
  refine wl_k rfl (fun K hK => ?_); go_simp; refine hK _ ?_; clear hK K
  refine wl_k rfl (fun K hK => ?_); go_simp; refine hK _ ?_; clear hK K
  refine wl_k rfl (fun K hK => ?_); go_simp; refine hK _ ?_; clear hK K
  refine wl_ck rfl (fun K hK => ?_); go_simp; refine ⟨_, _, ⟨rfl, rfl⟩, hK _ _ ⟨_, isName_any (f : Int) _, ?_⟩⟩; clear hK K; rintro e w1 ⟨rfl, hb1⟩; refine ⟨_, rfl, ?_⟩; simp only [put_lit, List.set_cons_zero, List.set_cons_succ]
  rw [HN.out]
  replace c6 := below_cell hb1 c6
  go_wp2_with fail
  go_ret2
  exact ⟨rfl, hb1⟩
/-- an item as cells -/
def icells (kd : Int) (lv : Value) (seed : Int) (pv : Value) : Array Value := #[.int .i64 kd, lv, .int .i64 seed, pv]
theorem u32 : Try.prog.underlying 32 = some (.struct (Try.prog.fieldsOf 32)) := by kernel_rfl
theorem info32 : (Try.prog.info? 32).map (·.size) = some 4 := by kernel_rfl
theorem ex_alloc32 {o : Oper} (ho : o.op = .alloc 32) (ev : Operand → Value) (w : World) : (execOp ev o).run Try.prog w = .ok (.value (.pointer (some ⟨w.heap.size, 0, none⟩))) (w.alloc (.cells (icells 0 (.slice none 0 0) 0 (.slice none 0 0)) 32)) := by
  unfold execOp
  simp only [ho]
  kernel_rfl
theorem rowIt {w : World} {g : Nat} {kd seed : Int} {lv pv : Value} (h : w.heap[g]? = some (.cells (icells kd lv seed pv) 32 (0, 0))) : RowAt w 32 ⟨g, 0, none⟩ (icells kd lv seed pv) := row_mid h (D := icells kd lv seed pv) (n := 4) rfl u32 rfl rfl info32
theorem built32_0 : Try.prog.built 32 [] = some (icells 0 (.slice none 0 0) 0 (.slice none 0 0)) := by kernel_rfl
theorem built32 (kd seed : Int) (A : Option Addr) (n c : Nat) (A2 : Option Addr) (n2 c2 : Nat) : Try.prog.built 32 [(0, .int .i64 kd), (1, .slice A n c), (2, .int .i64 seed), (3, .slice A2 n2 c2)] = some (icells kd (.slice A n c) seed (.slice A2 n2 c2)) := by kernel_rfl
theorem icells_one (kd seed : Int) (A : Option Addr) (n c : Nat) (A2 : Option Addr) (n2 c2 : Nat) : (icells kd (.slice A n c) seed (.slice A2 n2 c2)).all (·.oneCell') = true := by simp [icells, Value.oneCell']
theorem res_item {fn : Func} {p q : Tmp} (h : fn.results = #[.cell p 32, .tmp q]) (tmps : Array Value) (w : World) (g : Nat) (hp : tmps.getD p undef = .pointer (some ⟨g, 0, none⟩)) {kd seed : Int} {lv pv : Value}
    (hg : w.heap[g]? = some (.cells (icells kd lv seed pv) 32 (0, 0))) : (results fn tmps).run Try.prog w = .ok (.tuple #[.agg (icells kd lv seed pv), tmps.getD q undef]) w := by
  have hp' : tmps[p]?.getD undef = .pointer (some ⟨g, 0, none⟩) := by simpa using hp
  have l1 : (loadVar 32 ⟨g, 0, none⟩).run Try.prog w = .ok (.agg (icells kd lv seed pv)) w := by have := rowIt hg; unfold RowAt at this; exact this
  unfold results
  simp [h, hp', asAddr, l1, Result.andThen]
/-- an item in memory of the call's own -/
def ItemAt (w : World) (B : Nat) (v : Value) (b : Buf) : Prop := ∃ lv pv, v = .agg (icells b.kd lv b.seed pv) ∧ w.ownsRow B 9 1 lv b.l.length (strs b.l) ∧ w.ownsRow B 91 2 pv (pairsT b.t).length (prow (pairsT b.t))
theorem ItemAt.below {w w' : World} {B : Nat} {v : Value} {b : Buf} (h : ItemAt w B v b) (hb : Below w.heap.size w w') : ItemAt w' B v b := by
  obtain ⟨lv, pv, h1, h2, h3⟩ := h
  exact ⟨lv, pv, h1, own_below h2 hb, own_below h3 hb⟩
theorem ItemAt.weak {w : World} {B B' : Nat} {v : Value} {b : Buf} (h : ItemAt w B v b) (hb : B' ≤ B) : ItemAt w B' v b := by
  obtain ⟨lv, pv, h1, h2, h3⟩ := h
  exact ⟨lv, pv, h1, own_weak h2 hb, own_weak h3 hb⟩
theorem itemAt_no (w : World) (B : Nat) : ItemAt w B (.agg (icells 0 (.slice none 0 0) 0 (.slice none 0 0))) noBuf :=
  ⟨.slice none 0 0, .slice none 0 0, rfl, ⟨by simp [strs, noBuf], Or.inl ⟨rfl, rfl⟩⟩, ⟨by simp [prow, pairsT, noBuf], Or.inl ⟨rfl, rfl⟩⟩⟩
set_option maxRecDepth 100000 in
theorem Item_no (s : Nat) (n : Int) (hn : isNm n = false) (w : World) : Calls Try.prog 22 #[.pointer (some ⟨s, 0, none⟩), .int .i64 n] w fun e w' => e = .returned (.tuple #[.agg (icells 0 (.slice none 0 0) 0 (.slice none 0 0)), .int .i64 4]) ∧ Below w.heap.size w w' := by
  have HN := Lib.hid hn
  clear hn
  go_enter Try.func22, Try.ntmps22
  go_upto_region 1 with (fail)
  have hb0 := (Below.refl w.heap.size w).alloc (Nat.le_refl _) (.cells (icells 0 (.slice none 0 0) 0 (.slice none 0 0)) 32)
  refine wp_world (fun W => Below w.heap.size w W ∧ W.heap[w.heap.size]? = some (.cells (icells 0 (.slice none 0 0) 0 (.slice none 0 0)) 32 (0, 0))) ⟨hb0, ha_new rfl⟩ ?_
  clear hb0
  rintro W ⟨hb, h1⟩
  apply wp_region_lit
  refine wl_k rfl (fun K hK => ?_); go_simp; refine hK _ ?_; clear hK K
  refine wl_k rfl (fun K hK => ?_); go_simp; refine hK _ ?_; clear hK K
  refine wl_ck rfl (fun K hK => ?_); go_simp; refine ⟨_, _, ⟨rfl, rfl⟩, hK _ _ ⟨_, of_no s n HN.out _, ?_⟩⟩; clear hK K; rintro e w1 ⟨rfl, hb1⟩; refine ⟨_, rfl, ?_⟩; simp only [put_lit, List.set_cons_zero, List.set_cons_succ]
  replace h1 := below_look hb1 h1
  replace hb := hb.trans (hb1.mono hb.size)
  clear hb1
  go_upto_region 3 with (fail)
  apply wp_region_lit
  refine wl_val rfl (ex_build 32 _ rfl (L := []) rfl built32_0) ?_
  simp only [put_lit, List.set_cons_zero, List.set_cons_succ]
  refine wl_k rfl (fun K hK => ?_); go_simp; refine hK _ ?_; clear hK K
  refine wl_putG w.heap.size (icells 0 (.slice none 0 0) 0 (.slice none 0 0)) rfl rfl 32 _ h1 info32 rfl (icells_one _ _ _ _ _ _ _ _) ?_
  rw [put_noneA]
  replace hb := below_setRow hb (g := w.heap.size) (Nat.le_refl _) (icells 0 (.slice none 0 0) 0 (.slice none 0 0))
  replace h1 := hr_new (cs := icells 0 (.slice none 0 0) 0 (.slice none 0 0)) h1
  generalize w1.setRow w.heap.size (icells 0 (.slice none 0 0) 0 (.slice none 0 0)) = w2 at *
  have RI := rowIt h1
  go_wp2_with fail
  exact bodyPost_ret (res_item rfl _ _ w.heap.size rfl h1) rfl ⟨rfl, hb⟩
set_option maxHeartbeats 2000000 in
set_option maxRecDepth 100000 in
theorem Item_yes (s : Nat) (A : Sto) (rs : List Row) (hA : Good A) (f : Nat) (hf : (f : Int) < 8) (w : World) (h : StoreAt w s A rs) : Calls Try.prog 22 #[.pointer (some ⟨s, 0, none⟩), .int .i64 (f : Int)] w fun e w' => ∃ v, e = .returned (.tuple #[v, .int .i64 0]) ∧ ItemAt w' w.heap.size v (A.buf (f : Int)) ∧ Below w.heap.size w w' := by
  have HS := Lib.hid h
  have HA := Lib.hid hA
  clear h hA
  go_enter Try.func22, Try.ntmps22
  go_upto_region 1 with (fail)
  have hb0 := (Below.refl w.heap.size w).alloc (Nat.le_refl _) (.cells (icells 0 (.slice none 0 0) 0 (.slice none 0 0)) 32)
  refine wp_world (fun W => Below w.heap.size w W ∧ W.heap[w.heap.size]? = some (.cells (icells 0 (.slice none 0 0) 0 (.slice none 0 0)) 32 (0, 0))) ⟨hb0, ha_new rfl⟩ ?_
  clear hb0
  rintro W ⟨hb, h1⟩
  have HFT : Hid (∀ q, Foot s rs q → q < w.heap.size) := Lib.hid (fun q hq => HS.out.lt hq)
  replace HS := Lib.hid (HS.out.below hb)
  apply wp_region_lit
  refine wl_k rfl (fun K hK => ?_); go_simp; refine hK _ ?_; clear hK K
  refine wl_k rfl (fun K hK => ?_); go_simp; refine hK _ ?_; clear hK K
  refine wl_ck rfl (fun K hK => ?_); go_simp; refine ⟨_, _, ⟨rfl, rfl⟩, hK _ _ ⟨_, of_yes s A rs HA.out f hf _ HS.out, ?_⟩⟩; clear hK K; rintro e w1 ⟨rfl, hb1⟩; refine ⟨_, rfl, ?_⟩; simp only [put_lit, List.set_cons_zero, List.set_cons_succ]
  replace h1 := below_look hb1 h1
  replace HS := Lib.hid (HS.out.below hb1)
  replace hb := hb.trans (hb1.mono hb.size)
  clear hb1
  cases hk : A.id (f : Int) with
  | none =>
    have HB : Hid (A.buf (f : Int) = noBuf) := Lib.hid (buf_none hk)
    simp only [Option.map_none]
    rw [show bp none = .pointer none from rfl]
    clear hk
    go_upto_region 3 with (fail)
    apply wp_region_lit
    refine wl_val rfl (ex_build 32 _ rfl (L := []) rfl built32_0) ?_
    simp only [put_lit, List.set_cons_zero, List.set_cons_succ]
    refine wl_k rfl (fun K hK => ?_); go_simp; refine hK _ ?_; clear hK K
    refine wl_putG w.heap.size (icells 0 (.slice none 0 0) 0 (.slice none 0 0)) rfl rfl 32 _ h1 info32 rfl (icells_one _ _ _ _ _ _ _ _) ?_
    rw [put_noneA]
    replace hb := below_setRow hb (g := w.heap.size) (Nat.le_refl _) (icells 0 (.slice none 0 0) 0 (.slice none 0 0))
    replace h1 := hr_new (cs := icells 0 (.slice none 0 0) 0 (.slice none 0 0)) h1
    generalize w1.setRow w.heap.size (icells 0 (.slice none 0 0) 0 (.slice none 0 0)) = w2 at *
    have RI := rowIt h1
    go_wp2_with fail
    exact bodyPost_ret (res_item rfl _ _ w.heap.size rfl h1) rfl ⟨_, rfl, by rw [HB.out]; exact itemAt_no _ _, hb⟩
  | some k =>
    obtain ⟨r, hr, hbk, hB, hG, hns⟩ := HS.out.row HA.out hk
    simp only [Option.map_some, gAt_eq hr]
    rw [show bp (some r.g) = .pointer (some ⟨r.g, 0, none⟩) from rfl]
    have hgw := HFT.out _ (foot_row hr)
    have hlen := hG.len
    obtain ⟨hb0, hl, ht, hnil⟩ := hB
    obtain ⟨A1, cp1, e1, hl1⟩ := own_str hl rfl
    obtain ⟨A2, cp2, e2, ht1⟩ := own_vt ht hnil
    rw [e1, e2] at hb0
    have g0 := (bc_cell hb0).1
    have g1 := (bc_cell hb0).2.1
    have g2 := (bc_cell hb0).2.2.1
    have hgr : r.g ≠ w.heap.size := by omega
    have HL := Lib.hid (hl1.below (Below.refl _ w1).drew)
    have HT := Lib.hid (ht1.below (Below.refl _ w1).drew)
    have HB0 : Hid (w1.drew.heap[r.g]? = _) := Lib.hid hb0
    have hop : w.heap.size < w1.heap.size := heap_lt h1
    replace h1 : w1.drew.heap[w.heap.size]? = _ := h1
    clear hk hr hbk hG hns hb0 hl ht hnil e1 e2 hl1 ht1
    go_upto_region 4 with (fail)
    refine wp_region_held_drew (S := Kept [w.heap.size] w1) mixed (Kept.drew [w.heap.size] w1) (fun hS => ?_)
    refine ha_k (i := 0) rfl (by kernel_rfl) (by kernel_rfl) (by kernel_rfl) (fun _ _ _ _ h => h) hS rfl (fun K hK => ?_); go_simp; refine hK _ ?_; clear hK K; try simp only [put_lit, List.set_cons_zero, List.set_cons_succ]
    refine ha_k (i := 1) rfl (by kernel_rfl) (by kernel_rfl) (by kernel_rfl) (fun _ _ _ _ h => h) hS rfl (fun K hK => ?_); go_simp; refine hK _ ?_; clear hK K; try simp only [put_lit, List.set_cons_zero, List.set_cons_succ]
    refine ha_k (i := 2) rfl (by kernel_rfl) (by kernel_rfl) (by kernel_rfl) (fun _ _ _ _ h => h) hS rfl (fun K hK => ?_); go_simp; refine hK _ ?_; clear hK K; try simp only [put_lit, List.set_cons_zero, List.set_cons_succ]
    refine ha_val (i := 3) rfl (by kernel_rfl) (by kernel_rfl) (by kernel_rfl) (fun _ _ _ h => h) hS rfl (fun w' hw' => ex_one rfl (one3 (hw'.cell g0 (by simp <;> omega)))) ?_; try simp only [put_lit, List.set_cons_zero, List.set_cons_succ]
    refine ha_k (i := 4) rfl (by kernel_rfl) (by kernel_rfl) (by kernel_rfl) (fun _ _ _ _ h => h) hS rfl (fun K hK => ?_); go_simp; refine hK _ ?_; clear hK K; try simp only [put_lit, List.set_cons_zero, List.set_cons_succ]
    refine ha_k (i := 5) rfl (by kernel_rfl) (by kernel_rfl) (by kernel_rfl) (fun _ _ _ _ h => h) hS rfl (fun K hK => ?_); go_simp; refine hK _ ?_; clear hK K; try simp only [put_lit, List.set_cons_zero, List.set_cons_succ]
    refine ha_k (i := 6) rfl (by kernel_rfl) (by kernel_rfl) (by kernel_rfl) (fun _ _ _ _ h => h) hS rfl (fun K hK => ?_); go_simp; refine hK _ ?_; clear hK K; try simp only [put_lit, List.set_cons_zero, List.set_cons_succ]
    refine ha_val (i := 7) rfl (by kernel_rfl) (by kernel_rfl) (by kernel_rfl) (fun _ _ _ h => h) hS rfl (fun w' hw' => ex_one rfl (one29 (hw'.cell g1 (by simp <;> omega)))) ?_; try simp only [put_lit, List.set_cons_zero, List.set_cons_succ]
    refine ha_k (i := 9) rfl (by kernel_rfl) (by kernel_rfl) (by kernel_rfl) (fun _ _ _ _ h => h) hS rfl (fun K hK => ?_); go_simp; refine hK _ ?_; clear hK K; try simp only [put_lit, List.set_cons_zero, List.set_cons_succ]
    refine ha_k (i := 10) rfl (by kernel_rfl) (by kernel_rfl) (by kernel_rfl) (fun _ _ _ _ h => h) hS rfl (fun K hK => ?_); go_simp; refine hK _ ?_; clear hK K; try simp only [put_lit, List.set_cons_zero, List.set_cons_succ]
    refine ha_k (i := 11) rfl (by kernel_rfl) (by kernel_rfl) (by kernel_rfl) (fun _ _ _ _ h => h) hS rfl (fun K hK => ?_); go_simp; refine hK _ ?_; clear hK K; try simp only [put_lit, List.set_cons_zero, List.set_cons_succ]
    refine ha_val (i := 12) rfl (by kernel_rfl) (by kernel_rfl) (by kernel_rfl) (fun _ _ _ h => h) hS rfl (fun w' hw' => ex_one rfl (one3 (hw'.cell g2 (by simp <;> omega)))) ?_; try simp only [put_lit, List.set_cons_zero, List.set_cons_succ]
    refine ha_k (i := 13) rfl (by kernel_rfl) (by kernel_rfl) (by kernel_rfl) (fun _ _ _ _ h => h) hS rfl (fun K hK => ?_); go_simp; refine hK _ ?_; clear hK K; try simp only [put_lit, List.set_cons_zero, List.set_cons_succ]
    refine ha_call (i := 8) (by kernel_rfl) rfl rfl (fun K hK => ?_); go_simp; refine ⟨_, _, ⟨rfl, rfl⟩, hK _ _ ⟨_, CloneS_any A1 _ cp1 (A.buf (f : Int)).l (by omega) _ HL.out, ?_⟩⟩; clear hK K; rintro e w3 ⟨lv, rfl, ho1, hb1⟩; refine ⟨_, rfl, hS.below hb1, ?_⟩; replace hS := hS.below hb1; have hz1 := hb1.size; replace h1 := below_look hb1 h1; replace HB0 := Lib.hid (below_look hb1 HB0.out); replace HT := Lib.hid (HT.out.below hb1); have HO1 := Lib.hid ho1; clear ho1 hb1; try simp only [put_lit, List.set_cons_zero, List.set_cons_succ]
    refine ha_call (i := 14) (by kernel_rfl) rfl rfl (fun K hK => ?_); go_simp; refine ⟨_, _, ⟨rfl, rfl⟩, hK _ _ ⟨_, pairs_any r.g A2 cp2 (A.buf (f : Int)).t _ _ _ _ (by omega) _ HB0.out HT.out, ?_⟩⟩; clear hK K; rintro e w4 ⟨pv, rfl, ho2, hb1⟩; refine ⟨_, rfl, hS.below hb1, ?_⟩; replace hS := hS.below hb1; have hz2 := hb1.size; replace h1 := below_look hb1 h1; replace HO1 := Lib.hid (own_below HO1.out hb1); have HO2 := Lib.hid ho2; clear ho2 hb1; try simp only [put_lit, List.set_cons_zero, List.set_cons_succ]
    obtain ⟨B1, d1, rfl⟩ := own_shape HO1.out
    obtain ⟨B2, d2, rfl⟩ := own_shape HO2.out
    refine ha_val (i := 15) rfl (by kernel_rfl) (by kernel_rfl) (by kernel_rfl) (fun _ _ _ h => h) hS rfl (fun w' _ => ex_build 32 _ rfl (L := [(0, .int .i64 _), (1, .slice B1 _ d1), (2, .int .i64 _), (3, .slice B2 _ d2)]) rfl (built32 _ _ B1 _ d1 B2 _ d2)) ?_; try simp only [put_lit, List.set_cons_zero, List.set_cons_succ]
    refine ha_store (i := 16) (by kernel_rfl) rfl rfl 32 _ _ rfl w.heap.size (icells (A.buf (f : Int)).kd (.slice B1 (A.buf (f : Int)).l.length d1) (A.buf (f : Int)).seed (.slice B2 (pairsT (A.buf (f : Int)).t).length d2)) rfl rfl 32 _ h1 info32 rfl (icells_one _ _ _ _ _ _ _ _) (hS.setRow (by simp) _) (fun hS => ?_); try simp only [put_lit, List.set_cons_zero, List.set_cons_succ]
    refine ha_k (i := 17) rfl (by kernel_rfl) (by kernel_rfl) (by kernel_rfl) (fun _ _ _ _ h => h) hS rfl (fun K hK => ?_); go_simp; refine hK _ ?_; clear hK K; try simp only [put_lit, List.set_cons_zero, List.set_cons_succ]
    refine wpAnyH_done (by kernel_rfl) ?_ _
    have hz0 := hb.size
    have hzd : w1.drew.heap.size = w1.heap.size := rfl
    have hz8 := heap_lt HB0.out
    have h2 := hr_new (cs := icells (A.buf (f : Int)).kd (.slice B1 (A.buf (f : Int)).l.length d1) (A.buf (f : Int)).seed (.slice B2 (pairsT (A.buf (f : Int)).t).length d2)) h1
    replace hb := hb.trans (hS.toBelow (B := w.heap.size) hz0 (by simp))
    have HO3 := Lib.hid (own_setRow HO1.out (p := w.heap.size) (fun e => by have := (own_block HO1.out e).1; omega) (icells (A.buf (f : Int)).kd (.slice B1 (A.buf (f : Int)).l.length d1) (A.buf (f : Int)).seed (.slice B2 (pairsT (A.buf (f : Int)).t).length d2)))
    have HO4 := Lib.hid (own_setRow HO2.out (p := w.heap.size) (fun e => by have := (own_block HO2.out e).1; omega) (icells (A.buf (f : Int)).kd (.slice B1 (A.buf (f : Int)).l.length d1) (A.buf (f : Int)).seed (.slice B2 (pairsT (A.buf (f : Int)).t).length d2)))
    clear h1 hS g0 g1 g2 HO1 HO2
    generalize w4.setRow w.heap.size (icells (A.buf (f : Int)).kd (.slice B1 (A.buf (f : Int)).l.length d1) (A.buf (f : Int)).seed (.slice B2 (pairsT (A.buf (f : Int)).t).length d2)) = w5 at *
    have RI := rowIt h2
    go_wp2_with fail
    exact bodyPost_ret (res_item rfl _ _ w.heap.size rfl h2) rfl ⟨_, rfl, ⟨_, _, rfl, own_weak HO3.out (by omega), own_weak HO4.out (by omega)⟩, hb⟩
end Go.Proofs.Ytbhdgeoljlhmcaa
